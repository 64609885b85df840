/- count: laws of ways (plain). -/
import Derived.Test.YtpibdbjlilpfiaaCntO
import Derived.Test.YtpibdbjlilpfiaaSpec
namespace Go.Proofs.Ytpibdbjlilpfiaa
set_option linter.all false
open Go

theorem sv_void {p : List UInt8} {v : Vl} : SV .void p v ↔ p = [] ∧ v = .mk 1 0 .empty 0 [] := by
  have h := fnd_full .void trivial p
  rw [T.fnd] at h
  constructor
  · intro hv
    by_cases e : p = []
    · rw [if_pos e] at h
      exact ⟨e, List.mem_singleton.1 (h.all (by decide) v hv)⟩
    · rw [if_neg e] at h
      exact absurd (h.all (by decide) v hv) (by simp)
  · rintro ⟨e, rfl⟩
    rw [if_pos e] at h
    exact h.mem _ (by simp)
section
variable {t r : T} {w : List UInt8}
theorem ways_or (hok : t.ok txtOk) (hok' : r.ok txtOk) : ((T.two 5 t r).fnd w).length = min 2 ((t.fnd w).length + (r.fnd w).length) := by
  refine (fnd_cn (t := .two 5 t r) ⟨.inr rfl, hok, hok'⟩ w).uniq ((Cn.or ((fnd_cn hok w).map (f := fun x => Vl.mk 5 0 .empty 0 [x]) fun x y _ _ e => ?_) ((fnd_cn hok' w).map (f := fun x => Vl.mk 5 0 .empty 1 [x]) fun x y _ _ e => ?_) ?_).congr fun v => sv_or)
  · injection e with _ _ _ _ e; injection e
  · injection e with _ _ _ _ e; injection e
  · rintro v ⟨x, _, rfl⟩ ⟨y, _, e⟩
    injection e with _ _ _ e
    exact absurd e (by decide)
theorem ways_seqR (hok : t.ok txtOk) : ((T.two 4 t .void).fnd w).length = (t.fnd w).length := by
  refine (fnd_cn (t := .two 4 t .void) ⟨.inl rfl, hok, trivial⟩ w).uniq (((fnd_cn hok w).map (f := fun x => Vl.mk 4 0 .empty 0 [x, .mk 1 0 .empty 0 []]) fun x y _ _ e => ?_).congr fun v => ?_)
  · injection e with _ _ _ _ e; injection e
  · rw [← sv_seq]
    constructor
    · rintro ⟨x, hx, rfl⟩
      exact ⟨w.length, x, _, Nat.zero_le _, Nat.le_refl _, by rw [List.take_length]; exact hx, sv_void.2 ⟨by rw [List.drop_length], rfl⟩, rfl⟩
    · rintro ⟨m, x, y, _, hm, hx, hy, rfl⟩
      obtain ⟨h1, rfl⟩ := sv_void.1 hy
      have h2 := congrArg List.length h1
      rw [List.length_drop, List.length_nil] at h2
      rw [show m = w.length by omega, List.take_length] at hx
      exact ⟨x, hx, rfl⟩
theorem ways_seqL (hok : t.ok txtOk) : ((T.two 4 .void t).fnd w).length = (t.fnd w).length := by
  refine (fnd_cn (t := .two 4 .void t) ⟨.inl rfl, trivial, hok⟩ w).uniq (((fnd_cn hok w).map (f := fun x => Vl.mk 4 0 .empty 0 [.mk 1 0 .empty 0 [], x]) fun x y _ _ e => ?_).congr fun v => ?_)
  · injection e with _ _ _ _ e; injection e with _ e; injection e
  · rw [← sv_seq]
    constructor
    · rintro ⟨x, hx, rfl⟩
      exact ⟨0, _, x, Nat.zero_le _, Nat.zero_le _, sv_void.2 ⟨rfl, rfl⟩, hx, rfl⟩
    · rintro ⟨m, x, y, _, hm, hx, hy, rfl⟩
      obtain ⟨h1, rfl⟩ := sv_void.1 hx
      have h2 := congrArg List.length h1
      rw [List.length_take, List.length_nil] at h2
      rw [show m = 0 by omega, List.drop_zero] at hy
      exact ⟨y, hy, rfl⟩
theorem ways_frame {b : UInt8} : ((T.one 8 0 0 t).fnd (b :: w)).length = if b.toNat = w.length then (t.fnd w).length else 0 := by
  rw [T.fnd, if_neg (by decide), if_pos rfl, frameV]
  have h1 : (b :: w).take 1 = [b] := rfl
  have h2 : told [b] = b.toNat := by simp [told]
  have h3 : (b :: w).drop 1 = w := rfl
  rw [h1, h2, h3, List.length_cons, Nat.add_sub_cancel]
  by_cases e : b.toNat = w.length
  · rw [if_neg (by omega), if_pos e, wrapV_len]
  · rw [if_pos (.inr e), if_neg e]
    rfl
theorem ways_frame0 : ((T.one 8 0 0 t).fnd []).length = 0 := by
  rw [T.fnd, if_neg (by decide), if_pos rfl, frameV, if_pos (.inl (by decide))]
  rfl
/-- So many, of a row's places below one. -/
def rowN (t r : T) (w : List UInt8) : Nat → Nat
  | 0 => 0
  | i + 1 => min 2 (rowN t r w i + (t.fnd (w.take i)).length * (r.fnd (w.drop i)).length)
theorem rowN_le : ∀ {i : Nat}, rowN t r w i ≤ 2
  | 0 => by simp [rowN]
  | i + 1 => by simp only [rowN]; omega
theorem rowN_cn (hok : t.ok txtOk) (hok' : r.ok txtOk) : ∀ i, i ≤ w.length + 1 → Cn (fun v : Vl => ∃ j x y, j < i ∧ SV t (w.take j) x ∧ SV r (w.drop j) y ∧ v = .mk 4 0 .empty 0 [x, y]) (rowN t r w i)
  | 0, _ => .empty fun v ⟨j, _, _, h, _⟩ => by omega
  | i + 1, hi => by
    have ih := rowN_cn hok hok' i (by omega)
    rw [rowN, ← min2]
    refine (ih.or (Cn.prod (J := fun x y => Vl.mk 4 0 .empty 0 [x, y]) (fun x x' y y' _ _ _ _ e => ?_) (fnd_cn hok (w.take i)) (fnd_cn hok' (w.drop i))) ?_).congr fun v => ?_
    · injection e with _ _ _ _ e
      injection e with e1 e2
      injection e2 with e2
      exact ⟨e1, e2⟩
    · rintro v ⟨j, x, y, hj, hx, hy, rfl⟩ ⟨x', y', hx', hy', e⟩
      injection e with _ _ _ _ e
      injection e with e1 e2
      subst e1
      have h := hx.2.symm.trans hx'.2
      injection h with h
      have h := congrArg List.length h
      rw [List.length_take, List.length_take] at h
      omega
    · constructor
      · rintro (⟨j, x, y, h1, h⟩ | ⟨x, y, h⟩)
        · exact ⟨j, x, y, by omega, h⟩
        · exact ⟨i, x, y, by omega, h⟩
      · rintro ⟨j, x, y, h1, h⟩
        by_cases e : j = i
        · subst e; exact .inr ⟨x, y, h⟩
        · exact .inl ⟨j, x, y, by omega, h⟩
theorem ways_row (hok : t.ok txtOk) (hok' : r.ok txtOk) : ((T.two 4 t r).fnd w).length = rowN t r w (w.length + 1) :=
  (fnd_cn (t := .two 4 t r) ⟨.inl rfl, hok, hok'⟩ w).uniq ((rowN_cn hok hok' (w.length + 1) (Nat.le_refl _)).congr fun v => by
    rw [← sv_seq]
    constructor
    · rintro ⟨j, x, y, h1, h⟩
      exact ⟨j, x, y, by omega, by omega, h⟩
    · rintro ⟨j, x, y, _, h1, h⟩
      exact ⟨j, x, y, by omega, h⟩)
theorem pos_ex (hok : t.ok txtOk) : 0 < (t.fnd w).length ↔ ∃ v, SV t w v := (fnd_cn hok w).one
/-- So far, of a star's first parts. -/
def starB (t : T) (w : List UInt8) : Nat → Bool
  | 0 => decide (w.length = 0)
  | i + 1 => starB t w i || (decide (0 < (t.fnd (w.take (i + 1))).length) && decide (0 < ((T.one 6 0 0 t).fnd (w.drop (i + 1))).length))
theorem starB_iff : ∀ i, starB t w i = true ↔ w = [] ∨ ∃ j, 1 ≤ j ∧ j ≤ i ∧ 0 < (t.fnd (w.take j)).length ∧ 0 < ((T.one 6 0 0 t).fnd (w.drop j)).length
  | 0 => by
    rw [starB, decide_eq_true_eq, List.length_eq_zero_iff]
    exact ⟨.inl, fun h => h.resolve_right fun ⟨j, h1, h2, _⟩ => by omega⟩
  | i + 1 => by
    rw [starB, Bool.or_eq_true, Bool.and_eq_true, decide_eq_true_eq, decide_eq_true_eq, starB_iff i]
    constructor
    · rintro ((h | ⟨j, h1, h2, h⟩) | h)
      · exact .inl h
      · exact .inr ⟨j, h1, by omega, h⟩
      · exact .inr ⟨i + 1, by omega, by omega, h⟩
    · rintro (h | ⟨j, h1, h2, h⟩)
      · exact .inl (.inl h)
      · by_cases e : j = i + 1
        · subst e; exact .inr h
        · exact .inl (.inr ⟨j, h1, by omega, h⟩)
theorem star_has (hok : t.ok txtOk) : starB t w w.length = decide (0 < ((T.one 6 0 0 t).fnd w).length) := by
  have hs : (T.one 6 0 0 t).ok txtOk := ⟨.inl ⟨.inl rfl, rfl, rfl⟩, hok⟩
  rw [Bool.eq_iff_iff, decide_eq_true_eq, starB_iff, pos_ex hs]
  constructor
  · rintro (rfl | ⟨j, h1, h2, h3, h4⟩)
    · exact ⟨.mk 6 0 .empty 0 [], (sv_many (.inl rfl)).1 ⟨wf_mk (by omega) (by omega) (fun x h => by cases h), mk_plain, .inl rfl, rfl⟩⟩
    · obtain ⟨x, hx⟩ := (pos_ex hok).1 h3
      obtain ⟨v, hv⟩ := (pos_ex hs).1 h4
      obtain ⟨v1, v2, _, v4⟩ := (sv_many (.inl rfl)).2 hv
      refine ⟨.mk 6 0 .empty 0 (x :: v.kids), (sv_many (.inl rfl)).1 ⟨wf_mk (by omega) (by omega) (fun z hz => ?_), mk_plain, .inl rfl, ?_⟩⟩
      · rcases List.mem_cons.1 hz with rfl | hz
        · exact hx.1
        · exact v1.kid hz
      · rw [Vl.kids_mk]
        exact gath_cons.2 ⟨j, h1, h2, hx.2, v4⟩
  · rintro ⟨v, hv⟩
    obtain ⟨v1, v2, _, v4⟩ := (sv_many (.inl rfl)).2 hv
    cases hk : v.kids with
    | nil =>
      rw [hk, gath] at v4
      injection v4 with v4
      exact .inl v4.symm
    | cons x r =>
      rw [hk] at v4
      obtain ⟨m, m1, m2, m3, m4⟩ := gath_cons.1 v4
      refine .inr ⟨m, m1, m2, (pos_ex hok).2 ⟨x, v1.kid (by rw [hk]; simp), m3⟩, (pos_ex hs).2 ⟨.mk 6 0 .empty 0 r, (sv_many (.inl rfl)).1 ⟨wf_mk (by omega) (by omega) (fun z hz => v1.kid (by rw [hk]; exact List.mem_cons_of_mem _ hz)), mk_plain, .inl rfl, by rw [Vl.kids_mk]; exact m4⟩⟩⟩
theorem rep_one (hok : t.ok txtOk) (h0 : ∀ v, ¬ SV t [] v) : ((T.one 7 1 1 t).fnd w).length = (t.fnd w).length := by
  have hs : (T.one 7 1 1 t).ok txtOk := ⟨.inr ⟨rfl, by omega, by omega, by omega⟩, hok⟩
  refine (fnd_cn hs w).uniq (((fnd_cn hok w).map (f := fun x => Vl.mk 7 0 .empty 0 [x]) fun x y _ _ e => ?_).congr fun v => ?_)
  · injection e with _ _ _ _ e; injection e
  · rw [← sv_many (.inr rfl)]
    constructor
    · rintro ⟨x, hx, rfl⟩
      have hw : w ≠ [] := fun e => h0 x (e ▸ hx)
      have hl : w.length ≠ 0 := fun e => hw (List.length_eq_zero_iff.1 e)
      refine ⟨wf_mk (by omega) (by omega) (fun z hz => by rw [List.mem_singleton.1 hz]; exact hx.1), mk_plain, .inr ⟨by rw [Vl.kids_mk]; simp, by rw [Vl.kids_mk]; simp⟩, ?_⟩
      rw [Vl.kids_mk]
      exact gath_cons.2 ⟨w.length, by omega, Nat.le_refl _, by rw [List.take_length]; exact hx.2, by rw [List.drop_length]; rfl⟩
    · rintro ⟨v1, v2, v3, v4⟩
      have hk : v.kids.length = 1 := by omega
      obtain ⟨x, hx⟩ := List.length_eq_one_iff.1 hk
      rw [hx] at v4
      obtain ⟨m, m1, m2, m3, m4⟩ := gath_cons.1 v4
      rw [gath] at m4
      injection m4 with m4
      have m4 := congrArg List.length m4
      rw [List.length_drop, List.length_nil] at m4
      rw [show m = w.length by omega, List.take_length] at m3
      exact ⟨x, ⟨v1.kid (by rw [hx]; simp), m3⟩, by rw [← hx]; exact plain_eq v2⟩
theorem rep_none (hok : t.ok txtOk) : decide (0 < ((T.one 7 0 0 t).fnd w).length) = decide (w.length = 0) := by
  have hs : (T.one 7 0 0 t).ok txtOk := ⟨.inr ⟨rfl, by omega, by omega, by omega⟩, hok⟩
  rw [Bool.eq_iff_iff, decide_eq_true_eq, decide_eq_true_eq, pos_ex hs, List.length_eq_zero_iff]
  constructor
  · rintro ⟨v, hv⟩
    obtain ⟨v1, v2, v3, v4⟩ := (sv_many (.inr rfl)).2 hv
    rw [List.length_eq_zero_iff.1 (show v.kids.length = 0 by omega), gath] at v4
    injection v4 with v4
    exact v4.symm
  · rintro rfl
    exact ⟨.mk 7 0 .empty 0 [], (sv_many (.inr rfl)).1 ⟨wf_mk (by omega) (by omega) (fun x h => by cases h), mk_plain, .inr ⟨by rw [Vl.kids_mk]; decide, by rw [Vl.kids_mk]; decide⟩, rfl⟩⟩
theorem rep_most (hok : t.ok txtOk) (hw : w.length ≤ 255) : ((T.one 7 0 255 t).fnd w).length = ((T.one 6 0 0 t).fnd w).length := by
  have hs : (T.one 6 0 0 t).ok txtOk := ⟨.inl ⟨.inl rfl, rfl, rfl⟩, hok⟩
  have hs' : (T.one 7 0 255 t).ok txtOk := ⟨.inr ⟨rfl, by omega, by omega, by omega⟩, hok⟩
  refine (fnd_cn hs' w).uniq (((fnd_cn hs w).map (f := fun v => Vl.mk 7 0 .empty 0 v.kids) fun x y hx hy e => ?_).congr fun v => ?_)
  · injection e with _ _ _ _ e
    rw [plain_eq ((sv_many (.inl rfl)).2 hx).2.1, plain_eq ((sv_many (.inl rfl)).2 hy).2.1, e]
  · rw [← sv_many (.inr rfl)]
    constructor
    · rintro ⟨x, hx, rfl⟩
      obtain ⟨v1, v2, v3, v4⟩ := (sv_many (.inl rfl)).2 hx
      have := gath_cnt v4
      refine ⟨wf_mk (by omega) (by omega) (fun z hz => v1.kid hz), mk_plain, .inr ⟨by rw [Vl.kids_mk]; omega, by rw [Vl.kids_mk]; omega⟩, by rw [Vl.kids_mk]; exact v4⟩
    · rintro ⟨v1, v2, v3, v4⟩
      refine ⟨.mk 6 0 .empty 0 v.kids, (sv_many (.inl rfl)).1 ⟨wf_mk (by omega) (by omega) (fun z hz => v1.kid hz), mk_plain, .inl rfl, by rw [Vl.kids_mk]; exact v4⟩, ?_⟩
      rw [Vl.kids_mk]
      exact plain_eq v2
end
theorem pwF_pos {a : Int} (h : 0 < a) : ∀ m, 0 < pwF a m
  | 0 => by simp [pwF]
  | m + 1 => by
    have := Int.mul_pos (pwF_pos h m) h
    rw [pwF]
    omega
/-- What has no way of nothing has no value that writes nothing. -/
theorem ways_nil : ∀ {t : T}, t.ok txtOk → t.ways = 0 → ∀ v, t.wr v ≠ some []
  | .void, _, h, _ => by simp [T.ways] at h
  | .bytes .., _, _, v => by
    rw [T.wr]
    split <;> simp
  | .text s, hok, _, v => by
    rw [T.wr]
    have h2 := hok.2
    unfold textB at h2
    split
    · intro e
      injection e with e
      have e0 : s.size = 0 := by
        have e := congrArg List.length e
        simpa using e
      rw [decide_eq_false (show ¬ 0 < s.size by omega)] at h2
      simp at h2
    · simp
  | .two k a b, hok, h, v => by
    have ha := ways_bd hok.2.1
    have hb := ways_bd hok.2.2
    rw [T.ways] at h
    intro e
    rcases hok.1 with rfl | rfl
    · rw [if_pos rfl] at h
      have h' : a.ways = 0 ∨ b.ways = 0 := by
        rcases Int.lt_or_eq_of_le ha.1 with h1 | h1
        · rcases Int.lt_or_eq_of_le hb.1 with h2 | h2
          · have := Int.mul_pos h1 h2; omega
          · exact .inr h2.symm
        · exact .inl h1.symm
      rw [T.wr, if_pos rfl] at e
      split at e
      · split at e
        · split at e
          · rename_i p q hp hq
            injection e with e
            obtain ⟨rfl, rfl⟩ := List.append_eq_nil_iff.1 e
            rcases h' with h' | h'
            · exact ways_nil hok.2.1 h' _ hp
            · exact ways_nil hok.2.2 h' _ hq
          · cases e
        · cases e
      · cases e
    · rw [if_neg (by decide)] at h
      have h1 : a.ways = 0 := by omega
      have h2 : b.ways = 0 := by omega
      rw [T.wr, if_neg (by decide)] at e
      split at e
      · split at e
        · exact ways_nil hok.2.1 h1 _ e
        · cases e
      · split at e
        · split at e
          · exact ways_nil hok.2.2 h2 _ e
          · cases e
        · cases e
  | .one k lo hi a, hok, h, v => by
    have ha := ways_bd hok.2
    rw [T.ways] at h
    intro e
    rw [T.wr] at e
    split at e
    · rcases (show k = 6 ∨ k = 7 ∨ k = 8 ∨ k = 9 by have := hok.1; omega) with rfl | rfl | rfl | rfl
      · rw [if_pos rfl] at h
        split at h <;> omega
      · rw [if_neg (by decide), if_pos rfl] at h e
        have h7 := hok.1
        split at e
        · rename_i hc
          have h5 := gath_cnt e
          rw [List.length_nil] at h5
          have hlo : lo = 0 := by omega
          obtain ⟨n, hn⟩ : ∃ n, hi.toNat + 1 - lo.toNat = n + 1 := ⟨hi.toNat - lo.toNat, by omega⟩
          rw [hn, hlo] at h
          have key : ∀ n, 1 ≤ rpF a.ways (0 : Int).toNat (n + 1) := by
            intro n
            induction n with
            | zero =>
              have h0 : pwF a.ways 0 = 1 := rfl
              simp only [rpF]
              rw [show (0 : Int).toNat + 0 = 0 from rfl, h0]
              decide
            | succ n ih =>
              rw [rpF]
              have := pwF_bd ha.1 ha.2 ((0 : Int).toNat + (n + 1))
              omega
          have := key n
          omega
        · cases e
      · rw [if_neg (by decide), if_neg (by decide)] at e
        split at e
        · split at e
          · rw [if_pos rfl] at e
            split at e <;> simp at e
          · cases e
        · cases e
      · rw [if_neg (by decide), if_neg (by decide)] at e
        split at e
        · split at e
          · rw [if_neg (by decide)] at e
            split at e <;> simp at e
          · cases e
        · cases e
    · cases e
end Go.Proofs.Ytpibdbjlilpfiaa

/- count: the document's rows are right (plain). -/
import Derived.Test.YtpibdbjlilpfiaaCntN
namespace Go.Proofs.Ytpibdbjlilpfiaa
set_option linter.all false
open Go

theorem gath_cnt {F : Vl → Option (List UInt8)} : ∀ {l : List Vl} {p : List UInt8}, gath F true l = some p → l.length ≤ p.length
  | [], _, _ => Nat.zero_le _
  | x :: r, p, h => by
    obtain ⟨m, h1, h2, _, h4⟩ := gath_cons.1 h
    have := gath_cnt h4
    rw [List.length_drop] at this
    rw [List.length_cons]
    omega
theorem gath_snoc {F : Vl → Option (List UInt8)} {y : Vl} : ∀ {l : List Vl} {p : List UInt8}, gath F true (l ++ [y]) = some p ↔ ∃ q r, gath F true l = some q ∧ F y = some r ∧ r ≠ [] ∧ p = q ++ r
  | [], p => by
    rw [List.nil_append, gath_cons]
    constructor
    · rintro ⟨m, h1, h2, h3, h4⟩
      rw [gath] at h4
      injection h4 with h4
      have h5 : p.length ≤ m := by
        have := congrArg List.length h4
        rw [List.length_drop, List.length_nil] at this
        omega
      rw [List.take_of_length_le h5] at h3
      exact ⟨[], p, rfl, h3, fun e => by rw [e] at h2; simp at h2; omega, rfl⟩
    · rintro ⟨q, r, h1, h2, h3, rfl⟩
      rw [gath] at h1
      injection h1 with h1
      subst h1
      have : r.length ≠ 0 := fun e => h3 (List.length_eq_zero_iff.1 e)
      exact ⟨r.length, by omega, by simp, by simpa using h2, by simp [gath]⟩
  | x :: l, p => by
    rw [List.cons_append, gath_cons]
    constructor
    · rintro ⟨m, h1, h2, h3, h4⟩
      obtain ⟨q, r, a, b, c, d⟩ := gath_snoc.1 h4
      refine ⟨p.take m ++ q, r, gath_cons.2 ⟨m, h1, by rw [List.length_append, List.length_take]; omega, by rw [List.take_append_of_le_length (by rw [List.length_take]; omega), List.take_take, Nat.min_self]; exact h3, by
        rw [List.drop_append_of_le_length (by rw [List.length_take]; omega), List.drop_eq_nil_of_le (by rw [List.length_take]; omega), List.nil_append]; exact a⟩, b, c, ?_⟩
      rw [List.append_assoc, ← d, List.take_append_drop]
    · rintro ⟨q, r, a, b, c, rfl⟩
      obtain ⟨m, h1, h2, h3, h4⟩ := gath_cons.1 a
      exact ⟨m, h1, by rw [List.length_append]; omega, by rw [List.take_append_of_le_length h2]; exact h3, gath_snoc.2 ⟨q.drop m, r, h4, b, c, by rw [List.drop_append_of_le_length h2]⟩⟩
theorem part_app {w : List UInt8} {a b c : Nat} (h : a ≤ b) (h' : b ≤ c) : part' w a b ++ part' w b c = part' w a c := by
  have e1 : (part' w a c).take (b - a) = part' w a b := by rw [part_take (by omega), Nat.add_sub_cancel' h]
  have e2 : (part' w a c).drop (b - a) = part' w b c := by rw [part_drop, Nat.add_sub_cancel' h]
  rw [← e1, ← e2, List.take_append_drop]
section
variable {w : List UInt8} {F : Vl → Option (List UInt8)} {E : Nat → List Nat} {f : Nat}
def Kds (F : Vl → Option (List UInt8)) (w : List UInt8) (f i : Nat) (l : List Vl) : Prop := f ≤ i ∧ (∀ x ∈ l, x.Wf) ∧ gath F true l = some (part' w f i)
theorem Kds.uniq {i j : Nat} {l : List Vl} (hi : i ≤ w.length) (hj : j ≤ w.length) (h : Kds F w f i l) (h' : Kds F w f j l) : i = j := by
  have := h.2.2.symm.trans h'.2.2
  injection this with this
  have := congrArg List.length this
  rw [part_len hi, part_len hj] at this
  have := h.1
  have := h'.1
  omega
theorem next_ok (hE : ∀ j, f ≤ j → j ≤ w.length → RowOk (E j) w.length (fun i v => j ≤ i ∧ v.Wf ∧ F v = some (part' w j i))) {t : Nat} {now : List Nat} (hn : RowOk now w.length (fun i l => l.length = t ∧ Kds F w f i l)) :
    RowOk (nextL E w.length now (w.length + 1)) w.length (fun i l => l.length = t + 1 ∧ Kds F w f i l) := by
  unfold nextL
  refine (thruL_ok (J := fun (x : List Vl) y => x ++ [y]) (U := fun j i v => j < i ∧ v.Wf ∧ F v = some (part' w j i)) hn (fun j hj ⟨x, hx⟩ => ?_) (fun i j j' x x' y y' hj hj' hx hx' _ _ e => ?_) (w.length + 1) (Nat.le_refl _)).congr fun i hi l => ?_
  · have h0 := hE j hx.2.1 hj
    refine ⟨by rw [List.length_set, h0.len], fun i hi => ?_⟩
    rw [set_get (by rw [h0.len]; omega)]
    split
    · rename_i e
      exact .empty fun v hv => by omega
    · rename_i e
      exact (h0.cn i hi).congr fun v => ⟨fun ⟨a, b⟩ => ⟨by omega, b⟩, fun ⟨a, b⟩ => ⟨by omega, b⟩⟩
  · obtain ⟨e1, e2⟩ := List.append_inj' e rfl
    subst e1
    injection e2 with e2
    exact ⟨hx.2.uniq hj hj' hx'.2, rfl, e2⟩
  · constructor
    · rintro ⟨j, x, y, _, ⟨hx, hf, hw, hg⟩, ⟨hj, hy, hF⟩, rfl⟩
      refine ⟨by simp [hx], by omega, fun z hz => ?_, gath_snoc.2 ⟨_, _, hg, hF, fun e => ?_, (part_app hf (by omega)).symm⟩⟩
      · rcases List.mem_append.1 hz with hz | hz
        · exact hw z hz
        · rw [List.mem_singleton.1 hz]; exact hy
      · have := congrArg List.length e
        rw [part_len hi, List.length_nil] at this
        omega
    · rintro ⟨hl, hf, hw, hg⟩
      rcases List.eq_nil_or_concat l with rfl | ⟨x, y, rfl⟩
      · simp at hl
      · rw [List.concat_eq_append] at hl hw hg ⊢
        obtain ⟨q, r, h1, h2, h3, h4⟩ := gath_snoc.1 hg
        have hlen := congrArg List.length h4
        rw [part_len hi, List.length_append] at hlen
        have hr : r.length ≠ 0 := fun e => h3 (List.length_eq_zero_iff.1 e)
        have e1 : q = part' w f (f + q.length) := by
          rw [← part_take (to := i) (by omega), h4, List.take_left]
        have e2 : r = part' w (f + q.length) i := by
          rw [← part_drop, h4, List.drop_left]
        refine ⟨f + q.length, x, y, by omega, ⟨by simpa using hl, by omega, fun z hz => hw z (List.mem_append_left _ hz), by rw [← e1]; exact h1⟩, ⟨by omega, hw y (by simp), by rw [← e2]; exact h2⟩, rfl⟩
theorem timesG_ok (hE : ∀ j, f ≤ j → j ≤ w.length → RowOk (E j) w.length (fun i v => j ≤ i ∧ v.Wf ∧ F v = some (part' w j i))) {lo hi : Int} : ∀ (k t : Nat) {now out : List Nat}, t + k = w.length + 2 → (hi < 0 ∨ (t : Int) ≤ hi) →
    RowOk now w.length (fun i l => l.length = t ∧ Kds F w f i l) → RowOk out w.length (fun i l => (lo ≤ l.length ∧ l.length < t) ∧ Kds F w f i l) → RowOk (timesG E w.length lo hi k t now out) w.length (fun i l => (lo ≤ l.length ∧ (hi < 0 ∨ (l.length : Int) ≤ hi)) ∧ Kds F w f i l) := by
  intro k
  induction k with
  | zero =>
    intro t now out ht hh hn ho
    rw [timesG]
    refine ho.congr fun i hi' l => ?_
    constructor
    · rintro ⟨⟨a, b⟩, c⟩
      exact ⟨⟨a, by omega⟩, c⟩
    · rintro ⟨⟨a, b⟩, c⟩
      have := gath_cnt c.2.2
      rw [part_len hi'] at this
      exact ⟨⟨a, by omega⟩, c⟩
  | succ k ih =>
    intro t now out ht hh hn ho
    rw [timesG]
    have ho' : RowOk (if lo ≤ (t : Int) then plusL out now 1 else out) w.length (fun i l => (lo ≤ l.length ∧ l.length < t + 1) ∧ Kds F w f i l) := by
      split
      · rename_i hlo
        refine (plusL_ok (T := fun _ : Unit => True) (J := fun _ y => y) ho hn (.unit () fun _ => by simp) (fun _ _ _ _ _ _ _ _ _ e => ⟨rfl, e⟩) fun i z hz _ y _ hy e => ?_).congr fun i hi' l => ?_
        · rw [e] at hz
          omega
        · constructor
          · rintro (⟨a, b⟩ | ⟨_, y, _, hy, rfl⟩)
            · exact ⟨⟨a.1, by omega⟩, b⟩
            · exact ⟨⟨by omega, by omega⟩, hy.2⟩
          · rintro ⟨⟨a, b⟩, c⟩
            by_cases e : l.length = t
            · exact .inr ⟨(), l, trivial, ⟨e, c⟩, rfl⟩
            · exact .inl ⟨⟨a, by omega⟩, c⟩
      · rename_i hlo
        refine ho.congr fun i hi' l => ?_
        constructor
        · rintro ⟨a, b⟩; exact ⟨⟨a.1, by omega⟩, b⟩
        · rintro ⟨a, b⟩; exact ⟨⟨a.1, by omega⟩, b⟩
    split
    · rename_i hth
      refine ho'.congr fun i hi' l => ?_
      constructor
      · rintro ⟨a, b⟩; exact ⟨⟨a.1, by omega⟩, b⟩
      · rintro ⟨a, b⟩; exact ⟨⟨a.1, by omega⟩, b⟩
    · rename_i hth
      exact ih (t + 1) (by omega) (by omega) (next_ok hE hn) ho'
theorem timesL_ok (hE : ∀ j, f ≤ j → j ≤ w.length → RowOk (E j) w.length (fun i v => j ≤ i ∧ v.Wf ∧ F v = some (part' w j i))) (hf : f ≤ w.length) {lo hi : Int} (hh : hi < 0 ∨ 0 ≤ hi) : RowOk (timesL E w.length f lo hi) w.length (fun i l => (lo ≤ l.length ∧ (hi < 0 ∨ (l.length : Int) ≤ hi)) ∧ Kds F w f i l) := by
  have hff : part' w f f = [] := by simp [part']
  refine timesG_ok hE _ 0 (by omega) (by omega) (set_ok hf (.unit [] fun l => ?_) fun i l hi' hne => ?_) (zeroL_ok fun i l _ h => by omega)
  · constructor
    · rintro ⟨h, _⟩; exact List.length_eq_zero_iff.1 h
    · rintro rfl
      exact ⟨rfl, Nat.le_refl _, fun x hx => (by cases hx), by rw [hff]; rfl⟩
  · rintro ⟨h, h1, _, h2⟩
    rw [List.length_eq_zero_iff.1 h, gath] at h2
    injection h2 with h2
    have := congrArg List.length h2
    rw [part_len hi', List.length_nil] at this
    omega
end
theorem part_cut {w : List UInt8} {a b c : Nat} (h : b ≤ c) : part' (w.take c) a b = part' w a b := by
  unfold part'
  rw [List.drop_take, List.take_take, Nat.min_eq_left (by omega)]
theorem told1 {b : UInt8} : told [b] = b.toNat := by simp [told]
theorem told2 {b c : UInt8} : told [b, c] = b.toNat * 256 + c.toNat := by simp [told]
theorem part_one {w : List UInt8} {f : Nat} (h : f < w.length) : part' w f (f + 1) = [w.getD f 0] := by
  unfold part'
  rw [Nat.add_sub_cancel_left, List.getD_eq_getElem?_getD, List.getElem?_eq_getElem h, List.drop_eq_getElem_cons h]
  rfl
theorem part_two {w : List UInt8} {f : Nat} (h : f + 1 < w.length) : part' w f (f + 2) = [w.getD f 0, w.getD (f + 1) 0] := by
  rw [← part_app (b := f + 1) (by omega) (by omega), part_one (by omega), part_one (f := f + 1) h]
  rfl
theorem sv_seq {a b : T} {p : List UInt8} {v : Vl} : (∃ m x y, 0 ≤ m ∧ m ≤ p.length ∧ SV a (p.take m) x ∧ SV b (p.drop m) y ∧ v = .mk 4 0 .empty 0 [x, y]) ↔ SV (.two 4 a b) p v := by
  unfold SV
  rw [T.wr, if_pos rfl]
  constructor
  · rintro ⟨m, x, y, h1, h2, hx, hy, rfl⟩
    refine ⟨wf_mk (by omega) (by omega) fun z hz => ?_, ?_⟩
    · simp only [List.mem_cons, List.not_mem_nil, or_false] at hz
      rcases hz with rfl | rfl
      · exact hx.1
      · exact hy.1
    · rw [if_pos mk_plain]
      simp only [Vl.kids_mk, hx.2, hy.2, List.take_append_drop]
  · rintro ⟨hwf, h⟩
    split at h
    · rename_i hp
      split at h
      · rename_i x y hk
        split at h
        · rename_i q r hx hy
          cases h
          refine ⟨q.length, x, y, by omega, by simp, ⟨hwf.kid (by rw [hk]; simp), by simpa using hx⟩, ⟨hwf.kid (by rw [hk]; simp), by simpa using hy⟩, ?_⟩
          rw [← hk]
          exact plain_eq hp
        · cases h
      · cases h
    · cases h
theorem sv_or {a b : T} {p : List UInt8} {v : Vl} : ((∃ x, SV a p x ∧ v = .mk 5 0 .empty 0 [x]) ∨ (∃ x, SV b p x ∧ v = .mk 5 0 .empty 1 [x])) ↔ SV (.two 5 a b) p v := by
  unfold SV
  rw [T.wr, if_neg (by decide)]
  constructor
  · rintro (⟨x, hx, rfl⟩ | ⟨x, hx, rfl⟩)
    · refine ⟨wf_mk (by omega) (by omega) fun z hz => by rw [List.mem_singleton.1 hz]; exact hx.1, ?_⟩
      rw [if_pos mk_plain]
      simp only [Vl.kids_mk, hx.2]
    · refine ⟨wf_mk (by omega) (by omega) fun z hz => by rw [List.mem_singleton.1 hz]; exact hx.1, ?_⟩
      rw [if_neg (by simp [Vl.plain, Vl.pick_mk]), if_pos mk_plain]
      simp only [Vl.kids_mk, hx.2]
  · rintro ⟨hwf, h⟩
    split at h
    · rename_i hp
      split at h
      · rename_i x hk
        exact .inl ⟨x, ⟨hwf.kid (by rw [hk]; simp), h⟩, by rw [← hk]; exact plain_eq hp⟩
      · cases h
    · split at h
      · rename_i hp
        split at h
        · rename_i x hk
          exact .inr ⟨x, ⟨hwf.kid (by rw [hk]; simp), h⟩, by rw [← hk]; exact plain_eq hp⟩
        · cases h
      · cases h
theorem sv_many {a : T} {k lo hi : Int} (hk : k = 6 ∨ k = 7) {p : List UInt8} {v : Vl} : SM a.wr k lo hi p v ↔ SV (.one k lo hi a) p v := by
  unfold SM SV
  rw [T.wr]
  constructor
  · rintro ⟨h1, h2, h3, h4⟩
    refine ⟨h1, ?_⟩
    rw [if_pos h2]
    rcases hk with rfl | rfl
    · rw [if_pos rfl]; exact h4
    · rw [if_neg (by decide), if_pos rfl, if_pos (by omega)]; exact h4
  · rintro ⟨h1, h⟩
    split at h
    · rename_i h2
      refine ⟨h1, h2, ?_⟩
      rcases hk with rfl | rfl
      · rw [if_pos rfl] at h; exact ⟨.inl rfl, h⟩
      · rw [if_neg (by decide), if_pos rfl] at h
        split at h
        · rename_i h3; exact ⟨.inr h3, h⟩
        · cases h
    · cases h
theorem row_of {t : T} (hok : t.ok txtOk) {w : List UInt8} {f : Nat} {r : List Nat} (hl : r.length = w.length + 1) (h : ∀ i, i ≤ w.length → r.getD i 0 = if f ≤ i then (t.fnd (part' w f i)).length else 0) : RowOk r w.length (fun i v => f ≤ i ∧ SV t (part' w f i) v) := ⟨hl, fun i hi => by
  rw [h i hi]
  split
  · rename_i hf
    exact (fnd_cn hok _).congr fun v => ⟨fun h => ⟨hf, h⟩, fun h => h.2⟩
  · rename_i hf
    exact .empty fun v h => hf h.1⟩
theorem row_get {t : T} (hok : t.ok txtOk) {w : List UInt8} {f : Nat} {r : List Nat} (h : RowOk r w.length (fun i v => f ≤ i ∧ SV t (part' w f i) v)) {i : Nat} (hi : i ≤ w.length) (hf : f ≤ i) : r.getD i 0 = (t.fnd (part' w f i)).length :=
  ((h.cn i hi).congr (S' := SV t (part' w f i)) fun v => ⟨fun h => h.2, fun h => ⟨hf, h⟩⟩).uniq (fnd_cn hok _)
theorem ends_ok : ∀ (t : T), t.ok txtOk → ∀ (w : List UInt8) (f : Nat), f ≤ w.length → RowOk (t.ends w f) w.length (fun i v => f ≤ i ∧ SV t (part' w f i) v) := by
  intro t
  induction t with
  | void =>
    intro hok w f hf
    refine row_of hok (by rw [T.ends, List.length_set, zeroL_len]) fun i hi => ?_
    rw [T.ends, set_get (by rw [zeroL_len]; omega), zeroL_get, T.fnd]
    by_cases e : f ≤ i
    · rw [if_pos e]
      by_cases e2 : f = i
      · rw [if_pos e2, if_pos ((part_nil e hi).2 e2)]; rfl
      · rw [if_neg e2, if_neg fun h => e2 ((part_nil e hi).1 h)]; rfl
    · rw [if_neg e, if_neg (by omega)]
  | bytes c0 c1 c2 c3 =>
    intro hok w f hf
    have hfn : ∀ i, i ≤ w.length → f ≤ i → (T.fnd (.bytes c0 c1 c2 c3) (part' w f i)).length = if f + 1 = i ∧ clsHas c0 c1 c2 c3 (w.getD f 0).toNat = true then 1 else 0 := fun i hi hfi => by
      unfold T.fnd
      split
      · rename_i b hb
        have := congrArg List.length hb
        rw [part_len hi, List.length_singleton] at this
        have e : f + 1 = i := by omega
        subst e
        rw [part_one (by omega)] at hb
        injection hb with hb _
        rw [hb]
        split
        · rename_i h; rw [if_pos ⟨rfl, h⟩]; rfl
        · rename_i h; rw [if_neg fun h' => h h'.2]; rfl
      · rename_i hb
        rw [if_neg]
        · rfl
        · rintro ⟨rfl, _⟩
          exact hb _ (part_one (by omega))
    refine row_of hok (by rw [T.ends]; split <;> simp [zeroL]) fun i hi => ?_
    rw [T.ends]
    by_cases hc : f < w.length ∧ clsHas c0 c1 c2 c3 (w.getD f 0).toNat = true
    · rw [if_pos hc, set_get (by rw [zeroL_len]; omega), zeroL_get]
      by_cases e : f ≤ i
      · rw [if_pos e, hfn i hi e]
        simp only [hc.2, and_true]
      · rw [if_neg e, if_neg (by omega)]
    · rw [if_neg hc, zeroL_get]
      by_cases e : f ≤ i
      · rw [if_pos e, hfn i hi e, if_neg]
        rintro ⟨rfl, h⟩
        exact hc ⟨by omega, h⟩
      · rw [if_neg e]
  | text s =>
    intro hok w f hf
    have hfn : ∀ i, i ≤ w.length → f ≤ i → (T.fnd (.text s) (part' w f i)).length = if f + s.size = i ∧ part' w f (f + s.size) = s.data.toList then 1 else 0 := fun i hi hfi => by
      rw [T.fnd]
      have hsz : s.data.toList.length = s.size := by rw [Array.length_toList]; rfl
      by_cases e : part' w f i = s.data.toList
      · have := congrArg List.length e
        rw [part_len hi, hsz] at this
        have e2 : f + s.size = i := by omega
        rw [if_pos e, if_pos ⟨e2, e2 ▸ e⟩]; rfl
      · rw [if_neg e, if_neg]
        · rfl
        · rintro ⟨rfl, h⟩; exact e h
    refine row_of hok (by rw [T.ends]; split <;> simp [zeroL]) fun i hi => ?_
    rw [T.ends]
    by_cases hc : f + s.size ≤ w.length ∧ part' w f (f + s.size) = s.data.toList
    · rw [if_pos hc, set_get (by rw [zeroL_len]; omega), zeroL_get]
      by_cases e : f ≤ i
      · rw [if_pos e, hfn i hi e]
        simp only [hc.2, and_true]
      · rw [if_neg e, if_neg (by omega)]
    · rw [if_neg hc, zeroL_get]
      by_cases e : f ≤ i
      · rw [if_pos e, hfn i hi e, if_neg]
        rintro ⟨rfl, h⟩
        exact hc ⟨by omega, h⟩
      · rw [if_neg e]
  | two k a b iha ihb =>
    intro hok w f hf
    have ha := iha hok.2.1 w f hf
    rcases hok.1 with rfl | rfl
    · rw [T.ends, if_pos rfl]
      refine (thruL_ok (J := fun x y => .mk 4 0 .empty 0 [x, y]) (U := fun j i v => j ≤ i ∧ SV b (part' w j i) v) ha (fun j hj _ => ihb hok.2.2 w j hj) (fun i j j' x x' y y' hj hj' hx hx' _ _ e => ?_) _ (Nat.le_refl _)).congr fun i hi v => ?_
      · simp only [Vl.mk.injEq, List.cons.injEq, and_true, true_and] at e
        obtain ⟨rfl, rfl⟩ := e
        have := hx.2.2.symm.trans hx'.2.2
        injection this with this
        have := congrArg List.length this
        rw [part_len hj, part_len hj'] at this
        exact ⟨by have := hx.1; have := hx'.1; omega, rfl, rfl⟩
      · constructor
        · rintro ⟨j, x, y, hj, ⟨h1, hx⟩, ⟨h2, hy⟩, rfl⟩
          refine ⟨by omega, sv_seq.1 ⟨j - f, x, y, Nat.zero_le _, by rw [part_len hi]; omega, ?_, ?_, rfl⟩⟩
          · rw [part_take (by omega), Nat.add_sub_cancel' h1]; exact hx
          · rw [part_drop, Nat.add_sub_cancel' h1]; exact hy
        · rintro ⟨h1, hv⟩
          obtain ⟨m, x, y, _, hm, hx, hy, rfl⟩ := sv_seq.2 hv
          rw [part_len hi] at hm
          rw [part_take (by omega)] at hx
          rw [part_drop] at hy
          exact ⟨f + m, x, y, by omega, ⟨by omega, hx⟩, ⟨by omega, hy⟩, rfl⟩
    · rw [T.ends, if_neg (by decide)]
      have hb := ihb hok.2.2 w f hf
      have e := plusL_ok (r := a.ends w f) (q := b.ends w f) (S := fun i v => ∃ x, (f ≤ i ∧ SV a (part' w f i) x) ∧ v = Vl.mk 5 0 .empty 0 [x]) (T := fun _ : Unit => True) (J := fun _ x => Vl.mk 5 0 .empty 1 [x]) ⟨ha.len, fun i hi => (ha.cn i hi).map (f := fun x => Vl.mk 5 0 .empty 0 [x]) fun x y _ _ e => by
        simp only [Vl.mk.injEq, List.cons.injEq, and_true, true_and] at e; exact e⟩ hb (.unit () fun _ => by simp) (fun _ _ _ _ _ _ _ _ _ e => by
        simp only [Vl.mk.injEq, List.cons.injEq, and_true, true_and] at e; exact ⟨rfl, e⟩) fun i z ⟨x, _, e⟩ _ y _ _ e' => by
        rw [e] at e'
        simp at e'
      refine e.congr fun i hi v => ?_
      constructor
      · rintro (⟨x, hx, e⟩ | ⟨_, x, _, hx, e⟩)
        · exact ⟨hx.1, sv_or.1 (.inl ⟨x, hx.2, e⟩)⟩
        · exact ⟨hx.1, sv_or.1 (.inr ⟨x, hx.2, e⟩)⟩
      · rintro ⟨h1, hv⟩
        rcases sv_or.2 hv with ⟨x, hx, e⟩ | ⟨x, hx, e⟩
        · exact .inl ⟨x, ⟨h1, hx⟩, e⟩
        · exact .inr ⟨(), x, trivial, ⟨h1, hx⟩, e⟩
  | one k lo hi a iha =>
    intro hok w f hf
    by_cases hk : k = 6 ∨ k = 7
    · have hE : ∀ j, f ≤ j → j ≤ w.length → RowOk (a.ends w j) w.length (fun i v => j ≤ i ∧ v.Wf ∧ a.wr v = some (part' w j i)) := fun j _ hj => iha hok.2 w j hj
      have main : ∀ lo' hi' : Int, (hi' < 0 ∨ 0 ≤ hi') → (∀ n : Nat, (lo' ≤ n ∧ (hi' < 0 ∨ (n : Int) ≤ hi')) ↔ (k = 6 ∨ lo ≤ n ∧ (n : Int) ≤ hi)) → RowOk (timesL (a.ends w) w.length f lo' hi') w.length (fun i v => f ≤ i ∧ SV (.one k lo hi a) (part' w f i) v) := fun lo' hi' hh e => by
        have h0 := timesL_ok (lo := lo') (hi := hi') hE hf hh
        refine ⟨h0.len, fun i hi2 => ((h0.cn i hi2).map (f := fun l => Vl.mk k 0 .empty 0 l) fun x y _ _ e => by
          simp only [Vl.mk.injEq, true_and] at e; exact e).congr fun v => ?_⟩
        constructor
        · rintro ⟨l, ⟨h1, h2, h3, h4⟩, rfl⟩
          exact ⟨h2, (sv_many hk).1 ⟨wf_mk (by omega) (by omega) h3, mk_plain, (e _).1 h1, h4⟩⟩
        · rintro ⟨h1, h2⟩
          obtain ⟨q1, q2, q3, q4⟩ := (sv_many hk).2 h2
          exact ⟨v.kids, ⟨(e _).2 q3, h1, fun x hx => q1.kid hx, q4⟩, plain_eq q2⟩
      rw [T.ends]
      rcases hk with rfl | rfl
      · rw [if_pos rfl]
        exact main 0 (-1) (.inl (by omega)) fun n => ⟨fun _ => .inl rfl, fun _ => ⟨by omega, .inl (by omega)⟩⟩
      · rw [if_neg (by decide), if_pos rfl]
        have := hok.1
        exact main lo hi (.inr (by omega)) fun n => ⟨fun h => .inr ⟨h.1, by omega⟩, fun h => by omega⟩
    · have hk2 : k = 8 ∨ k = 9 := by have := hok.1; omega
      have main : ∀ (hd to : Nat), f + hd ≤ to → (∀ i, i ≤ w.length → f ≤ i → ((¬ (i - f < hd ∨ told ((part' w f i).take hd) ≠ i - f - hd)) ↔ i = to)) → (T.fnd (.one k lo hi a) = fun p => frameV k a.fnd hd p) → RowOk (if to ≤ w.length then (zeroL w.length).set to ((a.ends (w.take to) (f + hd)).getD to 0) else zeroL w.length) w.length (fun i v => f ≤ i ∧ SV (.one k lo hi a) (part' w f i) v) := fun hd to hto h1 h2 => by
        refine row_of hok (by split <;> simp [zeroL]) fun i hi2 => ?_
        rw [h2]
        simp only [frameV]
        by_cases e : f ≤ i
        · rw [if_pos e, part_len hi2]
          by_cases e2 : i = to
          · subst e2
            rw [if_neg ((h1 i hi2 e).2 rfl), if_pos hi2, set_get (by rw [zeroL_len]; omega), if_pos rfl, wrapV_len, part_drop]
            have hl : (w.take i).length = i := by rw [List.length_take]; omega
            have h3 := row_get hok.2 (iha hok.2 (w.take i) (f + hd) (by rw [hl]; exact hto)) (i := i) (by rw [hl]; exact Nat.le_refl _) hto
            rw [part_cut (Nat.le_refl _)] at h3
            exact h3
          · have h4 : i - f < hd ∨ told ((part' w f i).take hd) ≠ i - f - hd := Decidable.byContradiction fun h => e2 ((h1 i hi2 e).1 h)
            rw [if_pos h4]
            split
            · rw [set_get (by rw [zeroL_len]; omega), if_neg (fun h => e2 h.symm), zeroL_get]; rfl
            · rw [zeroL_get]; rfl
        · rw [if_neg e]
          split
          · rw [set_get (by rw [zeroL_len]; omega), if_neg (by omega), zeroL_get]
          · exact zeroL_get
      have none : ∀ hd, (w.length < f + hd) → (T.fnd (.one k lo hi a) = fun p => frameV k a.fnd hd p) → RowOk (zeroL w.length) w.length (fun i v => f ≤ i ∧ SV (.one k lo hi a) (part' w f i) v) := fun hd h1 h2 => by
        refine row_of hok zeroL_len fun i hi2 => ?_
        rw [h2, zeroL_get]
        simp only [frameV]
        split
        · rw [part_len hi2, if_pos (.inl (by omega))]; rfl
        · rfl
      rw [T.ends]
      rcases hk2 with rfl | rfl
      · rw [if_neg (by decide), if_neg (by decide), if_pos rfl]
        have h2 : T.fnd (.one 8 lo hi a) = fun p => frameV 8 a.fnd 1 p := by funext p; rw [T.fnd, if_neg (by decide), if_pos rfl]
        by_cases h : f < w.length
        · have := main 1 (f + 1 + (w.getD f 0).toNat) (by omega) (fun i hi2 e => by
            by_cases e2 : f + 1 ≤ i
            · rw [part_take e2, part_one (by omega), told1]; omega
            · omega) h2
          simp only [h, true_and]
          exact this
        · rw [if_neg fun h' => h h'.1]
          exact none 1 (by omega) h2
      · rw [if_neg (by decide), if_neg (by decide), if_neg (by decide)]
        have h2 : T.fnd (.one 9 lo hi a) = fun p => frameV 9 a.fnd 2 p := by funext p; rw [T.fnd, if_neg (by decide), if_neg (by decide)]
        by_cases h : f + 1 < w.length
        · have := main 2 (f + 2 + 256 * (w.getD f 0).toNat + (w.getD (f + 1) 0).toNat) (by omega) (fun i hi2 e => by
            by_cases e2 : f + 2 ≤ i
            · rw [part_take e2, part_two (by omega), told2]; omega
            · omega) h2
          simp only [h, true_and]
          exact this
        · rw [if_neg fun h' => h h'.1]
          exact none 2 (by omega) h2
/-- The document's ways are the ways. -/
theorem ends_ways {t : T} (hok : t.ok txtOk) (w : List UInt8) : (t.ends w 0).getD w.length 0 = (t.fnd w).length := by
  have h := row_get hok (ends_ok t hok w 0 (Nat.zero_le _)) (i := w.length) (Nat.le_refl _) (Nat.zero_le _)
  rw [show part' w 0 w.length = w by simp [part']] at h
  exact h
end Go.Proofs.Ytpibdbjlilpfiaa

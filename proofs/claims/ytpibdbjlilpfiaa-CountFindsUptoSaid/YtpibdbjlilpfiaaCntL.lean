/- count: what counting finds is what writes the word. -/
import Derived.Test.YtpibdbjlilpfiaaCntK
namespace Go.Proofs.Ytpibdbjlilpfiaa
set_option linter.all false
open Go

def SV (t : T) (p : List UInt8) (v : Vl) : Prop := v.Wf ∧ t.wr v = some p
def SM (F : Vl → Option (List UInt8)) (k lo hi : Int) (p : List UInt8) (v : Vl) : Prop := v.Wf ∧ v.plain k 0 .empty 0 = true ∧ (k = 6 ∨ lo ≤ v.kids.length ∧ (v.kids.length : Int) ≤ hi) ∧ gath F true v.kids = some p
theorem plain_eq {v : Vl} {k b : Int} {t : ByteArray} {p : Int} (h : v.plain k b t p = true) : v = .mk k b t p v.kids := by
  rw [Vl.plain_iff] at h
  rw [v.eta]
  simp only [h.1, h.2.1, h.2.2.1, h.2.2.2, Vl.kids_mk]
theorem mk_plain {k b : Int} {t : ByteArray} {p : Int} {l : List Vl} : (Vl.mk k b t p l).plain k b t p = true := by rw [Vl.plain_iff]; exact ⟨rfl, rfl, rfl, rfl⟩
theorem wf_mk {k p : Int} {l : List Vl} (hk : 0 ≤ k ∧ k ≤ 9) (hp : 0 ≤ p ∧ p ≤ 1) (h : ∀ x ∈ l, x.Wf) : (Vl.mk k 0 .empty p l).Wf := .mk _ _ _ _ _ ⟨by omega, by omega⟩ ⟨by omega, by omega⟩ ⟨by omega, by omega⟩ h
theorem gath_cons {F : Vl → Option (List UInt8)} {x : Vl} {r : List Vl} {p : List UInt8} : gath F true (x :: r) = some p ↔ ∃ m, 1 ≤ m ∧ m ≤ p.length ∧ F x = some (p.take m) ∧ gath F true r = some (p.drop m) := by
  rw [gath]
  constructor
  · intro h
    cases hx : F x with
    | none => rw [hx] at h; cases h
    | some q =>
      rw [hx] at h
      simp only [Bool.true_and] at h
      split at h
      · cases h
      · rename_i hq
        cases hr : gath F true r with
        | none => rw [hr] at h; cases h
        | some s =>
          rw [hr] at h
          cases h
          have : q.length ≠ 0 := fun e => hq (by rw [List.length_eq_zero_iff.1 e]; rfl)
          exact ⟨q.length, by omega, by simp, by simp, by simp⟩
  · rintro ⟨m, h1, h2, hx, hr⟩
    rw [hx, hr]
    have : (p.take m).isEmpty = false := by
      cases hh : p.take m with
      | nil => have := congrArg List.length hh; rw [List.length_take, List.length_nil] at this; omega
      | cons => rfl
    simp [this]
theorem many_full {F : List UInt8 → List Vl} {wr : Vl → Option (List UInt8)} {k : Int} (hk : k = 6 ∨ k = 7) (hF : ∀ q, Full (F q) (fun v => v.Wf ∧ wr v = some q)) : ∀ (n : Nat) {lo hi : Int} {p : List UInt8}, p.length < n → 0 ≤ lo → 0 ≤ hi → Full (manyV F k n lo hi p) (SM wr k lo hi p) := by
  intro n
  induction n with
  | zero => intro lo hi p h; omega
  | succ n ih =>
    intro lo hi p hp hlo hhi
    have h0 : Full (if p = [] ∧ (k = 6 ∨ lo = 0) then [Vl.mk k 0 .empty 0 []] else []) (fun v => SM wr k lo hi p v ∧ v.kids = []) := by
      split
      · rename_i h
        refine .unit fun u => ⟨fun ⟨⟨_, h2, _⟩, h3⟩ => by rw [plain_eq h2, h3], fun e => ?_⟩
        subst e
        exact ⟨⟨wf_mk (by omega) (by omega) fun x hx => (by cases hx), mk_plain, by
          rw [Vl.kids_mk, List.length_nil]
          rcases h.2 with h | h
          · exact .inl h
          · exact .inr ⟨by omega, by omega⟩, by rw [h.1]; rfl⟩, rfl⟩
      · rename_i h
        refine .nil fun u ⟨⟨_, _, h3, h4⟩, h5⟩ => h ?_
        rw [h5] at h3 h4
        refine ⟨by cases h4; rfl, h3.imp_right fun h => ?_⟩
        simp only [List.length_nil] at h
        omega
    rw [manyV]
    by_cases hz : k = 7 ∧ hi = 0
    · simp only [if_pos hz]
      refine h0.congr fun v => ⟨fun h => h.1, fun h => ⟨h, ?_⟩⟩
      rcases h.2.2.1 with h1 | h1
      · omega
      · exact List.length_eq_zero_iff.1 (by omega)
    · simp only [if_neg hz]
      have h1 := crossV_full (A := F) (SA := fun q v => v.Wf ∧ wr v = some q) (B := manyV F k n (max (lo - 1) 0) (max (hi - 1) 0)) (SB := SM wr k (max (lo - 1) 0) (max (hi - 1) 0)) (J := fun a b => .mk k 0 .empty 0 (a :: b.kids)) (f := 1) (p := p) hF
        (fun m h1 h2 => ih (by rw [List.length_drop]; omega) (by omega) (by omega)) (fun x x' y y' q q' hy hy' e => by
          simp only [Vl.mk.injEq, List.cons.injEq, and_true, true_and] at e
          exact ⟨e.1, by rw [plain_eq hy.2.1, plain_eq hy'.2.1, e.2]⟩)
      refine (addsV_full2 h0 h1).congr fun v => ⟨fun h => ?_, fun h => ?_⟩
      · rcases h with h | ⟨m, x, y, q1, q2, hx, hy, rfl⟩
        · exact h.1
        · refine ⟨wf_mk (by omega) (by omega) fun z hz => ?_, mk_plain, ?_, gath_cons.2 ⟨m, q1, q2, hx.2, hy.2.2.2⟩⟩
          · rcases List.mem_cons.1 hz with rfl | hz
            · exact hx.1
            · exact hy.1.kid hz
          · rw [Vl.kids_mk, List.length_cons]
            rcases hy.2.2.1 with h | h
            · exact .inl h
            · rcases hk with hk | hk
              · exact .inl hk
              · exact .inr ⟨by omega, by omega⟩
      · cases hv : v.kids with
        | nil => exact .inl ⟨h, rfl⟩
        | cons x r =>
          refine .inr ?_
          have h4 := h.2.2.2
          rw [hv] at h4
          obtain ⟨m, q1, q2, hx, hr⟩ := gath_cons.1 h4
          refine ⟨m, x, .mk k 0 .empty 0 r, q1, q2, ⟨h.1.kid (by rw [hv]; exact List.mem_cons_self), hx⟩, ⟨wf_mk (by omega) (by omega) fun z hz => h.1.kid (by rw [hv]; exact List.mem_cons_of_mem _ hz), mk_plain, ?_, hr⟩, by rw [Vl.kids_mk, ← hv]; exact plain_eq h.2.1⟩
          rw [Vl.kids_mk]
          rcases h.2.2.1 with h | h
          · exact .inl h
          · rw [hv, List.length_cons] at h
            rcases hk with hk | hk
            · exact .inl hk
            · exact .inr ⟨by omega, by omega⟩
theorem byteOf_nat (b : UInt8) : byteOf (b.toNat : Int) = b := by
  unfold byteOf
  rw [Int.toNat_natCast]
  exact UInt8.ofNat_toNat ..
theorem frm8 {p q : List UInt8} : (¬ (p.length < 1 ∨ told (p.take 1) ≠ p.length - 1) ∧ q = p.drop 1) ↔ q.length ≤ 255 ∧ p = byteOf q.length :: q := by
  constructor
  · rintro ⟨h, rfl⟩
    cases p with
    | nil => exact absurd (.inl (by simp)) h
    | cons b r =>
      have h2 : told [b] = r.length := by
        refine Decidable.byContradiction fun h3 => h (.inr ?_)
        simpa using h3
      have h3 : told [b] = b.toNat := by simp [told]
      have hb := b.toNat_lt
      rw [List.drop_one, List.tail_cons]
      refine ⟨by omega, ?_⟩
      rw [← h2, h3, byteOf_nat]
  · rintro ⟨h1, rfl⟩
    refine ⟨?_, rfl⟩
    have h3 : told [byteOf q.length] = q.length := by
      simp only [told, List.foldl_cons, List.foldl_nil, Nat.zero_mul, Nat.zero_add, byteOf, Int.toNat_natCast, UInt8.toNat_ofNat']
      omega
    simp [h3]
theorem frm9 {p q : List UInt8} : (¬ (p.length < 2 ∨ told (p.take 2) ≠ p.length - 2) ∧ q = p.drop 2) ↔ q.length ≤ 65535 ∧ p = byteOf (q.length / 256) :: byteOf (q.length % 256) :: q := by
  have ht : ∀ b c : UInt8, told [b, c] = b.toNat * 256 + c.toNat := fun b c => by simp [told]
  constructor
  · rintro ⟨h, rfl⟩
    match p, h with
    | [], h => exact absurd (.inl (by simp)) h
    | [b], h => exact absurd (.inl (by simp)) h
    | b :: c :: r, h =>
      have h2 : told [b, c] = r.length := by
        refine Decidable.byContradiction fun h3 => h (.inr ?_)
        simpa using h3
      have h3 := ht b c
      have hb := b.toNat_lt
      have hc := c.toNat_lt
      rw [show (b :: c :: r).drop 2 = r from rfl]
      refine ⟨by omega, ?_⟩
      rw [show (r.length : Int) / 256 = (b.toNat : Int) by omega, show (r.length : Int) % 256 = (c.toNat : Int) by omega, byteOf_nat, byteOf_nat]
  · rintro ⟨h1, rfl⟩
    refine ⟨?_, rfl⟩
    have h3 : told [byteOf (q.length / 256), byteOf (q.length % 256)] = q.length := by
      rw [ht]
      unfold byteOf
      rw [UInt8.toNat_ofNat', UInt8.toNat_ofNat']
      omega
    simp [h3]
theorem fnd_full : ∀ (t : T), t.ok txtOk → ∀ p, Full (t.fnd p) (SV t p) := by
  intro t
  induction t with
  | void =>
    intro hok p
    unfold T.fnd
    have hw : ∀ u : Vl, SV .void p u ↔ p = [] ∧ u = .mk 1 0 .empty 0 [] := fun u => by
      unfold SV T.wr
      constructor
      · rintro ⟨_, h⟩
        split at h
        · rename_i hc
          rw [Bool.and_eq_true] at hc
          cases h
          exact ⟨rfl, by rw [plain_eq hc.1, List.isEmpty_iff.1 hc.2]⟩
        · cases h
      · rintro ⟨rfl, rfl⟩
        exact ⟨wf_mk (by omega) (by omega) fun x hx => (by cases hx), by rw [mk_plain]; rfl⟩
    split
    · rename_i h
      exact .unit fun u => (hw u).trans ⟨fun h => h.2, fun e => ⟨h, e⟩⟩
    · rename_i h
      exact .nil fun u hu => h ((hw u).1 hu).1
  | bytes c0 c1 c2 c3 =>
    intro hok p
    have hw : ∀ u : Vl, SV (.bytes c0 c1 c2 c3) p u ↔ ∃ b : UInt8, p = [b] ∧ clsHas c0 c1 c2 c3 b.toNat = true ∧ u = .mk 2 b.toNat .empty 0 [] := fun u => by
      unfold SV T.wr
      constructor
      · rintro ⟨hwf, h⟩
        split at h
        · rename_i hc
          rw [Bool.and_eq_true, Bool.and_eq_true] at hc
          cases h
          have hb := hwf.byte
          have e : ((byteOf u.byte).toNat : Int) = u.byte := by
            unfold byteOf
            rw [UInt8.toNat_ofNat']
            omega
          exact ⟨byteOf u.byte, rfl, by rw [e]; exact hc.2, by rw [plain_eq hc.1.1, List.isEmpty_iff.1 hc.1.2]; simp only [Vl.byte_mk, e]⟩
        · cases h
      · rintro ⟨b, rfl, hh, rfl⟩
        have := b.toNat_lt
        exact ⟨.mk _ _ _ _ _ ⟨by omega, by omega⟩ ⟨by omega, by omega⟩ ⟨by omega, by omega⟩ fun x hx => (by cases hx), by
          rw [if_pos (by rw [Vl.byte_mk, mk_plain, hh]; rfl), Vl.byte_mk, byteOf_nat]⟩
    unfold T.fnd
    split
    · rename_i b
      split
      · rename_i hh
        exact .unit fun u => (hw u).trans ⟨fun ⟨b', e, _, h⟩ => by cases e; exact h, fun e => ⟨b, rfl, hh, e⟩⟩
      · rename_i hh
        exact .nil fun u hu => by
          obtain ⟨b', e, h, _⟩ := (hw u).1 hu
          cases e
          exact hh h
    · rename_i hp
      exact .nil fun u hu => by
        obtain ⟨b', e, _⟩ := (hw u).1 hu
        exact hp b' e
  | text s =>
    intro hok p
    have hw : ∀ u : Vl, SV (.text s) p u ↔ p = s.data.toList ∧ u = .mk 3 0 s 0 [] := fun u => by
      unfold SV T.wr
      constructor
      · rintro ⟨_, h⟩
        split at h
        · rename_i hc
          rw [Bool.and_eq_true] at hc
          cases h
          exact ⟨rfl, by rw [plain_eq hc.1, List.isEmpty_iff.1 hc.2]⟩
        · cases h
      · rintro ⟨rfl, rfl⟩
        exact ⟨.mk _ _ _ _ _ ⟨by omega, by omega⟩ ⟨by omega, by omega⟩ ⟨by omega, by omega⟩ fun x hx => (by cases hx), by rw [mk_plain]; rfl⟩
    unfold T.fnd
    split
    · rename_i h
      exact .unit fun u => (hw u).trans ⟨fun h => h.2, fun e => ⟨h, e⟩⟩
    · rename_i h
      exact .nil fun u hu => h ((hw u).1 hu).1
  | two k a b iha ihb =>
    intro hok p
    have ha := iha hok.2.1
    have hb := ihb hok.2.2
    rcases hok.1 with rfl | rfl
    · rw [T.fnd, if_pos rfl]
      refine (crossV_full (J := fun x y => .mk 4 0 .empty 0 [x, y]) (f := 0) ha (fun m _ _ => hb _) (fun x x' y y' q q' _ _ e => by
        simp only [Vl.mk.injEq, List.cons.injEq, and_true, true_and] at e
        exact e)).congr fun v => ?_
      unfold SV
      rw [T.wr, if_pos rfl]
      constructor
      · rintro ⟨m, x, y, h1, h2, hx, hy, rfl⟩
        refine ⟨wf_mk (by omega) (by omega) fun z hz => ?_, ?_⟩
        · simp only [List.mem_cons, List.not_mem_nil, or_false] at hz
          rcases hz with rfl | rfl
          · exact hx.1
          · exact hy.1
        · rw [if_pos mk_plain]
          simp only [Vl.kids_mk, hx.2, hy.2, List.take_append_drop]
      · rintro ⟨hwf, h⟩
        split at h
        · rename_i hp
          split at h
          · rename_i x y hk
            split at h
            · rename_i q r hx hy
              cases h
              refine ⟨q.length, x, y, by omega, by simp, ⟨hwf.kid (by rw [hk]; simp), by simpa using hx⟩, ⟨hwf.kid (by rw [hk]; simp), by simpa using hy⟩, ?_⟩
              rw [← hk]
              exact plain_eq hp
            · cases h
          · cases h
        · cases h
    · rw [T.fnd, if_neg (by decide)]
      refine (addsV_full2 (wrapV_full (k := 5) (p := 0) (ha p)) (wrapV_full (k := 5) (p := 1) (hb p))).congr fun v => ?_
      unfold SV
      rw [T.wr, if_neg (by decide)]
      constructor
      · rintro (⟨x, hx, rfl⟩ | ⟨x, hx, rfl⟩)
        · refine ⟨wf_mk (by omega) (by omega) fun z hz => by rw [List.mem_singleton.1 hz]; exact hx.1, ?_⟩
          rw [if_pos mk_plain]
          simp only [Vl.kids_mk, hx.2]
        · refine ⟨wf_mk (by omega) (by omega) fun z hz => by rw [List.mem_singleton.1 hz]; exact hx.1, ?_⟩
          rw [if_neg (by simp [Vl.plain, Vl.pick_mk]), if_pos mk_plain]
          simp only [Vl.kids_mk, hx.2]
      · rintro ⟨hwf, h⟩
        split at h
        · rename_i hp
          split at h
          · rename_i x hk
            exact .inl ⟨x, ⟨hwf.kid (by rw [hk]; simp), h⟩, by rw [← hk]; exact plain_eq hp⟩
          · cases h
        · split at h
          · rename_i hp
            split at h
            · rename_i x hk
              exact .inr ⟨x, ⟨hwf.kid (by rw [hk]; simp), h⟩, by rw [← hk]; exact plain_eq hp⟩
            · cases h
          · cases h
  | one k lo hi a iha =>
    intro hok p
    have ha := iha hok.2
    rw [T.fnd]
    by_cases hk : k = 6 ∨ k = 7
    · rw [if_pos hk]
      have hb := hok.1
      refine (many_full hk ha _ (by omega) (by omega) (by omega)).congr fun v => ?_
      unfold SM SV
      rw [T.wr]
      constructor
      · rintro ⟨h1, h2, h3, h4⟩
        refine ⟨h1, ?_⟩
        rw [if_pos h2]
        rcases hk with rfl | rfl
        · rw [if_pos rfl]; exact h4
        · rw [if_neg (by decide), if_pos rfl, if_pos (by omega)]; exact h4
      · rintro ⟨h1, h⟩
        split at h
        · rename_i h2
          refine ⟨h1, h2, ?_⟩
          rcases hk with rfl | rfl
          · rw [if_pos rfl] at h; exact ⟨.inl rfl, h⟩
          · rw [if_neg (by decide), if_pos rfl] at h
            split at h
            · rename_i h3; exact ⟨.inr h3, h⟩
            · cases h
        · cases h
    · rw [if_neg hk]
      have hk2 : k = 8 ∨ k = 9 := by have := hok.1; omega
      have hw : ∀ (hd : Nat) (ok : List UInt8 → Prop) (fr : List UInt8 → List UInt8), (∀ q, (¬ (p.length < hd ∨ told (p.take hd) ≠ p.length - hd) ∧ q = p.drop hd) ↔ ok q ∧ p = fr q) → (∀ v : Vl, SV (.one k lo hi a) p v ↔ ∃ x q, x.Wf ∧ a.wr x = some q ∧ ok q ∧ p = fr q ∧ v = .mk k 0 .empty 0 [x]) → Full (frameV k a.fnd hd p) (SV (.one k lo hi a) p) := by
        intro hd ok fr e1 e2
        unfold frameV
        split
        · rename_i h
          refine .nil fun v hv => ?_
          obtain ⟨x, q, _, _, h3, h4, _⟩ := (e2 v).1 hv
          exact ((e1 q).2 ⟨h3, h4⟩).1 h
        · rename_i h
          refine (wrapV_full (ha (p.drop hd))).congr fun v => Iff.trans ?_ (e2 v).symm
          constructor
          · rintro ⟨x, hx, hv⟩
            have := (e1 _).1 ⟨h, rfl⟩
            exact ⟨x, _, hx.1, hx.2, this.1, this.2, hv⟩
          · rintro ⟨x, q, h1, h2, h3, h4, hv⟩
            have := ((e1 q).2 ⟨h3, h4⟩).2
            exact ⟨x, ⟨h1, this ▸ h2⟩, hv⟩
      have hs : ∀ v : Vl, SV (.one k lo hi a) p v ↔ ∃ x q, x.Wf ∧ a.wr x = some q ∧ (if k = 8 then q.length ≤ 255 ∧ p = byteOf q.length :: q else q.length ≤ 65535 ∧ p = byteOf (q.length / 256) :: byteOf (q.length % 256) :: q) ∧ v = .mk k 0 .empty 0 [x] := fun v => by
        unfold SV
        rw [T.wr]
        rw [if_neg (c := k = 6) (by omega), if_neg (c := k = 7) (by omega)]
        constructor
        · rintro ⟨hwf, h⟩
          split at h
          · rename_i hp
            split at h
            · rename_i x hkid
              split at h
              · rename_i q hx
                refine ⟨x, q, hwf.kid (by rw [hkid]; simp), hx, ?_, by rw [← hkid]; exact plain_eq hp⟩
                split at h
                · rename_i h8
                  rw [if_pos h8]
                  split at h
                  · rename_i hq; cases h; exact ⟨hq, rfl⟩
                  · cases h
                · rename_i h8
                  rw [if_neg h8]
                  split at h
                  · rename_i hq; cases h; exact ⟨hq, rfl⟩
                  · cases h
              · cases h
            · cases h
          · cases h
        · rintro ⟨x, q, h1, h2, h3, rfl⟩
          refine ⟨wf_mk (by omega) (by omega) fun z hz => by rw [List.mem_singleton.1 hz]; exact h1, ?_⟩
          rw [if_pos mk_plain]
          simp only [Vl.kids_mk, h2]
          split
          · rename_i h8
            rw [if_pos h8] at h3
            rw [if_pos h3.1, ← h3.2]
          · rename_i h8
            rw [if_neg h8] at h3
            rw [if_pos h3.1, ← h3.2]
      rcases hk2 with rfl | rfl
      · rw [if_pos rfl]
        refine hw 1 (fun q => q.length ≤ 255) (fun q => byteOf q.length :: q) (fun q => frm8) fun v => (hs v).trans ?_
        simp only [if_true, and_assoc]
      · rw [if_neg (by decide)]
        refine hw 2 (fun q => q.length ≤ 65535) (fun q => byteOf (q.length / 256) :: byteOf (q.length % 256) :: q) (fun q => frm9) fun v => (hs v).trans ?_
        simp only [show ¬ ((9 : Int) = 8) by decide, if_false, and_assoc]
end Go.Proofs.Ytpibdbjlilpfiaa

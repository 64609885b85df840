/- What a value's Kids write. -/
import Derived.Test.YtpibdbjlilpfiaaValO
import Derived.Test.YtpibdbjlilpfiaaValP
namespace Go.Proofs.Ytpibdbjlilpfiaa
set_option linter.all false
open Go Go.RowKit
open Nat (reduceEqDiff reduceAdd reduceMul reduceSub reduceLeDiff)
open Int (reduceEq reduceLT reduceLE)

theorem gath_flat {f : Vl → Option (List UInt8)} {full : Bool} : ∀ {l : List Vl} {w : List UInt8}, gath f full l = some w → (∀ x ∈ l, f x = some ((f x).getD [])) ∧ w = (l.map fun x => (f x).getD []).flatten
  | [], w, h => by simp [gath] at h; simp [h]
  | x :: r, w, h => by
    rw [gath] at h
    cases hf : f x with
    | none => rw [hf] at h; cases h
    | some p =>
      rw [hf] at h
      simp only at h
      split at h
      · cases h
      · cases hg : gath f full r with
        | none => rw [hg] at h; cases h
        | some q =>
          rw [hg] at h
          injection h with h
          subst h
          obtain ⟨i1, i2⟩ := gath_flat hg
          refine ⟨fun y hy => ?_, by simp [hf, i2]⟩
          rcases List.mem_cons.1 hy with rfl | hy
          · rw [hf]; rfl
          · exact i1 y hy
/-- Is it the second part that a Kid is of? -/
def sndP (k pick : Int) (i : Nat) : Bool := (decide (k = 4) && decide ((i : Int) = 1)) || (decide (k = 5) && decide (pick = 1))
def headW (k : Int) (p : List UInt8) : List UInt8 := if k = 8 then byteOf p.length :: p else if k = 9 then byteOf (p.length / 256 : Nat) :: byteOf (p.length % 256 : Nat) :: p else p
theorem wr_pick {txt : ByteArray → Prop} : ∀ {t : T} {v : Vl} {w : List UInt8}, t.ok txt → t.wr v = some w → t.kd ≠ 5 → v.pick = 0
  | .void, v, w, _, h, _ => by
    rw [T.wr.eq_def] at h
    simp only at h
    split at h
    · rename_i hc
      simp only [Bool.and_eq_true, Vl.plain_iff] at hc
      exact hc.1.2.2.2
    · cases h
  | .bytes c0 c1 c2 c3, v, w, _, h, _ => by
    rw [T.wr.eq_def] at h
    simp only at h
    split at h
    · rename_i hc
      simp only [Bool.and_eq_true, Vl.plain_iff] at hc
      exact hc.1.1.2.2.2
    · cases h
  | .text s, v, w, _, h, _ => by
    rw [T.wr.eq_def] at h
    simp only at h
    split at h
    · rename_i hc
      simp only [Bool.and_eq_true, Vl.plain_iff] at hc
      exact hc.1.2.2.2
    · cases h
  | .two k a b, v, w, hok, h, hk => by
    rw [T.wr.eq_def] at h
    simp only at h
    rcases hok.1 with rfl | rfl
    · simp only [if_true] at h
      split at h
      · rename_i hc
        rw [Vl.plain_iff] at hc
        exact hc.2.2.2
      · cases h
    · exact absurd rfl hk
  | .one k lo hi a, v, w, hok, h, _ => by
    rw [T.wr.eq_def] at h
    simp only at h
    split at h
    · rename_i hc
      rw [Vl.plain_iff] at hc
      exact hc.2.2.2
    · cases h
theorem wr_parts {l : List Nd} : ∀ {t : T} {v : Vl} {w : List UInt8}, Sits l 0 t → 4 ≤ t.kd → t.ok txtOk → t.cok → t.wr v = some w → ∃ (tr : Nat → T) (off : Nat → Nat) (pwl : List (List UInt8)), pwl.length = v.kids.length ∧
    (∀ i, i < v.kids.length → Sits l (off i) (tr i) ∧ (tr i).ok txtOk ∧ (tr i).cok ∧ (tr i).wr (v.kids.getD i Vl.z) = some (pwl.getD i []) ∧ (bif sndP t.kd v.pick i then (t.root 0).b else (t.root 0).a) = ((off i + ((tr i).n - 1) : Nat) : Int)) ∧ w = headW t.kd pwl.flatten
  | .void, _, _, _, h, _, _, _ => by simp [T.kd] at h
  | .bytes .., _, _, _, h, _, _, _ => by simp [T.kd] at h
  | .text _, _, _, _, h, _, _, _ => by simp [T.kd] at h
  | .two k a b, v, w, hs, _, hok, hc, h => by
    rw [T.wr.eq_def] at h
    simp only at h
    rcases hok.1 with rfl | rfl
    · simp only [if_true] at h
      split at h
      · split at h
        · rename_i x y hk
          split at h
          · rename_i p q hp hq
            injection h with h
            refine ⟨fun i => if i = 0 then a else b, fun i => if i = 0 then 0 else 0 + a.n, [p, q], by rw [hk]; rfl, fun i hi => ?_, by simp [headW, T.kd, ← h]⟩
            rw [hk] at hi ⊢
            match i, hi with
            | 0, _ => exact ⟨hs.two1, hok.2.1, hc.1, hp, rfl⟩
            | 1, _ => exact ⟨hs.two2, hok.2.2, hc.2, hq, rfl⟩
          · cases h
        · cases h
      · cases h
    · simp only [show ¬ ((5 : Int) = 4) by decide, if_false] at h
      split at h
      · rename_i hpl
        rw [Vl.plain_iff] at hpl
        split at h
        · rename_i x hk
          refine ⟨fun _ => a, fun _ => 0, [w], by rw [hk]; rfl, fun i hi => ?_, by simp [headW, T.kd]⟩
          rw [hk] at hi ⊢
          match i, hi with
          | 0, _ =>
            refine ⟨hs.two1, hok.2.1, hc.1, h, ?_⟩
            rw [hpl.2.2.2]
            rfl
        · cases h
      · split at h
        · rename_i hpl
          rw [Vl.plain_iff] at hpl
          split at h
          · rename_i x hk
            refine ⟨fun _ => b, fun _ => 0 + a.n, [w], by rw [hk]; rfl, fun i hi => ?_, by simp [headW, T.kd]⟩
            rw [hk] at hi ⊢
            match i, hi with
            | 0, _ =>
              refine ⟨hs.two2, hok.2.2, hc.2, h, ?_⟩
              rw [hpl.2.2.2]
              rfl
          · cases h
        · cases h
  | .one k lo hi a, v, w, hs, _, hok, hc, h => by
    rw [T.wr.eq_def] at h
    simp only at h
    have hsn : ∀ i, k ≠ 4 → k ≠ 5 → sndP (T.one k lo hi a).kd v.pick i = false := fun i h4 h5 => by simp [sndP, T.kd, h4, h5]
    have gen : ∀ {full : Bool} {w : List UInt8}, k ≠ 4 → k ≠ 5 → gath a.wr full v.kids = some w → ∃ (tr : Nat → T) (off : Nat → Nat) (pwl : List (List UInt8)), pwl.length = v.kids.length ∧
        (∀ i, i < v.kids.length → Sits l (off i) (tr i) ∧ (tr i).ok txtOk ∧ (tr i).cok ∧ (tr i).wr (v.kids.getD i Vl.z) = some (pwl.getD i []) ∧ (bif sndP (T.one k lo hi a).kd v.pick i then ((T.one k lo hi a).root 0).b else ((T.one k lo hi a).root 0).a) = ((off i + ((tr i).n - 1) : Nat) : Int)) ∧ w = pwl.flatten := fun {full w} h4 h5 hg => by
      obtain ⟨g1, g2⟩ := gath_flat hg
      refine ⟨fun _ => a, fun _ => 0, v.kids.map fun x => (a.wr x).getD [], by simp, fun i hi' => ⟨hs.one1, hok.2, hc, ?_, ?_⟩, g2⟩
      · have e : (v.kids.map fun x => (a.wr x).getD []).getD i [] = (a.wr (v.kids.getD i Vl.z)).getD [] := by
          rw [List.getD_eq_getElem?_getD, List.getElem?_map, List.getD_eq_getElem?_getD, List.getElem?_eq_getElem hi']
          rfl
        rw [e]
        exact g1 _ (getD_mem hi')
      · rw [hsn i h4 h5]
        rfl
    split at h
    · rcases hok.1 with ⟨rfl | hk, _, _⟩ | ⟨rfl, h0, h1, h2⟩
      · simp only [if_true] at h
        obtain ⟨tr, off, pwl, p1, p2, p3⟩ := gen (by decide) (by decide) h
        exact ⟨tr, off, pwl, p1, p2, by rw [p3]; simp [headW, T.kd]⟩
      · have h6 : ¬ k = 6 := by omega
        have h7 : ¬ k = 7 := by omega
        simp only [h6, h7, if_false] at h
        split at h
        · rename_i x hx
          split at h
          · rename_i p hp
            obtain ⟨tr, off, pwl, p1, p2, p3⟩ := gen (full := false) (w := p) (by omega) (by omega) (by rw [hx]; simp [gath, hp])
            refine ⟨tr, off, pwl, p1, p2, ?_⟩
            rw [← p3]
            rcases hk with rfl | rfl
            · simp only [if_true] at h
              split at h
              · injection h with h; rw [← h]; simp [headW, T.kd]
              · cases h
            · simp only [show ¬ ((9 : Int) = 8) by decide, if_false] at h
              split at h
              · injection h with h; rw [← h]; simp [headW, T.kd]
              · cases h
          · cases h
        · cases h
      · simp only [show ¬ ((7 : Int) = 6) by decide, if_false, if_true] at h
        split at h
        · obtain ⟨tr, off, pwl, p1, p2, p3⟩ := gen (by decide) (by decide) h
          exact ⟨tr, off, pwl, p1, p2, by rw [p3]; simp [headW, T.kd]⟩
        · cases h
    · cases h
theorem root_kd : ∀ {t : T} {off : Nat}, (t.root off).kind = t.kd
  | .void, _ => rfl
  | .bytes .., _ => rfl
  | .text _, _ => rfl
  | .two .., _ => rfl
  | .one .., _ => rfl
end Go.Proofs.Ytpibdbjlilpfiaa

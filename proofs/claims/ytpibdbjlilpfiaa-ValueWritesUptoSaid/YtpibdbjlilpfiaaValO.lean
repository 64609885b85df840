/- Values: what the laws share. -/
import Derived.Test.YtpibdbjlilpfiaaValG
namespace Go.Proofs.Ytpibdbjlilpfiaa
set_option linter.all false
open Go Go.RowKit
open Nat (reduceEqDiff reduceAdd reduceMul reduceSub reduceLeDiff)
open Int (reduceEq reduceLT reduceLE)

/-- Few values. -/
def fewV (v : Vl) : Bool := decide ((v.many : Int) ≤ 400) && decide ((v.text.size : Int) ≤ 400)
theorem c_fewVB {gl} {v : Vl} {b : Bool} (hb : v.bulk ≤ 1048577) (h : fewV v = b) : PCon Try.prog gl 15 [val v] (.bool b) := h ▸ c_fewV hb
theorem c_bytesT {gl} {a : List UInt8} (hm : a.length ≤ 9223372036854775807) : PCon Try.prog gl 18 [bys a, bys a] (.bool true) := by
  have := c_bytes (gl := gl) (a := a) (b := a) hm
  rwa [decide_eq_true rfl] at this
def T.kd : T → Int
  | .void => 1
  | .bytes .. => 2
  | .text _ => 3
  | .two k _ _ => k
  | .one k _ _ _ => k
def T.tx : T → ByteArray
  | .text s => s
  | _ => .empty
def T.kc : T → Nat
  | .two k _ _ => if k = 4 then 2 else 1
  | .one _ _ _ _ => 1
  | _ => 0
/-- What a value that writes a word looks like. -/
theorem wr_fits {txt : ByteArray → Prop} : ∀ {t : T} {v : Vl} {w : List UInt8}, t.ok txt → t.wr v = some w → v.kind = t.kd ∧ v.text = t.tx ∧ (t.kd ≠ 2 → v.byte = 0) ∧ (t.kd ≠ 6 → t.kd ≠ 7 → v.kids.length = t.kc)
  | .void, v, w, _, h => by
    rw [T.wr.eq_def] at h
    simp only at h
    split at h
    · rename_i hc
      simp only [Bool.and_eq_true, Vl.plain_iff, List.isEmpty_iff] at hc
      exact ⟨hc.1.1, hc.1.2.2.1, fun _ => hc.1.2.1, fun _ _ => by rw [hc.2]; rfl⟩
    · cases h
  | .bytes c0 c1 c2 c3, v, w, _, h => by
    rw [T.wr.eq_def] at h
    simp only at h
    split at h
    · rename_i hc
      simp only [Bool.and_eq_true, Vl.plain_iff, List.isEmpty_iff] at hc
      exact ⟨hc.1.1.1, hc.1.1.2.2.1, fun h => absurd rfl h, fun _ _ => by rw [hc.1.2]; rfl⟩
    · cases h
  | .text s, v, w, _, h => by
    rw [T.wr.eq_def] at h
    simp only at h
    split at h
    · rename_i hc
      simp only [Bool.and_eq_true, Vl.plain_iff, List.isEmpty_iff] at hc
      exact ⟨hc.1.1, hc.1.2.2.1, fun _ => hc.1.2.1, fun _ _ => by rw [hc.2]; rfl⟩
    · cases h
  | .two k a b, v, w, hok, h => by
    rw [T.wr.eq_def] at h
    simp only at h
    rcases hok.1 with rfl | rfl
    · simp only [if_true] at h
      split at h
      · rename_i hc
        rw [Vl.plain_iff] at hc
        split at h
        · rename_i x y hk
          exact ⟨hc.1, hc.2.2.1, fun _ => hc.2.1, fun _ _ => by rw [hk]; rfl⟩
        · cases h
      · cases h
    · simp only [show ¬ ((5 : Int) = 4) by decide, if_false] at h
      split at h
      · rename_i hc
        rw [Vl.plain_iff] at hc
        split at h
        · rename_i x hk
          exact ⟨hc.1, hc.2.2.1, fun _ => hc.2.1, fun _ _ => by rw [hk]; rfl⟩
        · cases h
      · split at h
        · rename_i hc
          rw [Vl.plain_iff] at hc
          split at h
          · rename_i x hk
            exact ⟨hc.1, hc.2.2.1, fun _ => hc.2.1, fun _ _ => by rw [hk]; rfl⟩
          · cases h
        · cases h
  | .one k lo hi a, v, w, hok, h => by
    rw [T.wr.eq_def] at h
    simp only at h
    split at h
    · rename_i hc
      rw [Vl.plain_iff] at hc
      refine ⟨hc.1, hc.2.2.1, fun _ => hc.2.1, fun h6 h7 => ?_⟩
      have h6' : ¬ k = 6 := h6
      have h7' : ¬ k = 7 := h7
      simp only [h6', h7', if_false] at h
      split at h
      · rename_i x hk
        rw [hk]; rfl
      · cases h
    · cases h
theorem kd_bd {txt : ByteArray → Prop} : ∀ {t : T}, t.ok txt → 1 ≤ t.kd ∧ t.kd ≤ 9
  | .void, _ => by simp [T.kd]
  | .bytes .., _ => by simp [T.kd]
  | .text _, _ => by simp [T.kd]
  | .two k _ _, h => by have := h.1; simp only [T.kd]; omega
  | .one k _ _ _, h => by have := h.1; simp only [T.kd]; omega
theorem wr_none {txt : ByteArray → Prop} {t : T} {x : Vl} (hok : t.ok txt) (h : ¬ (x.kind = t.kd ∧ x.text = t.tx ∧ (t.kd ≠ 2 → x.byte = 0) ∧ (t.kd ≠ 6 → t.kd ≠ 7 → x.kids.length = t.kc))) : t.wr x = none := by
  cases hw : t.wr x with
  | none => rfl
  | some w => exact absurd (wr_fits hok hw) h
theorem bulkL_app : ∀ (l m : List Vl), Vl.bulkL (l ++ m) = Vl.bulkL l + Vl.bulkL m
  | [], m => by simp [Vl.bulkL]
  | x :: r, m => by rw [List.cons_append, Vl.bulkL, Vl.bulkL, bulkL_app r m]; omega
end Go.Proofs.Ytpibdbjlilpfiaa

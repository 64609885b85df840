/- Values: what the walks of both writers share. -/
import Derived.Test.YtpibdbjlilpfiaaValD
import Derived.Test.YtpibdbjlilpfiaaFormB
namespace Go.Proofs.Ytpibdbjlilpfiaa
set_option linter.all false
open Go Go.RowKit
open Nat (reduceEqDiff reduceAdd reduceMul reduceSub reduceLeDiff)
open Int (reduceEq reduceLT reduceLE)

theorem kid_bulk {v : Vl} {B i : Nat} (hv : v.bulk ≤ B) (hi : i < v.kids.length) : (v.kids.getD i Vl.z).bulk ≤ B := by
  have h1 := v.bulk_eq
  have h2 := Vl.bulkL_mem (getD_mem hi)
  omega
theorem wr_bd {t : T} {v : Vl} {p : List UInt8} (hv : v.bulk ≤ 1048577) (h : t.wr v = some p) : p.length ≤ 4194304 := by
  have := T.wr_len h
  omega
theorem isEmpty_dec {v : Vl} {b : Bool} (h : v.kids.isEmpty = b) : decide ((v.kids.length : Int) = 0) = b := by
  cases hk : v.kids with
  | nil => rw [hk] at h; rw [← h]; rfl
  | cons x r => rw [hk] at h; rw [← h]; simp; omega
theorem one_getD {x : Int} {i : Nat} : [x].getD (min i ([x].length - 1)) 0 = x := by simp
theorem match_one {α : Type} {l : List Vl} (h : decide ((l.length : Int) = 1) = true) : ∃ x, l = [x] := by
  simp only [decide_eq_true_eq] at h
  exact List.length_eq_one_iff.1 (by omega)
theorem match_two {l : List Vl} (h : decide ((l.length : Int) = 2) = true) : ∃ x y, l = [x, y] := by
  simp only [decide_eq_true_eq] at h
  match l, (by omega : l.length = 2) with
  | [x, y], _ => exact ⟨x, y, rfl⟩
theorem no_twoK {α : Type} {kk : List Vl} {f : Vl → Vl → Option α} (h : decide ((kk.length : Int) = 2) = false) : (match kk with
    | [x, y] => f x y
    | _ => none) = none := by
  match kk, h with
  | [], _ => rfl
  | [x], _ => rfl
  | [x, y], h => simp at h
  | x :: y :: z :: r, _ => rfl
theorem no_oneK {α : Type} {kk : List Vl} {f : Vl → Option α} (h : decide ((kk.length : Int) = 1) = false) : (match kk with
    | [x] => f x
    | _ => none) = none := by
  match kk, h with
  | [], _ => rfl
  | [x], h => simp at h
  | x :: y :: r, _ => rfl
theorem gath_one {f : Vl → Option (List UInt8)} {x : Vl} : gathI (fun _ => f) false 0 [x] = f x := by
  simp only [gathI, Bool.false_and, Bool.false_eq_true, if_false]
  cases f x <;> simp
end Go.Proofs.Ytpibdbjlilpfiaa

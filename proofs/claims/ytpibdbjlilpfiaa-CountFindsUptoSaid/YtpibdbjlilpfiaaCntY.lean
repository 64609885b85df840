/- count: what the second law needs of values. -/
import Derived.Test.YtpibdbjlilpfiaaValF
namespace Go.Proofs.Ytpibdbjlilpfiaa
set_option linter.all false
open Go Go.RowKit
open Nat (reduceEqDiff reduceAdd reduceMul reduceSub reduceLeDiff)
open Int (reduceEq reduceLT reduceLE)

@[go_sem] def lv17 : List (Nat × List Nat) := [(0, [2, 3]), (1, [4, 5])]
def bs17 : List (Nat × List Nat × List Nat) := []
theorem wrR {gl} {t : T} {v : Vl} {o : Option (List UInt8)} (hl : t.n ≤ 1048576) (hok : t.ok txtOk) (hc : t.cok) (hv : v.bulk ≤ 1048577) (hwf : v.Wf) (h : t.wr v = o) : PCon Try.prog gl 17 [desc (t.flat 0), val v] (resW o) := by
  subst h
  have h0 := t.flat_len 0
  have hp := t.n_pos
  refine PCon.enter tb_ok (fn := Try.f17) (by kernel_rfl) (by kernel_rfl) rfl (by show 2 ≤ 15; decide) ?_
  repeat' first | refine Z1 fun _ _ => ?_ | refine Z2 ‹_› ?_ | ((first | refine Z3 tb_ok lv17 rfl ?_ | refine Zr rfl ?_); simp only [↓reduceIte, reduceCtorEq, reduceEqDiff, reduceAdd, reduceMul, reduceSub, reduceLeDiff, reduceEq, reduceLT, reduceLE, go_sem]) | refine ZS rfl ?_ | refine ZH ?_ | fail
  rw [h0, wrap64 (by omega) (by omega), show ((t.n : Int) - 1) = ((0 + (t.n - 1) : Nat) : Int) by omega]
  refine call_pure rfl rfl (c_at (by omega) t 0 (sits_flat t) hok hc v hv hwf) ?_; simp only [↓reduceIte, reduceCtorEq, reduceEqDiff, reduceAdd, reduceMul, reduceSub, reduceLeDiff, reduceEq, reduceLT, reduceLE, go_sem]
  repeat' first | refine Z1 fun _ _ => ?_ | refine Z2 ‹_› ?_ | ((first | refine Z3 tb_ok lv17 rfl ?_ | refine Zr rfl ?_); simp only [↓reduceIte, reduceCtorEq, reduceEqDiff, reduceAdd, reduceMul, reduceSub, reduceLeDiff, reduceEq, reduceLT, reduceLE, go_sem]) | refine ZS rfl ?_ | refine ZH ?_ | fail
def fewV (v : Vl) : Bool := decide ((v.many : Int) ≤ 400) && decide ((v.text.size : Int) ≤ 400)
theorem c_fewVB {gl} {v : Vl} {b : Bool} (hb : v.bulk ≤ 1048577) (h : fewV v = b) : PCon Try.prog gl 15 [val v] (.bool b) := h ▸ c_fewV hb
theorem c_bytesT {gl} {a : List UInt8} (hm : a.length ≤ 9223372036854775807) : PCon Try.prog gl 18 [bys a, bys a] (.bool true) := by
  have := c_bytes (gl := gl) (a := a) (b := a) hm
  rwa [decide_eq_true rfl] at this
end Go.Proofs.Ytpibdbjlilpfiaa

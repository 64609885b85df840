/- ref04.Sub. -/
import Derived.Test.YtpibdbjlilpfiaaFormF
namespace Go.Proofs.Ytpibdbjlilpfiaa
set_option linter.all false
open Go Go.RowKit
open Nat renaming reduceEqDiff → Y1, reduceAdd → Y2, reduceMul → Y3, reduceSub → Y4, reduceLeDiff → Y5
open Int renaming reduceEq → Y6, reduceLT → Y7, reduceLE → Y8
open _root_ renaming reduceIte → Y0, reduceCtorEq → Y9

@[go_sem] def lv24 : List (Nat × List Nat) := [(0, [1, 2, 4]), (1, [1, 2, 4, 5]), (2, [4])]
def bs24 : List (Nat × List Nat × List Nat) := []
theorem c_sub {gl} {l : List Nd} (hl : l.length ≤ 1048576) (htx : ∀ i, (l.getD i Nd.z).text.size ≤ 1048576) {off i : Nat} {t : T} (hs : Sits l off t) (he : off + t.n = i + 1) (hok : t.ok txtOk) : PCon Try.prog gl 24 [desc l, .int .i64 i] (desc (t.flat 0)) := by
  have hlt := hs.lt
  have hp := t.n_pos
  obtain ⟨r, h1, h2⟩ := c_first (gl := gl) hl htx (i + 1) (by omega)
  have hr : r = off := by
    rcases h1 with ⟨off', t', e, q1, q2, q3⟩ | ⟨e, h⟩
    · have := (sits_uniq t' q1 q2 q3 hs he hok).1
      omega
    · exact absurd (h off t hs he hok) id
  subst hr
  rw [show ((i + 1 : Nat) : Int) - 1 = i by omega] at h2
  refine PCon.enter tb_ok (fn := Try.f24) (by kernel_rfl) (by kernel_rfl) rfl (by show 2 ≤ 20; decide) ?_
  repeat' first | refine Z1 fun _ _ => ?_ | refine Z2 ‹_› ?_ | ((first | refine Z3 tb_ok lv24 rfl ?_ | refine Zr rfl ?_); simp only [↓Y0, Y9, Y1, Y2, Y3, Y4, Y5, Y6, Y7, Y8, go_sem]) | refine ZS rfl ?_ | refine ZH ?_ | fail
  refine call_pure rfl rfl (h2) ?_; simp only [↓Y0, Y9, Y1, Y2, Y3, Y4, Y5, Y6, Y7, Y8, go_sem]
  repeat' first | refine Z1 fun _ _ => ?_ | refine Z2 ‹_› ?_ | ((first | refine Z3 tb_ok lv24 rfl ?_ | refine Zr rfl ?_); simp only [↓Y0, Y9, Y1, Y2, Y3, Y4, Y5, Y6, Y7, Y8, go_sem]) | refine ZS rfl ?_ | refine ZH ?_ | fail
  have wi : IntKind.i64.wrap ((i : Int) + 1) = ((i + 1 : Nat) : Int) := wrap64 (by omega) (by omega)
  have w0 : IntKind.i64.wrap (0 - (off : Int)) = -(off : Int) := by rw [wrap64 (by omega) (by omega)]; omega
  have hcut : List.take (i + 1 - off) (List.drop off (List.map Nd.cells l)) = List.map Nd.cells (t.flat off) := by
    rw [← List.map_drop, ← List.map_take, show i + 1 - off = t.n by omega, sits_cut hs]
  simp only [wi, w0, Int.toNat_natCast, hcut]
  refine ⟨fun e he => by obtain ⟨n, _, rfl⟩ := List.mem_map.1 he; rfl, by omega, by omega, by omega, ?_⟩
  refine call_row rfl rfl (c_moved (l := t.flat off) (-(off : Int)) (by rw [T.flat_len]; omega)) ?_; simp only [↓Y0, Y9, Y1, Y2, Y3, Y4, Y5, Y6, Y7, Y8, go_sem]
  repeat' first | refine Z1 fun _ _ => ?_ | refine Z2 ‹_› ?_ | ((first | refine Z3 tb_ok lv24 rfl ?_ | refine Zr rfl ?_); simp only [↓Y0, Y9, Y1, Y2, Y3, Y4, Y5, Y6, Y7, Y8, go_sem]) | refine ZS rfl ?_ | refine ZH ?_ | fail
  rw [mvc_map, flat_mv (off' := 0) hok (by omega) (by omega) (by omega)]
end Go.Proofs.Ytpibdbjlilpfiaa

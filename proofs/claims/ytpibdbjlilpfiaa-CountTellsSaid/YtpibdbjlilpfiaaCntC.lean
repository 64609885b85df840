/- count: cross. -/
import Derived.Test.YtpibdbjlilpfiaaCntB
namespace Go.Proofs.Ytpibdbjlilpfiaa
set_option linter.all false
open Go Go.RowKit
open Nat (reduceEqDiff reduceAdd reduceMul reduceSub reduceLeDiff)
open Int (reduceEq reduceLT reduceLE)

theorem addsV_full {l : List Vl} (h : 2 ≤ l.length) : ∀ {m : List Vl}, addsV l m = l
  | [] => rfl
  | v :: m => by rw [addsV_cons, addV, if_pos h]; exact addsV_full h
theorem addV_mem {l : List Vl} {v u : Vl} (h : u ∈ addV l v) : u ∈ l ∨ u = v := by
  unfold addV at h
  split at h
  · exact .inl h
  · split at h
    · exact .inl h
    · rcases List.mem_append.1 h with h | h
      · exact .inl h
      · exact .inr (List.mem_singleton.1 h)
theorem addsV_mem {u : Vl} : ∀ {m l : List Vl}, u ∈ addsV l m → u ∈ l ∨ u ∈ m
  | [], _, h => .inl h
  | v :: m, l, h => by
    rcases addsV_mem (m := m) h with h | h
    · rcases addV_mem h with h | h
      · exact .inl h
      · exact .inr (h ▸ List.mem_cons_self)
    · exact .inr (List.mem_cons_of_mem _ h)
/-- What cross meets at one place, and at all. -/
def atL (A B : Nat → List Vl) (J : Vl → Vl → Vl) (mid : Nat) : List Vl := (B mid).flatMap fun y => (A mid).map fun x => J x y
def allL (A B : Nat → List Vl) (J : Vl → Vl → Vl) (a n : Nat) : List Vl := (List.range' a n).flatMap (atL A B J)
theorem allL_next {A B : Nat → List Vl} {J : Vl → Vl → Vl} {a n : Nat} : allL A B J a (n + 1) = allL A B J a n ++ atL A B J (a + n) := by
  unfold allL
  rw [List.range'_concat, List.flatMap_append]
  simp
theorem allL_split {A B : Nat → List Vl} {J : Vl → Vl → Vl} {a i n : Nat} (h : i ≤ n) : ∃ r, allL A B J a n = allL A B J a i ++ r := by
  induction n with
  | zero => exact ⟨[], by rw [Nat.le_zero.1 h]; simp⟩
  | succ n ih =>
    rcases Nat.lt_or_eq_of_le h with h | h
    · obtain ⟨r, hr⟩ := ih (Nat.le_of_lt_succ h)
      exact ⟨r ++ atL A B J (a + n), by rw [allL_next, hr, List.append_assoc]⟩
    · exact ⟨[], by rw [h]; simp⟩
theorem fm_take {α β : Type} {l : List α} {f : α → List β} (d : α) {i : Nat} (h : i < l.length) : (l.take (i + 1)).flatMap f = (l.take i).flatMap f ++ f (l.getD i d) := by
  rw [List.take_succ, List.getElem?_eq_getElem h, List.getD_eq_getElem?_getD, List.getElem?_eq_getElem h, List.flatMap_append]
  simp
theorem map_take1 {α β : Type} {l : List α} {f : α → β} (d : α) {i : Nat} (h : i < l.length) : (l.take (i + 1)).map f = (l.take i).map f ++ [f (l.getD i d)] := by
  rw [List.take_succ, List.getElem?_eq_getElem h, List.getD_eq_getElem?_getD, List.getElem?_eq_getElem h, List.map_append]
  simp
theorem getD_in {α : Type} {l : List α} (d : α) {i : Nat} (h : i < l.length) : l.getD i d ∈ l := by
  rw [List.getD_eq_getElem?_getD, List.getElem?_eq_getElem h]
  exact List.getElem_mem _
theorem atL_mem {A B : Nat → List Vl} {J : Vl → Vl → Vl} {m : Nat} {u : Vl} : u ∈ atL A B J m ↔ ∃ x y, x ∈ A m ∧ y ∈ B m ∧ u = J x y := by
  simp only [atL, List.mem_flatMap, List.mem_map]
  constructor
  · rintro ⟨y, hy, x, hx, rfl⟩
    exact ⟨x, y, hx, hy, rfl⟩
  · rintro ⟨x, y, hx, hy, rfl⟩
    exact ⟨y, hy, x, hx, rfl⟩
theorem allL_mem {A B : Nat → List Vl} {J : Vl → Vl → Vl} {a n : Nat} {u : Vl} : u ∈ allL A B J a n ↔ ∃ m x y, a ≤ m ∧ m < a + n ∧ x ∈ A m ∧ y ∈ B m ∧ u = J x y := by
  simp only [allL, List.mem_flatMap, List.mem_range'_1, atL_mem]
  constructor
  · rintro ⟨m, ⟨h1, h2⟩, x, y, hx, hy, rfl⟩
    exact ⟨m, x, y, h1, h2, hx, hy, rfl⟩
  · rintro ⟨m, x, y, h1, h2, hx, hy, rfl⟩
    exact ⟨m, ⟨h1, h2⟩, x, y, hx, hy, rfl⟩
@[go_sem] def lv63 : List (Nat × List Nat) := [(0, [2, 3, 4, 5, 7]), (1, [2, 3, 4, 5, 7, 13]), (2, [2, 3, 5, 7, 13, 14]), (3, [2, 3, 5, 7, 13, 14, 29]), (4, [2, 3, 5, 7, 13, 14]), (5, [2, 3, 5, 7, 13, 14, 15]), (6, [2, 3, 5, 7, 13, 14, 15, 37]), (7, [2, 3, 5, 7, 13, 14, 15, 40, 41, 42]), (8, [2, 3, 5, 7, 13, 14, 15, 40, 41, 42, 43]), (9, [2, 3, 5, 7, 13, 14, 15, 17, 40, 41, 42]), (10, [2, 3, 5, 7, 13, 14, 15, 17, 40, 41, 42, 46, 47, 48]), (11, [2, 3, 5, 7, 13, 14, 15, 17, 40, 41, 42, 46, 47, 48, 49]), (12, [2, 3, 5, 7, 13, 14, 15, 17, 19, 40, 41, 42, 46, 47, 48]), (13, [2, 3, 5, 7, 13, 14, 15, 17, 40, 41, 42, 46, 47, 48]), (14, [2, 3, 5, 7, 13, 14, 15, 17, 40, 41, 42, 46, 47, 48]), (15, [2, 3, 5, 7, 13, 14, 15, 40, 41, 42]), (16, [12])]
def bs63 : List (Nat × List Nat × List Nat) := []
set_option maxHeartbeats 4000000 in
theorem c_cross {gl : GL} {r : D} {n0 n1 n2 : Int} {f1 f2 f3 from' a to : Nat} {C1 C2 C3 : List D} {A B : Nat → List Vl} {J : Vl → Vl → Vl} (hto : to ≤ 1048576) (ha : a ≤ to + 1) (hA : ∀ mid, (A mid).length ≤ 2) (hB : ∀ mid, (B mid).length ≤ 2)
    (hJ : ∀ mid x y, a ≤ mid → mid ≤ to → x ∈ A mid → y ∈ B mid → (J x y).bulk ≤ 1048577) (h1 : ∀ mid : Nat, a ≤ mid → mid ≤ to → PCon Try.prog gl f1 (.int .i64 mid :: C1) (vals (A mid))) (h2 : ∀ mid : Nat, a ≤ mid → mid ≤ to → PCon Try.prog gl f2 (.int .i64 mid :: C2) (vals (B mid)))
    (h3 : ∀ (mid : Nat) x y, a ≤ mid → mid ≤ to → x ∈ A mid → y ∈ B mid → PCon Try.prog gl f3 (val x :: val y :: C3) (val (J x y))) : PCon Try.prog gl 63 [r, keyD [n0, n1, n2, from', to], .fn f1 [] C1, .fn f2 [] C2, .int .i64 a, .fn f3 [] C3] (vals (addsV [] (allL A B J a (to + 1 - a)))) := by
  refine PCon.enter tb_ok (fn := Try.f63) (by kernel_rfl) (by kernel_rfl) rfl (by show 6 ≤ 61; decide) ?_
  simp only [keyD, List.map_cons, List.map_nil]
  repeat' first | refine Z1 fun _ _ => ?_ | refine Z2 ‹_› ?_ | ((first | refine Z3 tb_ok lv63 rfl ?_ | refine Zr rfl ?_); simp only [↓reduceIte, reduceCtorEq, reduceEqDiff, reduceAdd, reduceMul, reduceSub, reduceLeDiff, reduceEq, reduceLT, reduceLE, go_sem]) | (refine Z5 rfl ?_; with_reducible first | refine ZT ?_ | refine ZF ?_) | refine ZS rfl ?_ | refine Z9 fun _ _ => ?_ | refine ZH ?_ | refine Zl ‹_› (by decide) ?_ | fail
  refine .adopt 13 27 5 rfl (by decide) ?_
  simp only [↓reduceIte, reduceCtorEq, reduceEqDiff, reduceAdd, reduceMul, reduceSub, reduceLeDiff, reduceEq, reduceLT, reduceLE, go_sem]
  refine .loopS (α := Nat) (fun i => ⟨[(13, .own 5), (2, .d (.fn f1 [] C1)), (3, .d (.fn f2 [] C2)), (5, .d (.fn f3 [] C3)), (7, .ref 0 0), (14, .d (.int .i64 ((a + i : Nat) : Int)))], [(5, .row true 27 5 ((addsV [] (allL A B J a i)).map Vl.cells)), (0, .box true [.d (.int .i64 n0), .d (.int .i64 n1), .d (.int .i64 n2), .d (.int .i64 from'), .d (.int .i64 to)])], 6⟩) (fun i => a + i ≤ to + 1) (fun i => to + 1 - (a + i)) 0 (by omega) [] rfl (by simp only [↓reduceIte, reduceCtorEq, reduceEqDiff, reduceAdd, reduceMul, reduceSub, reduceLeDiff, reduceEq, reduceLT, reduceLE, go_sem]; simp [allL, addsV]) ?_
  intro i hi Q hQ
  have hl2 : (addsV [] (allL A B J a i)).length ≤ 2 := addsV_len (by simp)
  repeat' first | refine Z1 fun _ _ => ?_ | refine Z2 ‹_› ?_ | ((first | refine Z3 tb_ok lv63 rfl ?_ | refine Zr rfl ?_); simp only [↓reduceIte, reduceCtorEq, reduceEqDiff, reduceAdd, reduceMul, reduceSub, reduceLeDiff, reduceEq, reduceLT, reduceLE, go_sem]) | (refine Z5 rfl ?_; with_reducible first | refine ZT ?_ | refine ZF ?_) | refine ZS rfl ?_ | refine Z9 fun _ _ => ?_ | refine ZH ?_ | refine Zl ‹_› (by decide) ?_ | fail
  refine .split rfl (fun g1 => ?_) (fun g1 => ?_) <;> simp only [↓reduceIte, reduceCtorEq, reduceEqDiff, reduceAdd, reduceMul, reduceSub, reduceLeDiff, reduceEq, reduceLT, reduceLE, go_sem, g1]
  · simp only [decide_eq_true_eq] at g1
    have g1' : a + i ≤ to := by omega
    repeat' first | refine Z1 fun _ _ => ?_ | refine Z2 ‹_› ?_ | ((first | refine Z3 tb_ok lv63 rfl ?_ | refine Zr rfl ?_); simp only [↓reduceIte, reduceCtorEq, reduceEqDiff, reduceAdd, reduceMul, reduceSub, reduceLeDiff, reduceEq, reduceLT, reduceLE, go_sem]) | (refine Z5 rfl ?_; with_reducible first | refine ZT ?_ | refine ZF ?_) | refine ZS rfl ?_ | refine Z9 fun _ _ => ?_ | refine ZH ?_ | refine Zl ‹_› (by decide) ?_ | fail
    refine .cond rfl (fun g2 => ?_) (fun g2 => ?_)
    · simp only [decide_eq_true_eq] at g2
      repeat' first | refine Z1 fun _ _ => ?_ | refine Z2 ‹_› ?_ | ((first | refine Z3 tb_ok lv63 rfl ?_ | refine Zr rfl ?_); simp only [↓reduceIte, reduceCtorEq, reduceEqDiff, reduceAdd, reduceMul, reduceSub, reduceLeDiff, reduceEq, reduceLT, reduceLE, go_sem]) | (refine Z5 rfl ?_; with_reducible first | refine ZT ?_ | refine ZF ?_) | refine ZS rfl ?_ | refine Z9 fun _ _ => ?_ | refine ZH ?_ | refine Zl ‹_› (by decide) ?_ | fail
      have hc1 := h1 (a + i) (by omega) g1'
      refine call_pure rfl rfl (hc1) ?_; simp only [↓reduceIte, reduceCtorEq, reduceEqDiff, reduceAdd, reduceMul, reduceSub, reduceLeDiff, reduceEq, reduceLT, reduceLE, go_sem]
      repeat' first | refine Z1 fun _ _ => ?_ | refine Z2 ‹_› ?_ | ((first | refine Z3 tb_ok lv63 rfl ?_ | refine Zr rfl ?_); simp only [↓reduceIte, reduceCtorEq, reduceEqDiff, reduceAdd, reduceMul, reduceSub, reduceLeDiff, reduceEq, reduceLT, reduceLE, go_sem]) | (refine Z5 rfl ?_; with_reducible first | refine ZT ?_ | refine ZF ?_) | refine ZS rfl ?_ | refine Z9 fun _ _ => ?_ | refine ZH ?_ | refine Zl ‹_› (by decide) ?_ | fail
      refine .cond rfl (fun g3 => ?_) (fun g3 => ?_)
      · simp only [decide_eq_true_eq] at g3
        have g3' : A (a + i) = [] := List.length_eq_zero_iff.1 (by omega)
        repeat' first | refine Z1 fun _ _ => ?_ | refine Z2 ‹_› ?_ | ((first | refine Z3 tb_ok lv63 rfl ?_ | refine Zr rfl ?_); simp only [↓reduceIte, reduceCtorEq, reduceEqDiff, reduceAdd, reduceMul, reduceSub, reduceLeDiff, reduceEq, reduceLT, reduceLE, go_sem]) | (refine Z5 rfl ?_; with_reducible first | refine ZT ?_ | refine ZF ?_) | refine ZS rfl ?_ | refine Z9 fun _ _ => ?_ | refine ZH ?_ | refine Zl ‹_› (by decide) ?_ | fail
        rw [wrap64 (by omega) (by omega)]
        refine hQ.next (i + 1) [] (by omega) (by omega) rfl ?_
        rw [allL_next, addsV_app, show atL A B J (a + i) = [] by simp [atL, g3']]
        simp only [↓reduceIte, reduceCtorEq, reduceEqDiff, reduceAdd, reduceMul, reduceSub, reduceLeDiff, reduceEq, reduceLT, reduceLE, go_sem]
        simp [addsV]
        omega
      · simp only [decide_eq_false_iff_not] at g3
        repeat' first | refine Z1 fun _ _ => ?_ | refine Z2 ‹_› ?_ | ((first | refine Z3 tb_ok lv63 rfl ?_ | refine Zr rfl ?_); simp only [↓reduceIte, reduceCtorEq, reduceEqDiff, reduceAdd, reduceMul, reduceSub, reduceLeDiff, reduceEq, reduceLT, reduceLE, go_sem]) | (refine Z5 rfl ?_; with_reducible first | refine ZT ?_ | refine ZF ?_) | refine ZS rfl ?_ | refine Z9 fun _ _ => ?_ | refine ZH ?_ | refine Zl ‹_› (by decide) ?_ | fail
        have hc2 := h2 (a + i) (by omega) g1'
        refine call_pure rfl rfl (hc2) ?_; simp only [↓reduceIte, reduceCtorEq, reduceEqDiff, reduceAdd, reduceMul, reduceSub, reduceLeDiff, reduceEq, reduceLT, reduceLE, go_sem]
        repeat' first | refine Z1 fun _ _ => ?_ | refine Z2 ‹_› ?_ | ((first | refine Z3 tb_ok lv63 rfl ?_ | refine Zr rfl ?_); simp only [↓reduceIte, reduceCtorEq, reduceEqDiff, reduceAdd, reduceMul, reduceSub, reduceLeDiff, reduceEq, reduceLT, reduceLE, go_sem]) | (refine Z5 rfl ?_; with_reducible first | refine ZT ?_ | refine ZF ?_) | refine ZS rfl ?_ | refine Z9 fun _ _ => ?_ | refine ZH ?_ | refine Zl ‹_› (by decide) ?_ | fail
        refine .loopS (α := Nat) (fun j => ⟨[(13, .own 5), (2, .d (.fn f1 [] C1)), (3, .d (.fn f2 [] C2)), (5, .d (.fn f3 [] C3)), (7, .ref 0 0), (14, .d (.int .i64 ((a + i : Nat) : Int))), (15, .d (vals (A (a + i)))), (40, .d (vals (B (a + i)))), (41, .d (.int .i64 (B (a + i)).length)), (42, .d (.int .i64 j))], [(5, .row true 27 5 ((addsV [] (allL A B J a i ++ ((B (a + i)).take j).flatMap fun y => (A (a + i)).map fun x => J x y)).map Vl.cells)), (0, .box true [.d (.int .i64 n0), .d (.int .i64 n1), .d (.int .i64 n2), .d (.int .i64 from'), .d (.int .i64 to)])], 6⟩) (fun j => j ≤ (B (a + i)).length) (fun j => (B (a + i)).length - j) 0 (by omega) [] rfl (by simp only [↓reduceIte, reduceCtorEq, reduceEqDiff, reduceAdd, reduceMul, reduceSub, reduceLeDiff, reduceEq, reduceLT, reduceLE, go_sem]; simp) ?_
        intro j hj Q2 hQ2
        have hB' := hB (a + i)
        have hA' := hA (a + i)
        repeat' first | refine Z1 fun _ _ => ?_ | refine Z2 ‹_› ?_ | ((first | refine Z3 tb_ok lv63 rfl ?_ | refine Zr rfl ?_); simp only [↓reduceIte, reduceCtorEq, reduceEqDiff, reduceAdd, reduceMul, reduceSub, reduceLeDiff, reduceEq, reduceLT, reduceLE, go_sem]) | (refine Z5 rfl ?_; with_reducible first | refine ZT ?_ | refine ZF ?_) | refine ZS rfl ?_ | refine Z9 fun _ _ => ?_ | refine ZH ?_ | refine Zl ‹_› (by decide) ?_ | fail
        refine .cond rfl (fun g4 => ?_) (fun g4 => ?_)
        · simp only [decide_eq_true_eq] at g4
          have g4' : j < (B (a + i)).length := by omega
          repeat' first | refine Z1 fun _ _ => ?_ | refine Z2 ‹_› ?_ | ((first | refine Z3 tb_ok lv63 rfl ?_ | refine Zr rfl ?_); simp only [↓reduceIte, reduceCtorEq, reduceEqDiff, reduceAdd, reduceMul, reduceSub, reduceLeDiff, reduceEq, reduceLT, reduceLE, go_sem]) | (refine Z5 rfl ?_; with_reducible first | refine ZT ?_ | refine ZF ?_) | refine ZS rfl ?_ | refine Z9 fun _ _ => ?_ | refine ZH ?_ | refine Zl ‹_› (by decide) ?_ | fail
          refine idx_map (j := j) Vl.z rfl rfl rfl rfl rfl (by omega) (by omega) (Vl.cells_len _) ?_
          simp only [↓reduceIte, reduceCtorEq, reduceEqDiff, reduceAdd, reduceMul, reduceSub, reduceLeDiff, reduceEq, reduceLT, reduceLE, go_sem]
          repeat' first | refine Z1 fun _ _ => ?_ | refine Z2 ‹_› ?_ | ((first | refine Z3 tb_ok lv63 rfl ?_ | refine Zr rfl ?_); simp only [↓reduceIte, reduceCtorEq, reduceEqDiff, reduceAdd, reduceMul, reduceSub, reduceLeDiff, reduceEq, reduceLT, reduceLE, go_sem]) | (refine Z5 rfl ?_; with_reducible first | refine ZT ?_ | refine ZF ?_) | refine ZS rfl ?_ | refine Z9 fun _ _ => ?_ | refine ZH ?_ | refine Zl ‹_› (by decide) ?_ | fail
          refine .loopS (α := Nat) (fun q => ⟨[(13, .own 5), (2, .d (.fn f1 [] C1)), (3, .d (.fn f2 [] C2)), (5, .d (.fn f3 [] C3)), (7, .ref 0 0), (14, .d (.int .i64 ((a + i : Nat) : Int))), (15, .d (vals (A (a + i)))), (17, .ref 9 0), (40, .d (vals (B (a + i)))), (41, .d (.int .i64 (B (a + i)).length)), (42, .d (.int .i64 j)), (46, .d (vals (A (a + i)))), (47, .d (.int .i64 (A (a + i)).length)), (48, .d (.int .i64 q))], [(9, .box true [.d (.int .i64 ((B (a + i)).getD j Vl.z).kind), .d (.int .u8 ((B (a + i)).getD j Vl.z).byte), .d (.str ((B (a + i)).getD j Vl.z).text), .d (.int .i64 ((B (a + i)).getD j Vl.z).pick), .d (.slice (((B (a + i)).getD j Vl.z).kids.map Vl.cells))]), (5, .row true 27 5 ((addsV [] (allL A B J a i ++ (((B (a + i)).take j).flatMap fun y => (A (a + i)).map fun x => J x y) ++ ((A (a + i)).take q).map fun x => J x ((B (a + i)).getD j Vl.z))).map Vl.cells)), (0, .box true [.d (.int .i64 n0), .d (.int .i64 n1), .d (.int .i64 n2), .d (.int .i64 from'), .d (.int .i64 to)])], 14⟩) (fun q => q ≤ (A (a + i)).length) (fun q => (A (a + i)).length - q) 0 (by omega) [] rfl (by simp only [↓reduceIte, reduceCtorEq, reduceEqDiff, reduceAdd, reduceMul, reduceSub, reduceLeDiff, reduceEq, reduceLT, reduceLE, go_sem]; simp) ?_
          intro q hq Q3 hQ3
          repeat' first | refine Z1 fun _ _ => ?_ | refine Z2 ‹_› ?_ | ((first | refine Z3 tb_ok lv63 rfl ?_ | refine Zr rfl ?_); simp only [↓reduceIte, reduceCtorEq, reduceEqDiff, reduceAdd, reduceMul, reduceSub, reduceLeDiff, reduceEq, reduceLT, reduceLE, go_sem]) | (refine Z5 rfl ?_; with_reducible first | refine ZT ?_ | refine ZF ?_) | refine ZS rfl ?_ | refine Z9 fun _ _ => ?_ | refine ZH ?_ | refine Zl ‹_› (by decide) ?_ | fail
          refine .cond rfl (fun g5 => ?_) (fun g5 => ?_)
          · simp only [decide_eq_true_eq] at g5
            have g5' : q < (A (a + i)).length := by omega
            repeat' first | refine Z1 fun _ _ => ?_ | refine Z2 ‹_› ?_ | ((first | refine Z3 tb_ok lv63 rfl ?_ | refine Zr rfl ?_); simp only [↓reduceIte, reduceCtorEq, reduceEqDiff, reduceAdd, reduceMul, reduceSub, reduceLeDiff, reduceEq, reduceLT, reduceLE, go_sem]) | (refine Z5 rfl ?_; with_reducible first | refine ZT ?_ | refine ZF ?_) | refine ZS rfl ?_ | refine Z9 fun _ _ => ?_ | refine ZH ?_ | refine Zl ‹_› (by decide) ?_ | fail
            refine idx_map (j := q) Vl.z rfl rfl rfl rfl rfl (by omega) (by omega) (Vl.cells_len _) ?_
            simp only [↓reduceIte, reduceCtorEq, reduceEqDiff, reduceAdd, reduceMul, reduceSub, reduceLeDiff, reduceEq, reduceLT, reduceLE, go_sem]
            repeat' first | refine Z1 fun _ _ => ?_ | refine Z2 ‹_› ?_ | ((first | refine Z3 tb_ok lv63 rfl ?_ | refine Zr rfl ?_); simp only [↓reduceIte, reduceCtorEq, reduceEqDiff, reduceAdd, reduceMul, reduceSub, reduceLeDiff, reduceEq, reduceLT, reduceLE, go_sem]) | (refine Z5 rfl ?_; with_reducible first | refine ZT ?_ | refine ZF ?_) | refine ZS rfl ?_ | refine Z9 fun _ _ => ?_ | refine ZH ?_ | refine Zl ‹_› (by decide) ?_ | fail
            have hc3 := h3 (a + i) ((A (a + i)).getD q Vl.z) ((B (a + i)).getD j Vl.z) (by omega) g1' (getD_in Vl.z g5') (getD_in Vl.z g4')
            simp only [val, Vl.cells_eq] at hc3
            refine call_pure rfl rfl (hc3) ?_; simp only [↓reduceIte, reduceCtorEq, reduceEqDiff, reduceAdd, reduceMul, reduceSub, reduceLeDiff, reduceEq, reduceLT, reduceLE, go_sem]
            repeat' first | refine Z1 fun _ _ => ?_ | refine Z2 ‹_› ?_ | ((first | refine Z3 tb_ok lv63 rfl ?_ | refine Zr rfl ?_); simp only [↓reduceIte, reduceCtorEq, reduceEqDiff, reduceAdd, reduceMul, reduceSub, reduceLeDiff, reduceEq, reduceLT, reduceLE, go_sem]) | (refine Z5 rfl ?_; with_reducible first | refine ZT ?_ | refine ZF ?_) | refine ZS rfl ?_ | refine Z9 fun _ _ => ?_ | refine ZH ?_ | refine Zl ‹_› (by decide) ?_ | fail
            have hcur : (addsV [] (allL A B J a i ++ (((B (a + i)).take j).flatMap fun y => (A (a + i)).map fun x => J x y) ++ ((A (a + i)).take q).map fun x => J x ((B (a + i)).getD j Vl.z))).length ≤ 2 := addsV_len (by simp)
            have hbk : ∀ u ∈ addsV [] (allL A B J a i ++ (((B (a + i)).take j).flatMap fun y => (A (a + i)).map fun x => J x y) ++ ((A (a + i)).take q).map fun x => J x ((B (a + i)).getD j Vl.z)), u.bulk ≤ 1048577 := fun u hu => by
              rcases addsV_mem hu with hu | hu
              · cases hu
              · rw [List.mem_append, List.mem_append] at hu
                rcases hu with (hu | hu) | hu
                · obtain ⟨m, x, y, q1, q2, q3, q4, rfl⟩ := allL_mem.1 hu
                  exact hJ m x y q1 (by omega) q3 q4
                · simp only [List.mem_flatMap, List.mem_map] at hu
                  obtain ⟨y, hy, x, hx, rfl⟩ := hu
                  exact hJ (a + i) x y (by omega) g1' hx (List.mem_of_mem_take hy)
                · simp only [List.mem_map] at hu
                  obtain ⟨x, hx, rfl⟩ := hu
                  exact hJ (a + i) x _ (by omega) g1' (List.mem_of_mem_take hx) (getD_in Vl.z g4')
            have hca := c_add (gl := gl) (v := J ((A (a + i)).getD q Vl.z) ((B (a + i)).getD j Vl.z)) hcur hbk
            simp only [val, Vl.cells_eq] at hca
            rw [show (addV (addsV [] (allL A B J a i ++ (((B (a + i)).take j).flatMap fun y => (A (a + i)).map fun x => J x y) ++ ((A (a + i)).take q).map fun x => J x ((B (a + i)).getD j Vl.z))) (J ((A (a + i)).getD q Vl.z) ((B (a + i)).getD j Vl.z))) = addsV [] (allL A B J a i ++ (((B (a + i)).take j).flatMap fun y => (A (a + i)).map fun x => J x y) ++ ((A (a + i)).take (q + 1)).map fun x => J x ((B (a + i)).getD j Vl.z)) by rw [map_take1 Vl.z g5', ← List.append_assoc, addsV_app (n := [_])]; rfl] at hca
            refine call_step rfl rfl (st_callA1 rfl rfl rfl rfl rfl (hca)) ?_; simp only [↓reduceIte, reduceCtorEq, reduceEqDiff, reduceAdd, reduceMul, reduceSub, reduceLeDiff, reduceEq, reduceLT, reduceLE, go_sem]
            repeat' first | refine Z1 fun _ _ => ?_ | refine Z2 ‹_› ?_ | ((first | refine Z3 tb_ok lv63 rfl ?_ | refine Zr rfl ?_); simp only [↓reduceIte, reduceCtorEq, reduceEqDiff, reduceAdd, reduceMul, reduceSub, reduceLeDiff, reduceEq, reduceLT, reduceLE, go_sem]) | (refine Z5 rfl ?_; with_reducible first | refine ZT ?_ | refine ZF ?_) | refine ZS rfl ?_ | refine Z9 fun _ _ => ?_ | refine ZH ?_ | refine Zl ‹_› (by decide) ?_ | fail
            rw [wrap64 (by omega) (by omega)]
            exact hQ3.next (q + 1) [(24, 5)] (by omega) (by omega) rfl (by simp only [↓reduceIte, reduceCtorEq, reduceEqDiff, reduceAdd, reduceMul, reduceSub, reduceLeDiff, reduceEq, reduceLT, reduceLE, go_sem]; try simp)
          · simp only [decide_eq_false_iff_not] at g5
            have g5' : q = (A (a + i)).length := by omega
            repeat' first | refine Z1 fun _ _ => ?_ | refine Z2 ‹_› ?_ | ((first | refine Z3 tb_ok lv63 rfl ?_ | refine Zr rfl ?_); simp only [↓reduceIte, reduceCtorEq, reduceEqDiff, reduceAdd, reduceMul, reduceSub, reduceLeDiff, reduceEq, reduceLT, reduceLE, go_sem]) | (refine Z5 rfl ?_; with_reducible first | refine ZT ?_ | refine ZF ?_) | refine ZS rfl ?_ | refine Z9 fun _ _ => ?_ | refine ZH ?_ | refine Zl ‹_› (by decide) ?_ | fail
            rw [wrap64 (by omega) (by omega)]
            refine hQ2.next (j + 1) [] (by omega) (by omega) rfl ?_
            rw [fm_take Vl.z g4', ← List.append_assoc]
            simp only [↓reduceIte, reduceCtorEq, reduceEqDiff, reduceAdd, reduceMul, reduceSub, reduceLeDiff, reduceEq, reduceLT, reduceLE, go_sem]
            simp [g5']
        · simp only [decide_eq_false_iff_not] at g4
          repeat' first | refine Z1 fun _ _ => ?_ | refine Z2 ‹_› ?_ | ((first | refine Z3 tb_ok lv63 rfl ?_ | refine Zr rfl ?_); simp only [↓reduceIte, reduceCtorEq, reduceEqDiff, reduceAdd, reduceMul, reduceSub, reduceLeDiff, reduceEq, reduceLT, reduceLE, go_sem]) | (refine Z5 rfl ?_; with_reducible first | refine ZT ?_ | refine ZF ?_) | refine ZS rfl ?_ | refine Z9 fun _ _ => ?_ | refine ZH ?_ | refine Zl ‹_› (by decide) ?_ | fail
          rw [wrap64 (by omega) (by omega)]
          refine hQ.next (i + 1) [] (by omega) (by omega) rfl ?_
          rw [allL_next, atL]
          simp only [↓reduceIte, reduceCtorEq, reduceEqDiff, reduceAdd, reduceMul, reduceSub, reduceLeDiff, reduceEq, reduceLT, reduceLE, go_sem]
          simp [show j = (B (a + i)).length by omega]
          omega
    · simp only [decide_eq_false_iff_not] at g2
      repeat' first | refine Z1 fun _ _ => ?_ | refine Z2 ‹_› ?_ | ((first | refine Z3 tb_ok lv63 rfl ?_ | refine Zr rfl ?_); simp only [↓reduceIte, reduceCtorEq, reduceEqDiff, reduceAdd, reduceMul, reduceSub, reduceLeDiff, reduceEq, reduceLT, reduceLE, go_sem]) | (refine Z5 rfl ?_; with_reducible first | refine ZT ?_ | refine ZF ?_) | refine ZS rfl ?_ | refine Z9 fun _ _ => ?_ | refine ZH ?_ | refine Zl ‹_› (by decide) ?_ | fail
      obtain ⟨r, hr⟩ := allL_split (A := A) (B := B) (J := J) (a := a) (i := i) (n := to + 1 - a) (by omega)
      rw [hr, addsV_app, addsV_full (l := addsV [] (allL A B J a i)) (by omega)]
  · simp only [decide_eq_false_iff_not] at g1
    repeat' first | refine Z1 fun _ _ => ?_ | refine Z2 ‹_› ?_ | ((first | refine Z3 tb_ok lv63 rfl ?_ | refine Zr rfl ?_); simp only [↓reduceIte, reduceCtorEq, reduceEqDiff, reduceAdd, reduceMul, reduceSub, reduceLeDiff, reduceEq, reduceLT, reduceLE, go_sem]) | (refine Z5 rfl ?_; with_reducible first | refine ZT ?_ | refine ZF ?_) | refine ZS rfl ?_ | refine Z9 fun _ _ => ?_ | refine ZH ?_ | refine Zl ‹_› (by decide) ?_ | fail
    rw [show to + 1 - a = i by omega]
end Go.Proofs.Ytpibdbjlilpfiaa

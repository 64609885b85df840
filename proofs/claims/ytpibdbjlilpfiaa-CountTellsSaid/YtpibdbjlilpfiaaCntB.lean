/- count: tasks as keys; whole, values. -/
import Derived.Test.YtpibdbjlilpfiaaCntA
import Derived.Test.YtpibdbjlilpfiaaFormD
import Derived.Test.YtpibdbjlilpfiaaAbsD
namespace Go.Proofs.Ytpibdbjlilpfiaa
set_option linter.all false
open Go Go.RowKit
open Nat (reduceEqDiff reduceAdd reduceMul reduceSub reduceLeDiff)
open Int (reduceEq reduceLT reduceLE)

theorem len5 {a : List Int} (h : a.length = 5) : ∃ a0 a1 a2 a3 a4, a = [a0, a1, a2, a3, a4] := by
  match a, h with
  | [a0, a1, a2, a3, a4], _ => exact ⟨_, _, _, _, _, rfl⟩
theorem task_eq (w : World) (a b : List Int) (ha : a.length = 5) (hb : b.length = 5) : (Op.equal 74 (keyV a) (keyV b)).run Try.prog w = .ok (decide (a = b)) w := by
  obtain ⟨a0, a1, a2, a3, a4, rfl⟩ := len5 ha
  obtain ⟨b0, b1, b2, b3, b4, rfl⟩ := len5 hb
  have he : eqShape Try.prog 9 74 = some [.int, .int, .int, .int, .int] := by kernel_rfl
  have hr := eq_run 9 9991 74 _ he w (fun _ => True) [.int .i64 a0, .int .i64 a1, .int .i64 a2, .int .i64 a3, .int .i64 a4] [.int .i64 b0, .int .i64 b1, .int .i64 b2, .int .i64 b3, .int .i64 b4]
    [.int .i64 a0, .int .i64 a1, .int .i64 a2, .int .i64 a3, .int .i64 a4] [.int .i64 b0, .int .i64 b1, .int .i64 b2, .int .i64 b3, .int .i64 b4] (decide (a0 = b0) && (decide (a1 = b1) && (decide (a2 = b2) && (decide (a3 = b3) && (decide (a4 = b4) && true))))) (keyV [a0, a1, a2, a3, a4]) (keyV [b0, b1, b2, b3, b4]) rfl ?_ ?_ ?_ ?_
  · rw [Op.equal, Op.maxDepth]
    have h1 : (9991 + 9 : Nat) = 10000 := by decide
    rw [h1] at hr
    have hb : (decide (a0 = b0) && (decide (a1 = b1) && (decide (a2 = b2) && (decide (a3 = b3) && (decide (a4 = b4) && true))))) = decide ([a0, a1, a2, a3, a4] = [b0, b1, b2, b3, b4]) := by
      rw [Bool.eq_iff_iff]
      simp
    rw [← hb]
    exact hr
  · exact ⟨rfl, fun i d v hd hv => by
      match i with
      | 0 | 1 | 2 | 3 | 4 => simp at hd hv; subst hd; subst hv; exact .int _ _
      | i + 5 => simp at hd⟩
  · exact ⟨rfl, fun i d v hd hv => by
      match i with
      | 0 | 1 | 2 | 3 | 4 => simp at hd hv; subst hd; subst hv; exact .int _ _
      | i + 5 => simp at hd⟩
  · unfold VlOf
    rw [Try.underlying74]
    rfl
  · unfold VlOf
    rw [Try.underlying74]
    rfl
theorem task_check (w : World) (e : Bool) (a : List Int) (ha : a.length = 5) : (Instr.checkKey e 10000 74 (keyV a)).run Try.prog w = .ok () w := by
  obtain ⟨a0, a1, a2, a3, a4, rfl⟩ := len5 ha
  kernel_rfl
theorem task_keys : KeyOk Try.prog 69 74 25 5 :=
  ⟨Try.underlying69, ⟨_, Try.underlying74⟩, task_eq, task_check⟩

/-- What sits at a place, of so many nodes, is one tree. -/
theorem sits_inj {l : List Nd} {txt : ByteArray → Prop} : ∀ (t : T) {off : Nat}, Sits l off t → t.ok txt → ∀ {t' : T}, Sits l off t' → t'.ok txt → t.n = t'.n → t = t' := by
  intro t
  induction t with
  | void | bytes | text =>
    intro off hs hok t' hs' hok' hn
    have e2 := hs'.getD Nd.z
    rw [← hn] at e2
    have e := (hs.getD Nd.z).symm.trans e2
    cases t' with
    | two => have h1 := congrArg Nd.kind e; have h2 := hok'.1; simp only [T.root] at h1; omega
    | one => have h1 := congrArg Nd.kind e; have h2 := hok'.1; simp only [T.root] at h1; omega
    | _ => first | rfl | (simp [T.root] at e; done) | (simp only [T.root, Nd.mk.injEq, and_true, true_and] at e; obtain ⟨rfl, rfl, rfl, rfl⟩ := e; rfl) | (simp only [T.root, Nd.mk.injEq, and_true, true_and] at e; subst e; rfl)
  | two k a b iha ihb =>
    intro off hs hok t' hs' hok' hn
    have e2 := hs'.getD Nd.z
    rw [← hn] at e2
    have e := (hs.getD Nd.z).symm.trans e2
    have hk := hok.1
    have p1 := a.n_pos
    have p2 := b.n_pos
    cases t' with
    | two k' a' b' =>
      have q1 := a'.n_pos
      have q2 := b'.n_pos
      simp only [T.root, Nd.mk.injEq, and_true] at e
      simp only [T.n] at hn
      have ha : a.n = a'.n := by omega
      have hb : b.n = b'.n := by omega
      rw [e.1, iha hs.two1 hok.2.1 hs'.two1 hok'.2.1 ha, ihb hs.two2 hok.2.2 (by rw [ha]; exact hs'.two2) hok'.2.2 hb]
    | one => have h1 := congrArg Nd.kind e; have h2 := hok'.1; simp only [T.root] at h1; omega
    | _ => have h1 := congrArg Nd.kind e; simp only [T.root] at h1; omega
  | one k lo hi a iha =>
    intro off hs hok t' hs' hok' hn
    have e2 := hs'.getD Nd.z
    rw [← hn] at e2
    have e := (hs.getD Nd.z).symm.trans e2
    have hk := hok.1
    cases t' with
    | two => have h1 := congrArg Nd.kind e; have h2 := hok'.1; simp only [T.root] at h1; omega
    | one k' lo' hi' a' =>
      simp only [T.root, Nd.mk.injEq, and_true, true_and] at e
      simp only [T.n] at hn
      rw [e.1, e.2.2.1, e.2.2.2, iha hs.one1 hok.2 hs'.one1 hok'.2 (by omega)]
    | _ => have h1 := congrArg Nd.kind e; simp only [T.root] at h1; omega
/-- The reader, and its memory. -/
def rdr (l : List Nd) (w : List UInt8) (m : Nat) : D := .addr [nds l, bys w, .mapv m]
def part' (w : List UInt8) (a b : Nat) : List UInt8 := (w.drop a).take (b - a)
def CI (l : List Nd) (w : List UInt8) : D → D → Prop := fun k d => ∃ (t : T) (off : Nat) (lo hi : Int) (a b : Nat), Sits l off t ∧ t.ok txtOk ∧ k = keyD [((off + (t.n - 1) : Nat) : Int), lo, hi, (a : Int), (b : Int)] ∧ d = vals ((t.at' lo hi).fnd (part' w a b))
def gM (vars : List (Nat × List D)) (l : List Nd) (w : List UInt8) (m : Nat) : GL := ⟨vars, some { m := m, I := CI l w }⟩
theorem ci_keys {l : List Nd} {w : List UInt8} {m : Nat} : ({ m := m, I := CI l w } : Memo).keys 5 := fun k d ⟨t, off, lo, hi, a, b, _, _, h, _⟩ => ⟨_, rfl, h⟩
theorem ci_fun {l : List Nd} {w : List UInt8} {k d d' : D} (h : CI l w k d) (h' : CI l w k d') : d' = d := by
  obtain ⟨t, off, lo, hi, a, b, q1, q2, rfl, rfl⟩ := h
  obtain ⟨t', off', lo', hi', a', b', r1, r2, e, rfl⟩ := h'
  have e1 := keyD_inj e
  simp only [List.cons.injEq, and_true] at e1
  obtain ⟨e1, rfl, rfl, e2, e3⟩ := e1
  have p1 := t.n_pos
  have p2 := t'.n_pos
  have ea : a = a' := by omega
  have eb : b = b' := by omega
  subst ea eb
  obtain ⟨rfl, hn⟩ := sits_uniq (i := off + (t.n - 1)) t q1 (by omega) q2 r1 (by omega) r2
  rw [sits_inj t q1 q2 r1 r2 hn]
@[go_sem] def lv46 : List (Nat × List Nat) := [(0, [0, 1, 2, 3, 8]), (1, [8])]
def bs46 : List (Nat × List Nat × List Nat) := [(1, [0, 0, 2, 6, 14, 30, 0, 126, 254, 510, 0, 1024, 3072, 7168, 15360, 0, 64512, 130048, 261120, 0, 0, 2097151, 4194303], [22])]
set_option maxHeartbeats 1000000 in
theorem c_whole {gl} {l : List Nd} {w : List UInt8} {m i : Nat} {a b : Int} (hl : l.length ≤ 1048576) (hi : i < l.length) : PCon Try.prog gl 46 [rdr l w m, .int .i64 i, .int .i64 a, .int .i64 b] (keyD [(i : Int), (l.getD i Nd.z).lo, (l.getD i Nd.z).hi, a, b]) := by
  refine PCon.enter tb_ok (fn := Try.f46) (by kernel_rfl) (by kernel_rfl) rfl (by show 4 ≤ 31; decide) ?_
  simp only [rdr, keyD, List.map_cons, List.map_nil]
  repeat' first | refine Z1 fun _ _ => ?_ | refine Z2 ‹_› ?_ | ((first | refine Z3 tb_ok lv46 rfl ?_ | refine Z4 tb_ok mix lv46 bs46 rfl (by kernel_rfl) rfl ?_ | refine Zr rfl ?_); simp only [↓reduceIte, reduceCtorEq, reduceEqDiff, reduceAdd, reduceMul, reduceSub, reduceLeDiff, reduceEq, reduceLT, reduceLE, go_sem]) | refine ZS rfl ?_ | refine ZH ?_ | refine Zo rfl ?_ | refine Zp rfl ?_ | refine Zn rfl ?_ | fail
  refine @idx_map _ _ _ l Nd.cells _ _ i _ _ .i64 (i : Int) _ _ _ Nd.z rfl rfl rfl rfl rfl ?_ ?_ ?_ ?_
  · omega
  · omega
  · rfl
  refine ⟨trivial, ?_⟩
  simp only [↓reduceIte, reduceCtorEq, reduceEqDiff, reduceAdd, reduceMul, reduceSub, reduceLeDiff, reduceEq, reduceLT, reduceLE, go_sem]
  repeat' first | refine Z1 fun _ _ => ?_ | refine Z2 ‹_› ?_ | ((first | refine Z3 tb_ok lv46 rfl ?_ | refine Z4 tb_ok mix lv46 bs46 rfl (by kernel_rfl) rfl ?_ | refine Zr rfl ?_); simp only [↓reduceIte, reduceCtorEq, reduceEqDiff, reduceAdd, reduceMul, reduceSub, reduceLeDiff, reduceEq, reduceLT, reduceLE, go_sem]) | refine ZS rfl ?_ | refine ZH ?_ | refine Zo rfl ?_ | refine Zp rfl ?_ | refine Zn rfl ?_ | fail
  refine @idx_map _ _ _ l Nd.cells _ _ i _ _ .i64 (i : Int) _ _ _ Nd.z rfl rfl rfl rfl rfl ?_ ?_ ?_ ?_
  · omega
  · omega
  · rfl
  refine ⟨trivial, ?_⟩
  simp only [↓reduceIte, reduceCtorEq, reduceEqDiff, reduceAdd, reduceMul, reduceSub, reduceLeDiff, reduceEq, reduceLT, reduceLE, go_sem]
  repeat' first | refine Z1 fun _ _ => ?_ | refine Z2 ‹_› ?_ | ((first | refine Z3 tb_ok lv46 rfl ?_ | refine Z4 tb_ok mix lv46 bs46 rfl (by kernel_rfl) rfl ?_ | refine Zr rfl ?_); simp only [↓reduceIte, reduceCtorEq, reduceEqDiff, reduceAdd, reduceMul, reduceSub, reduceLeDiff, reduceEq, reduceLT, reduceLE, go_sem]) | refine ZS rfl ?_ | refine ZH ?_ | refine Zo rfl ?_ | refine Zp rfl ?_ | refine Zn rfl ?_ | fail
@[go_sem] def lv45 : List (Nat × List Nat) := [(0, [0, 3]), (1, [0, 3, 5, 6]), (2, [0, 3, 5, 17]), (3, [4]), (4, [0, 3, 7]), (5, [7]), (6, [4])]
def bs45 : List (Nat × List Nat × List Nat) := [(1, [0, 1, 3, 7, 0, 31, 63, 127, 127, 255, 1023], []), (5, [0, 1, 3, 7, 0, 0, 63], [])]
set_option maxHeartbeats 1000000 in
theorem c_values {vars} {l : List Nd} {w : List UInt8} {m : Nat} {k0 k1 k2 k3 k4 : Int} {R : List Vl} (hR : CI l w (keyD [k0, k1, k2, k3, k4]) (vals R)) (hf : PCon Try.prog (gM vars l w m) 58 [rdr l w m, keyD [k0, k1, k2, k3, k4]] (vals R)) : PCon Try.prog (gM vars l w m) 45 [rdr l w m, keyD [k0, k1, k2, k3, k4]] (vals R) := by
  unfold gM at hf ⊢
  refine PCon.asks rfl rfl (keyD [k0, k1, k2, k3, k4]) (fun k' d h => Classical.em _) (fun d hd => PCon.weak (le_pres rfl) ?_) ?_
  · obtain rfl := ci_fun hR hd
    refine PCon.enter tb_ok (fn := Try.f45) (by kernel_rfl) (by kernel_rfl) rfl (by show 2 ≤ 29; decide) ?_
    simp only [rdr, keyD, List.map_cons, List.map_nil]
    repeat' first | refine Z1 fun _ _ => ?_ | refine Z2 ‹_› ?_ | ((first | refine Z3 tb_ok lv45 rfl ?_ | refine Z4 tb_ok mix lv45 bs45 rfl (by kernel_rfl) rfl ?_ | refine Zr rfl ?_); simp only [↓reduceIte, reduceCtorEq, reduceEqDiff, reduceAdd, reduceMul, reduceSub, reduceLeDiff, reduceEq, reduceLT, reduceLE, go_sem]) | (refine Z5 rfl ?_; with_reducible first | refine ZT ?_ | refine ZF ?_) | refine ZS rfl ?_ | refine ZH ?_ | refine Zo rfl ?_ | refine Zp rfl ?_ | refine Zn rfl ?_ | fail
    refine ⟨_, ?_, fun o ho => st_memoHas (M := { m := m, I := CI l w, pres := some (keyD [k0, k1, k2, k3, k4], vals R) }) (ks := [k0, k1, k2, k3, k4]) task_keys rfl rfl rfl (fun k d h => ci_keys (m := m) k d h) (fun d' h' => ci_fun hR h') rfl rfl rfl o ho⟩
    repeat' first | refine Z1 fun _ _ => ?_ | refine Z2 ‹_› ?_ | ((first | refine Z3 tb_ok lv45 rfl ?_ | refine Z4 tb_ok mix lv45 bs45 rfl (by kernel_rfl) rfl ?_ | refine Zr rfl ?_); simp only [↓reduceIte, reduceCtorEq, reduceEqDiff, reduceAdd, reduceMul, reduceSub, reduceLeDiff, reduceEq, reduceLT, reduceLE, go_sem]) | (refine Z5 rfl ?_; with_reducible first | refine ZT ?_ | refine ZF ?_) | refine ZS rfl ?_ | refine ZH ?_ | refine Zo rfl ?_ | refine Zp rfl ?_ | refine Zn rfl ?_ | fail
  · refine PCon2.enter (le_abs rfl rfl) tb_ok (fn := Try.f45) (by kernel_rfl) (by kernel_rfl) rfl (by show 2 ≤ 29; decide) ?_
    simp only [rdr, keyD, List.map_cons, List.map_nil]
    refine AW2.seq ?_
    repeat' first | refine Z1 fun _ _ => ?_ | refine Z2 ‹_› ?_ | ((first | refine Z3 tb_ok lv45 rfl ?_ | refine Z4 tb_ok mix lv45 bs45 rfl (by kernel_rfl) rfl ?_ | refine Zr rfl ?_); simp only [↓reduceIte, reduceCtorEq, reduceEqDiff, reduceAdd, reduceMul, reduceSub, reduceLeDiff, reduceEq, reduceLT, reduceLE, go_sem]) | (refine Z5 rfl ?_; with_reducible first | refine ZT ?_ | refine ZF ?_) | refine ZS rfl ?_ | refine ZH ?_ | refine Zo rfl ?_ | refine Zp rfl ?_ | refine Zn rfl ?_ | fail
    refine AW2.seq ?_
    repeat' first | refine Z1 fun _ _ => ?_ | refine Z2 ‹_› ?_ | ((first | refine Z3 tb_ok lv45 rfl ?_ | refine Z4 tb_ok mix lv45 bs45 rfl (by kernel_rfl) rfl ?_ | refine Zr rfl ?_); simp only [↓reduceIte, reduceCtorEq, reduceEqDiff, reduceAdd, reduceMul, reduceSub, reduceLeDiff, reduceEq, reduceLT, reduceLE, go_sem]) | (refine Z5 rfl ?_; with_reducible first | refine ZT ?_ | refine ZF ?_) | refine ZS rfl ?_ | refine ZH ?_ | refine Zo rfl ?_ | refine Zp rfl ?_ | refine Zn rfl ?_ | fail
    refine ⟨_, ?_, fun o ho => st_memoNot (M := { m := m, I := CI l w, abs := some (keyD [k0, k1, k2, k3, k4]) }) (ks := [k0, k1, k2, k3, k4]) (tb_ok _ _ rfl) task_keys rfl rfl rfl (fun k d h => ci_keys (m := m) k d h) rfl rfl rfl o ho⟩
    repeat' first | refine Z1 fun _ _ => ?_ | refine Z2 ‹_› ?_ | ((first | refine Z3 tb_ok lv45 rfl ?_ | refine Z4 tb_ok mix lv45 bs45 rfl (by kernel_rfl) rfl ?_ | refine Zr rfl ?_); simp only [↓reduceIte, reduceCtorEq, reduceEqDiff, reduceAdd, reduceMul, reduceSub, reduceLeDiff, reduceEq, reduceLT, reduceLE, go_sem]) | (refine Z5 rfl ?_; with_reducible first | refine ZT ?_ | refine ZF ?_) | refine ZS rfl ?_ | refine ZH ?_ | refine Zo rfl ?_ | refine Zp rfl ?_ | refine Zn rfl ?_ | fail
    refine AW2.leave (le_abs (M := { m := m, I := CI l w }) rfl rfl) ?_
    repeat' first | refine Z1 fun _ _ => ?_ | refine Z2 ‹_› ?_ | ((first | refine Z3 tb_ok lv45 rfl ?_ | refine Z4 tb_ok mix lv45 bs45 rfl (by kernel_rfl) rfl ?_ | refine Zr rfl ?_); simp only [↓reduceIte, reduceCtorEq, reduceEqDiff, reduceAdd, reduceMul, reduceSub, reduceLeDiff, reduceEq, reduceLT, reduceLE, go_sem]) | (refine Z5 rfl ?_; with_reducible first | refine ZT ?_ | refine ZF ?_) | refine ZS rfl ?_ | refine ZH ?_ | refine Zo rfl ?_ | refine Zp rfl ?_ | refine Zn rfl ?_ | fail
    refine call_pure rfl rfl (hf) ?_; simp only [↓reduceIte, reduceCtorEq, reduceEqDiff, reduceAdd, reduceMul, reduceSub, reduceLeDiff, reduceEq, reduceLT, reduceLE, go_sem]
    repeat' first | refine Z1 fun _ _ => ?_ | refine Z2 ‹_› ?_ | ((first | refine Z3 tb_ok lv45 rfl ?_ | refine Z4 tb_ok mix lv45 bs45 rfl (by kernel_rfl) rfl ?_ | refine Zr rfl ?_); simp only [↓reduceIte, reduceCtorEq, reduceEqDiff, reduceAdd, reduceMul, reduceSub, reduceLeDiff, reduceEq, reduceLT, reduceLE, go_sem]) | (refine Z5 rfl ?_; with_reducible first | refine ZT ?_ | refine ZF ?_) | refine ZS rfl ?_ | refine ZH ?_ | refine Zo rfl ?_ | refine Zp rfl ?_ | refine Zn rfl ?_ | fail
    refine ⟨?_, fun o ho => st_memoSet (M := { m := m, I := CI l w }) (ks := [k0, k1, k2, k3, k4]) (d := vals R) task_keys rfl rfl rfl (fun k d h => ci_keys (m := m) k d h) hR rfl rfl rfl rfl rfl o ho⟩
    repeat' first | refine Z1 fun _ _ => ?_ | refine Z2 ‹_› ?_ | ((first | refine Z3 tb_ok lv45 rfl ?_ | refine Z4 tb_ok mix lv45 bs45 rfl (by kernel_rfl) rfl ?_ | refine Zr rfl ?_); simp only [↓reduceIte, reduceCtorEq, reduceEqDiff, reduceAdd, reduceMul, reduceSub, reduceLeDiff, reduceEq, reduceLT, reduceLE, go_sem]) | (refine Z5 rfl ?_; with_reducible first | refine ZT ?_ | refine ZF ?_) | refine ZS rfl ?_ | refine ZH ?_ | refine Zo rfl ?_ | refine Zp rfl ?_ | refine Zn rfl ?_ | fail
end Go.Proofs.Ytpibdbjlilpfiaa

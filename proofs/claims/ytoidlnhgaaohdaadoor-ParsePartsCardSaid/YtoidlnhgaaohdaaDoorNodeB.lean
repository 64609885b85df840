/- node.plain, lex.Utf8, node.of. -/
import Derived.Test.YtoidlnhgaaohdaaDoorNodeA
import Derived.Test.YtoidlnhgaaohdaaDoorFormF
namespace Go.Proofs.YtoidlnhgaaohdaaDoor
set_option linter.all false
open Go Go.RowKit
open Nat (reduceEqDiff reduceAdd reduceMul reduceSub reduceLeDiff)
open Int (reduceEq reduceLT reduceLE)

def plainB (n m : Nd) : Bool := decide (n.kind = m.kind) && (decide (n.a = m.a) && (decide (n.b = m.b) && (decide (n.lo = m.lo) && (decide (n.hi = m.hi) && (decide (n.c0 = m.c0) && (decide (n.c1 = m.c1) && (decide (n.c2 = m.c2) && (decide (n.c3 = m.c3) && (decide (n.text = m.text) && true)))))))))
@[go_sem] def lv61 : List (Nat × List Nat) := [(0, [2, 3]), (1, [4])]
def bs61 : List (Nat × List Nat × List Nat) := []
theorem c_plain {gl} (n m : Nd) : PCon Tryd.prog gl 61 [.agg n.cells, .agg m.cells] (.bool (plainB n m)) := by
  refine PCon.enter tb_ok (fn := Tryd.f61) (by kernel_rfl) (by kernel_rfl) rfl (by show 2 ≤ 8; decide) ?_
  repeat' first | refine Z1 fun _ _ => ?_ | refine Z2 ‹_› ?_ | ((first | refine Z3 tb_ok lv61 rfl ?_ | refine ret_eq rfl ?_); simp only [↓reduceIte, reduceCtorEq, reduceEqDiff, reduceAdd, reduceMul, reduceSub, reduceLeDiff, reduceEq, reduceLT, reduceLE, go_sem]) | refine Z8 ?_ | refine Zc ‹_› trivial ?_ | fail
  rfl
theorem plainB_iff {n m : Nd} : plainB n m = true ↔ n = m := by
  cases n; cases m
  simp [plainB]

/-- One step of the reference's, of numbers. -/
def stepN (n b0 b1 b2 b3 : Nat) : Nat :=
  if b0 < 128 then 1
  else if (194 ≤ b0 ∧ b0 ≤ 223) ∧ 1 < n ∧ 128 ≤ b1 ∧ b1 ≤ 191 then 2
  else if (b0 = 224 ∧ 1 < n ∧ 160 ≤ b1 ∧ b1 ≤ 191) ∧ 2 < n ∧ 128 ≤ b2 ∧ b2 ≤ 191 then 3
  else if (((((225 ≤ b0 ∧ b0 ≤ 236) ∨ b0 = 238) ∨ b0 = 239) ∧ 1 < n ∧ 128 ≤ b1 ∧ b1 ≤ 191) ∧ 2 < n ∧ 128 ≤ b2 ∧ b2 ≤ 191) then 3
  else if (b0 = 237 ∧ 1 < n ∧ 128 ≤ b1 ∧ b1 ≤ 159) ∧ 2 < n ∧ 128 ≤ b2 ∧ b2 ≤ 191 then 3
  else if ((b0 = 240 ∧ 1 < n ∧ 144 ≤ b1 ∧ b1 ≤ 191) ∧ 2 < n ∧ 128 ≤ b2 ∧ b2 ≤ 191) ∧ 3 < n ∧ 128 ≤ b3 ∧ b3 ≤ 191 then 4
  else if (((241 ≤ b0 ∧ b0 ≤ 243) ∧ 1 < n ∧ 128 ≤ b1 ∧ b1 ≤ 191) ∧ 2 < n ∧ 128 ≤ b2 ∧ b2 ≤ 191) ∧ 3 < n ∧ 128 ≤ b3 ∧ b3 ≤ 191 then 4
  else if ((b0 = 244 ∧ 1 < n ∧ 128 ≤ b1 ∧ b1 ≤ 143) ∧ 2 < n ∧ 128 ≤ b2 ∧ b2 ≤ 191) ∧ 3 < n ∧ 128 ≤ b3 ∧ b3 ≤ 191 then 4
  else 0
theorem dec_one {n b0 b1 b2 b3 : Nat} (h : b0 < 128) : Lib.decodeN n b0 b1 b2 b3 = (b0, 1) := by unfold Lib.decodeN; rw [if_pos h]
theorem dec_bad {n b0 b1 b2 b3 : Nat} (h : 128 ≤ b0) (h6 : b0 / 32 ≠ 6) (h14 : b0 / 16 ≠ 14) (h30 : b0 / 8 ≠ 30) : Lib.decodeN n b0 b1 b2 b3 = (65533, 1) := by
  unfold Lib.decodeN
  rw [if_neg (by omega), if_neg (fun q => h6 q.1), if_neg (fun q => h14 q.1), if_neg (fun q => h30 q.1)]
theorem dec_two {n b0 b1 b2 b3 : Nat} (h : 192 ≤ b0) (h' : b0 < 224) (hb : b1 < 256) : Lib.decodeN n b0 b1 b2 b3 = if (1 < n ∧ 128 ≤ b1 ∧ b1 ≤ 191) ∧ 194 ≤ b0 then ((b0 - 192) * 64 + (b1 - 128), 2) else (65533, 1) := by
  have e1 : b1 / 64 = 2 ↔ 128 ≤ b1 ∧ b1 ≤ 191 := by omega
  have h6 : b0 / 32 = 6 := by omega
  have m0 : b0 % 32 = b0 - 192 := by omega
  unfold Lib.decodeN
  rw [if_neg (by omega : ¬ b0 < 128), m0]
  by_cases hc : 1 < n ∧ 128 ≤ b1 ∧ b1 ≤ 191
  · have m1 : b1 % 64 = b1 - 128 := by omega
    rw [if_pos ⟨h6, hc.1, e1.2 hc.2⟩, m1]
    by_cases h2 : 194 ≤ b0
    · rw [if_pos (by omega), if_pos ⟨hc, h2⟩]
    · rw [if_neg (by omega), if_neg (fun q => h2 q.2)]
  · rw [if_neg (fun q => hc ⟨q.2.1, e1.1 q.2.2⟩), if_neg (fun q => by have := q.1; omega), if_neg (fun q => by have := q.1; omega), if_neg (fun q => hc q.1)]
theorem dec_three {n b0 b1 b2 b3 : Nat} (h : 224 ≤ b0) (h' : b0 < 240) (hb : b1 < 256) (hb2 : b2 < 256) : Lib.decodeN n b0 b1 b2 b3 = if (1 < n ∧ 128 ≤ b1 ∧ b1 ≤ 191) ∧ (2 < n ∧ 128 ≤ b2 ∧ b2 ≤ 191) ∧ (b0 = 224 → 160 ≤ b1) ∧ (b0 = 237 → b1 ≤ 159) then ((b0 - 224) * 4096 + (b1 - 128) * 64 + (b2 - 128), 3) else (65533, 1) := by
  have e1 : b1 / 64 = 2 ↔ 128 ≤ b1 ∧ b1 ≤ 191 := by omega
  have e2 : b2 / 64 = 2 ↔ 128 ≤ b2 ∧ b2 ≤ 191 := by omega
  have h6 : b0 / 32 ≠ 6 := by omega
  have h14 : b0 / 16 = 14 := by omega
  have h30 : b0 / 8 ≠ 30 := by omega
  have m0 : b0 % 16 = b0 - 224 := by omega
  unfold Lib.decodeN
  rw [if_neg (by omega : ¬ b0 < 128), if_neg (fun q => h6 q.1), m0]
  by_cases hc : (1 < n ∧ 128 ≤ b1 ∧ b1 ≤ 191) ∧ (2 < n ∧ 128 ≤ b2 ∧ b2 ≤ 191)
  · have m1 : b1 % 64 = b1 - 128 := by omega
    have m2 : b2 % 64 = b2 - 128 := by omega
    rw [if_pos ⟨h14, ⟨hc.1.1, e1.2 hc.1.2⟩, hc.2.1, e2.2 hc.2.2⟩, m1, m2]
    by_cases h2 : (b0 = 224 → 160 ≤ b1) ∧ (b0 = 237 → b1 ≤ 159)
    · rw [if_pos (by omega), if_pos ⟨hc.1, hc.2, h2⟩]
    · rw [if_neg (by omega), if_neg (fun q => h2 q.2.2)]
  · rw [if_neg (fun q => hc ⟨⟨q.2.1.1, e1.1 q.2.1.2⟩, q.2.2.1, e2.1 q.2.2.2⟩), if_neg (fun q => h30 q.1), if_neg (fun q => hc ⟨q.1, q.2.1⟩)]
theorem dec_four {n b0 b1 b2 b3 : Nat} (h : 240 ≤ b0) (h' : b0 < 248) (hb : b1 < 256) (hb2 : b2 < 256) (hb3 : b3 < 256) : Lib.decodeN n b0 b1 b2 b3 = if ((1 < n ∧ 128 ≤ b1 ∧ b1 ≤ 191) ∧ (2 < n ∧ 128 ≤ b2 ∧ b2 ≤ 191) ∧ 3 < n ∧ 128 ≤ b3 ∧ b3 ≤ 191) ∧ (b0 = 240 → 144 ≤ b1) ∧ (b0 = 244 → b1 ≤ 143) ∧ b0 ≤ 244 then ((b0 - 240) * 262144 + (b1 - 128) * 4096 + (b2 - 128) * 64 + (b3 - 128), 4) else (65533, 1) := by
  have e1 : b1 / 64 = 2 ↔ 128 ≤ b1 ∧ b1 ≤ 191 := by omega
  have e2 : b2 / 64 = 2 ↔ 128 ≤ b2 ∧ b2 ≤ 191 := by omega
  have e3 : b3 / 64 = 2 ↔ 128 ≤ b3 ∧ b3 ≤ 191 := by omega
  have h6 : b0 / 32 ≠ 6 := by omega
  have h14 : b0 / 16 ≠ 14 := by omega
  have h30 : b0 / 8 = 30 := by omega
  have m0 : b0 % 8 = b0 - 240 := by omega
  unfold Lib.decodeN
  rw [if_neg (by omega : ¬ b0 < 128), if_neg (fun q => h6 q.1), if_neg (fun q => h14 q.1), m0]
  by_cases hc : (1 < n ∧ 128 ≤ b1 ∧ b1 ≤ 191) ∧ (2 < n ∧ 128 ≤ b2 ∧ b2 ≤ 191) ∧ 3 < n ∧ 128 ≤ b3 ∧ b3 ≤ 191
  · have m1 : b1 % 64 = b1 - 128 := by omega
    have m2 : b2 % 64 = b2 - 128 := by omega
    have m3 : b3 % 64 = b3 - 128 := by omega
    rw [if_pos ⟨h30, ⟨hc.1.1, e1.2 hc.1.2⟩, ⟨hc.2.1.1, e2.2 hc.2.1.2⟩, hc.2.2.1, e3.2 hc.2.2.2⟩, m1, m2, m3]
    by_cases h2 : (b0 = 240 → 144 ≤ b1) ∧ (b0 = 244 → b1 ≤ 143) ∧ b0 ≤ 244
    · rw [if_pos (by omega), if_pos ⟨hc, h2⟩]
    · rw [if_neg (by omega), if_neg (fun q => h2 q.2)]
  · rw [if_neg (fun q => hc ⟨⟨q.2.1.1, e1.1 q.2.1.2⟩, ⟨q.2.2.1.1, e2.1 q.2.2.1.2⟩, q.2.2.2.1, e3.1 q.2.2.2.2⟩), if_neg (fun q => hc q.1)]
/-- Of one answer and one step. -/
def FitsU (r : Nat × Nat) (t : Nat) : Prop := ((r.1 = 65533 ∧ r.2 = 1) ↔ t = 0) ∧ (t ≠ 0 → r.2 = t) ∧ 1 ≤ r.2
theorem fits_bad : FitsU (65533, 1) 0 := ⟨by simp, fun h => absurd rfl h, Nat.le_refl _⟩
theorem fits_one {b : Nat} (h : b < 128) : FitsU (b, 1) 1 := ⟨by simp; omega, fun _ => rfl, Nat.le_refl _⟩
theorem fits_more {c k : Nat} (h : 2 ≤ k) : FitsU (c, k) k := ⟨by simp; omega, fun _ => rfl, by simp; omega⟩
theorem fits_if {p : Prop} [Decidable p] {c k t : Nat} (hk : 2 ≤ k) (h1 : p → t = k) (h2 : ¬ p → t = 0) : FitsU (if p then (c, k) else (65533, 1)) t := by
  split
  · rename_i h; rw [h1 h]; exact fits_more hk
  · rename_i h; rw [h2 h]; exact fits_bad
set_option maxHeartbeats 4000000 in
theorem step_num (n b0 b1 b2 b3 : Nat) (hn : 0 < n) (h0 : b0 < 256) (h1 : b1 < 256) (h2 : b2 < 256) (h3 : b3 < 256) : FitsU (Lib.decodeN n b0 b1 b2 b3) (stepN n b0 b1 b2 b3) := by
  by_cases a1 : b0 < 128
  · rw [dec_one a1, stepN, if_pos a1]; exact fits_one a1
  by_cases a2 : b0 < 192
  · rw [dec_bad (by omega) (by omega) (by omega) (by omega), stepN, if_neg a1, if_neg (by omega), if_neg (by omega), if_neg (by omega), if_neg (by omega), if_neg (by omega), if_neg (by omega), if_neg (by omega)]; exact fits_bad
  by_cases a3 : b0 < 224
  · rw [dec_two (by omega) a3 h1]
    refine fits_if (Nat.le_refl _) (fun q => ?_) (fun q => ?_) <;> rw [stepN, if_neg a1]
    · rw [if_pos (by omega)]
    · rw [if_neg (by omega), if_neg (by omega), if_neg (by omega), if_neg (by omega), if_neg (by omega), if_neg (by omega), if_neg (by omega)]
  by_cases a4 : b0 < 240
  · rw [dec_three (by omega) a4 h1 h2]
    refine fits_if (by omega) (fun q => ?_) (fun q => ?_) <;> rw [stepN, if_neg a1, if_neg (by omega)]
    · by_cases d1 : b0 = 224
      · rw [if_pos (by omega)]
      · rw [if_neg (by omega)]
        by_cases d2 : b0 = 237
        · rw [if_neg (by omega), if_pos (by omega)]
        · rw [if_pos (by omega)]
    · rw [if_neg (by omega), if_neg (by omega), if_neg (by omega), if_neg (by omega), if_neg (by omega), if_neg (by omega)]
  by_cases a5 : b0 < 248
  · rw [dec_four (by omega) a5 h1 h2 h3]
    refine fits_if (by omega) (fun q => ?_) (fun q => ?_) <;> rw [stepN, if_neg a1, if_neg (by omega), if_neg (by omega), if_neg (by omega), if_neg (by omega)]
    · by_cases d1 : b0 = 240
      · rw [if_pos (by omega)]
      · rw [if_neg (by omega)]
        by_cases d2 : b0 = 244
        · rw [if_neg (by omega), if_pos (by omega)]
        · rw [if_pos (by omega)]
    · rw [if_neg (by omega), if_neg (by omega), if_neg (by omega)]
  · rw [dec_bad (by omega) (by omega) (by omega) (by omega), stepN, if_neg a1, if_neg (by omega), if_neg (by omega), if_neg (by omega), if_neg (by omega), if_neg (by omega), if_neg (by omega), if_neg (by omega)]; exact fits_bad
theorem byteAt_get (s : ByteArray) (i : Nat) : byteAt s i = ((s.get! i).toNat : Int) := by
  unfold byteAt
  split
  · rename_i h
    rw [Utf8W.get!_of_lt s i h]
  · rename_i h
    cases s with
    | mk d =>
      have : (ByteArray.mk d).get! i = 0 := by
        show d[i]! = 0
        rw [getElem!_neg d i h]
        rfl
      rw [this]
      rfl
set_option maxHeartbeats 1000000 in
theorem utf8Step_num (s : ByteArray) (i : Nat) (hi : i < s.size) : utf8Step s i = stepN (s.size - i) (s.get! i).toNat (s.get! (i + 1)).toNat (s.get! (i + 2)).toNat (s.get! (i + 3)).toNat := by
  have e1 : ((i : Int) + 1).toNat = i + 1 := by omega
  have e2 : ((i : Int) + 2).toNat = i + 2 := by omega
  have e3 : ((i : Int) + 3).toNat = i + 3 := by omega
  have p1 : ∀ (lo hi : Nat) (x y : Int), x = lo → y = hi → inB s ((i : Int) + 1) x y = decide (1 < s.size - i ∧ lo ≤ (s.get! (i + 1)).toNat ∧ (s.get! (i + 1)).toNat ≤ hi) := fun lo hi x y hx hy => by
    subst hx; subst hy
    simp only [inB, e1, byteAt_get, Bool.decide_and]
    congr 1
    · exact decide_eq_decide.2 (by omega)
    · congr 1 <;> exact decide_eq_decide.2 (by omega)
  have p2 : ∀ (lo hi : Nat) (x y : Int), x = lo → y = hi → inB s ((i : Int) + 2) x y = decide (2 < s.size - i ∧ lo ≤ (s.get! (i + 2)).toNat ∧ (s.get! (i + 2)).toNat ≤ hi) := fun lo hi x y hx hy => by
    subst hx; subst hy
    simp only [inB, e2, byteAt_get, Bool.decide_and]
    congr 1
    · exact decide_eq_decide.2 (by omega)
    · congr 1 <;> exact decide_eq_decide.2 (by omega)
  have p3 : ∀ (lo hi : Nat) (x y : Int), x = lo → y = hi → inB s ((i : Int) + 3) x y = decide (3 < s.size - i ∧ lo ≤ (s.get! (i + 3)).toNat ∧ (s.get! (i + 3)).toNat ≤ hi) := fun lo hi x y hx hy => by
    subst hx; subst hy
    simp only [inB, e3, byteAt_get, Bool.decide_and]
    congr 1
    · exact decide_eq_decide.2 (by omega)
    · congr 1 <;> exact decide_eq_decide.2 (by omega)
  have c0 : ∀ (m : Nat) (x : Int), x = m → (decide (byteAt s i = x)) = decide ((s.get! i).toNat = m) := fun m x hx => decide_eq_decide.2 (by rw [byteAt_get]; omega)
  have c1 : ∀ (m : Nat) (x : Int), x = m → (decide (byteAt s i < x)) = decide ((s.get! i).toNat < m) := fun m x hx => decide_eq_decide.2 (by rw [byteAt_get]; omega)
  have c2 : ∀ (m : Nat) (x : Int), x = m → (decide (byteAt s i ≤ x)) = decide ((s.get! i).toNat ≤ m) := fun m x hx => decide_eq_decide.2 (by rw [byteAt_get]; omega)
  have c3 : ∀ (m : Nat) (x : Int), x = m → (decide (x ≤ byteAt s i)) = decide (m ≤ (s.get! i).toNat) := fun m x hx => decide_eq_decide.2 (by rw [byteAt_get]; omega)
  have q33 : u33 s i = decide ((194 ≤ (s.get! i).toNat ∧ (s.get! i).toNat ≤ 223) ∧ 1 < s.size - i ∧ 128 ≤ (s.get! (i + 1)).toNat ∧ (s.get! (i + 1)).toNat ≤ 191) := by
    rw [u33, p1 128 191 128 191 rfl rfl, c3 194 194 rfl, c2 223 223 rfl]; simp only [Bool.decide_and]
  have q45 : u45 s i = decide (((s.get! i).toNat = 224 ∧ 1 < s.size - i ∧ 160 ≤ (s.get! (i + 1)).toNat ∧ (s.get! (i + 1)).toNat ≤ 191) ∧ 2 < s.size - i ∧ 128 ≤ (s.get! (i + 2)).toNat ∧ (s.get! (i + 2)).toNat ≤ 191) := by
    rw [u45, p1 160 191 160 191 rfl rfl, p2 128 191 128 191 rfl rfl, c0 224 224 rfl]; simp only [Bool.decide_and]
  have q59 : u59 s i = decide (((((225 ≤ (s.get! i).toNat ∧ (s.get! i).toNat ≤ 236) ∨ (s.get! i).toNat = 238) ∨ (s.get! i).toNat = 239) ∧ 1 < s.size - i ∧ 128 ≤ (s.get! (i + 1)).toNat ∧ (s.get! (i + 1)).toNat ≤ 191) ∧ 2 < s.size - i ∧ 128 ≤ (s.get! (i + 2)).toNat ∧ (s.get! (i + 2)).toNat ≤ 191) := by
    rw [u59, p1 128 191 128 191 rfl rfl, p2 128 191 128 191 rfl rfl, c3 225 225 rfl, c2 236 236 rfl, c0 238 238 rfl, c0 239 239 rfl]; simp only [Bool.decide_and, Bool.decide_or]
  have q82 : u82 s i = decide (((s.get! i).toNat = 237 ∧ 1 < s.size - i ∧ 128 ≤ (s.get! (i + 1)).toNat ∧ (s.get! (i + 1)).toNat ≤ 159) ∧ 2 < s.size - i ∧ 128 ≤ (s.get! (i + 2)).toNat ∧ (s.get! (i + 2)).toNat ≤ 191) := by
    rw [u82, p1 128 159 128 159 rfl rfl, p2 128 191 128 191 rfl rfl, c0 237 237 rfl]; simp only [Bool.decide_and]
  have q96 : u96 s i = decide ((((s.get! i).toNat = 240 ∧ 1 < s.size - i ∧ 144 ≤ (s.get! (i + 1)).toNat ∧ (s.get! (i + 1)).toNat ≤ 191) ∧ 2 < s.size - i ∧ 128 ≤ (s.get! (i + 2)).toNat ∧ (s.get! (i + 2)).toNat ≤ 191) ∧ 3 < s.size - i ∧ 128 ≤ (s.get! (i + 3)).toNat ∧ (s.get! (i + 3)).toNat ≤ 191) := by
    rw [u96, p1 144 191 144 191 rfl rfl, p2 128 191 128 191 rfl rfl, p3 128 191 128 191 rfl rfl, c0 240 240 rfl]; simp only [Bool.decide_and]
  have q113 : u113 s i = decide ((((241 ≤ (s.get! i).toNat ∧ (s.get! i).toNat ≤ 243) ∧ 1 < s.size - i ∧ 128 ≤ (s.get! (i + 1)).toNat ∧ (s.get! (i + 1)).toNat ≤ 191) ∧ 2 < s.size - i ∧ 128 ≤ (s.get! (i + 2)).toNat ∧ (s.get! (i + 2)).toNat ≤ 191) ∧ 3 < s.size - i ∧ 128 ≤ (s.get! (i + 3)).toNat ∧ (s.get! (i + 3)).toNat ≤ 191) := by
    rw [u113, p1 128 191 128 191 rfl rfl, p2 128 191 128 191 rfl rfl, p3 128 191 128 191 rfl rfl, c3 241 241 rfl, c2 243 243 rfl]; simp only [Bool.decide_and]
  have q131 : u131 s i = decide ((((s.get! i).toNat = 244 ∧ 1 < s.size - i ∧ 128 ≤ (s.get! (i + 1)).toNat ∧ (s.get! (i + 1)).toNat ≤ 143) ∧ 2 < s.size - i ∧ 128 ≤ (s.get! (i + 2)).toNat ∧ (s.get! (i + 2)).toNat ≤ 191) ∧ 3 < s.size - i ∧ 128 ≤ (s.get! (i + 3)).toNat ∧ (s.get! (i + 3)).toNat ≤ 191) := by
    rw [u131, p1 128 143 128 143 rfl rfl, p2 128 191 128 191 rfl rfl, p3 128 191 128 191 rfl rfl, c0 244 244 rfl]; simp only [Bool.decide_and]
  rw [utf8Step, c1 128 128 rfl, q33, q45, q59, q82, q96, q113, q131]
  simp only [decide_eq_true_eq]
  rfl
/-- One step of Go's decoder against the reference's. -/
theorem step_dec (s : ByteArray) (i : Nat) (hi : i < s.size) : ((Utf8.decode s i).1 = 65533 ∧ (Utf8.decode s i).2 = 1) = (utf8Step s i = 0) ∧ (utf8Step s i ≠ 0 → (Utf8.decode s i).2 = utf8Step s i) ∧ 1 ≤ (Utf8.decode s i).2 := by
  rw [Lib.decode_at, utf8Step_num s i hi]
  obtain ⟨h1, h2, h3⟩ := step_num (s.size - i) (s.get! i).toNat (s.get! (i + 1)).toNat (s.get! (i + 2)).toNat (s.get! (i + 3)).toNat (by omega) (s.get! i).toNat_lt (s.get! (i + 1)).toNat_lt (s.get! (i + 2)).toNat_lt (s.get! (i + 3)).toNat_lt
  exact ⟨propext h1, h2, h3⟩
theorem get_cut (s : ByteArray) (i k : Nat) : (s.extract i s.size).get! k = s.get! (i + k) := by
  have h1 := byteAt_get (s.extract i s.size) k
  have h2 := byteAt_get s (i + k)
  have h3 : byteAt (s.extract i s.size) k = byteAt s (i + k) := by
    unfold byteAt
    by_cases h : i + k < s.size
    · have hk : k < (s.extract i s.size).size := by simp [ByteArray.size_extract]; omega
      rw [dif_pos h, dif_pos hk, ByteArray.getElem_extract]
    · have hk : ¬ k < (s.extract i s.size).size := by simp [ByteArray.size_extract]; omega
      rw [dif_neg h, dif_neg hk]
  have h4 : ((s.extract i s.size).get! k).toNat = (s.get! (i + k)).toNat := by omega
  exact UInt8.toNat_inj.1 h4
theorem dec_cut (s : ByteArray) (i : Nat) (hi : i < s.size) : Lib.decodeGo (s.extract i s.size) = Utf8.decode s i := by
  have hsz : (s.extract i s.size).size = s.size - i := by simp [ByteArray.size_extract]
  rw [Lib.decodeGo, if_neg (by omega), Lib.decode_at, Lib.decode_at, hsz, get_cut, get_cut, get_cut, get_cut]
  rfl
@[go_sem] def lv62 : List (Nat × List Nat) := [(0, [0]), (1, [0, 8]), (2, [0, 8, 9, 10]), (3, [0, 3, 4, 8]), (4, [0, 3, 8, 14]), (5, [0, 6, 8]), (6, [0, 8, 23]), (7, [2]), (8, [2])]
def bs62 : List (Nat × List Nat × List Nat) := []
set_option maxHeartbeats 1000000 in
theorem c_lutf8 (s : ByteArray) (hs : s.size ≤ 1048576) : PCon Tryd.prog glU 62 [.str s] (.bool (utf8B s)) := by
  refine PCon.enter tb_ok (fn := Tryd.f62) (by kernel_rfl) (by kernel_rfl) rfl (by show 1 ≤ 24; decide) ?_
  repeat' first | refine Z1 fun _ _ => ?_ | refine Z2 ‹_› ?_ | ((first | refine Z3 tb_ok lv62 rfl ?_ | refine ret_eq rfl ?_); simp only [↓reduceIte, reduceCtorEq, reduceEqDiff, reduceAdd, reduceMul, reduceSub, reduceLeDiff, reduceEq, reduceLT, reduceLE, go_sem]) | (refine Z5 rfl ?_; with_reducible first | refine condQ_T ?_ | refine condQ_F ?_) | refine Z6 ?_ | refine Z7 ?_ | refine Z8 ?_ | refine Z9 fun _ _ => ?_ | refine Za ‹_› ?_ | refine Zb ‹_› ?_ | refine Zc ‹_› trivial ?_ | refine Zd ‹_› trivial ?_ | refine Ze ‹_› trivial ?_ | refine Zf ‹_› ?_ | refine Zl ‹_› (by decide) ?_ | fail
  refine .loopC (α := Nat × Nat) (fun a => ⟨[(0, .d (.str s)), (8, .ref 2 0)], [(2, .iter s a.2)], 3⟩) (fun a => s.size < a.1 + a.2 ∧ utf8B s = utf8F s a.1 a.2) (fun a => s.size - a.2) (s.size + 1, 0) ⟨by simp, rfl⟩ (by simp only [↓reduceIte, reduceCtorEq, reduceEqDiff, reduceAdd, reduceMul, reduceSub, reduceLeDiff, reduceEq, reduceLT, reduceLE, go_sem]; simp) ?_
  rintro ⟨m, i⟩ ⟨h1, h2⟩ Q hQ
  simp only at h1 h2
  repeat' first | refine Z1 fun _ _ => ?_ | refine Z2 ‹_› ?_ | ((first | refine Z3 tb_ok lv62 rfl ?_ | refine ret_eq rfl ?_); simp only [↓reduceIte, reduceCtorEq, reduceEqDiff, reduceAdd, reduceMul, reduceSub, reduceLeDiff, reduceEq, reduceLT, reduceLE, go_sem]) | (refine Z5 rfl ?_; with_reducible first | refine condQ_T ?_ | refine condQ_F ?_) | refine Z6 ?_ | refine Z7 ?_ | refine Z8 ?_ | refine Z9 fun _ _ => ?_ | refine Za ‹_› ?_ | refine Zb ‹_› ?_ | refine Zc ‹_› trivial ?_ | refine Zd ‹_› trivial ?_ | refine Ze ‹_› trivial ?_ | refine Zf ‹_› ?_ | refine Zl ‹_› (by decide) ?_ | fail
  refine ⟨fun hi => ?_, fun hi => ?_⟩
  · obtain ⟨q1, q2, q3⟩ := step_dec s i hi
    obtain ⟨m, rfl⟩ : ∃ m', m = m' + 1 := ⟨m - 1, by omega⟩
    simp only [utf8F, if_pos hi] at h2
    have hc := dec_cut s i hi
    generalize Utf8.decode s i = r at q1 q2 q3 hc
    obtain ⟨c, n⟩ := r
    simp only at q1 q2 q3
    simp only [↓reduceIte, reduceCtorEq, reduceEqDiff, reduceAdd, reduceMul, reduceSub, reduceLeDiff, reduceEq, reduceLT, reduceLE, go_sem]
    repeat' first | refine Z1 fun _ _ => ?_ | refine Z2 ‹_› ?_ | ((first | refine Z3 tb_ok lv62 rfl ?_ | refine ret_eq rfl ?_); simp only [↓reduceIte, reduceCtorEq, reduceEqDiff, reduceAdd, reduceMul, reduceSub, reduceLeDiff, reduceEq, reduceLT, reduceLE, go_sem]) | (refine Z5 rfl ?_; with_reducible first | refine condQ_T ?_ | refine condQ_F ?_) | refine Z6 ?_ | refine Z7 ?_ | refine Z8 ?_ | refine Z9 fun _ _ => ?_ | refine Za ‹_› ?_ | refine Zb ‹_› ?_ | refine Zc ‹_› trivial ?_ | refine Zd ‹_› trivial ?_ | refine Ze ‹_› trivial ?_ | refine Zf ‹_› ?_ | refine Zl ‹_› (by decide) ?_ | fail
    have nxt : ¬ (c = 65533 ∧ n = 1) → s.size < m + (i + n) ∧ utf8B s = utf8F s m (i + n) := fun h => by
      have h0 : utf8Step s i ≠ 0 := fun e => h (q1 ▸ e)
      rw [if_neg h0, ← q2 h0] at h2
      exact ⟨by omega, h2⟩
    refine .cond rfl (fun g => ?_) (fun g => ?_)
    · simp only [decide_eq_true_eq] at g
      repeat' first | refine Z1 fun _ _ => ?_ | refine Z2 ‹_› ?_ | ((first | refine Z3 tb_ok lv62 rfl ?_ | refine ret_eq rfl ?_); simp only [↓reduceIte, reduceCtorEq, reduceEqDiff, reduceAdd, reduceMul, reduceSub, reduceLeDiff, reduceEq, reduceLT, reduceLE, go_sem]) | (refine Z5 rfl ?_; with_reducible first | refine condQ_T ?_ | refine condQ_F ?_) | refine Z6 ?_ | refine Z7 ?_ | refine Z8 ?_ | refine Z9 fun _ _ => ?_ | refine Za ‹_› ?_ | refine Zb ‹_› ?_ | refine Zc ‹_› trivial ?_ | refine Zd ‹_› trivial ?_ | refine Ze ‹_› trivial ?_ | refine Zf ‹_› ?_ | refine Zl ‹_› (by decide) ?_ | fail
      exact hQ.next (m, i + n) (nxt fun h => g (by omega)) (by simp only; omega) (by simp only [↓reduceIte, reduceCtorEq, reduceEqDiff, reduceAdd, reduceMul, reduceSub, reduceLeDiff, reduceEq, reduceLT, reduceLE, go_sem]; try simp)
    · have hd := c_decode (s.extract i s.size)
      rw [hc] at hd
      repeat' first | refine Z1 fun _ _ => ?_ | refine Z2 ‹_› ?_ | ((first | refine Z3 tb_ok lv62 rfl ?_ | refine ret_eq rfl ?_); simp only [↓reduceIte, reduceCtorEq, reduceEqDiff, reduceAdd, reduceMul, reduceSub, reduceLeDiff, reduceEq, reduceLT, reduceLE, go_sem]) | (refine Z5 rfl ?_; with_reducible first | refine condQ_T ?_ | refine condQ_F ?_) | refine Z6 ?_ | refine Z7 ?_ | refine Z8 ?_ | refine Z9 fun _ _ => ?_ | refine Za ‹_› ?_ | refine Zb ‹_› ?_ | refine Zc ‹_› trivial ?_ | refine Zd ‹_› trivial ?_ | refine Ze ‹_› trivial ?_ | refine Zf ‹_› ?_ | refine Zl ‹_› (by decide) ?_ | fail
      refine ⟨by omega, by omega, ?_⟩
      refine call_pure rfl rfl (hd) ?_; simp only [↓reduceIte, reduceCtorEq, reduceEqDiff, reduceAdd, reduceMul, reduceSub, reduceLeDiff, reduceEq, reduceLT, reduceLE, go_sem]
      repeat' first | refine Z1 fun _ _ => ?_ | refine Z2 ‹_› ?_ | ((first | refine Z3 tb_ok lv62 rfl ?_ | refine ret_eq rfl ?_); simp only [↓reduceIte, reduceCtorEq, reduceEqDiff, reduceAdd, reduceMul, reduceSub, reduceLeDiff, reduceEq, reduceLT, reduceLE, go_sem]) | (refine Z5 rfl ?_; with_reducible first | refine condQ_T ?_ | refine condQ_F ?_) | refine Z6 ?_ | refine Z7 ?_ | refine Z8 ?_ | refine Z9 fun _ _ => ?_ | refine Za ‹_› ?_ | refine Zb ‹_› ?_ | refine Zc ‹_› trivial ?_ | refine Zd ‹_› trivial ?_ | refine Ze ‹_› trivial ?_ | refine Zf ‹_› ?_ | refine Zl ‹_› (by decide) ?_ | fail
      simp only [decide_eq_false_iff_not, Decidable.not_not] at g
      refine .cond rfl (fun g1 => ?_) (fun g1 => ?_)
      · simp only [decide_eq_true_eq] at g1
        repeat' first | refine Z1 fun _ _ => ?_ | refine Z2 ‹_› ?_ | ((first | refine Z3 tb_ok lv62 rfl ?_ | refine ret_eq rfl ?_); simp only [↓reduceIte, reduceCtorEq, reduceEqDiff, reduceAdd, reduceMul, reduceSub, reduceLeDiff, reduceEq, reduceLT, reduceLE, go_sem]) | (refine Z5 rfl ?_; with_reducible first | refine condQ_T ?_ | refine condQ_F ?_) | refine Z6 ?_ | refine Z7 ?_ | refine Z8 ?_ | refine Z9 fun _ _ => ?_ | refine Za ‹_› ?_ | refine Zb ‹_› ?_ | refine Zc ‹_› trivial ?_ | refine Zd ‹_› trivial ?_ | refine Ze ‹_› trivial ?_ | refine Zf ‹_› ?_ | refine Zl ‹_› (by decide) ?_ | fail
        rw [h2, if_pos (q1 ▸ ⟨by omega, by omega⟩)]
      · simp only [decide_eq_false_iff_not] at g1
        repeat' first | refine Z1 fun _ _ => ?_ | refine Z2 ‹_› ?_ | ((first | refine Z3 tb_ok lv62 rfl ?_ | refine ret_eq rfl ?_); simp only [↓reduceIte, reduceCtorEq, reduceEqDiff, reduceAdd, reduceMul, reduceSub, reduceLeDiff, reduceEq, reduceLT, reduceLE, go_sem]) | (refine Z5 rfl ?_; with_reducible first | refine condQ_T ?_ | refine condQ_F ?_) | refine Z6 ?_ | refine Z7 ?_ | refine Z8 ?_ | refine Z9 fun _ _ => ?_ | refine Za ‹_› ?_ | refine Zb ‹_› ?_ | refine Zc ‹_› trivial ?_ | refine Zd ‹_› trivial ?_ | refine Ze ‹_› trivial ?_ | refine Zf ‹_› ?_ | refine Zl ‹_› (by decide) ?_ | fail
        exact hQ.next (m, i + n) (nxt fun h => g1 (by omega)) (by simp only; omega) (by simp only [↓reduceIte, reduceCtorEq, reduceEqDiff, reduceAdd, reduceMul, reduceSub, reduceLeDiff, reduceEq, reduceLT, reduceLE, go_sem]; try simp)
  · repeat' first | refine Z1 fun _ _ => ?_ | refine Z2 ‹_› ?_ | ((first | refine Z3 tb_ok lv62 rfl ?_ | refine ret_eq rfl ?_); simp only [↓reduceIte, reduceCtorEq, reduceEqDiff, reduceAdd, reduceMul, reduceSub, reduceLeDiff, reduceEq, reduceLT, reduceLE, go_sem]) | (refine Z5 rfl ?_; with_reducible first | refine condQ_T ?_ | refine condQ_F ?_) | refine Z6 ?_ | refine Z7 ?_ | refine Z8 ?_ | refine Z9 fun _ _ => ?_ | refine Za ‹_› ?_ | refine Zb ‹_› ?_ | refine Zc ‹_› trivial ?_ | refine Zd ‹_› trivial ?_ | refine Ze ‹_› trivial ?_ | refine Zf ‹_› ?_ | refine Zl ‹_› (by decide) ?_ | fail
    rw [h2]
    cases m with
    | zero => rfl
    | succ m => simp only [utf8F, if_neg hi]
end Go.Proofs.YtoidlnhgaaohdaaDoor

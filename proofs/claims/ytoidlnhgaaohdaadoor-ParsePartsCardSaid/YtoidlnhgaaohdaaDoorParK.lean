/- parse.Parse. -/
import Derived.Test.YtoidlnhgaaohdaaDoorParI
import Derived.Test.YtoidlnhgaaohdaaDoorParJ
namespace Go.Proofs.YtoidlnhgaaohdaaDoor
set_option linter.all false
open Go Go.RowKit
open Nat (reduceEqDiff reduceAdd reduceMul reduceSub reduceLeDiff)
open Int (reduceEq reduceLT reduceLE)

@[go_sem] def lv9 : List (Nat × List Nat) := [(0, [0, 2, 3, 4, 5]), (1, [0, 2, 3, 4, 5]), (2, [2, 3, 4, 5, 6]), (3, [2, 3, 4, 5, 6, 7]), (4, [2, 3, 4, 5, 7, 8]), (5, [2, 3, 4, 5, 7, 8, 21]), (6, [2, 3, 4, 5]), (7, [2, 3, 4, 5])]
def bs9 : List (Nat × List Nat × List Nat) := [(6, [0, 0, 2, 1, 9, 25, 63], [6])]
def tparse_127 : Sch := .node [(7, .done)]
def tparse_63 : Sch := .node [(6, tparse_127)]
def tparse_31 : Sch := .node [(5, tparse_63)]
def tparse_15 : Sch := .node [(4, tparse_31)]
def tparse_23 : Sch := .node [(3, tparse_31)]
def tparse_7 : Sch := .node [(3, tparse_15), (4, tparse_23)]
def tparse_19 : Sch := .node [(2, tparse_23)]
def tparse_3 : Sch := .node [(2, tparse_7), (4, tparse_19)]
def tparse_13 : Sch := .node [(1, tparse_15)]
def tparse_5 : Sch := .node [(1, tparse_7), (3, tparse_13)]
def tparse_1 : Sch := .node [(1, tparse_3), (2, tparse_5)]
def tparse_12 : Sch := .node [(0, tparse_13)]
def tparse_4 : Sch := .node [(0, tparse_5), (3, tparse_12)]
def tparse : Sch := .node [(0, tparse_1), (2, tparse_4)]
/-- What Parse hands out. -/
def pout : PR → D
  | .ok t ats _ => .tup [.agg [nds (t.flat 0)], ints ats, .int .i64 0, .int .i64 0]
  | .bad w a _ => .tup [.agg [.slice []], .slice [], .int .i64 w, .int .i64 a]
def ctxP (w1 : World) (okP : Nat → Prop) (σ : Nat → Value) (ds : List Deferred) : Ctx := ⟨glU, w1, okP, fun _ => False, σ, fun k => k < 4, fun _ => False, ds⟩
def fin (l : List Tk) : PR → PR
  | .ok t ats j => if (tk l j).k = 10 then .ok t ats j else halt l j []
  | r => r
set_option maxHeartbeats 1000000 in
theorem c_parse {l : List Tk} {e : Nat} {r0 : PR} (h : Rel l .or 0 [] r0) (hl : l.length ≤ 1000) (hok : ∀ i, tkOk (tk l i)) (he : (tk l e).k = 10) (hel : e < l.length) : PCon Tryd.prog glU 9 [tks l] (pout (fin l r0)) := by
  refine ⟨⟨Tryd.f9, by kernel_rfl, by kernel_rfl, rfl⟩, fun w ok vs hvok hgl hvl hargs => ?_⟩
  refine calls_of_wp_defers (fn := Tryd.f9) (by kernel_rfl) rfl ?_
  have hs0 := sr_start (fn := Tryd.f9) (by show 1 ≤ 29; decide) hvok hgl hvl hargs
  refine wp_seq (wp_mono ((?aw : AWk Tryd.prog glU 29 _ (fun e s => e = .normal ∧ s = ⟨[(0, .d (tks l)), (2, .ref 0 0), (3, .ref 1 0), (4, .ref 2 0), (5, .ref 3 0)], [(3, .box true [.d (.int .i64 0)]), (2, .box true [.d (.int .i64 0)]), (1, .box true [.d .nils]), (0, .box true [.d .nils])], 4⟩) _) (ctx0 glU w ok) _ w _ rfl hs0) fun ee a1 w1 ⟨ae, s', σ, ⟨q0, q1⟩, q2, q3⟩ => ?_)
  case aw =>
    refine .regionL tb_ok lv9 rfl ?_
    simp only [↓reduceIte, reduceCtorEq, reduceEqDiff, reduceAdd, reduceMul, reduceSub, reduceLeDiff, reduceEq, reduceLT, reduceLE, go_sem]
  subst q0 q1
  cases q3
  refine wp_seq (wp_region ?_)
  have hsz : a1.tmps.size = 29 := q2.nt
  have hdf : a1.defers = [] := q2.defers
  have ptr : ∀ (t k : Nat) (cs : List AV), look ([(0, .d (tks l)), (2, .ref 0 0), (3, .ref 1 0), (4, .ref 2 0), (5, .ref 3 0)] : List (Nat × AV)) t = some (.ref k 0) → look ([(3, .box true [.d (.int .i64 0)]), (2, .box true [.d (.int .i64 0)]), (1, .box true [.d .nils]), (0, .box true [.d .nils])] : List (Nat × Obj1)) k = some (.box true cs) → ∃ b, σ k = .pointer (some ⟨b, 0, none⟩) ∧ a1.tmps.getD t undef = .pointer (some ⟨b, 0, none⟩) := fun t k cs ht hk => by
    obtain ⟨b, h1, h2⟩ := (q2.env t _ ht).toA.ref_inv
    obtain ⟨b', hb'⟩ := ((q2.own k _ hk).2.toO).box_ptr
    rw [hb'] at h1
    simp [blkOf] at h1
    subst h1
    exact ⟨b', hb', h2⟩
  obtain ⟨b0, s0, t0⟩ := ptr 2 0 _ rfl rfl
  obtain ⟨b1, s1, t1⟩ := ptr 3 1 _ rfl rfl
  obtain ⟨b2, s2, t2⟩ := ptr 4 2 _ rfl rfl
  obtain ⟨b3, s3', t3⟩ := ptr 5 3 _ rfl rfl
  have g0 : a1.tmps[2]'(by omega) = .pointer (some ⟨b0, 0, none⟩) := by rw [← t0]; simp [hsz]
  have g1 : a1.tmps[3]'(by omega) = .pointer (some ⟨b1, 0, none⟩) := by rw [← t1]; simp [hsz]
  have g2 : a1.tmps[4]'(by omega) = .pointer (some ⟨b2, 0, none⟩) := by rw [← t2]; simp [hsz]
  have g3 : a1.tmps[5]'(by omega) = .pointer (some ⟨b3, 0, none⟩) := by rw [← t3]; simp [hsz]
  simp [wpOps, Region.wanted, Oper.wp, go_sem, hsz, hdf, g0, g1, g2, g3]
  refine .inl (.inl ?_)
  generalize hF : (Value.func (Fn.func 18) #[] #[.pointer (some ⟨b0, 0, none⟩), .pointer (some ⟨b1, 0, none⟩), .pointer (some ⟨b2, 0, none⟩), .pointer (some ⟨b3, 0, none⟩)]) = F
  have hs2 := ((q2.wipe (d := 9) (v := F)).less (E' := look [(0, AV.d (tks l)), (2, .ref 0 0), (3, .ref 1 0), (4, .ref 2 0), (5, .ref 3 0)]) (fun t x hx => by
    by_cases ht : t = 9
    · subst ht; simp [look] at hx
    · rw [upd1_ne ht]; exact hx)).pin [{ target := .fn (.func 18) #[.pointer (some ⟨b0, 0, none⟩), .pointer (some ⟨b1, 0, none⟩), .pointer (some ⟨b2, 0, none⟩), .pointer (some ⟨b3, 0, none⟩)], args := #[] }] (fun k => k < 4) (fun k hk => hk)
  change Code.wp Tryd.prog _ _ _ w1
  have all := c_all (by omega) hok he hel _ 0 [] r0 rfl (Nat.zero_le _) (by simp) h
  have wi := h.within he (Nat.zero_le _)
  have iv := h.inv hok trivial
  by_cases hgood : ∃ t ats j, r0 = .ok t ats j ∧ (tk l j).k = 10
  · obtain ⟨t, ats, j, rfl, hj⟩ := hgood
    have hjl : j < l.length := by have := wi.2.1; simp only [PR.place] at this; omega
    have tn : t.n ≤ 4096 := by have := iv.2.2; simp only [NT.spent] at this; omega
    rw [show fin l (.ok t ats j) = .ok t ats j from if_pos hj]
    refine wp_mono ((?aw2 : AWk Tryd.prog glU 29 _ (retA tb Tryd.f9.results (pout (.ok t ats j))) ⟨[(0, AV.d (tks l)), (2, .ref 0 0), (3, .ref 1 0), (4, .ref 2 0), (5, .ref 3 0)], [(3, .box true [.d (.int .i64 0)]), (2, .box true [.d (.int .i64 0)]), (1, .box true [.d .nils]), (0, .box true [.d .nils])], 4⟩) _ _ w1 σ rfl hs2) fun ee a3 w3 ⟨ae, s3, σ3, z1, z2, z3⟩ => ?_
    case aw2 =>
      refine .seq ?_
      refine .regionL tb_ok lv9 rfl ?_
      simp only [↓reduceIte, reduceCtorEq, reduceEqDiff, reduceAdd, reduceMul, reduceSub, reduceLeDiff, reduceEq, reduceLT, reduceLE, go_sem]
      refine .adoptC 6 2 3 1 rfl rfl (by decide) ?_
      simp only [↓reduceIte, reduceCtorEq, reduceEqDiff, reduceAdd, reduceMul, reduceSub, reduceLeDiff, reduceEq, reduceLT, reduceLE, go_sem]
      refine .seq ?_
      refine .regionL tb_ok lv9 rfl ?_
      simp only [↓reduceIte, reduceCtorEq, reduceEqDiff, reduceAdd, reduceMul, reduceSub, reduceLeDiff, reduceEq, reduceLT, reduceLE, go_sem]
      refine cb_ret (all) rfl rfl rfl rfl rfl ?_; simp only [↓reduceIte, reduceCtorEq, reduceEqDiff, reduceAdd, reduceMul, reduceSub, reduceLeDiff, reduceEq, reduceLT, reduceLE, go_sem]
      refine .seq ?_
      refine .regionL tb_ok lv9 rfl ?_
      simp only [↓reduceIte, reduceCtorEq, reduceEqDiff, reduceAdd, reduceMul, reduceSub, reduceLeDiff, reduceEq, reduceLT, reduceLE, go_sem]
      refine cb_ret (c_take (gl := glU) (os := []) (by omega) hjl (by simp) hj) rfl rfl rfl rfl rfl ?_; simp only [↓reduceIte, reduceCtorEq, reduceEqDiff, reduceAdd, reduceMul, reduceSub, reduceLeDiff, reduceEq, reduceLT, reduceLE, go_sem]
      refine .seq ?_
      refine .seq ?_
      refine .regionL tb_ok lv9 rfl ?_
      simp only [↓reduceIte, reduceCtorEq, reduceEqDiff, reduceAdd, reduceMul, reduceSub, reduceLeDiff, reduceEq, reduceLT, reduceLE, go_sem]
      have f4 : decide ((4096 : Int) < ((t.flat 0).length : Nat)) = false := by rw [T.flat_len]; simp; omega
      simp only [↓reduceIte, reduceCtorEq, reduceEqDiff, reduceAdd, reduceMul, reduceSub, reduceLeDiff, reduceEq, reduceLT, reduceLE, go_sem, f4]
      refine .condF rfl ?_
      refine .skip ?_
      simp only [↓reduceIte, reduceCtorEq, reduceEqDiff, reduceAdd, reduceMul, reduceSub, reduceLeDiff, reduceEq, reduceLT, reduceLE, go_sem]
      refine .seq ?_
      refine .regionA tb_ok mix [2, 3, 4, 5] tparse (by kernel_rfl) rfl ?_
      simp only [tparse_127, tparse_63, tparse_31, tparse_15, tparse_23, tparse_7, tparse_19, tparse_3, tparse_13, tparse_5, tparse_1, tparse_12, tparse_4, tparse]
      simp (config := { maxSteps := 20000000 }) only [↓reduceIte, reduceCtorEq, reduceEqDiff, reduceAdd, reduceMul, reduceSub, reduceLeDiff, reduceEq, reduceLT, reduceLE, go_sem]
      repeat' apply And.intro
      all_goals
        refine .ret ?_
        refine ret_eq rfl ?_
        rfl
    have z4 : outsA tb (look s3.env) (look s3.own) Tryd.f9.results.toList = some (pout (.ok t ats j)) ∧ (ee = .ret ∨ ee = .normal) := by
      cases z3 with
      | ret => exact ⟨z1, .inl rfl⟩
      | normal => exact ⟨z1, .inr rfl⟩
      | exit id => exact z1.elim
      | goto id => exact z1.elim
      | panic x v hv => exact z1.elim
    obtain ⟨z1, z4⟩ := z4
    suffices Leaves Tryd.prog Tryd.f9 a3.tmps (fun e w' => ∃ v, e = Ending.returned v ∧ Go1 w w' none ∧ Rep w' (fun b => b < w'.heap.size ∧ (ok b ∨ w.heap.size ≤ b)) (pout (PR.ok t ats j)) v) a3.defers .returning w3 by
      rcases z4 with rfl | rfl <;> exact this
    show Leaves _ _ _ _ _ _ _
    rw [z2.defers]
    refine leaves_cons (f := 18) (args := #[.pointer (some ⟨b0, 0, none⟩), .pointer (some ⟨b1, 0, none⟩), .pointer (some ⟨b2, 0, none⟩), .pointer (some ⟨b3, 0, none⟩)]) (by simp) (by simp [go_sem]) ?_
    refine (catch_idle _ _ _ _ _).mono ?_
    rintro e u' w'' ⟨rfl, rfl, rfl⟩
    obtain ⟨v, r1, r2⟩ := outs_run (fn := Tryd.f9) tb_ok z2 z1
    exact ⟨v, r1, v, rfl, ⟨z2.os, z2.tape, z2.output, z2.size, fun b hb _ => z2.frame b hb fun h => h⟩, r2⟩
  · obtain ⟨c, at', j', hfin, hrun⟩ : ∃ c at' j', fin l r0 = .bad c at' j' ∧ ∀ K : Prop, ((MB glU 19 l 0 [] (.bad c at' j')) → K) → ((∃ t ats j, MB glU 19 l 0 [] (.ok t ats j) ∧ PConB Tryd.prog glU 20 [.int .i64 10] (pcells l j) 3 1 (irow []) (.panic (flt c at'))) → K) → K := by
      cases r0 with
      | bad c at' j => exact ⟨c, at', j, rfl, fun K h1 _ => h1 all⟩
      | ok t ats j =>
        have hj : (tk l j).k ≠ 10 := fun e => hgood ⟨t, ats, j, rfl, e⟩
        have hjl : j < l.length := by have := wi.2.1; simp only [PR.place] at this; omega
        refine ⟨7, (tk l j).t, j, by simp [fin, hj, halt], fun K _ h2 => h2 ⟨t, ats, j, all, ?_⟩⟩
        have hx := c_takeX (gl := glU) (os := []) (by omega) hjl (by simp) hj
        rwa [show stopAt l j [] = flt 7 (tk l j).t from if_neg fun c => absurd c.2 (by simp)] at hx
    rw [hfin]
    have hs3 : SR (ctxP w1 (okk (ctx0 glU w ok) (look [(3, .box true [.d (.int .i64 0)]), (2, .box true [.d (.int .i64 0)]), (1, .box true [.d .nils]), (0, .box true [.d .nils])]) σ w1) σ [{ target := .fn (.func 18) #[.pointer (some ⟨b0, 0, none⟩), .pointer (some ⟨b1, 0, none⟩), .pointer (some ⟨b2, 0, none⟩), .pointer (some ⟨b3, 0, none⟩)], args := #[] }]) 29 ⟨[(0, AV.d (tks l)), (2, .ref 0 0), (3, .ref 1 0), (4, .ref 2 0), (5, .ref 3 0)], [], 4⟩ ({ a1.put (some 9) F with defers := [{ target := .fn (.func 18) #[.pointer (some ⟨b0, 0, none⟩), .pointer (some ⟨b1, 0, none⟩), .pointer (some ⟨b2, 0, none⟩), .pointer (some ⟨b3, 0, none⟩)], args := #[] }] } : Act) w1 σ := by
      have hK : Kept w1 w1 (okk (ctx0 glU w ok) (look [(3, .box true [.d (.int .i64 0)]), (2, .box true [.d (.int .i64 0)]), (1, .box true [.d .nils]), (0, .box true [.d .nils])]) σ w1) (okk (ctxP w1 (okk (ctx0 glU w ok) (look [(3, .box true [.d (.int .i64 0)]), (2, .box true [.d (.int .i64 0)]), (1, .box true [.d .nils]), (0, .box true [.d .nils])]) σ w1) σ [{ target := .fn (.func 18) #[.pointer (some ⟨b0, 0, none⟩), .pointer (some ⟨b1, 0, none⟩), .pointer (some ⟨b2, 0, none⟩), .pointer (some ⟨b3, 0, none⟩)], args := #[] }]) (look []) σ w1) := fun b hb => ⟨⟨hb.1, .inl hb, fun k o hk => by cases hk⟩, rfl⟩
      exact ⟨fun t x hx => (hs2.env t x hx).mono hK, fun k o hk => (by cases hk), fun k k' o o' hk => (by cases hk), fun k o hk => (by cases hk), fun _ _ _ => rfl, fun b hb => ⟨hb.1, fun h => h⟩, Nat.le_refl _, rfl, rfl, rfl, fun k hk => ⟨hk, rfl⟩, rfl, hs2.nt, q2.glob.mono hK⟩
    refine wp_mono ((?aw3 : AWk Tryd.prog glU 29 _ (fun e s => e = .panic (flt c at') ∧ s.own = [] ∧ ∀ k, k < 4 → look s.env (2 + k) = some (.ref k 0)) ⟨[(0, AV.d (tks l)), (2, .ref 0 0), (3, .ref 1 0), (4, .ref 2 0), (5, .ref 3 0)], [], 4⟩) _ _ w1 σ rfl hs3) fun ee a3 w3 ⟨ae, s3, σ3, z1, z2, z3⟩ => ?_
    case aw3 =>
      refine .seq ?_
      refine .regionL tb_ok lv9 rfl ?_
      simp only [↓reduceIte, reduceCtorEq, reduceEqDiff, reduceAdd, reduceMul, reduceSub, reduceLeDiff, reduceEq, reduceLT, reduceLE, go_sem]
      refine .adoptC 6 2 3 1 rfl rfl (by decide) ?_
      simp only [↓reduceIte, reduceCtorEq, reduceEqDiff, reduceAdd, reduceMul, reduceSub, reduceLeDiff, reduceEq, reduceLT, reduceLE, go_sem]
      refine hrun _ (fun hb => ?_) (fun ⟨t, ats, j, hb, ht⟩ => ?_)
      · refine .seq ?_
        refine .regionL tb_ok lv9 rfl ?_
        simp only [↓reduceIte, reduceCtorEq, reduceEqDiff, reduceAdd, reduceMul, reduceSub, reduceLeDiff, reduceEq, reduceLT, reduceLE, go_sem]
        refine cb_pan (hb) rfl rfl rfl rfl rfl ?_; try simp only [↓reduceIte, reduceCtorEq, reduceEqDiff, reduceAdd, reduceMul, reduceSub, reduceLeDiff, reduceEq, reduceLT, reduceLE, go_sem]
        change _ ∧ _ ∧ _
        exact ⟨rfl, rfl, lt4 rfl rfl rfl rfl⟩
      · refine .seq ?_
        refine .regionL tb_ok lv9 rfl ?_
        simp only [↓reduceIte, reduceCtorEq, reduceEqDiff, reduceAdd, reduceMul, reduceSub, reduceLeDiff, reduceEq, reduceLT, reduceLE, go_sem]
        refine cb_ret (hb) rfl rfl rfl rfl rfl ?_; simp only [↓reduceIte, reduceCtorEq, reduceEqDiff, reduceAdd, reduceMul, reduceSub, reduceLeDiff, reduceEq, reduceLT, reduceLE, go_sem]
        refine .seq ?_
        refine .regionL tb_ok lv9 rfl ?_
        simp only [↓reduceIte, reduceCtorEq, reduceEqDiff, reduceAdd, reduceMul, reduceSub, reduceLeDiff, reduceEq, reduceLT, reduceLE, go_sem]
        refine cb_pan (ht) rfl rfl rfl rfl rfl ?_; try simp only [↓reduceIte, reduceCtorEq, reduceEqDiff, reduceAdd, reduceMul, reduceSub, reduceLeDiff, reduceEq, reduceLT, reduceLE, go_sem]
        change _ ∧ _ ∧ _
        exact ⟨rfl, rfl, lt4 rfl rfl rfl rfl⟩
    obtain ⟨z0, z00, z1⟩ := z1
    subst z0
    cases z3 with
    | panic x v hv =>
    obtain ⟨bs, hbs⟩ : ∃ bs : Nat → Nat, bs = fun k => ([b0, b1, b2, b3] : List Nat).getD k 0 := ⟨_, rfl⟩
    have e0 : bs 0 = b0 := by rw [hbs]; rfl
    have e1 : bs 1 = b1 := by rw [hbs]; rfl
    have e2 : bs 2 = b2 := by rw [hbs]; rfl
    have e3 : bs 3 = b3 := by rw [hbs]; rfl
    have hσ : ∀ k, k < 4 → σ k = .pointer (some ⟨bs k, 0, none⟩) := lt4 (by rw [e0]; exact s0) (by rw [e1]; exact s1) (by rw [e2]; exact s2) (by rw [e3]; exact s3')
    have own : ∀ k, k < 4 → look ([(3, .box true [.d (.int .i64 0)]), (2, .box true [.d (.int .i64 0)]), (1, .box true [.d .nils]), (0, .box true [.d .nils])] : List (Nat × Obj1)) k = some (.box true [.d (xs4 k)]) := lt4 rfl rfl rfl rfl
    have hlt : ∀ k, k < 4 → bs k < w1.heap.size ∧ w.heap.size ≤ bs k := fun k hk => by
      refine ⟨(q2.own k _ (own k hk)).2.toO.lt _ (by rw [hσ k hk]; rfl), ?_⟩
      rcases q2.mine k _ (own k hk) (bs k) (by rw [hσ k hk]; rfl) with ⟨h, _⟩ | ⟨h, _⟩
      · exact absurd rfl h
      · exact h
    have hinj : ∀ i j, i < 4 → j < 4 → bs i = bs j → i = j := fun i j hi hj e => Decidable.byContradiction fun hne => q2.dis i j _ _ (own i hi) (own j hj) hne (bs i) (by rw [hσ i hi]; rfl) (by rw [hσ j hj, e]; rfl)
    have hP : ∀ b, (okk (ctx0 glU w ok) (look [(3, .box true [.d (.int .i64 0)]), (2, .box true [.d (.int .i64 0)]), (1, .box true [.d .nils]), (0, .box true [.d .nils])]) σ w1) b → ∀ k, k < 4 → b ≠ bs k := fun b hb k hk e => hb.2.2 k _ (own k hk) (by rw [hσ k hk, e]; rfl)
    have hQ := fun (b : Nat) (hb : okk (ctxP w1 (okk (ctx0 glU w ok) (look [(3, .box true [.d (.int .i64 0)]), (2, .box true [.d (.int .i64 0)]), (1, .box true [.d .nils]), (0, .box true [.d .nils])]) σ w1) σ [{ target := .fn (.func 18) #[.pointer (some ⟨b0, 0, none⟩), .pointer (some ⟨b1, 0, none⟩), .pointer (some ⟨b2, 0, none⟩), .pointer (some ⟨b3, 0, none⟩)], args := #[] }]) (look s3.own) σ3 w3 b) => (show b < w3.heap.size ∧ ∀ k, k < 4 → b ≠ bs k from ⟨hb.1, fun k hk e => by
      rcases hb.2.1 with h | h
      · exact hP b h k hk e
      · have h1 := (hlt k hk).1
        have h2 : w1.heap.size ≤ b := h
        omega⟩)
    have hKQ : Kept w1 w3 (okk (ctx0 glU w ok) (look [(3, .box true [.d (.int .i64 0)]), (2, .box true [.d (.int .i64 0)]), (1, .box true [.d .nils]), (0, .box true [.d .nils])]) σ w1) (okk (ctxP w1 (okk (ctx0 glU w ok) (look [(3, .box true [.d (.int .i64 0)]), (2, .box true [.d (.int .i64 0)]), (1, .box true [.d .nils]), (0, .box true [.d .nils])]) σ w1) σ [{ target := .fn (.func 18) #[.pointer (some ⟨b0, 0, none⟩), .pointer (some ⟨b1, 0, none⟩), .pointer (some ⟨b2, 0, none⟩), .pointer (some ⟨b3, 0, none⟩)], args := #[] }]) (look s3.own) σ3 w3) := fun b hb => ⟨⟨Nat.lt_of_lt_of_le hb.1 z2.size, .inl hb, fun k o hk => by rw [z00] at hk; cases hk⟩, z2.frame b hb.1 (fun h => h)⟩
    have hbx : ∀ k τ, k < 4 → RepO w3 (okk (ctxP w1 (okk (ctx0 glU w ok) (look [(3, .box true [.d (.int .i64 0)]), (2, .box true [.d (.int .i64 0)]), (1, .box true [.d .nils]), (0, .box true [.d .nils])]) σ w1) σ [{ target := .fn (.func 18) #[.pointer (some ⟨b0, 0, none⟩), .pointer (some ⟨b1, 0, none⟩), .pointer (some ⟨b2, 0, none⟩), .pointer (some ⟨b3, 0, none⟩)], args := #[] }]) (look s3.own) σ3 w3) τ (.box false [.d (xs4 k)]) (.pointer (some ⟨bs k, 0, none⟩)) := fun k τ hk => by
      have h1 := (q2.own k _ (own k hk)).2.toO
      rw [hσ k hk] at h1
      exact h1.box_d.mono hKQ fun b hb => z2.frame b (by
        simp [blkOf] at hb
        subst hb
        exact (hlt k hk).1) (fun h => h)
    have hcat := catch_panicking (bs := bs) hQ z2.glob hinj hbx hv
    rw [e0, e1, e2, e3] at hcat
    show Leaves _ _ _ _ _ _ _
    rw [z2.defers]
    refine leaves_cons (f := 18) (args := #[.pointer (some ⟨b0, 0, none⟩), .pointer (some ⟨b1, 0, none⟩), .pointer (some ⟨b2, 0, none⟩), .pointer (some ⟨b3, 0, none⟩)]) (by simp) (by simp [go_sem]) ?_
    refine hcat.mono ?_
    rintro e u' w4 ⟨rfl, rfl, h4⟩
    have tq : ∀ k, k < 4 → a3.tmps.getD (2 + k) undef = .pointer (some ⟨bs k, 0, none⟩) := fun k hk => by
      obtain ⟨b, g1, g2⟩ := (z2.env (2 + k) _ (z1 k hk)).toA.ref_inv
      rw [(z2.ag k hk).2] at g1
      rw [show ((ctxP w1 (okk (ctx0 glU w ok) (look [(3, .box true [.d (.int .i64 0)]), (2, .box true [.d (.int .i64 0)]), (1, .box true [.d .nils]), (0, .box true [.d .nils])]) σ w1) σ [{ target := .fn (.func 18) #[.pointer (some ⟨b0, 0, none⟩), .pointer (some ⟨b1, 0, none⟩), .pointer (some ⟨b2, 0, none⟩), .pointer (some ⟨b3, 0, none⟩)], args := #[] }])).σ0 k = σ k from rfl, hσ k hk] at g1
      simp [blkOf] at g1
      subst g1
      exact g2
    have t4 := sr_four (nt := 29) (w := w4) (ok := fun b => b < w4.heap.size ∧ (okk (ctxP w1 (okk (ctx0 glU w ok) (look [(3, .box true [.d (.int .i64 0)]), (2, .box true [.d (.int .i64 0)]), (1, .box true [.d .nils]), (0, .box true [.d .nils])]) σ w1) σ [{ target := .fn (.func 18) #[.pointer (some ⟨b0, 0, none⟩), .pointer (some ⟨b1, 0, none⟩), .pointer (some ⟨b2, 0, none⟩), .pointer (some ⟨b3, 0, none⟩)], args := #[] }]) (look s3.own) σ3 w3 b ∨ w3.heap.size ≤ b) ∧ ∀ i, i < 4 → b ≠ bs i) (bs := bs) (xs := ys4 c at') (a := { a3 with defers := [] }) (E := [(2, .ref 0 0), (3, .ref 1 0), (4, .ref 2 0), (5, .ref 3 0)]) (fun b hb => ⟨hb.1, hb.2.2⟩)
      (Glob.mono (fun b hb => ⟨⟨Nat.lt_of_lt_of_le hb.1 h4.size, .inl hb, (hQ b hb).2⟩, h4.block b hb.1 (hQ b hb).2⟩) z2.glob) hinj (fun k σ hk => h4.boxes k σ hk) rfl z2.nt (fun t x hx => by
        simp only [look] at hx
        split at hx
        · rename_i e; cases hx; subst e; exact .inl ⟨0, by decide, rfl, tq 0 (by decide)⟩
        · split at hx
          · rename_i e; cases hx; subst e; exact .inl ⟨1, by decide, rfl, tq 1 (by decide)⟩
          · split at hx
            · rename_i e; cases hx; subst e; exact .inl ⟨2, by decide, rfl, tq 2 (by decide)⟩
            · split at hx
              · rename_i e; cases hx; subst e; exact .inl ⟨3, by decide, rfl, tq 3 (by decide)⟩
              · cases hx)
    obtain ⟨v', r1, r2⟩ := outs_run (P := Tryd.prog) (fn := Tryd.f9) (d := pout (.bad c at' j')) tb_ok t4 rfl
    refine ⟨v', r1, v', rfl, ⟨h4.os.trans (z2.os.trans q2.os), h4.tape.trans (z2.tape.trans q2.tape), h4.output.trans (z2.output.trans q2.output), Nat.le_trans q2.size (Nat.le_trans z2.size h4.size), fun b hb _ => ?_⟩, r2.mono fun b hb => ⟨⟨hb.1, ?_⟩, rfl⟩⟩
    · have hw1 : b < w1.heap.size := Nat.lt_of_lt_of_le hb q2.size
      have hne : ∀ k, k < 4 → b ≠ bs k := fun k hk e => by have := (hlt k hk).2; omega
      exact (h4.block b (Nat.lt_of_lt_of_le hw1 z2.size) hne).trans ((z2.frame b hw1 fun h => h).trans (q2.frame b hb fun h => h))
    · have s1' := q2.size
      have s2' : w1.heap.size ≤ w3.heap.size := z2.size
      have s3' := h4.size
      rcases hb.2 with h | h
      · rcases h.2.1 with h | h
        · rcases h.2.1 with h | h
          · rcases h.2.1 with h | h
            · exact .inl h
            · exact .inr h
          · exact .inr (Nat.le_trans s1' h)
        · exact .inr (Nat.le_trans s1' (Nat.le_trans s2' h))
      · exact .inr (Nat.le_trans s1' (Nat.le_trans s2' (Nat.le_trans s3' h)))
end Go.Proofs.YtoidlnhgaaohdaaDoor

/- A box and a row that are handed in, and written: contracts of methods; calls that panic. -/
import Derived.Test.YtpibdbjlilpfiaaAbsA
namespace Go.Proofs.Ytpibdbjlilpfiaa
set_option linter.all false
open Go Go.RowKit

/-- A box's cells: data, and one row. -/
def toAV (j : Nat) : List (Option D) → List AV
  | [] => []
  | some d :: r => .d d :: toAV j r
  | none :: r => .own j :: toAV j r
theorem toAV_len {j : Nat} : ∀ {l : List (Option D)}, (toAV j l).length = l.length
  | [] => rfl
  | some _ :: r => by simp [toAV, toAV_len (l := r)]
  | none :: r => by simp [toAV, toAV_len (l := r)]
theorem toAV_at {j : Nat} : ∀ {l : List (Option D)} {i : Nat} {c : AV}, (toAV j l)[i]? = some c → (∃ d, l[i]? = some (some d) ∧ c = .d d) ∨ (l[i]? = some none ∧ c = .own j)
  | [], i, c, h => by simp [toAV] at h
  | some d :: r, 0, c, h => by simp [toAV] at h; subst h; exact .inl ⟨d, rfl, rfl⟩
  | none :: r, 0, c, h => by simp [toAV] at h; subst h; exact .inr ⟨rfl, rfl⟩
  | some d :: r, i + 1, c, h => by simpa using toAV_at (l := r) (i := i) (by simpa [toAV] using h)
  | none :: r, i + 1, c, h => by simpa using toAV_at (l := r) (i := i) (by simpa [toAV] using h)
theorem toAV_get {j : Nat} {l : List (Option D)} {i : Nat} (hi : i < l.length) : ∃ c, (toAV j l)[i]? = some c := ⟨_, List.getElem?_eq_getElem (by rw [toAV_len]; exact hi)⟩

/-- How a method ends: what it hands out, the box's cells, the row; or a panic. -/
inductive PEnd where
  | ret (r : D) (cells : List (Option D)) (xs : List (List D))
  | panic (x : D)

def sig2 (b0 : Nat) (u1 : Value) : Nat → Value := fun k => if k = 0 then .pointer (some ⟨b0, 0, none⟩) else u1
structure GoB (w w' : World) (b0 : Nat) (u1 : Value) : Prop where
  os : w'.os = w.os
  tape : w'.tape = w.tape
  output : w'.output = w.output
  size : w.heap.size ≤ w'.heap.size
  block : ∀ b, b < w.heap.size → b ≠ b0 → blkOf u1 ≠ some b → w'.heap[b]? = w.heap[b]?
def okB (w w' : World) (ok : Nat → Prop) (b0 : Nat) (u : Value) : Nat → Prop := fun b => b < w'.heap.size ∧ (ok b ∨ w.heap.size ≤ b) ∧ b ≠ b0 ∧ blkOf u ≠ some b
def EndB (w : World) (ok : Nat → Prop) (b0 : Nat) (u1 : Value) (te : TypeId) (sz : Nat) : PEnd → Ending → World → Prop
  | .ret r cells xs, e, w' => ∃ v u', e = .returned v ∧ GoB w w' b0 u1 ∧ (∀ b, blkOf u' = some b → b ≠ b0 ∧ (blkOf u1 = some b ∨ w.heap.size ≤ b)) ∧ Rep w' (okB w w' ok b0 u') r v ∧
      RepO w' (okB w w' ok b0 u') (sig2 b0 u') (.box false (toAV 1 cells)) (.pointer (some ⟨b0, 0, none⟩)) ∧ RepO w' (okB w w' ok b0 u') (sig2 b0 u') (.row false te sz xs) u'
  | .panic x, e, w' => ∃ v, e = .panicked [{ v := v, recovered := false }] ∧ GoB w w' b0 u1 ∧ Rep w' (fun b => b < w'.heap.size ∧ (ok b ∨ w.heap.size ≤ b)) x v

/-- A method's contract: its receiver points to a box of these cells; one of them is this row. -/
structure PConB (P : Program) (gl : GL) (f : Nat) (ds : List D) (cells : List (Option D)) (te : TypeId) (sz : Nat) (xs : List (List D)) (res : PEnd) : Prop where
  fn : FnOk P f
  runs : gl.memo = none → ∀ (w : World) (ok : Nat → Prop) (b0 : Nat) (u1 : Value) (us : List Value), (∀ b, ok b → b < w.heap.size) → Glob gl w ok → us.length = ds.length →
    (∀ (i : Nat) x v, ds[i]? = some x → us[i]? = some v → Rep w ok x v) →
    RepO w ok (sig2 b0 u1) (.box false (toAV 1 cells)) (.pointer (some ⟨b0, 0, none⟩)) → RepO w ok (sig2 b0 u1) (.row false te sz xs) u1 →
    (∀ b, blkOf u1 = some b → b ≠ b0 ∧ ¬ ok b) → ¬ ok b0 →
    Calls P f (.pointer (some ⟨b0, 0, none⟩) :: us).toArray w fun e w' => EndB w ok b0 u1 te sz res e w'

/-- What one operation does, in this state. -/
def Step1 (P : Program) (gl : GL) (E : Nat → Option AV) (O : Nat → Option Obj1) (o : Oper) (id : Nat) (v : Option AV) (e : Eff) : Prop :=
  ∀ (c : Ctx) (al : Nat → Prop) (nt : Nat) (a : Act) (w : World) (σ : Nat → Value), c.gl = gl → SRep c E O al nt a w σ → ¬ al id →
    ∀ (K : Act → World → Prop) (Q : Exit → Act → World → Prop),
      (∀ v' w' σ', SRep c E (e.app id O) (fun k => al k ∨ k = id) nt a w' σ' →
        (∀ x, v = some x → RepS (fun k => al k ∨ k = id) w' (okk c (e.app id O) σ' w') σ' x v') → K (a.put o.dst v') w') → o.wp P a w K Q
/-- One that panics. -/
def StepX (P : Program) (gl : GL) (E : Nat → Option AV) (O : Nat → Option Obj1) (o : Oper) (x : D) : Prop :=
  ∀ (c : Ctx) (al : Nat → Prop) (nt : Nat) (a : Act) (w : World) (σ : Nat → Value), c.gl = gl → SRep c E O al nt a w σ →
    ∀ (K : Act → World → Prop) (Q : Exit → Act → World → Prop),
      (∀ v' w', SRep c E (fun _ => none) al nt a w' σ → Rep w' (okk c (fun _ => none) σ w') x v' → Q (.panic [{ v := v', recovered := false }]) a w') → o.wp P a w K Q

section
variable {P : Program} {E : Nat → Option AV} {O : Nat → Option Obj1} {gl : GL} {o : Oper} {id : Nat}
theorem Step.one {v : Option AV} {e : Eff} (h : Step P gl E O o id v e) : Step1 P gl E O o id v e := fun c al nt a w σ hgl hs hid K Q hK =>
  h c E O al nt a w σ hgl hs hid ⟨fun _ _ => rfl, fun _ _ _ _ _ _ => rfl⟩ K Q hK

/-- No own object is known any more. -/
theorem SRep.forget {c : Ctx} {E : Nat → Option AV} {O : Nat → Option Obj1} {al : Nat → Prop} {nt : Nat} {a : Act} {w w' : World} {σ : Nat → Value} (h : SRep c E O al nt a w σ) (ho : w'.os = w.os) (ht : w'.tape = w.tape) (hp : w'.output = w.output) (hz : w.heap.size ≤ w'.heap.size)
    (hb : ∀ b, b < w.heap.size → (∀ k o, O k = some o → blkOf (σ k) ≠ some b) → w'.heap[b]? = w.heap[b]?) : SRep c E (fun _ => none) al nt a w' σ := by
  have hkept : Kept w w' (okk c O σ w) (okk c (fun _ => none) σ w') := fun b hb' => ⟨⟨Nat.lt_of_lt_of_le hb'.1 hz, hb'.2.1, fun k o hk => by cases hk⟩, hb b hb'.1 hb'.2.2⟩
  refine ⟨fun t x hx => (h.env t x hx).mono hkept, fun k o hk => (by cases hk), fun k k' o o' hk => (by cases hk), fun k o hk => (by cases hk), fun b hb1 hp1 hn1 => ?_, h.low, h.mlow, Nat.le_trans h.size hz, ho.trans h.os, ht.trans h.tape, hp.trans h.output, h.ag, h.defers, h.nt, h.gstep hkept fun M hM => hb M.m (h.glob.memo M hM).2.1 fun k o hk => h.own_ne hk M hM⟩
  refine (hb b (Nat.lt_of_lt_of_le hb1 h.size) fun k o hk he => ?_).trans (h.frame b hb1 hp1 hn1)
  rcases h.mine k o hk b he with ⟨_, h1, _⟩ | ⟨h1, _⟩
  · exact hp1 h1
  · omega

theorem st_panic {x : Operand} {t : TypeId} {y : D} (ho : o.op = .panic x) (hx : getE gl E x = some (.d (.iface t y))) : StepX P gl E O o (.iface t y) := by
  intro c al nt a w σ hgl hs K Q hK
  subst hgl
  have h1 := (hs.get hx).d_inv
  generalize hv : a.eval x = v at h1
  cases h1 with
  | iface _ _ v' h1 =>
    unfold Oper.wp
    have hrun : (execOp a.eval o).run P w = .halt (.panic (.iface t v')) w := by
      simp only [execOp, ho, hv]
      rfl
    rw [hrun]
    refine hK _ w (hs.forget rfl rfl rfl (Nat.le_refl _) fun _ _ _ => rfl) (.iface t y v' (h1.mono fun b hb => ⟨⟨hb.1, hb.2.1, fun k o hk => by cases hk⟩, rfl⟩))

theorem RepO.row_fr {w : World} {ok : Nat → Prop} {σ σ' : Nat → Value} {fr fr' : Bool} {t : TypeId} {sz : Nat} {xs : List (List D)} {v : Value} (h : RepO w ok σ (.row fr t sz xs) v) : RepO w ok σ' (.row fr' t sz xs) v := by
  cases h with
  | row fr t sz xs v vs ho hp hm hsz h1 h => exact .row fr' t sz xs v vs ho hp hm hsz h1 h
theorem RepO.box_ren {w : World} {ok : Nat → Prop} {σ σ' : Nat → Value} {fr fr' : Bool} {j j' : Nat} {cells : List (Option D)} {v : Value} (h : RepO w ok σ (.box fr (toAV j cells)) v) (hj : σ' j' = σ j) : RepO w ok σ' (.box fr' (toAV j' cells)) v := by
  generalize ho : Obj1.box fr (toAV j cells) = ob at h
  cases h with
  | box fr0 cs b t vs hb hl h1 h =>
    cases ho
    refine .box fr' _ b t vs hb (by rw [hl, toAV_len, toAV_len]) h1 fun i c v hc hv => ?_
    have hi : i < cells.length := by
      have := (List.getElem?_eq_some_iff.1 hc).1
      rwa [toAV_len] at this
    obtain ⟨c0, hc0⟩ := toAV_get (j := j) hi
    have h2 := h i c0 v hc0 hv
    rcases toAV_at hc with ⟨d, e1, rfl⟩ | ⟨e1, rfl⟩
    · rcases toAV_at hc0 with ⟨d', e2, rfl⟩ | ⟨e2, rfl⟩
      · rw [e1] at e2
        cases e2
        exact .d _ _ h2.d_inv
      · rw [e1] at e2
        cases e2
    · rcases toAV_at hc0 with ⟨d', e2, rfl⟩ | ⟨e2, rfl⟩
      · rw [e1] at e2
        cases e2
      · rw [h2.own_inv, ← hj]
        exact .own j'
  | row => cases ho
  | iter => cases ho
  | map => cases ho
theorem RepO.box_ptr {w : World} {ok : Nat → Prop} {σ : Nat → Value} {fr : Bool} {cs : List AV} {v : Value} (h : RepO w ok σ (.box fr cs) v) : ∃ b, v = .pointer (some ⟨b, 0, none⟩) := by
  cases h with
  | box _ _ b => exact ⟨b, rfl⟩

/-- The call as such: what both ends share. -/
theorem callB_run {f : Nat} {x y : Operand} {args : Array Operand} {r : List Operand} {ts : Array TypeId} {ds : List D} {k j : Nat} {fr fr1 : Bool} {cells : List (Option D)} {te : TypeId} {sz : Nat} {xs : List (List D)} {res : PEnd} {c : Ctx} {al : Nat → Prop} {nt : Nat} {a : Act} {w : World} {σ : Nat → Value}
    (ho : o.op = .call { callee := .value x, args := args, argTypes := ts }) (hx : getE c.gl E x = some (.d (.fn f [] []))) (ha : args.toList = y :: r) (hy : getE c.gl E y = some (.ref k 0)) (hd : getAR (getE c.gl E) r = some ds)
    (hO : O k = some (.box fr (toAV j cells))) (hj : O j = some (.row fr1 te sz xs)) (hc : PConB P c.gl f ds cells te sz xs res) (hM : c.gl.memo = none) (hs : SRep c E O al nt a w σ) {K : Act → World → Prop} {Q : Exit → Act → World → Prop}
    (h : ∀ b0, σ k = .pointer (some ⟨b0, 0, none⟩) → ∀ e w', EndB w (okk c O σ w) b0 (σ j) te sz res e w' → match e with
      | .returned v => K (a.put o.dst v) w'
      | .panicked chain => Q (.panic chain) a w'
      | .outgrown => LetsOut Q) : o.wp P a w K Q := by
  have h1 := (hs.get hx).d_inv
  obtain ⟨us, ws, hv, hu, hw, _, _⟩ := rep_fn_inv h1
  have hu0 : us = [] := List.eq_nil_of_length_eq_zero hu
  have hw0 : ws = [] := List.eq_nil_of_length_eq_zero hw
  subst hu0 hw0
  obtain ⟨b0, hb0, hyv⟩ := (hs.get hy).toA.ref_inv
  have hbox := (hs.own k _ hO).2.toO
  obtain ⟨b1, hb1⟩ := hbox.box_ptr
  rw [hb1] at hb0
  simp [blkOf] at hb0
  subst hb0
  have hag : Agree c.gl E E O O o := ⟨fun _ _ => rfl, fun _ _ _ _ _ _ => rfl⟩
  have hops : o.op.operands = #[x] ++ args := by simp [ho, Op.operands, Call.operands]
  obtain ⟨d1, d2⟩ := getAR_rep hs hag (fun z hz => by rw [hops]; exact Array.mem_append.2 (.inr (Array.mem_toList_iff.1 (by rw [ha]; exact List.mem_cons_of_mem _ hz)))) hd
  obtain ⟨fn, f1, f2, f3⟩ := hc.fn
  have hkj : k ≠ j := fun e => by subst e; rw [hO] at hj; cases hj
  have hrun : (execOp a.eval o).run P w = .ok (.enter f (.pointer (some ⟨b1, 0, none⟩) :: r.map a.eval).toArray) w := by
    have hm : #[] ++ args.map a.eval ++ #[] = (.pointer (some ⟨b1, 0, none⟩) :: r.map a.eval).toArray := by
      apply Array.toList_inj.1
      simp [ha, hyv]
    simp only [execOp, ho, resolve, hv, Deferred.ofValue, invoke, callFunc, Sem.run_bind, Sem.run_pure, Result.andThen_ok, run_program, f1, f2, f3, Bool.false_eq_true, if_false, hm]
  unfold Oper.wp
  rw [hrun]
  have hrow := (hs.own j _ hj).2.toO
  rw [hb1] at hbox
  refine Calls.mono (hc.runs hM w (okk c O σ w) b1 (σ j) (r.map a.eval) (fun b hb => hb.1) hs.glob (by simp [d1]) d2 (hbox.box_ren rfl) hrow.row_fr (fun b hb => ⟨fun e => ?_, fun hok => hok.2.2 j _ hj hb⟩) (fun hok => hok.2.2 k _ hO (by rw [hb1]; rfl))) fun e w' he => (by
    have := h b1 hb1 e w' he
    cases e <;> exact this)
  subst e
  exact hs.dis k j _ _ hO hj hkj b (by rw [hb1]; rfl) hb

theorem st_callBX {f : Nat} {x y : Operand} {args : Array Operand} {r : List Operand} {ts : Array TypeId} {ds : List D} {k j : Nat} {fr fr1 : Bool} {cells : List (Option D)} {te : TypeId} {sz : Nat} {xs : List (List D)} {z : D}
    (ho : o.op = .call { callee := .value x, args := args, argTypes := ts }) (hx : getE gl E x = some (.d (.fn f [] []))) (ha : args.toList = y :: r) (hy : getE gl E y = some (.ref k 0)) (hd : getAR (getE gl E) r = some ds)
    (hO : O k = some (.box fr (toAV j cells))) (hj : O j = some (.row fr1 te sz xs)) (hc : PConB P gl f ds cells te sz xs (.panic z)) (hM : gl.memo = none) : StepX P gl E O o z := by
  intro c al nt a w σ hgl hs K Q hK
  subst hgl
  refine callB_run ho hx ha hy hd hO hj hc hM hs fun b0 hb0 e w' he => ?_
  obtain ⟨v, rfl, hg, hr⟩ := he
  refine hK v w' (hs.forget hg.os hg.tape hg.output hg.size fun b hb hn => hg.block b hb (fun e => hn k _ hO (by rw [hb0, e]; rfl)) (hn j _ hj)) (hr.mono fun b hb => ⟨⟨hb.1, ?_, fun q o' hq => by cases hq⟩, rfl⟩)
  rcases hb.2 with h | h
  · exact h.2.1
  · exact .inr (Nat.le_trans hs.size h)

theorem st_callB {f : Nat} {x y : Operand} {args : Array Operand} {r : List Operand} {ts : Array TypeId} {ds : List D} {k j : Nat} {fr fr1 : Bool} {cells cells' : List (Option D)} {te : TypeId} {sz : Nat} {xs xs' : List (List D)} {q : D}
    (ho : o.op = .call { callee := .value x, args := args, argTypes := ts }) (hx : getE gl E x = some (.d (.fn f [] []))) (ha : args.toList = y :: r) (hy : getE gl E y = some (.ref k 0)) (hd : getAR (getE gl E) r = some ds)
    (hO : O k = some (.box fr (toAV j cells))) (hj : O j = some (.row fr1 te sz xs)) (hc : PConB P gl f ds cells te sz xs (.ret q cells' xs')) (hM : gl.memo = none) :
    Step1 P gl E O o id (some (.d q)) (.pass [k, j] [(k, .box fr (toAV id cells')), (id, .row fr1 te sz xs')]) := by
  intro c al nt a w σ hgl hs hid K Q hK
  subst hgl
  refine callB_run ho hx ha hy hd hO hj hc hM hs fun b0 hb0 e w' he => ?_
  obtain ⟨v, u', rfl, hg, hu, hr, hbx, hrw⟩ := he
  have hkj : k ≠ j := fun e => by subst e; rw [hO] at hj; cases hj
  have hki : k ≠ id := fun e => hid (e ▸ (hs.own k _ hO).1)
  have hji : j ≠ id := fun e => hid (e ▸ (hs.own j _ hj).1)
  have hσ : ∀ i, al i → updσ σ id u' i = σ i := fun i hi => by
    have : i ≠ id := fun e => hid (e ▸ hi)
    simp [updσ, this]
  have hσi : updσ σ id u' id = u' := by simp [updσ]
  have hσk : updσ σ id u' k = .pointer (some ⟨b0, 0, none⟩) := (hσ k (hs.own k _ hO).1).trans hb0
  generalize hOd : (Eff.pass [k, j] [(k, .box fr (toAV id cells')), (id, .row fr1 te sz xs')]).app id O = O2
  have oK : O2 k = some (.box fr (toAV id cells')) := by rw [← hOd]; simp [Eff.app, look]
  have oI : O2 id = some (.row fr1 te sz xs') := by rw [← hOd]; simp [Eff.app, look, hki]
  have oJ : O2 j = none := by rw [← hOd]; simp [Eff.app, look, hkj, Ne.symm hji]
  have oE : ∀ i o', i ≠ k → i ≠ id → O2 i = some o' → O i = some o' ∧ i ≠ j := fun i o' h1 h2 h3 => by
    have hij : i ≠ j := fun e => by rw [e, oJ] at h3; cases h3
    rw [← hOd] at h3
    simp [Eff.app, look, Ne.symm h1, Ne.symm h2, h1, hij] at h3
    exact ⟨h3, hij⟩
  have blk : ∀ i o', O i = some o' → i ≠ k → i ≠ j → ∀ b, blkOf (σ i) = some b → b < w.heap.size ∧ b ≠ b0 ∧ blkOf (σ j) ≠ some b := fun i o' h1 h2 h3 b hb =>
    ⟨(hs.own i o' h1).2.toO.lt b hb, fun e => hs.dis i k o' _ h1 hO h2 b hb (by rw [hb0, e]; rfl), hs.dis i j o' _ h1 hj h3 b hb⟩
  have okUp : ∀ b, okB w w' (okk c O σ w) b0 u' b → okk c O2 (updσ σ id u') w' b := fun b hb => by
    refine ⟨hb.1, ?_, fun i o' hi he => ?_⟩
    · rcases hb.2.1 with h | h
      · exact h.2.1
      · exact .inr (Nat.le_trans hs.size h)
    · by_cases h1 : i = k
      · subst h1
        rw [hσk] at he
        simp [blkOf] at he
        exact hb.2.2.1 he.symm
      · by_cases h2 : i = id
        · subst h2
          rw [hσi] at he
          exact hb.2.2.2 he
        · obtain ⟨h3, h4⟩ := oE i o' h1 h2 hi
          rw [hσ i (hs.own i o' h3).1] at he
          rcases hb.2.1 with h | h
          · exact h.2.2 i o' h3 he
          · have := (blk i o' h3 h1 h4 b he).1
            omega
  have hk : Kept w w' (okk c O σ w) (okk c O2 (updσ σ id u') w') := fun b hb => by
    have e0 : b ≠ b0 := fun e => hb.2.2 k _ hO (by rw [hb0, e]; rfl)
    have ej : blkOf (σ j) ≠ some b := hb.2.2 j _ hj
    refine ⟨okUp b ⟨Nat.lt_of_lt_of_le hb.1 hg.size, .inl hb, e0, fun e => ?_⟩, hg.block b hb.1 e0 ej⟩
    rcases (hu b e).2 with h | h
    · exact ej h
    · have := hb.1; omega
  have hs2 : SRep c E O2 (fun i => al i ∨ i = id) nt a w' (updσ σ id u') := by
    refine ⟨fun t x hx => ((hs.env t x hx).mono hk).ext (fun _ h => .inl h) hσ, fun i o' hi => ?_, fun i i' o1 o2 h1 h2 hne b hb1 => ?_, fun i o1 h1 b hb1 => ?_, fun b hb1 hp hn1 => ?_, hs.low, hs.mlow, Nat.le_trans hs.size hg.size, hg.os.trans hs.os, hg.tape.trans hs.tape, hg.output.trans hs.output,
      fun i hi => ⟨.inl (hs.ag i hi).1, (hσ i (hs.ag i hi).1).trans (hs.ag i hi).2⟩, hs.defers, hs.nt, hs.gstep hk fun M hM' => by rw [hM] at hM'; cases hM'⟩
    · by_cases h1 : i = k
      · subst h1
        rw [oK] at hi
        cases hi
        refine ⟨.inl (hs.own i _ hO).1, fun τ hτ => ?_⟩
        rw [hσk]
        have hτi : τ id = sig2 b0 u' 1 := by rw [hτ id (.inr rfl), hσi]; rfl
        exact (hbx.box_ren hτi).mono (fun b hb => ⟨okUp b hb, rfl⟩) fun _ _ => rfl
      · by_cases h2 : i = id
        · subst h2
          rw [oI] at hi
          cases hi
          refine ⟨.inr rfl, fun τ hτ => ?_⟩
          rw [hσi]
          exact (RepO.row_fr hrw).mono (fun b hb => ⟨okUp b hb, rfl⟩) fun _ _ => rfl
        · obtain ⟨h3, h4⟩ := oE i o' h1 h2 hi
          have h5 := hs.own i o' h3
          refine ⟨.inl h5.1, ?_⟩
          rw [hσ i h5.1]
          exact (h5.2.mono hk fun b hb => by
            obtain ⟨q1, q2, q3⟩ := blk i o' h3 h1 h4 b hb
            exact hg.block b q1 q2 q3).ext (fun _ h => .inl h) hσ
    · have vs : ∀ i o', O2 i = some o' → ∀ b, blkOf (updσ σ id u' i) = some b → (i = k ∧ b = b0) ∨ (i = id ∧ b ≠ b0 ∧ (blkOf (σ j) = some b ∨ w.heap.size ≤ b)) ∨ (∃ o3, O i = some o3 ∧ i ≠ k ∧ i ≠ j ∧ i ≠ id ∧ blkOf (σ i) = some b) := fun i o' hi b hb => by
        by_cases e1 : i = k
        · subst e1
          rw [hσk] at hb
          simp [blkOf] at hb
          exact .inl ⟨rfl, hb.symm⟩
        · by_cases e2 : i = id
          · subst e2
            rw [hσi] at hb
            exact .inr (.inl ⟨rfl, hu b hb⟩)
          · obtain ⟨h3, h4⟩ := oE i o' e1 e2 hi
            rw [hσ i (hs.own i o' h3).1] at hb
            exact .inr (.inr ⟨o', h3, e1, h4, e2, hb⟩)
      intro hb2
      rcases vs i o1 h1 b hb1 with ⟨e1, q1⟩ | ⟨e1, q1, q2⟩ | ⟨o3, q1, q2, q3, q4, q5⟩ <;> rcases vs i' o2 h2 b hb2 with ⟨e2, p1⟩ | ⟨e2, p1, p2⟩ | ⟨o4, p1, p2, p3, p4, p5⟩
      · exact hne (e1.trans e2.symm)
      · exact p1 q1
      · exact (blk i' o4 p1 p2 p3 b p5).2.1 q1
      · exact q1 p1
      · exact hne (e1.trans e2.symm)
      · obtain ⟨r1, r2, r3⟩ := blk i' o4 p1 p2 p3 b p5
        rcases q2 with h | h
        · exact r3 h
        · omega
      · exact (blk i o3 q1 q2 q3 b q5).2.1 p1
      · obtain ⟨r1, r2, r3⟩ := blk i o3 q1 q2 q3 b q5
        rcases p2 with h | h
        · exact r3 h
        · omega
      · exact hs.dis i i' o3 o4 q1 p1 hne b q5 p5
    · by_cases e1 : i = k
      · subst e1
        rw [oK] at h1
        cases h1
        rw [hσ i (hs.own i _ hO).1] at hb1
        exact hs.mine i _ hO b hb1
      · by_cases e2 : i = id
        · subst e2
          rw [oI] at h1
          cases h1
          rw [hσi] at hb1
          rcases (hu b hb1).2 with h | h
          · exact hs.mine j _ hj b h
          · exact .inr ⟨Nat.le_trans hs.size h, row_nb⟩
        · obtain ⟨h3, h4⟩ := oE i o1 e1 e2 h1
          rw [hσ i (hs.own i o1 h3).1] at hb1
          exact hs.mine i o1 h3 b hb1
    · have old : ∀ i o', O i = some o' → blkOf (σ i) ≠ some b := fun i o' hi he => by
        rcases hs.mine i o' hi b he with ⟨_, h1, _⟩ | ⟨h1, _⟩
        · exact hp h1
        · omega
      exact (hg.block b (Nat.lt_of_lt_of_le hb1 hs.size) (fun e => old k _ hO (by rw [hb0, e]; rfl)) (old j _ hj)).trans (hs.frame b hb1 hp hn1)
  refine hK v w' (updσ σ id u') (hOd ▸ hs2) fun z hz => ?_
  cases hz
  rw [hOd]
  exact .of_d (hr.mono fun b hb => ⟨okUp b hb, rfl⟩)
end
end Go.Proofs.Ytpibdbjlilpfiaa

/- AbsD: AbsS, AbsT, AbsU, AbsV. -/
import Derived.Test.YtpibdbjlilpfiaaAbsC
/- A memory's operations: is a key there, and what does it hold? -/
namespace Go.Proofs.Ytpibdbjlilpfiaa
set_option linter.all false
open Go Go.RowKit

/-- A key: whole numbers. -/
def keyD (ks : List Int) : D := .agg (ks.map fun z => .int .i64 z)
theorem keyD_inj {a b : List Int} (h : keyD a = keyD b) : a = b := by
  unfold keyD at h
  injection h with h
  induction a generalizing b with
  | nil => cases b with
    | nil => rfl
    | cons y ys => cases h
  | cons x xs ih => cases b with
    | nil => cases h
    | cons y ys =>
      simp only [List.map_cons, List.cons.injEq, D.int.injEq, true_and] at h
      rw [h.1, ih h.2]
/-- The value of a key. -/
def keyV (ks : List Int) : Value := .agg (ks.map fun z => .int .i64 z).toArray
theorem rep_key {w : World} {ok : Nat → Prop} {ks : List Int} {v : Value} (h : Rep w ok (keyD ks) v) : v = keyV ks := by
  unfold keyD at h
  generalize hd : D.agg (ks.map fun z => .int .i64 z) = d at h
  cases h with
  | agg cs vs hl h h1 =>
    cases hd
    unfold keyV
    congr 1
    apply congrArg
    refine List.ext_getElem? fun i => ?_
    by_cases hi : i < ks.length
    · have hv : vs[i]? = some (vs[i]'(by rw [hl, List.length_map]; exact hi)) := List.getElem?_eq_getElem _
      have := h i (.int .i64 ks[i]) _ (by rw [List.getElem?_map, List.getElem?_eq_getElem hi]; rfl) hv
      rw [hv, List.getElem?_map, List.getElem?_eq_getElem hi]
      generalize vs[i]'(by rw [hl, List.length_map]; exact hi) = u at this
      cases this
      rfl
    · rw [List.getElem?_eq_none (by rw [hl, List.length_map]; omega), List.getElem?_eq_none (by rw [List.length_map]; omega)]
  | _ => cases hd
theorem key_rep {w : World} {ok : Nat → Prop} {ks : List Int} : Rep w ok (keyD ks) (keyV ks) := .agg _ _ (by simp) (fun i c v hc hv => by
  rw [List.getElem?_map] at hc hv
  cases hk : ks[i]? with
  | none => rw [hk] at hc; cases hc
  | some z => rw [hk] at hc hv; cases hc; cases hv; exact .int _ _) (fun v hv => by
  obtain ⟨z, _, rfl⟩ := List.mem_map.1 hv
  rfl)
theorem keyV_inj {a b : List Int} (h : keyV a = keyV b) : a = b := by
  unfold keyV at h
  injection h with h
  have h2 := congrArg Array.toList h
  simp only at h2
  exact (List.map_inj_right (fun x y h => by cases h; rfl)).1 h2

/-- What is known of a map's keys. -/
structure KeyOk (P : Program) (t kt et n : Nat) : Prop where
  map : P.underlying t = some (.map kt et)
  strct : ∃ fs, P.underlying kt = some (.struct fs)
  eq : ∀ (w : World) (a b : List Int), a.length = n → b.length = n → (Op.equal kt (keyV a) (keyV b)).run P w = .ok (decide (a = b)) w
  check : ∀ (w : World) (e : Bool) (a : List Int), a.length = n → (Instr.checkKey e 10000 kt (keyV a)).run P w = .ok () w

theorem run_find {P : Program} {t kt et n : Nat} (hk : KeyOk P t kt et n) {w : World} {ks : List Int} (hn : ks.length = n) : ∀ (ms : List MapEntry) (i : Nat), (∀ e ∈ ms, ∃ a : List Int, a.length = n ∧ e.key = keyV a) →
    ∃ r, (Instr.findAsking kt (keyV ks) ms i).run P w = .ok r w ∧ (match r with
      | none => ∀ e ∈ ms, e.key ≠ keyV ks
      | some (p, v) => ∃ (j : Nat) (e : MapEntry), p = i + j ∧ ms[j]? = some e ∧ e.val = v ∧ e.key = keyV ks)
  | [], i, _ => ⟨none, rfl, fun e he => by cases he⟩
  | m :: ms, i, h => by
    obtain ⟨a, ha, hm⟩ := h m List.mem_cons_self
    have hq := hk.eq w ks a hn ha
    rw [← hm] at hq
    by_cases e : ks = a
    · refine ⟨some (i, m.val), ?_, 0, m, rfl, rfl, rfl, by rw [hm, e]⟩
      simp only [Instr.findAsking, Sem.run_bind, hq, Result.andThen_ok, decide_eq_true e, if_true, Sem.run_pure]
    · obtain ⟨r, h1, h2⟩ := run_find hk (w := w) hn ms (i + 1) fun e he => h e (List.mem_cons_of_mem _ he)
      refine ⟨r, ?_, ?_⟩
      · simp only [Instr.findAsking, Sem.run_bind, hq, Result.andThen_ok, decide_eq_false e, Bool.false_eq_true, if_false, h1]
      · cases r with
        | none =>
          intro x hx
          rcases List.mem_cons.1 hx with rfl | hx
          · exact fun e' => e (keyV_inj (e'.symm.trans hm))
          · exact h2 x hx
        | some p =>
          obtain ⟨p, v⟩ := p
          obtain ⟨j, x, q1, q2, q3, q4⟩ := h2
          exact ⟨j + 1, x, by omega, by simpa using q2, q3, q4⟩
theorem run_findKey {P : Program} {t kt et n : Nat} (hk : KeyOk P t kt et n) {w : World} {ks : List Int} (hn : ks.length = n) (ms : List MapEntry) (h : ∀ e ∈ ms, ∃ a : List Int, a.length = n ∧ e.key = keyV a) :
    ∃ r, (Instr.findKey kt (keyV ks) ms).run P w = .ok r w ∧ (match r with
      | none => ∀ e ∈ ms, e.key ≠ keyV ks
      | some (p, v) => ∃ (e : MapEntry), ms[p]? = some e ∧ e.val = v ∧ e.key = keyV ks) := by
  obtain ⟨fs, hfs⟩ := hk.strct
  cases ms with
  | nil => exact ⟨none, by simp only [Instr.findKey, Sem.run_bind, run_underlying hfs, Result.andThen_ok, Instr.findNow, Sem.run_pure], fun e he => by cases he⟩
  | cons m ms =>
    obtain ⟨r, h1, h2⟩ := run_find hk (w := w) hn (m :: ms) 0 h
    refine ⟨r, ?_, ?_⟩
    · have hnow : Instr.findNow (.struct fs) (keyV ks) (m :: ms) 0 = none := by
        simp only [Instr.findNow]
        have : Instr.sameNow (.struct fs) (keyV ks) m.key = none := by unfold keyV; cases m.key <;> rfl
        rw [this]
      simp only [Instr.findKey, Sem.run_bind, run_underlying hfs, Result.andThen_ok, hnow, h1]
    · cases r with
      | none => exact h2
      | some p =>
        obtain ⟨p, v⟩ := p
        obtain ⟨j, x, q1, q2, q3, q4⟩ := h2
        exact ⟨x, by rw [q1, Nat.zero_add]; exact q2, q3, q4⟩

section
variable {P : Program} {E : Nat → Option AV} {O : Nat → Option Obj1} {gl : GL} {o : Oper} {id : Nat}
/-- What is known of a memory's keys. -/
def Memo.keys (M : Memo) (n : Nat) : Prop := ∀ k d, M.I k d → ∃ ks : List Int, ks.length = n ∧ k = keyD ks
theorem memo_keys {M : Memo} {n : Nat} (hI : M.keys n) {w : World} {ok : Nat → Prop} {ms : Array MapEntry} (h : ∀ (i : Nat) e, ms[i]? = some e → ∃ k d, M.I k d ∧ M.abs ≠ some k ∧ Rep w ok k e.key ∧ Rep w ok d e.val) : ∀ e ∈ ms.toList, ∃ a : List Int, a.length = n ∧ e.key = keyV a := fun e he => by
  obtain ⟨i, hi⟩ := List.getElem?_of_mem he
  obtain ⟨k, d, h1, _, h2, _⟩ := h i e (by simpa using hi)
  obtain ⟨ks, h3, rfl⟩ := hI k d h1
  exact ⟨ks, h3, rep_key h2⟩
theorem st_memoHas {t kt et n m : Nat} {x y : Operand} {ks : List Int} {d : D} {M : Memo} (hk : KeyOk P t kt et n) (hn : ks.length = n) (hM : gl.memo = some M) (hm : M.m = m) (hI : M.keys n) (hf : ∀ d', M.I (keyD ks) d' → d' = d) (hp : M.pres = some (keyD ks, d))
    (hx : getE gl E x = some (.d (.mapv m))) (hy : getE gl E y = some (.d (keyD ks))) (o : Oper) (ho : o.op = .lookup t x y true) : Step P gl E O o id (some (.d (.tup [d, .bool true]))) .none :=
  .val fun c E' O' al nt a w σ hgl hs hag => by
    subst hgl
    have h1 := (hs.get (hag.get (x := x) (by simp [ho, Op.operands]) hx)).d_inv
    have h2 := rep_key (hs.get (hag.get (x := y) (by simp [ho, Op.operands]) hy)).d_inv
    obtain ⟨⟨ms, cl, hh, hall, hpres⟩, _, _⟩ := hs.glob.memo M hM
    rw [hm] at hh
    have h1' : a.eval x = .map (some m) := by generalize a.eval x = v at h1; cases h1; rfl
    obtain ⟨r, q1, q2⟩ := run_findKey hk (w := w) hn ms.toList (memo_keys hI hall)
    have hobj : (getObj m).run P w = .ok (.map ms cl) w := by simp [getObj, Sem.run, hh]
    have hck := hk.check w ms.isEmpty ks hn
    cases r with
    | none =>
      obtain ⟨i, e, p1, p2, p3⟩ := hpres _ _ hp
      have : ms.toList[i]? = some e := by simpa using p1
      exact absurd (rep_key p2) (q2 e (List.mem_of_getElem? this))
    | some p =>
      obtain ⟨p, v⟩ := p
      obtain ⟨e, p1, p2, p3⟩ := q2
      obtain ⟨k', d', r1, _, r2, r3⟩ := hall p e (by simpa using p1)
      obtain ⟨ks', r4, rfl⟩ := hI k' d' r1
      have e1 : ks' = ks := keyV_inj ((rep_key r2).symm.trans p3)
      subst e1
      have e2 := hf d' r1
      subst e2
      refine ⟨.tuple #[v, .bool true], ?_, .of_d (tup2 (p2 ▸ r3) (.bool _))⟩
      simp only [execOp, ho, h1', h2, Instr.lookup, Sem.run_bind, run_underlying hk.map, Result.andThen_ok, hobj, Sem.run_pure, hck, q1]
      simp
theorem st_memoNot {t kt et n m : Nat} {x y : Operand} {ks : List Int} {M : Memo} {ie : TI} (hie : ie.ok P et) (hk : KeyOk P t kt et n) (hn : ks.length = n) (hM : gl.memo = some M) (hm : M.m = m) (hI : M.keys n) (hp : M.abs = some (keyD ks))
    (hx : getE gl E x = some (.d (.mapv m))) (hy : getE gl E y = some (.d (keyD ks))) (o : Oper) (ho : o.op = .lookup t x y true) : Step P gl E O o id (some (.d (.tup [ie.zd, .bool false]))) .none :=
  .val fun c E' O' al nt a w σ hgl hs hag => by
    subst hgl
    have h1 := (hs.get (hag.get (x := x) (by simp [ho, Op.operands]) hx)).d_inv
    have h2 := rep_key (hs.get (hag.get (x := y) (by simp [ho, Op.operands]) hy)).d_inv
    obtain ⟨⟨ms, cl, hh, hall, hpres⟩, _, _⟩ := hs.glob.memo M hM
    rw [hm] at hh
    have h1' : a.eval x = .map (some m) := by generalize a.eval x = v at h1; cases h1; rfl
    obtain ⟨r, q1, q2⟩ := run_findKey hk (w := w) hn ms.toList (memo_keys hI hall)
    have hobj : (getObj m).run P w = .ok (.map ms cl) w := by simp [getObj, Sem.run, hh]
    have hck := hk.check w ms.isEmpty ks hn
    obtain ⟨z, hz, hzr, _⟩ := hie.zero w
    cases r with
    | none =>
      refine ⟨.tuple #[z, .bool false], ?_, .of_d (tup2 (hzr _ _) (.bool _))⟩
      simp only [execOp, ho, h1', h2, Instr.lookup, Sem.run_bind, run_underlying hk.map, Result.andThen_ok, hobj, Sem.run_pure, hck, q1]
      simp [hz]
    | some p =>
      obtain ⟨p, v⟩ := p
      obtain ⟨e, p1, p2, p3⟩ := q2
      obtain ⟨k', d', r1, r0, r2, r3⟩ := hall p e (by simpa using p1)
      obtain ⟨ks', r4, rfl⟩ := hI k' d' r1
      have e1 : ks' = ks := keyV_inj ((rep_key r2).symm.trans p3)
      subst e1
      exact absurd hp r0
theorem same_bits {ks : List Int} : Instr.sameBits 10000 (keyV ks) (keyV ks) = true := by
  unfold keyV Instr.sameBits
  simp only [beq_self_eq_true, Bool.true_and]
  rw [List.all_eq_true]
  rintro ⟨p, q⟩ hpq
  have h1 := List.of_mem_zip hpq
  obtain ⟨i, hi⟩ := List.getElem?_of_mem hpq
  rw [List.getElem?_zip_eq_some] at hi
  obtain ⟨h2, h3⟩ := hi
  have e : p = q := Option.some.inj (h2.symm.trans h3)
  subst e
  obtain ⟨z, _, rfl⟩ := List.mem_map.1 (by simpa using h1.1)
  simp [Instr.sameBits]
theorem st_memoSet {t kt et n m : Nat} {x y z : Operand} {ks : List Int} {d : D} {M : Memo} (hk : KeyOk P t kt et n) (hn : ks.length = n) (hM : gl.memo = some M) (hm : M.m = m) (hI : M.keys n) (hd : M.I (keyD ks) d) (hp : M.pres = none) (ha : M.abs = none)
    (hx : getE gl E x = some (.d (.mapv m))) (hy : getE gl E y = some (.d (keyD ks))) (hz : getE gl E z = some (.d d)) (o : Oper) (ho : o.op = .mapUpdate t x y z) : Step P gl E O o id none .none :=
 .skip fun c E' O' al nt a w σ hgl hs hid hag => by
  subst hgl
  have h1 := (hs.get (hag.get (x := x) (by simp [ho, Op.operands]) hx)).d_inv
  have h2 := rep_key (hs.get (hag.get (x := y) (by simp [ho, Op.operands]) hy)).d_inv
  have h3 := (hs.get (hag.get (x := z) (by simp [ho, Op.operands]) hz)).d_inv
  obtain ⟨⟨ms, cl, hh, hall, hpres⟩, hlt, _⟩ := hs.glob.memo M hM
  rw [hm] at hh hlt
  have h1' : a.eval x = .map (some m) := by generalize a.eval x = v at h1; cases h1; rfl
  obtain ⟨r, q1, q2⟩ := run_findKey hk (w := w) hn ms.toList (memo_keys hI hall)
  have hobj : (getObj m).run P w = .ok (.map ms cl) w := by simp [getObj, Sem.run, hh]
  have hck := hk.check w false ks hn
  obtain ⟨ms', cl', hset, hall'⟩ : ∃ (ms' : Array MapEntry) (cl' : Nat), (execOp a.eval o).run P w = .ok .skip { w with heap := w.heap.setIfInBounds m (.map ms' cl') } ∧ ∀ (i : Nat) e, ms'[i]? = some e → (ms[i]? = some e) ∨ (e.key = keyV ks ∧ e.val = a.eval z) := by
    have hso : ∀ (ms' : Array MapEntry) (cl' : Nat), (setObj m (.map ms' cl')).run P w = .ok () { w with heap := w.heap.setIfInBounds m (.map ms' cl') } := fun ms' cl' => by simp [setObj, Sem.run, hh]
    cases r with
    | none =>
      refine ⟨ms.push ⟨keyV ks, a.eval z, cl⟩, cl + 1, ?_, fun i e he => ?_⟩
      · simp only [execOp, ho, h1', h2, Instr.mapUpdate, Sem.run_bind, run_underlying hk.map, Result.andThen_ok, hobj, hck, q1, hso]
        rfl
      · rw [Array.getElem?_push] at he
        split at he
        · cases he; exact .inr ⟨rfl, rfl⟩
        · exact .inl he
    | some p =>
      obtain ⟨p, v⟩ := p
      obtain ⟨e, p1, p2, p3⟩ := q2
      have p1' : ms[p]? = some e := by simpa using p1
      refine ⟨ms.modify p fun e => { e with key := keyV ks, val := a.eval z }, cl, ?_, fun i e' he => ?_⟩
      · have hst : (Instr.keyThatStays (((ms[p]?).map (·.key)).getD (keyV ks)) (keyV ks)).run P w = .ok (keyV ks) w := by
          rw [p1']
          simp only [Option.map_some, Option.getD_some, p3, Instr.keyThatStays, same_bits, if_true, Sem.run_pure]
        simp only [execOp, ho, h1', h2, Instr.mapUpdate, Sem.run_bind, run_underlying hk.map, Result.andThen_ok, hobj, hck, q1, hst, hso]
        rfl
      · rw [Array.getElem?_modify] at he
        split at he
        · cases hx' : ms[i]? with
          | none => rw [hx'] at he; cases he
          | some x' => rw [hx'] at he; cases he; exact .inr ⟨rfl, rfl⟩
        · exact .inl he
  have hgo : Go1 w { w with heap := w.heap.setIfInBounds m (.map ms' cl') } c.gl.tgt := ⟨rfl, rfl, rfl, by simp, fun q _ hq => by
    have : m ≠ q := fun e => hq (by simp [GL.tgt, hM, hm, e])
    simp [this]⟩
  refine ⟨_, σ, hset, (hs.growM hgo fun ok' n1 n2 => ?_).al_ext fun _ => .inl⟩
  have hkm : ∀ {d : D} {v : Value}, Rep w (okk c O' σ w) d v → Rep { w with heap := w.heap.setIfInBounds m (.map ms' cl') } ok' d v := fun h => h.mono fun b hb => ⟨n2 b (by simpa using hb.1) (.inl hb), by
    have : m ≠ b := fun e => mlow_ok hs.mlow M hM (by rw [hm, e]; exact hb)
    simp [this]⟩
  refine ⟨fun g cs hg => hkm (hs.glob.var g cs hg), fun M' hM' => ?_⟩
  rw [hM] at hM'
  cases hM'
  refine ⟨⟨ms', cl', by rw [hm]; simp [hlt], fun i e he => ?_, fun k d hx => by rw [hp] at hx; cases hx⟩, by rw [hm]; simpa using hlt, n1 M hM⟩
  rcases hall' i e he with h | ⟨e1, e2⟩
  · obtain ⟨k, d, r1, r0, r2, r3⟩ := hall i e h
    exact ⟨k, d, r1, r0, hkm r2, hkm r3⟩
  · exact ⟨keyD ks, d, hd, by rw [ha]; simp, by rw [e1]; exact key_rep, by rw [e2]; exact hkm h3⟩
end
end Go.Proofs.Ytpibdbjlilpfiaa
/- A row that is handed in, and handed out again: contracts of such functions. -/
namespace Go.Proofs.Ytpibdbjlilpfiaa
set_option linter.all false
open Go Go.RowKit

/-- What is there behind such a call, and nobody writes. -/
def okR1 (w w' : World) (ok : Nat → Prop) (u : Value) : Nat → Prop := fun b => b < w'.heap.size ∧ (ok b ∨ w.heap.size ≤ b) ∧ blkOf u ≠ some b
structure GoR (w w' : World) (gl : GL) (u : Value) : Prop where
  os : w'.os = w.os
  tape : w'.tape = w.tape
  output : w'.output = w.output
  size : w.heap.size ≤ w'.heap.size
  block : ∀ b, b < w.heap.size → blkOf u ≠ some b → some b ≠ gl.tgt → w'.heap[b]? = w.heap[b]?
/-- The contract: the first argument is a row that is written, or passed on. -/
structure PConA (P : Program) (gl : GL) (f : Nat) (ds : List D) (te : TypeId) (sz : Nat) (xs xs' : List (List D)) : Prop where
  fn : FnOk P f
  runs : ∀ (w : World) (ok : Nat → Prop) (u : Value) (us : List Value), (∀ b, ok b → b < w.heap.size) → Glob gl w ok → us.length = ds.length →
    (∀ (i : Nat) x v, ds[i]? = some x → us[i]? = some v → Rep w ok x v) →
    RepO w ok (fun _ => u) (.row false te sz xs) u → (∀ b, blkOf u = some b → ¬ ok b ∧ ∀ M, gl.memo = some M → M.m ≠ b) →
    Calls P f (u :: us).toArray w fun e w' => ∃ u', e = .returned u' ∧ GoR w w' gl u ∧ Glob gl w' (okR1 w w' ok u') ∧ (∀ b, blkOf u' = some b → blkOf u = some b ∨ w.heap.size ≤ b) ∧ RepO w' (okR1 w w' ok u') (fun _ => u') (.row false te sz xs') u'

section
variable {P : Program} {E : Nat → Option AV} {O : Nat → Option Obj1} {gl : GL} {o : Oper} {id : Nat}
theorem st_callA1 {f : Nat} {x y : Operand} {args : Array Operand} {r : List Operand} {ts : Array TypeId} {ds : List D} {j : Nat} {fr1 : Bool} {te : TypeId} {sz : Nat} {xs xs' : List (List D)}
    (hx : getE gl E x = some (.d (.fn f [] []))) (ha : args.toList = y :: r) (hy : getE gl E y = some (.own j)) (hd : getAR (getE gl E) r = some ds)
    (hj : O j = some (.row fr1 te sz xs)) (hc : PConA P gl f ds te sz xs xs') (o : Oper) (ho : o.op = .call { callee := .value x, args := args, argTypes := ts }) :
    Step P gl E O o id (some (.own id)) (.pass [j] [(id, .row fr1 te sz xs')]) := by
  intro c E' O' al nt a w σ hgl hs hid hag K Q hK
  subst hgl
  have hops : o.op.operands = #[x] ++ args := by simp [ho, Op.operands, Call.operands]
  have h1 := (hs.get (hag.get (x := x) (by simp [hops]) hx)).d_inv
  obtain ⟨us, ws, hv, hu, hw, _, _⟩ := rep_fn_inv h1
  have hu0 : us = [] := List.eq_nil_of_length_eq_zero hu
  have hw0 : ws = [] := List.eq_nil_of_length_eq_zero hw
  subst hu0 hw0
  have hym : y ∈ o.op.operands := by rw [hops]; exact Array.mem_append.2 (.inr (Array.mem_toList_iff.1 (by rw [ha]; exact List.mem_cons_self)))
  have hj' : O' j = some (.row fr1 te sz xs) := (hag.o y hym _ hy j (by simp [AV.ids])).trans hj
  have hyv : a.eval y = σ j := (hs.get (hag.get hym hy)).toA.own_inv
  obtain ⟨d1, d2⟩ := getAR_rep hs hag (fun z hz => by rw [hops]; exact Array.mem_append.2 (.inr (Array.mem_toList_iff.1 (by rw [ha]; exact List.mem_cons_of_mem _ hz)))) hd
  obtain ⟨fn, f1, f2, f3⟩ := hc.fn
  have hrun : (execOp a.eval o).run P w = .ok (.enter f (σ j :: r.map a.eval).toArray) w := by
    have hm : #[] ++ args.map a.eval ++ #[] = (σ j :: r.map a.eval).toArray := by
      apply Array.toList_inj.1
      simp [ha, hyv]
    simp only [execOp, ho, resolve, hv, Deferred.ofValue, invoke, callFunc, Sem.run_bind, Sem.run_pure, Result.andThen_ok, run_program, f1, f2, f3, Bool.false_eq_true, if_false, hm]
  unfold Oper.wp
  rw [hrun]
  have hrow := (hs.own j _ hj').2.toO
  refine Calls.mono (hc.runs w (okk c O' σ w) (σ j) (r.map a.eval) (fun b hb => hb.1) hs.glob (by simp [d1]) d2 hrow.row_fr (fun b hb => ⟨fun hok => hok.2.2 j _ hj' hb, fun M hM e => hs.own_ne hj' M hM (by rw [hb, e])⟩)) fun e w' he => ?_
  obtain ⟨u', rfl, hg, hG, hu', hrw⟩ := he
  have hji : j ≠ id := fun e => hid (e ▸ (hs.own j _ hj').1)
  have hσ : ∀ i, al i → updσ σ id u' i = σ i := fun i hi => by
    have : i ≠ id := fun e => hid (e ▸ hi)
    simp [updσ, this]
  have hσi : updσ σ id u' id = u' := by simp [updσ]
  generalize hOd : (Eff.pass [j] [(id, .row fr1 te sz xs')]).app id O' = O2
  have oI : O2 id = some (.row fr1 te sz xs') := by rw [← hOd]; simp [Eff.app, look]
  have oJ : O2 j = none := by rw [← hOd]; simp [Eff.app, look, Ne.symm hji]
  have oE : ∀ i o', i ≠ id → O2 i = some o' → O' i = some o' ∧ i ≠ j := fun i o' h2 h3 => by
    have hij : i ≠ j := fun e => by rw [e, oJ] at h3; cases h3
    rw [← hOd] at h3
    simp [Eff.app, look, Ne.symm h2, hij] at h3
    exact ⟨h3, hij⟩
  have blk : ∀ i o', O' i = some o' → i ≠ j → ∀ b, blkOf (σ i) = some b → b < w.heap.size ∧ blkOf (σ j) ≠ some b ∧ some b ≠ c.gl.tgt := fun i o' h1 h3 b hb =>
    ⟨(hs.own i o' h1).2.toO.lt b hb, hs.dis i j o' _ h1 hj' h3 b hb, GL.tgt_ne fun M hM e => hs.own_ne h1 M hM (by rw [hb, e])⟩
  have okUp : ∀ b, okR1 w w' (okk c O' σ w) u' b → okk c O2 (updσ σ id u') w' b := fun b hb => by
    refine ⟨hb.1, ?_, fun i o' hi he => ?_⟩
    · rcases hb.2.1 with h | h
      · exact h.2.1
      · exact .inr (Nat.le_trans hs.size h)
    · by_cases h2 : i = id
      · subst h2
        rw [hσi] at he
        exact hb.2.2 he
      · obtain ⟨h3, h4⟩ := oE i o' h2 hi
        rw [hσ i (hs.own i o' h3).1] at he
        rcases hb.2.1 with h | h
        · exact h.2.2 i o' h3 he
        · have := (blk i o' h3 h4 b he).1
          omega
  have hk : Kept w w' (okk c O' σ w) (okk c O2 (updσ σ id u') w') := fun b hb => by
    have ej : blkOf (σ j) ≠ some b := hb.2.2 j _ hj'
    refine ⟨okUp b ⟨Nat.lt_of_lt_of_le hb.1 hg.size, .inl hb, fun e => ?_⟩, hg.block b hb.1 ej (GL.tgt_ne fun M hM e => mlow_ok hs.mlow M hM (e ▸ hb))⟩
    rcases hu' b e with h | h
    · exact ej h
    · have := hb.1; omega
  have hs2 : SRep c E' O2 (fun i => al i ∨ i = id) nt a w' (updσ σ id u') := by
    refine ⟨fun t x hx => ((hs.env t x hx).mono hk).ext (fun _ h => .inl h) hσ, fun i o' hi => ?_, fun i i' o1 o2 h1 h2 hne b hb1 => ?_, fun i o1 h1 b hb1 => ?_, fun b hb1 hp hn => ?_, hs.low, hs.mlow, Nat.le_trans hs.size hg.size, hg.os.trans hs.os, hg.tape.trans hs.tape, hg.output.trans hs.output,
      fun i hi => ⟨.inl (hs.ag i hi).1, (hσ i (hs.ag i hi).1).trans (hs.ag i hi).2⟩, hs.defers, hs.nt, hG.mono (fun b hb => ⟨okUp b hb, rfl⟩) fun M hM => ⟨rfl, mlow_ok hs.mlow M hM⟩⟩
    · by_cases h2 : i = id
      · subst h2
        rw [oI] at hi
        cases hi
        refine ⟨.inr rfl, fun τ hτ => ?_⟩
        rw [hσi]
        exact (RepO.row_fr hrw).mono (fun b hb => ⟨okUp b hb, rfl⟩) fun _ _ => rfl
      · obtain ⟨h3, h4⟩ := oE i o' h2 hi
        have h5 := hs.own i o' h3
        refine ⟨.inl h5.1, ?_⟩
        rw [hσ i h5.1]
        exact (h5.2.mono hk fun b hb => by
          obtain ⟨q1, q2, q3⟩ := blk i o' h3 h4 b hb
          exact hg.block b q1 q2 q3).ext (fun _ h => .inl h) hσ
    · have vs : ∀ i o', O2 i = some o' → ∀ b, blkOf (updσ σ id u' i) = some b → (i = id ∧ (blkOf (σ j) = some b ∨ w.heap.size ≤ b)) ∨ (∃ o3, O' i = some o3 ∧ i ≠ j ∧ i ≠ id ∧ blkOf (σ i) = some b) := fun i o' hi b hb => by
        by_cases e2 : i = id
        · subst e2
          rw [hσi] at hb
          exact .inl ⟨rfl, hu' b hb⟩
        · obtain ⟨h3, h4⟩ := oE i o' e2 hi
          rw [hσ i (hs.own i o' h3).1] at hb
          exact .inr ⟨o', h3, h4, e2, hb⟩
      intro hb2
      rcases vs i o1 h1 b hb1 with ⟨e1, q2⟩ | ⟨o3, q1, q3, q4, q5⟩ <;> rcases vs i' o2 h2 b hb2 with ⟨e2, p2⟩ | ⟨o4, p1, p3, p4, p5⟩
      · exact hne (e1.trans e2.symm)
      · obtain ⟨r1, r2, _⟩ := blk i' o4 p1 p3 b p5
        rcases q2 with h | h
        · exact r2 h
        · omega
      · obtain ⟨r1, r2, _⟩ := blk i o3 q1 q3 b q5
        rcases p2 with h | h
        · exact r2 h
        · omega
      · exact hs.dis i i' o3 o4 q1 p1 hne b q5 p5
    · by_cases e2 : i = id
      · subst e2
        rw [oI] at h1
        cases h1
        rw [hσi] at hb1
        rcases hu' b hb1 with h | h
        · exact hs.mine j _ hj' b h
        · exact .inr ⟨Nat.le_trans hs.size h, row_nb⟩
      · obtain ⟨h3, h4⟩ := oE i o1 e2 h1
        rw [hσ i (hs.own i o1 h3).1] at hb1
        exact hs.mine i o1 h3 b hb1
    · have old : ∀ i o', O' i = some o' → blkOf (σ i) ≠ some b := fun i o' hi he => by
        rcases hs.mine i o' hi b he with ⟨_, h1, _⟩ | ⟨h1, _⟩
        · exact hp h1
        · omega
      exact (hg.block b (Nat.lt_of_lt_of_le hb1 hs.size) (old j _ hj') (GL.tgt_ne hn)).trans (hs.frame b hb1 hp hn)
  refine hK u' w' (updσ σ id u') (hOd ▸ hs2) fun z hz => ?_
  cases hz
  intro τ hτ
  have : u' = τ id := by rw [hτ id (.inr rfl), hσi]
  rw [this]
  exact .own id
/-- What such a body leaves. -/
def retA1 (rs : Array ResultVar) (te : TypeId) (sz : Nat) (xs : List (List D)) : AExit → St → Prop
  | .normal, s | .ret, s => match rs.toList with
    | [.tmp t] => match look s.env t with
      | some (.own k) => ∃ fr, look s.own k = some (.row fr te sz xs)
      | _ => False
    | _ => False
  | _, _ => False
def ctxA1 (gl : GL) (w : World) (ok : Nat → Prop) (u : Value) : Ctx := ⟨gl, w, ok, fun b => blkOf u = some b, fun _ => undef, fun _ => False, fun _ => False, []⟩
theorem PConA.enter {f : Nat} {fn : Func} {code : Code} {ds : List D} {te : TypeId} {sz : Nat} {xs xs' : List (List D)} (hf : P.funcs[f]? = some fn) (hn : (fn.name == "runtime.NumGoroutine") = false) (hb : fn.body = some code) (hnt : ds.length + 1 ≤ fn.ntmps)
    (h : AW P gl fn.ntmps code (retA1 fn.results te sz xs') ⟨(0, .own 0) :: argsE 1 ds, [(0, .row false te sz xs)], 1⟩) : PConA P gl f ds te sz xs xs' := by
  refine ⟨⟨fn, hf, hn, by simp [hb]⟩, fun w ok u us hok hgl hl hargs hrow hdis => ?_⟩
  refine calls_of_wp hf hb ?_
  have oCase : ∀ k o, look [(0, Obj1.row false te sz xs)] k = some o → k = 0 ∧ o = .row false te sz xs := fun k o hk => by
    simp only [look] at hk
    split at hk
    · rename_i e; cases hk; exact ⟨e.symm, rfl⟩
    · cases hk
  have hK : Kept w w ok (okk (ctxA1 gl w ok u) (look [(0, Obj1.row false te sz xs)]) (fun _ => u) w) := fun b hb => ⟨⟨hok b hb, .inl hb, fun k o hk he => (hdis b he).1 hb⟩, rfl⟩
  have hmem : ∀ M, gl.memo = some M → ¬ okk (ctxA1 gl w ok u) (look [(0, Obj1.row false te sz xs)]) (fun _ => u) w M.m := fun M hM h2 => by
    obtain ⟨_, h4, h5⟩ := hgl.memo M hM
    rcases h2.2.1 with h6 | h6
    · exact h5 h6
    · exact absurd h4 (Nat.not_lt.2 h6)
  have hs : SR (ctxA1 gl w ok u) fn.ntmps ⟨(0, .own 0) :: argsE 1 ds, [(0, .row false te sz xs)], 1⟩ { tmps := (u :: us).toArray ++ Array.replicate (fn.ntmps - (u :: us).toArray.size) undef, defers := [] } w (fun _ => u) := by
    have hget : ∀ t (v : Value), (u :: us)[t]? = some v → ((u :: us).toArray ++ Array.replicate (fn.ntmps - (u :: us).toArray.size) undef).getD t undef = v := fun t v hu => by
      have hlt := (List.getElem?_eq_some_iff.1 hu).1
      rw [Array.getD_eq_getD_getElem?, Array.getElem?_append_left (by simpa using hlt)]
      simp [hu]
    refine ⟨fun t x hx τ hτ => ?_, fun k o hk => ?_, fun k k' o o' hk hk' hne b hb1 hb2 => ?_, fun k o hk b hb1 => ?_, fun _ _ _ _ => rfl, fun b hb => ⟨hok b hb, fun hp => (hdis b hp).1 hb⟩, fun M hM => ⟨(hgl.memo M hM).2.1, (hgl.memo M hM).2.2, fun hp => (hdis _ hp).2 M hM rfl⟩, Nat.le_refl _, rfl, rfl, rfl, fun k hk => hk.elim, rfl, by simp [hl]; omega, hgl.mono hK fun M hM => ⟨rfl, hmem M hM⟩⟩
    · simp only [look] at hx
      split at hx
      · rename_i e
        cases hx
        subst e
        show RepA w _ τ _ (Array.getD _ 0 undef)
        rw [hget 0 u rfl]
        have : u = τ 0 := by rw [hτ 0 (by show 0 < 1; decide)]
        rw [this]
        exact .own 0
      · obtain ⟨d, h1, h2, rfl⟩ := look_argsE hx
        obtain ⟨m, rfl⟩ : ∃ m, t = m + 1 := ⟨t - 1, by omega⟩
        rw [Nat.add_sub_cancel] at h2
        have hlt : m < us.length := by rw [hl]; exact (List.getElem?_eq_some_iff.1 h2).1
        have hv : us[m]? = some us[m] := List.getElem?_eq_getElem hlt
        show RepA w _ τ _ (Array.getD _ (m + 1) undef)
        rw [hget (m + 1) us[m] (by rw [List.getElem?_cons_succ]; exact hv)]
        exact .d _ _ ((hargs m d _ h2 hv).mono hK)
    · obtain ⟨rfl, rfl⟩ := oCase k o hk
      exact ⟨by show 0 < 1; decide, fun τ hτ => (RepO.row_fr hrow).mono hK fun _ _ => rfl⟩
    · obtain ⟨rfl, rfl⟩ := oCase k o hk
      obtain ⟨rfl, rfl⟩ := oCase k' o' hk'
      exact hne rfl
    · obtain ⟨rfl, rfl⟩ := oCase k o hk
      exact .inl ⟨fun h => (by cases h), hb1, fun h => (by cases h)⟩
  refine wp_mono (h (ctxA1 gl w ok u) _ w _ rfl ⟨fun _ h => h⟩ hs) fun e a' w' ⟨ae, s', σ', q1, q2, q3⟩ => ?_
  have fin : (match fn.results.toList with
    | [.tmp t] => (match look s'.env t with
      | some (.own k) => ∃ fr, look s'.own k = some (.row fr te sz xs')
      | _ => False)
    | _ => False) → a'.defers = [] ∧ ∃ v, (results fn a'.tmps).run P w' = .ok v w' ∧ ∃ u', Ending.returned v = .returned u' ∧ GoR w w' gl u ∧ Glob gl w' (okR1 w w' ok u') ∧ (∀ b, blkOf u' = some b → blkOf u = some b ∨ w.heap.size ≤ b) ∧ RepO w' (okR1 w w' ok u') (fun _ => u') (.row false te sz xs') u' := fun hq => by
    split at hq
    · rename_i t hrs
      split at hq
      · rename_i k hk
        obtain ⟨fr, hq⟩ := hq
        have hv := (q2.env t _ hk).toA.own_inv
        have hO := q2.own k _ hq
        have hup : ∀ b, okk (ctxA1 gl w ok u) (look s'.own) σ' w' b → okR1 w w' ok (σ' k) b := fun b hb => ⟨hb.1, hb.2.1, hb.2.2 k _ hq⟩
        refine ⟨q2.defers, a'.tmps.getD t undef, by rw [results_eq, hrs]; simp [resOf], _, rfl, ⟨q2.os, q2.tape, q2.output, q2.size, fun b hb h1 h2 => q2.frame b hb h1 fun M hM e => h2 (by simp [GL.tgt, show gl.memo = some M from hM, e])⟩, ?_, fun b hb => ?_, ?_⟩
        · rw [hv]
          refine q2.glob.mono (fun b hb => ⟨hup b hb, rfl⟩) fun M hM => ⟨rfl, fun h2 => ?_⟩
          obtain ⟨h3, h4, _⟩ := q2.mlow M hM
          rcases h2.2.1 with h6 | h6
          · exact h4 h6
          · exact absurd h3 (Nat.not_lt.2 h6)
        · rw [hv] at hb
          rcases q2.mine k _ hq b hb with ⟨_, h1, _⟩ | ⟨h1, _⟩
          · exact .inl h1
          · exact .inr h1
        · rw [hv]
          exact RepO.row_fr (hO.2.toO.mono (fun b hb => ⟨hup b hb, rfl⟩) fun _ _ => rfl)
      · exact hq.elim
    · exact hq.elim
  cases q3 with
  | normal => exact fin q1
  | ret => exact fin q1
  | exit id => exact q1.elim
  | goto l => exact q1.elim
  | panic x v hv => exact q1.elim
end
end Go.Proofs.Ytpibdbjlilpfiaa
/- A function that asks its memory first: what it does if the answer is there, and if not. -/
namespace Go.Proofs.Ytpibdbjlilpfiaa
set_option linter.all false
open Go Go.RowKit


/-- Code that begins with one knowledge of the memory, and ends with another. -/
def AW2 (P : Program) (gl1 gl : GL) (nt : Nat) (code : Code) (Q : AExit → St → Prop) (s : St) : Prop := ∀ (c : Ctx) (a : Act) (w : World) (σ : Nat → Value), c.gl = gl1 → c.plain → SR c nt s a w σ → code.wp P (APost { c with gl := gl } nt Q) a w
/-- The one knowledge holds the other. -/
structure GL.le (gl1 gl : GL) : Prop where
  vars : gl1.vars = gl.vars
  has : ∀ M, gl.memo = some M → ∃ M1, gl1.memo = some M1 ∧ M1.m = M.m
  back : ∀ M, gl1.memo = some M → ∃ M1, gl.memo = some M1 ∧ M1.m = M.m
  ok : ∀ M M1 w ok, gl.memo = .some M → gl1.memo = .some M1 → MemoOk M1 w ok → MemoOk M w ok
theorem GL.le.glob {gl1 gl : GL} (h : gl1.le gl) {w : World} {ok : Nat → Prop} (hg : Glob gl1 w ok) : Glob gl w ok := ⟨fun g cs hv => hg.var g cs (by rw [h.vars]; exact hv), fun M hM => by
  obtain ⟨M1, h1, h2⟩ := h.has M hM
  obtain ⟨q1, q2, q3⟩ := hg.memo M1 h1
  exact ⟨h.ok M M1 w ok hM h1 q1, h2 ▸ q2, h2 ▸ q3⟩⟩
theorem GL.le.tgt {gl1 gl : GL} (h : gl1.le gl) : gl1.tgt = gl.tgt := by
  unfold GL.tgt
  cases hm : gl.memo with
  | none => cases hm1 : gl1.memo with
    | none => rfl
    | some M1 => obtain ⟨M, h1, _⟩ := h.back M1 hm1; rw [hm] at h1; cases h1
  | some M =>
    obtain ⟨M1, h1, h2⟩ := h.has M hm
    rw [h1]
    simp [h2]
theorem GL.le.sr {gl1 gl : GL} (h : gl1.le gl) {c : Ctx} (hc : c.gl = gl1) {nt : Nat} {s : St} {a : Act} {w : World} {σ : Nat → Value} (hs : SR c nt s a w σ) : SR { c with gl := gl } nt s a w σ := by
  subst hc
  exact ⟨hs.env, hs.own, hs.dis, hs.mine, fun b h1 h2 h3 => hs.frame b h1 h2 fun M hM => by
    obtain ⟨M1, k1, k2⟩ := h.back M hM
    exact k2 ▸ h3 M1 k1, hs.low, fun M hM => by
    obtain ⟨M1, k1, k2⟩ := h.has M hM
    exact k2 ▸ hs.mlow M1 k1, hs.size, hs.os, hs.tape, hs.output, hs.ag, hs.defers, hs.nt, h.glob hs.glob⟩
section
variable {P : Program} {gl1 gl : GL} {tb : Nat → Option TI} {nt : Nat} {Q : AExit → St → Prop} {s : St}
theorem AW2.leave (h : gl1.le gl) {code : Code} (k : AW P gl nt code Q s) : AW2 P gl1 gl nt code Q s := fun c a w σ hgl hp hs =>
  k { c with gl := gl } a w σ rfl ⟨hp.al0⟩ (h.sr hgl hs)
theorem AW2.seq {x y : Code} (h : AW P gl1 nt x (thenA (AW2 P gl1 gl nt y Q) fun _ _ => False) s) : AW2 P gl1 gl nt (.seq x y) Q s := fun c a w σ hgl hp hs =>
  wp_seq (wp_mono (h c a w σ hgl hp hs) fun e a' w' ⟨ae, s', σ', h1, h2, h3⟩ => by
    cases h3 with
    | normal => exact h1 c a' w' σ' hgl hp h2
    | exit id => exact h1.elim
    | goto l => exact h1.elim
    | ret => exact h1.elim
    | panic x v hv => exact h1.elim)
/-- A function's contract that needs to know more of the memory than it tells after. -/
structure PCon2 (P : Program) (gl1 gl : GL) (f : Nat) (args : List D) (res : D) : Prop where
  fn : FnOk P f
  runs : ∀ (w : World) (ok : Nat → Prop) (vs : List Value), (∀ b, ok b → b < w.heap.size) → Glob gl1 w ok → vs.length = args.length →
    (∀ (i : Nat) x v, args[i]? = some x → vs[i]? = some v → Rep w ok x v) →
    Calls P f vs.toArray w fun e w' => ∃ v, e = .returned v ∧ Go1 w w' gl.tgt ∧ Glob gl w' (fun b => b < w'.heap.size ∧ (ok b ∨ w.heap.size ≤ b)) ∧ Rep w' (fun b => b < w'.heap.size ∧ (ok b ∨ w.heap.size ≤ b)) res v
theorem PCon.weak (hle : gl1.le gl) {f : Nat} {args : List D} {res : D} (h : PCon P gl1 f args res) : PCon2 P gl1 gl f args res :=
  ⟨h.fn, fun w ok vs hok hgl hl hargs => Calls.mono (h.runs w ok vs hok hgl hl hargs) fun e w' ⟨v, h1, h2, h3, h4⟩ => ⟨v, h1, hle.tgt ▸ h2, hle.glob h3, h4⟩⟩
theorem PCon2.enter (hle : gl1.le gl) (htb : TbOk P tb) {f : Nat} {fn : Func} {code : Code} {args : List D} {res : D} (hf : P.funcs[f]? = some fn) (hn : (fn.name == "runtime.NumGoroutine") = false) (hb : fn.body = some code) (hnt : args.length ≤ fn.ntmps)
    (h : AW2 P gl1 gl fn.ntmps code (retA tb fn.results res) ⟨argsE 0 args, [], 0⟩) : PCon2 P gl1 gl f args res := by
  refine ⟨⟨fn, hf, hn, by simp [hb]⟩, fun w ok vs hok hgl hl hargs => ?_⟩
  refine calls_of_wp hf hb ?_
  have hs : SR (ctx0 gl1 w ok) fn.ntmps ⟨argsE 0 args, [], 0⟩ { tmps := vs.toArray ++ Array.replicate (fn.ntmps - vs.toArray.size) undef, defers := [] } w fun _ => undef := sr_start hnt hok hgl hl hargs
  refine wp_mono (h (ctx0 gl1 w ok) _ w _ rfl ⟨fun _ h => h⟩ hs) fun e a' w' ⟨ae, s', σ', q1, q2, q3⟩ => ?_
  have fin : outsA tb (look s'.env) (look s'.own) fn.results.toList = some res → a'.defers = [] ∧ ∃ v, (results fn a'.tmps).run P w' = .ok v w' ∧ ∃ v', Ending.returned v = .returned v' ∧ Go1 w w' gl.tgt ∧ Glob gl w' (fun b => b < w'.heap.size ∧ (ok b ∨ w.heap.size ≤ b)) ∧ Rep w' (fun b => b < w'.heap.size ∧ (ok b ∨ w.heap.size ≤ b)) res v' := fun hq => by
    obtain ⟨v, r1, r2⟩ := outs_run (fn := fn) htb q2 hq
    exact ⟨q2.defers, v, r1, v, rfl, ⟨q2.os, q2.tape, q2.output, q2.size, fun b hb hn => q2.frame b hb (fun h => h) (GL.ne_of hn)⟩, Glob.out (gl := gl) (w := w) (ok := ok) q2.glob q2.mlow, r2⟩
  cases q3 with
  | normal => exact fin q1
  | ret => exact fin q1
  | exit id => exact q1.elim
  | goto l => exact q1.elim
  | panic x v hv => exact q1.elim
/-- The key is there, or it is not. -/
theorem PCon.asks {M : Memo} {vars : List (Nat × List D)} (hp : M.pres = none) (ha : M.abs = none) {f : Nat} {args : List D} {res : D} (k : D) (hk : ∀ k' d, M.I k' d → k' = k ∨ k' ≠ k)
    (h1 : ∀ d, M.I k d → PCon2 P ⟨vars, some { M with pres := some (k, d) }⟩ ⟨vars, some M⟩ f args res) (h2 : PCon2 P ⟨vars, some { M with abs := some k }⟩ ⟨vars, some M⟩ f args res) : PCon P ⟨vars, some M⟩ f args res := by
  refine ⟨h2.fn, fun w ok vs hok hgl hl hargs => ?_⟩
  obtain ⟨⟨ms, cl, q1, q2, q3⟩, hlt, hno⟩ := hgl.memo M rfl
  by_cases hh : ∃ (i : Nat) (e : MapEntry) (d : D), ms[i]? = some e ∧ M.I k d ∧ Rep w ok k e.key ∧ Rep w ok d e.val
  · obtain ⟨i, e, d, r1, r2, r3, r4⟩ := hh
    refine (h1 d r2).runs w ok vs hok ⟨hgl.var, fun M' hM => ?_⟩ hl hargs
    cases hM
    exact ⟨⟨ms, cl, q1, q2, fun k' d' h => by cases h; exact ⟨i, e, r1, r3, r4⟩⟩, hlt, hno⟩
  · refine h2.runs w ok vs hok ⟨hgl.var, fun M' hM => ?_⟩ hl hargs
    cases hM
    refine ⟨⟨ms, cl, q1, fun i e he => ?_, fun k' d' h => by rw [hp] at h; cases h⟩, hlt, hno⟩
    obtain ⟨k', d', r1, _, r3, r4⟩ := q2 i e he
    refine ⟨k', d', r1, fun h => ?_, r3, r4⟩
    cases h
    exact hh ⟨i, e, d', he, r1, r3, r4⟩
theorem le_pres {vars : List (Nat × List D)} {M : Memo} {k d : D} (hp : M.pres = none) : GL.le ⟨vars, some { M with pres := some (k, d) }⟩ ⟨vars, some M⟩ :=
  ⟨rfl, fun M' h => by cases h; exact ⟨_, rfl, rfl⟩, fun M' h => by cases h; exact ⟨_, rfl, rfl⟩, fun M' M1 w ok h h1 ⟨ms, cl, q1, q2, q3⟩ => by
    cases h; cases h1
    exact ⟨ms, cl, q1, q2, fun k' d' h => by rw [hp] at h; cases h⟩⟩
theorem le_abs {vars : List (Nat × List D)} {M : Memo} {k : D} (hp : M.pres = none) (ha : M.abs = none) : GL.le ⟨vars, some { M with abs := some k }⟩ ⟨vars, some M⟩ :=
  ⟨rfl, fun M' h => by cases h; exact ⟨_, rfl, rfl⟩, fun M' h => by cases h; exact ⟨_, rfl, rfl⟩, fun M' M1 w ok h h1 ⟨ms, cl, q1, q2, q3⟩ => by
    cases h; cases h1
    exact ⟨ms, cl, q1, fun i e he => by
      obtain ⟨k', d', r1, _, r3, r4⟩ := q2 i e he
      exact ⟨k', d', r1, by rw [ha]; simp, r3, r4⟩, fun k' d' h => by rw [hp] at h; cases h⟩⟩
end
end Go.Proofs.Ytpibdbjlilpfiaa
/- A function that makes a memory, and then calls with it. -/
namespace Go.Proofs.Ytpibdbjlilpfiaa
set_option linter.all false
open Go Go.RowKit

section
variable {P : Program} {tb : Nat → Option TI}
/-- The second part: whatever the map's number. The variable that leads to the map says data; so do those of 'Es'. -/
structure Fresh (P : Program) (vars : List (Nat × List D)) (I : D → D → Prop) (nt : Nat) (y : Code) (Q : AExit → St → Prop) (t : Nat) (cs : List D) (Es : List (Nat × D)) (s : St) : Prop where
  fresh : ∃ bk mk, bk ≠ mk ∧ look s.own bk = some (.box true (cs.map .d ++ [.own mk])) ∧ look s.own mk = some (.map []) ∧ look s.env t = some (.ref bk 0)
  env : ∀ t d, look (Es.map fun p => (p.1, AV.d p.2)) t = some (.d d) → look s.env t = some (.d d)
  go : ∀ m, AW P ⟨vars, some { m := m, I := I }⟩ nt y Q ⟨(t, .d (.addr (cs ++ [.mapv m]))) :: Es.map fun p => (p.1, AV.d p.2), [], s.nxt⟩
theorem look_Es {Es : List (Nat × D)} {t : Nat} {x : AV} (h : look (Es.map fun p => (p.1, AV.d p.2)) t = some x) : ∃ d, x = .d d := by
  induction Es with
  | nil => cases h
  | cons p r ih =>
    rw [List.map_cons, look] at h
    split at h
    · cases h; exact ⟨_, rfl⟩
    · exact ih h
/-- What a call of it shows in the end. -/
def EndF (P : Program) (vars : List (Nat × List D)) (fn : Func) (res : D) (w : World) (ok : Nat → Prop) : Exit → Act → World → Prop := bodyPost P fn fun e w' => ∃ v, e = .returned v ∧ Go1 w w' (GL.tgt ⟨vars, none⟩) ∧ Glob ⟨vars, none⟩ w' (fun b => b < w'.heap.size ∧ (ok b ∨ w.heap.size ≤ b)) ∧ Rep w' (fun b => b < w'.heap.size ∧ (ok b ∨ w.heap.size ≤ b)) res v
/-- Code ahead of the making of the memory. -/
def AWF (P : Program) (vars : List (Nat × List D)) (fn : Func) (code : Code) (res : D) (s : St) : Prop := ∀ (w : World) (ok : Nat → Prop) (a : Act) (w1 : World) (σ : Nat → Value), SR (ctx0 ⟨vars, none⟩ w ok) fn.ntmps s a w1 σ → code.wp P (EndF P vars fn res w ok) a w1
theorem AWF.seq {vars : List (Nat × List D)} {fn : Func} {x y : Code} {res : D} {s : St} (h : AW P ⟨vars, none⟩ fn.ntmps x (thenA (AWF P vars fn y res) fun _ _ => False) s) : AWF P vars fn (.seq x y) res s := fun w ok a w1 σ hs =>
  wp_seq (wp_mono (h (ctx0 ⟨vars, none⟩ w ok) a w1 σ rfl ⟨fun _ h => h⟩ hs) fun e a' w' ⟨ae, s', σ', h1, h2, h3⟩ => by
    cases h3 with
    | normal => exact h1 w ok a' w' σ' h2
    | exit id => exact h1.elim
    | goto l => exact h1.elim
    | ret => exact h1.elim
    | panic x v hv => exact h1.elim)
theorem AWF.freeze {vars : List (Nat × List D)} {fn : Func} {y : Code} {res : D} {s : St} (k : Nat) {o : Obj1} {f : Frz} (hk : look s.own k = some o) (hf : frzOf o = some f) (h : AWF P vars fn y res (s.fz k f)) : AWF P vars fn y res s := fun w ok a w1 σ hs => h w ok a w1 σ (SR.fz hs hk hf)
theorem PCon.freshE {vars : List (Nat × List D)} {f : Nat} {fn : Func} {code : Code} {args : List D} {res : D} (hf : P.funcs[f]? = some fn) (hn : (fn.name == "runtime.NumGoroutine") = false) (hb : fn.body = some code) (hnt : args.length ≤ fn.ntmps)
    (h : AWF P vars fn code res ⟨argsE 0 args, [], 0⟩) : PCon P ⟨vars, none⟩ f args res :=
  ⟨⟨fn, hf, hn, by simp [hb]⟩, fun w ok vs hok hgl hl hargs => calls_of_wp hf hb (h w ok _ w _ (sr_start hnt hok hgl hl hargs))⟩
theorem AWF.fresh {vars : List (Nat × List D)} {I : D → D → Prop} (t : Nat) (cs : List D) (Es : List (Nat × D)) (htb : TbOk P tb) {fn : Func} {y : Code} {res : D} {s : St}
    (h1 : Fresh P vars I fn.ntmps y (retA tb fn.results res) t cs Es s) : AWF P vars fn y res s := by
  intro w ok a w1 σ hs
  obtain ⟨⟨bk, mk, hne, hbk, hmk, ht⟩, henv, hgo⟩ := h1
  have rb := (hs.own bk _ hbk).2.toO
  have rm := (hs.own mk _ hmk).2.toO
  have hdis := hs.dis bk mk _ _ hbk hmk hne
  have mb := hs.mine bk _ hbk
  have mm := hs.mine mk _ hmk
  have hlb := rb.lt
  have hlm := rm.lt
  generalize hσm : σ mk = um at *
  cases rm with
  | map es m cl ms hm hml hmr =>
  have hms : ms = #[] := Array.eq_empty_of_size_eq_zero hml
  subst hms
  generalize hσb : σ bk = ub at *
  cases rb with
  | box fr cells b bt vals hbb hvl hv1 hvr =>
  have hmw : w.heap.size ≤ m := by
    rcases mm m rfl with ⟨h, _⟩ | ⟨h, _⟩
    · exact absurd rfl h
    · exact h
  have hbw : w.heap.size ≤ b := by
    rcases mb b rfl with ⟨h, _⟩ | ⟨h, _⟩
    · exact absurd rfl h
    · exact h
  have hml' := hlm m rfl
  have hbl' := hlb b rfl
  have hbm : b ≠ m := fun e => hdis b rfl (by rw [e]; rfl)
  let ok1 : Nat → Prop := fun q => okk (ctx0 ⟨vars, none⟩ w ok) (look s.own) σ w1 q ∨ q = b
  have hok1 : ∀ q, ok1 q → q < w1.heap.size := fun q hq => hq.elim (fun h => h.1) fun h => h ▸ hbl'
  have hm1 : ¬ ok1 m := fun h => h.elim (fun h => h.2.2 mk _ hmk (by rw [hσm]; rfl)) fun h => hbm h.symm
  have hle : ∀ q, ok1 q → ok q ∨ w.heap.size ≤ q := fun q hq => hq.elim (fun h => h.2.1) fun h => .inr (h ▸ hbw)
  have hk : Kept w1 w1 (okk (ctx0 ⟨vars, none⟩ w ok) (look s.own) σ w1) (okk (ctx0 ⟨vars, some { m := m, I := I }⟩ w1 ok1) (look []) (fun _ => undef) w1) := fun q hq => ⟨⟨hq.1, .inl (.inl hq), fun k o hk => by simp [look] at hk⟩, rfl⟩
  have hs1 : SR (ctx0 ⟨vars, some { m := m, I := I }⟩ w1 ok1) fn.ntmps ⟨(t, .d (.addr (cs ++ [.mapv m]))) :: Es.map fun p => (p.1, AV.d p.2), [], s.nxt⟩ a w1 fun _ => undef := by
    refine ⟨fun t' x hx τ _ => ?_, fun k o hk => by simp [look] at hk, fun k k' o o' hk => by simp [look] at hk, fun k o hk => by simp [look] at hk, fun _ _ _ _ => rfl, fun q hq => ⟨hok1 q hq, fun h => h⟩, fun M hM => by cases hM; exact ⟨hml', hm1, fun h => h⟩, Nat.le_refl _, rfl, rfl, rfl, fun k hk => hk.elim, hs.defers, hs.nt, ?_⟩
    · have hx' : look ((t, AV.d (.addr (cs ++ [.mapv m]))) :: Es.map fun p => (p.1, AV.d p.2)) t' = some x := hx
      rw [look] at hx'
      split at hx'
      · rename_i htt
        cases hx'
        subst htt
        obtain ⟨b', h1, h2⟩ := (hs.env t _ ht).toA.ref_inv
        rw [hσb] at h1
        cases h1
        rw [h2]
        refine .d _ _ ?_
        have hcl : (cs ++ [D.mapv m]).length = vals.length := by rw [hvl]; simp
        refine .addr _ b 0 (fun i => vals.getD i (.bool false)) ⟨hbl', .inl (.inr rfl), fun k o hk => by simp [look] at hk⟩ (fun i hi => ?_) (fun i => ?_) (fun i c hc => ?_)
        · rw [Nat.zero_add, cell_of_row w1 b i vals.toArray bt (0, 0) hbb, List.getElem?_toArray, List.getElem?_eq_getElem (by omega), List.getD_eq_getElem?_getD, List.getElem?_eq_getElem (by omega)]
          rfl
        · rw [List.getD_eq_getElem?_getD]
          cases hh : vals[i]? with
          | none => rfl
          | some u => exact hv1 u (List.mem_of_getElem? hh)
        · have hlt := (List.getElem?_eq_some_iff.1 hc).1
          rw [List.length_append, List.length_singleton] at hlt hcl
          rw [List.getD_eq_getElem?_getD, List.getElem?_eq_getElem (by omega), Option.getD_some]
          by_cases hi : i < cs.length
          · rw [List.getElem?_append_left hi] at hc
            exact ((hvr i (.d c) _ (by rw [List.getElem?_append_left (by simpa using hi), List.getElem?_map, hc]; rfl) (List.getElem?_eq_getElem (by omega))).d_inv).mono hk
          · have hi' : i = cs.length := by omega
            subst hi'
            rw [List.getElem?_append_right (Nat.le_refl _), Nat.sub_self] at hc
            cases hc
            have hv := (hvr cs.length (.own mk) _ (by rw [List.getElem?_append_right (by simp)]; simp) (List.getElem?_eq_getElem (by omega))).own_inv
            rw [hv, hσm]
            exact .mapv m
      · obtain ⟨d, rfl⟩ := look_Es hx'
        exact .d _ _ ((hs.env t' _ (henv t' d hx')).d_inv.mono hk)
    · refine ⟨fun g cs hg => (hs.glob.var g cs hg).mono hk, fun M hM => ?_⟩
      cases hM
      exact ⟨⟨#[], cl, hm, fun i e he => by simp at he, fun k d h => by cases h⟩, hml', fun h => by
        rcases h.2.1 with h | h
        · exact hm1 h
        · exact absurd hml' (Nat.not_lt.2 h)⟩
  refine wp_mono (hgo m (ctx0 ⟨vars, some { m := m, I := I }⟩ w1 ok1) a w1 _ rfl ⟨fun _ h => h⟩ hs1) fun e a' w' ⟨ae, s', σ', q1, q2, q3⟩ => ?_
  unfold EndF bodyPost
  have fin : outsA tb (look s'.env) (look s'.own) fn.results.toList = some res → a'.defers = [] ∧ ∃ v, (results fn a'.tmps).run P w' = .ok v w' ∧ ∃ v', Ending.returned v = .returned v' ∧ Go1 w w' (GL.tgt ⟨vars, none⟩) ∧ Glob ⟨vars, none⟩ w' (fun b => b < w'.heap.size ∧ (ok b ∨ w.heap.size ≤ b)) ∧ Rep w' (fun b => b < w'.heap.size ∧ (ok b ∨ w.heap.size ≤ b)) res v' := fun hq => by
    obtain ⟨v, r1, r2⟩ := outs_run (fn := fn) htb q2 hq
    have hk2 : Kept w' w' (okEnd (ctx0 ⟨vars, some { m := m, I := I }⟩ w1 ok1) w') (fun b => b < w'.heap.size ∧ (ok b ∨ w.heap.size ≤ b)) := fun q hq => ⟨⟨hq.1, hq.2.elim (hle q) fun h => .inr (Nat.le_trans hs.size h)⟩, rfl⟩
    refine ⟨q2.defers, v, r1, v, rfl, ⟨q2.os.trans hs.os, q2.tape.trans hs.tape, q2.output.trans hs.output, Nat.le_trans hs.size q2.size, fun q hb hn => ?_⟩, ⟨fun g cs hg => (q2.glob.var g cs hg).mono fun q hq => ?_, fun M hM => by cases hM⟩, r2.mono hk2⟩
    · have e1 := q2.frame q (Nat.lt_of_lt_of_le hb hs.size) (fun h => h) fun M hM => by cases hM; exact fun e => by rw [← e] at hb; exact absurd hb (Nat.not_lt.2 hmw)
      exact e1.trans (hs.frame q hb (fun h => h) fun M hM => by cases hM)
    · exact ⟨⟨hq.1, hq.2.1.elim (hle q) fun h => .inr (Nat.le_trans hs.size h)⟩, rfl⟩
  cases q3 with
  | normal => exact fin q1
  | ret => exact fin q1
  | exit id => exact q1.elim
  | goto l => exact q1.elim
  | panic x v hv => exact q1.elim
end
end Go.Proofs.Ytpibdbjlilpfiaa

/- Contracts of pure functions, and one operation as a whole: 'opA'. -/
import Derived.Test.YtopgjmoajkcdnaaAbsEq
namespace Go.Proofs.Ytopgjmoajkcdnaa
set_option linter.all false
open Go Go.RowKit

def FnOk (P : Program) (f : Nat) : Prop := ∃ fn : Func, P.funcs[f]? = some fn ∧ (fn.name == "runtime.NumGoroutine") = false ∧ fn.body.isNone = false

/-- Called with what says these data, it returns what says this datum; nothing that was there is turned. -/
structure PCon (P : Program) (gl : List (Nat × List D)) (f : Nat) (args : List D) (res : D) : Prop where
  fn : FnOk P f
  runs : ∀ (w : World) (ok : Nat → Prop) (vs : List Value), (∀ b, ok b → b < w.heap.size) → Glob gl w ok → vs.length = args.length →
    (∀ (i : Nat) x v, args[i]? = some x → vs[i]? = some v → Rep w ok x v) →
    Calls P f vs.toArray w fun e w' => ∃ v, e = .returned v ∧ Go1 w w' none ∧ Rep w' (fun b => b < w'.heap.size ∧ (ok b ∨ w.heap.size ≤ b)) res v

/-- As 'PCon', but what is returned is a row of its own: new memory, or nil. -/
structure PConR (P : Program) (gl : List (Nat × List D)) (f : Nat) (args : List D) (te : TypeId) (sz : Nat) (xs : List (List D)) : Prop where
  fn : FnOk P f
  runs : ∀ (w : World) (ok : Nat → Prop) (vs : List Value), (∀ b, ok b → b < w.heap.size) → Glob gl w ok → vs.length = args.length →
    (∀ (i : Nat) x v, args[i]? = some x → vs[i]? = some v → Rep w ok x v) →
    Calls P f vs.toArray w fun e w' => ∃ v, e = .returned v ∧ Go1 w w' none ∧ (∀ b, blkOf v = some b → w.heap.size ≤ b) ∧ ∀ (al : Nat → Prop) (σ : Nat → Value), RepSO al w' (fun b => b < w'.heap.size ∧ (ok b ∨ w.heap.size ≤ b) ∧ blkOf v ≠ some b) σ (.row true te sz xs) v

/-- nil reads as no elements. -/
def D.norm1 : D → D
  | .nils => .slice []
  | x => x
def D.norm : D → D
  | .nils => .slice []
  | .agg cs => .agg (cs.map D.norm1)
  | x => x

theorem Rep.norm1 {w : World} {ok : Nat → Prop} {x : D} {v : Value} (h : Rep w ok x v) : Rep w ok x.norm1 v := by
  cases h <;> first | exact .nil | skip
  all_goals (simp only [D.norm1]; first | constructor; done | skip)
  case str _ h => exact .str _ h
  case agg _ _ hl h h1 => exact .agg _ _ hl h h1
  case tup _ _ hl h => exact .tup _ _ hl h
  case slice _ b off cap sz f hok hcap hmax hsz hc h1 h => exact .slice _ b off cap sz f hok hcap hmax hsz hc h1 h
  case addr _ b off f hok hc h1 h => exact .addr _ b off f hok hc h1 h
  case iface _ _ _ h => exact .iface _ _ _ h
  case fn _ _ _ _ _ hf hc h1 h2 => exact .fn _ _ _ _ _ hf hc h1 h2

theorem Rep.norm {w : World} {ok : Nat → Prop} {x : D} {v : Value} (h : Rep w ok x v) : Rep w ok x.norm v := by
  by_cases hx : ∃ cs, x = .agg cs
  · obtain ⟨cs, rfl⟩ := hx
    cases h with
    | agg _ vs hl h h1 =>
      refine .agg _ vs (by simpa using hl) (fun i c v hc hv => ?_) h1
      rw [List.getElem?_map, Option.map_eq_some_iff] at hc
      obtain ⟨c', hc', rfl⟩ := hc
      exact (h i c' v hc' hv).norm1
  · have : x.norm = x.norm1 := by cases x <;> first | rfl | exact absurd ⟨_, rfl⟩ hx
    rw [this]
    exact h.norm1

/-- The row as data. -/
theorem row_rep {al : Nat → Prop} {w : World} {ok ok' : Nat → Prop} {σ : Nat → Value} {fr : Bool} {t : TypeId} {sz : Nat} {xs : List (List D)} {v : Value} (h : RepSO al w ok σ (.row fr t sz xs) v) (hk : Kept w w ok ok') (hb : ∀ b, blkOf v = some b → ok' b) : Rep w ok' (.slice xs) v := by
  obtain ⟨vs, f1, f2, f3, f4, f5, f6⟩ := row_facts h
  rcases f1.2 with ⟨e1, e2⟩ | ⟨g, cap, cur, e1, e2, e3, e4, e5, e6, e7⟩
  · have hx : xs = [] := List.eq_nil_of_length_eq_zero e2
    subst hx
    rw [e1]
    exact .nil
  · have hfl := flat_len f4
    have hvl := f1.1
    rw [e1] at f1 hb
    rw [e1]
    refine .slice xs g 0 cap sz (fun i => vs.getD i (.bool false)) (hb g rfl) e4 f3 f4 (fun i hi => ?_) (fun i => ?_) (fun i c hc => ?_)
    · rw [Nat.zero_add, f1.cellAt i (by omega), List.getElem?_eq_getElem (by omega), List.getD_eq_getElem?_getD, List.getElem?_eq_getElem (by omega)]
      rfl
    · rw [List.getD_eq_getElem?_getD]
      cases hh : vs[i]? with
      | none => rfl
      | some u => exact f5 u (List.mem_of_getElem? hh)
    · have hlt := (List.getElem?_eq_some_iff.1 hc).1
      rw [List.getD_eq_getElem?_getD, List.getElem?_eq_getElem (by omega)]
      exact (f6 i c _ hc (List.getElem?_eq_getElem (by omega))).mono hk

/-- A cell as data, once the call is over. -/
def asC (O : Nat → Option Obj1) : AV → Option D
  | .d x => some x.norm1
  | .own k => match O k with
    | some (.row true _ _ xs) => some (.slice xs)
    | _ => none
  | _ => none
def asCL (O : Nat → Option Obj1) : List AV → Option (List D)
  | [] => some []
  | x :: r => match asC O x, asCL O r with
    | some d, some ds => some (d :: ds)
    | _, _ => none
def asD (O : Nat → Option Obj1) : AV → Option D
  | .d x => some x.norm
  | .agg cs => match asCL O cs with
    | some ds => some (.agg ds)
    | none => none
  | x => asC O x


theorem asCL_get {O : Nat → Option Obj1} : ∀ {cs : List AV} {ds : List D}, asCL O cs = some ds → ds.length = cs.length ∧ ∀ (i : Nat) d, ds[i]? = some d → ∃ x, cs[i]? = some x ∧ asC O x = some d
  | [], ds, h => by simp [asCL] at h; subst h; simp
  | x :: r, ds, h => by
    simp only [asCL] at h
    split at h
    · rename_i d ds' h1 h2
      injection h with h
      subst h
      obtain ⟨h3, h4⟩ := asCL_get h2
      refine ⟨by simp [h3], fun i e he => ?_⟩
      cases i with
      | zero => simp at he; subst he; exact ⟨x, rfl, h1⟩
      | succ i => exact h4 i e (by simpa using he)
    · cases h

theorem asC_row {O : Nat → Option Obj1} {x : AV} {d : D} (h : asC O x = some d) : ∀ k ∈ x.ids, ∃ t sz xs, O k = some (.row true t sz xs) := fun k hk => by
  cases x <;> simp only [asC] at h <;> try cases h
  case d => simp [AV.ids] at hk
  case own j =>
    simp only [AV.ids, List.mem_singleton] at hk
    subst hk
    split at h
    · rename_i t sz xs hO; exact ⟨t, sz, xs, hO⟩
    · cases h
theorem asCL_row {O : Nat → Option Obj1} : ∀ {cs : List AV} {ds : List D}, asCL O cs = some ds → ∀ k ∈ AV.idsL cs, ∃ t sz xs, O k = some (.row true t sz xs)
  | [], _, _, k, hk => by simp [AV.idsL] at hk
  | x :: r, ds, h, k, hk => by
    simp only [asCL] at h
    split at h
    · rename_i d ds' h1 h2
      rcases List.mem_append.1 hk with hk | hk
      · exact asC_row h1 k hk
      · exact asCL_row h2 k hk
    · cases h
theorem asD_row {O : Nat → Option Obj1} {x : AV} {d : D} (h : asD O x = some d) : ∀ k ∈ x.ids, ∃ t sz xs, O k = some (.row true t sz xs) := fun k hk => by
  cases x <;> simp only [asD] at h
  case d => simp [AV.ids] at hk
  case agg cs =>
    split at h
    · rename_i ds hds; exact asCL_row hds k hk
    · cases h
  all_goals exact asC_row h k hk

theorem asC_rep' {c : Ctx} {O : Nat → Option Obj1} {E : Nat → Option AV} {al ok' : Nat → Prop} {nt : Nat} {a : Act} {w : World} {σ : Nat → Value} (h : SRep c E O al nt a w σ) (hk : Kept w w (okk c O σ w) ok') {x : AV} {d : D} (hd : asC O x = some d) (hb : ∀ k ∈ x.ids, ∀ b, blkOf (σ k) = some b → ok' b) {v : Value} (hx : RepA w (okk c O σ w) σ x v) : Rep w ok' d v := by
  cases x <;> simp only [asC] at hd <;> try cases hd
  case d x => exact (hx.d_inv.mono hk).norm1
  case own k =>
    split at hd
    · rename_i t sz xs hO
      injection hd with hd
      subst hd
      rw [hx.own_inv]
      exact row_rep (h.own k _ hO).2 hk (hb k (by simp [AV.ids]))
    · cases hd

theorem mem_idsL : ∀ {cs : List AV} {i : Nat} {c : AV}, cs[i]? = some c → ∀ {k : Nat}, k ∈ c.ids → k ∈ AV.idsL cs
  | [], i, c, h, _, _ => by simp at h
  | x :: r, 0, c, h, k, hk => by simp at h; subst h; exact List.mem_append_left _ hk
  | x :: r, i + 1, c, h, k, hk => List.mem_append_right _ (mem_idsL (by simpa using h) hk)

theorem asD_rep' {c : Ctx} {O : Nat → Option Obj1} {E : Nat → Option AV} {al ok' : Nat → Prop} {nt : Nat} {a : Act} {w : World} {σ : Nat → Value} (h : SRep c E O al nt a w σ) (hk : Kept w w (okk c O σ w) ok') {x : AV} {d : D} (hd : asD O x = some d) (hb : ∀ k ∈ x.ids, ∀ b, blkOf (σ k) = some b → ok' b) {v : Value} (hx : RepA w (okk c O σ w) σ x v) : Rep w ok' d v := by
  cases x <;> simp only [asD] at hd
  case d x => injection hd with hd; subst hd; exact (hx.d_inv.mono hk).norm
  case agg cs =>
    split at hd
    · rename_i ds hds
      injection hd with hd
      subst hd
      obtain ⟨h1, h2⟩ := asCL_get hds
      cases hx with
      | agg _ vs hl h' h1' =>
        refine .agg ds vs (by rw [hl, h1]) (fun i e v he hv => ?_) h1'
        obtain ⟨x, hx, hxe⟩ := h2 i e he
        exact asC_rep' h hk hxe (fun k hkk => hb k (mem_idsL hx hkk)) (h' i x v hx hv)
    · cases hd
  case own k => exact asC_rep' h hk (x := .own k) hd hb hx
  all_goals simp [asC] at hd

theorem asC_congr {O O' : Nat → Option Obj1} {x : AV} (h : ∀ k ∈ x.ids, O' k = O k) : asC O' x = asC O x := by
  cases x <;> simp only [asC]
  case own k => rw [h k (by simp [AV.ids])]
theorem asCL_congr {O O' : Nat → Option Obj1} : ∀ {cs : List AV}, (∀ k ∈ AV.idsL cs, O' k = O k) → asCL O' cs = asCL O cs
  | [], _ => rfl
  | x :: r, h => by
    simp only [asCL]
    rw [asC_congr fun k hk => h k (List.mem_append_left _ hk), asCL_congr fun k hk => h k (List.mem_append_right _ hk)]
theorem asD_congr {O O' : Nat → Option Obj1} {x : AV} (h : ∀ k ∈ x.ids, O' k = O k) : asD O' x = asD O x := by
  cases x <;> simp only [asD]
  case agg cs => rw [asCL_congr h]
  all_goals exact asC_congr h

/-- The arguments of a call as data, and the own rows among them. -/
def getAs (g : Operand → Option AV) (O : Nat → Option Obj1) : List Operand → Option (List D × List Nat)
  | [] => some ([], [])
  | x :: r => match g x, getAs g O r with
    | some y, some (ds, ks) => match asD O y with
      | some d => some (d :: ds, y.ids ++ ks)
      | none => none
    | _, _ => none
def dropE : List Nat → Eff
  | [] => .none
  | k :: ks => .drop (k :: ks)

section
variable {P : Program} {E : Nat → Option AV} {O : Nat → Option Obj1} {gl : List (Nat × List D)} {o : Oper} {id : Nat}

theorem getAs_rep {c : Ctx} {E' : Nat → Option AV} {O' : Nat → Option Obj1} {al ok' : Nat → Prop} {nt : Nat} {a : Act} {w : World} {σ : Nat → Value} (hs : SRep c E' O' al nt a w σ) (hag : Agree c.gl E E' O O' o) (hk : Kept w w (okk c O' σ w) ok') :
    ∀ {xs : List Operand} {ds : List D} {ks : List Nat}, (∀ x ∈ xs, x ∈ o.op.operands) → getAs (getE c.gl E) O xs = some (ds, ks) → (∀ k ∈ ks, (∃ t sz rs, O' k = some (.row true t sz rs)) → ∀ b, blkOf (σ k) = some b → ok' b) →
      ds.length = xs.length ∧ ∀ (i : Nat) d v, ds[i]? = some d → (xs.map a.eval)[i]? = some v → Rep w ok' d v
  | [], ds, ks, _, h, _ => by simp [getAs] at h; obtain ⟨rfl, _⟩ := h; simp
  | x :: r, ds, ks, hm, h, hb => by
    simp only [getAs] at h
    split at h
    · rename_i y ds' ks' h1 h2
      split at h
      · rename_i d hd
        injection h with h
        injection h with e1 e2
        subst e1
        subst e2
        have hx := hm x List.mem_cons_self
        obtain ⟨h3, h4⟩ := getAs_rep hs hag hk (fun z hz => hm z (List.mem_cons_of_mem _ hz)) h2 (fun k hk' => hb k (List.mem_append_right _ hk'))
        have hd' : asD O' y = some d := by rw [asD_congr (hag.o x hx y h1)]; exact hd
        refine ⟨by simp [h3], fun i d v hd hv => ?_⟩
        cases i with
        | zero =>
          simp at hd hv
          subst hd; subst hv
          exact asD_rep' hs hk hd' (fun k hk' => hb k (List.mem_append_left _ hk') (asD_row hd' k hk')) (hs.get (hag.get hx h1)).toA
        | succ i => exact h4 i d v (by simpa using hd) (by simpa using hv)
      · cases h
    · cases h

theorem RepO.row_any {w : World} {ok : Nat → Prop} {σ σ' : Nat → Value} {fr : Bool} {t : TypeId} {sz : Nat} {xs : List (List D)} {v : Value} (h : RepO w ok σ (.row fr t sz xs) v) : RepO w ok σ' (.row fr t sz xs) v := by
  cases h with
  | row fr t sz xs v vs ho hp hm hsz h1 h => exact .row fr t sz xs v vs ho hp hm hsz h1 h

/-- A new own object that came with what else is new. -/
theorem SRep.newR {c : Ctx} {E : Nat → Option AV} {O : Nat → Option Obj1} {al : Nat → Prop} {nt : Nat} {a : Act} {w w' : World} {σ : Nat → Value} {id : Nat} {te : TypeId} {sz : Nat} {xs : List (List D)} {v : Value} (h : SRep c E O al nt a w σ) (g : Go1 w w' none) (hid : ¬ al id)
    (hb : ∀ b, blkOf v = some b → w.heap.size ≤ b)
    (ho : RepO w' (fun b => b < w'.heap.size ∧ (okk c O σ w b ∨ w.heap.size ≤ b) ∧ blkOf v ≠ some b) σ (.row true te sz xs) v) :
    SRep c E (upd1 O id (some (.row true te sz xs))) (fun k => al k ∨ k = id) nt a w' (updσ σ id v) := by
  have hO : O id = none := by
    cases hh : O id with
    | none => rfl
    | some o' => exact absurd (h.own id o' hh).1 hid
  have hσ : ∀ k, al k → updσ σ id v k = σ k := fun k hk => by
    have : k ≠ id := fun e => hid (e ▸ hk)
    simp [updσ, this]
  have hok : ∀ b, b < w'.heap.size → (okk c O σ w b ∨ w.heap.size ≤ b) → blkOf v ≠ some b → okk c (upd1 O id (some (.row true te sz xs))) (updσ σ id v) w' b := fun b h1 h2 h3 => by
    refine ⟨h1, ?_, fun k o' hko he => ?_⟩
    · rcases h2 with h2 | h2
      · exact h2.2.1
      · exact .inr (Nat.le_trans h.size h2)
    · by_cases hkid : k = id
      · subst hkid
        simp [updσ] at he
        exact h3 he
      · rw [upd1_ne hkid] at hko
        simp [updσ, hkid] at he
        rcases h2 with h2 | h2
        · exact h2.2.2 k o' hko he
        · have := (h.own k o' hko).2.toO.lt b he
          omega
  have hk : Kept w w' (okk c O σ w) (okk c (upd1 O id (some (.row true te sz xs))) (updσ σ id v) w') := fun b hb' =>
    ⟨hok b (Nat.lt_of_lt_of_le hb'.1 g.size) (.inl hb') (fun e => by have := hb b e; have := hb'.1; omega), g.block b hb'.1 (by simp)⟩
  refine ⟨fun t x hx => ((h.env t x hx).mono hk).ext (fun _ h => .inl h) hσ, fun k o' hko => ?_, fun k k' o1 o2 h1 h2 hne b hb1 => ?_, fun k o1 h1 b hb1 => ?_, fun b hb1 hp => (g.block b (Nat.lt_of_lt_of_le hb1 h.size) (by simp)).trans (h.frame b hb1 hp), h.low, Nat.le_trans h.size g.size, g.os.trans h.os, g.tape.trans h.tape, g.output.trans h.output, fun k hk => ⟨.inl (h.ag k hk).1, (hσ k (h.ag k hk).1).trans (h.ag k hk).2⟩, h.defers, h.nt, h.glob.mono hk⟩
  · by_cases hkid : k = id
    · subst hkid
      rw [upd1_self] at hko
      injection hko with hko
      subst hko
      refine ⟨.inr rfl, fun τ _ => ?_⟩
      have h0 : updσ σ k v k = v := by simp [updσ]
      rw [h0]
      exact (ho.mono (fun b hb' => ⟨hok b hb'.1 hb'.2.1 hb'.2.2, rfl⟩) fun _ _ => rfl).row_any
    · rw [upd1_ne hkid] at hko
      have h3 := h.own k o' hko
      refine ⟨.inl h3.1, ?_⟩
      rw [hσ k h3.1]
      exact (h3.2.mono hk fun b hb1 => g.block b (h3.2.toO.lt b hb1) (by simp)).ext (fun _ h => .inl h) hσ
  · by_cases e1 : k = id
    · subst e1
      have e2 : k' ≠ k := fun e => hne e.symm
      rw [upd1_ne e2] at h2
      have h3 := h.own k' o2 h2
      rw [hσ k' h3.1]
      simp [updσ] at hb1
      intro he
      have := h3.2.toO.lt b he
      have := hb b hb1
      omega
    · rw [upd1_ne e1] at h1
      have h3 := h.own k o1 h1
      rw [hσ k h3.1] at hb1
      by_cases e2 : k' = id
      · subst e2
        simp [updσ]
        intro he
        have := h3.2.toO.lt b hb1
        have := hb b he
        omega
      · rw [upd1_ne e2] at h2
        rw [hσ k' (h.own k' o2 h2).1]
        exact h.dis k k' o1 o2 h1 h2 hne b hb1
  · by_cases e1 : k = id
    · subst e1
      simp [updσ] at hb1
      exact .inr (Nat.le_trans h.size (hb b hb1))
    · rw [upd1_ne e1] at h1
      rw [hσ k (h.own k o1 h1).1] at hb1
      exact h.mine k o1 h1 b hb1

theorem rep_fn_inv {w : World} {ok : Nat → Prop} {f : FuncId} {fs cs : List D} {v : Value} (h : Rep w ok (.fn f fs cs) v) : ∃ us ws : List Value, v = .func (.func f) us.toArray ws.toArray ∧ us.length = fs.length ∧ ws.length = cs.length ∧
    (∀ (i : Nat) c v, fs[i]? = some c → us[i]? = some v → Rep w ok c v) ∧ ∀ (i : Nat) c v, cs[i]? = some c → ws[i]? = some v → Rep w ok c v := by
  cases h with | fn _ _ _ us ws hf hc h1 h2 => exact ⟨us, ws, rfl, hf, hc, h1, h2⟩

theorem app_rep {R : D → Value → Prop} {as bs : List D} {us ws : List Value} (hl : us.length = as.length) (h : ∀ (i : Nat) c v, as[i]? = some c → us[i]? = some v → R c v) (k : ∀ (i : Nat) c v, bs[i]? = some c → ws[i]? = some v → R c v) :
    ∀ (i : Nat) c v, (as ++ bs)[i]? = some c → (us ++ ws)[i]? = some v → R c v := fun i c v hc hv => by
  by_cases hi : i < as.length
  · rw [List.getElem?_append_left hi] at hc
    rw [List.getElem?_append_left (by omega)] at hv
    exact h i c v hc hv
  · rw [List.getElem?_append_right (by omega)] at hc
    rw [List.getElem?_append_right (by omega), hl] at hv
    exact k _ c v hc hv

theorem st_call {f : Nat} {x : Operand} {args : Array Operand} {ts : Array TypeId} {fs cs ds : List D} {res : D} (ho : o.op = .call { callee := .value x, args := args, argTypes := ts }) (hx : getE gl E x = some (.d (.fn f fs cs))) {ks : List Nat} (hd : getAs (getE gl E) O args.toList = some (ds, ks))
    (hc : PCon P gl f (fs ++ ds ++ cs) res) : Step P gl E O o id (some (.d res)) (dropE ks) := by
  intro c E' O' al nt a w σ hgl hs hid hag K Q hK
  subst hgl
  have hops : o.op.operands = #[x] ++ args := by simp [ho, Op.operands, Call.operands]
  have h1 := (hs.get (hag.get (x := x) (by simp [hops]) hx)).d_inv
  obtain ⟨us, ws, hv, hu, hw, r1, r2⟩ := rep_fn_inv h1
  have hkept : Kept w w (okk c O' σ w) (okk c (dropO O' ks) σ w) := fun b hb => ⟨⟨hb.1, hb.2.1, fun j o1 hj => hb.2.2 j o1 (dropO_some hj).1⟩, rfl⟩
  obtain ⟨d1, d2⟩ := getAs_rep hs hag hkept (fun z hz => by rw [hops]; exact Array.mem_append.2 (.inr (Array.mem_toList_iff.1 hz))) hd (fun k hk ⟨_, _, _, hO⟩ => hs.drops_ok hO rfl hk)
  have r1' := fun i c v hc hv => (r1 i c v hc hv).mono hkept
  have r2' := fun i c v hc hv => (r2 i c v hc hv).mono hkept
  obtain ⟨fn, f1, f2, f3⟩ := hc.fn
  have hrun : (execOp a.eval o).run P w = .ok (.enter f (us ++ args.toList.map a.eval ++ ws).toArray) w := by
    have hm : us.toArray ++ args.map a.eval ++ ws.toArray = (us ++ args.toList.map a.eval ++ ws).toArray := by
      apply Array.toList_inj.1
      simp
    simp only [execOp, ho, resolve, hv, Deferred.ofValue, invoke, callFunc, Sem.run_bind, Sem.run_pure, Result.andThen_ok, run_program, f1, f2, f3, Bool.false_eq_true, if_false, hm]
  unfold Oper.wp
  rw [hrun]
  have hds := hs.drops (ks := ks)
  have hcall := hc.runs w (okk c (dropO O' ks) σ w) (us ++ args.toList.map a.eval ++ ws) (fun b hb => hb.1) hds.glob (by simp [hu, hw, d1]) (app_rep (by simp [hu, d1]) (app_rep hu r1' d2) r2')
  refine Calls.mono hcall fun e w' he => ?_
  obtain ⟨v, rfl, hg, hr⟩ := he
  have hs' := (hds.grow hg).al_ext (al' := fun k => al k ∨ k = id) fun _ => .inl
  have happ : (dropE ks).app id O' = dropO O' ks := by
    cases ks with
    | nil => funext j; simp [dropE, Eff.app, dropO]
    | cons k ks => rfl
  refine hK v w' σ (by rw [happ]; exact hs') fun y hy => ?_
  injection hy with hy
  subst hy
  rw [happ]
  refine .of_d (hr.mono fun b hb => ⟨⟨hb.1, ?_, fun k ob hk he => ?_⟩, rfl⟩)
  · rcases hb.2 with h | h
    · exact h.2.1
    · exact .inr (Nat.le_trans hs.size h)
  · rcases hb.2 with h | h
    · exact h.2.2 k ob hk he
    · have := (hds.own k ob hk).2.toO.lt b he
      omega
end

section
variable {P : Program} {E : Nat → Option AV} {O : Nat → Option Obj1} {gl : List (Nat × List D)} {o : Oper} {id : Nat}
theorem st_callR {f : Nat} {x : Operand} {args : Array Operand} {ts : Array TypeId} {fs cs ds : List D} {te : TypeId} {sz : Nat} {xs : List (List D)} (ho : o.op = .call { callee := .value x, args := args, argTypes := ts }) (hx : getE gl E x = some (.d (.fn f fs cs))) (hd : getAs (getE gl E) O args.toList = some (ds, []))
    (hc : PConR P gl f (fs ++ ds ++ cs) te sz xs) : Step P gl E O o id (some (.own id)) (.new (.row true te sz xs)) := by
  intro c E' O' al nt a w σ hgl hs hid hag K Q hK
  subst hgl
  have hops : o.op.operands = #[x] ++ args := by simp [ho, Op.operands, Call.operands]
  have h1 := (hs.get (hag.get (x := x) (by simp [hops]) hx)).d_inv
  obtain ⟨us, ws, hv, hu, hw, r1, r2⟩ := rep_fn_inv h1
  obtain ⟨d1, d2⟩ := getAs_rep hs hag (Kept.refl w _) (fun z hz => by rw [hops]; exact Array.mem_append.2 (.inr (Array.mem_toList_iff.1 hz))) hd (fun k hk => by simp at hk)
  obtain ⟨fn, f1, f2, f3⟩ := hc.fn
  have hrun : (execOp a.eval o).run P w = .ok (.enter f (us ++ args.toList.map a.eval ++ ws).toArray) w := by
    have hm : us.toArray ++ args.map a.eval ++ ws.toArray = (us ++ args.toList.map a.eval ++ ws).toArray := by
      apply Array.toList_inj.1
      simp
    simp only [execOp, ho, resolve, hv, Deferred.ofValue, invoke, callFunc, Sem.run_bind, Sem.run_pure, Result.andThen_ok, run_program, f1, f2, f3, Bool.false_eq_true, if_false, hm]
  unfold Oper.wp
  rw [hrun]
  have hcall := hc.runs w (okk c O' σ w) (us ++ args.toList.map a.eval ++ ws) (fun b hb => hb.1) hs.glob (by simp [hu, hw, d1]) (app_rep (by simp [hu, d1]) (app_rep hu r1 d2) r2)
  refine Calls.mono hcall fun e w' he => ?_
  obtain ⟨v, rfl, hg, hnew, hr⟩ := he
  have hs' := hs.newR (id := id) hg hid hnew (hr (fun _ => True) σ).toO
  refine hK v w' _ hs' fun y hy => ?_
  injection hy with hy
  subst hy
  intro τ hτ
  have : v = τ id := by rw [hτ id (.inr rfl)]; simp [updσ]
  rw [this]
  exact .own id
end

/-! ### One operation -/
def ownOk (O : Nat → Option Obj1) : AV → Prop
  | .own k => match O k with
    | some _ => True
    | none => False
  | _ => True
def ownsOk' (O : Nat → Option Obj1) : List (Nat × AV) → Prop
  | [] => True
  | p :: r => ownOk O p.2 ∧ ownsOk' O r
theorem ownOk_spec {O : Nat → Option Obj1} {y : AV} (h : ownOk O y) : ∀ k, y = .own k → ∃ ob, O k = some ob := fun k hk => by
  subst hk
  simp only [ownOk] at h
  split at h
  · rename_i ob hob; exact ⟨ob, hob⟩
  · exact h.elim
theorem ownsOk_spec {O : Nat → Option Obj1} : ∀ {l : List (Nat × AV)}, ownsOk' O l → ownsOk O l
  | [], _ => fun p hp => by cases hp
  | p :: r, h => fun q hq => by
    rcases List.mem_cons.1 hq with rfl | hq
    · exact ownOk_spec h.1
    · exact ownsOk_spec h.2 q hq

def AV.mk : AV → AV
  | .agg cs => mkAgg cs
  | x => x
theorem AV.mk_rep {al : Nat → Prop} {w : World} {ok : Nat → Prop} {σ : Nat → Value} {x : AV} {v : Value} (h : RepS al w ok σ x v) : RepS al w ok σ x.mk v := by
  cases x <;> first | exact h | exact mkAgg_rep h

def cutB (g : Operand → Option AV) (n : Nat) (lo hi : Option Operand) (K : Nat → Nat → Prop) : Prop :=
  match lo, hi with
  | none, none => K 0 n
  | some x, none => match g x with
    | some (.d (.int _ l)) => 0 ≤ l ∧ l ≤ n ∧ K l.toNat n
    | _ => False
  | none, some y => match g y with
    | some (.d (.int _ h)) => 0 ≤ h ∧ h ≤ n ∧ K 0 h.toNat
    | _ => False
  | some x, some y => match g x, g y with
    | some (.d (.int _ l)), some (.d (.int _ h)) => 0 ≤ l ∧ l ≤ h ∧ h ≤ n ∧ K l.toNat h.toNat
    | _, _ => False

theorem cutB_spec {gl : List (Nat × List D)} {E : Nat → Option AV} {n : Nat} {lo hi : Option Operand} {K : Nat → Nat → Prop} (h : cutB (getE gl E) n lo hi K) : ∃ l r, CutB gl E n lo hi l r ∧ K l r := by
  unfold cutB at h
  split at h
  · exact ⟨_, _, .all, h⟩
  · split at h
    · rename_i x _ k l hx
      exact ⟨_, _, .lo x k l hx h.1 h.2.1, h.2.2⟩
    · exact h.elim
  · split at h
    · rename_i y _ k l hy
      exact ⟨_, _, .hi y k l hy h.1 h.2.1, h.2.2⟩
    · exact h.elim
  · split at h
    · rename_i x y _ _ k l k' r hx hy
      exact ⟨_, _, .both x y k k' l r hx hy h.1 h.2.1 h.2.2.1, h.2.2.2⟩
    · exact h.elim

/-- What 'append' is handed, as a list. -/
def srcA (O : Nat → Option Obj1) (sz : Nat) : AV → Option (List (List D))
  | .d (.slice ys) => some ys
  | .d .nils => some []
  | .own k => match O k with
    | some (.row _ _ sz' ys) => if sz' = sz then some ys else none
    | _ => none
  | _ => none
theorem srcA_spec {O : Nat → Option Obj1} {sz : Nat} {y : AV} {ys : List (List D)} (h : srcA O sz y = some ys) : Src O sz y ys := by
  unfold srcA at h
  split at h
  · injection h with h; subst h; exact .d _
  · injection h with h; subst h; exact .nils
  · split at h
    · split at h
      · rename_i hk hsz
        injection h with h
        subst h
        subst hsz
        exact .own _ _ _ _ hk
      · cases h
    · cases h
  · cases h

def binA (tb : Nat → Option TI) (op : BinOp) (t : Nat) (x y : Option AV) (K : AV → Prop) : Prop :=
  match x, y with
  | some (.d (.int k m)), some (.d (.int k' n)) => match op with
    | .shl | .shr => 0 ≤ n ∧ (match shiftV op k m n with
      | some z => K (.d z)
      | none => False)
    | _ => k = k' ∧ intC op n ∧ (match intV op k m n with
      | some z => K (.d z)
      | none => False)
  | some (.d (.str m)), some (.d (.str n)) => strC op m n ∧ (match strV op m n with
      | some z => K (.d z)
      | none => False)
  | some (.d (.bool m)), some (.d (.bool n)) => match tb t with
    | some i => match i.k, boolV op m n with
      | .bool, some z => K (.d z)
      | _, _ => False
    | none => False
  | some (.d (.agg ds)), some (.d (.agg es)) => match tb t with
    | some i => i.k.agg = true ∧ i.eq ≠ [] ∧ (match sameS i.eq ds es with
      | some b => (match aggV op b with
        | some z => K (.d z)
        | none => False)
      | none => False)
    | none => False
  | some (.d d), some (.d .nils) => match tb t with
    | some i => (match i.k, nilV op d with
      | .slice _ _, some z => K (.d z)
      | _, _ => False)
    | none => False
  | _, _ => False

theorem binA_sound {P : Program} {E : Nat → Option AV} {O : Nat → Option Obj1} {gl : List (Nat × List D)} {o : Oper} {id : Nat} {tb : Nat → Option TI} (htb : TbOk P tb) {op : BinOp} {t ty : TypeId} {x y : Operand} {K : AV → Prop} (ho : o.op = .binOp op t x y ty) (h : binA tb op t (getE gl E x) (getE gl E y) K) :
    ∃ v, K v ∧ Step P gl E O o id (some v) .none := by
  unfold binA at h
  split at h
  · rename_i k m k' n hx hy
    split at h
    · obtain ⟨h0, h⟩ := h
      split at h
      · rename_i z hz
        exact ⟨_, h, st_bin_shift ho hx hy h0 hz⟩
      · exact h.elim
    · obtain ⟨h0, h⟩ := h
      split at h
      · rename_i z hz
        exact ⟨_, h, st_bin_shift ho hx hy h0 hz⟩
      · exact h.elim
    · obtain ⟨rfl, h0, h⟩ := h
      split at h
      · rename_i z hz
        exact ⟨_, h, st_bin_int ho hx hy h0 hz⟩
      · exact h.elim
  · rename_i m n hx hy
    obtain ⟨h0, h⟩ := h
    split at h
    · rename_i z hz
      exact ⟨_, h, st_bin_str ho hx hy h0 hz⟩
    · exact h.elim
  · rename_i m n hx hy
    split at h
    · rename_i i hi
      split at h
      · rename_i z hk hz
        exact ⟨_, h, st_bin_bool (htb _ _ hi) hk ho hx hy hz⟩
      · exact h.elim
    · exact h.elim
  · rename_i ds es hx hy
    split at h
    · rename_i i hi
      obtain ⟨h1, h2, h⟩ := h
      split at h
      · rename_i b hb
        split at h
        · rename_i z hz
          exact ⟨_, h, st_bin_agg (htb _ _ hi) h1 ho hx hy hb h2 hz⟩
        · exact h.elim
      · exact h.elim
    · exact h.elim
  · rename_i d hx hy
    split at h
    · rename_i i hi
      split at h
      · rename_i te sz z hk hz
        exact ⟨_, h, st_bin_nil (htb _ _ hi) hk ho hx hy hz⟩
      · exact h.elim
    · exact h.elim
  · exact h.elim
end Go.Proofs.Ytopgjmoajkcdnaa

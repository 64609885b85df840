/- Regions and code over abstract states. -/
import Derived.Test.YtopgjmoajkcdnaaAbs15
namespace Go.Proofs.Ytopgjmoajkcdnaa
set_option linter.all false
open Go Go.RowKit

structure St where
  env : List (Nat × AV)
  own : List (Nat × Obj1)
  nxt : Nat

def delL {α : Type} : List (Nat × α) → Nat → List (Nat × α)
  | [], _ => []
  | (k, x) :: r, t => if k = t then delL r t else (k, x) :: delL r t
def delsL {α : Type} (l : List (Nat × α)) : List Nat → List (Nat × α)
  | [] => l
  | k :: ks => delsL (delL l k) ks
def setL {α : Type} : List (Nat × α) → Nat → α → List (Nat × α)
  | [], t, v => [(t, v)]
  | (k, x) :: r, t, v => if k = t then (k, v) :: r else (k, x) :: setL r t v

theorem look_cons {α : Type} (l : List (Nat × α)) (t : Nat) (v : α) : look ((t, v) :: l) = upd1 (look l) t (some v) := by
  funext j
  simp only [look, upd1]
  by_cases h : t = j
  · simp [h]
  · simp [h, Ne.symm h]
theorem look_del {α : Type} (l : List (Nat × α)) (t : Nat) : look (delL l t) = upd1 (look l) t none := by
  funext j
  induction l with
  | nil => simp [delL, look, upd1]
  | cons p r ih =>
    obtain ⟨k, x⟩ := p
    simp only [delL]
    by_cases hk : k = t
    · rw [if_pos hk, ih]
      subst hk
      simp only [upd1, look]
      by_cases hj : j = k
      · simp [hj]
      · simp [hj, Ne.symm hj]
    · rw [if_neg hk]
      simp only [look, ih, upd1]
      by_cases hj : j = t
      · subst hj; simp [hk]
      · simp [hj]
theorem look_dels {α : Type} : ∀ (ks : List Nat) (l : List (Nat × α)), look (delsL l ks) = fun j => if j ∈ ks then none else look l j
  | [], l => by funext j; simp [delsL]
  | k :: ks, l => by
    funext j
    simp only [delsL, look_dels ks, look_del, upd1, List.mem_cons]
    by_cases h1 : j ∈ ks <;> by_cases h2 : j = k <;> simp [h1, h2]
theorem look_set {α : Type} (l : List (Nat × α)) (t : Nat) (v : α) : look (setL l t v) = upd1 (look l) t (some v) := by
  funext j
  induction l with
  | nil => simp only [setL, look, upd1]; by_cases h : t = j <;> simp [h]; intro h2; exact absurd h2.symm h
  | cons p r ih =>
    obtain ⟨k, x⟩ := p
    simp only [setL]
    by_cases hk : k = t
    · rw [if_pos hk]
      subst hk
      simp only [upd1, look]
      by_cases hj : k = j
      · simp [hj]
      · simp [hj, Ne.symm hj]
    · rw [if_neg hk]
      simp only [look, ih, upd1]
      by_cases hj : j = t
      · subst hj; simp [hk]
      · simp [hj]

def St.app (s : St) (dst : Option Tmp) (v : Option AV) (e : Eff) : St :=
  ⟨match dst with
    | some d => (match v with
      | some x => (d, x) :: s.env
      | none => delL s.env d)
    | none => s.env,
   match e with
    | .none => s.own
    | .new o => (s.nxt, o) :: s.own
    | .turn k o => setL s.own k o
    | .swap k o => (s.nxt, o) :: delL s.own k
    | .drop ks => delsL s.own ks,
   s.nxt + 1⟩
/-- What stands in a slot whose operation was passed over. -/
abbrev und : AV := .d (.tup [])
theorem rep_und {al : Nat → Prop} {w : World} {ok : Nat → Prop} {σ : Nat → Value} : RepS al w ok σ und undef := fun _ _ => .d _ _ (.tup [] [] rfl (fun i c v h _ => by simp at h))
def St.skip (s : St) (dst : Option Tmp) : St := ⟨match dst with
    | some d => (d, und) :: s.env
    | none => s.env, s.own, s.nxt + 1⟩

def SR (c : Ctx) (nt : Nat) (s : St) (a : Act) (w : World) (σ : Nat → Value) : Prop := SRep c (look s.env) (look s.own) (fun k => k < s.nxt) nt a w σ

def dstOk (nt : Nat) (o : Oper) : Bool := match o.dst with
  | some d => decide (d < nt)
  | none => true

def guardA (E : Nat → Option AV) (all : List Oper) (g : Option (Nat × Bool)) (yes no : Prop) : Prop := match g with
  | none => yes
  | some (j, b) => match all[j]? with
    | some oj => match oj.dst with
      | some t => match E t with
        | some (.d (.bool c)) => if c = b then yes else no
        | some (.d (.tup [])) => no
        | _ => False
      | none => False
    | none => False

def AE (P : Program) (gl : List (Nat × List D)) (tb : Nat → Option TI) (all : List Oper) (K : St → Prop) : List Oper → St → Prop
  | [], s => K s
  | o :: rest, s => guardA (look s.env) all o.guard (opA P gl tb (look s.env) (look s.own) s.nxt o.op fun v e => AE P gl tb all K rest (s.app o.dst v e)) (AE P gl tb all K rest (s.skip o.dst))

section
variable {P : Program} {gl : List (Nat × List D)} {tb : Nat → Option TI} {nt : Nat} {c : Ctx} {s : St} {a : Act} {w : World} {σ : Nat → Value}

theorem eff_own (s : St) (dst : Option Tmp) (v : Option AV) (e : Eff) : look (s.app dst v e).own = e.app s.nxt (look s.own) := by
  cases e with
  | none => rfl
  | new o => exact look_cons _ _ _
  | turn k o => exact look_set _ _ _
  | swap k o =>
    show look ((s.nxt, o) :: delL s.own k) = _
    rw [look_cons, look_del]
    rfl
  | drop ks => exact look_dels _ _

theorem al_lt {n : Nat} : (fun k => k < n ∨ k = n) = fun k : Nat => k < n + 1 := by
  funext k
  exact propext ⟨fun h => by omega, fun h => by omega⟩

/-- Behind a step. -/
theorem SR.app {o : Oper} {v : Option AV} {e : Eff} {w' : World} {σ' : Nat → Value} {v' : Value} (hd : dstOk nt o = true) (h : SRep c (look s.env) (e.app s.nxt (look s.own)) (fun k => k < s.nxt ∨ k = s.nxt) nt a w' σ')
    (hx : ∀ x, v = some x → RepS (fun k => k < s.nxt ∨ k = s.nxt) w' (okk c (e.app s.nxt (look s.own)) σ' w') σ' x v') : SR c nt (s.app o.dst v e) (a.put o.dst v') w' σ' := by
  unfold SR
  rw [eff_own]
  rw [al_lt] at h hx
  show SRep c (look (s.app o.dst v e).env) _ (fun k => k < s.nxt + 1) nt _ _ _
  cases hdst : o.dst with
  | none =>
    simp only [St.app, Act.put]
    exact h
  | some d =>
    simp only [dstOk, hdst, decide_eq_true_eq] at hd
    cases v with
    | some x =>
      show SRep c (look ((d, x) :: s.env)) _ _ _ _ _ _
      rw [look_cons]
      exact h.put hd (hx x rfl)
    | none =>
      show SRep c (look (delL s.env d)) _ _ _ _ _ _
      rw [look_del]
      exact h.wipe

theorem SR.skip {o : Oper} (hd : dstOk nt o = true) (h : SR c nt s a w σ) : SR c nt (s.skip o.dst) (a.put o.dst undef) w σ := by
  have h' := SRep.al_ext (al' := fun k => k < s.nxt + 1) h (fun k (hk : k < s.nxt) => by omega)
  unfold SR
  show SRep c (look (s.skip o.dst).env) (look s.own) (fun k => k < s.nxt + 1) nt _ _ _
  cases hdst : o.dst with
  | none => exact h'
  | some d =>
    simp only [dstOk, hdst, decide_eq_true_eq] at hd
    show SRep c (look ((d, und) :: s.env)) _ _ _ _ _ _
    rw [look_cons]
    exact h'.put hd rep_und

theorem yielded_none {ops : Array Oper} {tmps : Array Value} {j t : Nat} {oj : Oper} (hj : ops.toList[j]? = some oj) (ht : oj.dst = some t) (hv : tmps.getD t undef = undef) : yielded ops tmps j = none := by
  have h1 : ops[j]? = some oj := by simpa using hj
  unfold yielded
  rw [h1]
  simp only [Option.bind_some, ht]
  rw [Array.getD_eq_getD_getElem?] at hv
  cases hh : tmps[t]? with
  | none => rfl
  | some u => rw [hh] at hv; simp at hv; rw [hv]; rfl
theorem rep_und' {al : Nat → Prop} {w : World} {ok : Nat → Prop} {σ : Nat → Value} {v : Value} (h : RepS al w ok σ und v) : v = undef := by
  have h1 := h.toA.d_inv
  cases h1 with
  | tup cs vs hl h =>
    have : vs = [] := List.eq_nil_of_length_eq_zero hl
    subst this
    rfl
theorem yielded_of {ops : Array Oper} {tmps : Array Value} {j t : Nat} {oj : Oper} {b : Bool} (hj : ops.toList[j]? = some oj) (ht : oj.dst = some t) (hv : tmps.getD t undef = .bool b) : yielded ops tmps j = some b := by
  have h1 : ops[j]? = some oj := by simpa using hj
  unfold yielded
  rw [h1]
  simp only [Option.bind_some, ht]
  have h2 : tmps[t]? = some (.bool b) := by
    rw [Array.getD_eq_getD_getElem?] at hv
    cases hh : tmps[t]? with
    | none => rw [hh] at hv; simp [undef] at hv
    | some u => rw [hh] at hv; simp at hv; rw [hv]
  rw [h2]

theorem AE_sound (htb : TbOk P tb) {ops : Array Oper} {K : St → Prop} {Q : Exit → Act → World → Prop} (hgl : c.gl = gl) (hK : ∀ s' a' w' σ', K s' → SR c nt s' a' w' σ' → Q .normal a' w') :
    ∀ (l : List Oper) (s : St) (a : Act) (w : World) (σ : Nat → Value), AE P gl tb ops.toList K l s → (l.all (dstOk nt)) = true → SR c nt s a w σ → wpList P ops Q l a w
  | [], s, a, w, σ, h, _, hs => hK s a w σ h hs
  | o :: rest, s, a, w, σ, h, hd, hs => by
    simp only [List.all_cons, Bool.and_eq_true] at hd
    have hop : (opA P gl tb (look s.env) (look s.own) s.nxt o.op fun v e => AE P gl tb ops.toList K rest (s.app o.dst v e)) → ∀ K' Q', (∀ a' w', wpList P ops Q rest a' w' → K' a' w') → o.wp P a w K' Q' := fun hop K' Q' hK' => by
      obtain ⟨v, e, hAE, hst⟩ := opA_sound htb hop
      refine hst c (look s.env) (look s.own) (fun k => k < s.nxt) nt a w σ hgl hs (by omega) ⟨fun _ _ => rfl, fun _ _ _ _ _ _ => rfl⟩ K' Q' fun v' w' σ' hs' hx => hK' _ _ ?_
      exact AE_sound htb hgl hK rest _ _ _ σ' hAE hd.2 (SR.app hd.1 hs' hx)
    simp only [AE] at h
    unfold guardA at h
    cases hg : o.guard with
    | none =>
      rw [hg] at h
      simp only at h
      unfold wpList
      rw [if_pos (by simp [Region.wanted, hg])]
      exact .inl (hop h _ _ fun _ _ hh => hh)
    | some jb =>
      obtain ⟨j, b⟩ := jb
      rw [hg] at h
      simp only at h
      split at h
      · rename_i oj hj
        split at h
        · rename_i t ht
          split at h
          · rename_i cb hcb
            have hv := rep_bool (hs.env t _ hcb)
            have hy := yielded_of hj ht hv
            split at h
            · rename_i hcb'
              unfold wpList
              rw [if_pos (by simp [Region.wanted, hg, hy, hcb'])]
              exact .inl (hop h _ _ fun _ _ hh => hh)
            · rename_i hcb'
              unfold wpList
              rw [if_neg (by simp [Region.wanted, hg, hy, hcb'])]
              exact AE_sound htb hgl hK rest _ _ _ σ h hd.2 (hs.skip hd.1)
          · rename_i hcb
            have hy := yielded_none hj ht (rep_und' (hs.env t _ hcb))
            unfold wpList
            rw [if_neg (by simp [Region.wanted, hg, hy])]
            exact AE_sound htb hgl hK rest _ _ _ σ h hd.2 (hs.skip hd.1)
          · exact h.elim
        · exact h.elim
      · exact h.elim
end

/-! ### Code -/
inductive AExit where
  | normal | exit (id : Nat) | goto (l : Nat) | ret | panic (x : D)

inductive ExR (w : World) (ok : Nat → Prop) : AExit → Exit → Prop
  | normal : ExR w ok .normal .normal
  | exit (id : Nat) : ExR w ok (.exit id) (.exit id)
  | goto (l : Nat) : ExR w ok (.goto l) (.goto l)
  | ret : ExR w ok .ret .ret
  | panic (x : D) (v : Value) (h : Rep w ok x v) : ExR w ok (.panic x) (.panic [{ v := v, recovered := false }])

def APost (c : Ctx) (nt : Nat) (Q : AExit → St → Prop) (e : Exit) (a : Act) (w : World) : Prop := ∃ ae s σ, Q ae s ∧ SR c nt s a w σ ∧ ExR w (okk c (look s.own) σ w) ae e

/-- Nothing that is another's is written. -/
structure Ctx.plain (c : Ctx) : Prop where
  pass : ∀ b, ¬ c.pass b
  al0 : ∀ k, ¬ c.al0 k

def AW (P : Program) (gl : List (Nat × List D)) (nt : Nat) (code : Code) (Q : AExit → St → Prop) (s : St) : Prop := ∀ (c : Ctx) (a : Act) (w : World) (σ : Nat → Value), c.gl = gl → c.plain → SR c nt s a w σ → code.wp P (APost c nt Q) a w

section
variable {P : Program} {gl : List (Nat × List D)} {tb : Nat → Option TI} {nt : Nat} {Q : AExit → St → Prop} {s : St}

theorem AW.mono {code : Code} {Q' : AExit → St → Prop} (h : AW P gl nt code Q s) (hq : ∀ e s, Q e s → Q' e s) : AW P gl nt code Q' s := fun c a w σ hgl hp hs =>
  wp_mono (h c a w σ hgl hp hs) fun _ _ _ ⟨ae, s', σ', h1, h2, h3⟩ => ⟨ae, s', σ', hq _ _ h1, h2, h3⟩

theorem AW.skip (h : Q .normal s) : AW P gl nt .skip Q s := fun _ _ _ σ _ _ hs => wp_skip ⟨.normal, s, σ, h, hs, .normal⟩
theorem AW.label {l : Nat} (h : Q .normal s) : AW P gl nt (.label l) Q s := fun _ _ _ σ _ _ hs => wp_label ⟨.normal, s, σ, h, hs, .normal⟩
theorem AW.exit {id : Nat} (h : Q (.exit id) s) : AW P gl nt (.exit id) Q s := fun _ _ _ σ _ _ hs => wp_exit ⟨.exit id, s, σ, h, hs, .exit id⟩
theorem AW.goto {l : Nat} (h : Q (.goto l) s) : AW P gl nt (.goto l) Q s := fun _ _ _ σ _ _ hs => wp_goto ⟨.goto l, s, σ, h, hs, .goto l⟩
theorem AW.ret (h : Q .ret s) : AW P gl nt .ret Q s := fun _ _ _ σ _ _ hs => wp_ret ⟨.ret, s, σ, h, hs, .ret⟩

def thenA (R : St → Prop) (Q : AExit → St → Prop) : AExit → St → Prop
  | .normal, s => R s
  | e, s => Q e s

theorem AW.seq {x y : Code} (h : AW P gl nt x (thenA (AW P gl nt y Q) Q) s) : AW P gl nt (.seq x y) Q s := fun c a w σ hgl hp hs =>
  wp_seq (wp_mono (h c a w σ hgl hp hs) fun e a' w' ⟨ae, s', σ', h1, h2, h3⟩ => by
    cases h3 with
    | normal => exact h1 c a' w' σ' hgl hp h2
    | exit id => exact ⟨_, _, _, h1, h2, .exit id⟩
    | goto l => exact ⟨_, _, _, h1, h2, .goto l⟩
    | ret => exact ⟨_, _, _, h1, h2, .ret⟩
    | panic x v hv => exact ⟨_, _, _, h1, h2, .panic x v hv⟩)

/-- Ways that meet again: what holds of each. -/
theorem AW.seq_cut {x y : Code} (R : St → Prop) (h : AW P gl nt x (thenA R Q) s) (k : ∀ s, R s → AW P gl nt y Q s) : AW P gl nt (.seq x y) Q s :=
  .seq (h.mono fun e s' hq => by cases e <;> first | exact k s' hq | exact hq)

theorem AW.cond {cd : Operand} {x y : Code} {b : Bool} (hc : getE gl (look s.env) cd = some (.d (.bool b))) (h1 : b = true → AW P gl nt x Q s) (h2 : b = false → AW P gl nt y Q s) : AW P gl nt (.cond cd x y) Q s := fun c a w σ hgl hp hs => by
  subst hgl
  have hb := rep_bool (hs.get hc)
  exact wp_cond_split hb (fun h => h1 h c a w σ rfl hp hs) (fun h => h2 h c a w σ rfl hp hs)

/-- A condition of which nothing is known but that it is one. -/
theorem AW.condAny {cd : Operand} {x y : Code} (hc : getE gl (look s.env) cd = some (.d .anyb)) (h1 : AW P gl nt x Q s) (h2 : AW P gl nt y Q s) : AW P gl nt (.cond cd x y) Q s := fun c a w σ hgl hp hs => by
  subst hgl
  have hb := (hs.get hc).d_inv
  generalize hv : a.eval cd = v at hb
  cases hb with
  | anyb b => exact wp_cond_split hv (fun _ => h1 c a w σ rfl hp hs) (fun _ => h2 c a w σ rfl hp hs)

def blockA (id : Nat) (Q : AExit → St → Prop) : AExit → St → Prop
  | .exit id', s => if id' = id then Q .normal s else Q (.exit id') s
  | e, s => Q e s
theorem AW.block {id : Nat} {x : Code} (h : AW P gl nt x (blockA id Q) s) : AW P gl nt (.block id x) Q s := fun c a w σ hgl hp hs =>
  wp_block (wp_mono (h c a w σ hgl hp hs) fun e a' w' ⟨ae, s', σ', h1, h2, h3⟩ => by
    cases h3 with
    | normal => exact ⟨_, _, _, h1, h2, .normal⟩
    | exit id' =>
      simp only [blockA] at h1
      simp only [Exit.inBlock]
      split at h1
      · rename_i he; rw [if_pos he]; exact ⟨_, _, _, h1, h2, .normal⟩
      · rename_i he; rw [if_neg he]; exact ⟨_, _, _, h1, h2, .exit id'⟩
    | goto l => exact ⟨_, _, _, h1, h2, .goto l⟩
    | ret => exact ⟨_, _, _, h1, h2, .ret⟩
    | panic x v hv => exact ⟨_, _, _, h1, h2, .panic x v hv⟩)

/-- A loop: the number falls round by round. -/
theorem AW.loop {x : Code} (I : Nat → St → Prop) (h0 : ∃ n, I n s) (hr : ∀ n s, I n s → AW P gl nt x (thenA (fun s' => ∃ m, m < n ∧ I m s') Q) s) : AW P gl nt (.loop x) Q s := by
  intro c a w σ hgl hp hs b k cs
  obtain ⟨n0, hn0⟩ := h0
  have key : ∀ n s a w σ, I n s → SR c nt s a w σ → ∃ e a' w', APost c nt Q e a' w' ∧ Arrives P (lone (b.at a (.code x :: .inLoop x :: k)) cs w) b k cs e a' w' := by
    intro n
    induction n using Nat.strongRecOn with
    | _ n ih =>
      intro s a w σ hI hs
      obtain ⟨e, a', w', ⟨ae, s', σ', q1, q2, q3⟩, harr⟩ := hr n s hI c a w σ hgl hp hs b (.inLoop x :: k) cs
      cases q3 with
      | normal =>
        obtain ⟨m, hm, hIm⟩ := q1
        obtain ⟨e2, a2, w2, r1, r2⟩ := ih m hm s' a' w' σ' hIm q2
        exact ⟨e2, a2, w2, r1, .of_steps (Steps.trans harr (.one step_inLoop)) r2⟩
      | exit id => exact ⟨_, a', w', ⟨_, _, _, q1, q2, .exit id⟩, .pass (x := .inLoop x) rfl (fun _ _ => .inl (by simp)) harr⟩
      | goto l => exact ⟨_, a', w', ⟨_, _, _, q1, q2, .goto l⟩, .pass (x := .inLoop x) rfl (fun _ _ => .inl (by simp)) harr⟩
      | ret => exact ⟨_, a', w', ⟨_, _, _, q1, q2, .ret⟩, .pass (x := .inLoop x) rfl (fun _ _ => .inl (by simp)) harr⟩
      | panic y v hv => exact ⟨_, a', w', ⟨_, _, _, q1, q2, .panic y v hv⟩, .pass (x := .inLoop x) rfl (fun _ _ => .inl (by simp)) harr⟩
  obtain ⟨e, a', w', q, harr⟩ := key n0 s a w σ hn0 hs
  exact ⟨e, a', w', q, .of_steps (.one step_loop) harr⟩
end
end Go.Proofs.Ytopgjmoajkcdnaa

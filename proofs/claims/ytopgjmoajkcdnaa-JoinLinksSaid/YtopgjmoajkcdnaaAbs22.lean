/- The table of types, held by one computation; numbers exchanged; into a function and out of it. -/
import Derived.Test.YtopgjmoajkcdnaaAbs21
import Derived.KernelRfl
namespace Go.Proofs.Ytopgjmoajkcdnaa
set_option linter.all false
open Go Go.RowKit

/-! ### The table -/
mutual
def cheap : D → Value → Bool
  | .int k n, .int k' n' => decide (k = k') && decide (n = n')
  | .bool b, .bool b' => b == b'
  | .str s, .string s' => decide (s = s') && decide (s.size ≤ maxLen)
  | .agg cs, .agg vs => cheapL cs vs.toList
  | .nils, .slice none 0 0 => true
  | .nilif, .nilIface => true
  | .nilp, .pointer none => true
  | .nilfn, .nilFunc => true
  | .tup [], .tuple vs => vs.toList.isEmpty
  | _, _ => false
def cheapL : List D → List Value → Bool
  | [], [] => true
  | d :: ds, v :: vs => cheap d v && v.oneCell' && cheapL ds vs
  | _, _ => false
end

mutual
theorem cheap_ok : ∀ {d : D} {v : Value}, cheap d v = true → RepC d v := by
  intro d v h w ok
  unfold cheap at h
  split at h
  · simp only [Bool.and_eq_true, decide_eq_true_eq] at h; obtain ⟨rfl, rfl⟩ := h; exact .int _ _
  · simp only [beq_iff_eq] at h; subst h; exact .bool _
  · simp only [Bool.and_eq_true, decide_eq_true_eq] at h; obtain ⟨rfl, h⟩ := h; exact .str _ h
  · obtain ⟨h1, h2, h3⟩ := cheapL_ok h
    exact .agg _ _ h1 (fun i c v hc hv => h3 i c v hc hv w ok) h2
  · exact .nils
  · exact .nilif
  · exact .nilp
  · exact .nilfn
  · rename_i vs
    have : vs = ([] : List Value).toArray := by cases vs; simp_all
    subst this
    exact .tup [] [] rfl (fun i c v hc _ => by simp at hc)
  · cases h
theorem cheapL_ok : ∀ {ds : List D} {vs : List Value}, cheapL ds vs = true → vs.length = ds.length ∧ (∀ v ∈ vs, v.oneCell' = true) ∧ ∀ (i : Nat) c v, ds[i]? = some c → vs[i]? = some v → RepC c v := by
  intro ds vs h
  unfold cheapL at h
  split at h
  · simp
  · rename_i d ds v vs
    simp only [Bool.and_eq_true] at h
    obtain ⟨⟨h0, h1⟩, h2⟩ := h
    obtain ⟨k1, k2, k3⟩ := cheapL_ok h2
    refine ⟨by simp [k1], fun u hu => ?_, fun i c u hc hu => ?_⟩
    · rcases List.mem_cons.1 hu with rfl | hu
      · exact h1
      · exact k2 u hu
    · cases i with
      | zero => simp at hc hu; subst hc; subst hu; exact cheap_ok h0
      | succ i => exact k3 i c u (by simpa using hc) (by simpa using hu)
  · cases h
end

def fldsCheck (P : Program) : List Field → List (Nat × Nat × Nat) → Bool
  | [], [] => true
  | f :: fs, (o, t, s) :: r => decide (f.offset = o) && decide (f.type = t) && decide ((P.info? t).map (·.size) = some s) && decide (s ≠ 0) && fldsCheck P fs r
  | _, _ => false
theorem fldsCheck_ok {P : Program} : ∀ {l : List Field} {r : List (Nat × Nat × Nat)}, fldsCheck P l r = true → FldsOk P l r
  | [], [], _ => trivial
  | f :: fs, (o, t, s) :: r, h => by
    simp only [fldsCheck, Bool.and_eq_true, decide_eq_true_eq] at h
    exact ⟨h.1.1.1.1, h.1.1.1.2, h.1.1.2, h.1.2, fldsCheck_ok h.2⟩
  | [], _ :: _, h => by simp [fldsCheck] at h
  | _ :: _, [], h => by simp [fldsCheck] at h

def kCheck (P : Program) (t : Nat) (k : TK) : Bool := match k, P.underlying t with
  | .int k, some (.int k') => decide (k' = k)
  | .bool, some .bool => true
  | .str, some .string => true
  | .struct fs, some (.struct l) => fldsCheck P l.toList fs
  | .arr n e sz, some (.array n' e') => decide (n' = n) && decide (e' = e) && decide ((P.info? e).map (·.size) = some sz)
  | .slice e sz, some (.slice e') => decide (e' = e) && decide ((P.info? e).map (·.size) = some sz)
  | .ptr e, some (.pointer e') => decide (e' = e)
  | .iface n, some (.interface ms) => decide (ms.size = n)
  | .func, some (.func ..) => true
  | .map k e, some (.map k' e') => decide (k' = k) && decide (e' = e)
  | _, _ => false
theorem kCheck_ok {P : Program} {t : Nat} {k : TK} (h : kCheck P t k = true) : k.ok P t := by
  unfold kCheck at h
  split at h
  · rename_i hu; simp only [decide_eq_true_eq] at h; subst h; exact hu
  · rename_i hu; exact hu
  · rename_i hu; exact hu
  · rename_i l hu; exact ⟨l, hu, fldsCheck_ok h⟩
  · rename_i hu; simp only [Bool.and_eq_true, decide_eq_true_eq] at h; obtain ⟨⟨rfl, rfl⟩, h⟩ := h; exact ⟨hu, h⟩
  · rename_i hu; simp only [Bool.and_eq_true, decide_eq_true_eq] at h; obtain ⟨rfl, h⟩ := h; exact ⟨hu, h⟩
  · rename_i hu; simp only [decide_eq_true_eq] at h; subst h; exact hu
  · rename_i ms hu; simp only [decide_eq_true_eq] at h; exact ⟨ms, hu, h⟩
  · rename_i hu; exact ⟨_, _, _, hu⟩
  · rename_i hu; simp only [Bool.and_eq_true, decide_eq_true_eq] at h; obtain ⟨rfl, rfl⟩ := h; exact hu
  · cases h

def tiCheck (P : Program) (t : Nat) (i : TI) : Bool := kCheck P t i.k && (i.eq.isEmpty || (decide (eqShape P 9 t = some i.eq) && !P.eqGuardType P.depth t)) && (match P.info? t with
  | some j => decide (j.size = i.size) && decide (j.bytes = i.bytes) && (match j.zero with
    | some z => cheap i.zd z && decide (z.cells.size = i.size)
    | none => false)
  | none => false)
theorem tiCheck_ok {P : Program} {t : Nat} {i : TI} (h : tiCheck P t i = true) : i.ok P t := by
  simp only [tiCheck, Bool.and_eq_true] at h
  obtain ⟨⟨h0, he⟩, h⟩ := h
  have he' : i.eq = [] ∨ (eqShape P 9 t = some i.eq ∧ P.eqGuardType P.depth t = false) := by simpa [List.isEmpty_iff] using he
  split at h
  · rename_i j hj
    simp only [Bool.and_eq_true, decide_eq_true_eq] at h
    obtain ⟨⟨h1, h2⟩, h⟩ := h
    split at h
    · rename_i z hz
      simp only [Bool.and_eq_true, decide_eq_true_eq] at h
      exact ⟨kCheck_ok h0, he', j, z, hj, h1, h2, hz, cheap_ok h.1, h.2⟩
    · cases h
  · cases h

def tblCheck (P : Program) : List (Nat × TI) → Bool
  | [] => true
  | (t, i) :: r => tiCheck P t i && tblCheck P r
theorem tblCheck_ok {P : Program} : ∀ {l : List (Nat × TI)}, tblCheck P l = true → TbOk P (look l)
  | [], _, t, i, h => by simp [look] at h
  | (k, j) :: r, h, t, i, hl => by
    simp only [tblCheck, Bool.and_eq_true] at h
    simp only [look] at hl
    split at hl
    · rename_i hk; subst hk; injection hl with hl; subst hl; exact tiCheck_ok h.1
    · exact tblCheck_ok h.2 t i hl

/-! ### Numbers exchanged -/
def sw (i j k : Nat) : Nat := if k = i then j else if k = j then i else k
theorem sw_sw (i j k : Nat) : sw i j (sw i j k) = k := by
  unfold sw
  split <;> split <;> (try split) <;> omega
theorem sw_lt {i j k n : Nat} (hi : i < n) (hj : j < n) (hk : k < n) : sw i j k < n := by
  unfold sw
  split
  · exact hj
  · split
    · exact hi
    · exact hk

mutual
def AV.sw (i j : Nat) : AV → AV
  | .d x => .d x
  | .own k => .own (Ytopgjmoajkcdnaa.sw i j k)
  | .ref k off => .ref (Ytopgjmoajkcdnaa.sw i j k) off
  | .elt k sz a o => .elt (Ytopgjmoajkcdnaa.sw i j k) sz a o
  | .agg cs => .agg (AV.swL i j cs)
  | .tup cs => .tup (AV.swL i j cs)
def AV.swL (i j : Nat) : List AV → List AV
  | [] => []
  | x :: r => x.sw i j :: AV.swL i j r
end
theorem swL_len {i j : Nat} : ∀ {cs : List AV}, (AV.swL i j cs).length = cs.length
  | [] => rfl
  | x :: r => by simp [AV.swL, swL_len]
theorem swL_get {i j : Nat} : ∀ {cs : List AV} {n : Nat} {c : AV}, (AV.swL i j cs)[n]? = some c → ∃ c', cs[n]? = some c' ∧ c = c'.sw i j
  | [], n, c, h => by simp [AV.swL] at h
  | x :: r, 0, c, h => by simp [AV.swL] at h; exact ⟨x, rfl, h.symm⟩
  | x :: r, n + 1, c, h => by simp [AV.swL] at h; simpa using swL_get h

theorem RepA.sw {w : World} {ok : Nat → Prop} {σ σ' : Nat → Value} {i j : Nat} (hσ : ∀ k, σ' (Ytopgjmoajkcdnaa.sw i j k) = σ k) {x : AV} {v : Value} (h : RepA w ok σ x v) : RepA w ok σ' (x.sw i j) v := by
  induction h with
  | d x v h => exact .d x v h
  | own k => simp only [AV.sw]; rw [← hσ k]; exact .own _
  | ref k off b h => exact .ref _ off b (by rw [hσ k]; exact h)
  | elt k sz a o b h => exact .elt _ sz a o b (by rw [hσ k]; exact h)
  | agg cs vs hl _ h1 ih =>
    refine .agg _ vs (by rw [swL_len, hl]) (fun i c v hc hv => ?_) h1
    obtain ⟨c', hc', rfl⟩ := swL_get hc
    exact ih i c' v hc' hv
  | tup cs vs hl _ ih =>
    refine .tup _ vs (by rw [swL_len, hl]) (fun i c v hc hv => ?_)
    obtain ⟨c', hc', rfl⟩ := swL_get hc
    exact ih i c' v hc' hv

def Obj1.sw (i j : Nat) : Obj1 → Obj1
  | .box fr cs => .box fr (AV.swL i j cs)
  | .row fr t sz xs => .row fr t sz xs
theorem Obj1.fr_sw {i j : Nat} {o : Obj1} : (o.sw i j).fr = o.fr := by cases o <;> rfl
theorem RepO.sw {w : World} {ok : Nat → Prop} {σ σ' : Nat → Value} {i j : Nat} (hσ : ∀ k, σ' (Ytopgjmoajkcdnaa.sw i j k) = σ k) {o : Obj1} {v : Value} (h : RepO w ok σ o v) : RepO w ok σ' (o.sw i j) v := by
  cases h with
  | box fr cs b t vs hb hl h1 h =>
    refine .box fr _ b t vs hb (by rw [swL_len, hl]) h1 (fun i c v hc hv => ?_)
    obtain ⟨c', hc', rfl⟩ := swL_get hc
    exact (h i c' v hc' hv).sw hσ
  | row fr t sz xs v vs ho hp hm hsz h1 h => exact .row fr t sz xs v vs ho hp hm hsz h1 h

def swE (i j : Nat) : List (Nat × AV) → List (Nat × AV)
  | [] => []
  | (t, v) :: r => (t, v.sw i j) :: swE i j r
def swO (i j : Nat) : List (Nat × Obj1) → List (Nat × Obj1)
  | [] => []
  | (t, v) :: r => (sw i j t, v.sw i j) :: swO i j r
theorem look_swE {i j : Nat} : ∀ {l : List (Nat × AV)} {t : Nat} {v : AV}, look (swE i j l) t = some v → ∃ v', look l t = some v' ∧ v = v'.sw i j
  | [], t, v, h => by simp [swE, look] at h
  | (q, x) :: r, t, v, h => by
    simp only [swE, look] at h ⊢
    split at h
    · rename_i hq; injection h with h; subst h; exact ⟨x, by rw [if_pos hq], rfl⟩
    · rename_i hq; rw [if_neg hq]; exact look_swE h
theorem look_swO {i j : Nat} : ∀ {l : List (Nat × Obj1)} {t : Nat} {v : Obj1}, look (swO i j l) t = some v → ∃ v', look l (sw i j t) = some v' ∧ v = v'.sw i j
  | [], t, v, h => by simp [swO, look] at h
  | (q, x) :: r, t, v, h => by
    simp only [swO, look] at h ⊢
    split at h
    · rename_i hq
      injection h with h
      subst h
      subst hq
      exact ⟨x, by rw [sw_sw, if_pos rfl], rfl⟩
    · rename_i hq
      rw [if_neg (fun e => hq (by rw [e, sw_sw]))]
      exact look_swO h

section
variable {P : Program} {gl : List (Nat × List D)} {tb : Nat → Option TI} {nt : Nat} {Q : AExit → St → Prop} {s : St}

def St.sw (s : St) (i j : Nat) : St := ⟨swE i j s.env, swO i j s.own, s.nxt⟩

theorem SR.sw {c : Ctx} {a : Act} {w : World} {σ : Nat → Value} {i j : Nat} (hi : i < s.nxt) (hj : j < s.nxt) (hp : c.plain) (h : SR c nt s a w σ) : SR c nt (s.sw i j) a w (fun k => σ (sw i j k)) := by
  have hk : Kept w w (okk c (look s.own) σ w) (okk c (look (swO i j s.own)) (fun k => σ (Ytopgjmoajkcdnaa.sw i j k)) w) := fun b hb => ⟨⟨hb.1, hb.2.1, fun k o hk => by
    obtain ⟨o', h1, _⟩ := look_swO hk
    exact hb.2.2 _ o' h1⟩, rfl⟩
  have hτ : ∀ τ : Nat → Value, (∀ k, k < s.nxt → τ k = σ (Ytopgjmoajkcdnaa.sw i j k)) → ∀ k, k < s.nxt → (fun k => τ (Ytopgjmoajkcdnaa.sw i j k)) k = σ k := fun τ hτ k hk => by
    show τ (Ytopgjmoajkcdnaa.sw i j k) = σ k
    rw [hτ _ (sw_lt hi hj hk), sw_sw]
  refine ⟨fun t x hx τ hτ' => ?_, fun k o hko => ?_, fun k k' o1 o2 h1 h2 hne => ?_, fun k o h1 => ?_, h.frame, h.low, h.size, h.os, h.tape, h.output, fun k hk => absurd hk (hp.al0 k), h.defers, h.nt, h.glob.mono hk⟩
  · obtain ⟨x', hx', rfl⟩ := look_swE hx
    exact ((h.env t x' hx' _ (hτ τ hτ')).sw fun k => rfl).mono hk
  · obtain ⟨o', h1, rfl⟩ := look_swO hko
    have h2 := h.own _ o' h1
    refine ⟨?_, fun τ hτ' => ?_⟩
    · have := sw_lt hi hj h2.1
      rwa [sw_sw] at this
    · exact ((h2.2 _ (hτ τ hτ')).sw fun k => rfl).mono hk fun _ _ => rfl
  · obtain ⟨p1, q1, _⟩ := look_swO h1
    obtain ⟨p2, q2, _⟩ := look_swO h2
    exact h.dis _ _ p1 p2 q1 q2 fun e => hne (by rw [← sw_sw i j k, e, sw_sw])
  · obtain ⟨p1, q1, rfl⟩ := look_swO h1
    rw [Obj1.fr_sw]
    exact h.mine _ p1 q1

theorem AW.swap {code : Code} (i j : Nat) (hi : i < s.nxt) (hj : j < s.nxt) (h : AW P gl nt code Q (s.sw i j)) : AW P gl nt code Q s := fun c a w σ hgl hp hs => h c a w _ hgl hp (SR.sw hi hj hp hs)
end

/-- More is known of a slot. -/
theorem SRep.know {c : Ctx} {E : Nat → Option AV} {O : Nat → Option Obj1} {al : Nat → Prop} {nt : Nat} {a : Act} {w : World} {σ : Nat → Value} {t : Nat} {x : AV} (h : SRep c E O al nt a w σ) (hx : RepS al w (okk c O σ w) σ x (a.tmps.getD t undef)) : SRep c (upd1 E t (some x)) O al nt a w σ := by
  refine ⟨fun t' y hy => ?_, h.own, h.dis, h.mine, h.frame, h.low, h.size, h.os, h.tape, h.output, h.ag, h.defers, h.nt, h.glob⟩
  by_cases ht : t' = t
  · subst ht
    rw [upd1_self] at hy
    injection hy with hy
    subst hy
    exact hx
  · rw [upd1_ne ht] at hy
    exact h.env t' y hy

/-- nil is taken for an own row without elements. -/
theorem AW.adopt {P : Program} {gl : List (Nat × List D)} {nt : Nat} {Q : AExit → St → Prop} {s : St} {code : Code} (t te sz : Nat) (ht : look s.env t = some (.d .nils)) (hsz : 0 < sz) (h : AW P gl nt code Q ⟨(t, .own s.nxt) :: s.env, (s.nxt, .row true te sz []) :: s.own, s.nxt + 1⟩) : AW P gl nt code Q s := by
  intro c a w σ hgl hp hs
  have hv : a.tmps.getD t undef = .slice none 0 0 := by
    have h1 := (hs.env t _ ht).d_inv
    generalize a.tmps.getD t undef = v at h1
    cases h1
    rfl
  have hn := SRep.new (id := s.nxt) (o := .row true te sz []) (v := .slice none 0 0) hs (Go1.refl w none) (by omega) (fun b hb => by simp [blkOf] at hb) (fun ok' _ τ _ => .row true te sz [] (.slice none 0 0) [] ⟨by simp, .inl ⟨rfl, rfl⟩⟩ hsz (by simp) (by simp) (by simp) (fun i c v hc _ => by simp at hc))
  have hk := SRep.know (t := t) (x := .own s.nxt) hn (fun τ hτ => by
    have : a.tmps.getD t undef = τ s.nxt := by rw [hτ s.nxt (.inr rfl), hv]; simp [updσ]
    rw [this]
    exact .own _)
  refine h c a w (updσ σ s.nxt (.slice none 0 0)) hgl hp ?_
  unfold SR
  rw [look_cons, look_cons]
  rw [al_lt] at hk
  exact hk

/-! ### Into a function, and out of it -/
def outA (tb : Nat → Option TI) (E : Nat → Option AV) (O : Nat → Option Obj1) : ResultVar → Option D
  | .tmp t => match E t with
    | some x => asD O x
    | none => none
  | .cell a t => match tb t, E a with
    | some i, some (.ref k off) => match O k with
      | some (.box _ cs) => match readA i (cs.drop off) with
        | some x => asD O x.mk
        | none => none
      | _ => none
    | _, _ => none
def outL (tb : Nat → Option TI) (E : Nat → Option AV) (O : Nat → Option Obj1) : List ResultVar → Option (List D)
  | [] => some []
  | r :: rs => match outA tb E O r, outL tb E O rs with
    | some d, some ds => some (d :: ds)
    | _, _ => none
def outsA (tb : Nat → Option TI) (E : Nat → Option AV) (O : Nat → Option Obj1) (rs : List ResultVar) : Option D := match rs with
  | [r] => outA tb E O r
  | _ => match outL tb E O rs with
    | some ds => some (.tup ds)
    | none => none

section
variable {P : Program} {gl : List (Nat × List D)} {tb : Nat → Option TI} {nt : Nat} {s : St}

def resOf (tmps : Array Value) : ResultVar → Sem Value
  | .tmp t => pure (tmps.getD t undef)
  | .cell a t => do loadVar t (← asAddr (tmps.getD a undef))

theorem outA_run (htb : TbOk P tb) {c : Ctx} {a : Act} {w : World} {σ : Nat → Value} (h : SR c nt s a w σ) {r : ResultVar} {d : D} (hr : outA tb (look s.env) (look s.own) r = some d) :
    ∃ v, (resOf a.tmps r).run P w = .ok v w ∧ Rep w (okEnd c w) d v := by
  cases r with
  | tmp t =>
    simp only [outA] at hr
    split at hr
    · rename_i x hx
      exact ⟨_, by simp [resOf], asD_rep h hr (h.env t x hx).toA⟩
    · cases hr
  | cell p t =>
    simp only [outA] at hr
    split at hr
    · rename_i i k off hi hp
      split at hr
      · rename_i fr cs hO
        split at hr
        · rename_i x hx
          have h1 := h.env p _ hp
          obtain ⟨b, hb, hv⟩ := h1.toA.ref_inv
          obtain ⟨b', t', vs, e1, e2, e3, e4, e5⟩ := box_cells (h.own k _ hO).2
          rw [e1] at hb
          simp [blkOf] at hb
          subst hb
          obtain ⟨v, hl, hv'⟩ := run_readA (al := fun k => k < s.nxt) (ok := okk c (look s.own) σ w) (σ := σ) (htb _ _ hi) b' off (cs.drop off) (vs.drop off) (by simp; omega) (fun j v hj => by
            rw [List.getElem?_drop] at hj
            rw [cell_of_row w b' (off + j) vs.toArray t' (0, 0) e2, List.getElem?_toArray, hj]) (fun v hv => e4 v (List.mem_of_mem_drop hv)) (fun j c' v hj hv => by
            rw [List.getElem?_drop] at hj hv
            exact e5 _ c' v hj hv) hx
          exact ⟨v, by simp [resOf, hv, asAddr, hl], asD_rep h hr (AV.mk_rep hv').toA⟩
        · cases hr
      · cases hr
    · cases hr

theorem outL_run (htb : TbOk P tb) {c : Ctx} {a : Act} {w : World} {σ : Nat → Value} (h : SR c nt s a w σ) : ∀ {rs : List ResultVar} {ds : List D}, outL tb (look s.env) (look s.own) rs = some ds →
    ∃ vs : List Value, (rs.mapM (resOf a.tmps)).run P w = .ok vs w ∧ vs.length = ds.length ∧ ∀ (i : Nat) d v, ds[i]? = some d → vs[i]? = some v → Rep w (okEnd c w) d v
  | [], ds, hr => by simp [outL] at hr; subst hr; exact ⟨[], by simp, rfl, by simp⟩
  | r :: rs, ds, hr => by
    simp only [outL] at hr
    split at hr
    · rename_i d ds' h1 h2
      injection hr with hr
      subst hr
      obtain ⟨v, r1, r2⟩ := outA_run htb h h1
      obtain ⟨vs, r3, r4, r5⟩ := outL_run htb h h2
      refine ⟨v :: vs, by simp [List.mapM_cons, r1, r3], by simp [r4], fun i e u he hu => ?_⟩
      cases i with
      | zero => simp at he hu; subst he; subst hu; exact r2
      | succ i => exact r5 i e u (by simpa using he) (by simpa using hu)
    · cases hr

theorem results_eq (fn : Func) (tmps : Array Value) : results fn tmps = (do let l ← fn.results.toList.mapM (resOf tmps); pure (if h : l.toArray.size = 1 then l.toArray[0] else .tuple l.toArray)) := by
  have h1 : results fn tmps = (do let vs ← fn.results.mapM (resOf tmps); pure (if h : vs.size = 1 then vs[0] else .tuple vs)) := by
    have : (fun r : ResultVar => match r with
      | .tmp t => pure (tmps.getD t undef)
      | .cell a t => do loadVar t (← asAddr (tmps.getD a undef))) = resOf tmps := by funext r; cases r <;> rfl
    rw [← this]
    rfl
  rw [h1, Array.mapM_eq_mapM_toList]
  simp

theorem outs_run (htb : TbOk P tb) {c : Ctx} {a : Act} {w : World} {σ : Nat → Value} {fn : Func} {d : D} (h : SR c nt s a w σ) (hr : outsA tb (look s.env) (look s.own) fn.results.toList = some d) :
    ∃ v, (results fn a.tmps).run P w = .ok v w ∧ Rep w (okEnd c w) d v := by
  rw [results_eq]
  unfold outsA at hr
  split at hr
  · rename_i r hrs
    obtain ⟨v, r1, r2⟩ := outA_run htb h hr
    exact ⟨v, by simp [hrs, r1], r2⟩
  · rename_i hne
    split at hr
    · rename_i ds hds
      injection hr with hr
      subst hr
      obtain ⟨vs, r1, r2, r3⟩ := outL_run htb h hds
      have hlen : ∀ {rs : List ResultVar} {ds : List D}, outL tb (look s.env) (look s.own) rs = some ds → ds.length = rs.length := by
        intro rs
        induction rs with
        | nil => intro ds h; simp [outL] at h; subst h; rfl
        | cons r rs ih =>
          intro ds h
          simp only [outL] at h
          split at h
          · rename_i h2
            injection h with h
            subst h
            simp [ih h2]
          · cases h
      have hl := hlen hds
      have h1 : ¬ vs.length = 1 := fun e => by
        obtain ⟨r, hr⟩ := List.length_eq_one_iff.1 (hl.symm.trans (r2.symm.trans e))
        exact hne r hr
      refine ⟨.tuple vs.toArray, by simp [r1, h1], .tup ds vs r2 r3⟩
    · cases hr

/-- What a function's body leaves. -/
def retA (tb : Nat → Option TI) (rs : Array ResultVar) (res : D) : AExit → St → Prop
  | .normal, s | .ret, s => outsA tb (look s.env) (look s.own) rs.toList = some res
  | _, _ => False

theorem ret_eq {tb : Nat → Option TI} {rs : Array ResultVar} {res d : D} {s : St} (h : outsA tb (look s.env) (look s.own) rs.toList = some d) (hd : d = res) : retA tb rs res .ret s := hd ▸ h

def ctx0 (gl : List (Nat × List D)) (w : World) (ok : Nat → Prop) : Ctx := ⟨gl, w, ok, fun _ => False, fun _ => undef, fun _ => False⟩

theorem args_len : ∀ {l : List D} {i t : Nat} {v : AV}, look (argsE i l) t = some v → t < i + l.length
  | [], _, _, _, h => by simp [argsE, look] at h
  | x :: r, i, t, v, h => by
    simp only [argsE, look] at h
    split at h
    · simp; omega
    · have := args_len h; simp; omega

/-- What a body leaves that returns a row of its own. -/
def retR (rs : Array ResultVar) (te : TypeId) (sz : Nat) (xs : List (List D)) : AExit → St → Prop
  | .normal, s | .ret, s => match rs.toList with
    | [.tmp t] => match look s.env t with
      | some (.own k) => look s.own k = some (.row true te sz xs)
      | some (.d .nils) => xs = [] ∧ 0 < sz
      | _ => False
    | _ => False
  | _, _ => False

theorem sr_start {fn : Func} {args : List D} {w : World} {ok : Nat → Prop} {vs : List Value} (hnt : args.length ≤ fn.ntmps) (hok : ∀ b, ok b → b < w.heap.size) (hgl : Glob gl w ok) (hl : vs.length = args.length)
    (hargs : ∀ (i : Nat) x v, args[i]? = some x → vs[i]? = some v → Rep w ok x v) : SR (ctx0 gl w ok) fn.ntmps ⟨argsE 0 args, [], 0⟩ { tmps := vs.toArray ++ Array.replicate (fn.ntmps - vs.toArray.size) undef, defers := [] } w fun _ => undef := by
  refine ⟨fun t x hx τ _ => ?_, fun k o hk => by simp [look] at hk, fun k k' o o' hk => by simp [look] at hk, fun k o hk => by simp [look] at hk, fun _ _ _ => rfl, fun b hb => ⟨hok b hb, fun h => h⟩, Nat.le_refl _, rfl, rfl, rfl, fun k hk => hk.elim, rfl, by simp [hl]; omega, ?_⟩
  · obtain ⟨d, _, h2, rfl⟩ := look_argsE hx
    rw [Nat.sub_zero] at h2
    have hlt : t < vs.length := by rw [hl]; exact (List.getElem?_eq_some_iff.1 h2).1
    have hv : vs[t]? = some vs[t] := List.getElem?_eq_getElem hlt
    have hg : (vs.toArray ++ Array.replicate (fn.ntmps - vs.toArray.size) undef).getD t undef = vs[t] := by
      rw [Array.getD_eq_getD_getElem?, Array.getElem?_append_left (by simpa using hlt)]
      simp [hv]
    show RepA w _ τ _ ((vs.toArray ++ Array.replicate (fn.ntmps - vs.toArray.size) undef).getD t undef)
    rw [hg]
    exact .d _ _ ((hargs t d _ h2 hv).mono fun b hb => ⟨⟨hok b hb, .inl hb, fun k o hk => by simp [look] at hk⟩, rfl⟩)
  · exact Glob.mono (fun b hb => ⟨⟨hok b hb, .inl hb, fun k o hk => by simp [look] at hk⟩, rfl⟩) hgl

theorem PConR.enter {f : Nat} {fn : Func} {code : Code} {args : List D} {te : TypeId} {sz : Nat} {xs : List (List D)} (hf : P.funcs[f]? = some fn) (hn : (fn.name == "runtime.NumGoroutine") = false) (hb : fn.body = some code) (hnt : args.length ≤ fn.ntmps)
    (h : AW P gl fn.ntmps code (retR fn.results te sz xs) ⟨argsE 0 args, [], 0⟩) : PConR P gl f args te sz xs := by
  refine ⟨⟨fn, hf, hn, by simp [hb]⟩, fun w ok vs hok hgl hl hargs => ?_⟩
  refine calls_of_wp hf hb ?_
  refine wp_mono (h (ctx0 gl w ok) _ w _ rfl ⟨fun _ h => h, fun _ h => h⟩ (sr_start hnt hok hgl hl hargs)) fun e a' w' ⟨ae, s', σ', q1, q2, q3⟩ => ?_
  have fin : (match fn.results.toList with
    | [.tmp t] => (match look s'.env t with
      | some (.own k) => look s'.own k = some (.row true te sz xs)
      | some (.d .nils) => xs = [] ∧ 0 < sz
      | _ => False)
    | _ => False) → a'.defers = [] ∧ ∃ v, (results fn a'.tmps).run P w' = .ok v w' ∧ ∃ v', Ending.returned v = .returned v' ∧ Go1 w w' none ∧ (∀ b, blkOf v' = some b → w.heap.size ≤ b) ∧ ∀ (al : Nat → Prop) (σ : Nat → Value), RepSO al w' (fun b => b < w'.heap.size ∧ (ok b ∨ w.heap.size ≤ b) ∧ blkOf v' ≠ some b) σ (.row true te sz xs) v' := fun hq => by
    split at hq
    · rename_i t hrs
      split at hq
      · rename_i k hk
        have hv := (q2.env t _ hk).toA.own_inv
        have hO := q2.own k _ hq
        refine ⟨q2.defers, a'.tmps.getD t undef, by rw [results_eq, hrs]; simp [resOf], _, rfl, ⟨q2.os, q2.tape, q2.output, q2.size, fun b hb _ => q2.frame b hb fun h => h⟩, fun b hb => ?_, fun al σ τ _ => ?_⟩
        · rw [hv] at hb
          rcases q2.mine k _ hq b hb with ⟨h1, _⟩ | h1
          · cases h1
          · exact h1
        · rw [hv]
          exact (hO.2.toO.mono (fun b hb => ⟨⟨hb.1, hb.2.1, hb.2.2 k _ hq⟩, rfl⟩) fun _ _ => rfl).row_any
      · rename_i hk
        obtain ⟨rfl, hsz⟩ := hq
        have hv : a'.tmps.getD t undef = .slice none 0 0 := by
          have h1 := (q2.env t _ hk).d_inv
          generalize a'.tmps.getD t undef = v at h1
          cases h1
          rfl
        refine ⟨q2.defers, a'.tmps.getD t undef, by rw [results_eq, hrs]; simp [resOf], _, rfl, ⟨q2.os, q2.tape, q2.output, q2.size, fun b hb _ => q2.frame b hb fun h => h⟩, fun b hb => ?_, fun al σ τ _ => ?_⟩
        · rw [hv] at hb
          simp [blkOf] at hb
        · rw [hv]
          exact .row true te sz [] (.slice none 0 0) [] ⟨by simp, .inl ⟨rfl, rfl⟩⟩ hsz (by simp) (by simp) (by simp) (fun i c v hc _ => by simp at hc)
      · exact hq.elim
    · exact hq.elim
  cases q3 with
  | normal => exact fin q1
  | ret => exact fin q1
  | exit id => exact q1.elim
  | goto l => exact q1.elim
  | panic x v hv => exact q1.elim

theorem PCon.enter (htb : TbOk P tb) {f : Nat} {fn : Func} {code : Code} {args : List D} {res : D} (hf : P.funcs[f]? = some fn) (hn : (fn.name == "runtime.NumGoroutine") = false) (hb : fn.body = some code) (hnt : args.length ≤ fn.ntmps)
    (h : AW P gl fn.ntmps code (retA tb fn.results res) ⟨argsE 0 args, [], 0⟩) : PCon P gl f args res := by
  refine ⟨⟨fn, hf, hn, by simp [hb]⟩, fun w ok vs hok hgl hl hargs => ?_⟩
  refine calls_of_wp hf hb ?_
  have hs : SR (ctx0 gl w ok) fn.ntmps ⟨argsE 0 args, [], 0⟩ { tmps := vs.toArray ++ Array.replicate (fn.ntmps - vs.toArray.size) undef, defers := [] } w fun _ => undef := by
    refine ⟨fun t x hx τ _ => ?_, fun k o hk => by simp [look] at hk, fun k k' o o' hk => by simp [look] at hk, fun k o hk => by simp [look] at hk, fun _ _ _ => rfl, fun b hb => ⟨hok b hb, fun h => h⟩, Nat.le_refl _, rfl, rfl, rfl, fun k hk => hk.elim, rfl, by simp [hl]; omega, ?_⟩
    · obtain ⟨d, _, h2, rfl⟩ := look_argsE hx
      rw [Nat.sub_zero] at h2
      have hlt : t < vs.length := by rw [hl]; exact (List.getElem?_eq_some_iff.1 h2).1
      have hv : vs[t]? = some vs[t] := List.getElem?_eq_getElem hlt
      have hg : (vs.toArray ++ Array.replicate (fn.ntmps - vs.toArray.size) undef).getD t undef = vs[t] := by
        rw [Array.getD_eq_getD_getElem?, Array.getElem?_append_left (by simpa using hlt)]
        simp [hv]
      show RepA w _ τ _ ((vs.toArray ++ Array.replicate (fn.ntmps - vs.toArray.size) undef).getD t undef)
      rw [hg]
      exact .d _ _ ((hargs t d _ h2 hv).mono fun b hb => ⟨⟨hok b hb, .inl hb, fun k o hk => by simp [look] at hk⟩, rfl⟩)
    · exact Glob.mono (fun b hb => ⟨⟨hok b hb, .inl hb, fun k o hk => by simp [look] at hk⟩, rfl⟩) hgl
  refine wp_mono (h (ctx0 gl w ok) _ w _ rfl ⟨fun _ h => h, fun _ h => h⟩ hs) fun e a' w' ⟨ae, s', σ', q1, q2, q3⟩ => ?_
  have fin : outsA tb (look s'.env) (look s'.own) fn.results.toList = some res → a'.defers = [] ∧ ∃ v, (results fn a'.tmps).run P w' = .ok v w' ∧ ∃ v', Ending.returned v = .returned v' ∧ Go1 w w' none ∧ Rep w' (fun b => b < w'.heap.size ∧ (ok b ∨ w.heap.size ≤ b)) res v' := fun hq => by
    obtain ⟨v, r1, r2⟩ := outs_run (fn := fn) htb q2 hq
    exact ⟨q2.defers, v, r1, v, rfl, ⟨q2.os, q2.tape, q2.output, q2.size, fun b hb _ => q2.frame b hb fun h => h⟩, r2⟩
  cases q3 with
  | normal => exact fin q1
  | ret => exact fin q1
  | exit id => exact q1.elim
  | goto l => exact q1.elim
  | panic x v hv => exact q1.elim
end
end Go.Proofs.Ytopgjmoajkcdnaa

/- The abstract state of a call, and what it says of the frame and the world; how steps of the world turn it. -/
import Derived.Test.YtopgjmoajkcdnaaAbs1
namespace Go.Proofs.Ytopgjmoajkcdnaa
set_option linter.all false
open Go Go.RowKit

/-- Whatever the places of what isn't allotted yet. -/
def RepS (al : Nat → Prop) (w : World) (ok : Nat → Prop) (σ : Nat → Value) (x : AV) (v : Value) : Prop := ∀ σ' : Nat → Value, (∀ k, al k → σ' k = σ k) → RepA w ok σ' x v
def RepSO (al : Nat → Prop) (w : World) (ok : Nat → Prop) (σ : Nat → Value) (o : Obj1) (v : Value) : Prop := ∀ σ' : Nat → Value, (∀ k, al k → σ' k = σ k) → RepO w ok σ' o v

section
variable {al al' : Nat → Prop} {w w' : World} {ok ok' : Nat → Prop} {σ σ' : Nat → Value} {x : AV} {v : Value} {o : Obj1}
theorem RepS.toA (h : RepS al w ok σ x v) : RepA w ok σ x v := h σ fun _ _ => rfl
theorem RepSO.toO (h : RepSO al w ok σ o v) : RepO w ok σ o v := h σ fun _ _ => rfl
theorem RepS.mono (hk : Kept w w' ok ok') (h : RepS al w ok σ x v) : RepS al w' ok' σ x v := fun σ' hs => (h σ' hs).mono hk
theorem RepSO.mono (hk : Kept w w' ok ok') (hb : ∀ b, blkOf v = some b → w'.heap[b]? = w.heap[b]?) (h : RepSO al w ok σ o v) : RepSO al w' ok' σ o v := fun σ' hs => (h σ' hs).mono hk hb
theorem RepS.ext (ha : ∀ k, al k → al' k) (hs : ∀ k, al k → σ' k = σ k) (h : RepS al w ok σ x v) : RepS al' w ok σ' x v := fun τ ht => h τ fun k hk => (ht k (ha k hk)).trans (hs k hk)
theorem RepSO.ext (ha : ∀ k, al k → al' k) (hs : ∀ k, al k → σ' k = σ k) (h : RepSO al w ok σ o v) : RepSO al' w ok σ' o v := fun τ ht => h τ fun k hk => (ht k (ha k hk)).trans (hs k hk)
theorem RepS.of_d {x : D} (h : Rep w ok x v) : RepS al w ok σ (.d x) v := fun _ _ => .d x v h
theorem RepA.d_inv {x : D} (h : RepA w ok σ (.d x) v) : Rep w ok x v := by cases h with | d _ _ h => exact h
theorem RepS.d_inv {x : D} (h : RepS al w ok σ (.d x) v) : Rep w ok x v := h.toA.d_inv
theorem RepA.own_inv {k : Nat} (h : RepA w ok σ (.own k) v) : v = σ k := by cases h; rfl
theorem RepA.ref_inv {k off : Nat} (h : RepA w ok σ (.ref k off) v) : ∃ b, blkOf (σ k) = some b ∧ v = .pointer (some ⟨b, off, none⟩) := by
  cases h with | ref _ _ b h => exact ⟨b, h, rfl⟩
theorem RepA.elt_inv {k sz j o : Nat} (h : RepA w ok σ (.elt k sz j o) v) : ∃ b, blkOf (σ k) = some b ∧ v = .pointer (some ⟨b, j * sz + o, none⟩) := by
  cases h with | elt _ _ _ _ b h => exact ⟨b, h, rfl⟩
end

/-- What a list of pairs holds at a key. -/
def look {α : Type} : List (Nat × α) → Nat → Option α
  | [], _ => none
  | (k, x) :: r, t => if k = t then some x else look r t

/-- Package-level variables that hold known data, and are written no more. -/
def Glob (gl : List (Nat × List D)) (w : World) (ok : Nat → Prop) : Prop := ∀ g cs, look gl g = some cs → Rep w ok (.addr cs) (.pointer (some ⟨g, 0, none⟩))
theorem Glob.mono {gl : List (Nat × List D)} {w w' : World} {ok ok' : Nat → Prop} (hk : Kept w w' ok ok') (h : Glob gl w ok) : Glob gl w' ok' := fun g cs hg => (h g cs hg).mono hk

/-- What a call began with. -/
structure Ctx where
  gl : List (Nat × List D)
  w0 : World
  ok0 : Nat → Prop
  pass : Nat → Prop
  σ0 : Nat → Value
  al0 : Nat → Prop

/-- The blocks that nobody writes any more. -/
def okk (c : Ctx) (O : Nat → Option Obj1) (σ : Nat → Value) (w : World) : Nat → Prop := fun b =>
  b < w.heap.size ∧ (c.ok0 b ∨ c.w0.heap.size ≤ b) ∧ ∀ k o, O k = some o → blkOf (σ k) ≠ some b

structure SRep (c : Ctx) (E : Nat → Option AV) (O : Nat → Option Obj1) (al : Nat → Prop) (nt : Nat) (a : Act) (w : World) (σ : Nat → Value) : Prop where
  env : ∀ t x, E t = some x → RepS al w (okk c O σ w) σ x (a.tmps.getD t undef)
  own : ∀ k o, O k = some o → al k ∧ RepSO al w (okk c O σ w) σ o (σ k)
  dis : ∀ k k' o o', O k = some o → O k' = some o' → k ≠ k' → ∀ b, blkOf (σ k) = some b → blkOf (σ k') ≠ some b
  mine : ∀ k o, O k = some o → ∀ b, blkOf (σ k) = some b → (o.fr = false ∧ c.pass b) ∨ c.w0.heap.size ≤ b
  frame : ∀ b, b < c.w0.heap.size → ¬ c.pass b → w.heap[b]? = c.w0.heap[b]?
  low : ∀ b, c.ok0 b → b < c.w0.heap.size ∧ ¬ c.pass b
  size : c.w0.heap.size ≤ w.heap.size
  os : w.os = c.w0.os
  tape : w.tape = c.w0.tape
  output : w.output = c.w0.output
  ag : ∀ k, c.al0 k → al k ∧ σ k = c.σ0 k
  defers : a.defers = []
  nt : a.tmps.size = nt
  glob : Glob c.gl w (okk c O σ w)

/-- A step of the world that turns no block that was there, but perhaps one. -/
structure Go1 (w w' : World) (T : Option Nat) : Prop where
  os : w'.os = w.os
  tape : w'.tape = w.tape
  output : w'.output = w.output
  size : w.heap.size ≤ w'.heap.size
  block : ∀ b, b < w.heap.size → some b ≠ T → w'.heap[b]? = w.heap[b]?

theorem Go1.refl (w : World) (T : Option Nat) : Go1 w w T := ⟨rfl, rfl, rfl, Nat.le_refl _, fun _ _ _ => rfl⟩
theorem Go1.of_grown {w w' : World} {T : Option Nat} (h : w.grownBy w' T) : Go1 w w' T := ⟨h.os, h.tape, h.output, h.size, h.block⟩
theorem Go1.alloc (w : World) (o : Obj) (T : Option Nat) : Go1 w (w.alloc o) T := .of_grown (World.grownBy_alloc w o T)
theorem Go1.setCell (w : World) (p : Addr) (v : Value) : Go1 w (w.setCell p v) (some p.block) := ⟨rfl, rfl, rfl, by simp, fun k _ hk => heap_setCell_other w p k v (fun e => hk (by rw [e]))⟩
theorem Go1.drew (w : World) (T : Option Nat) : Go1 w w.drew T := ⟨rfl, rfl, rfl, Nat.le_refl _, fun _ _ _ => rfl⟩
theorem Go1.trans {a b c : World} {T : Option Nat} (h : Go1 a b T) (k : Go1 b c T) : Go1 a c T :=
  ⟨k.os.trans h.os, k.tape.trans h.tape, k.output.trans h.output, Nat.le_trans h.size k.size, fun i hi hT => (k.block i (Nat.lt_of_lt_of_le hi h.size) hT).trans (h.block i hi hT)⟩

def upd1 {α : Type} (f : Nat → Option α) (k : Nat) (x : Option α) : Nat → Option α := fun j => if j = k then x else f j
def updσ (σ : Nat → Value) (k : Nat) (v : Value) : Nat → Value := fun j => if j = k then v else σ j
theorem upd1_self {α : Type} {f : Nat → Option α} {k : Nat} {x : Option α} : upd1 f k x k = x := by simp [upd1]
theorem upd1_ne {α : Type} {f : Nat → Option α} {k j : Nat} {x : Option α} (h : j ≠ k) : upd1 f k x j = f j := by simp [upd1, h]

section
variable {c : Ctx} {E : Nat → Option AV} {O : Nat → Option Obj1} {al : Nat → Prop} {nt : Nat} {a : Act} {w w' : World} {σ : Nat → Value}

theorem SRep.ok_lt (_h : SRep c E O al nt a w σ) : ∀ b, okk c O σ w b → b < w.heap.size := fun _ h => h.1

/-- Nothing owned is touched. -/
theorem SRep.grow (h : SRep c E O al nt a w σ) (g : Go1 w w' none) : SRep c E O al nt a w' σ := by
  have hk : Kept w w' (okk c O σ w) (okk c O σ w') := fun b hb => ⟨⟨Nat.lt_of_lt_of_le hb.1 g.size, hb.2⟩, g.block b hb.1 (by simp)⟩
  refine ⟨fun t x hx => (h.env t x hx).mono hk, fun k o ho => ⟨(h.own k o ho).1, (h.own k o ho).2.mono hk fun b hb => g.block b ((h.own k o ho).2.toO.lt b hb) (by simp)⟩, h.dis, h.mine, fun b hb hp => (g.block b (Nat.lt_of_lt_of_le hb h.size) (by simp)).trans (h.frame b hb hp), h.low, Nat.le_trans h.size g.size, g.os.trans h.os, g.tape.trans h.tape, g.output.trans h.output, h.ag, h.defers, h.nt, h.glob.mono hk⟩

/-- Less is known. -/
theorem SRep.less {E' : Nat → Option AV} (h : SRep c E O al nt a w σ) (hE : ∀ t x, E' t = some x → E t = some x) : SRep c E' O al nt a w σ :=
  ⟨fun t x hx => h.env t x (hE t x hx), h.own, h.dis, h.mine, h.frame, h.low, h.size, h.os, h.tape, h.output, h.ag, h.defers, h.nt, h.glob⟩

/-- A slot is filled. -/
theorem SRep.put {d : Nat} {x : AV} {v : Value} (h : SRep c E O al nt a w σ) (hd : d < nt) (hx : RepS al w (okk c O σ w) σ x v) : SRep c (upd1 E d (some x)) O al nt (a.put (some d) v) w σ := by
  have hd' : d < a.tmps.size := by rw [h.nt]; exact hd
  refine ⟨fun t y hy => ?_, h.own, h.dis, h.mine, h.frame, h.low, h.size, h.os, h.tape, h.output, h.ag, h.defers, by simpa [Act.put] using h.nt, h.glob⟩
  by_cases ht : t = d
  · subst ht
    rw [upd1_self] at hy
    injection hy with hy
    subst hy
    simpa [Act.put, hd'] using hx
  · rw [upd1_ne ht] at hy
    have := h.env t y hy
    have he : (a.put (some d) v).tmps.getD t undef = a.tmps.getD t undef := by
      simp [Act.put, Array.getElem?_setIfInBounds_ne (Ne.symm ht)]
    rw [he]
    exact this

/-- A slot is emptied. -/
theorem SRep.wipe {d : Nat} {v : Value} (h : SRep c E O al nt a w σ) : SRep c (upd1 E d none) O al nt (a.put (some d) v) w σ := by
  refine ⟨fun t y hy => ?_, h.own, h.dis, h.mine, h.frame, h.low, h.size, h.os, h.tape, h.output, h.ag, h.defers, by simpa [Act.put] using h.nt, h.glob⟩
  by_cases ht : t = d
  · subst ht
    rw [upd1_self] at hy
    cases hy
  · rw [upd1_ne ht] at hy
    have := h.env t y hy
    have he : (a.put (some d) v).tmps.getD t undef = a.tmps.getD t undef := by
      simp [Act.put, Array.getElem?_setIfInBounds_ne (Ne.symm ht)]
    rw [he]
    exact this

/-- A new own object. -/
theorem SRep.new {id : Nat} {o : Obj1} {v : Value} (h : SRep c E O al nt a w σ) (g : Go1 w w' none) (hid : ¬ al id)
    (hb : ∀ b, blkOf v = some b → w.heap.size ≤ b)
    (ho : ∀ ok', Kept w w' (okk c O σ w) ok' → RepSO al w' ok' σ o v) :
    SRep c E (upd1 O id (some o)) (fun k => al k ∨ k = id) nt a w' (updσ σ id v) := by
  have hO : O id = none := by
    cases hh : O id with
    | none => rfl
    | some o' => exact absurd (h.own id o' hh).1 hid
  have hσ : ∀ k, al k → updσ σ id v k = σ k := fun k hk => by
    have : k ≠ id := fun e => hid (e ▸ hk)
    simp [updσ, this]
  have hk : Kept w w' (okk c O σ w) (okk c (upd1 O id (some o)) (updσ σ id v) w') := fun b hb' => by
    refine ⟨⟨Nat.lt_of_lt_of_le hb'.1 g.size, hb'.2.1, fun k o' hko he => ?_⟩, g.block b hb'.1 (by simp)⟩
    by_cases hkid : k = id
    · subst hkid
      simp [updσ] at he
      have := hb b he
      have := hb'.1
      omega
    · rw [upd1_ne hkid] at hko
      simp [updσ, hkid] at he
      exact hb'.2.2 k o' hko he
  refine ⟨fun t x hx => ((h.env t x hx).mono hk).ext (fun _ h => .inl h) hσ, fun k o' hko => ?_, fun k k' o1 o2 h1 h2 hne b hb1 => ?_, fun k o1 h1 b hb1 => ?_, fun b hb1 hp => (g.block b (Nat.lt_of_lt_of_le hb1 h.size) (by simp)).trans (h.frame b hb1 hp), h.low, Nat.le_trans h.size g.size, g.os.trans h.os, g.tape.trans h.tape, g.output.trans h.output, fun k hk => ⟨.inl (h.ag k hk).1, (hσ k (h.ag k hk).1).trans (h.ag k hk).2⟩, h.defers, h.nt, h.glob.mono hk⟩
  · by_cases hkid : k = id
    · subst hkid
      rw [upd1_self] at hko
      injection hko with hko
      subst hko
      refine ⟨.inr rfl, ?_⟩
      have := ((ho _ hk).ext (al' := fun j => al j ∨ j = k) (fun _ h => .inl h) hσ)
      simpa [updσ] using this
    · rw [upd1_ne hkid] at hko
      have h3 := h.own k o' hko
      refine ⟨.inl h3.1, ?_⟩
      rw [hσ k h3.1]
      exact (h3.2.mono hk fun b hb1 => g.block b (h3.2.toO.lt b hb1) (by simp)).ext (fun _ h => .inl h) hσ
  · by_cases e1 : k = id
    · subst e1
      have e2 : k' ≠ k := fun e => hne e.symm
      rw [upd1_ne e2] at h2
      have h3 := h.own k' o2 h2
      rw [hσ k' h3.1]
      simp [updσ] at hb1
      intro hb2
      have := hb b hb1
      have := h3.2.toO.lt b hb2
      omega
    · rw [upd1_ne e1] at h1
      have h4 := h.own k o1 h1
      rw [hσ k h4.1] at hb1
      by_cases e2 : k' = id
      · subst e2
        simp [updσ]
        intro hb2
        have := hb b hb2
        have := h4.2.toO.lt b hb1
        omega
      · rw [upd1_ne e2] at h2
        have h3 := h.own k' o2 h2
        rw [hσ k' h3.1]
        exact h.dis k k' o1 o2 h1 h2 hne b hb1
  · by_cases e1 : k = id
    · subst e1
      simp [updσ] at hb1
      exact .inr (Nat.le_trans h.size (hb b hb1))
    · rw [upd1_ne e1] at h1
      rw [hσ k (h.own k o1 h1).1] at hb1
      exact h.mine k o1 h1 b hb1

/-- An own object is turned in place. -/
theorem SRep.turn {k : Nat} {o o' : Obj1} (h : SRep c E O al nt a w σ) (hk : O k = some o) (g : Go1 w w' (blkOf (σ k))) (hfr : o'.fr = o.fr)
    (ho : ∀ ok', Kept w w' (okk c O σ w) ok' → RepSO al w' ok' σ o' (σ k)) : SRep c E (upd1 O k (some o')) al nt a w' σ := by
  have hkept : Kept w w' (okk c O σ w) (okk c (upd1 O k (some o')) σ w') := fun b hb => by
    refine ⟨⟨Nat.lt_of_lt_of_le hb.1 g.size, hb.2.1, fun j o1 hj => ?_⟩, g.block b hb.1 fun e => hb.2.2 k o hk e.symm⟩
    by_cases e : j = k
    · subst e; exact hb.2.2 j o hk
    · rw [upd1_ne e] at hj; exact hb.2.2 j o1 hj
  refine ⟨fun t x hx => (h.env t x hx).mono hkept, fun j o1 hj => ?_, fun j j' o1 o2 h1 h2 hne b hb1 => ?_, fun j o1 h1 b hb1 => ?_, fun b hb1 hp => ?_, h.low, Nat.le_trans h.size g.size, g.os.trans h.os, g.tape.trans h.tape, g.output.trans h.output, h.ag, h.defers, h.nt, h.glob.mono hkept⟩
  · by_cases e : j = k
    · subst e
      rw [upd1_self] at hj
      injection hj with hj
      subst hj
      exact ⟨(h.own j o hk).1, ho _ hkept⟩
    · rw [upd1_ne e] at hj
      have h3 := h.own j o1 hj
      exact ⟨h3.1, h3.2.mono hkept fun b hb1 => g.block b (h3.2.toO.lt b hb1) fun he => h.dis j k o1 o hj hk e b hb1 he.symm⟩
  · obtain ⟨o3, h3⟩ : ∃ o3, O j = some o3 := by
      by_cases e : j = k
      · subst e; exact ⟨_, hk⟩
      · rw [upd1_ne e] at h1; exact ⟨_, h1⟩
    obtain ⟨o4, h4⟩ : ∃ o4, O j' = some o4 := by
      by_cases e : j' = k
      · subst e; exact ⟨_, hk⟩
      · rw [upd1_ne e] at h2; exact ⟨_, h2⟩
    exact h.dis j j' o3 o4 h3 h4 hne b hb1
  · by_cases e : j = k
    · subst e
      rw [upd1_self] at h1
      injection h1 with h1
      subst h1
      rw [hfr]
      exact h.mine j o hk b hb1
    · rw [upd1_ne e] at h1
      exact h.mine j o1 h1 b hb1
  · refine (g.block b (Nat.lt_of_lt_of_le hb1 h.size) fun he => ?_).trans (h.frame b hb1 hp)
    rcases h.mine k o hk b he.symm with ⟨_, h1⟩ | h1
    · exact hp h1
    · omega

/-- An own object is forgotten: it is written no more. -/
theorem SRep.drop {k : Nat} (h : SRep c E O al nt a w σ) : SRep c E (upd1 O k none) al nt a w σ := by
  have hO : ∀ j o1, upd1 O k none j = some o1 → O j = some o1 := fun j o1 hj => by
    by_cases e : j = k
    · subst e; rw [upd1_self] at hj; cases hj
    · rwa [upd1_ne e] at hj
  have hkept : Kept w w (okk c O σ w) (okk c (upd1 O k none) σ w) := fun b hb => ⟨⟨hb.1, hb.2.1, fun j o1 hj => hb.2.2 j o1 (hO j o1 hj)⟩, rfl⟩
  exact ⟨fun t x hx => (h.env t x hx).mono hkept, fun j o1 hj => ⟨(h.own j o1 (hO j o1 hj)).1, (h.own j o1 (hO j o1 hj)).2.mono hkept fun _ _ => rfl⟩,
    fun j j' o1 o2 h1 h2 => h.dis j j' o1 o2 (hO _ _ h1) (hO _ _ h2), fun j o1 h1 => h.mine j o1 (hO _ _ h1), h.frame, h.low, h.size, h.os, h.tape, h.output, h.ag, h.defers, h.nt, h.glob.mono hkept⟩

/-- What was made here and is forgotten lies among what nobody writes. -/
theorem SRep.dropped {k : Nat} {o : Obj1} (h : SRep c E O al nt a w σ) (hk : O k = some o) (hfr : o.fr = true) : ∀ b, blkOf (σ k) = some b → okk c (upd1 O k none) σ w b := fun b hb => by
  refine ⟨(h.own k o hk).2.toO.lt b hb, ?_, fun j o1 hj he => ?_⟩
  · rcases h.mine k o hk b hb with ⟨h1, _⟩ | h1
    · rw [hfr] at h1; cases h1
    · exact .inr h1
  · by_cases e : j = k
    · subst e; rw [upd1_self] at hj; cases hj
    · rw [upd1_ne e] at hj
      exact h.dis j k o1 o hj hk e b he hb

def dropO (O : Nat → Option Obj1) (ks : List Nat) : Nat → Option Obj1 := fun j => if j ∈ ks then none else O j
theorem dropO_some {O : Nat → Option Obj1} {ks : List Nat} {j : Nat} {o : Obj1} (h : dropO O ks j = some o) : O j = some o ∧ j ∉ ks := by
  unfold dropO at h
  split at h
  · cases h
  · rename_i hn; exact ⟨h, hn⟩
theorem SRep.drops {ks : List Nat} (h : SRep c E O al nt a w σ) : SRep c E (dropO O ks) al nt a w σ := by
  have hO : ∀ j o1, dropO O ks j = some o1 → O j = some o1 := fun j o1 hj => (dropO_some hj).1
  have hkept : Kept w w (okk c O σ w) (okk c (dropO O ks) σ w) := fun b hb => ⟨⟨hb.1, hb.2.1, fun j o1 hj => hb.2.2 j o1 (hO j o1 hj)⟩, rfl⟩
  exact ⟨fun t x hx => (h.env t x hx).mono hkept, fun j o1 hj => ⟨(h.own j o1 (hO j o1 hj)).1, (h.own j o1 (hO j o1 hj)).2.mono hkept fun _ _ => rfl⟩,
    fun j j' o1 o2 h1 h2 => h.dis j j' o1 o2 (hO _ _ h1) (hO _ _ h2), fun j o1 h1 => h.mine j o1 (hO _ _ h1), h.frame, h.low, h.size, h.os, h.tape, h.output, h.ag, h.defers, h.nt, h.glob.mono hkept⟩
theorem SRep.drops_ok {ks : List Nat} {k : Nat} {o : Obj1} (h : SRep c E O al nt a w σ) (hk : O k = some o) (hfr : o.fr = true) (hm : k ∈ ks) : ∀ b, blkOf (σ k) = some b → okk c (dropO O ks) σ w b := fun b hb => by
  refine ⟨(h.own k o hk).2.toO.lt b hb, ?_, fun j o1 hj he => ?_⟩
  · rcases h.mine k o hk b hb with ⟨h1, _⟩ | h1
    · rw [hfr] at h1; cases h1
    · exact .inr h1
  · obtain ⟨h1, h2⟩ := dropO_some hj
    exact h.dis j k o1 o h1 hk (fun e => h2 (e ▸ hm)) b he hb

/-- An own object is forgotten, and another one takes its place: in its block, or in a new one. -/
theorem SRep.swap {k id : Nat} {o o' : Obj1} {v : Value} (h : SRep c E O al nt a w σ) (hk : O k = some o) (hid : ¬ al id) (g : Go1 w w' (blkOf (σ k)))
    (hb : ∀ b, blkOf v = some b → blkOf (σ k) = some b ∨ w.heap.size ≤ b) (hfr : o'.fr = o.fr)
    (ho : ∀ ok', Kept w w' (okk c O σ w) ok' → RepSO al w' ok' σ o' v) :
    SRep c E (upd1 (upd1 O k none) id (some o')) (fun j => al j ∨ j = id) nt a w' (updσ σ id v) := by
  have hne : k ≠ id := fun e => hid (e ▸ (h.own k o hk).1)
  have hσ : ∀ j, al j → updσ σ id v j = σ j := fun j hj => by
    have : j ≠ id := fun e => hid (e ▸ hj)
    simp [updσ, this]
  have hO : ∀ j o1, j ≠ id → upd1 (upd1 O k none) id (some o') j = some o1 → O j = some o1 ∧ j ≠ k := fun j o1 hj h1 => by
    rw [upd1_ne hj] at h1
    by_cases e : j = k
    · subst e; rw [upd1_self] at h1; cases h1
    · rw [upd1_ne e] at h1; exact ⟨h1, e⟩
  have hkept : Kept w w' (okk c O σ w) (okk c (upd1 (upd1 O k none) id (some o')) (updσ σ id v) w') := fun b hb' => by
    refine ⟨⟨Nat.lt_of_lt_of_le hb'.1 g.size, hb'.2.1, fun j o1 hj he => ?_⟩, g.block b hb'.1 fun e => hb'.2.2 k o hk e.symm⟩
    by_cases e : j = id
    · subst e
      simp [updσ] at he
      rcases hb b he with h1 | h1
      · exact hb'.2.2 k o hk h1
      · have := hb'.1
        omega
    · obtain ⟨h1, _⟩ := hO j o1 e hj
      rw [hσ j (h.own j o1 h1).1] at he
      exact hb'.2.2 j o1 h1 he
  have hblk : ∀ j o1, O j = some o1 → j ≠ k → ∀ b, blkOf (σ j) = some b → blkOf v ≠ some b := fun j o1 hj hjk b hb1 hb2 => by
    rcases hb b hb2 with h1 | h1
    · exact h.dis j k o1 o hj hk hjk b hb1 h1
    · have := (h.own j o1 hj).2.toO.lt b hb1
      omega
  refine ⟨fun t x hx => ((h.env t x hx).mono hkept).ext (fun _ h => .inl h) hσ, fun j o1 hj => ?_, fun j j' o1 o2 h1 h2 hjj b hb1 => ?_, fun j o1 h1 b hb1 => ?_, fun b hb1 hp => ?_, h.low, Nat.le_trans h.size g.size, g.os.trans h.os, g.tape.trans h.tape, g.output.trans h.output, fun j hj => ⟨.inl (h.ag j hj).1, (hσ j (h.ag j hj).1).trans (h.ag j hj).2⟩, h.defers, h.nt, h.glob.mono hkept⟩
  · by_cases e : j = id
    · subst e
      rw [upd1_self] at hj
      injection hj with hj
      subst hj
      refine ⟨.inr rfl, ?_⟩
      have := ((ho _ hkept).ext (al' := fun i => al i ∨ i = j) (fun _ h => .inl h) hσ)
      simpa [updσ] using this
    · obtain ⟨h1, h2⟩ := hO j o1 e hj
      have h3 := h.own j o1 h1
      refine ⟨.inl h3.1, ?_⟩
      rw [hσ j h3.1]
      exact (h3.2.mono hkept fun b hb1 => g.block b (h3.2.toO.lt b hb1) fun he => h.dis j k o1 o h1 hk h2 b hb1 he.symm).ext (fun _ h => .inl h) hσ
  · by_cases e1 : j = id
    · subst e1
      have e2 : j' ≠ j := fun e => hjj e.symm
      obtain ⟨h3, h4⟩ := hO j' o2 e2 h2
      rw [hσ j' (h.own j' o2 h3).1]
      simp [updσ] at hb1
      exact fun hb2 => hblk j' o2 h3 h4 b hb2 hb1
    · obtain ⟨h3, h4⟩ := hO j o1 e1 h1
      rw [hσ j (h.own j o1 h3).1] at hb1
      by_cases e2 : j' = id
      · subst e2
        simp [updσ]
        exact hblk j o1 h3 h4 b hb1
      · obtain ⟨h5, h6⟩ := hO j' o2 e2 h2
        rw [hσ j' (h.own j' o2 h5).1]
        exact h.dis j j' o1 o2 h3 h5 hjj b hb1
  · by_cases e1 : j = id
    · subst e1
      rw [upd1_self] at h1
      injection h1 with h1
      subst h1
      simp [updσ] at hb1
      rcases hb b hb1 with h3 | h3
      · rw [hfr]; exact h.mine k o hk b h3
      · exact .inr (Nat.le_trans h.size h3)
    · obtain ⟨h3, h4⟩ := hO j o1 e1 h1
      rw [hσ j (h.own j o1 h3).1] at hb1
      exact h.mine j o1 h3 b hb1
  · refine (g.block b (Nat.lt_of_lt_of_le hb1 h.size) fun he => ?_).trans (h.frame b hb1 hp)
    rcases h.mine k o hk b he.symm with ⟨_, h1⟩ | h1
    · exact hp h1
    · omega
end
end Go.Proofs.Ytopgjmoajkcdnaa

/- AbsA: Abs1, Abs2, Abs3, Abs4, Abs5, Abs6, Abs7, Abs8, Abs9, Abs10, Abs11, Abs12, AbsEq, Abs13, AbsM, AbsN. -/
import Derived.Calls
import Derived.Laws.OwnMore
import Derived.Below
import Derived.Orders
import Derived.Tactics
import Derived.Laws.IdiomCopy
import Derived.Laws.Entries
import Derived.Laws.Cells
import Derived.Laws.StructEq
import Derived.Laws.Tables
import Derived.Great.BuildSlice
import Derived.Laws.Slices
import Derived.Laws.BytesString
import Derived.Laws.Build
import Derived.Laws.BytesArg
import Derived.Lib.ConvBytes
import Derived.Lib.AppendZeros
import Derived.ChangeKeysEq
import Derived.Lib.OthersKept
/- Abstract data and what it says of the machine's memory. -/
namespace Go.Proofs.Ytpibdbjlilpfiaa
set_option linter.all false
open Go Go.RowKit

/-- Pure data: what a value says, memory that nobody writes any more included. -/
inductive D where
  | int (k : IntKind) (n : Int)
  | bool (b : Bool)
  | str (s : ByteArray)
  | agg (cs : List D)
  | tup (cs : List D)
  | slice (xs : List (List D))
  | addr (cs : List D)
  | iface (t : TypeId) (x : D)
  | nils
  | nilif
  | nilp
  | fn (f : FuncId) (first caps : List D)
  | nilfn
  | anyb
  | mapv (m : Nat)
  | nilm

/-- A value and memory say this datum; all blocks that it lies in are among 'ok'. -/
inductive Rep (w : World) (ok : Nat → Prop) : D → Value → Prop
  | int (k : IntKind) (n : Int) : Rep w ok (.int k n) (.int k n)
  | bool (b : Bool) : Rep w ok (.bool b) (.bool b)
  | str (s : ByteArray) (h : s.size ≤ maxLen) : Rep w ok (.str s) (.string s)
  | agg (cs : List D) (vs : List Value) (hl : vs.length = cs.length) (h : ∀ (i : Nat) c v, cs[i]? = some c → vs[i]? = some v → Rep w ok c v)
      (h1 : ∀ v ∈ vs, v.oneCell' = true) : Rep w ok (.agg cs) (.agg vs.toArray)
  | tup (cs : List D) (vs : List Value) (hl : vs.length = cs.length) (h : ∀ (i : Nat) c v, cs[i]? = some c → vs[i]? = some v → Rep w ok c v) :
      Rep w ok (.tup cs) (.tuple vs.toArray)
  | nils : Rep w ok .nils (.slice none 0 0)
  | nil : Rep w ok (.slice []) (.slice none 0 0)
  | empty (a : Addr) (cap : Nat) : Rep w ok (.slice []) (.slice (some a) 0 cap)
  | slice (xs : List (List D)) (b off cap sz : Nat) (f : Nat → Value) (hok : ok b) (hcap : xs.length ≤ cap) (hmax : xs.length ≤ maxLen) (hsz : ∀ x ∈ xs, x.length = sz)
      (hc : ∀ i, i < xs.flatten.length → w.cell? ⟨b, off + i, none⟩ = some (f i)) (h1 : ∀ i, (f i).oneCell' = true)
      (h : ∀ (i : Nat) c, xs.flatten[i]? = some c → Rep w ok c (f i)) : Rep w ok (.slice xs) (.slice (some ⟨b, off, none⟩) xs.length cap)
  | addr (cs : List D) (b off : Nat) (f : Nat → Value) (hok : ok b)
      (hc : ∀ i, i < cs.length → w.cell? ⟨b, off + i, none⟩ = some (f i)) (h1 : ∀ i, (f i).oneCell' = true)
      (h : ∀ (i : Nat) c, cs[i]? = some c → Rep w ok c (f i)) : Rep w ok (.addr cs) (.pointer (some ⟨b, off, none⟩))
  | iface (t : TypeId) (x : D) (v : Value) (h : Rep w ok x v) : Rep w ok (.iface t x) (.iface t v)
  | nilif : Rep w ok .nilif .nilIface
  | nilp : Rep w ok .nilp (.pointer none)
  | fn (f : FuncId) (first caps : List D) (fs cs : List Value) (hf : fs.length = first.length) (hc : cs.length = caps.length)
      (h1 : ∀ (i : Nat) c v, first[i]? = some c → fs[i]? = some v → Rep w ok c v) (h2 : ∀ (i : Nat) c v, caps[i]? = some c → cs[i]? = some v → Rep w ok c v) :
      Rep w ok (.fn f first caps) (.func (.func f) fs.toArray cs.toArray)
  | nilfn : Rep w ok .nilfn .nilFunc
  | anyb (b : Bool) : Rep w ok .anyb (.bool b)
  | mapv (m : Nat) : Rep w ok (.mapv m) (.map (some m))
  | nilm : Rep w ok .nilm (.map none)

/-- What is kept: the blocks of 'ok' are as they were, and still ok. -/
def Kept (w w' : World) (ok ok' : Nat → Prop) : Prop := ∀ b, ok b → ok' b ∧ w'.heap[b]? = w.heap[b]?

theorem Kept.refl (w : World) (ok : Nat → Prop) : Kept w w ok ok := fun _ h => ⟨h, rfl⟩
theorem Kept.trans {a b c : World} {x y z : Nat → Prop} (h : Kept a b x y) (k : Kept b c y z) : Kept a c x z := fun i hi =>
  let ⟨h1, h2⟩ := h i hi
  let ⟨k1, k2⟩ := k i h1
  ⟨k1, k2.trans h2⟩

theorem Rep.mono {w w' : World} {ok ok' : Nat → Prop} (hk : Kept w w' ok ok') {x : D} {v : Value} (h : Rep w ok x v) : Rep w' ok' x v := by
  induction h with
  | int k n => exact .int k n
  | bool b => exact .bool b
  | str s h => exact .str s h
  | agg cs vs hl _ h1 ih => exact .agg cs vs hl ih h1
  | tup cs vs hl _ ih => exact .tup cs vs hl ih
  | nils => exact .nils
  | nil => exact .nil
  | empty a cap => exact .empty a cap
  | slice xs b off cap sz f hok hcap hmax hsz hc h1 _ ih =>
    exact .slice xs b off cap sz f (hk b hok).1 hcap hmax hsz (fun i hi => (World.cell?_of_block (hk b hok).2).trans (hc i hi)) h1 ih
  | addr cs b off f hok hc h1 _ ih =>
    exact .addr cs b off f (hk b hok).1 (fun i hi => (World.cell?_of_block (hk b hok).2).trans (hc i hi)) h1 ih
  | iface t x v _ ih => exact .iface t x v ih
  | nilif => exact .nilif
  | nilp => exact .nilp
  | fn f first caps fs cs hf hc _ _ ih1 ih2 => exact .fn f first caps fs cs hf hc ih1 ih2
  | nilfn => exact .nilfn
  | anyb b => exact .anyb b
  | mapv m => exact .mapv m
  | nilm => exact .nilm

/-- What a frame's slot holds: a datum, an own row (its slice value), a pointer into an own block, a struct of such cells, a tuple. -/
inductive AV where
  | d (x : D)
  | own (k : Nat)
  | ref (k off : Nat)
  | elt (k sz j o : Nat)
  | agg (cs : List AV)
  | tup (cs : List AV)

def blkOf : Value → Option Nat
  | .pointer (some a) => some a.block
  | .slice (some a) _ _ => some a.block
  | .map (some r) => some r
  | _ => none

inductive RepA (w : World) (ok : Nat → Prop) (σ : Nat → Value) : AV → Value → Prop
  | d (x : D) (v : Value) (h : Rep w ok x v) : RepA w ok σ (.d x) v
  | own (k : Nat) : RepA w ok σ (.own k) (σ k)
  | ref (k off b : Nat) (h : blkOf (σ k) = some b) : RepA w ok σ (.ref k off) (.pointer (some ⟨b, off, none⟩))
  | elt (k sz j o b : Nat) (h : blkOf (σ k) = some b) : RepA w ok σ (.elt k sz j o) (.pointer (some ⟨b, j * sz + o, none⟩))
  | agg (cs : List AV) (vs : List Value) (hl : vs.length = cs.length) (h : ∀ (i : Nat) c v, cs[i]? = some c → vs[i]? = some v → RepA w ok σ c v)
      (h1 : ∀ v ∈ vs, v.oneCell' = true) : RepA w ok σ (.agg cs) (.agg vs.toArray)
  | tup (cs : List AV) (vs : List Value) (hl : vs.length = cs.length) (h : ∀ (i : Nat) c v, cs[i]? = some c → vs[i]? = some v → RepA w ok σ c v) :
      RepA w ok σ (.tup cs) (.tuple vs.toArray)

theorem RepA.mono {w w' : World} {ok ok' : Nat → Prop} {σ : Nat → Value} (hk : Kept w w' ok ok') {x : AV} {v : Value} (h : RepA w ok σ x v) : RepA w' ok' σ x v := by
  induction h with
  | d x v h => exact .d x v (h.mono hk)
  | own k => exact .own k
  | ref k off b h => exact .ref k off b h
  | elt k sz j o b h => exact .elt k sz j o b h
  | agg cs vs hl _ h1 ih => exact .agg cs vs hl ih h1
  | tup cs vs hl _ ih => exact .tup cs vs hl ih

/-- An own object: a block of cells (a variable); a row of elements of 'sz' cells; what ranges over a string; a map. -/
inductive Obj1 where
  | box (fr : Bool) (cs : List AV)
  | row (fr : Bool) (t : TypeId) (sz : Nat) (xs : List (List D))
  | iter (s : ByteArray) (pos : Nat)
  | map (es : List (D × D))

/-- Was it made in this call, or is it one that was handed in to be written: the box, or a row? -/
inductive Fr where
  | own | pbox | prow
def Obj1.fr : Obj1 → Fr
  | .box f _ => bif f then .own else .pbox
  | .row f _ _ _ => bif f then .own else .prow
  | .iter .. => .own
  | .map _ => .own

inductive RepO (w : World) (ok : Nat → Prop) (σ : Nat → Value) : Obj1 → Value → Prop
  | box (fr : Bool) (cs : List AV) (b : Nat) (t : TypeId) (vs : List Value) (hb : w.heap[b]? = some (.cells vs.toArray t (0, 0))) (hl : vs.length = cs.length)
      (h1 : ∀ v ∈ vs, v.oneCell' = true) (h : ∀ (i : Nat) c v, cs[i]? = some c → vs[i]? = some v → RepA w ok σ c v) : RepO w ok σ (.box fr cs) (.pointer (some ⟨b, 0, none⟩))
  | row (fr : Bool) (t : TypeId) (sz : Nat) (xs : List (List D)) (v : Value) (vs : List Value) (ho : w.ownsRow 0 t sz v xs.length vs) (hpos : 0 < sz) (hmax : xs.length ≤ maxLen) (hsz : ∀ x ∈ xs, x.length = sz)
      (h1 : ∀ v ∈ vs, v.oneCell' = true) (h : ∀ (i : Nat) c v, xs.flatten[i]? = some c → vs[i]? = some v → Rep w ok c v) : RepO w ok σ (.row fr t sz xs) v
  | iter (s : ByteArray) (pos b : Nat) (hb : w.heap[b]? = some (.stringIter s pos)) : RepO w ok σ (.iter s pos) (.pointer (some ⟨b, 0, none⟩))
  | map (es : List (D × D)) (b cl : Nat) (ms : Array MapEntry) (hb : w.heap[b]? = some (.map ms cl)) (hl : ms.size = es.length)
      (h : ∀ (i : Nat) e m, es[i]? = some e → ms[i]? = some m → Rep w ok e.1 m.key ∧ Rep w ok e.2 m.val) : RepO w ok σ (.map es) (.map (some b))

/-- An own object that is kept, and all that it leads to. -/
theorem RepO.mono {w w' : World} {ok ok' : Nat → Prop} {σ : Nat → Value} {o : Obj1} {v : Value} (hk : Kept w w' ok ok') (hb : ∀ b, blkOf v = some b → w'.heap[b]? = w.heap[b]?) (h : RepO w ok σ o v) : RepO w' ok' σ o v := by
  cases h with
  | box fr cs b t vs h0 hl h1 h => exact .box fr cs b t vs ((hb b rfl).trans h0) hl h1 (fun i c v hc hv => (h i c v hc hv).mono hk)
  | row fr t sz xs v vs ho hpos hmax hsz h1 h =>
    refine .row fr t sz xs v vs ⟨ho.1, ?_⟩ hpos hmax hsz h1 (fun i c v hc hv => (h i c v hc hv).mono hk)
    rcases ho.2 with hn | ⟨g, cap, cur, rfl, hg, hgg, rest⟩
    · exact .inl hn
    · exact .inr ⟨g, cap, cur, rfl, hg, (hb g rfl).trans hgg, rest⟩
  | iter s pos b h0 => exact .iter s pos b ((hb b rfl).trans h0)
  | map es b cl ms h0 hl h => exact .map es b cl ms ((hb b rfl).trans h0) hl (fun i e m he hm => ⟨(h i e m he hm).1.mono hk, (h i e m he hm).2.mono hk⟩)

theorem RepO.lt {w : World} {ok : Nat → Prop} {σ : Nat → Value} {o : Obj1} {v : Value} (h : RepO w ok σ o v) : ∀ b, blkOf v = some b → b < w.heap.size := by
  cases h with
  | box fr cs b t vs h0 hl h1 h =>
    intro b' hb
    simp only [blkOf, Option.some.injEq] at hb
    subst hb
    exact (Array.getElem?_eq_some_iff.1 h0).1
  | row fr t sz xs v vs ho hpos hmax hsz h1 h =>
    intro b hb
    rcases ho.2 with ⟨rfl, _⟩ | ⟨g, cap, cur, rfl, _, hgg, _⟩
    · simp [blkOf] at hb
    · simp only [blkOf, Option.some.injEq] at hb
      subst hb
      exact (Array.getElem?_eq_some_iff.1 hgg).1
  | iter s pos b h0 =>
    intro b' hb
    simp only [blkOf, Option.some.injEq] at hb
    subst hb
    exact (Array.getElem?_eq_some_iff.1 h0).1
  | map es b cl ms h0 hl h =>
    intro b' hb
    simp only [blkOf, Option.some.injEq] at hb
    subst hb
    exact (Array.getElem?_eq_some_iff.1 h0).1
end Go.Proofs.Ytpibdbjlilpfiaa
/- The abstract state of a call, and what it says of the frame and the world; how steps of the world turn it. -/
namespace Go.Proofs.Ytpibdbjlilpfiaa
set_option linter.all false
open Go Go.RowKit

/-- Whatever the places of what isn't allotted yet. -/
def RepS (al : Nat → Prop) (w : World) (ok : Nat → Prop) (σ : Nat → Value) (x : AV) (v : Value) : Prop := ∀ σ' : Nat → Value, (∀ k, al k → σ' k = σ k) → RepA w ok σ' x v
def RepSO (al : Nat → Prop) (w : World) (ok : Nat → Prop) (σ : Nat → Value) (o : Obj1) (v : Value) : Prop := ∀ σ' : Nat → Value, (∀ k, al k → σ' k = σ k) → RepO w ok σ' o v

section
variable {al al' : Nat → Prop} {w w' : World} {ok ok' : Nat → Prop} {σ σ' : Nat → Value} {x : AV} {v : Value} {o : Obj1}
theorem RepS.toA (h : RepS al w ok σ x v) : RepA w ok σ x v := h σ fun _ _ => rfl
theorem RepSO.toO (h : RepSO al w ok σ o v) : RepO w ok σ o v := h σ fun _ _ => rfl
theorem RepS.mono (hk : Kept w w' ok ok') (h : RepS al w ok σ x v) : RepS al w' ok' σ x v := fun σ' hs => (h σ' hs).mono hk
theorem RepSO.mono (hk : Kept w w' ok ok') (hb : ∀ b, blkOf v = some b → w'.heap[b]? = w.heap[b]?) (h : RepSO al w ok σ o v) : RepSO al w' ok' σ o v := fun σ' hs => (h σ' hs).mono hk hb
theorem RepS.ext (ha : ∀ k, al k → al' k) (hs : ∀ k, al k → σ' k = σ k) (h : RepS al w ok σ x v) : RepS al' w ok σ' x v := fun τ ht => h τ fun k hk => (ht k (ha k hk)).trans (hs k hk)
theorem RepSO.ext (ha : ∀ k, al k → al' k) (hs : ∀ k, al k → σ' k = σ k) (h : RepSO al w ok σ o v) : RepSO al' w ok σ' o v := fun τ ht => h τ fun k hk => (ht k (ha k hk)).trans (hs k hk)
theorem RepS.of_d {x : D} (h : Rep w ok x v) : RepS al w ok σ (.d x) v := fun _ _ => .d x v h
theorem RepA.d_inv {x : D} (h : RepA w ok σ (.d x) v) : Rep w ok x v := by cases h with | d _ _ h => exact h
theorem RepS.d_inv {x : D} (h : RepS al w ok σ (.d x) v) : Rep w ok x v := h.toA.d_inv
theorem RepA.own_inv {k : Nat} (h : RepA w ok σ (.own k) v) : v = σ k := by cases h; rfl
theorem RepA.ref_inv {k off : Nat} (h : RepA w ok σ (.ref k off) v) : ∃ b, blkOf (σ k) = some b ∧ v = .pointer (some ⟨b, off, none⟩) := by
  cases h with | ref _ _ b h => exact ⟨b, h, rfl⟩
theorem RepA.elt_inv {k sz j o : Nat} (h : RepA w ok σ (.elt k sz j o) v) : ∃ b, blkOf (σ k) = some b ∧ v = .pointer (some ⟨b, j * sz + o, none⟩) := by
  cases h with | elt _ _ _ _ b h => exact ⟨b, h, rfl⟩
end

/-- What a list of pairs holds at a key. -/
def look {α : Type} : List (Nat × α) → Nat → Option α
  | [], _ => none
  | (k, x) :: r, t => if k = t then some x else look r t

/-- A map that is a memory: its block, and what each of its entries says. -/
structure Memo where
  m : Nat
  I : D → D → Prop
  pres : Option (D × D) := none
  abs : Option D := none
/-- Package-level variables that hold known data, and are written no more; and perhaps a memory. -/
structure GL where
  vars : List (Nat × List D)
  memo : Option Memo
instance : Coe (List (Nat × List D)) GL := ⟨fun l => ⟨l, none⟩⟩
def GL.tgt (gl : GL) : Option Nat := gl.memo.map Memo.m
theorem GL.tgt_ne {gl : GL} {b : Nat} (h : ∀ M, gl.memo = some M → M.m ≠ b) : some b ≠ gl.tgt := by
  unfold GL.tgt
  cases hm : gl.memo with
  | none => simp
  | some M => simp; exact fun e => h M hm e.symm
def MemoOk (M : Memo) (w : World) (ok : Nat → Prop) : Prop := ∃ (ms : Array MapEntry) (cl : Nat), w.heap[M.m]? = some (.map ms cl) ∧ (∀ (i : Nat) e, ms[i]? = some e → ∃ k d, M.I k d ∧ M.abs ≠ some k ∧ Rep w ok k e.key ∧ Rep w ok d e.val) ∧ ∀ k d, M.pres = some (k, d) → ∃ (i : Nat) (e : MapEntry), ms[i]? = some e ∧ Rep w ok k e.key ∧ Rep w ok d e.val
theorem MemoOk.mono {M : Memo} {w w' : World} {ok ok' : Nat → Prop} (hk : Kept w w' ok ok') (hm : w'.heap[M.m]? = w.heap[M.m]?) (h : MemoOk M w ok) : MemoOk M w' ok' := by
  obtain ⟨ms, cl, h1, h2, h3⟩ := h
  exact ⟨ms, cl, hm.trans h1, fun i e he => by
    obtain ⟨k, d, q1, q0, q2, q3⟩ := h2 i e he
    exact ⟨k, d, q1, q0, q2.mono hk, q3.mono hk⟩, fun k d hp => by
    obtain ⟨i, e, q1, q2, q3⟩ := h3 k d hp
    exact ⟨i, e, q1, q2.mono hk, q3.mono hk⟩⟩
structure Glob (gl : GL) (w : World) (ok : Nat → Prop) : Prop where
  var : ∀ g cs, look gl.vars g = some cs → Rep w ok (.addr cs) (.pointer (some ⟨g, 0, none⟩))
  memo : ∀ M, gl.memo = some M → MemoOk M w ok ∧ M.m < w.heap.size ∧ ¬ ok M.m
theorem Glob.mono {gl : GL} {w w' : World} {ok ok' : Nat → Prop} (hk : Kept w w' ok ok') (hm : ∀ M, gl.memo = some M → w'.heap[M.m]? = w.heap[M.m]? ∧ ¬ ok' M.m) (h : Glob gl w ok) : Glob gl w' ok' := ⟨fun g cs hg => (h.var g cs hg).mono hk, fun M hM => by
  obtain ⟨h1, h2, h3⟩ := h.memo M hM
  obtain ⟨k1, k2⟩ := hm M hM
  refine ⟨h1.mono hk k1, ?_, k2⟩
  obtain ⟨ms, cl, e, _⟩ := h1
  exact (Array.getElem?_eq_some_iff.1 (k1.trans e)).1⟩

/-- What a call began with. -/
structure Ctx where
  gl : GL
  w0 : World
  ok0 : Nat → Prop
  pass : Nat → Prop
  σ0 : Nat → Value
  al0 : Nat → Prop
  pb : Nat → Prop
  dfs : List Deferred := []

/-- The blocks that nobody writes any more. -/
def okk (c : Ctx) (O : Nat → Option Obj1) (σ : Nat → Value) (w : World) : Nat → Prop := fun b =>
  b < w.heap.size ∧ (c.ok0 b ∨ c.w0.heap.size ≤ b) ∧ ∀ k o, O k = some o → blkOf (σ k) ≠ some b

structure SRep (c : Ctx) (E : Nat → Option AV) (O : Nat → Option Obj1) (al : Nat → Prop) (nt : Nat) (a : Act) (w : World) (σ : Nat → Value) : Prop where
  env : ∀ t x, E t = some x → RepS al w (okk c O σ w) σ x (a.tmps.getD t undef)
  own : ∀ k o, O k = some o → al k ∧ RepSO al w (okk c O σ w) σ o (σ k)
  dis : ∀ k k' o o', O k = some o → O k' = some o' → k ≠ k' → ∀ b, blkOf (σ k) = some b → blkOf (σ k') ≠ some b
  mine : ∀ k o, O k = some o → ∀ b, blkOf (σ k) = some b → (o.fr ≠ .own ∧ c.pass b ∧ (o.fr = .pbox → c.pb b)) ∨ (c.w0.heap.size ≤ b ∧ o.fr ≠ .pbox)
  frame : ∀ b, b < c.w0.heap.size → ¬ c.pass b → (∀ M, c.gl.memo = some M → M.m ≠ b) → w.heap[b]? = c.w0.heap[b]?
  low : ∀ b, c.ok0 b → b < c.w0.heap.size ∧ ¬ c.pass b
  mlow : ∀ M, c.gl.memo = some M → M.m < c.w0.heap.size ∧ ¬ c.ok0 M.m ∧ ¬ c.pass M.m
  size : c.w0.heap.size ≤ w.heap.size
  os : w.os = c.w0.os
  tape : w.tape = c.w0.tape
  output : w.output = c.w0.output
  ag : ∀ k, c.al0 k → al k ∧ σ k = c.σ0 k
  defers : a.defers = c.dfs
  nt : a.tmps.size = nt
  glob : Glob c.gl w (okk c O σ w)

/-- A step of the world that turns no block that was there, but perhaps one. -/
structure Go1 (w w' : World) (T : Option Nat) : Prop where
  os : w'.os = w.os
  tape : w'.tape = w.tape
  output : w'.output = w.output
  size : w.heap.size ≤ w'.heap.size
  block : ∀ b, b < w.heap.size → some b ≠ T → w'.heap[b]? = w.heap[b]?

theorem Go1.refl (w : World) (T : Option Nat) : Go1 w w T := ⟨rfl, rfl, rfl, Nat.le_refl _, fun _ _ _ => rfl⟩
theorem Go1.of_grown {w w' : World} {T : Option Nat} (h : w.grownBy w' T) : Go1 w w' T := ⟨h.os, h.tape, h.output, h.size, h.block⟩
theorem Go1.alloc (w : World) (o : Obj) (T : Option Nat) : Go1 w (w.alloc o) T := .of_grown (World.grownBy_alloc w o T)
theorem Go1.setCell (w : World) (p : Addr) (v : Value) : Go1 w (w.setCell p v) (some p.block) := ⟨rfl, rfl, rfl, by simp, fun k _ hk => heap_setCell_other w p k v (fun e => hk (by rw [e]))⟩
theorem Go1.drew (w : World) (T : Option Nat) : Go1 w w.drew T := ⟨rfl, rfl, rfl, Nat.le_refl _, fun _ _ _ => rfl⟩
theorem Go1.trans {a b c : World} {T : Option Nat} (h : Go1 a b T) (k : Go1 b c T) : Go1 a c T :=
  ⟨k.os.trans h.os, k.tape.trans h.tape, k.output.trans h.output, Nat.le_trans h.size k.size, fun i hi hT => (k.block i (Nat.lt_of_lt_of_le hi h.size) hT).trans (h.block i hi hT)⟩

def upd1 {α : Type} (f : Nat → Option α) (k : Nat) (x : Option α) : Nat → Option α := fun j => if j = k then x else f j
def updσ (σ : Nat → Value) (k : Nat) (v : Value) : Nat → Value := fun j => if j = k then v else σ j
theorem upd1_self {α : Type} {f : Nat → Option α} {k : Nat} {x : Option α} : upd1 f k x k = x := by simp [upd1]
theorem upd1_ne {α : Type} {f : Nat → Option α} {k j : Nat} {x : Option α} (h : j ≠ k) : upd1 f k x j = f j := by simp [upd1, h]

section
variable {c : Ctx} {E : Nat → Option AV} {O : Nat → Option Obj1} {al : Nat → Prop} {nt : Nat} {a : Act} {w w' : World} {σ : Nat → Value}

theorem mlow_ok (hl : ∀ M, c.gl.memo = some M → M.m < c.w0.heap.size ∧ ¬ c.ok0 M.m ∧ ¬ c.pass M.m) : ∀ M, c.gl.memo = some M → ¬ okk c O σ w M.m := fun M hM h => by
  rcases h.2.1 with h1 | h1
  · exact (hl M hM).2.1 h1
  · have := (hl M hM).1
    omega
theorem SRep.own_ne {k : Nat} {o : Obj1} (h : SRep c E O al nt a w σ) (ho : O k = some o) : ∀ M, c.gl.memo = some M → blkOf (σ k) ≠ some M.m := fun M hM e => by
  obtain ⟨h1, h2, h3⟩ := h.mlow M hM
  rcases h.mine k o ho _ e with ⟨_, h4, _⟩ | ⟨h4, _⟩
  · exact h3 h4
  · omega
theorem SRep.gstep {O' : Nat → Option Obj1} {σ' : Nat → Value} (h : SRep c E O al nt a w σ) (hk : Kept w w' (okk c O σ w) (okk c O' σ' w')) (hm : ∀ M, c.gl.memo = some M → w'.heap[M.m]? = w.heap[M.m]?) : Glob c.gl w' (okk c O' σ' w') := h.glob.mono hk fun M hM => ⟨hm M hM, mlow_ok h.mlow M hM⟩
theorem SRep.mkeep (h : SRep c E O al nt a w σ) (g : Go1 w w' none) : ∀ M, c.gl.memo = some M → w'.heap[M.m]? = w.heap[M.m]? := fun M hM => g.block M.m (h.glob.memo M hM).2.1 (by simp)
theorem SRep.mkeepT {k : Nat} {o : Obj1} (h : SRep c E O al nt a w σ) (ho : O k = some o) (g : Go1 w w' (blkOf (σ k))) : ∀ M, c.gl.memo = some M → w'.heap[M.m]? = w.heap[M.m]? := fun M hM => g.block M.m (h.glob.memo M hM).2.1 fun e => h.own_ne ho M hM e.symm
theorem SRep.ok_lt (_h : SRep c E O al nt a w σ) : ∀ b, okk c O σ w b → b < w.heap.size := fun _ h => h.1

/-- Nothing owned is touched. -/
theorem SRep.grow (h : SRep c E O al nt a w σ) (g : Go1 w w' none) : SRep c E O al nt a w' σ := by
  have hk : Kept w w' (okk c O σ w) (okk c O σ w') := fun b hb => ⟨⟨Nat.lt_of_lt_of_le hb.1 g.size, hb.2⟩, g.block b hb.1 (by simp)⟩
  refine ⟨fun t x hx => (h.env t x hx).mono hk, fun k o ho => ⟨(h.own k o ho).1, (h.own k o ho).2.mono hk fun b hb => g.block b ((h.own k o ho).2.toO.lt b hb) (by simp)⟩, h.dis, h.mine, fun b hb hp hn => (g.block b (Nat.lt_of_lt_of_le hb h.size) (by simp)).trans (h.frame b hb hp hn), h.low, h.mlow, Nat.le_trans h.size g.size, g.os.trans h.os, g.tape.trans h.tape, g.output.trans h.output, h.ag, h.defers, h.nt, h.gstep hk (h.mkeep g)⟩

/-- Nothing owned is touched; a memory may be. -/
theorem SRep.growM (h : SRep c E O al nt a w σ) (g : Go1 w w' c.gl.tgt) (hg : ∀ ok', (∀ M, c.gl.memo = some M → ¬ ok' M.m) → (∀ b, b < w'.heap.size → okk c O σ w b ∨ w.heap.size ≤ b → ok' b) → Glob c.gl w' ok') : SRep c E O al nt a w' σ := by
  have hne : ∀ b, okk c O σ w b → some b ≠ c.gl.tgt := fun b hb => GL.tgt_ne fun M hM e => mlow_ok h.mlow M hM (e ▸ hb)
  have hk : Kept w w' (okk c O σ w) (okk c O σ w') := fun b hb => ⟨⟨Nat.lt_of_lt_of_le hb.1 g.size, hb.2⟩, g.block b hb.1 (hne b hb)⟩
  have hO : ∀ k o, O k = some o → ∀ b, blkOf (σ k) = some b → w'.heap[b]? = w.heap[b]? := fun k o ho b hb => g.block b ((h.own k o ho).2.toO.lt b hb) (GL.tgt_ne fun M hM e => h.own_ne ho M hM (e ▸ hb))
  refine ⟨fun t x hx => (h.env t x hx).mono hk, fun k o ho => ⟨(h.own k o ho).1, (h.own k o ho).2.mono hk (hO k o ho)⟩, h.dis, h.mine, fun b hb hp hn => (g.block b (Nat.lt_of_lt_of_le hb h.size) (GL.tgt_ne hn)).trans (h.frame b hb hp hn), h.low, h.mlow, Nat.le_trans h.size g.size, g.os.trans h.os, g.tape.trans h.tape, g.output.trans h.output, h.ag, h.defers, h.nt, hg _ (mlow_ok h.mlow) fun b hb h1 => ?_⟩
  rcases h1 with h1 | h1
  · exact ⟨hb, h1.2⟩
  · exact ⟨hb, .inr (Nat.le_trans h.size h1), fun k o ho he => by have := (h.own k o ho).2.toO.lt b he; omega⟩

/-- Less is known. -/
theorem SRep.less {E' : Nat → Option AV} (h : SRep c E O al nt a w σ) (hE : ∀ t x, E' t = some x → E t = some x) : SRep c E' O al nt a w σ :=
  ⟨fun t x hx => h.env t x (hE t x hx), h.own, h.dis, h.mine, h.frame, h.low, h.mlow, h.size, h.os, h.tape, h.output, h.ag, h.defers, h.nt, h.glob⟩

/-- A slot is filled. -/
theorem SRep.put {d : Nat} {x : AV} {v : Value} (h : SRep c E O al nt a w σ) (hd : d < nt) (hx : RepS al w (okk c O σ w) σ x v) : SRep c (upd1 E d (some x)) O al nt (a.put (some d) v) w σ := by
  have hd' : d < a.tmps.size := by rw [h.nt]; exact hd
  refine ⟨fun t y hy => ?_, h.own, h.dis, h.mine, h.frame, h.low, h.mlow, h.size, h.os, h.tape, h.output, h.ag, h.defers, by simpa [Act.put] using h.nt, h.glob⟩
  by_cases ht : t = d
  · subst ht
    rw [upd1_self] at hy
    injection hy with hy
    subst hy
    simpa [Act.put, hd'] using hx
  · rw [upd1_ne ht] at hy
    have := h.env t y hy
    have he : (a.put (some d) v).tmps.getD t undef = a.tmps.getD t undef := by
      simp [Act.put, Array.getElem?_setIfInBounds_ne (Ne.symm ht)]
    rw [he]
    exact this

/-- A slot is emptied. -/
theorem SRep.wipe {d : Nat} {v : Value} (h : SRep c E O al nt a w σ) : SRep c (upd1 E d none) O al nt (a.put (some d) v) w σ := by
  refine ⟨fun t y hy => ?_, h.own, h.dis, h.mine, h.frame, h.low, h.mlow, h.size, h.os, h.tape, h.output, h.ag, h.defers, by simpa [Act.put] using h.nt, h.glob⟩
  by_cases ht : t = d
  · subst ht
    rw [upd1_self] at hy
    cases hy
  · rw [upd1_ne ht] at hy
    have := h.env t y hy
    have he : (a.put (some d) v).tmps.getD t undef = a.tmps.getD t undef := by
      simp [Act.put, Array.getElem?_setIfInBounds_ne (Ne.symm ht)]
    rw [he]
    exact this

/-- A new own object. -/
theorem SRep.new {id : Nat} {o : Obj1} {v : Value} (h : SRep c E O al nt a w σ) (g : Go1 w w' none) (hid : ¬ al id)
    (hb : ∀ b, blkOf v = some b → w.heap.size ≤ b)
    (ho : ∀ ok', Kept w w' (okk c O σ w) ok' → RepSO al w' ok' σ o v) (hfr : o.fr = .own := by rfl) :
    SRep c E (upd1 O id (some o)) (fun k => al k ∨ k = id) nt a w' (updσ σ id v) := by
  have hO : O id = none := by
    cases hh : O id with
    | none => rfl
    | some o' => exact absurd (h.own id o' hh).1 hid
  have hσ : ∀ k, al k → updσ σ id v k = σ k := fun k hk => by
    have : k ≠ id := fun e => hid (e ▸ hk)
    simp [updσ, this]
  have hk : Kept w w' (okk c O σ w) (okk c (upd1 O id (some o)) (updσ σ id v) w') := fun b hb' => by
    refine ⟨⟨Nat.lt_of_lt_of_le hb'.1 g.size, hb'.2.1, fun k o' hko he => ?_⟩, g.block b hb'.1 (by simp)⟩
    by_cases hkid : k = id
    · subst hkid
      simp [updσ] at he
      have := hb b he
      have := hb'.1
      omega
    · rw [upd1_ne hkid] at hko
      simp [updσ, hkid] at he
      exact hb'.2.2 k o' hko he
  refine ⟨fun t x hx => ((h.env t x hx).mono hk).ext (fun _ h => .inl h) hσ, fun k o' hko => ?_, fun k k' o1 o2 h1 h2 hne b hb1 => ?_, fun k o1 h1 b hb1 => ?_, fun b hb1 hp hn => (g.block b (Nat.lt_of_lt_of_le hb1 h.size) (by simp)).trans (h.frame b hb1 hp hn), h.low, h.mlow, Nat.le_trans h.size g.size, g.os.trans h.os, g.tape.trans h.tape, g.output.trans h.output, fun k hk => ⟨.inl (h.ag k hk).1, (hσ k (h.ag k hk).1).trans (h.ag k hk).2⟩, h.defers, h.nt, h.gstep hk (h.mkeep g)⟩
  · by_cases hkid : k = id
    · subst hkid
      rw [upd1_self] at hko
      injection hko with hko
      subst hko
      refine ⟨.inr rfl, ?_⟩
      have := ((ho _ hk).ext (al' := fun j => al j ∨ j = k) (fun _ h => .inl h) hσ)
      simpa [updσ] using this
    · rw [upd1_ne hkid] at hko
      have h3 := h.own k o' hko
      refine ⟨.inl h3.1, ?_⟩
      rw [hσ k h3.1]
      exact (h3.2.mono hk fun b hb1 => g.block b (h3.2.toO.lt b hb1) (by simp)).ext (fun _ h => .inl h) hσ
  · by_cases e1 : k = id
    · subst e1
      have e2 : k' ≠ k := fun e => hne e.symm
      rw [upd1_ne e2] at h2
      have h3 := h.own k' o2 h2
      rw [hσ k' h3.1]
      simp [updσ] at hb1
      intro hb2
      have := hb b hb1
      have := h3.2.toO.lt b hb2
      omega
    · rw [upd1_ne e1] at h1
      have h4 := h.own k o1 h1
      rw [hσ k h4.1] at hb1
      by_cases e2 : k' = id
      · subst e2
        simp [updσ]
        intro hb2
        have := hb b hb2
        have := h4.2.toO.lt b hb1
        omega
      · rw [upd1_ne e2] at h2
        have h3 := h.own k' o2 h2
        rw [hσ k' h3.1]
        exact h.dis k k' o1 o2 h1 h2 hne b hb1
  · by_cases e1 : k = id
    · subst e1
      rw [upd1_self] at h1
      injection h1 with h1
      subst h1
      simp [updσ] at hb1
      exact .inr ⟨Nat.le_trans h.size (hb b hb1), by rw [hfr]; intro h; cases h⟩
    · rw [upd1_ne e1] at h1
      rw [hσ k (h.own k o1 h1).1] at hb1
      exact h.mine k o1 h1 b hb1

/-- An own object is turned in place. -/
theorem SRep.turn {k : Nat} {o o' : Obj1} (h : SRep c E O al nt a w σ) (hk : O k = some o) (g : Go1 w w' (blkOf (σ k))) (hfr : o'.fr = o.fr)
    (ho : ∀ ok', Kept w w' (okk c O σ w) ok' → RepSO al w' ok' σ o' (σ k)) : SRep c E (upd1 O k (some o')) al nt a w' σ := by
  have hkept : Kept w w' (okk c O σ w) (okk c (upd1 O k (some o')) σ w') := fun b hb => by
    refine ⟨⟨Nat.lt_of_lt_of_le hb.1 g.size, hb.2.1, fun j o1 hj => ?_⟩, g.block b hb.1 fun e => hb.2.2 k o hk e.symm⟩
    by_cases e : j = k
    · subst e; exact hb.2.2 j o hk
    · rw [upd1_ne e] at hj; exact hb.2.2 j o1 hj
  refine ⟨fun t x hx => (h.env t x hx).mono hkept, fun j o1 hj => ?_, fun j j' o1 o2 h1 h2 hne b hb1 => ?_, fun j o1 h1 b hb1 => ?_, fun b hb1 hp hn => ?_, h.low, h.mlow, Nat.le_trans h.size g.size, g.os.trans h.os, g.tape.trans h.tape, g.output.trans h.output, h.ag, h.defers, h.nt, h.gstep hkept (h.mkeepT hk g)⟩
  · by_cases e : j = k
    · subst e
      rw [upd1_self] at hj
      injection hj with hj
      subst hj
      exact ⟨(h.own j o hk).1, ho _ hkept⟩
    · rw [upd1_ne e] at hj
      have h3 := h.own j o1 hj
      exact ⟨h3.1, h3.2.mono hkept fun b hb1 => g.block b (h3.2.toO.lt b hb1) fun he => h.dis j k o1 o hj hk e b hb1 he.symm⟩
  · obtain ⟨o3, h3⟩ : ∃ o3, O j = some o3 := by
      by_cases e : j = k
      · subst e; exact ⟨_, hk⟩
      · rw [upd1_ne e] at h1; exact ⟨_, h1⟩
    obtain ⟨o4, h4⟩ : ∃ o4, O j' = some o4 := by
      by_cases e : j' = k
      · subst e; exact ⟨_, hk⟩
      · rw [upd1_ne e] at h2; exact ⟨_, h2⟩
    exact h.dis j j' o3 o4 h3 h4 hne b hb1
  · by_cases e : j = k
    · subst e
      rw [upd1_self] at h1
      injection h1 with h1
      subst h1
      rw [hfr]
      exact h.mine j o hk b hb1
    · rw [upd1_ne e] at h1
      exact h.mine j o1 h1 b hb1
  · refine (g.block b (Nat.lt_of_lt_of_le hb1 h.size) fun he => ?_).trans (h.frame b hb1 hp hn)
    rcases h.mine k o hk b he.symm with ⟨_, h1, _⟩ | ⟨h1, _⟩
    · exact hp h1
    · omega

/-- An own object is forgotten: it is written no more. -/
theorem SRep.drop {k : Nat} (h : SRep c E O al nt a w σ) : SRep c E (upd1 O k none) al nt a w σ := by
  have hO : ∀ j o1, upd1 O k none j = some o1 → O j = some o1 := fun j o1 hj => by
    by_cases e : j = k
    · subst e; rw [upd1_self] at hj; cases hj
    · rwa [upd1_ne e] at hj
  have hkept : Kept w w (okk c O σ w) (okk c (upd1 O k none) σ w) := fun b hb => ⟨⟨hb.1, hb.2.1, fun j o1 hj => hb.2.2 j o1 (hO j o1 hj)⟩, rfl⟩
  exact ⟨fun t x hx => (h.env t x hx).mono hkept, fun j o1 hj => ⟨(h.own j o1 (hO j o1 hj)).1, (h.own j o1 (hO j o1 hj)).2.mono hkept fun _ _ => rfl⟩,
    fun j j' o1 o2 h1 h2 => h.dis j j' o1 o2 (hO _ _ h1) (hO _ _ h2), fun j o1 h1 => h.mine j o1 (hO _ _ h1), h.frame, h.low, h.mlow, h.size, h.os, h.tape, h.output, h.ag, h.defers, h.nt, h.gstep hkept fun _ _ => rfl⟩

/-- What was made here and is forgotten lies among what nobody writes. -/
theorem SRep.dropped {k : Nat} {o : Obj1} (h : SRep c E O al nt a w σ) (hk : O k = some o) (hfr : o.fr = .own) : ∀ b, blkOf (σ k) = some b → okk c (upd1 O k none) σ w b := fun b hb => by
  refine ⟨(h.own k o hk).2.toO.lt b hb, ?_, fun j o1 hj he => ?_⟩
  · rcases h.mine k o hk b hb with ⟨h1, _⟩ | ⟨h1, _⟩
    · exact absurd hfr h1
    · exact .inr h1
  · by_cases e : j = k
    · subst e; rw [upd1_self] at hj; cases hj
    · rw [upd1_ne e] at hj
      exact h.dis j k o1 o hj hk e b he hb

def dropO (O : Nat → Option Obj1) (ks : List Nat) : Nat → Option Obj1 := fun j => if j ∈ ks then none else O j
theorem dropO_some {O : Nat → Option Obj1} {ks : List Nat} {j : Nat} {o : Obj1} (h : dropO O ks j = some o) : O j = some o ∧ j ∉ ks := by
  unfold dropO at h
  split at h
  · cases h
  · rename_i hn; exact ⟨h, hn⟩
theorem SRep.drops {ks : List Nat} (h : SRep c E O al nt a w σ) : SRep c E (dropO O ks) al nt a w σ := by
  have hO : ∀ j o1, dropO O ks j = some o1 → O j = some o1 := fun j o1 hj => (dropO_some hj).1
  have hkept : Kept w w (okk c O σ w) (okk c (dropO O ks) σ w) := fun b hb => ⟨⟨hb.1, hb.2.1, fun j o1 hj => hb.2.2 j o1 (hO j o1 hj)⟩, rfl⟩
  exact ⟨fun t x hx => (h.env t x hx).mono hkept, fun j o1 hj => ⟨(h.own j o1 (hO j o1 hj)).1, (h.own j o1 (hO j o1 hj)).2.mono hkept fun _ _ => rfl⟩,
    fun j j' o1 o2 h1 h2 => h.dis j j' o1 o2 (hO _ _ h1) (hO _ _ h2), fun j o1 h1 => h.mine j o1 (hO _ _ h1), h.frame, h.low, h.mlow, h.size, h.os, h.tape, h.output, h.ag, h.defers, h.nt, h.gstep hkept fun _ _ => rfl⟩
theorem SRep.drops_ok {ks : List Nat} {k : Nat} {o : Obj1} (h : SRep c E O al nt a w σ) (hk : O k = some o) (hfr : o.fr = .own) (hm : k ∈ ks) : ∀ b, blkOf (σ k) = some b → okk c (dropO O ks) σ w b := fun b hb => by
  refine ⟨(h.own k o hk).2.toO.lt b hb, ?_, fun j o1 hj he => ?_⟩
  · rcases h.mine k o hk b hb with ⟨h1, _⟩ | ⟨h1, _⟩
    · exact absurd hfr h1
    · exact .inr h1
  · obtain ⟨h1, h2⟩ := dropO_some hj
    exact h.dis j k o1 o h1 hk (fun e => h2 (e ▸ hm)) b he hb

/-- An own object is forgotten, and another one takes its place: in its block, or in a new one. -/
theorem SRep.swap {k id : Nat} {o o' : Obj1} {v : Value} (h : SRep c E O al nt a w σ) (hk : O k = some o) (hid : ¬ al id) (g : Go1 w w' (blkOf (σ k)))
    (hb : ∀ b, blkOf v = some b → blkOf (σ k) = some b ∨ w.heap.size ≤ b) (hfr : o'.fr = o.fr)
    (ho : ∀ ok', Kept w w' (okk c O σ w) ok' → RepSO al w' ok' σ o' v) (hnb : o'.fr ≠ .pbox := by first | exact row_nb | assumption) :
    SRep c E (upd1 (upd1 O k none) id (some o')) (fun j => al j ∨ j = id) nt a w' (updσ σ id v) := by
  have hne : k ≠ id := fun e => hid (e ▸ (h.own k o hk).1)
  have hσ : ∀ j, al j → updσ σ id v j = σ j := fun j hj => by
    have : j ≠ id := fun e => hid (e ▸ hj)
    simp [updσ, this]
  have hO : ∀ j o1, j ≠ id → upd1 (upd1 O k none) id (some o') j = some o1 → O j = some o1 ∧ j ≠ k := fun j o1 hj h1 => by
    rw [upd1_ne hj] at h1
    by_cases e : j = k
    · subst e; rw [upd1_self] at h1; cases h1
    · rw [upd1_ne e] at h1; exact ⟨h1, e⟩
  have hkept : Kept w w' (okk c O σ w) (okk c (upd1 (upd1 O k none) id (some o')) (updσ σ id v) w') := fun b hb' => by
    refine ⟨⟨Nat.lt_of_lt_of_le hb'.1 g.size, hb'.2.1, fun j o1 hj he => ?_⟩, g.block b hb'.1 fun e => hb'.2.2 k o hk e.symm⟩
    by_cases e : j = id
    · subst e
      simp [updσ] at he
      rcases hb b he with h1 | h1
      · exact hb'.2.2 k o hk h1
      · have := hb'.1
        omega
    · obtain ⟨h1, _⟩ := hO j o1 e hj
      rw [hσ j (h.own j o1 h1).1] at he
      exact hb'.2.2 j o1 h1 he
  have hblk : ∀ j o1, O j = some o1 → j ≠ k → ∀ b, blkOf (σ j) = some b → blkOf v ≠ some b := fun j o1 hj hjk b hb1 hb2 => by
    rcases hb b hb2 with h1 | h1
    · exact h.dis j k o1 o hj hk hjk b hb1 h1
    · have := (h.own j o1 hj).2.toO.lt b hb1
      omega
  refine ⟨fun t x hx => ((h.env t x hx).mono hkept).ext (fun _ h => .inl h) hσ, fun j o1 hj => ?_, fun j j' o1 o2 h1 h2 hjj b hb1 => ?_, fun j o1 h1 b hb1 => ?_, fun b hb1 hp hn => ?_, h.low, h.mlow, Nat.le_trans h.size g.size, g.os.trans h.os, g.tape.trans h.tape, g.output.trans h.output, fun j hj => ⟨.inl (h.ag j hj).1, (hσ j (h.ag j hj).1).trans (h.ag j hj).2⟩, h.defers, h.nt, h.gstep hkept (h.mkeepT hk g)⟩
  · by_cases e : j = id
    · subst e
      rw [upd1_self] at hj
      injection hj with hj
      subst hj
      refine ⟨.inr rfl, ?_⟩
      have := ((ho _ hkept).ext (al' := fun i => al i ∨ i = j) (fun _ h => .inl h) hσ)
      simpa [updσ] using this
    · obtain ⟨h1, h2⟩ := hO j o1 e hj
      have h3 := h.own j o1 h1
      refine ⟨.inl h3.1, ?_⟩
      rw [hσ j h3.1]
      exact (h3.2.mono hkept fun b hb1 => g.block b (h3.2.toO.lt b hb1) fun he => h.dis j k o1 o h1 hk h2 b hb1 he.symm).ext (fun _ h => .inl h) hσ
  · by_cases e1 : j = id
    · subst e1
      have e2 : j' ≠ j := fun e => hjj e.symm
      obtain ⟨h3, h4⟩ := hO j' o2 e2 h2
      rw [hσ j' (h.own j' o2 h3).1]
      simp [updσ] at hb1
      exact fun hb2 => hblk j' o2 h3 h4 b hb2 hb1
    · obtain ⟨h3, h4⟩ := hO j o1 e1 h1
      rw [hσ j (h.own j o1 h3).1] at hb1
      by_cases e2 : j' = id
      · subst e2
        simp [updσ]
        exact hblk j o1 h3 h4 b hb1
      · obtain ⟨h5, h6⟩ := hO j' o2 e2 h2
        rw [hσ j' (h.own j' o2 h5).1]
        exact h.dis j j' o1 o2 h3 h5 hjj b hb1
  · by_cases e1 : j = id
    · subst e1
      rw [upd1_self] at h1
      injection h1 with h1
      subst h1
      simp [updσ] at hb1
      rcases hb b hb1 with h3 | h3
      · rw [hfr]; exact h.mine k o hk b h3
      · exact .inr ⟨Nat.le_trans h.size h3, hnb⟩
    · obtain ⟨h3, h4⟩ := hO j o1 e1 h1
      rw [hσ j (h.own j o1 h3).1] at hb1
      exact h.mine j o1 h3 b hb1
  · refine (g.block b (Nat.lt_of_lt_of_le hb1 h.size) fun he => ?_).trans (h.frame b hb1 hp hn)
    rcases h.mine k o hk b he.symm with ⟨_, h1, _⟩ | ⟨h1, _⟩
    · exact hp h1
    · omega
theorem row_nb {fr : Bool} {te : TypeId} {sz : Nat} {xs : List (List D)} : (Obj1.row fr te sz xs).fr ≠ .pbox := by cases fr <;> (intro h; cases h)
end
end Go.Proofs.Ytpibdbjlilpfiaa
/- The table of types; loads and stores of what the abstract state says. -/
namespace Go.Proofs.Ytpibdbjlilpfiaa
set_option linter.all false
open Go Go.RowKit

inductive TK where
  | int (k : IntKind) | bool | str
  | struct (fs : List (Nat × Nat × Nat))       -- of each field: where it begins, its type, its cells
  | arr (n e sz : Nat)
  | slice (e sz : Nat)
  | ptr (e : Nat)
  | iface (n : Nat)
  | func
  | map (k e : Nat)
  | other

/-- A cell that '==' compares. -/
inductive Sc where
  | int | bool | str
  deriving DecidableEq

structure TI where
  k : TK
  size : Nat
  bytes : Nat
  zd : D
  eq : List Sc := []

def TK.agg : TK → Bool
  | .struct _ | .arr .. => true
  | _ => false

def FldsOk (P : Program) : List Field → List (Nat × Nat × Nat) → Prop
  | [], [] => True
  | f :: fs, (o, t, s) :: r => f.offset = o ∧ f.type = t ∧ (P.info? t).map (·.size) = some s ∧ s ≠ 0 ∧ FldsOk P fs r
  | _, _ => False

def TK.ok (P : Program) (t : Nat) : TK → Prop
  | .int k => P.underlying t = some (.int k)
  | .bool => P.underlying t = some .bool
  | .str => P.underlying t = some .string
  | .struct fs => ∃ l : Array Field, P.underlying t = some (.struct l) ∧ FldsOk P l.toList fs
  | .arr n e sz => P.underlying t = some (.array n e) ∧ (P.info? e).map (·.size) = some sz
  | .slice e sz => P.underlying t = some (.slice e) ∧ (P.info? e).map (·.size) = some sz
  | .ptr e => P.underlying t = some (.pointer e)
  | .iface n => ∃ ms : Array (String × TypeId), P.underlying t = some (.interface ms) ∧ ms.size = n
  | .func => ∃ a b c, P.underlying t = some (.func a b c)
  | .map k e => P.underlying t = some (.map k e)
  | .other => ∃ d, P.underlying t = some d ∧ (match d with | .struct _ | .array .. => False | _ => True)

/-- What holds whatever the world. -/
def RepC (x : D) (v : Value) : Prop := ∀ w ok, Rep w ok x v

def eqFlds (P : Program) (g : Nat → Option (List Sc)) : Nat → List Field → Option (List Sc)
  | _, [] => some []
  | off, f :: fs => if f.name ≠ "_" ∧ f.offset = off then (match g f.type, P.info? f.type with
    | some ks, some j => if j.size = ks.length ∧ ks ≠ [] then (match eqFlds P g (off + ks.length) fs with
      | some r => some (ks ++ r)
      | none => none) else none
    | _, _ => none) else none
def rep1 {α : Type} : Nat → List α → List α
  | 0, _ => []
  | n + 1, l => l ++ rep1 n l
/-- The cells of what '==' compares. -/
def eqShape (P : Program) : Nat → Nat → Option (List Sc)
  | 0, _ => none
  | d + 1, t => match P.underlying t with
    | some (.int _) => some [.int]
    | some .bool => some [.bool]
    | some .string => some [.str]
    | some (.struct fs) => if P.stoodInHeld t = true then none else eqFlds P (eqShape P d) 0 fs.toList
    | some (.array n e) => match eqShape P d e, P.info? e with
      | some ks, some j => if j.size = ks.length ∧ ks ≠ [] then some (rep1 n ks) else none
      | _, _ => none
    | _ => none

structure TI.ok (P : Program) (t : Nat) (i : TI) : Prop where
  k : i.k.ok P t
  eq : i.eq = [] ∨ (eqShape P 9 t = some i.eq ∧ P.eqGuardType P.depth t = false)
  info : ∃ j z, P.info? t = some j ∧ j.size = i.size ∧ j.bytes = i.bytes ∧ j.zero = some z ∧ RepC i.zd z ∧ z.cells.size = i.size

/-- The table says what the program says. -/
def TbOk (P : Program) (tb : Nat → Option TI) : Prop := ∀ t i, tb t = some i → i.ok P t

theorem TI.ok.isAgg {P : Program} {t : Nat} {i : TI} (h : i.ok P t) (w : World) : (isAgg t).run P w = .ok i.k.agg w := by
  have hk := h.k
  unfold Go.isAgg
  cases hi : i.k <;> rw [hi] at hk <;> simp only [TK.ok] at hk
  case struct fs => obtain ⟨l, h1, _⟩ := hk; simp [run_underlying h1, TK.agg]
  case iface => obtain ⟨l, h1, _⟩ := hk; simp [run_underlying h1, TK.agg]
  case func => obtain ⟨_, _, _, h1⟩ := hk; simp [run_underlying h1, TK.agg]
  case arr => simp [run_underlying hk.1, TK.agg]
  case slice => simp [run_underlying hk.1, TK.agg]
  case other =>
    obtain ⟨d, h1, h2⟩ := hk
    cases d <;> simp_all [run_underlying h1, TK.agg]
  all_goals simp [run_underlying hk, TK.agg]

theorem TI.ok.sizeOf {P : Program} {t : Nat} {i : TI} (h : i.ok P t) (w : World) : (Go.sizeOf t).run P w = .ok i.size w := by
  obtain ⟨j, z, h1, h2, _⟩ := h.info
  simp [Go.sizeOf, typeInfo, h1, h2]

theorem TI.ok.zero {P : Program} {t : Nat} {i : TI} (h : i.ok P t) (w : World) : ∃ z, (zeroValue t).run P w = .ok z w ∧ RepC i.zd z ∧ z.cells.size = i.size := by
  obtain ⟨j, z, h1, h2, h3, h4, h5, h6⟩ := h.info
  exact ⟨z, by simp [zeroValue, typeInfo, h1, h4], h5, h6⟩

theorem run_size_of_map {P : Program} {t s : Nat} (h : (P.info? t).map (·.size) = some s) (w : World) : (sizeOf t).run P w = .ok s w := by
  cases hi : P.info? t with
  | none => rw [hi] at h; cases h
  | some j => rw [hi] at h; injection h with h; simp [sizeOf, typeInfo, hi, h]

/-! ### Cells of a value -/
def D.cells : D → List D
  | .agg cs => cs
  | x => [x]
def AV.cells : AV → List AV
  | .agg cs => cs
  | .d x => x.cells.map .d
  | x => [x]
def D.isTup : D → Bool
  | .tup _ => true
  | _ => false
def AV.isTup : AV → Bool
  | .tup _ => true
  | .d x => x.isTup
  | _ => false

section
variable {al : Nat → Prop} {w : World} {ok : Nat → Prop} {σ : Nat → Value}

theorem Rep.one {x : D} {v : Value} (h : Rep w ok x v) (ht : x.isTup = false) (ha : ∀ cs, x ≠ .agg cs) : v.oneCell' = true := by
  cases h <;> simp_all [Value.oneCell', D.isTup]

/-- What the cells of a value say, one by one. -/
theorem Rep.cells {x : D} {v : Value} (h : Rep w ok x v) (ht : x.isTup = false) :
    ∃ vs : List Value, v.cells = vs.toArray ∧ vs.length = x.cells.length ∧ (∀ u ∈ vs, u.oneCell' = true) ∧ ∀ (i : Nat) c u, x.cells[i]? = some c → vs[i]? = some u → Rep w ok c u := by
  by_cases ha : ∃ cs, x = .agg cs
  · obtain ⟨cs, rfl⟩ := ha
    cases h with
    | agg _ vs hl h h1 => exact ⟨vs, rfl, hl, h1, h⟩
  · have ha' : ∀ cs, x ≠ .agg cs := fun cs e => ha ⟨cs, e⟩
    have h1 := h.one ht ha'
    have hx : x.cells = [x] := by cases x <;> first | rfl | exact absurd rfl (ha' _)
    have hv : v.cells = [v].toArray := by cases v <;> simp_all [Value.cells, Value.oneCell']
    refine ⟨[v], hv, by rw [hx]; rfl, by simpa using h1, fun i c u hc hu => ?_⟩
    rw [hx] at hc
    cases i with
    | zero => simp at hc hu; subst hc; subst hu; exact h
    | succ i => simp at hc

theorem RepA.cells {x : AV} {v : Value} (h : RepA w ok σ x v) (ht : x.isTup = false) (ho : ∀ k, x = .own k → v.oneCell' = true) :
    ∃ vs : List Value, v.cells = vs.toArray ∧ vs.length = x.cells.length ∧ (∀ u ∈ vs, u.oneCell' = true) ∧ ∀ (i : Nat) c u, x.cells[i]? = some c → vs[i]? = some u → RepA w ok σ c u := by
  cases h with
  | d x v h =>
    obtain ⟨vs, h1, h2, h3, h4⟩ := h.cells (by simpa [AV.isTup] using ht)
    refine ⟨vs, h1, by simpa [AV.cells] using h2, h3, fun i c u hc hu => ?_⟩
    simp only [AV.cells, List.getElem?_map, Option.map_eq_some_iff] at hc
    obtain ⟨c', h5, rfl⟩ := hc
    exact .d c' u (h4 i c' u h5 hu)
  | own k =>
    have h1 := ho k rfl
    have hv : (σ k).cells = [σ k].toArray := by cases hh : σ k <;> simp_all [Value.cells, Value.oneCell']
    refine ⟨[σ k], hv, rfl, by simpa using h1, fun i c u hc hu => ?_⟩
    cases i with
    | zero => simp [AV.cells] at hc hu; subst hc; subst hu; exact .own k
    | succ i => simp [AV.cells] at hc
  | ref k off b hb =>
    refine ⟨[.pointer (some ⟨b, off, none⟩)], rfl, rfl, by simp [Value.oneCell'], fun i c u hc hu => ?_⟩
    cases i with
    | zero => simp [AV.cells] at hc hu; subst hc; subst hu; exact .ref k off b hb
    | succ i => simp [AV.cells] at hc
  | elt k sz j o b hb =>
    refine ⟨[.pointer (some ⟨b, j * sz + o, none⟩)], rfl, rfl, by simp [Value.oneCell'], fun i c u hc hu => ?_⟩
    cases i with
    | zero => simp [AV.cells] at hc hu; subst hc; subst hu; exact .elt k sz j o b hb
    | succ i => simp [AV.cells] at hc
  | agg cs vs hl h h1 => exact ⟨vs, rfl, hl, h1, h⟩
  | tup cs vs hl h => simp [AV.isTup] at ht

/-- The cells do not hang on what isn't allotted. -/
theorem RepS.cells {x : AV} {v : Value} (h : RepS al w ok σ x v) (ht : x.isTup = false) (ho : ∀ k, x = .own k → v.oneCell' = true) :
    ∃ vs : List Value, v.cells = vs.toArray ∧ vs.length = x.cells.length ∧ (∀ u ∈ vs, u.oneCell' = true) ∧ ∀ (i : Nat) c u, x.cells[i]? = some c → vs[i]? = some u → RepS al w ok σ c u := by
  obtain ⟨vs, h1, h2, h3, h4⟩ := h.toA.cells ht ho
  refine ⟨vs, h1, h2, h3, fun i c u hc hu τ hτ => ?_⟩
  obtain ⟨vs', h1', _, _, h4'⟩ := (h τ hτ).cells ht ho
  rw [h1] at h1'
  have : vs = vs' := by injection h1'
  subst this
  exact h4' i c u hc hu
end

theorem RepO.one {w : World} {ok : Nat → Prop} {σ : Nat → Value} {o : Obj1} {v : Value} (h : RepO w ok σ o v) : v.oneCell' = true := by
  cases h with
  | box fr cs b t vs hb hl h1 h => rfl
  | row fr t sz xs v vs ho =>
    rcases ho.2 with ⟨rfl, _⟩ | ⟨g, cap, cur, rfl, _⟩ <;> rfl
  | iter => rfl
  | map => rfl

/-- A new variable. -/
theorem run_newVar {P : Program} {t : TypeId} {v : Value} (w : World) : (newVar t v).run P w = .ok ⟨w.heap.size, 0, none⟩ (w.alloc (.cells v.cells t)) := by
  simp [newVar, newRow, run_newObj]

theorem box_new {al : Nat → Prop} {w : World} {ok ok' : Nat → Prop} {σ : Nat → Value} {t : TypeId} {x : AV} {v : Value} (fr : Bool) (h : RepS al w ok σ x v) (ht : x.isTup = false) (ho : ∀ k, x = .own k → v.oneCell' = true)
    (hk : Kept w (w.alloc (.cells v.cells t)) ok ok') : RepSO al (w.alloc (.cells v.cells t)) ok' σ (.box fr x.cells) (.pointer (some ⟨w.heap.size, 0, none⟩)) := by
  intro τ hτ
  obtain ⟨vs, h1, h2, h3, h4⟩ := h.cells ht ho
  refine .box fr x.cells w.heap.size t vs ?_ h2 h3 (fun i c u hc hu => (h4 i c u hc hu τ hτ).mono hk)
  rw [← h1]
  exact heap_alloc_new w _
/-! ### Loads -/
section
variable {P : Program} {t : Nat} {i : TI} {w : World}

theorem load_agg (hi : i.ok P t) (ha : i.k.agg = true) (b off : Nat) (vs : List Value) (hl : vs.length = i.size) (hc : ∀ (j : Nat) v, vs[j]? = some v → w.cell? ⟨b, off + j, none⟩ = some v) :
    (loadVar t ⟨b, off, none⟩).run P w = .ok (.agg vs.toArray) w := by
  have h1 := run_loadCells_list (P := P) (w := w) ⟨b, off, none⟩ vs (fun j v h => by rw [Addr.add_lit]; exact hc j v h)
  rw [hl] at h1
  simp [loadVar, hi.isAgg, hi.sizeOf, ha, h1]

theorem load_one (hi : i.ok P t) (ha : i.k.agg = false) (a : Addr) (v : Value) (hc : w.cell? a = some v) : (loadVar t a).run P w = .ok v w := by
  simp [loadVar, hi.isAgg, ha, hc]

/-- What is read out of cells: a struct, or one of them. -/
def readD (i : TI) (cs : List D) : Option D := if i.k.agg then (if i.size ≤ cs.length then some (.agg (cs.take i.size)) else none) else cs[0]?
def readA (i : TI) (cs : List AV) : Option AV := if i.k.agg then (if i.size ≤ cs.length then some (.agg (cs.take i.size)) else none) else cs[0]?

theorem run_readD {ok : Nat → Prop} (hi : i.ok P t) (b off : Nat) (cs : List D) (f : Nat → Value) (hc : ∀ j, j < cs.length → w.cell? ⟨b, off + j, none⟩ = some (f j)) (h1 : ∀ j, (f j).oneCell' = true)
    (h : ∀ (j : Nat) c, cs[j]? = some c → Rep w ok c (f j)) {x : D} (hx : readD i cs = some x) : ∃ v, (loadVar t ⟨b, off, none⟩).run P w = .ok v w ∧ Rep w ok x v := by
  unfold readD at hx
  cases ha : i.k.agg <;> rw [ha] at hx
  · simp only [Bool.false_eq_true, if_false] at hx
    have hlt : 0 < cs.length := (List.getElem?_eq_some_iff.1 hx).1
    have h2 := hc 0 hlt
    exact ⟨f 0, load_one hi ha _ _ (by simpa using h2), h 0 x hx⟩
  · simp only [if_true] at hx
    split at hx
    · rename_i hle
      injection hx with hx
      subst hx
      refine ⟨_, load_agg hi ha b off ((List.range i.size).map f) (by simp) (fun j v hj => ?_), .agg _ _ (by simp; omega) (fun j c v hj hv => ?_) (fun v hv => ?_)⟩
      · have hlt : j < i.size := by have := (List.getElem?_eq_some_iff.1 hj).1; simpa using this
        simp [hlt] at hj
        subst hj
        exact hc j (by omega)
      · have hlt : j < i.size := by have := (List.getElem?_eq_some_iff.1 hv).1; simpa using this
        simp [hlt] at hv
        subst hv
        rw [List.getElem?_take, if_pos hlt] at hj
        exact h j c hj
      · obtain ⟨j, _, rfl⟩ := List.mem_map.1 hv
        exact h1 j
    · cases hx

theorem run_readA {al ok : Nat → Prop} {σ : Nat → Value} (hi : i.ok P t) (b off : Nat) (cs : List AV) (vs : List Value) (hl : vs.length = cs.length) (hc : ∀ (j : Nat) v, vs[j]? = some v → w.cell? ⟨b, off + j, none⟩ = some v) (h1 : ∀ v ∈ vs, v.oneCell' = true)
    (h : ∀ (j : Nat) c v, cs[j]? = some c → vs[j]? = some v → RepS al w ok σ c v) {x : AV} (hx : readA i cs = some x) : ∃ v, (loadVar t ⟨b, off, none⟩).run P w = .ok v w ∧ RepS al w ok σ x v := by
  unfold readA at hx
  cases ha : i.k.agg <;> rw [ha] at hx
  · simp only [Bool.false_eq_true, if_false] at hx
    have hlt : 0 < cs.length := (List.getElem?_eq_some_iff.1 hx).1
    have h2 : vs[0]? = some vs[0] := List.getElem?_eq_getElem (by omega)
    exact ⟨vs[0], load_one hi ha _ _ (by simpa using hc 0 _ h2), h 0 x _ hx h2⟩
  · simp only [if_true] at hx
    split at hx
    · rename_i hle
      injection hx with hx
      subst hx
      refine ⟨_, load_agg hi ha b off (vs.take i.size) (by simp; omega) (fun j v hj => ?_), fun τ hτ => .agg _ _ (by simp; omega) (fun j c v hj hv => ?_) (fun v hv => ?_)⟩
      · rw [List.getElem?_take] at hj
        split at hj
        · exact hc j v hj
        · cases hj
      · rw [List.getElem?_take] at hj hv
        split at hj
        · rename_i hlt
          rw [if_pos hlt] at hv
          exact h j c v hj hv τ hτ
        · cases hj
      · exact h1 v (List.mem_of_mem_take hv)
    · cases hx
end
end Go.Proofs.Ytpibdbjlilpfiaa
/- One operation: what it does to the abstract state (values, variables, loads, stores). -/
namespace Go.Proofs.Ytpibdbjlilpfiaa
set_option linter.all false
open Go Go.RowKit

inductive Eff where
  | none
  | new (o : Obj1)
  | turn (k : Nat) (o : Obj1)
  | swap (k : Nat) (o : Obj1)
  | drop (ks : List Nat)
  | pass (ks : List Nat) (os : List (Nat × Obj1))

def Eff.app (id : Nat) (O : Nat → Option Obj1) : Eff → Nat → Option Obj1
  | .none => O
  | .new o => upd1 O id (some o)
  | .turn k o => upd1 O k (some o)
  | .swap k o => upd1 (upd1 O k Option.none) id (some o)
  | .drop ks => fun j => if j ∈ ks then Option.none else O j
  | .pass ks os => fun j => match look os j with
    | some o => some o
    | Option.none => if j ∈ ks then Option.none else O j

mutual
def AV.ids : AV → List Nat
  | .d _ => []
  | .own k => [k]
  | .ref k _ => [k]
  | .elt k _ _ _ => [k]
  | .agg cs => AV.idsL cs
  | .tup cs => AV.idsL cs
def AV.idsL : List AV → List Nat
  | [] => []
  | x :: r => x.ids ++ AV.idsL r
end

def constA : Value → Option AV
  | .int k n => some (.d (.int k n))
  | .bool b => some (.d (.bool b))
  | .string s => if s.size ≤ 1000 then some (.d (.str s)) else none
  | .nilIface => some (.d .nilif)
  | .nilFunc => some (.d .nilfn)
  | .pointer none => some (.d .nilp)
  | .slice none 0 0 => some (.d .nils)
  | _ => none

def getE (gl : GL) (E : Nat → Option AV) : Operand → Option AV
  | .tmp t => E t
  | .const v => constA v
  | .func f => some (.d (.fn f [] []))
  | .global g => match look gl.vars g with
    | some cs => some (.d (.addr cs))
    | none => none

section
variable {P : Program} {c : Ctx} {E : Nat → Option AV} {O : Nat → Option Obj1} {al : Nat → Prop} {nt : Nat} {a : Act} {w : World} {σ : Nat → Value}

theorem constA_rep {v : Value} {y : AV} (h : constA v = some y) {ok : Nat → Prop} : RepS al w ok σ y v := by
  unfold constA at h
  split at h <;> first | cases h | skip
  · exact .of_d (.int _ _)
  · exact .of_d (.bool _)
  · split at h
    · cases h
      exact .of_d (.str _ (by simp only [maxLen]; omega))
    · cases h
  · exact .of_d .nilif
  · exact .of_d .nilfn
  · exact .of_d .nilp
  · exact .of_d .nils

theorem SRep.get (h : SRep c E O al nt a w σ) {x : Operand} {y : AV} (hx : getE c.gl E x = some y) : RepS al w (okk c O σ w) σ y (a.eval x) := by
  cases x with
  | tmp t => exact h.env t y hx
  | const v => exact constA_rep hx
  | func f =>
    simp only [getE, Option.some.injEq] at hx
    subst hx
    exact .of_d (.fn f [] [] [] [] rfl rfl (fun i c v hc => by simp at hc) (fun i c v hc => by simp at hc))
  | global g =>
    simp only [getE] at hx
    split at hx
    · rename_i cs hg
      cases hx
      exact .of_d (h.glob.var g cs hg)
    · cases hx

theorem SRep.al_ext {al' : Nat → Prop} (h : SRep c E O al nt a w σ) (ha : ∀ k, al k → al' k) : SRep c E O al' nt a w σ :=
  ⟨fun t x hx => (h.env t x hx).ext ha (fun _ _ => rfl), fun k o hk => ⟨ha k (h.own k o hk).1, (h.own k o hk).2.ext ha (fun _ _ => rfl)⟩, h.dis, h.mine, h.frame, h.low, h.mlow, h.size, h.os, h.tape, h.output, fun k hk => ⟨ha k (h.ag k hk).1, (h.ag k hk).2⟩, h.defers, h.nt, h.glob⟩

/-- The operands, and the objects that they name, are as they were. -/
structure Agree (gl : GL) (E E' : Nat → Option AV) (O O' : Nat → Option Obj1) (o : Oper) : Prop where
  e : ∀ x ∈ o.op.operands, getE gl E' x = getE gl E x
  o : ∀ x ∈ o.op.operands, ∀ y, getE gl E x = some y → ∀ k ∈ y.ids, O' k = O k

/-- What one operation does, wherever its operands are as here. -/
def Step (P : Program) (gl : GL) (E : Nat → Option AV) (O : Nat → Option Obj1) (o : Oper) (id : Nat) (v : Option AV) (e : Eff) : Prop :=
  ∀ (c : Ctx) (E' : Nat → Option AV) (O' : Nat → Option Obj1) (al : Nat → Prop) (nt : Nat) (a : Act) (w : World) (σ : Nat → Value), c.gl = gl → SRep c E' O' al nt a w σ → ¬ al id → Agree gl E E' O O' o →
    ∀ (K : Act → World → Prop) (Q : Exit → Act → World → Prop),
      (∀ v' w' σ', SRep c E' (e.app id O') (fun k => al k ∨ k = id) nt a w' σ' →
        (∀ x, v = some x → RepS (fun k => al k ∨ k = id) w' (okk c (e.app id O') σ' w') σ' x v') → K (a.put o.dst v') w') → o.wp P a w K Q

variable {gl : GL} {o : Oper} {id : Nat}
theorem Step.agree {E' : Nat → Option AV} {O O' : Nat → Option Obj1} {v : Option AV} {e : Eff} (h : Step P gl E O o id v e) (he : ∀ x ∈ o.op.operands, getE gl E' x = getE gl E x) (ho : ∀ x ∈ o.op.operands, ∀ y, getE gl E x = some y → ∀ k ∈ y.ids, O' k = O k) : Step P gl E' O' o id v e :=
  fun c E2 O2 al nt a w σ hgl hs hid hag K Q hK => h c E2 O2 al nt a w σ hgl hs hid ⟨fun x hx => (hag.e x hx).trans (he x hx), fun x hx y hy k hk => (hag.o x hx y ((he x hx).trans hy) k hk).trans (ho x hx y hy k hk)⟩ K Q hK

theorem Step.val {x : AV} (h : ∀ (c : Ctx) (E' : Nat → Option AV) (O' : Nat → Option Obj1) (al : Nat → Prop) (nt : Nat) (a : Act) (w : World) (σ : Nat → Value), c.gl = gl → SRep c E' O' al nt a w σ → Agree gl E E' O O' o →
    ∃ v', (execOp a.eval o).run P w = .ok (.value v') w ∧ RepS al w (okk c O' σ w) σ x v') : Step P gl E O o id (some x) .none := by
  intro c E' O' al nt a w σ hgl hs _ hag K Q hK
  obtain ⟨v', hr, hx⟩ := h c E' O' al nt a w σ hgl hs hag
  unfold Oper.wp
  rw [hr]
  refine hK v' w σ (hs.al_ext fun _ => .inl) fun y hy => ?_
  injection hy with hy
  subst hy
  exact hx.ext (fun _ => .inl) fun _ _ => rfl

theorem Agree.get {E E' : Nat → Option AV} {O O' : Nat → Option Obj1} (h : Agree gl E E' O O' o) {x : Operand} (hm : x ∈ o.op.operands) {y : AV} (hx : getE gl E x = some y) : getE gl E' x = some y := (h.e x hm).trans hx

theorem st_move {x : Operand} {v : AV} (ho : o.op = .move x) (hx : getE gl E x = some v) : Step P gl E O o id (some v) .none :=
  .val fun c E' O' al nt a w σ hgl hs hag => ⟨a.eval x, by simp [execOp, ho], hs.get (by rw [hgl]; exact hag.get (by simp [ho, Op.operands]) hx)⟩

theorem st_assign {x : Operand} {v : AV} (ho : o.op = .assign x) (hx : getE gl E x = some v) : Step P gl E O o id (some v) .none :=
  .val fun c E' O' al nt a w σ hgl hs hag => ⟨a.eval x, by simp [execOp, ho], hs.get (by rw [hgl]; exact hag.get (by simp [ho, Op.operands]) hx)⟩

theorem rep_bool {ok : Nat → Prop} {b : Bool} {v : Value} (h : RepS al w ok σ (.d (.bool b)) v) : v = .bool b := by cases h.d_inv; rfl
theorem rep_int {ok : Nat → Prop} {k : IntKind} {n : Int} {v : Value} (h : RepS al w ok σ (.d (.int k n)) v) : v = .int k n := by cases h.d_inv; rfl
theorem rep_str {ok : Nat → Prop} {s : ByteArray} {v : Value} (h : RepS al w ok σ (.d (.str s)) v) : v = .string s ∧ s.size ≤ maxLen := by cases h.d_inv with | str _ h2 => exact ⟨rfl, h2⟩

theorem st_pick {cd x y : Operand} {b : Bool} {v : AV} (ho : o.op = .pick cd x y) (hc : getE gl E cd = some (.d (.bool b))) (hx : getE gl E (if b then x else y) = some v) : Step P gl E O o id (some v) .none :=
  .val fun c E' O' al nt a w σ hgl hs hag => by
    subst hgl
    have h1 := rep_bool (hs.get (hag.get (by simp [ho, Op.operands]) hc))
    have h2 := hs.get (hag.get (x := if b then x else y) (by cases b <;> simp [ho, Op.operands]) hx)
    refine ⟨a.eval (if b then x else y), ?_, h2⟩
    simp only [execOp, ho, h1, asBool]
    cases b <;> simp

/-! ### Arithmetic -/
def intC (op : BinOp) (b : Int) : Prop := match op with
  | .quo => b ≠ 0
  | .rem => b ≠ 0
  | _ => True
def intV (op : BinOp) (k : IntKind) (a b : Int) : Option D :=
  match op with
  | .add => some (.int k (k.wrap (a + b)))
  | .sub => some (.int k (k.wrap (a - b)))
  | .mul => some (.int k (k.wrap (a * b)))
  | .quo => some (.int k (k.wrap (a.tdiv b)))
  | .rem => some (.int k (a.tmod b))
  | .and => some (.int k (k.wrap (BitVec.ofInt k.bits a &&& BitVec.ofInt k.bits b).toNat))
  | .or => some (.int k (k.wrap (BitVec.ofInt k.bits a ||| BitVec.ofInt k.bits b).toNat))
  | .xor => some (.int k (k.wrap (BitVec.ofInt k.bits a ^^^ BitVec.ofInt k.bits b).toNat))
  | .andNot => some (.int k (k.wrap (BitVec.ofInt k.bits a &&& ~~~ BitVec.ofInt k.bits b).toNat))
  | .eql => some (.bool (decide (a = b)))
  | .neq => some (.bool (decide (a ≠ b)))
  | .lss => some (.bool (decide (a < b)))
  | .leq => some (.bool (decide (a ≤ b)))
  | .gtr => some (.bool (decide (b < a)))
  | .geq => some (.bool (decide (b ≤ a)))
  | _ => none

def shiftV (op : BinOp) (k : IntKind) (a b : Int) : Option D :=
  match op with
  | .shl => some (.int k (k.wrap (a * 2 ^ min b.toNat k.bits)))
  | .shr => some (.int k (a.fdiv (2 ^ min b.toNat k.bits)))
  | _ => none

def strC (op : BinOp) (s t : ByteArray) : Prop := match op with
  | .add => s.size + t.size ≤ 9223372036854775807
  | _ => True
def strV (op : BinOp) (s t : ByteArray) : Option D :=
  match op with
  | .eql => some (.bool (decide (s = t)))
  | .neq => some (.bool (decide (s ≠ t)))
  | .add => some (.str (s ++ t))
  | .lss => some (.bool (Op.bytesLess s.toList t.toList))
  | _ => none

theorem toList_inj {s t : ByteArray} : (s.toList == t.toList) = decide (s = t) := by
  rw [ByteArray.toList_eq, ByteArray.toList_eq, Bool.eq_iff_iff]
  simp only [beq_iff_eq, decide_eq_true_eq]
  constructor
  · intro h
    obtain ⟨⟨s⟩⟩ := s
    obtain ⟨⟨t⟩⟩ := t
    simp at h
    rw [h]
  · rintro rfl; rfl

theorem eqGuard_int (op : BinOp) (t : TypeId) (x y : Operand) (k k' : IntKind) (a b : Int) (w : World) : (eqGuard op t x y (.int k a) (.int k' b)).run P w = .ok () w := by
  unfold eqGuard; split <;> simp
theorem eqGuard_str (op : BinOp) (t : TypeId) (x y : Operand) (a b : ByteArray) (w : World) : (eqGuard op t x y (.string a) (.string b)).run P w = .ok () w := by
  unfold eqGuard; split <;> simp
theorem eqGuard_bool (op : BinOp) (t : TypeId) (x y : Operand) (a b : Bool) (w : World) : (eqGuard op t x y (.bool a) (.bool b)).run P w = .ok () w := by
  unfold eqGuard; split <;> simp

theorem int_run {op : BinOp} {t : TypeId} {k : IntKind} {a b : Int} {z : D} (hc : intC op b) (h : intV op k a b = some z) (w : World) : ∃ v, (binOp op t (.int k a) (.int k b)).run P w = .ok v w ∧ RepC z v := by
  cases op <;> simp only [intV] at h <;> first | cases h | skip
  case quo => exact ⟨_, by simp [binOp, Op.intDiv, show b ≠ 0 from hc], fun _ _ => .int _ _⟩
  case rem => exact ⟨_, by simp [binOp, Op.intDiv, show b ≠ 0 from hc], fun _ _ => .int _ _⟩
  case eql => exact ⟨.bool (decide (a = b)), by simp [binOp, Op.intCmp]; rfl, fun _ _ => .bool _⟩
  case neq => exact ⟨.bool (decide (a ≠ b)), by by_cases hab : a = b <;> simp [binOp, Op.intCmp, bne, hab], fun _ _ => .bool _⟩
  case lss => exact ⟨.bool (decide (a < b)), by simp [binOp, Op.intCmp], fun _ _ => .bool _⟩
  case leq => exact ⟨.bool (decide (a ≤ b)), by simp [binOp, Op.intCmp], fun _ _ => .bool _⟩
  case gtr => exact ⟨.bool (decide (b < a)), by simp [binOp, Op.intCmp], fun _ _ => .bool _⟩
  case geq => exact ⟨.bool (decide (b ≤ a)), by simp [binOp, Op.intCmp], fun _ _ => .bool _⟩
  all_goals exact ⟨_, by simp [binOp, Op.intArith, Op.intBits], fun _ _ => .int _ _⟩

theorem shift_run {op : BinOp} {t : TypeId} {k k' : IntKind} {a b : Int} {z : D} (hc : 0 ≤ b) (h : shiftV op k a b = some z) (w : World) : ∃ v, (binOp op t (.int k a) (.int k' b)).run P w = .ok v w ∧ RepC z v := by
  cases op <;> simp only [shiftV] at h <;> first | cases h | skip
  all_goals exact ⟨_, by simp [binOp, Op.shift, Int.not_lt.2 hc], fun _ _ => .int _ _⟩

theorem str_run {op : BinOp} {t : TypeId} {a b : ByteArray} {z : D} (hc : strC op a b) (h : strV op a b = some z) (w : World) : ∃ v, (binOp op t (.string a) (.string b)).run P w = .ok v w ∧ RepC z v := by
  cases op <;> simp only [strV] at h <;> first | cases h | skip
  case eql => exact ⟨.bool (decide (a = b)), by simp [binOp, Op.stringOp, toList_inj], fun _ _ => .bool _⟩
  case neq => exact ⟨.bool (decide (a ≠ b)), by simp [binOp, Op.stringOp, toList_inj], fun _ _ => .bool _⟩
  case lss => exact ⟨.bool (Op.bytesLess a.toList b.toList), by simp [binOp, Op.stringOp], fun _ _ => .bool _⟩
  case add =>
    have hc' : a.size + b.size ≤ 9223372036854775807 := hc
    refine ⟨.string (a ++ b), ?_, fun _ _ => .str _ ?_⟩
    · have hm : IntKind.i64.max = 9223372036854775807 := by decide
      have h1 : ¬ ((a.size + b.size : Nat) : Int) > 9223372036854775807 := by omega
      simp only [binOp, Op.stringOp, hm, if_neg h1]
      rfl
    · rw [ByteArray.size_append]; simp only [maxLen]; omega
end
end Go.Proofs.Ytpibdbjlilpfiaa
/- One operation: variables in memory, addresses, loads, stores. -/
namespace Go.Proofs.Ytpibdbjlilpfiaa
set_option linter.all false
open Go Go.RowKit

section
variable {P : Program} {E : Nat → Option AV} {O : Nat → Option Obj1} {gl : GL} {o : Oper} {id : Nat} {tb : Nat → Option TI}

/-- A step that runs and leaves a value: whatever becomes of the world. -/
theorem Step.run {x : AV} {e : Eff} (h : ∀ (c : Ctx) (E' : Nat → Option AV) (O' : Nat → Option Obj1) (al : Nat → Prop) (nt : Nat) (a : Act) (w : World) (σ : Nat → Value), c.gl = gl → SRep c E' O' al nt a w σ → ¬ al id → Agree gl E E' O O' o →
    ∃ v' w' σ', (execOp a.eval o).run P w = .ok (.value v') w' ∧ SRep c E' (e.app id O') (fun k => al k ∨ k = id) nt a w' σ' ∧ RepS (fun k => al k ∨ k = id) w' (okk c (e.app id O') σ' w') σ' x v') : Step P gl E O o id (some x) e := by
  intro c E' O' al nt a w σ hgl hs hid hag K Q hK
  obtain ⟨v', w', σ', hr, hs', hx⟩ := h c E' O' al nt a w σ hgl hs hid hag
  unfold Oper.wp
  rw [hr]
  refine hK v' w' σ' hs' fun y hy => ?_
  injection hy with hy
  subst hy
  exact hx

/-- A step that leaves no value. -/
theorem Step.skip {e : Eff} (h : ∀ (c : Ctx) (E' : Nat → Option AV) (O' : Nat → Option Obj1) (al : Nat → Prop) (nt : Nat) (a : Act) (w : World) (σ : Nat → Value), c.gl = gl → SRep c E' O' al nt a w σ → ¬ al id → Agree gl E E' O O' o →
    ∃ w' σ', (execOp a.eval o).run P w = .ok .skip w' ∧ SRep c E' (e.app id O') (fun k => al k ∨ k = id) nt a w' σ') : Step P gl E O o id none e := by
  intro c E' O' al nt a w σ hgl hs hid hag K Q hK
  obtain ⟨w', σ', hr, hs'⟩ := h c E' O' al nt a w σ hgl hs hid hag
  unfold Oper.wp
  rw [hr]
  exact hK undef w' σ' hs' fun y hy => by cases hy

theorem not_al_ne {al : Nat → Prop} {id k : Nat} (hid : ¬ al id) (hk : al k) : k ≠ id := fun e => hid (e ▸ hk)

/-- The new object's own value. -/
theorem rep_ref_new {al : Nat → Prop} {w : World} {ok : Nat → Prop} {σ : Nat → Value} {b : Nat} (k : Nat) (hk : al k) (h : σ k = .pointer (some ⟨b, 0, none⟩)) : RepS al w ok σ (.ref k 0) (.pointer (some ⟨b, 0, none⟩)) := fun τ hτ =>
  .ref k 0 b (by rw [hτ k hk, h]; rfl)

/-- A value that is moved into a new variable. -/
theorem st_box {t : TypeId} {x : Operand} {y : AV} (ho : o.op = .box t x) (hx : getE gl E x = some y) (ht : y.isTup = false) (hown : ∀ k, y = .own k → ∃ ob, O k = some ob) :
    Step P gl E O o id (some (.ref id 0)) (.new (.box true y.cells)) :=
  .run fun c E' O' al nt a w σ hgl hs hid hag => by
    subst hgl
    have hm : x ∈ o.op.operands := by simp [ho, Op.operands]
    have h1 := hs.get (hag.get hm hx)
    have hone : ∀ k, y = .own k → (a.eval x).oneCell' = true := fun k hk => by
      obtain ⟨ob, hob⟩ := hown k hk
      have h2 := hag.o x hm y hx k (by subst hk; simp [AV.ids])
      rw [hob] at h2
      subst hk
      rw [h1.toA.own_inv]
      exact (hs.own k ob h2).2.toO.one
    have hn := hs.new (id := id) (o := .box true y.cells) (v := .pointer (some ⟨w.heap.size, 0, none⟩)) (Go1.alloc w (.cells (a.eval x).cells t) none) hid (fun b hb => by simp [blkOf] at hb; omega) (fun ok' hk => box_new true h1 ht hone hk)
    exact ⟨.pointer (some ⟨w.heap.size, 0, none⟩), _, _, by simp [execOp, ho, Instr.box, run_newVar], hn, rep_ref_new id (.inr rfl) (by simp [updσ])⟩

/-- A new variable at zero. -/
theorem st_alloc {t : TypeId} {i : TI} (hi : i.ok P t) (ho : o.op = .alloc t) (ht : i.zd.isTup = false) : Step P gl E O o id (some (.ref id 0)) (.new (.box true (AV.d i.zd).cells)) :=
  .run fun c E' O' al nt a w σ hgl hs hid hag => by
    obtain ⟨z, hz, hr, _⟩ := hi.zero w
    have h1 : RepS al w (okk c O' σ w) σ (.d i.zd) z := .of_d (hr _ _)
    have hn := hs.new (id := id) (o := .box true (AV.d i.zd).cells) (v := .pointer (some ⟨w.heap.size, 0, none⟩)) (Go1.alloc w (.cells z.cells t) none) hid (fun b hb => by simp [blkOf] at hb; omega) (fun ok' hk => box_new true h1 (by simpa [AV.isTup] using ht) (fun k hk => by cases hk) hk)
    exact ⟨.pointer (some ⟨w.heap.size, 0, none⟩), _, _, by simp [execOp, ho, Instr.alloc, hz, run_newVar], hn, rep_ref_new id (.inr rfl) (by simp [updσ])⟩

/-! ### Addresses -/
theorem fld_at {l : List Field} {fs : List (Nat × Nat × Nat)} (h : FldsOk P l fs) {n : Nat} {x : Nat × Nat × Nat} (hx : fs[n]? = some x) : ∃ f, l[n]? = some f ∧ f.offset = x.1 ∧ f.type = x.2.1 ∧ (P.info? x.2.1).map (·.size) = some x.2.2 ∧ x.2.2 ≠ 0 := by
  induction l generalizing fs n with
  | nil => cases fs with
    | nil => simp at hx
    | cons y r => simp [FldsOk] at h
  | cons f l ih => cases fs with
    | nil => simp at hx
    | cons y r =>
      obtain ⟨o, t, s⟩ := y
      simp only [FldsOk] at h
      cases n with
      | zero => simp at hx; subst hx; exact ⟨f, rfl, h.1, h.2.1, h.2.2.1, h.2.2.2.1⟩
      | succ n => simp at hx; simpa using ih h.2.2.2.2 hx

theorem run_fieldAt {s n : Nat} {i : TI} {fs : List (Nat × Nat × Nat)} {x : Nat × Nat × Nat} (hi : i.ok P s) (hk : i.k = .struct fs) (hx : fs[n]? = some x) (b off : Nat) (w : World) :
    (Instr.fieldAt s (.pointer (some ⟨b, off, none⟩)) n).run P w = .ok (.pointer (some ⟨b, off + x.1, none⟩)) w := by
  have h := hi.k
  rw [hk] at h
  obtain ⟨l, h1, h2⟩ := h
  obtain ⟨f, h3, h4, h5, h6, h7⟩ := fld_at h2 hx
  have h8 := run_size_of_map h6 w
  rw [← h5] at h8
  have h9 : l[n]? = some f := by simpa using h3
  have h10 : (sizeOf f.type).run P w = .ok x.2.2 w := by rw [h5] at h8 ⊢; exact h8
  simp [Instr.fieldAt, run_underlying h1, h9, Instr.sureAddr, fieldPlace, h10, h7, Addr.add_lit, h4]

theorem st_fieldAddr_ref {s n k off : Nat} {x : Operand} {i : TI} {fs : List (Nat × Nat × Nat)} {f : Nat × Nat × Nat} (hi : i.ok P s) (hk : i.k = .struct fs) (hf : fs[n]? = some f) (ho : o.op = .fieldAddr s x n) (hx : getE gl E x = some (.ref k off)) :
    Step P gl E O o id (some (.ref k (off + f.1))) .none :=
  .val fun c E' O' al nt a w σ hgl hs hag => by
    subst hgl
    have h1 := hs.get (hag.get (by simp [ho, Op.operands]) hx)
    obtain ⟨b, hb, hv⟩ := h1.toA.ref_inv
    refine ⟨.pointer (some ⟨b, off + f.1, none⟩), by simp [execOp, ho, hv, run_fieldAt hi hk hf], fun τ hτ => ?_⟩
    obtain ⟨b', hb', hv'⟩ := (h1 τ hτ).ref_inv
    rw [hv] at hv'
    injection hv' with hv'
    injection hv' with hv'
    injection hv' with hv' _ _
    subst hv'
    exact .ref k _ _ hb'

theorem st_fieldAddr_elt {s n k sz j off : Nat} {x : Operand} {i : TI} {fs : List (Nat × Nat × Nat)} {f : Nat × Nat × Nat} (hi : i.ok P s) (hk : i.k = .struct fs) (hf : fs[n]? = some f) (ho : o.op = .fieldAddr s x n) (hx : getE gl E x = some (.elt k sz j off)) :
    Step P gl E O o id (some (.elt k sz j (off + f.1))) .none :=
  .val fun c E' O' al nt a w σ hgl hs hag => by
    subst hgl
    have h1 := hs.get (hag.get (by simp [ho, Op.operands]) hx)
    obtain ⟨b, hb, hv⟩ := h1.toA.elt_inv
    refine ⟨.pointer (some ⟨b, j * sz + (off + f.1), none⟩), by simp [execOp, ho, hv, run_fieldAt hi hk hf, Nat.add_assoc], fun τ hτ => ?_⟩
    obtain ⟨b', hb', hv'⟩ := (h1 τ hτ).elt_inv
    rw [hv] at hv'
    injection hv' with hv'
    injection hv' with hv'
    injection hv' with hv' _ _
    subst hv'
    exact .elt k _ _ _ _ hb'

theorem rep_addr_drop {w : World} {ok : Nat → Prop} {cs : List D} {b off n : Nat} (h : Rep w ok (.addr cs) (.pointer (some ⟨b, off, none⟩))) : Rep w ok (.addr (cs.drop n)) (.pointer (some ⟨b, off + n, none⟩)) := by
  cases h with
  | addr _ _ _ f hok hc h1 h =>
    refine .addr _ b (off + n) (fun i => f (n + i)) hok (fun i hi => ?_) (fun i => h1 _) (fun i c hc' => ?_)
    · rw [List.length_drop] at hi
      rw [Nat.add_assoc]
      exact hc (n + i) (by omega)
    · rw [List.getElem?_drop] at hc'
      exact h _ c hc'

theorem rep_addr_inv {w : World} {ok : Nat → Prop} {cs : List D} {v : Value} (h : Rep w ok (.addr cs) v) : ∃ b off, v = .pointer (some ⟨b, off, none⟩) := by
  cases h with | addr _ b off => exact ⟨b, off, rfl⟩

theorem st_fieldAddr_addr {s n : Nat} {cs : List D} {x : Operand} {i : TI} {fs : List (Nat × Nat × Nat)} {f : Nat × Nat × Nat} (hi : i.ok P s) (hk : i.k = .struct fs) (hf : fs[n]? = some f) (ho : o.op = .fieldAddr s x n) (hx : getE gl E x = some (.d (.addr cs))) :
    Step P gl E O o id (some (.d (.addr (cs.drop f.1)))) .none :=
  .val fun c E' O' al nt a w σ hgl hs hag => by
    subst hgl
    have h1 := (hs.get (hag.get (by simp [ho, Op.operands]) hx)).d_inv
    obtain ⟨b, off, hv⟩ := rep_addr_inv h1
    rw [hv] at h1
    exact ⟨_, by simp [execOp, ho, hv, run_fieldAt hi hk hf], .of_d (rep_addr_drop h1)⟩

/-! ### Loads -/
theorem st_load_addr {t : Nat} {cs : List D} {x : Operand} {y : D} {i : TI} (hi : i.ok P t) (ho : o.op = .load t x) (hx : getE gl E x = some (.d (.addr cs))) (hy : readD i cs = some y) : Step P gl E O o id (some (.d y)) .none :=
  .val fun c E' O' al nt a w σ hgl hs hag => by
    subst hgl
    have h1 := (hs.get (hag.get (by simp [ho, Op.operands]) hx)).d_inv
    generalize hv : a.eval x = v at h1
    cases h1 with
    | addr _ b off f hok hc h1 h =>
      obtain ⟨v, hr, hv'⟩ := run_readD hi b off cs f hc h1 h hy
      exact ⟨v, by simp [execOp, ho, hv, Instr.loadAt, Instr.sureAddr, hr], .of_d hv'⟩

theorem box_cells {al : Nat → Prop} {w : World} {ok : Nat → Prop} {σ : Nat → Value} {fr : Bool} {cs : List AV} {v : Value} (h : RepSO al w ok σ (.box fr cs) v) :
    ∃ (b : Nat) (t : TypeId) (vs : List Value), v = .pointer (some ⟨b, 0, none⟩) ∧ w.heap[b]? = some (.cells vs.toArray t (0, 0)) ∧ vs.length = cs.length ∧ (∀ u ∈ vs, u.oneCell' = true) ∧ ∀ (i : Nat) c u, cs[i]? = some c → vs[i]? = some u → RepS al w ok σ c u := by
  have h0 := h.toO
  generalize ho : Obj1.box fr cs = ob at h0
  cases h0 with
  | row => cases ho
  | iter => cases ho
  | map => cases ho
  | box fr' cs' b t vs hb hl h1 _ =>
    cases ho
    refine ⟨b, t, vs, rfl, hb, hl, h1, fun i c u hc hu τ hτ => ?_⟩
    have h2 := h τ hτ
    cases h2 with
    | box _ _ _ t' vs' hb' _ _ h' =>
      rw [hb] at hb'
      injection hb' with hb'
      injection hb' with hb' _ _
      have : vs = vs' := by injection hb'
      subst this
      exact h' i c u hc hu

theorem st_load_ref {t k off : Nat} {fr : Bool} {cs : List AV} {x : Operand} {y : AV} {i : TI} (hi : i.ok P t) (ho : o.op = .load t x) (hx : getE gl E x = some (.ref k off)) (hO : O k = some (.box fr cs)) (hy : readA i (cs.drop off) = some y) : Step P gl E O o id (some y) .none :=
  .val fun c E' O' al nt a w σ hgl hs hag => by
    subst hgl
    have hm : x ∈ o.op.operands := by simp [ho, Op.operands]
    have h1 := hs.get (hag.get hm hx)
    have hO' : O' k = some (.box fr cs) := (hag.o x hm _ hx k (by simp [AV.ids])).trans hO
    obtain ⟨b, hb, hv⟩ := h1.toA.ref_inv
    obtain ⟨b', t', vs, e1, hh, hl, ho1, hc⟩ := box_cells (hs.own k _ hO').2
    rw [e1] at hb
    simp [blkOf] at hb
    subst hb
    obtain ⟨v, hr, hv'⟩ := run_readA (al := al) (ok := okk c O' σ w) (σ := σ) hi b' off (cs.drop off) (vs.drop off) (by simp; omega) (fun j v hj => by
        rw [List.getElem?_drop] at hj
        rw [cell_of_row w b' (off + j) vs.toArray t' (0, 0) hh]
        simpa using hj) (fun v hv => ho1 v (List.mem_of_mem_drop hv)) (fun j c u hj hu => by
        rw [List.getElem?_drop] at hj hu
        exact hc _ c u hj hu) hy
    exact ⟨v, by simp [execOp, ho, hv, Instr.loadAt, Instr.sureAddr, hr], hv'⟩
end
end Go.Proofs.Ytpibdbjlilpfiaa
/- One operation: own rows: their elements; stores; indexes into slices that are read. -/
namespace Go.Proofs.Ytpibdbjlilpfiaa
set_option linter.all false
open Go Go.RowKit

/-! ### Lists of elements of one length -/
theorem flat_len {α : Type} {sz : Nat} : ∀ {xs : List (List α)}, (∀ x ∈ xs, x.length = sz) → xs.flatten.length = xs.length * sz
  | [], _ => by simp
  | x :: r, h => by
    rw [List.flatten_cons, List.length_append, flat_len (fun y hy => h y (List.mem_cons_of_mem _ hy)), h x (List.mem_cons_self), List.length_cons, Nat.add_mul]
    omega

theorem flat_at {α : Type} {sz : Nat} : ∀ {xs : List (List α)}, (∀ x ∈ xs, x.length = sz) → ∀ {j : Nat} {x : List α}, xs[j]? = some x → ∀ i, i < sz → xs.flatten[j * sz + i]? = x[i]?
  | [], _, j, x, hx, _, _ => by simp at hx
  | y :: r, h, 0, x, hx, i, hi => by
    simp at hx
    subst hx
    rw [List.flatten_cons, Nat.zero_mul, Nat.zero_add, List.getElem?_append_left (by rw [h y List.mem_cons_self]; exact hi)]
  | y :: r, h, j + 1, x, hx, i, hi => by
    have hl := h y List.mem_cons_self
    rw [List.flatten_cons, List.getElem?_append_right (by rw [hl, Nat.add_mul]; omega), hl, show (j + 1) * sz + i - sz = j * sz + i by rw [Nat.add_mul]; omega]
    exact flat_at (fun z hz => h z (List.mem_cons_of_mem _ hz)) (by simpa using hx) i hi

theorem flat_set {α : Type} {sz : Nat} : ∀ {xs : List (List α)}, (∀ x ∈ xs, x.length = sz) → ∀ {j : Nat} {x : List α}, xs[j]? = some x → ∀ o u, o < sz → (xs.set j (x.set o u)).flatten = xs.flatten.set (j * sz + o) u
  | [], _, j, x, hx, _, _, _ => by simp at hx
  | y :: r, h, 0, x, hx, o, u, ho => by
    simp at hx
    subst hx
    have hl := h y List.mem_cons_self
    rw [List.set_cons_zero, List.flatten_cons, List.flatten_cons, Nat.zero_mul, Nat.zero_add, List.set_append_left _ _ (by omega)]
  | y :: r, h, j + 1, x, hx, o, u, ho => by
    have hl := h y List.mem_cons_self
    rw [List.set_cons_succ, List.flatten_cons, List.flatten_cons, flat_set (fun z hz => h z (List.mem_cons_of_mem _ hz)) (by simpa using hx) o u ho,
      List.set_append_right _ _ (by rw [hl, Nat.add_mul]; omega), hl, show (j + 1) * sz + o - sz = j * sz + o by rw [Nat.add_mul]; omega]

section
variable {P : Program} {E : Nat → Option AV} {O : Nat → Option Obj1} {gl : GL} {o : Oper} {id : Nat}

theorem row_facts {al : Nat → Prop} {w : World} {ok : Nat → Prop} {σ : Nat → Value} {fr : Bool} {t : TypeId} {sz : Nat} {xs : List (List D)} {v : Value} (h : RepSO al w ok σ (.row fr t sz xs) v) :
    ∃ vs : List Value, w.ownsRow 0 t sz v xs.length vs ∧ 0 < sz ∧ xs.length ≤ maxLen ∧ (∀ x ∈ xs, x.length = sz) ∧ (∀ u ∈ vs, u.oneCell' = true) ∧ ∀ (i : Nat) c u, xs.flatten[i]? = some c → vs[i]? = some u → Rep w ok c u := by
  have h0 := h.toO
  generalize ho : Obj1.row fr t sz xs = ob at h0
  cases h0 with
  | box => cases ho
  | iter => cases ho
  | map => cases ho
  | row fr' t' sz' xs' _ vs h1 h2 h3 h4 h5 h6 => cases ho; exact ⟨vs, h1, h2, h3, h4, h5, h6⟩

theorem row_mk {al : Nat → Prop} {w : World} {ok : Nat → Prop} {σ : Nat → Value} {fr : Bool} {t : TypeId} {sz : Nat} {xs : List (List D)} {v : Value} {vs : List Value} (h1 : w.ownsRow 0 t sz v xs.length vs) (h2 : 0 < sz) (h3 : xs.length ≤ maxLen) (h4 : ∀ x ∈ xs, x.length = sz)
    (h5 : ∀ u ∈ vs, u.oneCell' = true) (h6 : ∀ (i : Nat) c u, xs.flatten[i]? = some c → vs[i]? = some u → Rep w ok c u) : RepSO al w ok σ (.row fr t sz xs) v := fun _ _ => .row fr t sz xs v vs h1 h2 h3 h4 h5 h6

/-- A row that isn't empty has a block. -/
theorem row_form {w : World} {t : TypeId} {sz n : Nat} {v : Value} {vs : List Value} (h : w.ownsRow 0 t sz v n vs) (hn : 0 < n) : ∃ g cap, v = .slice (some ⟨g, 0, none⟩) n cap := by
  rcases h.2 with ⟨_, h0⟩ | ⟨g, cap, cur, rfl, _⟩
  · omega
  · exact ⟨g, cap, rfl⟩

theorem row_slice {w : World} {t : TypeId} {sz n : Nat} {v : Value} {vs : List Value} (h : w.ownsRow 0 t sz v n vs) : ∃ A cap, v = .slice A n cap := by
  rcases h.2 with ⟨h1, h0⟩ | ⟨g, cap, cur, rfl, _⟩
  · subst h0; exact ⟨none, 0, h1⟩
  · exact ⟨_, cap, rfl⟩

theorem st_load_elt {t k sz j off : Nat} {fr : Bool} {te : TypeId} {xs : List (List D)} {x : Operand} {e : List D} {y : D} {i : TI} (hi : i.ok P t) (ho : o.op = .load t x) (hx : getE gl E x = some (.elt k sz j off)) (hO : O k = some (.row fr te sz xs)) (he : xs[j]? = some e) (hy : readD i (e.drop off) = some y) :
    Step P gl E O o id (some (.d y)) .none :=
  .val fun c E' O' al nt a w σ hgl hs hag => by
    subst hgl
    have hm : x ∈ o.op.operands := by simp [ho, Op.operands]
    have h1 := hs.get (hag.get hm hx)
    have hO' : O' k = some (.row fr te sz xs) := (hag.o x hm _ hx k (by simp [AV.ids])).trans hO
    obtain ⟨b, hb, hv⟩ := h1.toA.elt_inv
    obtain ⟨vs, f1, f2, f3, f4, f5, f6⟩ := row_facts (hs.own k _ hO').2
    have hj : j < xs.length := (List.getElem?_eq_some_iff.1 he).1
    obtain ⟨g, cap, hg⟩ := row_form f1 (by omega)
    rw [hg] at hb
    simp [blkOf] at hb
    subst hb
    have hel : e.length = sz := f4 e (List.mem_of_getElem? he)
    have hfl := flat_len f4
    have hvl : vs.length = xs.length * sz := f1.1
    rw [hg] at f1
    have hjs : j * sz + sz ≤ xs.length * sz := by rw [← Nat.succ_mul]; exact Nat.mul_le_mul_right _ hj
    have hcell : ∀ m, m < (e.drop off).length → w.cell? ⟨g, j * sz + off + m, none⟩ = some (vs.getD (j * sz + off + m) undef) := fun m hm' => by
      rw [List.length_drop] at hm'
      rw [f1.cellAt _ (by omega), List.getElem?_eq_getElem (by omega)]
      simp [List.getD_eq_getElem?_getD, show j * sz + off + m < vs.length by omega]
    obtain ⟨v, hr, hv'⟩ := run_readD (w := w) (ok := okk c O' σ w) hi g (j * sz + off) (e.drop off) (fun m => vs.getD (j * sz + off + m) (.bool false))
      (fun m hm' => by
        rw [hcell m hm']
        rw [List.length_drop] at hm'
        simp [List.getD_eq_getElem?_getD, show j * sz + off + m < vs.length by omega])
      (fun m => by
        rw [List.getD_eq_getElem?_getD]
        cases hh : vs[j * sz + off + m]? with
        | none => rfl
        | some u => exact f5 u (List.mem_of_getElem? hh))
      (fun m c' hc' => by
        rw [List.getElem?_drop] at hc'
        have hlt : off + m < e.length := (List.getElem?_eq_some_iff.1 hc').1
        have h7 := flat_at f4 he (off + m) (by omega)
        rw [hc'] at h7
        have h8 : j * sz + off + m < vs.length := by omega
        refine f6 (j * sz + (off + m)) c' _ h7 ?_
        rw [← Nat.add_assoc, List.getD_eq_getElem?_getD, List.getElem?_eq_getElem h8]
        rfl) hy
    exact ⟨v, by simp [execOp, ho, hv, Instr.loadAt, Instr.sureAddr, hr], .of_d hv'⟩

/-! ### Stores -/
def splice {α : Type} : List α → Nat → List α → List α
  | cs, 0, new => new ++ cs.drop new.length
  | [], _ + 1, _ => []
  | c :: cs, n + 1, new => c :: splice cs n new

theorem splice_len {α : Type} : ∀ (cs : List α) (n : Nat) (new : List α), n + new.length ≤ cs.length → (splice cs n new).length = cs.length
  | cs, 0, new, h => by simp [splice]; omega
  | [], n + 1, new, h => by simp at h
  | c :: cs, n + 1, new, h => by simp [splice]; exact splice_len cs n new (by simp at h; omega)

theorem splice_get {α : Type} : ∀ (cs : List α) (n : Nat) (new : List α), n + new.length ≤ cs.length → ∀ i, (splice cs n new)[i]? = if n ≤ i ∧ i < n + new.length then new[i - n]? else cs[i]?
  | cs, 0, new, h, i => by
    simp only [splice, Nat.zero_le, true_and, Nat.zero_add, Nat.sub_zero]
    split
    · rename_i hlt; rw [List.getElem?_append_left hlt]
    · rename_i hlt; rw [List.getElem?_append_right (by omega), List.getElem?_drop]; congr 1; omega
  | [], n + 1, new, h, i => by simp at h
  | c :: cs, n + 1, new, h, 0 => by simp [splice]
  | c :: cs, n + 1, new, h, i + 1 => by
    simp only [splice, List.getElem?_cons_succ]
    rw [splice_get cs n new (by simp at h; omega) i]
    by_cases hc : n ≤ i ∧ i < n + new.length
    · rw [if_pos hc, if_pos (by omega)]; congr 1; omega
    · rw [if_neg hc, if_neg (by omega)]

/-- Cells stored, one behind the other. -/
theorem run_storeCells_list (P : Program) {t : TypeId} (g off : Nat) : ∀ (news : List Value) (vs : List Value) (i : Nat) (w : World), w.heap[g]? = some (.cells vs.toArray t (0, 0)) → off + i + news.length ≤ vs.length → (∀ u ∈ news, u.oneCell' = true) →
    ∃ w', (storeCells ⟨g, off, none⟩ news i).run P w = .ok () w' ∧ w'.heap[g]? = some (.cells (splice vs (off + i) news).toArray t (0, 0)) ∧ Go1 w w' (some g)
  | [], vs, i, w, hg, hl, h1 => by
    refine ⟨w, rfl, ?_, Go1.refl _ _⟩
    rw [hg]
    congr 2
    have : splice vs (off + i) [] = vs := by
      apply List.ext_getElem?
      intro j
      rw [splice_get vs (off + i) [] (by simpa using hl) j]
      simp
      intro h1 h2
      omega
    rw [this]
  | v :: r, vs, i, w, hg, hl, h1 => by
    simp only [List.length_cons] at hl
    have hlt : off + i < vs.length := by omega
    have hc : w.cell? ⟨g, off + i, none⟩ = some vs[off + i] := by rw [cell_of_row w g (off + i) vs.toArray t (0, 0) hg]; simp [hlt]
    have hf : w.frozen? ⟨g, off + i, none⟩ = false := frozen_of_row w g (off + i) vs.toArray t hg
    have hg' := heap_setCell_same w g (off + i) vs.toArray t v hg
    have hg2 : (w.setCell ⟨g, off + i, none⟩ v).heap[g]? = some (.cells (vs.set (off + i) v).toArray t (0, 0)) := by rw [hg']; simp
    obtain ⟨w', hr, hh, hgo⟩ := run_storeCells_list P g off r (vs.set (off + i) v) (i + 1) _ hg2 (by simp; omega) (fun u hu => h1 u (List.mem_cons_of_mem _ hu))
    refine ⟨w', ?_, ?_, ?_⟩
    · rw [storeCells]
      simp only [Sem.run_bind, Addr.add_lit, run_store P w _ v .plain (h1 v List.mem_cons_self), hc, hf, Bool.false_eq_true, if_false, Result.andThen_ok, hr]
    · rw [hh]
      congr 3
      apply List.ext_getElem?
      intro j
      rw [splice_get _ _ _ (by simp; omega), splice_get _ _ _ (by simp; omega), List.getElem?_set]
      simp only [List.length_cons]
      by_cases hj : off + i = j
      · subst hj
        rw [if_neg (by omega), if_pos rfl, if_pos hlt, if_pos (by omega), Nat.sub_self]
        rfl
      · rw [if_neg hj]
        by_cases hc : off + (i + 1) ≤ j ∧ j < off + (i + 1) + r.length
        · rw [if_pos hc, if_pos (by omega), show j - (off + i) = (j - (off + (i + 1))) + 1 by omega, List.getElem?_cons_succ]
        · rw [if_neg hc, if_neg (by omega)]
    · exact Go1.trans (Go1.setCell w ⟨g, off + i, none⟩ v) hgo

theorem st_store_ref {t k off : Nat} {fr : Bool} {cs : List AV} {x v : Operand} {y : AV} {i : TI} (hi : i.ok P t) (ho : o.op = .store t x v) (hx : getE gl E x = some (.ref k off)) (hO : O k = some (.box fr cs)) (hv : getE gl E v = some y)
    (ht : y.isTup = false) (hown : ∀ k', y = .own k' → ∃ ob, O k' = some ob) (hsz : y.cells.length = i.size) (hfit : off + y.cells.length ≤ cs.length) : Step P gl E O o id none (.turn k (.box fr (splice cs off y.cells))) :=
  .skip fun c E' O' al nt a w σ hgl hs hid hag => by
    subst hgl
    have hm : x ∈ o.op.operands := by simp [ho, Op.operands]
    have hm2 : v ∈ o.op.operands := by simp [ho, Op.operands]
    have h1 := hs.get (hag.get hm hx)
    have h2 := hs.get (hag.get hm2 hv)
    have hO' : O' k = some (.box fr cs) := (hag.o x hm _ hx k (by simp [AV.ids])).trans hO
    have hone : ∀ k, y = .own k → (a.eval v).oneCell' = true := fun k hk => by
      obtain ⟨ob, hob⟩ := hown k hk
      have h2' := hag.o v hm2 y hv k (by subst hk; simp [AV.ids])
      rw [hob] at h2'
      subst hk
      rw [h2.toA.own_inv]
      exact (hs.own k ob h2').2.toO.one
    obtain ⟨b, hb, hva⟩ := h1.toA.ref_inv
    obtain ⟨b', t', vs, e1, hh, hl, ho1, hc⟩ := box_cells (hs.own k _ hO').2
    rw [e1] at hb
    simp [blkOf] at hb
    subst hb
    obtain ⟨us, u1, u2, u3, u4⟩ := h2.cells ht hone
    obtain ⟨w', hr, hh', hgo⟩ := run_storeCells_list P b' off us vs 0 w hh (by omega) u3
    have hbk : blkOf (σ k) = some b' := by rw [e1]; rfl
    have hturn := (hs.al_ext (al' := fun j => al j ∨ j = id) fun _ => .inl).turn (w' := w') (o' := .box fr (splice cs off y.cells)) hO' (by rw [hbk]; exact hgo) rfl (fun ok' hk => by
      intro τ hτ
      rw [e1]
      refine .box fr _ b' t' (splice vs (off + 0) us) hh' ?_ ?_ ?_
      · rw [splice_len _ _ _ (by omega), splice_len _ _ _ hfit, hl]
      · intro u hu
        obtain ⟨j, hj⟩ := List.mem_iff_getElem?.1 hu
        rw [splice_get _ _ _ (by omega)] at hj
        split at hj
        · exact u3 u (List.mem_of_getElem? hj)
        · exact ho1 u (List.mem_of_getElem? hj)
      · intro j c' u hc' hu
        rw [splice_get _ _ _ (by omega)] at hu
        rw [splice_get _ _ _ hfit] at hc'
        simp only [Nat.add_zero] at hu
        rw [u2] at hu
        split at hu
        · rename_i hjj
          rw [if_pos hjj] at hc'
          exact (((u4 _ _ _ hc' hu).ext (al' := fun j => al j ∨ j = id) (fun _ => .inl) fun _ _ => rfl) τ hτ).mono hk
        · rename_i hjj
          rw [if_neg hjj] at hc'
          exact (((hc _ _ _ hc' hu).ext (al' := fun j => al j ∨ j = id) (fun _ => .inl) fun _ _ => rfl) τ hτ).mono hk)
    refine ⟨w', σ, ?_, hturn⟩
    have hsz' : (a.eval v).cells.size = i.size := by rw [u1]; simp [u2, hsz]
    have hus : us.length = i.size := by omega
    simp [execOp, ho, hva, Instr.storeAt, Instr.sureAddr, storeVar, hi.sizeOf, u1, hus, hr]
end
end Go.Proofs.Ytpibdbjlilpfiaa
/- One operation: indexes, lengths, cuts, literals, make, append. -/
namespace Go.Proofs.Ytpibdbjlilpfiaa
set_option linter.all false
open Go Go.RowKit

section
variable {P : Program} {E : Nat → Option AV} {O : Nat → Option Obj1} {gl : GL} {o : Oper} {id : Nat}

theorem hO_of {c : Ctx} {E' : Nat → Option AV} {O' : Nat → Option Obj1} {x : Operand} {y : AV} {k : Nat} {ob : Obj1} (hag : Agree gl E E' O O' o) (hm : x ∈ o.op.operands) (hx : getE gl E x = some y) (hk : k ∈ y.ids) (hO : O k = some ob) (_ : c.gl = gl) : O' k = some ob := (hag.o x hm y hx k hk).trans hO

/-! ### Addresses of elements -/
theorem rep_slice_at {w : World} {ok : Nat → Prop} {xs : List (List D)} {v : Value} (h : Rep w ok (.slice xs) v) {j : Nat} {e : List D} (he : xs[j]? = some e) :
    ∃ b off cap, v = .slice (some ⟨b, off, none⟩) xs.length cap ∧ Rep w ok (.addr e) (.pointer (some ⟨b, off + j * e.length, none⟩)) := by
  cases h with
  | nil => simp at he
  | empty a cap => simp at he
  | slice _ b off cap sz f hok hcap hmax hsz hc h1 h =>
    have hl : e.length = sz := hsz e (List.mem_of_getElem? he)
    have hj : j < xs.length := (List.getElem?_eq_some_iff.1 he).1
    have hfl := flat_len hsz
    have hjs : j * sz + sz ≤ xs.length * sz := by rw [← Nat.succ_mul]; exact Nat.mul_le_mul_right _ hj
    refine ⟨b, off, cap, rfl, .addr e b (off + j * e.length) (fun i => f (j * sz + i)) hok (fun i hi => ?_) (fun i => h1 _) (fun i c hc' => ?_)⟩
    · rw [hl] at hi ⊢
      rw [Nat.add_assoc]
      exact hc _ (by omega)
    · have hlt : i < e.length := (List.getElem?_eq_some_iff.1 hc').1
      exact h _ c ((flat_at hsz he i (by omega)).trans hc')

theorem st_indexAddr_slice {t te sz j : Nat} {k : IntKind} {xs : List (List D)} {e : List D} {x y : Operand} {n : Int} {i : TI} (hi : i.ok P t) (hk : i.k = .slice te sz) (ho : o.op = .indexAddr t x y) (hx : getE gl E x = some (.d (.slice xs)))
    (hy : getE gl E y = some (.d (.int k n))) (h0 : 0 ≤ n) (hj : n.toNat = j) (he : xs[j]? = some e) (hl : e.length = sz) : Step P gl E O o id (some (.d (.addr e))) .none :=
  .val fun c E' O' al nt a w σ hgl hs hag => by
    subst hgl
    have h1 := (hs.get (hag.get (x := x) (by simp [ho, Op.operands]) hx)).d_inv
    have h2 := rep_int (hs.get (hag.get (x := y) (by simp [ho, Op.operands]) hy))
    obtain ⟨b, off, cap, hv, hr⟩ := rep_slice_at h1 he
    have hb := hi.k
    rw [hk] at hb
    have hlt : j < xs.length := (List.getElem?_eq_some_iff.1 he).1
    have hin : 0 ≤ n ∧ n < (xs.length : Int) := ⟨h0, by omega⟩
    refine ⟨_, ?_, .of_d hr⟩
    simp [execOp, ho, hv, h2, Instr.indexAt, asIntOf, run_underlying hb.1, run_size_of_map hb.2, hin, Addr.add_lit, hj, hl]

theorem st_indexAddr_own {t te sz k' : Nat} {k : IntKind} {fr : Bool} {te' : TypeId} {xs : List (List D)} {x y : Operand} {n : Int} {i : TI} (hi : i.ok P t) (hk : i.k = .slice te sz) (ho : o.op = .indexAddr t x y) (hx : getE gl E x = some (.own k')) (hO : O k' = some (.row fr te' sz xs))
    (hy : getE gl E y = some (.d (.int k n))) (h0 : 0 ≤ n) (hj : n < xs.length) : Step P gl E O o id (some (.elt k' sz n.toNat 0)) .none :=
  .val fun c E' O' al nt a w σ hgl hs hag => by
    subst hgl
    have hm : x ∈ o.op.operands := by simp [ho, Op.operands]
    have h1 := hs.get (hag.get hm hx)
    have h2 := rep_int (hs.get (hag.get (x := y) (by simp [ho, Op.operands]) hy))
    have hO' : O' k' = some (.row fr te' sz xs) := (hag.o x hm _ hx k' (by simp [AV.ids])).trans hO
    obtain ⟨vs, f1, f2, f3, f4, f5, f6⟩ := row_facts (hs.own k' _ hO').2
    obtain ⟨g, cap, hg⟩ := row_form f1 (by omega)
    have hb := hi.k
    rw [hk] at hb
    have hv := h1.toA.own_inv
    rw [hg] at hv
    have hin : 0 ≤ n ∧ n < (xs.length : Int) := ⟨h0, hj⟩
    refine ⟨.pointer (some ⟨g, n.toNat * sz + 0, none⟩), ?_, fun τ hτ => .elt k' sz n.toNat 0 g ?_⟩
    · simp [execOp, ho, hv, h2, Instr.indexAt, asIntOf, run_underlying hb.1, run_size_of_map hb.2, hin, Addr.add_lit]
    · rw [hτ k' (hs.own k' _ hO').1, hg]; rfl

theorem st_indexAddr_arr {t te sz len k' off : Nat} {k : IntKind} {x y : Operand} {n : Int} {i : TI} (hi : i.ok P t) (hk : i.k = .arr len te sz) (ho : o.op = .indexAddr t x y) (hx : getE gl E x = some (.ref k' off))
    (hy : getE gl E y = some (.d (.int k n))) (h0 : 0 ≤ n) (hj : n < len) : Step P gl E O o id (some (.ref k' (off + n.toNat * sz))) .none :=
  .val fun c E' O' al nt a w σ hgl hs hag => by
    subst hgl
    have h1 := hs.get (hag.get (x := x) (by simp [ho, Op.operands]) hx)
    have h2 := rep_int (hs.get (hag.get (x := y) (by simp [ho, Op.operands]) hy))
    have hb := hi.k
    rw [hk] at hb
    obtain ⟨b, hb1, hv⟩ := h1.toA.ref_inv
    have hin : 0 ≤ n ∧ n < (len : Int) := ⟨h0, hj⟩
    refine ⟨.pointer (some ⟨b, off + n.toNat * sz, none⟩), ?_, fun τ hτ => ?_⟩
    · simp [execOp, ho, hv, h2, Instr.indexAt, Instr.sureAddr, asIntOf, run_underlying hb.1, run_size_of_map hb.2, hin, Addr.add_lit]
    · obtain ⟨b', hb', hv'⟩ := (h1 τ hτ).ref_inv
      rw [hv] at hv'
      injection hv' with hv'
      injection hv' with hv'
      injection hv' with hv' _ _
      subst hv'
      exact .ref k' _ _ hb'

theorem st_indexAddr_arrd {t te sz len : Nat} {k : IntKind} {cs : List D} {x y : Operand} {n : Int} {i : TI} (hi : i.ok P t) (hk : i.k = .arr len te sz) (ho : o.op = .indexAddr t x y) (hx : getE gl E x = some (.d (.addr cs)))
    (hy : getE gl E y = some (.d (.int k n))) (h0 : 0 ≤ n) (hj : n < len) : Step P gl E O o id (some (.d (.addr (cs.drop (n.toNat * sz))))) .none :=
  .val fun c E' O' al nt a w σ hgl hs hag => by
    subst hgl
    have h1 := (hs.get (hag.get (x := x) (by simp [ho, Op.operands]) hx)).d_inv
    have h2 := rep_int (hs.get (hag.get (x := y) (by simp [ho, Op.operands]) hy))
    have hb := hi.k
    rw [hk] at hb
    obtain ⟨b, off, hv⟩ := rep_addr_inv h1
    rw [hv] at h1
    have hin : 0 ≤ n ∧ n < (len : Int) := ⟨h0, hj⟩
    refine ⟨_, ?_, .of_d (rep_addr_drop (n := n.toNat * sz) h1)⟩
    simp [execOp, ho, hv, h2, Instr.indexAt, Instr.sureAddr, asIntOf, run_underlying hb.1, run_size_of_map hb.2, hin, Addr.add_lit]

theorem st_index_str {t : Nat} {k : IntKind} {s : ByteArray} {x y : Operand} {n : Int} {i : TI} (hi : i.ok P t) (hk : i.k = .str) (ho : o.op = .index t x y) (hx : getE gl E x = some (.d (.str s)))
    (hy : getE gl E y = some (.d (.int k n))) (h0 : 0 ≤ n) (hj : n.toNat < s.size) : Step P gl E O o id (some (.d (.int .u8 (s[n.toNat]'hj).toNat))) .none :=
  .val fun c E' O' al nt a w σ hgl hs hag => by
    subst hgl
    obtain ⟨h1, _⟩ := rep_str (hs.get (hag.get (x := x) (by simp [ho, Op.operands]) hx))
    have h2 := rep_int (hs.get (hag.get (x := y) (by simp [ho, Op.operands]) hy))
    have hb := hi.k
    rw [hk] at hb
    refine ⟨.int .u8 (s[n.toNat]'hj).toNat, ?_, .of_d (.int _ _)⟩
    simp [execOp, ho, h1, h2, Instr.index, asIntOf, run_underlying hb, h0, hj]

/-! ### Parts of values -/
theorem part_run {t : Nat} {i : TI} (hi : i.ok P t) {al : Nat → Prop} {w : World} {ok : Nat → Prop} {σ : Nat → Value} {cs : List AV} {vs : List Value} (off : Nat) (hl : vs.length = cs.length) (h1 : ∀ v ∈ vs, v.oneCell' = true)
    (h : ∀ (j : Nat) c v, cs[j]? = some c → vs[j]? = some v → RepS al w ok σ c v) {y : AV} (hy : readA i (cs.drop off) = some y) : ∃ v, (part t vs.toArray off).run P w = .ok v w ∧ RepS al w ok σ y v := by
  unfold readA at hy
  cases ha : i.k.agg <;> rw [ha] at hy
  · simp only [Bool.false_eq_true, if_false, List.getElem?_drop, Nat.add_zero] at hy
    have hlt : off < vs.length := by rw [hl]; exact (List.getElem?_eq_some_iff.1 hy).1
    have h2 : vs[off]? = some vs[off] := List.getElem?_eq_getElem hlt
    exact ⟨vs[off], by simp [part, hi.isAgg, ha, hlt], h off y _ hy h2⟩
  · simp only [if_true] at hy
    split at hy
    · rename_i hle
      injection hy with hy
      subst hy
      rw [List.length_drop] at hle
      refine ⟨.agg ((vs.drop off).take i.size).toArray, ?_, fun τ hτ => .agg _ _ (by simp; omega) (fun j c v hj hv => ?_) (fun v hv => ?_)⟩
      · simp [part, hi.isAgg, hi.sizeOf, ha]
      · rw [List.getElem?_take] at hj hv
        split at hj
        · rename_i hlt
          rw [if_pos hlt, List.getElem?_drop] at hv
          rw [List.getElem?_drop] at hj
          exact h _ c v hj hv τ hτ
        · cases hj
      · exact h1 v (List.mem_of_mem_drop (List.mem_of_mem_take hv))
    · cases hy

theorem st_field {s n : Nat} {x : Operand} {y z : AV} {i fi : TI} {fs : List (Nat × Nat × Nat)} {f : Nat × Nat × Nat} (hi : i.ok P s) (hk : i.k = .struct fs) (hf : fs[n]? = some f) (hfi : fi.ok P f.2.1) (ho : o.op = .field s x n) (hx : getE gl E x = some y)
    (hagg : (∃ cs, y = .agg cs) ∨ ∃ cs, y = .d (.agg cs)) (hz : readA fi (y.cells.drop f.1) = some z) : Step P gl E O o id (some z) .none :=
  .val fun c E' O' al nt a w σ hgl hs hag => by
    subst hgl
    have h1 := hs.get (hag.get (x := x) (by simp [ho, Op.operands]) hx)
    obtain ⟨vs, v1, v2, v3, v4⟩ := h1.cells (by rcases hagg with ⟨cs, rfl⟩ | ⟨cs, rfl⟩ <;> rfl) (fun k hk => by rcases hagg with ⟨cs, rfl⟩ | ⟨cs, rfl⟩ <;> cases hk)
    have hv : a.eval x = .agg vs.toArray := by
      rcases hagg with ⟨cs, rfl⟩ | ⟨cs, rfl⟩
      · generalize a.eval x = v at h1 v1
        cases h1.toA with
        | agg _ vs' => simp only [Value.cells] at v1; rw [v1]
      · generalize a.eval x = v at h1 v1
        cases h1.d_inv with
        | agg _ vs' => simp only [Value.cells] at v1; rw [v1]
    obtain ⟨v, hr, hv'⟩ := part_run hfi f.1 v2 v3 v4 hz
    have hb := hi.k
    rw [hk] at hb
    obtain ⟨l, h3, h4⟩ := hb
    obtain ⟨g, g1, g2, g3, _, _⟩ := fld_at h4 hf
    have g1' : l[n]? = some g := by simpa using g1
    refine ⟨v, ?_, hv'⟩
    simp [execOp, ho, hv, Instr.field, run_underlying h3, g1', asAgg, g2, g3, hr]

theorem st_extract_d {x : Operand} {n : Nat} {cs : List D} {y : D} (ho : o.op = .extract x n) (hx : getE gl E x = some (.d (.tup cs))) (hy : cs[n]? = some y) : Step P gl E O o id (some (.d y)) .none :=
  .val fun c E' O' al nt a w σ hgl hs hag => by
    subst hgl
    have h1 := (hs.get (hag.get (x := x) (by simp [ho, Op.operands]) hx)).d_inv
    generalize hv : a.eval x = v at h1
    cases h1 with
    | tup _ vs hl h =>
      have hlt : n < vs.length := by rw [hl]; exact (List.getElem?_eq_some_iff.1 hy).1
      have h2 : vs[n]? = some vs[n] := List.getElem?_eq_getElem hlt
      exact ⟨vs[n], by simp [execOp, ho, hv, Instr.extract, hlt], .of_d (h n y _ hy h2)⟩

theorem st_extract_a {x : Operand} {n : Nat} {cs : List AV} {y : AV} (ho : o.op = .extract x n) (hx : getE gl E x = some (.tup cs)) (hy : cs[n]? = some y) : Step P gl E O o id (some y) .none :=
  .val fun c E' O' al nt a w σ hgl hs hag => by
    subst hgl
    have h1 := hs.get (hag.get (x := x) (by simp [ho, Op.operands]) hx)
    generalize hv : a.eval x = v at h1
    have h0 := h1.toA
    cases h0 with
    | tup _ vs hl h =>
      have hlt : n < vs.length := by rw [hl]; exact (List.getElem?_eq_some_iff.1 hy).1
      have h2 : vs[n]? = some vs[n] := List.getElem?_eq_getElem hlt
      refine ⟨vs[n], by simp [execOp, ho, hv, Instr.extract, hlt], fun τ hτ => ?_⟩
      generalize hu : (Value.tuple vs.toArray) = u at h1
      have h3 := h1 τ hτ
      generalize hcc : AV.tup cs = cc at h3
      cases h3 with
      | tup cs' vs' hl' h' =>
        cases hcc
        injection hu with hu
        have : vs = vs' := by injection hu
        subst this
        exact h' n y _ hy h2
      | _ => cases hcc

/-! ### Lengths -/
theorem st_len {t n : Nat} {ts : Array TypeId} {x : Operand} {y : AV} {i : TI} (hi : i.ok P t) (hts : ts = #[t]) (ho : o.op = .call { callee := .builtin .len, args := #[x], argTypes := ts }) (hx : getE gl E x = some y)
    (hn : (∃ te sz xs, i.k = .slice te sz ∧ y = .d (.slice xs) ∧ n = xs.length) ∨ (∃ te sz, i.k = .slice te sz ∧ y = .d .nils ∧ n = 0) ∨ (∃ s, i.k = .str ∧ y = .d (.str s) ∧ n = s.size) ∨
      ∃ te sz k fr te' sz' xs, i.k = .slice te sz ∧ y = .own k ∧ O k = some (.row fr te' sz' xs) ∧ n = xs.length) : Step P gl E O o id (some (.d (.int .i64 n))) .none :=
  .val fun c E' O' al nt a w σ hgl hs hag => by
    subst hgl
    subst hts
    have hm : x ∈ o.op.operands := by simp [ho, Op.operands, Call.operands]
    have h1 := hs.get (hag.get hm hx)
    have hb := hi.k
    refine ⟨.int .i64 n, ?_, .of_d (.int _ _)⟩
    rcases hn with ⟨te, sz, xs, hk, rfl, rfl⟩ | ⟨te, sz, hk, rfl, rfl⟩ | ⟨s, hk, rfl, rfl⟩ | ⟨te, sz, k, fr, te', sz', xs, hk, rfl, hO, rfl⟩ <;> rw [hk] at hb
    · have h2 := h1.d_inv
      generalize hv : a.eval x = v at h2
      cases h2 with
      | nil => simp [execOp, ho, resolve, invoke, builtin, hv, Builtin.len_, run_underlying hb.1, goInt]
      | empty => simp [execOp, ho, resolve, invoke, builtin, hv, Builtin.len_, run_underlying hb.1, goInt]
      | slice => simp [execOp, ho, resolve, invoke, builtin, hv, Builtin.len_, run_underlying hb.1, goInt]
    · have h2 := h1.d_inv
      generalize hv : a.eval x = v at h2
      cases h2
      simp [execOp, ho, resolve, invoke, builtin, hv, Builtin.len_, run_underlying hb.1, goInt]
    · obtain ⟨hv, _⟩ := rep_str h1
      simp [execOp, ho, resolve, invoke, builtin, hv, Builtin.len_, run_underlying hb, goInt]
    · have hO' : O' k = some (.row fr te' sz' xs) := (hag.o x hm _ hx k (by simp [AV.ids])).trans hO
      obtain ⟨vs, f1, _⟩ := row_facts (hs.own k _ hO').2
      obtain ⟨A, cap, hA⟩ := row_slice f1
      have hv := h1.toA.own_inv
      rw [hA] at hv
      simp [execOp, ho, resolve, invoke, builtin, hv, Builtin.len_, run_underlying hb.1, goInt]

/-! ### min, max of whole numbers -/
theorem st_min {ts : Array TypeId} {x y : Operand} {k k' : IntKind} {m n : Int} (ho : o.op = .call { callee := .builtin .min, args := #[x, y], argTypes := ts }) (hx : getE gl E x = some (.d (.int k m))) (hy : getE gl E y = some (.d (.int k' n))) :
    Step P gl E O o id (some (.d (.int k (min m n)))) .none :=
  .val fun c E' O' al nt a w σ hgl hs hag => by
    subst hgl
    have h1 := rep_int (hs.get (hag.get (x := x) (by simp [ho, Op.operands, Call.operands]) hx))
    have h2 := rep_int (hs.get (hag.get (x := y) (by simp [ho, Op.operands, Call.operands]) hy))
    refine ⟨.int k (min m n), ?_, .of_d (.int _ _)⟩
    have : (if n < m then n else m) = min m n := by rw [Int.min_def]; split <;> split <;> omega
    simp [execOp, ho, resolve, invoke, builtin, h1, h2, Builtin.min_, Builtin.min2, this]

theorem st_max {ts : Array TypeId} {x y : Operand} {k k' : IntKind} {m n : Int} (ho : o.op = .call { callee := .builtin .max, args := #[x, y], argTypes := ts }) (hx : getE gl E x = some (.d (.int k m))) (hy : getE gl E y = some (.d (.int k' n))) :
    Step P gl E O o id (some (.d (.int k (max m n)))) .none :=
  .val fun c E' O' al nt a w σ hgl hs hag => by
    subst hgl
    have h1 := rep_int (hs.get (hag.get (x := x) (by simp [ho, Op.operands, Call.operands]) hx))
    have h2 := rep_int (hs.get (hag.get (x := y) (by simp [ho, Op.operands, Call.operands]) hy))
    refine ⟨.int k (max m n), ?_, .of_d (.int _ _)⟩
    have : (if m < n then n else m) = max m n := by rw [Int.max_def]; split <;> split <;> omega
    simp [execOp, ho, resolve, invoke, builtin, h1, h2, Builtin.max_, Builtin.max2, this]
end
end Go.Proofs.Ytpibdbjlilpfiaa
/- One operation: struct literals, slice literals, make, append, cuts, conversions. -/
namespace Go.Proofs.Ytpibdbjlilpfiaa
set_option linter.all false
open Go Go.RowKit

/-- Cells, one by one. -/
structure LRep (al : Nat → Prop) (w : World) (ok : Nat → Prop) (σ : Nat → Value) (cs : List AV) (vs : List Value) : Prop where
  len : vs.length = cs.length
  one : ∀ v ∈ vs, v.oneCell' = true
  at_ : ∀ (i : Nat) c v, cs[i]? = some c → vs[i]? = some v → RepS al w ok σ c v

theorem LRep.splice {al : Nat → Prop} {w : World} {ok : Nat → Prop} {σ : Nat → Value} {cs ds : List AV} {vs us : List Value} (h : LRep al w ok σ cs vs) (k : LRep al w ok σ ds us) {n : Nat} (hn : n + ds.length ≤ cs.length) :
    LRep al w ok σ (Ytpibdbjlilpfiaa.splice cs n ds) (Ytpibdbjlilpfiaa.splice vs n us) := by
  have hv : n + us.length ≤ vs.length := by rw [k.len, h.len]; exact hn
  refine ⟨by rw [splice_len _ _ _ hn, splice_len _ _ _ hv, h.len], fun v hm => ?_, fun i c v hc hu => ?_⟩
  · obtain ⟨j, hj⟩ := List.mem_iff_getElem?.1 hm
    rw [splice_get _ _ _ hv] at hj
    split at hj
    · exact k.one v (List.mem_of_getElem? hj)
    · exact h.one v (List.mem_of_getElem? hj)
  · rw [splice_get _ _ _ hv] at hu
    rw [splice_get _ _ _ hn] at hc
    rw [k.len] at hu
    split at hu
    · rename_i hcnd
      rw [if_pos hcnd] at hc
      exact k.at_ _ _ _ hc hu
    · rename_i hcnd
      rw [if_neg hcnd] at hc
      exact h.at_ _ _ _ hc hu

theorem foldl_splice (off : Nat) (l : List Value) (vs : List Value) (h : off + l.length ≤ vs.length) :
    (l.toArray.zipIdx.foldl (fun cs (x : Value × Nat) => cs.setIfInBounds (off + x.2) x.1) vs.toArray) = (splice vs off l).toArray := by
  have h1 := Go.Great.foldl_set off l 0 vs.toArray
  have e : (l.toArray.zipIdx.foldl (fun cs (x : Value × Nat) => cs.setIfInBounds (off + x.2) x.1) vs.toArray) = (l.zipIdx 0).foldl (fun cs (x : Value × Nat) => cs.setIfInBounds (off + x.2) x.1) vs.toArray := by
    rw [← Array.foldl_toList, Array.toList_zipIdx]
  rw [e]
  apply Array.ext_getElem?
  intro k
  rw [h1.2 k]
  simp only [List.getElem?_toArray, List.size_toArray, Nat.add_zero]
  rw [splice_get _ _ _ h]
  by_cases hc : off ≤ k ∧ k < off + l.length
  · rw [if_pos hc, if_pos (by omega)]
  · rw [if_neg hc, if_neg (by omega)]

/-- 'Instr.fill' over abstract cells. -/
def fillA (place : Nat → Option (Nat × Nat)) : List AV → List (Nat × AV) → Option (List AV)
  | cells, [] => some cells
  | cells, (i, y) :: rest => match place i with
    | none => none
    | some (off, size) => if y.isTup = false ∧ y.cells.length = size ∧ off + size ≤ cells.length then fillA place (splice cells off y.cells) rest else none

theorem fill_run {al : Nat → Prop} {w : World} {ok : Nat → Prop} {σ : Nat → Value} {place : Nat → Option (Nat × Nat)} : ∀ (parts : List (Nat × AV)) (vals : List (Nat × Value)) (cells : List AV) (vs : List Value) (out : List AV),
    LRep al w ok σ cells vs → vals.map (·.1) = parts.map (·.1) → (∀ (i : Nat) y v, parts[i]? = some y → vals[i]? = some v → RepS al w ok σ y.2 v.2 ∧ ∀ k, y.2 = .own k → v.2.oneCell' = true) →
    fillA place cells parts = some out → ∃ us : List Value, Instr.fill place vs.toArray vals = some us.toArray ∧ LRep al w ok σ out us
  | [], vals, cells, vs, out, h, hm, _, hf => by
    have : vals = [] := by cases vals with | nil => rfl | cons => simp at hm
    subst this
    simp only [fillA, Option.some.injEq] at hf
    subst hf
    exact ⟨vs, rfl, h⟩
  | (i, y) :: parts, [], cells, vs, out, h, hm, _, hf => by simp at hm
  | (i, y) :: parts, (i', v) :: vals, cells, vs, out, h, hm, hp, hf => by
    simp only [List.map_cons, List.cons.injEq] at hm
    obtain ⟨rfl, hm⟩ := hm
    simp only [fillA] at hf
    cases hpl : place i' with
    | none => rw [hpl] at hf; cases hf
    | some os =>
      obtain ⟨off, size⟩ := os
      rw [hpl] at hf
      simp only at hf
      split at hf
      · rename_i hc
        obtain ⟨hc1, hc2, hc3⟩ := hc
        obtain ⟨hr, ho⟩ := hp 0 (i', y) (i', v) rfl rfl
        obtain ⟨us, u1, u2, u3, u4⟩ := RepS.cells (x := y) (v := v) hr hc1 ho
        have hL := h.splice ⟨u2, u3, u4⟩ (n := off) (by omega)
        obtain ⟨rs, hr1, hr2⟩ := fill_run parts vals _ _ out hL hm (fun j y' v' hj hv => hp (j + 1) y' v' (by simpa using hj) (by simpa using hv)) hf
        refine ⟨rs, ?_, hr2⟩
        unfold Instr.fill
        have hsz : v.cells.size = size := by rw [u1]; simp [u2, hc2]
        have hvl : off + size ≤ vs.length := by rw [h.len]; exact hc3
        simp only [hpl, hsz]
        rw [if_neg (by simp; omega), u1, foldl_splice off us vs (by omega)]
        exact hr1
      · cases hf

/-- A struct all of whose cells are pure is pure. -/
def allD : List AV → Option (List D)
  | [] => some []
  | .d x :: r => match allD r with
    | some xs => some (x :: xs)
    | none => none
  | _ :: _ => none
theorem allD_eq : ∀ {cs : List AV} {ds : List D}, allD cs = some ds → cs = ds.map .d
  | [], ds, h => by simp [allD] at h; subst h; rfl
  | x :: r, ds, h => by
    cases x <;> simp only [allD] at h <;> try cases h
    cases hr : allD r with
    | none => rw [hr] at h; cases h
    | some xs => rw [hr] at h; injection h with h; subst h; rw [allD_eq hr]; rfl
def mkAgg (cs : List AV) : AV := match allD cs with
  | some ds => .d (.agg ds)
  | none => .agg cs
theorem mkAgg_rep {al : Nat → Prop} {w : World} {ok : Nat → Prop} {σ : Nat → Value} {cs : List AV} {v : Value} (h : RepS al w ok σ (.agg cs) v) : RepS al w ok σ (mkAgg cs) v := by
  unfold mkAgg
  split
  · rename_i ds hd
    have := allD_eq hd
    subst this
    have h0 := h.toA
    generalize hc : AV.agg (ds.map .d) = cc at h0
    cases h0 with
    | agg cs' vs hl h' h1 =>
      cases hc
      refine .of_d (.agg ds vs (by simpa using hl) (fun i c v hc hv => ?_) h1)
      exact (h' i (.d c) v (by simp [hc]) hv).d_inv
    | _ => cases hc
  · exact h

theorem LRep.agg {al : Nat → Prop} {w : World} {ok : Nat → Prop} {σ : Nat → Value} {cs : List AV} {vs : List Value} (h : LRep al w ok σ cs vs) : RepS al w ok σ (.agg cs) (.agg vs.toArray) := fun τ hτ => .agg cs vs h.len (fun i c v hc hv => h.at_ i c v hc hv τ hτ) h.one

section
variable {P : Program} {E : Nat → Option AV} {O : Nat → Option Obj1} {gl : GL} {o : Oper} {id : Nat}

/-- The operands of a literal's parts. -/
def getParts (g : Operand → Option AV) : List (Nat × Operand) → Option (List (Nat × AV))
  | [] => some []
  | (i, x) :: r => match g x, getParts g r with
    | some y, some ys => some ((i, y) :: ys)
    | _, _ => none

theorem getParts_len {g : Operand → Option AV} : ∀ {l : List (Nat × Operand)} {ys : List (Nat × AV)}, getParts g l = some ys → ys.map (·.1) = l.map (·.1) ∧ ∀ (i : Nat) p y, l[i]? = some p → ys[i]? = some y → g p.2 = some y.2
  | [], ys, h => by simp [getParts] at h; subst h; simp
  | (i, x) :: r, ys, h => by
    simp only [getParts] at h
    split at h
    · rename_i y ys' h1 h2
      injection h with h
      subst h
      obtain ⟨h3, h4⟩ := getParts_len h2
      refine ⟨by simp [h3], fun j p z hp hz => ?_⟩
      cases j with
      | zero => simp at hp hz; subst hp; subst hz; exact h1
      | succ j => exact h4 j p z (by simpa using hp) (by simpa using hz)
    · cases h

/-- The operands that are own rows are rows. -/
def ownsOk (O : Nat → Option Obj1) (ys : List (Nat × AV)) : Prop := ∀ p ∈ ys, ∀ k, p.2 = .own k → ∃ ob, O k = some ob

theorem parts_rep {c : Ctx} {E' : Nat → Option AV} {O' : Nat → Option Obj1} {al : Nat → Prop} {nt : Nat} {a : Act} {w : World} {σ : Nat → Value} (hs : SRep c E' O' al nt a w σ) (hag : Agree c.gl E E' O O' o) {parts : Array (Nat × Operand)}
    (hm : ∀ p ∈ parts.toList, p.2 ∈ o.op.operands) {ys : List (Nat × AV)} (hy : getParts (getE c.gl E) parts.toList = some ys) (ho : ownsOk O ys) :
    (parts.map fun (i, x) => (i, a.eval x)).toList.map (·.1) = ys.map (·.1) ∧ ∀ (i : Nat) y v, ys[i]? = some y → (parts.map fun (i, x) => (i, a.eval x)).toList[i]? = some v → RepS al w (okk c O' σ w) σ y.2 v.2 ∧ ∀ k, y.2 = .own k → v.2.oneCell' = true := by
  obtain ⟨h1, h2⟩ := getParts_len hy
  refine ⟨?_, fun i y v hyi hv => ?_⟩
  · rw [h1, Array.toList_map, List.map_map]
    rfl
  · rw [Array.toList_map, List.getElem?_map, Option.map_eq_some_iff] at hv
    obtain ⟨p, hp, rfl⟩ := hv
    have hg := h2 i p y hp hyi
    have hmm := hm p (List.mem_of_getElem? hp)
    have hr := hs.get (hag.get hmm hg)
    refine ⟨hr, fun k hk => ?_⟩
    obtain ⟨ob, hob⟩ := ho y (List.mem_of_getElem? hyi) k hk
    have h3 := hag.o p.2 hmm y.2 hg k (by rw [hk]; simp [AV.ids])
    rw [hob] at h3
    rw [hk] at hr
    simp only
    rw [hr.toA.own_inv]
    exact (hs.own k ob h3).2.toO.one

def placeS (fs : List (Nat × Nat × Nat)) (i : Nat) : Option (Nat × Nat) := match fs[i]? with
  | some (o, _, s) => some (o, s)
  | none => none

theorem flds_places : ∀ {l : List Field} {fs : List (Nat × Nat × Nat)}, FldsOk P l fs → l.mapM (fun f => (P.info? f.type).map fun i => (f.offset, i.size)) = some (fs.map fun x => (x.1, x.2.2))
  | [], [], _ => rfl
  | [], _ :: _, h => by simp [FldsOk] at h
  | _ :: _, [], h => by simp [FldsOk] at h
  | f :: l, (o, t, s) :: r, h => by
    simp only [FldsOk] at h
    obtain ⟨h1, h2, h3, _, h5⟩ := h
    subst h1
    subst h2
    cases hi : P.info? f.type with
    | none => rw [hi] at h3; cases h3
    | some i =>
      rw [hi] at h3
      simp at h3
      subst h3
      rw [List.mapM_cons, flds_places h5, hi]
      rfl

theorem zero_rep {t : Nat} {i : TI} (hi : i.ok P t) {zs : List D} (hz : i.zd = .agg zs) : ∃ (it : TypeInfo) (vs : List Value), P.info? t = some it ∧ it.zero = some (.agg vs.toArray) ∧ ∀ al w ok σ, LRep al w ok σ (zs.map .d) vs := by
  obtain ⟨j, z, h1, h2, h3, h4, h5, h6⟩ := hi.info
  rw [hz] at h5
  have h7 := h5 default (fun _ => True)
  cases h7 with
  | agg _ vs hl hh h1' =>
    refine ⟨j, vs, h1, h4, fun al w ok σ => ⟨by simpa using hl, h1', fun i c v hc hv => ?_⟩⟩
    have h8 := h5 w ok
    generalize hvv : Value.agg vs.toArray = u at h8
    generalize hzz : D.agg zs = zz at h8
    cases h8 with
    | agg zs' vs' hl' hh' _ =>
      cases hzz
      injection hvv with hvv
      have : vs = vs' := by injection hvv
      subst this
      simp only [List.getElem?_map, Option.map_eq_some_iff] at hc
      obtain ⟨c', hc', rfl⟩ := hc
      exact .of_d (hh' i c' v hc' hv)
    | _ => cases hzz

theorem st_build {t : Nat} {i : TI} {fs : List (Nat × Nat × Nat)} {zs : List D} {parts : Array (Nat × Operand)} {ys : List (Nat × AV)} {out : List AV} (hi : i.ok P t) (hk : i.k = .struct fs) (hz : i.zd = .agg zs) (ho : o.op = .build t parts)
    (hy : getParts (getE gl E) parts.toList = some ys) (how : ownsOk O ys) (hf : fillA (placeS fs) (zs.map .d) ys = some out) : Step P gl E O o id (some (mkAgg out)) .none :=
  .val fun c E' O' al nt a w σ hgl hs hag => by
    subst hgl
    obtain ⟨it, vs, i1, i2, i3⟩ := zero_rep hi hz
    obtain ⟨p1, p2⟩ := parts_rep hs hag (parts := parts) (fun p hp => by simp only [ho, Op.operands, List.mem_toArray, List.mem_map]; exact ⟨p, hp, rfl⟩) hy how
    have hb := hi.k
    rw [hk] at hb
    obtain ⟨l, l1, l2⟩ := hb
    have hpl := flds_places l2
    have hfl : ∀ i, (fs.map fun x => (x.1, x.2.2)).toArray[i]? = placeS fs i := fun i => by
      simp only [placeS, List.getElem?_toArray, List.getElem?_map]
      cases fs[i]? with
      | none => rfl
      | some x => rfl
    obtain ⟨us, u1, u2⟩ := fill_run (al := al) (ok := okk c O' σ w) (σ := σ) (w := w) (place := placeS fs) ys _ _ vs out (i3 _ _ _ _) p1 p2 hf
    have hbuilt : P.built t (parts.map fun (i, x) => (i, a.eval x)).toList = some us.toArray := by
      unfold Program.built
      rw [i1, l1]
      simp only [i2, hpl, Value.cells]
      rw [show (fun x => (fs.map fun x => (x.1, x.2.2)).toArray[x]?) = placeS fs from funext hfl]
      exact u1
    exact ⟨.agg us.toArray, by simp only [execOp, ho, Sem.run_bind, run_build w t _ us.toArray hbuilt, Result.andThen_ok, Sem.run_pure], mkAgg_rep u2.agg⟩

theorem st_build_arr {t n te sz : Nat} {i : TI} {zs : List D} {parts : Array (Nat × Operand)} {ys : List (Nat × AV)} {out : List AV} (hi : i.ok P t) (hk : i.k = .arr n te sz) (hz : i.zd = .agg zs) (ho : o.op = .build t parts)
    (hy : getParts (getE gl E) parts.toList = some ys) (how : ownsOk O ys) (hf : fillA (fun i => some (i * sz, sz)) (zs.map .d) ys = some out) : Step P gl E O o id (some (mkAgg out)) .none :=
  .val fun c E' O' al nt a w σ hgl hs hag => by
    subst hgl
    obtain ⟨it, vs, i1, i2, i3⟩ := zero_rep hi hz
    obtain ⟨p1, p2⟩ := parts_rep hs hag (parts := parts) (fun p hp => by simp only [ho, Op.operands, List.mem_toArray, List.mem_map]; exact ⟨p, hp, rfl⟩) hy how
    have hb := hi.k
    rw [hk] at hb
    obtain ⟨l1, l2⟩ := hb
    cases hte : P.info? te with
    | none => rw [hte] at l2; cases l2
    | some ie =>
      rw [hte] at l2
      simp at l2
      obtain ⟨us, u1, u2⟩ := fill_run (al := al) (ok := okk c O' σ w) (σ := σ) (w := w) (place := fun i => some (i * sz, sz)) ys _ _ vs out (i3 _ _ _ _) p1 p2 hf
      have hbuilt : P.built t (parts.map fun (i, x) => (i, a.eval x)).toList = some us.toArray := by
        unfold Program.built
        rw [i1, l1]
        simp only [i2, hte, Value.cells, l2]
        exact u1
      exact ⟨.agg us.toArray, by simp only [execOp, ho, Sem.run_bind, run_build w t _ us.toArray hbuilt, Result.andThen_ok, Sem.run_pure], mkAgg_rep u2.agg⟩
end
end Go.Proofs.Ytpibdbjlilpfiaa
/- One operation: slice literals, make, append, cuts. -/
namespace Go.Proofs.Ytpibdbjlilpfiaa
set_option linter.all false
open Go Go.RowKit

section
variable {P : Program} {E : Nat → Option AV} {O : Nat → Option Obj1} {gl : GL} {o : Oper} {id : Nat}

/-- Parts number k, k + 1, ..: each of 'sz' pure cells. -/
def dense (sz : Nat) : Nat → List (Nat × AV) → Option (List (List D))
  | _, [] => some []
  | k, (i, y) :: r => match allD y.cells, dense sz (k + 1) r with
    | some ds, some xs => if i = k ∧ ds.length = sz ∧ y.isTup = false then some (ds :: xs) else none
    | _, _ => none

theorem dense_rep {al : Nat → Prop} {w : World} {ok : Nat → Prop} {σ : Nat → Value} {sz : Nat} : ∀ {ys : List (Nat × AV)} {k : Nat} {xs : List (List D)} {vals : List (Nat × Value)}, dense sz k ys = some xs → vals.map (·.1) = ys.map (·.1) →
    (∀ (i : Nat) y v, ys[i]? = some y → vals[i]? = some v → RepS al w ok σ y.2 v.2 ∧ ∀ k, y.2 = .own k → v.2.oneCell' = true) →
    vals = ((vals.map (·.2)).zipIdx k).map (fun x => (x.2, x.1)) ∧ (∀ v ∈ vals.map (·.2), v.cells.size = sz) ∧ xs.length = ys.length ∧ vals.length = ys.length ∧ (∀ x ∈ xs, x.length = sz) ∧
      (∀ u ∈ (vals.map (·.2)).flatMap fun v => v.cells.toList, u.oneCell' = true) ∧ ((vals.map (·.2)).flatMap fun v => v.cells.toList).length = xs.flatten.length ∧
      ∀ (i : Nat) c u, xs.flatten[i]? = some c → ((vals.map (·.2)).flatMap fun v => v.cells.toList)[i]? = some u → Rep w ok c u
  | [], k, xs, vals, h, hm, _ => by
    have : vals = [] := by cases vals with | nil => rfl | cons => simp at hm
    subst this
    simp only [dense, Option.some.injEq] at h
    subst h
    simp
  | (i, y) :: r, k, xs, [], h, hm, _ => by simp at hm
  | (i, y) :: r, k, xs, (i', v) :: vals, h, hm, hp => by
    simp only [List.map_cons, List.cons.injEq] at hm
    obtain ⟨rfl, hm⟩ := hm
    simp only [dense] at h
    split at h
    · rename_i ds xs' h1 h2
      split at h
      · rename_i hc
        obtain ⟨rfl, hc2, hc3⟩ := hc
        injection h with h
        subst h
        obtain ⟨hr, ho⟩ := hp 0 (i', y) (i', v) rfl rfl
        obtain ⟨us, u1, u2, u3, u4⟩ := RepS.cells (x := y) (v := v) hr hc3 ho
        have hds := allD_eq h1
        rw [hds] at u2 u4
        have hul : us.length = sz := by rw [u2]; simpa using hc2
        obtain ⟨r1, r2, r3, r4, r5, r6, r7, r8⟩ := dense_rep (vals := vals) h2 hm (fun j y' v' hj hv => hp (j + 1) y' v' (by simpa using hj) (by simpa using hv))
        have hcl : v.cells.toList = us := by rw [u1]
        refine ⟨?_, ?_, by simp [r3], by simp [r4], ?_, ?_, ?_, ?_⟩
        · simp only [List.map_cons, List.zipIdx_cons, List.cons.injEq, true_and]
          exact r1
        · intro u hu
          rcases List.mem_cons.1 hu with hu | hu
          · rw [hu]
            show v.cells.size = sz
            rw [u1]; simpa using hul
          · exact r2 u hu
        · intro x hx
          rcases List.mem_cons.1 hx with rfl | hx
          · exact hc2
          · exact r5 x hx
        · intro u hu
          simp only [List.map_cons, List.flatMap_cons, List.mem_append] at hu
          rcases hu with hu | hu
          · rw [hcl] at hu; exact u3 u hu
          · exact r6 u hu
        · simp only [List.map_cons, List.flatMap_cons, List.length_append, List.flatten_cons, r7, hcl, u2, List.length_map]
        · intro j c u hc hu
          simp only [List.map_cons, List.flatMap_cons, List.flatten_cons, hcl] at hc hu
          by_cases hj : j < ds.length
          · rw [List.getElem?_append_left hj] at hc
            rw [List.getElem?_append_left (by rw [u2]; simpa using hj)] at hu
            exact (u4 j (.d c) u (by simp [hc]) hu).d_inv
          · rw [List.getElem?_append_right (by omega)] at hc
            rw [List.getElem?_append_right (by rw [u2]; simpa using hj), u2, List.length_map] at hu
            exact r8 _ c u hc hu
      · cases h
    · cases h

/-- The slice's own value. -/
theorem rep_own_new {al : Nat → Prop} {w : World} {ok : Nat → Prop} {σ : Nat → Value} (k : Nat) (hk : al k) {v : Value} (h : σ k = v) : RepS al w ok σ (.own k) v := fun τ hτ => by
  rw [← h, ← hτ k hk]
  exact .own k

theorem st_buildSlice {t te sz len : Nat} {i ie : TI} {parts : Array (Nat × Operand)} {ys : List (Nat × AV)} {xs : List (List D)} (hi : i.ok P t) (hk : i.k = .slice te sz) (hie : ie.ok P te) (hsz : ie.size = sz) (hpos : 0 < sz) (ho : o.op = .buildSlice t len parts)
    (hy : getParts (getE gl E) parts.toList = some ys) (how : ownsOk O ys) (hf : dense sz 0 ys = some xs) (hl : xs.length = len) (hsmall : len * sz ≤ 16777216) : Step P gl E O o id (some (.own id)) (.new (.row true te sz xs)) :=
  .run fun c E' O' al nt a w σ hgl hs hid hag => by
    subst hgl
    obtain ⟨p1, p2⟩ := parts_rep hs hag (parts := parts) (fun p hp => by simp only [ho, Op.operands, List.mem_toArray, List.mem_map]; exact ⟨p, hp, rfl⟩) hy how
    have hb := hi.k
    rw [hk] at hb
    obtain ⟨j, z, j1, j2, j3, j4, j5, j6⟩ := hie.info
    obtain ⟨d1, d2, d3, d4, d5, d6, d7, d8⟩ := dense_rep hf p1 p2
    generalize hvals : (parts.map fun (i, x) => (i, a.eval x)).toList = vals at *
    have hfl := flat_len d5
    have hcs : ((vals.map (·.2)).flatMap fun v => v.cells.toList).toArray.size = len * sz := by rw [List.size_toArray, d7, hfl, hl]
    have hrun : (Instr.buildSlice t len (parts.map fun (i, x) => (i, a.eval x))).run P w = .ok (.slice (some ⟨w.heap.size, 0, none⟩) len len) (w.alloc (.cells ((vals.map (·.2)).flatMap fun v => v.cells.toList).toArray te)) := by
      by_cases h0 : len = 0
      · subst h0
        have hx0 : xs = [] := List.eq_nil_of_length_eq_zero hl
        subst hx0
        have hv0 : vals = [] := List.eq_nil_of_length_eq_zero (by rw [d4, ← d3]; rfl)
        subst hv0
        have hpa : (parts.map fun (i, x) => (i, a.eval x)) = #[] := Array.toList_inj.1 hvals
        rw [hpa]
        simp [Instr.buildSlice, run_underlying hb.1, sizeOf, typeInfo, j1, Instr.fill, newRow, Array.range_zero']
      · refine run_buildSlice w t te len _ _ j z hb.1 j1 j4 (by rw [j2, hsz]; omega) (by rw [j2, hsz]; exact Nat.mul_ne_zero h0 (by omega)) ?_
        have hw := Go.Great.fill_whole hpos (vals.map (·.2)) ((Array.range (len * sz)).map (z.cells[· % z.cells.size]!)) d2 (by rw [List.length_map, d4, ← d3, hl]; simp)
        rw [← d1] at hw
        rw [hvals, j2, hsz]
        exact hw
    have hn := hs.new (id := id) (o := .row true te sz xs) (v := .slice (some ⟨w.heap.size, 0, none⟩) len len) (Go1.alloc w (.cells ((vals.map (·.2)).flatMap fun v => v.cells.toList).toArray te) none) hid
      (fun b hb => by simp [blkOf] at hb; omega)
      (fun ok' hkp => by
        have hmax : len ≤ maxLen := by
          have := Nat.le_mul_of_pos_right len hpos
          simp only [maxLen]; omega
        have hown := World.ownsRow_lit (base := 0) (e := te) (size := sz) w ((vals.map (·.2)).flatMap fun v => v.cells.toList).toArray len (Nat.zero_le _) hmax hcs
        exact row_mk (by rw [hl]; exact hown) hpos (by omega) d5 d6 (fun i c u hc hu => (d8 i c u hc hu).mono hkp))
    refine ⟨.slice (some ⟨w.heap.size, 0, none⟩) len len, _, _, ?_, hn, rep_own_new id (.inr rfl) (by simp [updσ])⟩
    simp only [execOp, ho, Sem.run_bind, hrun, Result.andThen_ok, Sem.run_pure]

/-! ### make -/
def zeroCells (i : TI) : List D := i.zd.cells

theorem zero_cells {t : Nat} {i : TI} (hi : i.ok P t) (ht : i.zd.isTup = false) : ∃ (it : TypeInfo) (z : Value) (vs : List Value), P.info? t = some it ∧ it.size = i.size ∧ it.bytes = i.bytes ∧ it.zero = some z ∧ z.cells = vs.toArray ∧ vs.length = i.zd.cells.length ∧ i.size = vs.length ∧ (∀ u ∈ vs, u.oneCell' = true) ∧
    ∀ w ok, ∀ (j : Nat) c u, i.zd.cells[j]? = some c → vs[j]? = some u → Rep w ok c u := by
  obtain ⟨j, z, h1, h2, h3, h4, h5, h6⟩ := hi.info
  obtain ⟨vs, v1, v2, v3, v4⟩ := (h5 default (fun _ => True)).cells ht
  refine ⟨j, z, vs, h1, h2, h3, h4, v1, v2, by rw [← h6, v1]; simp, v3, fun w ok => ?_⟩
  obtain ⟨vs', v1', _, _, v4'⟩ := (h5 w ok).cells ht
  rw [v1] at v1'
  have : vs = vs' := by injection v1'
  subst this
  exact v4'

theorem st_makeSlice {t te sz : Nat} {i ie : TI} {x y : Operand} {k k' : IntKind} {n : Int} (hi : i.ok P t) (hk : i.k = .slice te sz) (hie : ie.ok P te) (hsz : ie.size = sz) (hpos : 0 < sz) (htup : ie.zd.isTup = false) (ho : o.op = .makeSlice t x y)
    (hx : getE gl E x = some (.d (.int k n))) (hy : getE gl E y = some (.d (.int k' n))) (h0 : 0 ≤ n) (hn : n.toNat * ie.bytes ≤ 281474976710656) (hbig : n ≤ 9223372036854775807) : Step P gl E O o id (some (.own id)) (.new (.row true te sz (List.replicate n.toNat ie.zd.cells))) :=
  .run fun c E' O' al nt a w σ hgl hs hid hag => by
    subst hgl
    have h1 := rep_int (hs.get (hag.get (x := x) (by simp [ho, Op.operands]) hx))
    have h2 := rep_int (hs.get (hag.get (x := y) (by simp [ho, Op.operands]) hy))
    have hb := hi.k
    rw [hk] at hb
    obtain ⟨it, z, vs, i1, i2, i3, i4, i5, i6, i7, i8, i9⟩ := zero_cells hie htup
    have hmax : n.toNat ≤ maxLen := by simp only [maxLen]; omega
    obtain ⟨w', r1, r2, r3⟩ := run_make_full (P := P) w 0 t te it z sz hb.1 i1 i4 (by rw [i2, hsz]) k k' n.toNat (by rw [i3, Nat.mul_comm]; omega) hmax (Nat.zero_le _)
    have hnn : ((n.toNat : Nat) : Int) = n := by omega
    rw [hnn] at r1
    have hvl : vs.length = sz := by omega
    have hn' := hs.new (id := id) (o := .row true te sz (List.replicate n.toNat ie.zd.cells)) (v := .slice (some ⟨w.heap.size, 0, none⟩) n.toNat n.toNat) (Go1.of_grown r3) hid (fun b hb => by simp [blkOf] at hb; omega) (fun ok' hkp => by
      have hmc : (madeCells z.cells (n.toNat * sz)).toList = (List.range (n.toNat * sz)).map fun j => vs.getD (j % sz) (.bool false) := by
        apply List.ext_getElem?
        intro j
        by_cases hj : j < n.toNat * sz
        · have hm : j % sz < vs.length := by rw [hvl]; exact Nat.mod_lt _ hpos
          simp only [madeCells, Array.toList_map, Array.toList_range, List.getElem?_map, List.getElem?_range hj, Option.map_some, i5, List.size_toArray, hvl, List.getD_eq_getElem?_getD, List.getElem?_eq_getElem hm, Option.getD_some, Option.some.injEq]
          rw [getElem!_pos _ _ (by simpa using hm)]
          simp
        · simp [madeCells, hj]
      refine row_mk (vs := (madeCells z.cells (n.toNat * sz)).toList) (by rw [List.length_replicate]; exact r2) hpos (by rw [List.length_replicate]; exact hmax) (fun e he => by rw [(List.mem_replicate.1 he).2]; omega) (fun u hu => ?_) (fun j c u hc hu => ?_)
      · rw [hmc] at hu
        obtain ⟨j, hj, rfl⟩ := List.mem_map.1 hu
        have hm : j % sz < vs.length := by rw [hvl]; exact Nat.mod_lt _ hpos
        rw [List.getD_eq_getElem?_getD, List.getElem?_eq_getElem hm]
        exact i8 _ (List.getElem_mem hm)
      · rw [hmc] at hu
        have hlens : ∀ x ∈ List.replicate n.toNat ie.zd.cells, x.length = sz := fun e he => by rw [(List.mem_replicate.1 he).2]; omega
        have hj : j < n.toNat * sz := by have := (List.getElem?_eq_some_iff.1 hu).1; simpa using this
        have hq : (List.replicate n.toNat ie.zd.cells)[j / sz]? = some ie.zd.cells := by
          rw [List.getElem?_replicate, if_pos ((Nat.div_lt_iff_lt_mul hpos).2 hj)]
        have h7 := flat_at hlens hq (j % sz) (Nat.mod_lt _ hpos)
        rw [Nat.div_add_mod'] at h7
        rw [h7] at hc
        have hm : j % sz < vs.length := by rw [hvl]; exact Nat.mod_lt _ hpos
        simp only [List.getElem?_map, List.getElem?_range hj, Option.map_some, Option.some.injEq] at hu
        rw [List.getD_eq_getElem?_getD, List.getElem?_eq_getElem hm] at hu
        exact i9 _ _ (j % sz) c u hc (by rw [List.getElem?_eq_getElem hm]; exact congrArg some hu))
    exact ⟨.slice (some ⟨w.heap.size, 0, none⟩) n.toNat n.toNat, _, _, by simp [execOp, ho, h1, h2, r1], hn', rep_own_new id (.inr rfl) (by simp [updσ])⟩
end
end Go.Proofs.Ytpibdbjlilpfiaa
/- One operation: append. -/
namespace Go.Proofs.Ytpibdbjlilpfiaa
set_option linter.all false
open Go Go.RowKit

theorem blkOf_slice {A : Option Addr} {n c : Nat} : blkOf (.slice A n c) = (Value.slice A n c).ownBlock := by cases A <;> rfl

section
variable {P : Program} {E : Nat → Option AV} {O : Nat → Option Obj1} {gl : GL} {o : Oper} {id : Nat}

theorem append_run {w : World} {t ty te : TypeId} {it : TypeInfo} {z : Value} {sz bytes : Nat} (ht : P.underlying t = some (.slice te)) (hi : P.info? te = some it) (hz : it.zero = some z) (hsz : it.size = sz) (hby : it.bytes = bytes) (hzs : z.cells.size = sz) (hpos : 0 < sz)
    {v : Value} {n : Nat} {xs : List Value} (hown : w.ownsRow 0 te sz v n xs) {x : Value} {m : Nat} {news : List Value}
    (hx : (∃ ad c, x = .slice (some ad) m c ∧ news.length = m * sz ∧ ∀ (j : Nat) u, news[j]? = some u → w.cell? (ad.add j) = some u) ∨ (x = .slice none 0 0 ∧ m = 0 ∧ news = []))
    (h1 : ∀ u ∈ news, u.oneCell' = true) (hbytes : (n + m) * bytes ≤ 140737488355328) (h63 : n + m ≤ maxLen) :
    ∃ v' w', (Builtin.append_ #[t, t] ty #[v, x]).run P w = .ok v' w' ∧ w'.ownsRow 0 te sz v' (n + m) (xs ++ news) ∧ Go1 w w' (blkOf v) ∧ ∀ b, blkOf v' = some b → blkOf v = some b ∨ w.heap.size ≤ b := by
  rcases hx with ⟨ad, c, rfl, hl, hc⟩ | ⟨rfl, rfl, rfl⟩
  · have hform := hown.2
    rcases hform with ⟨rfl, rfl⟩ | ⟨g, cap, cur, rfl, _, hg, hnc, hcm, hcs, htake⟩
    · have hx0 : xs = [] := List.eq_nil_of_length_eq_zero (by simpa using hown.1)
      subst hx0
      obtain ⟨v', w', r1, r2, r3, _⟩ := run_append_own (P := P) w w.heap.size t ty te it z sz bytes ht hi hz hsz hby hzs hpos (.slice none 0 0) 0 [] (World.ownsRow_nil w w.heap.size te sz) ad m c news hl hc h1 h63 hbytes (Nat.le_refl _)
      refine ⟨v', w', r1, ⟨r2.1, ?_⟩, ⟨r3.os, r3.tape, r3.output, r3.size, r3.block⟩, fun b hb => .inr ?_⟩
      · rcases r2.2 with hh | ⟨g, cap, cur, e1, e2, rest⟩
        · exact .inl hh
        · exact .inr ⟨g, cap, cur, e1, Nat.zero_le _, rest⟩
      · rcases r2.2 with ⟨rfl, _⟩ | ⟨g, cap, cur, rfl, e2, rest⟩
        · simp [blkOf] at hb
        · simp [blkOf] at hb; omega
    · by_cases hroom : n + m ≤ cap
      · obtain ⟨w', r1, r2, r3⟩ := run_append_fits (P := P) w 0 t ty te it sz ht hi hsz g n cap xs hown ad m c news hl hc h1 hroom
        exact ⟨_, w', r1, r2, ⟨r3.os, r3.tape, r3.output, r3.size, r3.block⟩, fun b hb => .inl (by simpa [blkOf] using hb)⟩
      · subst hsz
        subst hby
        have holds : ∀ (j : Nat) u, xs[j]? = some u → w.cell? ((⟨g, 0, none⟩ : Addr).add j) = some u := hown.cells (g := g) rfl
        have hr := run_append_grow (P := P) w t ty te it z ht hi hz ⟨g, 0, none⟩ n cap xs hown.1 holds ad m c news hl hc (by omega) (by simp only [maxLen] at h63; omega) (growslice_fits (by omega) hbytes)
        have hge := grownCap_ge w (n + m) cap te
        have hcm' : grownCap w (n + m) cap te ≤ maxLen := grownCap_le_maxLen w (n + m) cap te h63
        have hlen : (xs ++ news).length = (n + m) * it.size := by rw [List.length_append, hown.1, hl, Nat.add_mul]
        refine ⟨_, _, hr, ⟨hlen, .inr ⟨w.heap.size, _, _, rfl, Nat.zero_le _, heap_alloc_new w.drew _, hge, hcm', ?_, ?_⟩⟩, ⟨rfl, rfl, rfl, by simp, fun k hk _ => heap_alloc_old w.drew _ k hk⟩, fun b hb => .inr (by simp [blkOf] at hb; omega)⟩
        · simp only [Array.size_append, List.size_toArray, size_zeroCells, hzs, hown.1, hl, ← Nat.add_mul]
          congr 1
          omega
        · simp only [Array.toList_append, List.append_assoc]
          rw [← List.append_assoc, ← hlen]
          exact List.take_left
  · have hr := run_append_owned_none (P := P) w 0 t ty te it sz ht hi v n xs hown
    exact ⟨v, w, hr, by simpa using hown, Go1.refl _ _, fun b hb => .inl hb⟩

/-- The row that is appended. -/
inductive Src (O : Nat → Option Obj1) (sz : Nat) : AV → List (List D) → Prop
  | d (ys : List (List D)) : Src O sz (.d (.slice ys)) ys
  | nils : Src O sz (.d .nils) []
  | own (k : Nat) (fr : Bool) (te : Nat) (ys : List (List D)) (h : O k = some (.row fr te sz ys)) : Src O sz (.own k) ys

theorem src_rep {c : Ctx} {E' : Nat → Option AV} {O' : Nat → Option Obj1} {al : Nat → Prop} {nt : Nat} {a : Act} {w : World} {σ : Nat → Value} (hs : SRep c E' O' al nt a w σ) {sz : Nat} {y : AV} {ys : List (List D)} {v : Value} (hy : Src O' sz y ys) (hr : RepS al w (okk c O' σ w) σ y v) (hsz : ∀ e ∈ ys, e.length = sz) :
    ∃ news : List Value, ((∃ ad cp, v = .slice (some ad) ys.length cp ∧ news.length = ys.length * sz ∧ ∀ (j : Nat) u, news[j]? = some u → w.cell? (ad.add j) = some u) ∨ (v = .slice none 0 0 ∧ ys.length = 0 ∧ news = [])) ∧ (∀ u ∈ news, u.oneCell' = true) ∧ ys.length ≤ maxLen ∧
      ∀ (i : Nat) cc u, ys.flatten[i]? = some cc → news[i]? = some u → Rep w (okk c O' σ w) cc u := by
  cases hy with
  | nils =>
    cases hr.d_inv
    exact ⟨[], .inr ⟨rfl, rfl, rfl⟩, by simp, by simp, fun i cc u h => by simp at h⟩
  | d ys =>
    have h := hr.d_inv
    cases h with
    | nil => exact ⟨[], .inr ⟨rfl, rfl, rfl⟩, by simp, by simp, fun i cc u h => by simp at h⟩
    | empty ad cp => exact ⟨[], .inl ⟨ad, cp, rfl, by simp, fun j u h => by simp at h⟩, by simp, by simp, fun i cc u h => by simp at h⟩
    | slice _ b off cp sz' f hok hcap hmax hsz' hc h1 h =>
      have hfl := flat_len hsz
      refine ⟨(List.range ys.flatten.length).map f, .inl ⟨⟨b, off, none⟩, cp, rfl, by simp only [List.length_map, List.length_range]; exact hfl, fun j u hj => ?_⟩, fun u hu => ?_, hmax, fun i cc u hcc hu => ?_⟩
      · have hlt : j < ys.flatten.length := by have := (List.getElem?_eq_some_iff.1 hj).1; rw [List.length_map, List.length_range] at this; exact this
        rw [List.getElem?_map, List.getElem?_range hlt] at hj
        injection hj with hj
        rw [Addr.add_lit, ← hj]
        exact hc j hlt
      · obtain ⟨j, _, rfl⟩ := List.mem_map.1 hu
        exact h1 j
      · have hlt : i < ys.flatten.length := (List.getElem?_eq_some_iff.1 hcc).1
        rw [List.getElem?_map, List.getElem?_range hlt] at hu
        injection hu with hu
        rw [← hu]
        exact h i cc hcc
  | own k fr te ys ho =>
    obtain ⟨vs, f1, f2, f3, f4, f5, f6⟩ := row_facts (hs.own k _ ho).2
    have hv := hr.toA.own_inv
    have hform := f1.2
    rcases hform with ⟨e1, e2⟩ | ⟨g, cap, cur, e1, _, _⟩
    · have hy0 : ys = [] := List.eq_nil_of_length_eq_zero e2
      subst hy0
      exact ⟨[], .inr ⟨hv.trans e1, rfl, rfl⟩, by simp, by simp, fun i cc u h => by simp at h⟩
    · refine ⟨vs, .inl ⟨⟨g, 0, none⟩, cap, hv.trans e1, f1.1, fun j u hj => ?_⟩, f5, f3, f6⟩
      exact f1.cells (g := g) (by rw [e1]; rfl) j u hj

theorem st_append {t te sz k : Nat} {ts : Array TypeId} {fr : Bool} {s x : Operand} {y : AV} {xs ys : List (List D)} {i ie : TI} (hi : i.ok P t) (hk : i.k = .slice te sz) (hie : ie.ok P te) (hsz : ie.size = sz) (hts : ts = #[t, t])
    (ho : o.op = .call { callee := .builtin .append, args := #[s, x], argTypes := ts }) (hs' : getE gl E s = some (.own k)) (hO : O k = some (.row fr te sz xs)) (hx : getE gl E x = some y) (hy : Src O sz y ys) (hel : ∀ e ∈ ys, e.length = sz)
    (hb : (xs.length + ys.length) * ie.bytes ≤ 140737488355328) (h63 : xs.length + ys.length ≤ maxLen) : Step P gl E O o id (some (.own id)) (.swap k (.row fr te sz (xs ++ ys))) :=
  .run fun c E' O' al nt a w σ hgl hs hid hag => by
    subst hgl
    subst hts
    have hm : s ∈ o.op.operands := by simp [ho, Op.operands, Call.operands]
    have hm2 : x ∈ o.op.operands := by simp [ho, Op.operands, Call.operands]
    have h1 := hs.get (hag.get hm hs')
    have h2 := hs.get (hag.get hm2 hx)
    have hO' : O' k = some (.row fr te sz xs) := (hag.o s hm _ hs' k (by simp [AV.ids])).trans hO
    have hy' : Src O' sz y ys := by
      cases hy with
      | d ys => exact .d ys
      | nils => exact .nils
      | own k2 fr2 te2 ys h => exact .own k2 fr2 te2 ys ((hag.o x hm2 _ hx k2 (by simp [AV.ids])).trans h)
    have hbk := hi.k
    rw [hk] at hbk
    obtain ⟨it, z, z1, z2, z3, z4, z5, z6⟩ := hie.info
    obtain ⟨vs, f1, f2, f3, f4, f5, f6⟩ := row_facts (hs.own k _ hO').2
    obtain ⟨news, n1, n2, n3, n4⟩ := src_rep hs hy' h2 hel
    obtain ⟨v', w', r1, r2, r3, r4⟩ := append_run (P := P) (w := w) (t := t) (ty := o.type) (bytes := ie.bytes) hbk.1 z1 z4 (by rw [z2, hsz]) z3 (by rw [z6, hsz]) f2 f1 n1 n2 hb h63
    have hv := h1.toA.own_inv
    have hn := hs.swap (id := id) (o' := .row fr te sz (xs ++ ys)) (v := v') hO' hid r3 r4 rfl (fun ok' hkp => by
      refine row_mk (vs := vs ++ news) (by rw [List.length_append]; exact r2) f2 (by rw [List.length_append]; exact h63) (fun e he => ?_) (fun u hu => ?_) (fun j cc u hc hu => ?_)
      · rcases List.mem_append.1 he with he | he
        · exact f4 e he
        · exact hel e he
      · rcases List.mem_append.1 hu with hu | hu
        · exact f5 u hu
        · exact n2 u hu
      · rw [List.flatten_append] at hc
        have hl1 : xs.flatten.length = vs.length := by rw [flat_len f4, f1.1]
        by_cases hj : j < vs.length
        · rw [List.getElem?_append_left (by omega)] at hc
          rw [List.getElem?_append_left hj] at hu
          exact (f6 j cc u hc hu).mono hkp
        · rw [List.getElem?_append_right (by omega), hl1] at hc
          rw [List.getElem?_append_right (by omega)] at hu
          exact (n4 _ cc u hc hu).mono hkp)
    refine ⟨v', w', _, ?_, hn, rep_own_new id (.inr rfl) (by simp [updσ])⟩
    rw [← hv] at r1
    simp [execOp, ho, resolve, invoke, builtin, r1]

/-- append to nil: a new row. -/
theorem st_append_nil {t te sz : Nat} {ts : Array TypeId} {s x : Operand} {y : AV} {ys : List (List D)} {i ie : TI} (hi : i.ok P t) (hk : i.k = .slice te sz) (hie : ie.ok P te) (hsz : ie.size = sz) (hpos : 0 < sz) (hts : ts = #[t, t])
    (ho : o.op = .call { callee := .builtin .append, args := #[s, x], argTypes := ts }) (hs' : getE gl E s = some (.d .nils)) (hx : getE gl E x = some y) (hy : Src O sz y ys) (hel : ∀ e ∈ ys, e.length = sz)
    (hb : ys.length * ie.bytes ≤ 140737488355328) (h63 : ys.length ≤ maxLen) : Step P gl E O o id (some (.own id)) (.new (.row true te sz ys)) :=
  .run fun c E' O' al nt a w σ hgl hs hid hag => by
    subst hgl
    subst hts
    have hm : s ∈ o.op.operands := by simp [ho, Op.operands, Call.operands]
    have hm2 : x ∈ o.op.operands := by simp [ho, Op.operands, Call.operands]
    have h1 := hs.get (hag.get hm hs')
    have h2 := hs.get (hag.get hm2 hx)
    have hy' : Src O' sz y ys := by
      cases hy with
      | d ys => exact .d ys
      | nils => exact .nils
      | own k2 fr2 te2 ys h => exact .own k2 fr2 te2 ys ((hag.o x hm2 _ hx k2 (by simp [AV.ids])).trans h)
    have hbk := hi.k
    rw [hk] at hbk
    obtain ⟨it, z, z1, z2, z3, z4, z5, z6⟩ := hie.info
    obtain ⟨news, n1, n2, n3, n4⟩ := src_rep hs hy' h2 hel
    obtain ⟨v', w', r1, r2, r3, r4⟩ := append_run (P := P) (w := w) (t := t) (ty := o.type) (bytes := ie.bytes) hbk.1 z1 z4 (by rw [z2, hsz]) z3 (by rw [z6, hsz]) hpos (World.ownsRow_nil w 0 te sz) n1 n2 (by rw [Nat.zero_add]; exact hb) (by rw [Nat.zero_add]; exact h63)
    rw [Nat.zero_add, List.nil_append] at r2
    have hv : a.eval s = .slice none 0 0 := by
      have h3 := h1.d_inv
      generalize a.eval s = u at h3 ⊢
      cases h3
      rfl
    have hn := hs.new (id := id) (o := .row true te sz ys) (v := v') r3 hid (fun b hb => by
      rcases r4 b hb with h | h
      · simp [blkOf] at h
      · exact h) (fun ok' hkp => row_mk (vs := news) r2 hpos h63 hel n2 (fun j cc u hc hu => (n4 j cc u hc hu).mono hkp))
    refine ⟨v', w', _, ?_, hn, rep_own_new id (.inr rfl) (by simp [updσ])⟩
    simp [execOp, ho, resolve, invoke, builtin, hv, r1]
end
end Go.Proofs.Ytpibdbjlilpfiaa
/- One operation: operators, conversions, cuts, stores into rows. -/
namespace Go.Proofs.Ytpibdbjlilpfiaa
set_option linter.all false
open Go Go.RowKit

section
variable {P : Program} {E : Nat → Option AV} {O : Nat → Option Obj1} {gl : GL} {o : Oper} {id : Nat}

theorem st_bin_int {op : BinOp} {t ty : TypeId} {x y : Operand} {k : IntKind} {m n : Int} {z : D} (ho : o.op = .binOp op t x y ty) (hx : getE gl E x = some (.d (.int k m))) (hy : getE gl E y = some (.d (.int k n))) (hc : intC op n) (h : intV op k m n = some z) :
    Step P gl E O o id (some (.d z)) .none :=
  .val fun c E' O' al nt a w σ hgl hs hag => by
    subst hgl
    have h1 := rep_int (hs.get (hag.get (x := x) (by simp [ho, Op.operands]) hx))
    have h2 := rep_int (hs.get (hag.get (x := y) (by simp [ho, Op.operands]) hy))
    obtain ⟨v, hrun, hr⟩ := int_run (P := P) (t := t) hc h w
    exact ⟨v, by simp [execOp, ho, h1, h2, eqGuard_int, hrun], .of_d (hr _ _)⟩

theorem st_bin_shift {op : BinOp} {t ty : TypeId} {x y : Operand} {k k' : IntKind} {m n : Int} {z : D} (ho : o.op = .binOp op t x y ty) (hx : getE gl E x = some (.d (.int k m))) (hy : getE gl E y = some (.d (.int k' n))) (hc : 0 ≤ n) (h : shiftV op k m n = some z) :
    Step P gl E O o id (some (.d z)) .none :=
  .val fun c E' O' al nt a w σ hgl hs hag => by
    subst hgl
    have h1 := rep_int (hs.get (hag.get (x := x) (by simp [ho, Op.operands]) hx))
    have h2 := rep_int (hs.get (hag.get (x := y) (by simp [ho, Op.operands]) hy))
    obtain ⟨v, hrun, hr⟩ := shift_run (P := P) (t := t) (k' := k') hc h w
    exact ⟨v, by simp [execOp, ho, h1, h2, eqGuard_int, hrun], .of_d (hr _ _)⟩

theorem st_bin_str {op : BinOp} {t ty : TypeId} {x y : Operand} {m n : ByteArray} {z : D} (ho : o.op = .binOp op t x y ty) (hx : getE gl E x = some (.d (.str m))) (hy : getE gl E y = some (.d (.str n))) (hc : strC op m n) (h : strV op m n = some z) :
    Step P gl E O o id (some (.d z)) .none :=
  .val fun c E' O' al nt a w σ hgl hs hag => by
    subst hgl
    obtain ⟨h1, _⟩ := rep_str (hs.get (hag.get (x := x) (by simp [ho, Op.operands]) hx))
    obtain ⟨h2, _⟩ := rep_str (hs.get (hag.get (x := y) (by simp [ho, Op.operands]) hy))
    obtain ⟨v, hrun, hr⟩ := str_run (P := P) (t := t) hc h w
    exact ⟨v, by simp [execOp, ho, h1, h2, eqGuard_str, hrun], .of_d (hr _ _)⟩

def boolV (op : BinOp) (a b : Bool) : Option D := match op with
  | .eql => some (.bool (a == b))
  | .neq => some (.bool (!(a == b)))
  | _ => none

theorem st_bin_bool {op : BinOp} {t : Nat} {ty : TypeId} {i : TI} {x y : Operand} {m n : Bool} {z : D} (hi : i.ok P t) (hk : i.k = .bool) (ho : o.op = .binOp op t x y ty) (hx : getE gl E x = some (.d (.bool m))) (hy : getE gl E y = some (.d (.bool n))) (h : boolV op m n = some z) :
    Step P gl E O o id (some (.d z)) .none :=
  .val fun c E' O' al nt a w σ hgl hs hag => by
    subst hgl
    have h1 := rep_bool (hs.get (hag.get (x := x) (by simp [ho, Op.operands]) hx))
    have h2 := rep_bool (hs.get (hag.get (x := y) (by simp [ho, Op.operands]) hy))
    have hb := hi.k
    rw [hk] at hb
    have he : (Op.equal t (.bool m) (.bool n)).run P w = .ok (m == n) w := run_equalIn_bool' w 9999 t m n hb
    cases op <;> simp only [boolV] at h <;> first | cases h | skip
    · exact ⟨.bool (m == n), by simp [execOp, ho, h1, h2, eqGuard_bool, binOp, he], .of_d (.bool _)⟩
    · exact ⟨.bool (!(m == n)), by simp [execOp, ho, h1, h2, eqGuard_bool, binOp, he], .of_d (.bool _)⟩

theorem st_not {t : TypeId} {x : Operand} {b : Bool} (ho : o.op = .unOp .not t x) (hx : getE gl E x = some (.d (.bool b))) : Step P gl E O o id (some (.d (.bool (!b)))) .none :=
  .val fun c E' O' al nt a w σ hgl hs hag => by
    subst hgl
    have h1 := rep_bool (hs.get (hag.get (x := x) (by simp [ho, Op.operands]) hx))
    exact ⟨.bool (!b), by simp [execOp, ho, h1, Op.unary], .of_d (.bool _)⟩

theorem st_neg {t : TypeId} {x : Operand} {k : IntKind} {n : Int} (ho : o.op = .unOp .neg t x) (hx : getE gl E x = some (.d (.int k n))) : Step P gl E O o id (some (.d (.int k (k.wrap (0 - n))))) .none :=
  .val fun c E' O' al nt a w σ hgl hs hag => by
    subst hgl
    have h1 := rep_int (hs.get (hag.get (x := x) (by simp [ho, Op.operands]) hx))
    exact ⟨.int k (k.wrap (0 - n)), by simp [execOp, ho, h1, Op.unary, Op.intArith], .of_d (.int _ _)⟩

theorem st_conv_int {s t : Nat} {i j : TI} {x : Operand} {k k' : IntKind} {n : Int} (hi : i.ok P t) (hk : i.k = .int k') (hj : j.ok P s) (hjk : ∃ k'', j.k = .int k'') (ho : o.op = .convert s t x) (hx : getE gl E x = some (.d (.int k n))) : Step P gl E O o id (some (.d (.int k' (k'.wrap n)))) .none :=
  .val fun c E' O' al nt a w σ hgl hs hag => by
    subst hgl
    have h1 := rep_int (hs.get (hag.get (x := x) (by simp [ho, Op.operands]) hx))
    have hb := hi.k
    rw [hk] at hb
    obtain ⟨k'', hk''⟩ := hjk
    have hc := hj.k
    rw [hk''] at hc
    exact ⟨.int k' (k'.wrap n), by simp [execOp, ho, h1, convert, run_underlying hb, run_underlying hc, Conv.intToInt], .of_d (.int _ _)⟩

theorem st_nilCheck {x : Operand} {y : AV} (ho : o.op = .nilCheck x) (hx : getE gl E x = some y) (hy : (∃ k off, y = .ref k off) ∨ (∃ k sz j q, y = .elt k sz j q) ∨ ∃ cs, y = .d (.addr cs)) : Step P gl E O o id (some y) .none :=
  .val fun c E' O' al nt a w σ hgl hs hag => by
    subst hgl
    have h1 := hs.get (hag.get (x := x) (by simp [ho, Op.operands]) hx)
    have h2 : ∃ ad, a.eval x = .pointer (some ad) := by
      rcases hy with ⟨k, off, rfl⟩ | ⟨k, sz, j, q, rfl⟩ | ⟨cs, rfl⟩
      · obtain ⟨b, _, h⟩ := h1.toA.ref_inv; exact ⟨_, h⟩
      · obtain ⟨b, _, h⟩ := h1.toA.elt_inv; exact ⟨_, h⟩
      · obtain ⟨b, off, h⟩ := rep_addr_inv h1.d_inv; exact ⟨_, h⟩
    obtain ⟨ad, had⟩ := h2
    exact ⟨a.eval x, by simp [execOp, ho, had], h1⟩

theorem st_nilCheck_fn {x : Operand} {f : FuncId} {fs cs : List D} (ho : o.op = .nilCheck x) (hx : getE gl E x = some (.d (.fn f fs cs))) : Step P gl E O o id (some (.d (.fn f fs cs))) .none :=
  .val fun c E' O' al nt a w σ hgl hs hag => by
    subst hgl
    have h1 := hs.get (hag.get (x := x) (by simp [ho, Op.operands]) hx)
    have h2 : ∃ u v, a.eval x = .func (.func f) u v := by
      have h3 := h1.d_inv
      generalize a.eval x = u at h3 ⊢
      cases h3
      exact ⟨_, _, rfl⟩
    obtain ⟨u, v, had⟩ := h2
    exact ⟨a.eval x, by simp [execOp, ho, had], h1⟩

/-! ### Cuts -/
theorem rep_cut {w : World} {ok : Nat → Prop} {xs : List (List D)} {A : Option Addr} {n cap sz lo hi : Nat} (h : Rep w ok (.slice xs) (.slice A n cap)) (hsz : ∀ e ∈ xs, e.length = sz) (h1 : lo ≤ hi) (h2 : hi ≤ xs.length) :
    n = xs.length ∧ n ≤ cap ∧ Rep w ok (.slice ((xs.drop lo).take (hi - lo))) (.slice (if cap = lo then A else A.map (·.add (lo * sz))) (hi - lo) (cap - lo)) := by
  generalize hv : Value.slice A n cap = v at h
  cases h with
  | nil =>
    injection hv with e1 e2 e3
    subst e1; subst e2; subst e3
    simp at h2
    subst h2
    have h3 : lo = 0 := by omega
    subst h3
    exact ⟨rfl, Nat.le_refl _, by simpa using Rep.nil⟩
  | empty ad cp =>
    injection hv with e1 e2 e3
    subst e1; subst e2; subst e3
    simp at h2
    subst h2
    have h3 : lo = 0 := by omega
    subst h3
    refine ⟨rfl, Nat.zero_le _, ?_⟩
    have : (if cap = 0 then some ad else (some ad : Option Addr).map (·.add (0 * sz))) = some ad := by
      split
      · rfl
      · simp [Addr.add]
    rw [this]
    simpa using Rep.empty ad cap
  | slice _ b off cp sz' f hok hcap hmax hsz' hc h1' h =>
    injection hv with e1 e2 e3
    subst e1; subst e2; subst e3
    refine ⟨rfl, hcap, ?_⟩
    have hlen : ((xs.drop lo).take (hi - lo)).length = hi - lo := by rw [List.length_take, List.length_drop]; omega
    by_cases hz : cap = lo
    · subst hz
      have : hi - cap = 0 := by omega
      rw [this]
      simpa using Rep.empty ⟨b, off, none⟩ 0
    · rw [if_neg hz]
      simp only [Option.map_some, Addr.add_lit]
      have hsub : ∀ e ∈ (xs.drop lo).take (hi - lo), e.length = sz := fun e he => hsz e (List.mem_of_mem_drop (List.mem_of_mem_take he))
      have hflat : ∀ i, i < ((xs.drop lo).take (hi - lo)).flatten.length → ((xs.drop lo).take (hi - lo)).flatten[i]? = xs.flatten[lo * sz + i]? := fun i hi' => by
        have e1 : xs = xs.take lo ++ ((xs.drop lo).take (hi - lo) ++ (xs.drop lo).drop (hi - lo)) := by rw [List.take_append_drop, List.take_append_drop]
        have e2 : (xs.take lo).flatten.length = lo * sz := by
          rw [flat_len (sz := sz) fun e he => hsz e (List.mem_of_mem_take he), List.length_take]
          congr 1
          omega
        conv => rhs; rw [e1, List.flatten_append, List.flatten_append]
        rw [List.getElem?_append_right (by omega), e2, Nat.add_sub_cancel_left, List.getElem?_append_left hi']
      have hle : lo * sz + ((xs.drop lo).take (hi - lo)).flatten.length ≤ xs.flatten.length := by
        rw [flat_len hsub, flat_len hsz, hlen, ← Nat.add_mul]
        exact Nat.mul_le_mul_right _ (by omega)
      have := Rep.slice (w := w) (ok := ok) ((xs.drop lo).take (hi - lo)) b (off + lo * sz) (cap - lo) sz (fun i => f (lo * sz + i)) hok (by rw [hlen]; omega) (by rw [hlen]; omega) hsub
        (fun i hi' => by rw [Nat.add_assoc]; exact hc _ (by omega)) (fun i => h1' _) (fun i c hc' => by
          have hlt := (List.getElem?_eq_some_iff.1 hc').1
          exact h _ c ((hflat i hlt).symm.trans hc'))
      rw [hlen] at this
      exact this

/-- The bounds of a cut. -/
inductive CutB (gl : GL) (E : Nat → Option AV) (n : Nat) : Option Operand → Option Operand → Nat → Nat → Prop
  | all : CutB gl E n none none 0 n
  | lo (x : Operand) (k : IntKind) (l : Int) (hx : getE gl E x = some (.d (.int k l))) (h0 : 0 ≤ l) (h1 : l ≤ n) : CutB gl E n (some x) none l.toNat n
  | hi (y : Operand) (k : IntKind) (h : Int) (hy : getE gl E y = some (.d (.int k h))) (h0 : 0 ≤ h) (h1 : h ≤ n) : CutB gl E n none (some y) 0 h.toNat
  | both (x y : Operand) (k k' : IntKind) (l h : Int) (hx : getE gl E x = some (.d (.int k l))) (hy : getE gl E y = some (.d (.int k' h))) (h0 : 0 ≤ l) (h1 : l ≤ h) (h2 : h ≤ n) : CutB gl E n (some x) (some y) l.toNat h.toNat

theorem CutB.le {E : Nat → Option AV} {n : Nat} {x y : Option Operand} {l h : Nat} (hb : CutB gl E n x y l h) : l ≤ h ∧ h ≤ n := by
  cases hb <;> omega

theorem cut_run {c : Ctx} {E' : Nat → Option AV} {O' : Nat → Option Obj1} {al : Nat → Prop} {nt : Nat} {a : Act} {w : World} {σ : Nat → Value} (hs : SRep c E' O' al nt a w σ) (hag : Agree c.gl E E' O O' o) {n cap : Nat} {x y : Option Operand} {l h : Nat} (hb : CutB c.gl E n x y l h)
    (hm : ∀ z, (x = some z ∨ y = some z) → z ∈ o.op.operands) (hcap : n ≤ cap) : (Instr.sliceBounds true n cap (x.map a.eval) (y.map a.eval) none).run P w = .ok (l, h, cap) w ∧ (Instr.sliceBounds false n n (x.map a.eval) (y.map a.eval) none).run P w = .ok (l, h, n) w := by
  cases hb with
  | all => simp [Instr.sliceBounds]
  | lo x k l hx h0 h1 =>
    have e := rep_int (hs.get (hag.get (hm x (.inl rfl)) hx))
    simp [Instr.sliceBounds, e, run_sliceBound w k l n .sliceB h0 h1]
  | hi y k h hy h0 h1 =>
    have e := rep_int (hs.get (hag.get (hm y (.inr rfl)) hy))
    simp [Instr.sliceBounds, e, run_sliceBound w k h cap .sliceAcap h0 (by omega), run_sliceBound w k h n .sliceAlen h0 h1]
  | both x y k k' l h hx hy h0 h1 h2 =>
    have e1 := rep_int (hs.get (hag.get (hm x (.inl rfl)) hx))
    have e2 := rep_int (hs.get (hag.get (hm y (.inr rfl)) hy))
    simp [Instr.sliceBounds, e1, e2, run_sliceBound w k' h cap .sliceAcap (by omega) (by omega), run_sliceBound w k' h n .sliceAlen (by omega) h2, run_sliceBound w k l h.toNat .sliceB h0 (by omega)]

theorem st_cut {t te sz l h : Nat} {i : TI} {x : Operand} {lo hi : Option Operand} {xs : List (List D)} (hi' : i.ok P t) (hk : i.k = .slice te sz) (ho : o.op = .slice t x lo hi none) (hx : getE gl E x = some (.d (.slice xs))) (hsz : ∀ e ∈ xs, e.length = sz) (hb : CutB gl E xs.length lo hi l h) :
    Step P gl E O o id (some (.d (.slice ((xs.drop l).take (h - l))))) .none :=
  .val fun c E' O' al nt a w σ hgl hs hag => by
    subst hgl
    have h1 := (hs.get (hag.get (x := x) (by simp [ho, Op.operands]) hx)).d_inv
    have hbk := hi'.k
    rw [hk] at hbk
    obtain ⟨A, n, cap, hv⟩ : ∃ A n cap, a.eval x = .slice A n cap := by
      generalize a.eval x = v at h1
      cases h1 <;> exact ⟨_, _, _, rfl⟩
    rw [hv] at h1
    obtain ⟨hl1, hl2⟩ := hb.le
    obtain ⟨e1, e2, e3⟩ := rep_cut h1 hsz hl1 hl2
    subst e1
    have hr := (cut_run (P := P) hs hag hb (fun z hz => by
      simp only [ho, Op.operands]
      rcases hz with rfl | rfl <;> simp) e2).1
    refine ⟨_, ?_, .of_d e3⟩
    simp [execOp, ho, hv, Instr.sliceAt, Instr.slice, run_underlying hbk.1, hr, run_size_of_map hbk.2]

theorem st_cut_str {t l h : Nat} {i : TI} {x : Operand} {lo hi : Option Operand} {s : ByteArray} (hi' : i.ok P t) (hk : i.k = .str) (ho : o.op = .slice t x lo hi none) (hx : getE gl E x = some (.d (.str s))) (hb : CutB gl E s.size lo hi l h) :
    Step P gl E O o id (some (.d (.str (s.extract l h)))) .none :=
  .val fun c E' O' al nt a w σ hgl hs hag => by
    subst hgl
    obtain ⟨h1, h2⟩ := rep_str (hs.get (hag.get (x := x) (by simp [ho, Op.operands]) hx))
    have hbk := hi'.k
    rw [hk] at hbk
    have hr := (cut_run (P := P) (cap := s.size) hs hag hb (fun z hz => by
      simp only [ho, Op.operands]
      rcases hz with rfl | rfl <;> simp) (Nat.le_refl _)).2
    refine ⟨.string (s.extract l h), ?_, .of_d (.str _ ?_)⟩
    · simp [execOp, ho, h1, Instr.sliceAt, Instr.slice, run_underlying hbk, hr]
    · rw [ByteArray.size_extract]; omega

/-- An own row, made shorter: it stays one's own. -/
theorem st_cut_own {t te sz l h k : Nat} {i : TI} {fr : Bool} {x : Operand} {hi : Option Operand} {xs : List (List D)} {te' : Nat} (hi' : i.ok P t) (hk : i.k = .slice te sz) (ho : o.op = .slice t x none hi none) (hx : getE gl E x = some (.own k)) (hO : O k = some (.row fr te' sz xs)) (hb : CutB gl E xs.length none hi l h) :
    Step P gl E O o id (some (.own id)) (.swap k (.row fr te' sz (xs.take h))) :=
  .run fun c E' O' al nt a w σ hgl hs hid hag => by
    subst hgl
    have hm : x ∈ o.op.operands := by simp [ho, Op.operands]
    have h1 := hs.get (hag.get hm hx)
    have hO' : O' k = some (.row fr te' sz xs) := (hag.o x hm _ hx k (by simp [AV.ids])).trans hO
    obtain ⟨vs, f1, f2, f3, f4, f5, f6⟩ := row_facts (hs.own k _ hO').2
    have hv := h1.toA.own_inv
    have hbk := hi'.k
    rw [hk] at hbk
    obtain ⟨hl1, hl2⟩ := hb.le
    have hl0 : l = 0 := by cases hb <;> rfl
    subst hl0
    have hhl : (xs.take h).length = h := by rw [List.length_take]; omega
    have hflt : (xs.take h).flatten = xs.flatten.take (h * sz) := by
      have e1 : xs = xs.take h ++ xs.drop h := by rw [List.take_append_drop]
      have e2 : (xs.take h).flatten.length = h * sz := by rw [flat_len (sz := sz) fun e he => f4 e (List.mem_of_mem_take he), hhl]
      conv => rhs; rw [e1, List.flatten_append]
      rw [← e2, List.take_left]
    have hmem : ∀ z, ((none : Option Operand) = some z ∨ hi = some z) → z ∈ o.op.operands := fun z hz => by
      simp only [ho, Op.operands]
      rcases hz with h | rfl
      · cases h
      · simp
    have key : ∃ v', (Instr.slice t (σ k) none (hi.map a.eval) none).run P w = .ok v' w ∧ w.ownsRow 0 te' sz v' h (vs.take (h * sz)) ∧ ∀ b, blkOf v' = some b → blkOf (σ k) = some b := by
      rcases f1.2 with ⟨e1, e2⟩ | ⟨g, cap, cur, e1, e2, e3, e4, e5, e6, e7⟩
      · have hh : h = 0 := by omega
        subst hh
        have hr := (cut_run (P := P) (cap := 0) hs hag hb hmem (by omega)).1
        rw [e2] at hr
        refine ⟨.slice none 0 0, ?_, by simpa using World.ownsRow_nil w 0 te' sz, by simp [blkOf]⟩
        simp only [e1, Instr.slice, Sem.run_bind, run_underlying hbk.1, Result.andThen_ok, Option.map_none] at hr ⊢
        simp [hr, run_size_of_map hbk.2]
      · have hr := (cut_run (P := P) (cap := cap) hs hag hb hmem e4).1
        refine ⟨.slice (some ⟨g, 0, none⟩) h cap, ?_, ⟨?_, .inr ⟨g, cap, cur, rfl, Nat.zero_le _, e3, by omega, e5, e6, ?_⟩⟩, by simp [e1, blkOf]⟩
        · simp only [e1, Instr.slice, Sem.run_bind, run_underlying hbk.1, Result.andThen_ok, Option.map_none] at hr ⊢
          simp [hr, run_size_of_map hbk.2, Addr.add]
        · rw [List.length_take, f1.1]
          exact Nat.min_eq_left (Nat.mul_le_mul_right _ hl2)
        · rw [← e7, List.take_take, Nat.min_eq_left (Nat.mul_le_mul_right _ hl2)]
    obtain ⟨v', k1, k2, k3⟩ := key
    have hn := hs.swap (id := id) (o' := .row fr te' sz (xs.take h)) (v := v') hO' hid (Go1.refl w _) (fun b hb => .inl (k3 b hb)) rfl (fun ok' hkp => by
      refine row_mk (vs := vs.take (h * sz)) (by rw [hhl]; exact k2) f2 (by omega) (fun e he => f4 e (List.mem_of_mem_take he)) (fun u hu => f5 u (List.mem_of_mem_take hu)) (fun j cc u hc hu => ?_)
      rw [hflt, List.getElem?_take] at hc
      rw [List.getElem?_take] at hu
      split at hc
      · rename_i hlt
        rw [if_pos hlt] at hu
        exact (f6 j cc u hc hu).mono hkp
      · cases hc)
    refine ⟨v', w, _, ?_, hn, rep_own_new id (.inr rfl) (by simp [updσ])⟩
    rw [← hv] at k1
    simp only [execOp, ho, Instr.sliceAt, Sem.run_bind, run_underlying hbk.1, Result.andThen_ok, Option.map_none]
    simp [k1]
end
end Go.Proofs.Ytpibdbjlilpfiaa
/- Stores into own rows; conversions between strings and bytes; what is forgotten. -/
namespace Go.Proofs.Ytpibdbjlilpfiaa
set_option linter.all false
open Go Go.RowKit

theorem flat_splice {α : Type} {sz : Nat} : ∀ {xs : List (List α)}, (∀ x ∈ xs, x.length = sz) → ∀ {j : Nat} {x : List α}, xs[j]? = some x → ∀ o new, o + new.length ≤ sz → (xs.set j (splice x o new)).flatten = splice xs.flatten (j * sz + o) new := by
  intro xs h j x hx o new ho
  have hj : j < xs.length := (List.getElem?_eq_some_iff.1 hx).1
  have hxl : x.length = sz := h x (List.mem_of_getElem? hx)
  have hjs : j * sz + sz ≤ xs.length * sz := by rw [← Nat.succ_mul]; exact Nat.mul_le_mul_right _ hj
  have hfl := flat_len h
  have h' : ∀ y ∈ xs.set j (splice x o new), y.length = sz := fun y hy => by
    rcases List.mem_or_eq_of_mem_set hy with hy | rfl
    · exact h y hy
    · rw [splice_len _ _ _ (by omega), hxl]
  have hfl' := flat_len h'
  rw [List.length_set] at hfl'
  apply List.ext_getElem?
  intro i
  rw [splice_get _ _ _ (by omega)]
  by_cases hi : i < xs.length * sz
  · by_cases hs0 : sz = 0
    · subst hs0; simp at hi
    · have hpos : 0 < sz := by omega
      have hq : i / sz < xs.length := (Nat.div_lt_iff_lt_mul hpos).2 hi
      have hr : i % sz < sz := Nat.mod_lt _ hpos
      have hdm : i = (i / sz) * sz + i % sz := (Nat.div_add_mod' i sz).symm
      by_cases hij : i / sz = j
      · have e1 : (xs.set j (splice x o new))[i / sz]? = some (splice x o new) := by rw [hij, List.getElem?_set_self hj]
        have e2 := flat_at h' e1 (i % sz) hr
        rw [← hdm] at e2
        rw [e2, splice_get _ _ _ (by omega)]
        have e3 := flat_at h (show xs[i / sz]? = some x by rw [hij]; exact hx) (i % sz) hr
        rw [← hdm] at e3
        rw [e3]
        rw [hij] at hdm
        by_cases hc : o ≤ i % sz ∧ i % sz < o + new.length
        · rw [if_pos hc, if_pos (by omega)]; congr 1; omega
        · rw [if_neg hc, if_neg (by omega)]
      · have e1 : (xs.set j (splice x o new))[i / sz]? = some xs[i / sz] := by rw [List.getElem?_set_ne (fun e => hij e.symm)]; exact List.getElem?_eq_getElem hq
        have e2 := flat_at h' e1 (i % sz) hr
        rw [← hdm] at e2
        have e3 := flat_at h (List.getElem?_eq_getElem hq) (i % sz) hr
        rw [← hdm] at e3
        rw [e2, e3, if_neg]
        rintro ⟨g1, g2⟩
        apply hij
        have h9 : (sz * j + (i - j * sz)) / sz = j := by
          rw [Nat.mul_add_div hpos, Nat.div_eq_of_lt (by omega), Nat.add_zero]
        rw [Nat.mul_comm sz j, show j * sz + (i - j * sz) = i by omega] at h9
        exact h9
  · rw [List.getElem?_eq_none (by omega), if_neg (by omega), List.getElem?_eq_none (by omega)]

theorem splice_take {α : Type} (cs : List α) (n : Nat) (new : List α) (m : Nat) (h : n + new.length ≤ m) (hm : m ≤ cs.length) : (splice cs n new).take m = splice (cs.take m) n new := by
  apply List.ext_getElem?
  intro i
  rw [splice_get _ _ _ (by rw [List.length_take]; omega), List.getElem?_take, splice_get _ _ _ (by omega), List.getElem?_take]
  by_cases hi : i < m
  · simp [hi]
  · rw [if_neg hi, if_neg hi, if_neg (by omega)]

section
variable {P : Program} {E : Nat → Option AV} {O : Nat → Option Obj1} {gl : GL} {o : Oper} {id : Nat}

theorem st_store_elt {t k sz j off : Nat} {fr : Bool} {te : Nat} {xs : List (List D)} {x v : Operand} {y : AV} {e ds : List D} {i : TI} (hi : i.ok P t) (ho : o.op = .store t x v) (hx : getE gl E x = some (.elt k sz j off)) (hO : O k = some (.row fr te sz xs)) (hv : getE gl E v = some y)
    (ht : y.isTup = false) (hds : allD y.cells = some ds) (hsz : ds.length = i.size) (he : xs[j]? = some e) (hfit : off + ds.length ≤ sz) : Step P gl E O o id none (.turn k (.row fr te sz (xs.set j (splice e off ds)))) :=
  .skip fun c E' O' al nt a w σ hgl hs hid hag => by
    subst hgl
    have hm : x ∈ o.op.operands := by simp [ho, Op.operands]
    have hm2 : v ∈ o.op.operands := by simp [ho, Op.operands]
    have h1 := hs.get (hag.get hm hx)
    have h2 := hs.get (hag.get hm2 hv)
    have hO' : O' k = some (.row fr te sz xs) := (hag.o x hm _ hx k (by simp [AV.ids])).trans hO
    have hnot : ∀ k', y = .own k' → False := fun k' hk => by subst hk; simp [AV.cells, allD] at hds
    obtain ⟨us, u1, u2, u3, u4⟩ := h2.cells ht (fun k' hk => (hnot k' hk).elim)
    have hdl := allD_eq hds
    rw [hdl] at u2 u4
    rw [List.length_map] at u2
    obtain ⟨b, hb, hva⟩ := h1.toA.elt_inv
    obtain ⟨vs, f1, f2, f3, f4, f5, f6⟩ := row_facts (hs.own k _ hO').2
    have hj : j < xs.length := (List.getElem?_eq_some_iff.1 he).1
    have hjs : j * sz + sz ≤ xs.length * sz := by rw [← Nat.succ_mul]; exact Nat.mul_le_mul_right _ hj
    rcases f1.2 with ⟨_, e2⟩ | ⟨g, cap, cur, e1, e2, e3, e4, e5, e6, e7⟩
    · omega
    · rw [e1] at hb
      simp [blkOf] at hb
      subst hb
      have hcur : w.heap[g]? = some (.cells cur.toList.toArray te (0, 0)) := by simpa using e3
      have hcl : cur.toList.length = cap * sz := by simpa using e6
      have hns : xs.length * sz ≤ cap * sz := Nat.mul_le_mul_right _ e4
      obtain ⟨w', hr, hh', hgo⟩ := run_storeCells_list P g (j * sz + off) us cur.toList 0 w hcur (by omega) u3
      have hbk : blkOf (σ k) = some g := by rw [e1]; rfl
      have hel : e.length = sz := f4 e (List.mem_of_getElem? he)
      have hset : ∀ z ∈ xs.set j (splice e off ds), z.length = sz := fun z hz => by
        rcases List.mem_or_eq_of_mem_set hz with hz | rfl
        · exact f4 z hz
        · rw [splice_len _ _ _ (by omega), hel]
      have hturn := (hs.al_ext (al' := fun j => al j ∨ j = id) fun _ => .inl).turn (w' := w') (o' := .row fr te sz (xs.set j (splice e off ds))) hO' (by rw [hbk]; exact hgo) rfl (fun ok' hkp => by
        refine row_mk (vs := splice vs (j * sz + off) us) ?_ f2 (by rw [List.length_set]; exact f3) hset (fun u hu => ?_) (fun m cc u hc hu => ?_)
        · rw [List.length_set, e1]
          refine ⟨by rw [splice_len _ _ _ (by rw [f1.1]; omega), f1.1], .inr ⟨g, cap, _, rfl, Nat.zero_le _, hh', e4, e5, ?_, ?_⟩⟩
          · rw [List.size_toArray, splice_len _ _ _ (by omega), hcl]
          · show (splice cur.toList (j * sz + off + 0) us).take (xs.length * sz) = _
            rw [Nat.add_zero, splice_take _ _ _ _ (by omega) (by omega), e7]
        · obtain ⟨q, hq⟩ := List.mem_iff_getElem?.1 hu
          rw [splice_get _ _ _ (by rw [f1.1]; omega)] at hq
          split at hq
          · exact u3 u (List.mem_of_getElem? hq)
          · exact f5 u (List.mem_of_getElem? hq)
        · rw [flat_splice f4 he off ds hfit, splice_get _ _ _ (by rw [flat_len f4]; omega)] at hc
          rw [splice_get _ _ _ (by rw [f1.1]; omega), u2] at hu
          split at hu
          · rename_i hcnd
            rw [if_pos hcnd] at hc
            exact ((u4 _ (.d cc) u (by simp [hc]) hu).d_inv).mono hkp
          · rename_i hcnd
            rw [if_neg hcnd] at hc
            exact (f6 m cc u hc hu).mono hkp)
      refine ⟨w', σ, ?_, hturn⟩
      have hus : us.length = i.size := by omega
      simp [execOp, ho, hva, Instr.storeAt, Instr.sureAddr, storeVar, hi.sizeOf, u1, hus, hr]

/-! ### Strings and bytes -/
def encB (b : UInt8) : List D := [.int .u8 b.toNat]

theorem bytes_flat (l : List UInt8) (i : Nat) : (l.map encB).flatten[i]? = (l[i]?).map fun q : UInt8 => D.int .u8 q.toNat := by
  induction l generalizing i with
  | nil => simp
  | cons q r ih => cases i with
    | zero => simp [encB]
    | succ i => simp [encB]; exact ih i

theorem st_bytes {s t te : Nat} {i j : TI} {x : Operand} {b : ByteArray} (hi : i.ok P t) (hk : i.k = .slice te 1) (hte : P.underlying te = some (.int .u8)) (hj : j.ok P s) (hjk : j.k = .str) (ho : o.op = .convert s t x) (hx : getE gl E x = some (.d (.str b))) : Step P gl E O o id (some (.d (.slice (b.data.toList.map encB)))) .none :=
  .run fun c E' O' al nt a w σ hgl hs hid hag => by
    subst hgl
    obtain ⟨h1, h2⟩ := rep_str (hs.get (hag.get (x := x) (by simp [ho, Op.operands]) hx))
    have hb := hi.k
    rw [hk] at hb
    have hc := hj.k
    rw [hjk] at hc
    have hg : Go1 w (Lib.bytesWorld w te b) none := ⟨rfl, rfl, rfl, by rw [Lib.bytesWorld_size]; omega, fun q hq _ => Lib.bytesWorld_at_old w te b q hq⟩
    have hn := (hs.grow hg).al_ext (al' := fun j => al j ∨ j = id) fun _ => .inl
    have hrun := Lib.run_convert_string_bytes (P := P) w s t te b hc hb.1 hte
    refine ⟨.slice (some ⟨w.heap.size, 0, none⟩) b.size (grownCap w b.size 0 te), _, σ, by simp [execOp, ho, h1, hrun], hn, .of_d ?_⟩
    by_cases h0 : b.size = 0
    · have hd0 : b.data.toList = [] := List.eq_nil_of_length_eq_zero (by simpa using h0)
      rw [h0, hd0]
      exact .empty _ _
    · have hlen : (b.data.toList.map encB).length = b.size := by simp
      have hone : ∀ e ∈ b.data.toList.map encB, e.length = 1 := fun e he => by
        obtain ⟨q, _, rfl⟩ := List.mem_map.1 he
        rfl
      have hfl := flat_len hone
      have := Rep.slice (w := Lib.bytesWorld w te b) (ok := okk c (Eff.none.app id O') σ (Lib.bytesWorld w te b)) (b.data.toList.map encB) w.heap.size 0 (grownCap w b.size 0 te) 1 (fun i => .int .u8 (b.data.toList.getD i 0).toNat)
        ⟨by rw [Lib.bytesWorld_size]; omega, .inr hs.size, fun k ob hk he => by
          have := (hs.own k ob hk).2.toO.lt _ he
          omega⟩
        (by rw [hlen]; exact grownCap_ge w b.size 0 te) (by rw [hlen]; exact h2) hone
        (fun i hi => by
          rw [hfl, hlen, Nat.mul_one] at hi
          rw [Nat.zero_add]
          exact Lib.bytesWorld_cell w te b i hi) (fun i => rfl)
        (fun i cc hcc => by
          rw [bytes_flat, Option.map_eq_some_iff] at hcc
          obtain ⟨q, hq, rfl⟩ := hcc
          rw [List.getD_eq_getElem?_getD, hq]
          exact .int _ _)
      rw [hlen] at this
      exact this

/-- string(bytes), of bytes that are read. -/
theorem st_strof {s t te : Nat} {i j : TI} {x : Operand} {l : List UInt8} (hi : i.ok P t) (hk : i.k = .str) (hj : j.ok P s) (hjk : j.k = .slice te 1) (hte : P.underlying te = some (.int .u8)) (ho : o.op = .convert s t x) (hx : getE gl E x = some (.d (.slice (l.map encB)))) :
    Step P gl E O o id (some (.d (.str ⟨l.toArray⟩))) .none :=
  .val fun c E' O' al nt a w σ hgl hs hag => by
    subst hgl
    have h1 := (hs.get (hag.get (x := x) (by simp [ho, Op.operands]) hx)).d_inv
    have hb := hi.k
    rw [hk] at hb
    have hc := hj.k
    rw [hjk] at hc
    have hstr : l.length ≤ maxLen → Rep w (okk c O' σ w) (.str ⟨l.toArray⟩) (.string ⟨l.toArray⟩) := fun h => .str _ h
    generalize hxs : l.map encB = xs at h1
    generalize hv : a.eval x = v at h1
    cases h1 with
    | nil =>
      have : l = [] := by simpa using hxs
      subst this
      exact ⟨.string ⟨#[]⟩, by simp only [execOp, ho, Sem.run_bind, hv, run_convert_bytes_nil w s te hc.1 hte 0 0 t hb]; rfl, .of_d (hstr (by simp))⟩
    | empty ad cap =>
      have : l = [] := by simpa using hxs
      subst this
      obtain ⟨bb, off, sp⟩ := ad
      refine ⟨.string ⟨#[]⟩, ?_, .of_d (hstr (by simp))⟩
      have h0 : (loadCells ⟨bb, off, sp⟩ 0).run P w = .ok (([] : List Int).map (Value.int .u8)).toArray w := by simp [loadCells, loadCellsFrom]
      simp only [execOp, ho, Sem.run_bind, hv, run_convert_bytes_string w s t te _ 0 cap hc.1 hte hb, run_bytesToString w _ 0 cap [] h0]
      rfl
    | slice _ b off cap sz f hok hcap hmax hsz hcc hh1 h =>
      subst hxs
      have hlen : (l.map encB).length = l.length := by simp
      have hone : ∀ e ∈ l.map encB, e.length = 1 := fun e he => by
        obtain ⟨q, _, rfl⟩ := List.mem_map.1 he
        rfl
      have hfl := flat_len hone
      have hcell : ∀ i, i < (l.map encB).length → w.cell? ⟨b, off + i, none⟩ = some (.int .u8 ((l.map fun q : UInt8 => (q.toNat : Int)).getD i 0)) := fun i hi => by
        have h3 := hcc i (by rw [hfl]; omega)
        rw [h3]
        rw [hlen] at hi
        have h4 := h i (.int .u8 l[i].toNat) (by rw [bytes_flat]; simp [hi])
        cases hf : f i with
        | int k n =>
          rw [hf] at h4
          cases h4
          simp [List.getD_eq_getElem?_getD, hi]
        | _ => rw [hf] at h4; cases h4
      have hr := run_convert_bytes_arg (P := P) w s te hc.1 hte b off (l.map encB).length cap (l.map fun q : UInt8 => (q.toNat : Int)) (by simp) hcell t hb
      have hs2 : strOfNums (l.map fun q : UInt8 => (q.toNat : Int)) = ⟨l.toArray⟩ := by
        simp [strOfNums, Function.comp_def]
      rw [hs2] at hr
      exact ⟨.string ⟨l.toArray⟩, by simp only [execOp, ho, Sem.run_bind, hv, hr, Result.andThen_ok, Sem.run_pure], .of_d (hstr (by omega))⟩
end

section
variable {P : Program} {E : Nat → Option AV} {O : Nat → Option Obj1} {gl : GL} {o : Oper} {id : Nat}
/-! ### nil: its capacity, a cut of it, zeros behind it -/
theorem st_cap_nil {t te sz : Nat} {ts : Array TypeId} {x : Operand} {i : TI} (hi : i.ok P t) (hk : i.k = .slice te sz) (hts : ts = #[t]) (ho : o.op = .call { callee := .builtin .cap, args := #[x], argTypes := ts }) (hx : getE gl E x = some (.d .nils)) : Step P gl E O o id (some (.d (.int .i64 0))) .none :=
  .val fun c E' O' al nt a w σ hgl hs hag => by
    subst hgl
    subst hts
    have hm : x ∈ o.op.operands := by simp [ho, Op.operands, Call.operands]
    have h1 := (hs.get (hag.get hm hx)).d_inv
    have hb := hi.k
    rw [hk] at hb
    generalize hv : a.eval x = v at h1
    cases h1
    refine ⟨.int .i64 0, ?_, .of_d (.int _ _)⟩
    simp [execOp, ho, resolve, invoke, builtin, hv, Builtin.cap_, run_underlying hb.1, goInt]
theorem st_cut_nil {t te sz l h : Nat} {i : TI} {x : Operand} {lo hi : Option Operand} (hi' : i.ok P t) (hk : i.k = .slice te sz) (ho : o.op = .slice t x lo hi none) (hx : getE gl E x = some (.d .nils)) (hb : CutB gl E 0 lo hi l h) :
    Step P gl E O o id (some (.d .nils)) .none :=
  .val fun c E' O' al nt a w σ hgl hs hag => by
    subst hgl
    have h1 := (hs.get (hag.get (x := x) (by simp [ho, Op.operands]) hx)).d_inv
    have hbk := hi'.k
    rw [hk] at hbk
    generalize hv : a.eval x = v at h1
    cases h1
    obtain ⟨hl1, hl2⟩ := hb.le
    have h0 : h = 0 := by omega
    have l0 : l = 0 := by omega
    have hr := (cut_run (P := P) (cap := 0) hs hag hb (fun z hz => by
      simp only [ho, Op.operands]
      rcases hz with rfl | rfl <;> simp) (Nat.le_refl _)).1
    subst h0; subst l0
    refine ⟨.slice none 0 0, ?_, .of_d .nils⟩
    simp [execOp, ho, hv, Instr.sliceAt, Instr.slice, run_underlying hbk.1, hr, run_size_of_map hbk.2]
theorem st_append_zeros {t t' te sz : Nat} {ts : Array TypeId} {s x : Operand} {k kn : IntKind} {n : Int} {i i' ie : TI} (hi : i.ok P t) (hk : i.k = .slice te sz) (hi' : i'.ok P t') (hk' : i'.k = .int kn) (hie : ie.ok P te) (hsz : ie.size = sz) (hpos : 0 < sz) (htup : ie.zd.isTup = false)
    (hts : ts = #[t, t']) (ho : o.op = .call { callee := .builtin .append, args := #[s, x], argTypes := ts }) (hs' : getE gl E s = some (.d .nils)) (hx : getE gl E x = some (.d (.int k n))) (h0 : 0 < n) (hb : n.toNat * ie.bytes ≤ 140737488355328) (h63 : n ≤ 4611686018427387904) :
    Step P gl E O o id (some (.own id)) (.new (.row true te sz (List.replicate n.toNat ie.zd.cells))) :=
  .run fun c E' O' al nt a w σ hgl hs hid hag => by
    subst hgl
    subst hts
    have h1 := (hs.get (hag.get (x := s) (by simp [ho, Op.operands, Call.operands]) hs')).d_inv
    have h2 := rep_int (hs.get (hag.get (x := x) (by simp [ho, Op.operands, Call.operands]) hx))
    have hv : a.eval s = .slice none 0 0 := by
      generalize a.eval s = u at h1 ⊢
      cases h1
      rfl
    have hbk := hi.k
    rw [hk] at hbk
    have hbk' := hi'.k
    rw [hk'] at hbk'
    obtain ⟨it, z, vs, i1, i2, i3, i4, i5, i6, i7, i8, i9⟩ := zero_cells hie htup
    have hnn : ((n.toNat : Nat) : Int) = n := by omega
    have hr := Lib.run_append_nil_zeros (P := P) w t t' o.type te it z k kn hbk.1 hbk' i1 i4 n.toNat (by omega) (by omega) (by omega) (by rw [i3]; omega)
    rw [hnn] at hr
    have hvl : vs.length = sz := by omega
    have hzc : (Builtin.zeroCells z.cells n.toNat).toList = (List.range (n.toNat * sz)).map fun j => vs.getD (j % sz) (.bool false) := by
      apply List.ext_getElem?
      intro j
      by_cases hj : j < n.toNat * sz
      · have hm : j % sz < vs.length := by rw [hvl]; exact Nat.mod_lt _ hpos
        simp only [Builtin.zeroCells, Array.toList_map, Array.toList_range, i5, List.size_toArray, hvl, List.getElem?_map, List.getElem?_range hj, Option.map_some, List.getD_eq_getElem?_getD, List.getElem?_eq_getElem hm, Option.getD_some, Option.some.injEq]
        rw [getElem!_pos _ _ (by simpa using hm)]
        simp
      · simp [Builtin.zeroCells, i5, hvl, hj]
    have hzl : (Builtin.zeroCells z.cells n.toNat).toList.length = n.toNat * sz := by rw [hzc]; simp
    have hge := grownCap_ge w n.toNat 0 te
    have hown : (w.drew.alloc (.cells (Builtin.zeroCells z.cells n.toNat ++ Builtin.zeroCells z.cells (grownCap w n.toNat 0 te - n.toNat)) te)).ownsRow 0 te sz (.slice (some ⟨w.heap.size, 0, none⟩) n.toNat (grownCap w n.toNat 0 te)) n.toNat (Builtin.zeroCells z.cells n.toNat).toList := by
      refine ⟨hzl, .inr ⟨w.heap.size, _, _, rfl, Nat.zero_le _, heap_alloc_new w.drew _, hge, grownCap_le_maxLen w n.toNat 0 te (by simp only [maxLen]; omega), ?_, ?_⟩⟩
      · simp only [Array.size_append, size_zeroCells, i5, List.size_toArray, hvl, ← Nat.add_mul]
        congr 1
        omega
      · rw [Array.toList_append, ← hzl]
        exact List.take_left
    have hn' := hs.new (id := id) (o := .row true te sz (List.replicate n.toNat ie.zd.cells)) (v := .slice (some ⟨w.heap.size, 0, none⟩) n.toNat (grownCap w n.toNat 0 te)) (w' := w.drew.alloc (.cells (Builtin.zeroCells z.cells n.toNat ++ Builtin.zeroCells z.cells (grownCap w n.toNat 0 te - n.toNat)) te))
      ⟨rfl, rfl, rfl, by simp, fun k hk _ => heap_alloc_old w.drew _ k hk⟩ hid (fun b hb => by simp [blkOf] at hb; omega) (fun ok' hkp => by
      refine row_mk (vs := (Builtin.zeroCells z.cells n.toNat).toList) (by rw [List.length_replicate]; exact hown) hpos (by rw [List.length_replicate]; simp only [maxLen]; omega) (fun e he => by rw [(List.mem_replicate.1 he).2]; omega) (fun u hu => ?_) (fun j c u hc hu => ?_)
      · rw [hzc] at hu
        obtain ⟨j, hj, rfl⟩ := List.mem_map.1 hu
        have hm : j % sz < vs.length := by rw [hvl]; exact Nat.mod_lt _ hpos
        rw [List.getD_eq_getElem?_getD, List.getElem?_eq_getElem hm]
        exact i8 _ (List.getElem_mem hm)
      · rw [hzc] at hu
        have hlens : ∀ x ∈ List.replicate n.toNat ie.zd.cells, x.length = sz := fun e he => by rw [(List.mem_replicate.1 he).2]; omega
        have hj : j < n.toNat * sz := by have := (List.getElem?_eq_some_iff.1 hu).1; simpa using this
        have hq : (List.replicate n.toNat ie.zd.cells)[j / sz]? = some ie.zd.cells := by
          rw [List.getElem?_replicate, if_pos ((Nat.div_lt_iff_lt_mul hpos).2 hj)]
        have h7 := flat_at hlens hq (j % sz) (Nat.mod_lt _ hpos)
        rw [Nat.div_add_mod'] at h7
        rw [h7] at hc
        have hm : j % sz < vs.length := by rw [hvl]; exact Nat.mod_lt _ hpos
        simp only [List.getElem?_map, List.getElem?_range hj, Option.map_some, Option.some.injEq] at hu
        rw [List.getD_eq_getElem?_getD, List.getElem?_eq_getElem hm] at hu
        exact i9 _ _ (j % sz) c u hc (by rw [List.getElem?_eq_getElem hm]; exact congrArg some hu))
    exact ⟨.slice (some ⟨w.heap.size, 0, none⟩) n.toNat (grownCap w n.toNat 0 te), _, _, by simp [execOp, ho, resolve, invoke, builtin, hv, h2, hr], hn', rep_own_new id (.inr rfl) (by simp [updσ])⟩
end

section
variable {P : Program} {E : Nat → Option AV} {O : Nat → Option Obj1} {gl : GL} {o : Oper} {id : Nat}
/-! ### Values of interfaces -/
def TK.conc : TK → Bool
  | .iface _ | .other => false
  | _ => true
theorem TI.ok.conc {t : Nat} {i : TI} (hi : i.ok P t) (hk : i.k.conc = true) : P.concrete t = true := by
  have h := hi.k
  cases hh : i.k <;> rw [hh] at hk h <;> simp only [TK.conc, TK.ok] at hk h <;> first | (cases hk; done) | skip
  case struct => obtain ⟨l, h1, _⟩ := h; simp [Program.concrete, h1]
  case func => obtain ⟨_, _, _, h1⟩ := h; simp [Program.concrete, h1]
  case arr => simp [Program.concrete, h.1]
  case slice => simp [Program.concrete, h.1]
  all_goals simp [Program.concrete, h]
theorem st_makeInterface {t : Nat} {x : Operand} {y : D} {i : TI} (hi : i.ok P t) (hk : i.k.conc = true) (ho : o.op = .makeInterface t x) (hx : getE gl E x = some (.d y)) : Step P gl E O o id (some (.d (.iface t y))) .none :=
  .val fun c E' O' al nt a w σ hgl hs hag => by
    subst hgl
    have h1 := (hs.get (hag.get (x := x) (by simp [ho, Op.operands]) hx)).d_inv
    exact ⟨.iface t (a.eval x), by simp [execOp, ho, run_makeInterface w t (a.eval x) (hi.conc hk)], .of_d (.iface _ _ _ h1)⟩
theorem run_assert {w : World} {t s u : Nat} {v : Value} {i : TI} (hi : i.ok P u) (hk : i.k.conc = true) {z : Value} (hz : (zeroValue u).run P w = .ok z w) :
    (Instr.typeAssert (.iface t v) s u true).run P w = .ok (if t = u then .tuple #[v, .bool true] else .tuple #[z, .bool false]) w := by
  have h := hi.conc hk
  unfold Program.concrete at h
  cases hd : P.underlying u with
  | none => simp [hd] at h
  | some d => cases d <;> first | (simp [hd] at h; done) | (simp only [Instr.typeAssert, Sem.run_bind, run_underlying hd, Result.andThen_ok]; split <;> simp [hz])
theorem run_assert_nil {w : World} {s u : Nat} {i : TI} (hi : i.ok P u) (hk : i.k.conc = true) {z : Value} (hz : (zeroValue u).run P w = .ok z w) :
    (Instr.typeAssert .nilIface s u true).run P w = .ok (.tuple #[z, .bool false]) w := by
  have h := hi.conc hk
  unfold Program.concrete at h
  cases hd : P.underlying u with
  | none => simp [hd] at h
  | some d => cases d <;> first | (simp [hd] at h; done) | (simp only [Instr.typeAssert, Sem.run_bind, run_underlying hd, Result.andThen_ok]; simp [hz])
theorem tup2 {w : World} {ok : Nat → Prop} {x y : D} {u v : Value} (h1 : Rep w ok x u) (h2 : Rep w ok y v) : Rep w ok (.tup [x, y]) (.tuple #[u, v]) :=
  .tup [x, y] [u, v] rfl fun i c v' hc hv => by
    match i with
    | 0 => simp at hc hv; subst hc; subst hv; exact h1
    | 1 => simp at hc hv; subst hc; subst hv; exact h2
    | i + 2 => simp at hc
/-- What 'x, ok := v.(T)' gives. -/
def assertV (u : Nat) (z : D) : D → Option D
  | .iface t y => some (if t = u then .tup [y, .bool true] else .tup [z, .bool false])
  | .nilif => some (.tup [z, .bool false])
  | _ => none
theorem st_typeAssert {s u : Nat} {x : Operand} {y r : D} {i : TI} (hi : i.ok P u) (hk : i.k.conc = true) (ho : o.op = .typeAssert x s u true) (hx : getE gl E x = some (.d y)) (hr : assertV u i.zd y = some r) : Step P gl E O o id (some (.d r)) .none :=
  .val fun c E' O' al nt a w σ hgl hs hag => by
    subst hgl
    have h1 := (hs.get (hag.get (x := x) (by simp [ho, Op.operands]) hx)).d_inv
    obtain ⟨z, hz, hzr, _⟩ := hi.zero w
    generalize hv : a.eval x = v at h1
    cases h1 <;> simp only [assertV, reduceCtorEq, Option.some.injEq] at hr
    case iface t y v h =>
      subst hr
      refine ⟨if t = u then .tuple #[v, .bool true] else .tuple #[z, .bool false], by simp [execOp, ho, hv, run_assert hi hk hz], .of_d ?_⟩
      split
      · exact tup2 h (.bool _)
      · exact tup2 (hzr _ _) (.bool _)
    case nilif =>
      subst hr
      exact ⟨.tuple #[z, .bool false], by simp [execOp, ho, hv, run_assert_nil hi hk hz], .of_d (tup2 (hzr _ _) (.bool _))⟩
end
end Go.Proofs.Ytpibdbjlilpfiaa
/- '==' of structs and arrays of cells that can be compared. -/
namespace Go.Proofs.Ytpibdbjlilpfiaa
set_option linter.all false
open Go Go.RowKit

/-- Are the cells the same? -/
def same1 : Sc → D → D → Option Bool
  | .int, .int k a, .int k' b => if k = k' then some (decide (a = b)) else none
  | .bool, .bool a, .bool b => some (a == b)
  | .str, .str a, .str b => some (decide (a = b))
  | _, _, _ => none
def sameS : List Sc → List D → List D → Option Bool
  | [], [], [] => some true
  | k :: ks, x :: xs, y :: ys => match same1 k x y, sameS ks xs ys with
    | some p, some q => some (p && q)
    | _, _ => none
  | _, _, _ => none

theorem sameS_cons {k : Sc} {ks : List Sc} {xs ys : List D} {b : Bool} (h : sameS (k :: ks) xs ys = some b) : ∃ x xs' y ys' p q, xs = x :: xs' ∧ ys = y :: ys' ∧ same1 k x y = some p ∧ sameS ks xs' ys' = some q ∧ b = (p && q) := by
  cases xs with
  | nil => simp [sameS] at h
  | cons x xs =>
    cases ys with
    | nil => simp [sameS] at h
    | cons y ys =>
      simp only [sameS] at h
      split at h
      · rename_i p q hp hq
        injection h with h
        exact ⟨x, xs, y, ys, p, q, rfl, rfl, hp, hq, h.symm⟩
      · cases h
theorem sameS_nil {xs ys : List D} {b : Bool} (h : sameS [] xs ys = some b) : xs = [] ∧ ys = [] ∧ b = true := by
  cases xs <;> cases ys <;> simp [sameS] at h
  exact ⟨rfl, rfl, h⟩

theorem sameS_app : ∀ {ks r : List Sc} {xs ys : List D} {b : Bool}, sameS (ks ++ r) xs ys = some b → ∃ b1 b2, sameS ks (xs.take ks.length) (ys.take ks.length) = some b1 ∧ sameS r (xs.drop ks.length) (ys.drop ks.length) = some b2 ∧ b = (b1 && b2)
  | [], r, xs, ys, b, h => ⟨true, b, by simp [sameS], by simpa using h, by simp⟩
  | k :: ks, r, xs, ys, b, h => by
    obtain ⟨x, xs', y, ys', p, q, rfl, rfl, h1, h2, rfl⟩ := sameS_cons h
    obtain ⟨b1, b2, h3, h4, rfl⟩ := sameS_app h2
    exact ⟨p && b1, b2, by simp [sameS, h1, h3], by simpa using h4, by rw [Bool.and_assoc]⟩

theorem sameS_len : ∀ {ks : List Sc} {xs ys : List D} {b : Bool}, sameS ks xs ys = some b → xs.length = ks.length ∧ ys.length = ks.length
  | [], xs, ys, b, h => by obtain ⟨rfl, rfl, _⟩ := sameS_nil h; simp
  | k :: ks, xs, ys, b, h => by
    obtain ⟨x, xs', y, ys', p, q, rfl, rfl, h1, h2, rfl⟩ := sameS_cons h
    have := sameS_len h2
    simp [this]

section
variable {P : Program} {w : World} {ok : Nat → Prop}

/-- The cells of a list, one by one. -/
def CR (w : World) (ok : Nat → Prop) (ds : List D) (vs : List Value) : Prop := vs.length = ds.length ∧ ∀ (i : Nat) d v, ds[i]? = some d → vs[i]? = some v → Rep w ok d v
theorem CR.take {ds : List D} {vs : List Value} (h : CR w ok ds vs) (n : Nat) : CR w ok (ds.take n) (vs.take n) := ⟨by simp [h.1], fun i d v hd hv => by
  rw [List.getElem?_take] at hd hv
  split at hd
  · rename_i hlt; rw [if_pos hlt] at hv; exact h.2 i d v hd hv
  · cases hd⟩
theorem CR.drop {ds : List D} {vs : List Value} (h : CR w ok ds vs) (n : Nat) : CR w ok (ds.drop n) (vs.drop n) := ⟨by simp [h.1], fun i d v hd hv => by
  rw [List.getElem?_drop] at hd hv
  exact h.2 _ d v hd hv⟩

/-- The cells of a value of the type. -/
def VlOf (P : Program) (t : Nat) (vs : List Value) (v : Value) : Prop := match P.underlying t with
  | some (.struct _) | some (.array ..) => v = .agg vs.toArray
  | _ => vs = [v]

def EqRun (P : Program) (n t : Nat) (ks : List Sc) : Prop := ∀ (w : World) (ok : Nat → Prop) (ds es : List D) (vs us : List Value) (b : Bool) (v u : Value), sameS ks ds es = some b → CR w ok ds vs → CR w ok es us → VlOf P t vs v → VlOf P t us u → (Op.equalIn n t v u).run P w = .ok b w

theorem run_part {t : Nat} {ks : List Sc} {j : TypeInfo} {d : Nat} (hks : eqShape P d t = some ks) (hj : P.info? t = some j) (hs : j.size = ks.length) (vs : List Value) (off : Nat) (hl : off + ks.length ≤ vs.length) :
    ∃ v, (part t vs.toArray off).run P w = .ok v w ∧ VlOf P t ((vs.drop off).take ks.length) v := by
  have hsz : (sizeOf t).run P w = .ok ks.length w := by simp [sizeOf, typeInfo, hj, hs]
  have agg : (isAgg t).run P w = .ok true w → (∀ v, v = Value.agg ((vs.drop off).take ks.length).toArray → VlOf P t ((vs.drop off).take ks.length) v) → ∃ v, (part t vs.toArray off).run P w = .ok v w ∧ VlOf P t ((vs.drop off).take ks.length) v := fun ha hv =>
    ⟨.agg ((vs.drop off).take ks.length).toArray, by
      simp only [part, Sem.run_bind, ha, Result.andThen_ok, if_true, hsz, Sem.run_pure]
      congr 2
      apply Array.toList_inj.1
      simp [List.extract], hv _ rfl⟩
  have one : (isAgg t).run P w = .ok false w → ks.length = 1 → (∀ v, (vs.drop off).take ks.length = [v] → VlOf P t ((vs.drop off).take ks.length) v) → ∃ v, (part t vs.toArray off).run P w = .ok v w ∧ VlOf P t ((vs.drop off).take ks.length) v := fun ha h1 hv => by
    have h2 : vs[off]? = some vs[off] := List.getElem?_eq_getElem (by omega)
    refine ⟨vs[off], by simp [part, ha, h2], hv _ ?_⟩
    rw [h1, List.drop_eq_getElem_cons (by omega)]
    rfl
  cases d with
  | zero => simp [eqShape] at hks
  | succ d =>
    unfold eqShape at hks
    split at hks
    · rename_i hu; injection hks with hks; subst hks; exact one (by simp [isAgg, run_underlying hu]) rfl (fun v h => by simp only [VlOf, hu]; exact h)
    · rename_i hu; injection hks with hks; subst hks; exact one (by simp [isAgg, run_underlying hu]) rfl (fun v h => by simp only [VlOf, hu]; exact h)
    · rename_i hu; injection hks with hks; subst hks; exact one (by simp [isAgg, run_underlying hu]) rfl (fun v h => by simp only [VlOf, hu]; exact h)
    · rename_i hu; exact agg (by simp [isAgg, run_underlying hu]) (fun v h => by simp only [VlOf, hu]; exact h)
    · rename_i hu; exact agg (by simp [isAgg, run_underlying hu]) (fun v h => by simp only [VlOf, hu]; exact h)
    · cases hks

theorem run_flds {d n : Nat} (hg : ∀ t ks, eqShape P d t = some ks → EqRun P n t ks) {vs us : List Value} {ds es : List D} (h1 : CR w ok ds vs) (h2 : CR w ok es us) : ∀ {fs : List Field} {off : Nat} {r : List Sc} {b : Bool}, eqFlds P (eqShape P d) off fs = some r →
    sameS r (ds.drop off) (es.drop off) = some b → (Op.eqFields n vs.toArray us.toArray fs).run P w = .ok b w
  | [], off, r, b, hr, hb => by
    simp only [eqFlds, Option.some.injEq] at hr
    subst hr
    obtain ⟨_, _, rfl⟩ := sameS_nil hb
    simp [Op.eqFields]
  | f :: fs, off, r, b, hr, hb => by
    simp only [eqFlds] at hr
    split at hr
    · rename_i hf
      split at hr
      · rename_i ks j hks hj
        split at hr
        · rename_i hs
          split at hr
          · rename_i r' hr'
            injection hr with hr
            subst hr
            obtain ⟨b1, b2, q1, q2, rfl⟩ := sameS_app hb
            have hlen := sameS_len q1
            simp only [List.length_take, List.length_drop] at hlen
            have hv := h1.1
            have hu := h2.1
            have hpos := List.length_pos_iff.2 hs.2
            obtain ⟨v, p1, p2⟩ := run_part (w := w) hks hj hs.1 vs off (by omega)
            obtain ⟨u, p3, p4⟩ := run_part (w := w) hks hj hs.1 us off (by omega)
            have he := hg f.type ks hks w ok _ _ _ _ b1 v u q1 ((h1.drop off).take _) ((h2.drop off).take _) p2 p4
            have hrec := run_flds hg h1 h2 hr' (b := b2) (by rw [← List.drop_drop, ← List.drop_drop]; exact q2)
            simp only [Op.eqFields, hf.1, ne_eq, not_false_eq_true, if_true, Sem.run_bind, hf.2, p1, p3, he, Result.andThen_ok]
            cases b1
            · simp
            · simpa using hrec
          · cases hr
        · cases hr
      · cases hr
    · cases hr

theorem run_items {d n e : Nat} {ks : List Sc} {j : TypeInfo} (hks : eqShape P d e = some ks) (hj : P.info? e = some j) (hs : j.size = ks.length) (hpos : 0 < ks.length) (hg : EqRun P n e ks) {vs us : List Value} {ds es : List D} (h1 : CR w ok ds vs) (h2 : CR w ok es us) : ∀ (m i : Nat) (b : Bool),
    sameS (rep1 m ks) (ds.drop (i * ks.length)) (es.drop (i * ks.length)) = some b → (Op.eqItems n e ks.length vs.toArray us.toArray (List.range' i m)).run P w = .ok b w
  | 0, i, b, hb => by
    simp only [rep1] at hb
    obtain ⟨_, _, rfl⟩ := sameS_nil hb
    simp [Op.eqItems]
  | m + 1, i, b, hb => by
    simp only [rep1] at hb
    obtain ⟨b1, b2, q1, q2, rfl⟩ := sameS_app hb
    have hlen := sameS_len q1
    simp only [List.length_take, List.length_drop] at hlen
    have hv := h1.1
    have hu := h2.1
    obtain ⟨v, p1, p2⟩ := run_part (w := w) hks hj hs vs (i * ks.length) (by omega)
    obtain ⟨u, p3, p4⟩ := run_part (w := w) hks hj hs us (i * ks.length) (by omega)
    have he := hg w ok _ _ _ _ b1 v u q1 ((h1.drop _).take _) ((h2.drop _).take _) p2 p4
    have hrec := run_items hks hj hs hpos hg h1 h2 m (i + 1) b2 (by rw [Nat.succ_mul, ← List.drop_drop, ← List.drop_drop]; exact q2)
    rw [List.range'_succ]
    simp only [Op.eqItems, Sem.run_bind, p1, p3, he, Result.andThen_ok]
    cases b1
    · simp
    · simpa using hrec

theorem eq_run : ∀ (d n t : Nat) (ks : List Sc), eqShape P d t = some ks → EqRun P (n + d) t ks
  | 0, _, _, _, h => by simp [eqShape] at h
  | d + 1, n, t, ks, hks => by
    intro w ok ds es vs us b v u hb h1 h2 hv hu
    unfold eqShape at hks
    have one : ∀ s, ks = [s] → vs = [v] → us = [u] → ∃ x y, Rep w ok x v ∧ Rep w ok y u ∧ same1 s x y = some b := fun s hs h3 h4 => by
      subst hs
      obtain ⟨x, xs', y, ys', p, q, rfl, rfl, q1, q2, rfl⟩ := sameS_cons hb
      obtain ⟨rfl, rfl, rfl⟩ := sameS_nil q2
      exact ⟨x, y, h1.2 0 x v rfl (by rw [h3]; rfl), h2.2 0 y u rfl (by rw [h4]; rfl), by simpa using q1⟩
    split at hks
    · rename_i k hk
      injection hks with hks
      simp only [VlOf, hk] at hv hu
      obtain ⟨x, y, r1, r2, r3⟩ := one .int hks.symm hv hu
      cases x <;> simp only [same1] at r3 <;> try cases r3
      cases y <;> simp only at r3 <;> try cases r3
      split at r3
      · rename_i hkk
        subst hkk
        injection r3 with r3
        subst r3
        cases r1; cases r2
        rw [show n + (d + 1) = (n + d) + 1 from rfl, run_equalIn_int (P := P) w (n + d) t _ _ _ _ hk]
        rfl
      · cases r3
    · rename_i hk
      injection hks with hks
      simp only [VlOf, hk] at hv hu
      obtain ⟨x, y, r1, r2, r3⟩ := one .bool hks.symm hv hu
      cases x <;> simp only [same1] at r3 <;> try cases r3
      cases y <;> simp only at r3 <;> try cases r3
      cases r1; cases r2
      rw [show n + (d + 1) = (n + d) + 1 from rfl, run_equalIn_bool' (P := P) w (n + d) t _ _ hk]
    · rename_i hk
      injection hks with hks
      simp only [VlOf, hk] at hv hu
      obtain ⟨x, y, r1, r2, r3⟩ := one .str hks.symm hv hu
      cases x <;> simp only [same1] at r3 <;> try cases r3
      cases y <;> simp only at r3 <;> try cases r3
      cases r1; cases r2
      rw [show n + (d + 1) = (n + d) + 1 from rfl, run_equalIn_string (P := P) w (n + d) t _ _ hk, toList_inj]
    · rename_i fs hk
      split at hks
      · cases hks
      · rename_i hst
        simp only [VlOf, hk] at hv hu
        subst hv; subst hu
        have hfs : P.fieldsOf t = fs := by simp [Program.fieldsOf, hk]
        rw [show n + (d + 1) = (n + d) + 1 from rfl, run_equalIn_struct w (n + d) t _ _ (by rw [hfs]; exact hk) (by simpa using hst), hfs]
        exact run_flds (fun t ks h => eq_run d n t ks h) h1 h2 hks (by simpa using hb)
    · rename_i m e hk
      split at hks
      · rename_i ks' j hks' hj
        split at hks
        · rename_i hs
          injection hks with hks
          subst hks
          simp only [VlOf, hk] at hv hu
          subst hv; subst hu
          rw [show n + (d + 1) = (n + d) + 1 from rfl, run_equalIn_array w (n + d) _ _ hk hj]
          have hc : P.cellsOf e = ks'.length := by simp [Program.cellsOf, hj, hs.1]
          rw [hc, List.range_eq_range']
          exact run_items hks' hj hs.1 (List.length_pos_iff.2 hs.2) (eq_run d n e ks' hks') h1 h2 m 0 b (by simpa using hb)
        · cases hks
      · cases hks
    · cases hks

variable {E : Nat → Option AV} {O : Nat → Option Obj1} {gl : GL} {o : Oper} {id : Nat}
def aggV (op : BinOp) (b : Bool) : Option D := match op with
  | .eql => some (.bool b)
  | .neq => some (.bool (!b))
  | _ => none

theorem st_bin_agg {op : BinOp} {t : Nat} {ty : TypeId} {i : TI} {x y : Operand} {ds es : List D} {b : Bool} {z : D} (hi : i.ok P t) (hk : i.k.agg = true) (ho : o.op = .binOp op t x y ty) (hx : getE gl E x = some (.d (.agg ds))) (hy : getE gl E y = some (.d (.agg es))) (hb : sameS i.eq ds es = some b) (hne : i.eq ≠ []) (h : aggV op b = some z) :
    Step P gl E O o id (some (.d z)) .none :=
  .val fun c E' O' al nt a w σ hgl hs hag => by
    subst hgl
    have h1 := (hs.get (hag.get (x := x) (by simp [ho, Op.operands]) hx)).d_inv
    have h2 := (hs.get (hag.get (x := y) (by simp [ho, Op.operands]) hy)).d_inv
    rcases hi.eq with he | ⟨he, hg⟩
    · exact absurd he hne
    · generalize hv : a.eval x = v at h1
      generalize hu : a.eval y = u at h2
      cases h1 with
      | agg _ vs l1 r1 _ =>
        cases h2 with
        | agg _ us l2 r2 _ =>
          have hV : ∀ l : List Value, VlOf P t l (.agg l.toArray) := fun l => by
            have hkk := hi.k
            unfold VlOf
            cases hik : i.k <;> rw [hik] at hk hkk <;> simp only [TK.agg, Bool.false_eq_true] at hk
            · obtain ⟨l', hl', _⟩ := hkk; rw [hl']
            · rw [hkk.1]
          have hr := eq_run 9 9991 t i.eq he w (okk c O' σ w) ds es vs us b _ _ hb ⟨l1, r1⟩ ⟨l2, r2⟩ (hV vs) (hV us)
          cases op <;> simp only [aggV] at h <;> first | cases h | skip
          · exact ⟨.bool b, by simp [execOp, ho, hv, hu, run_eqGuard_agg w .eql t x y _ _ hg, run_eql_struct, hr], .of_d (.bool _)⟩
          · exact ⟨.bool (!b), by simp [execOp, ho, hv, hu, run_eqGuard_agg w .neq t x y _ _ hg, run_neq_struct, hr], .of_d (.bool _)⟩

/-! ### Slices and nil -/
theorem run_eqIn_nil {w : World} {t e : TypeId} {n : Nat} {a : Option Addr} {l c : Nat} (hu : P.underlying t = some (.slice e)) : (Op.equalIn (n + 1) t (.slice a l c) (.slice none 0 0)).run P w = .ok a.isNone w := by
  unfold Op.equalIn
  simp only [Sem.run_bind, run_underlying hu, Result.andThen_ok]
  cases a <;> simp
theorem eqGuard_slice (op : BinOp) (t : TypeId) (x y : Operand) (a b : Option Addr) (l c l' c' : Nat) (w : World) : (eqGuard op t x y (.slice a l c) (.slice b l' c')).run P w = .ok () w := by
  unfold eqGuard; split <;> simp
def nilV (op : BinOp) : D → Option D
  | .nils => aggV op true
  | .slice [] => (match op with
    | .eql => some .anyb
    | .neq => some .anyb
    | _ => none)
  | .slice (_ :: _) => aggV op false
  | _ => none
theorem st_bin_nil {op : BinOp} {t : Nat} {ty : TypeId} {i : TI} {te sz : Nat} {x y : Operand} {d z : D} (hi : i.ok P t) (hk : i.k = .slice te sz) (ho : o.op = .binOp op t x y ty) (hx : getE gl E x = some (.d d)) (hy : getE gl E y = some (.d .nils)) (h : nilV op d = some z) :
    Step P gl E O o id (some (.d z)) .none :=
  .val fun c E' O' al nt a w σ hgl hs hag => by
    subst hgl
    have h1 := (hs.get (hag.get (x := x) (by simp [ho, Op.operands]) hx)).d_inv
    have h2 := (hs.get (hag.get (x := y) (by simp [ho, Op.operands]) hy)).d_inv
    have hu := hi.k
    rw [hk] at hu
    have key : ∀ (q : Option Addr) (l c' : Nat), a.eval x = .slice q l c' → (∀ b : Bool, b = q.isNone → ∀ z', aggV op b = some z' → RepS al w (okk c O' σ w) σ (.d z) (match z' with | .bool b => .bool b | _ => undef)) → (∃ z', aggV op true = some z') → ∃ v', (execOp a.eval o).run P w = .ok (.value v') w ∧ RepS al w (okk c O' σ w) σ (.d z) v' := fun q l c' hq hb hz => by
      generalize hu' : a.eval y = u at h2
      cases h2 with
      | nils =>
        have hr := run_eqIn_nil (P := P) (w := w) (n := 9999) (a := q) (l := l) (c := c') hu.1
        cases op <;> simp only [aggV] at hz <;> first | (obtain ⟨_, hz⟩ := hz; cases hz; done) | skip
        · exact ⟨.bool q.isNone, by simp [execOp, ho, hq, hu', eqGuard_slice, binOp, Op.equal, Op.maxDepth, hr], hb _ rfl _ rfl⟩
        · exact ⟨.bool (!q.isNone), by simp [execOp, ho, hq, hu', eqGuard_slice, binOp, Op.equal, Op.maxDepth, hr], hb _ rfl _ rfl⟩
    generalize hv : a.eval x = v at h1 key
    cases d <;> simp only [nilV] at h <;> try cases h
    case nils =>
      cases h1
      exact key none 0 0 rfl (fun b hb z' hz => by
        subst hb
        cases op <;> simp only [aggV] at h hz <;> first | (cases h; done) | skip
        all_goals (cases h; cases hz; exact .of_d (.bool _))) ⟨_, h⟩
    case slice xs =>
      cases xs with
      | nil =>
        have any : ∀ b z', aggV op b = some z' → RepS al w (okk c O' σ w) σ (.d z) (match z' with | .bool b => .bool b | _ => undef) := fun b z' hz => by
          cases op <;> simp only [nilV, aggV] at h hz <;> first | (cases h; done) | skip
          all_goals (cases h; cases hz; exact .of_d (.anyb _))
        have ex : ∃ z', aggV op true = some z' := by
          cases op <;> simp only [nilV] at h <;> first | (cases h; done) | exact ⟨_, rfl⟩
        cases h1 with
        | nil => exact key none 0 0 rfl (fun b _ => any b) ex
        | empty q cap => exact key (some q) 0 cap rfl (fun b _ => any b) ex
        | slice _ b off cap sz f => exact key _ _ _ rfl (fun b _ => any b) ex
      | cons e xs =>
        cases h1 with
        | slice _ b off cap sz f =>
          exact key _ _ _ rfl (fun b hb z' hz => by
            subst hb
            simp only [nilV] at h
            cases op <;> simp only [aggV] at h hz <;> first | (cases h; done) | skip
            all_goals (cases h; cases hz; exact .of_d (.bool _))) (by
            simp only [nilV] at h
            cases op <;> simp only [aggV] at h <;> first | (cases h; done) | exact ⟨_, rfl⟩)
end
end Go.Proofs.Ytpibdbjlilpfiaa
/- Contracts of pure functions, and one operation as a whole: 'opA'. -/
namespace Go.Proofs.Ytpibdbjlilpfiaa
set_option linter.all false
open Go Go.RowKit

def FnOk (P : Program) (f : Nat) : Prop := ∃ fn : Func, P.funcs[f]? = some fn ∧ (fn.name == "runtime.NumGoroutine") = false ∧ fn.body.isNone = false

/-- Called with what says these data, it returns what says this datum; nothing that was there is turned. -/
structure PCon (P : Program) (gl : GL) (f : Nat) (args : List D) (res : D) : Prop where
  fn : FnOk P f
  runs : ∀ (w : World) (ok : Nat → Prop) (vs : List Value), (∀ b, ok b → b < w.heap.size) → Glob gl w ok → vs.length = args.length →
    (∀ (i : Nat) x v, args[i]? = some x → vs[i]? = some v → Rep w ok x v) →
    Calls P f vs.toArray w fun e w' => ∃ v, e = .returned v ∧ Go1 w w' gl.tgt ∧ Glob gl w' (fun b => b < w'.heap.size ∧ (ok b ∨ w.heap.size ≤ b)) ∧ Rep w' (fun b => b < w'.heap.size ∧ (ok b ∨ w.heap.size ≤ b)) res v

/-- As 'PCon', but what is returned is a row of its own: new memory, or nil. -/
structure PConR (P : Program) (gl : GL) (f : Nat) (args : List D) (te : TypeId) (sz : Nat) (xs : List (List D)) : Prop where
  fn : FnOk P f
  runs : ∀ (w : World) (ok : Nat → Prop) (vs : List Value), (∀ b, ok b → b < w.heap.size) → Glob gl w ok → vs.length = args.length →
    (∀ (i : Nat) x v, args[i]? = some x → vs[i]? = some v → Rep w ok x v) →
    Calls P f vs.toArray w fun e w' => ∃ v, e = .returned v ∧ Go1 w w' gl.tgt ∧ Glob gl w' (fun b => b < w'.heap.size ∧ (ok b ∨ w.heap.size ≤ b) ∧ blkOf v ≠ some b) ∧ (∀ b, blkOf v = some b → w.heap.size ≤ b) ∧ ∀ (al : Nat → Prop) (σ : Nat → Value), RepSO al w' (fun b => b < w'.heap.size ∧ (ok b ∨ w.heap.size ≤ b) ∧ blkOf v ≠ some b) σ (.row true te sz xs) v

/-- nil reads as no elements. -/
def D.norm1 : D → D
  | .nils => .slice []
  | x => x
def D.norm : D → D
  | .nils => .slice []
  | .agg cs => .agg (cs.map D.norm1)
  | x => x

theorem Rep.norm1 {w : World} {ok : Nat → Prop} {x : D} {v : Value} (h : Rep w ok x v) : Rep w ok x.norm1 v := by
  cases h <;> first | exact .nil | skip
  all_goals (simp only [D.norm1]; first | constructor; done | skip)
  case str _ h => exact .str _ h
  case agg _ _ hl h h1 => exact .agg _ _ hl h h1
  case tup _ _ hl h => exact .tup _ _ hl h
  case slice _ b off cap sz f hok hcap hmax hsz hc h1 h => exact .slice _ b off cap sz f hok hcap hmax hsz hc h1 h
  case addr _ b off f hok hc h1 h => exact .addr _ b off f hok hc h1 h
  case iface _ _ _ h => exact .iface _ _ _ h
  case fn _ _ _ _ _ hf hc h1 h2 => exact .fn _ _ _ _ _ hf hc h1 h2

theorem Rep.norm {w : World} {ok : Nat → Prop} {x : D} {v : Value} (h : Rep w ok x v) : Rep w ok x.norm v := by
  by_cases hx : ∃ cs, x = .agg cs
  · obtain ⟨cs, rfl⟩ := hx
    cases h with
    | agg _ vs hl h h1 =>
      refine .agg _ vs (by simpa using hl) (fun i c v hc hv => ?_) h1
      rw [List.getElem?_map, Option.map_eq_some_iff] at hc
      obtain ⟨c', hc', rfl⟩ := hc
      exact (h i c' v hc' hv).norm1
  · have : x.norm = x.norm1 := by cases x <;> first | rfl | exact absurd ⟨_, rfl⟩ hx
    rw [this]
    exact h.norm1

/-- The row as data. -/
theorem row_rep {al : Nat → Prop} {w : World} {ok ok' : Nat → Prop} {σ : Nat → Value} {fr : Bool} {t : TypeId} {sz : Nat} {xs : List (List D)} {v : Value} (h : RepSO al w ok σ (.row fr t sz xs) v) (hk : Kept w w ok ok') (hb : ∀ b, blkOf v = some b → ok' b) : Rep w ok' (.slice xs) v := by
  obtain ⟨vs, f1, f2, f3, f4, f5, f6⟩ := row_facts h
  rcases f1.2 with ⟨e1, e2⟩ | ⟨g, cap, cur, e1, e2, e3, e4, e5, e6, e7⟩
  · have hx : xs = [] := List.eq_nil_of_length_eq_zero e2
    subst hx
    rw [e1]
    exact .nil
  · have hfl := flat_len f4
    have hvl := f1.1
    rw [e1] at f1 hb
    rw [e1]
    refine .slice xs g 0 cap sz (fun i => vs.getD i (.bool false)) (hb g rfl) e4 f3 f4 (fun i hi => ?_) (fun i => ?_) (fun i c hc => ?_)
    · rw [Nat.zero_add, f1.cellAt i (by omega), List.getElem?_eq_getElem (by omega), List.getD_eq_getElem?_getD, List.getElem?_eq_getElem (by omega)]
      rfl
    · rw [List.getD_eq_getElem?_getD]
      cases hh : vs[i]? with
      | none => rfl
      | some u => exact f5 u (List.mem_of_getElem? hh)
    · have hlt := (List.getElem?_eq_some_iff.1 hc).1
      rw [List.getD_eq_getElem?_getD, List.getElem?_eq_getElem (by omega)]
      exact (f6 i c _ hc (List.getElem?_eq_getElem (by omega))).mono hk
/-- An own object's block is turned, and it is written no more. -/
theorem SRep.turnDrop {c : Ctx} {E : Nat → Option AV} {O : Nat → Option Obj1} {al : Nat → Prop} {nt : Nat} {a : Act} {w w' : World} {σ : Nat → Value} {k : Nat} {o : Obj1} (h : SRep c E O al nt a w σ) (hk : O k = some o) (g : Go1 w w' (blkOf (σ k))) :
    SRep c E (upd1 O k none) al nt a w' σ ∧ Kept w w' (okk c O σ w) (okk c (upd1 O k none) σ w') := by
  have hO : ∀ j o1, upd1 O k none j = some o1 → O j = some o1 ∧ j ≠ k := fun j o1 hj => by
    by_cases e : j = k
    · subst e; rw [upd1_self] at hj; cases hj
    · rw [upd1_ne e] at hj; exact ⟨hj, e⟩
  have hkept : Kept w w' (okk c O σ w) (okk c (upd1 O k none) σ w') := fun b hb =>
    ⟨⟨Nat.lt_of_lt_of_le hb.1 g.size, hb.2.1, fun j o1 hj => hb.2.2 j o1 (hO j o1 hj).1⟩, g.block b hb.1 fun e => hb.2.2 k o hk e.symm⟩
  refine ⟨⟨fun t x hx => (h.env t x hx).mono hkept, fun j o1 hj => ?_, fun j j' o1 o2 h1 h2 => h.dis j j' o1 o2 (hO _ _ h1).1 (hO _ _ h2).1, fun j o1 h1 => h.mine j o1 (hO _ _ h1).1, fun b hb1 hp hn => ?_, h.low, h.mlow, Nat.le_trans h.size g.size, g.os.trans h.os, g.tape.trans h.tape, g.output.trans h.output, h.ag, h.defers, h.nt, h.gstep hkept (h.mkeepT hk g)⟩, hkept⟩
  · obtain ⟨hj, e⟩ := hO j o1 hj
    have h3 := h.own j o1 hj
    exact ⟨h3.1, h3.2.mono hkept fun b hb1 => g.block b (h3.2.toO.lt b hb1) fun he => h.dis j k o1 o hj hk e b hb1 he.symm⟩
  · refine (g.block b (Nat.lt_of_lt_of_le hb1 h.size) fun he => ?_).trans (h.frame b hb1 hp hn)
    rcases h.mine k o hk b he.symm with ⟨_, h1, _⟩ | ⟨h1, _⟩
    · exact hp h1
    · omega
/-- A conversion of a slice of bytes to its own type: the row gets a mark behind its last cell, and is written no more. -/
theorem st_mark {P : Program} {E : Nat → Option AV} {O : Nat → Option Obj1} {gl : GL} {o : Oper} {id : Nat} {t te k : Nat} {i : TI} {x : Operand} {xs : List (List D)} (hi : i.ok P t) (hk : i.k = .slice te 1) (hte : P.underlying te = some (.int .u8)) (ho : o.op = .convert t t x) (hx : getE gl E x = some (.own k)) (hO : O k = some (.row true te 1 xs)) (hne : 0 < xs.length) :
    Step P gl E O o id (some (.d (.slice xs))) (.drop [k]) := by
  intro c E' O' al nt a w σ hgl hs hid hag K Q hK
  subst hgl
  have hm : x ∈ o.op.operands := by simp [ho, Op.operands]
  have hO' : O' k = some (.row true te 1 xs) := (hag.o x hm _ hx k (by simp [AV.ids])).trans hO
  have hv : a.eval x = σ k := (hs.get (hag.get hm hx)).toA.own_inv
  have hown := (hs.own k _ hO').2
  obtain ⟨vs, f1, f2, f3, f4, f5, f6⟩ := row_facts hown
  have hb := hi.k
  rw [hk] at hb
  rcases f1.2 with ⟨_, e2⟩ | ⟨g, cap, cur, e1, e2, e3, e4, e5, e6, e7⟩
  · omega
  · have hsh : w.shape? g = some (te, cur.size) := by unfold World.shape?; rw [e3]
    obtain ⟨w', hw'⟩ : ∃ w', w' = w.freeze ⟨g, cur.size, none⟩ 1 := ⟨_, rfl⟩
    have hr : (execOp a.eval o).run P w = .ok (.value (σ k)) w' := by
      rw [hw', e1] 
      simp [execOp, ho, hv, e1, convert, run_underlying hb.1, run_underlying hte, markStringish, hsh]
    have hh : w'.heap = w.heap.modify g fun
        | .cells c elem (lo, hi) => .cells c elem (if lo == hi then (cur.size, cur.size + 1) else (min lo cur.size, max hi (cur.size + 1)))
        | o => o := by
      rw [hw']
      unfold World.freeze
      rw [if_neg (by decide)]
      rfl
    have hgo : Go1 w w' (blkOf (σ k)) := by
      refine ⟨by rw [hw']; rfl, by rw [hw']; rfl, by rw [hw']; rfl, by rw [hh, Array.size_modify]; exact Nat.le_refl _, fun b _ hb => ?_⟩
      rw [e1] at hb
      rw [hh, Array.getElem?_modify, if_neg (fun e => hb (by rw [← e]; rfl))]
    have hcell : ∀ j, w'.cell? ⟨g, j, none⟩ = w.cell? ⟨g, j, none⟩ := fun j => by
      unfold World.cell?
      rw [hh, Array.getElem?_modify, if_pos rfl, e3]
      rfl
    obtain ⟨hs', hkp⟩ := (hs.al_ext (al' := fun j => al j ∨ j = id) fun _ => .inl).turnDrop hO' hgo
    have happ : (Eff.drop [k]).app id O' = upd1 O' k none := by
      funext j
      simp only [Eff.app, List.mem_singleton, upd1]
    have hfl := flat_len f4
    have hvl := f1.1
    have hok : okk c (upd1 O' k none) σ w' g := by
      have h0 := SRep.dropped hs hO' rfl g (by rw [e1]; rfl)
      exact ⟨Nat.lt_of_lt_of_le h0.1 hgo.size, h0.2⟩
    have hrep : Rep w' (okk c (upd1 O' k none) σ w') (.slice xs) (σ k) := by
      rw [e1] at f1
      rw [e1]
      refine .slice xs g 0 cap 1 (fun i => vs.getD i (.bool false)) hok e4 f3 f4 (fun i hi => ?_) (fun i => ?_) (fun i c hc => ?_)
      · rw [Nat.zero_add, hcell, f1.cellAt i (by omega), List.getElem?_eq_getElem (by omega), List.getD_eq_getElem?_getD, List.getElem?_eq_getElem (by omega)]
        rfl
      · rw [List.getD_eq_getElem?_getD]
        cases hh : vs[i]? with
        | none => rfl
        | some u => exact f5 u (List.mem_of_getElem? hh)
      · have hlt := (List.getElem?_eq_some_iff.1 hc).1
        rw [List.getD_eq_getElem?_getD, List.getElem?_eq_getElem (by omega)]
        exact (f6 i c _ hc (List.getElem?_eq_getElem (by omega))).mono hkp
    unfold Oper.wp
    rw [hr]
    refine hK (σ k) w' σ (by rw [happ]; exact hs') fun y hy => ?_
    injection hy with hy
    subst hy
    rw [happ]
    exact .of_d hrep

/-- A cell as data, once the call is over. -/
def asC (O : Nat → Option Obj1) : AV → Option D
  | .d x => some x.norm1
  | .own k => match O k with
    | some (.row true _ _ xs) => some (.slice xs)
    | _ => none
  | _ => none
def asCL (O : Nat → Option Obj1) : List AV → Option (List D)
  | [] => some []
  | x :: r => match asC O x, asCL O r with
    | some d, some ds => some (d :: ds)
    | _, _ => none
def asD (O : Nat → Option Obj1) : AV → Option D
  | .d x => some x.norm
  | .agg cs => match asCL O cs with
    | some ds => some (.agg ds)
    | none => none
  | x => asC O x


theorem asCL_get {O : Nat → Option Obj1} : ∀ {cs : List AV} {ds : List D}, asCL O cs = some ds → ds.length = cs.length ∧ ∀ (i : Nat) d, ds[i]? = some d → ∃ x, cs[i]? = some x ∧ asC O x = some d
  | [], ds, h => by simp [asCL] at h; subst h; simp
  | x :: r, ds, h => by
    simp only [asCL] at h
    split at h
    · rename_i d ds' h1 h2
      injection h with h
      subst h
      obtain ⟨h3, h4⟩ := asCL_get h2
      refine ⟨by simp [h3], fun i e he => ?_⟩
      cases i with
      | zero => simp at he; subst he; exact ⟨x, rfl, h1⟩
      | succ i => exact h4 i e (by simpa using he)
    · cases h

theorem asC_row {O : Nat → Option Obj1} {x : AV} {d : D} (h : asC O x = some d) : ∀ k ∈ x.ids, ∃ t sz xs, O k = some (.row true t sz xs) := fun k hk => by
  cases x <;> simp only [asC] at h <;> try cases h
  case d => simp [AV.ids] at hk
  case own j =>
    simp only [AV.ids, List.mem_singleton] at hk
    subst hk
    split at h
    · rename_i t sz xs hO; exact ⟨t, sz, xs, hO⟩
    · cases h
theorem asCL_row {O : Nat → Option Obj1} : ∀ {cs : List AV} {ds : List D}, asCL O cs = some ds → ∀ k ∈ AV.idsL cs, ∃ t sz xs, O k = some (.row true t sz xs)
  | [], _, _, k, hk => by simp [AV.idsL] at hk
  | x :: r, ds, h, k, hk => by
    simp only [asCL] at h
    split at h
    · rename_i d ds' h1 h2
      rcases List.mem_append.1 hk with hk | hk
      · exact asC_row h1 k hk
      · exact asCL_row h2 k hk
    · cases h
theorem asD_row {O : Nat → Option Obj1} {x : AV} {d : D} (h : asD O x = some d) : ∀ k ∈ x.ids, ∃ t sz xs, O k = some (.row true t sz xs) := fun k hk => by
  cases x <;> simp only [asD] at h
  case d => simp [AV.ids] at hk
  case agg cs =>
    split at h
    · rename_i ds hds; exact asCL_row hds k hk
    · cases h
  all_goals exact asC_row h k hk

theorem asC_rep' {c : Ctx} {O : Nat → Option Obj1} {E : Nat → Option AV} {al ok' : Nat → Prop} {nt : Nat} {a : Act} {w : World} {σ : Nat → Value} (h : SRep c E O al nt a w σ) (hk : Kept w w (okk c O σ w) ok') {x : AV} {d : D} (hd : asC O x = some d) (hb : ∀ k ∈ x.ids, ∀ b, blkOf (σ k) = some b → ok' b) {v : Value} (hx : RepA w (okk c O σ w) σ x v) : Rep w ok' d v := by
  cases x <;> simp only [asC] at hd <;> try cases hd
  case d x => exact (hx.d_inv.mono hk).norm1
  case own k =>
    split at hd
    · rename_i t sz xs hO
      injection hd with hd
      subst hd
      rw [hx.own_inv]
      exact row_rep (h.own k _ hO).2 hk (hb k (by simp [AV.ids]))
    · cases hd

theorem mem_idsL : ∀ {cs : List AV} {i : Nat} {c : AV}, cs[i]? = some c → ∀ {k : Nat}, k ∈ c.ids → k ∈ AV.idsL cs
  | [], i, c, h, _, _ => by simp at h
  | x :: r, 0, c, h, k, hk => by simp at h; subst h; exact List.mem_append_left _ hk
  | x :: r, i + 1, c, h, k, hk => List.mem_append_right _ (mem_idsL (by simpa using h) hk)

theorem asD_rep' {c : Ctx} {O : Nat → Option Obj1} {E : Nat → Option AV} {al ok' : Nat → Prop} {nt : Nat} {a : Act} {w : World} {σ : Nat → Value} (h : SRep c E O al nt a w σ) (hk : Kept w w (okk c O σ w) ok') {x : AV} {d : D} (hd : asD O x = some d) (hb : ∀ k ∈ x.ids, ∀ b, blkOf (σ k) = some b → ok' b) {v : Value} (hx : RepA w (okk c O σ w) σ x v) : Rep w ok' d v := by
  cases x <;> simp only [asD] at hd
  case d x => injection hd with hd; subst hd; exact (hx.d_inv.mono hk).norm
  case agg cs =>
    split at hd
    · rename_i ds hds
      injection hd with hd
      subst hd
      obtain ⟨h1, h2⟩ := asCL_get hds
      cases hx with
      | agg _ vs hl h' h1' =>
        refine .agg ds vs (by rw [hl, h1]) (fun i e v he hv => ?_) h1'
        obtain ⟨x, hx, hxe⟩ := h2 i e he
        exact asC_rep' h hk hxe (fun k hkk => hb k (mem_idsL hx hkk)) (h' i x v hx hv)
    · cases hd
  case own k => exact asC_rep' h hk (x := .own k) hd hb hx
  all_goals simp [asC] at hd

theorem asC_congr {O O' : Nat → Option Obj1} {x : AV} (h : ∀ k ∈ x.ids, O' k = O k) : asC O' x = asC O x := by
  cases x <;> simp only [asC]
  case own k => rw [h k (by simp [AV.ids])]
theorem asCL_congr {O O' : Nat → Option Obj1} : ∀ {cs : List AV}, (∀ k ∈ AV.idsL cs, O' k = O k) → asCL O' cs = asCL O cs
  | [], _ => rfl
  | x :: r, h => by
    simp only [asCL]
    rw [asC_congr fun k hk => h k (List.mem_append_left _ hk), asCL_congr fun k hk => h k (List.mem_append_right _ hk)]
theorem asD_congr {O O' : Nat → Option Obj1} {x : AV} (h : ∀ k ∈ x.ids, O' k = O k) : asD O' x = asD O x := by
  cases x <;> simp only [asD]
  case agg cs => rw [asCL_congr h]
  all_goals exact asC_congr h

/-- The arguments of a call as data, and the own rows among them. -/
def getAs (g : Operand → Option AV) (O : Nat → Option Obj1) : List Operand → Option (List D × List Nat)
  | [] => some ([], [])
  | x :: r => match g x, getAs g O r with
    | some y, some (ds, ks) => match asD O y with
      | some d => some (d :: ds, y.ids ++ ks)
      | none => none
    | _, _ => none
def dropE : List Nat → Eff
  | [] => .none
  | k :: ks => .drop (k :: ks)

section
variable {P : Program} {E : Nat → Option AV} {O : Nat → Option Obj1} {gl : GL} {o : Oper} {id : Nat}

theorem getAs_rep {c : Ctx} {E' : Nat → Option AV} {O' : Nat → Option Obj1} {al ok' : Nat → Prop} {nt : Nat} {a : Act} {w : World} {σ : Nat → Value} (hs : SRep c E' O' al nt a w σ) (hag : Agree c.gl E E' O O' o) (hk : Kept w w (okk c O' σ w) ok') :
    ∀ {xs : List Operand} {ds : List D} {ks : List Nat}, (∀ x ∈ xs, x ∈ o.op.operands) → getAs (getE c.gl E) O xs = some (ds, ks) → (∀ k ∈ ks, (∃ t sz rs, O' k = some (.row true t sz rs)) → ∀ b, blkOf (σ k) = some b → ok' b) →
      ds.length = xs.length ∧ ∀ (i : Nat) d v, ds[i]? = some d → (xs.map a.eval)[i]? = some v → Rep w ok' d v
  | [], ds, ks, _, h, _ => by simp [getAs] at h; obtain ⟨rfl, _⟩ := h; simp
  | x :: r, ds, ks, hm, h, hb => by
    simp only [getAs] at h
    split at h
    · rename_i y ds' ks' h1 h2
      split at h
      · rename_i d hd
        injection h with h
        injection h with e1 e2
        subst e1
        subst e2
        have hx := hm x List.mem_cons_self
        obtain ⟨h3, h4⟩ := getAs_rep hs hag hk (fun z hz => hm z (List.mem_cons_of_mem _ hz)) h2 (fun k hk' => hb k (List.mem_append_right _ hk'))
        have hd' : asD O' y = some d := by rw [asD_congr (hag.o x hx y h1)]; exact hd
        refine ⟨by simp [h3], fun i d v hd hv => ?_⟩
        cases i with
        | zero =>
          simp at hd hv
          subst hd; subst hv
          exact asD_rep' hs hk hd' (fun k hk' => hb k (List.mem_append_left _ hk') (asD_row hd' k hk')) (hs.get (hag.get hx h1)).toA
        | succ i => exact h4 i d v (by simpa using hd) (by simpa using hv)
      · cases h
    · cases h

theorem RepO.row_any {w : World} {ok : Nat → Prop} {σ σ' : Nat → Value} {fr : Bool} {t : TypeId} {sz : Nat} {xs : List (List D)} {v : Value} (h : RepO w ok σ (.row fr t sz xs) v) : RepO w ok σ' (.row fr t sz xs) v := by
  cases h with
  | row fr t sz xs v vs ho hp hm hsz h1 h => exact .row fr t sz xs v vs ho hp hm hsz h1 h

theorem Glob.upR {gl : GL} {w w' : World} {ok : Nat → Prop} (h : Glob gl w' (fun b => b < w'.heap.size ∧ (ok b ∨ w.heap.size ≤ b))) : ∀ ok', (∀ M, gl.memo = some M → ¬ ok' M.m) → (∀ b, b < w'.heap.size → ok b ∨ w.heap.size ≤ b → ok' b) → Glob gl w' ok' := fun ok' h1 h2 => h.mono (fun b hb => ⟨h2 b hb.1 hb.2, rfl⟩) fun M hM => ⟨rfl, h1 M hM⟩
theorem Glob.upR' {gl : GL} {w w' : World} {ok : Nat → Prop} {v : Value} (h : Glob gl w' (fun b => b < w'.heap.size ∧ (ok b ∨ w.heap.size ≤ b) ∧ blkOf v ≠ some b)) : ∀ ok', (∀ M, gl.memo = some M → ¬ ok' M.m) → (∀ b, b < w'.heap.size → ok b ∨ w.heap.size ≤ b → blkOf v ≠ some b → ok' b) → Glob gl w' ok' := fun ok' h1 h2 => h.mono (fun b hb => ⟨h2 b hb.1 hb.2.1 hb.2.2, rfl⟩) fun M hM => ⟨rfl, h1 M hM⟩
/-- A new own object that came with what else is new. -/
theorem SRep.newR {c : Ctx} {E : Nat → Option AV} {O : Nat → Option Obj1} {al : Nat → Prop} {nt : Nat} {a : Act} {w w' : World} {σ : Nat → Value} {id : Nat} {te : TypeId} {sz : Nat} {xs : List (List D)} {v : Value} (h : SRep c E O al nt a w σ) (g : Go1 w w' c.gl.tgt) (hgM : ∀ ok', (∀ M, c.gl.memo = some M → ¬ ok' M.m) → (∀ b, b < w'.heap.size → okk c O σ w b ∨ w.heap.size ≤ b → blkOf v ≠ some b → ok' b) → Glob c.gl w' ok') (hid : ¬ al id)
    (hb : ∀ b, blkOf v = some b → w.heap.size ≤ b)
    (ho : RepO w' (fun b => b < w'.heap.size ∧ (okk c O σ w b ∨ w.heap.size ≤ b) ∧ blkOf v ≠ some b) σ (.row true te sz xs) v) :
    SRep c E (upd1 O id (some (.row true te sz xs))) (fun k => al k ∨ k = id) nt a w' (updσ σ id v) := by
  have hO : O id = none := by
    cases hh : O id with
    | none => rfl
    | some o' => exact absurd (h.own id o' hh).1 hid
  have hσ : ∀ k, al k → updσ σ id v k = σ k := fun k hk => by
    have : k ≠ id := fun e => hid (e ▸ hk)
    simp [updσ, this]
  have hok : ∀ b, b < w'.heap.size → (okk c O σ w b ∨ w.heap.size ≤ b) → blkOf v ≠ some b → okk c (upd1 O id (some (.row true te sz xs))) (updσ σ id v) w' b := fun b h1 h2 h3 => by
    refine ⟨h1, ?_, fun k o' hko he => ?_⟩
    · rcases h2 with h2 | h2
      · exact h2.2.1
      · exact .inr (Nat.le_trans h.size h2)
    · by_cases hkid : k = id
      · subst hkid
        simp [updσ] at he
        exact h3 he
      · rw [upd1_ne hkid] at hko
        simp [updσ, hkid] at he
        rcases h2 with h2 | h2
        · exact h2.2.2 k o' hko he
        · have := (h.own k o' hko).2.toO.lt b he
          omega
  have hne' : ∀ b, okk c O σ w b → some b ≠ c.gl.tgt := fun b hb => GL.tgt_ne fun M hM e => mlow_ok h.mlow M hM (e ▸ hb)
  have hk : Kept w w' (okk c O σ w) (okk c (upd1 O id (some (.row true te sz xs))) (updσ σ id v) w') := fun b hb' =>
    ⟨hok b (Nat.lt_of_lt_of_le hb'.1 g.size) (.inl hb') (fun e => by have := hb b e; have := hb'.1; omega), g.block b hb'.1 (hne' b hb')⟩
  refine ⟨fun t x hx => ((h.env t x hx).mono hk).ext (fun _ h => .inl h) hσ, fun k o' hko => ?_, fun k k' o1 o2 h1 h2 hne b hb1 => ?_, fun k o1 h1 b hb1 => ?_, fun b hb1 hp hn => (g.block b (Nat.lt_of_lt_of_le hb1 h.size) (GL.tgt_ne hn)).trans (h.frame b hb1 hp hn), h.low, h.mlow, Nat.le_trans h.size g.size, g.os.trans h.os, g.tape.trans h.tape, g.output.trans h.output, fun k hk => ⟨.inl (h.ag k hk).1, (hσ k (h.ag k hk).1).trans (h.ag k hk).2⟩, h.defers, h.nt, hgM _ (mlow_ok h.mlow) hok⟩
  · by_cases hkid : k = id
    · subst hkid
      rw [upd1_self] at hko
      injection hko with hko
      subst hko
      refine ⟨.inr rfl, fun τ _ => ?_⟩
      have h0 : updσ σ k v k = v := by simp [updσ]
      rw [h0]
      exact (ho.mono (fun b hb' => ⟨hok b hb'.1 hb'.2.1 hb'.2.2, rfl⟩) fun _ _ => rfl).row_any
    · rw [upd1_ne hkid] at hko
      have h3 := h.own k o' hko
      refine ⟨.inl h3.1, ?_⟩
      rw [hσ k h3.1]
      exact (h3.2.mono hk fun b hb1 => g.block b (h3.2.toO.lt b hb1) (GL.tgt_ne fun M hM e => h.own_ne hko M hM (e ▸ hb1))).ext (fun _ h => .inl h) hσ
  · by_cases e1 : k = id
    · subst e1
      have e2 : k' ≠ k := fun e => hne e.symm
      rw [upd1_ne e2] at h2
      have h3 := h.own k' o2 h2
      rw [hσ k' h3.1]
      simp [updσ] at hb1
      intro he
      have := h3.2.toO.lt b he
      have := hb b hb1
      omega
    · rw [upd1_ne e1] at h1
      have h3 := h.own k o1 h1
      rw [hσ k h3.1] at hb1
      by_cases e2 : k' = id
      · subst e2
        simp [updσ]
        intro he
        have := h3.2.toO.lt b hb1
        have := hb b he
        omega
      · rw [upd1_ne e2] at h2
        rw [hσ k' (h.own k' o2 h2).1]
        exact h.dis k k' o1 o2 h1 h2 hne b hb1
  · by_cases e1 : k = id
    · subst e1
      rw [upd1_self] at h1
      injection h1 with h1
      subst h1
      simp [updσ] at hb1
      exact .inr ⟨Nat.le_trans h.size (hb b hb1), by intro h; cases h⟩
    · rw [upd1_ne e1] at h1
      rw [hσ k (h.own k o1 h1).1] at hb1
      exact h.mine k o1 h1 b hb1

theorem rep_fn_inv {w : World} {ok : Nat → Prop} {f : FuncId} {fs cs : List D} {v : Value} (h : Rep w ok (.fn f fs cs) v) : ∃ us ws : List Value, v = .func (.func f) us.toArray ws.toArray ∧ us.length = fs.length ∧ ws.length = cs.length ∧
    (∀ (i : Nat) c v, fs[i]? = some c → us[i]? = some v → Rep w ok c v) ∧ ∀ (i : Nat) c v, cs[i]? = some c → ws[i]? = some v → Rep w ok c v := by
  cases h with | fn _ _ _ us ws hf hc h1 h2 => exact ⟨us, ws, rfl, hf, hc, h1, h2⟩

theorem app_rep {R : D → Value → Prop} {as bs : List D} {us ws : List Value} (hl : us.length = as.length) (h : ∀ (i : Nat) c v, as[i]? = some c → us[i]? = some v → R c v) (k : ∀ (i : Nat) c v, bs[i]? = some c → ws[i]? = some v → R c v) :
    ∀ (i : Nat) c v, (as ++ bs)[i]? = some c → (us ++ ws)[i]? = some v → R c v := fun i c v hc hv => by
  by_cases hi : i < as.length
  · rw [List.getElem?_append_left hi] at hc
    rw [List.getElem?_append_left (by omega)] at hv
    exact h i c v hc hv
  · rw [List.getElem?_append_right (by omega)] at hc
    rw [List.getElem?_append_right (by omega), hl] at hv
    exact k _ c v hc hv

theorem st_call {f : Nat} {x : Operand} {args : Array Operand} {ts : Array TypeId} {fs cs ds : List D} {res : D} (ho : o.op = .call { callee := .value x, args := args, argTypes := ts }) (hx : getE gl E x = some (.d (.fn f fs cs))) {ks : List Nat} (hd : getAs (getE gl E) O args.toList = some (ds, ks))
    (hc : PCon P gl f (fs ++ ds ++ cs) res) : Step P gl E O o id (some (.d res)) (dropE ks) := by
  intro c E' O' al nt a w σ hgl hs hid hag K Q hK
  subst hgl
  have hops : o.op.operands = #[x] ++ args := by simp [ho, Op.operands, Call.operands]
  have h1 := (hs.get (hag.get (x := x) (by simp [hops]) hx)).d_inv
  obtain ⟨us, ws, hv, hu, hw, r1, r2⟩ := rep_fn_inv h1
  have hkept : Kept w w (okk c O' σ w) (okk c (dropO O' ks) σ w) := fun b hb => ⟨⟨hb.1, hb.2.1, fun j o1 hj => hb.2.2 j o1 (dropO_some hj).1⟩, rfl⟩
  obtain ⟨d1, d2⟩ := getAs_rep hs hag hkept (fun z hz => by rw [hops]; exact Array.mem_append.2 (.inr (Array.mem_toList_iff.1 hz))) hd (fun k hk ⟨_, _, _, hO⟩ => hs.drops_ok hO rfl hk)
  have r1' := fun i c v hc hv => (r1 i c v hc hv).mono hkept
  have r2' := fun i c v hc hv => (r2 i c v hc hv).mono hkept
  obtain ⟨fn, f1, f2, f3⟩ := hc.fn
  have hrun : (execOp a.eval o).run P w = .ok (.enter f (us ++ args.toList.map a.eval ++ ws).toArray) w := by
    have hm : us.toArray ++ args.map a.eval ++ ws.toArray = (us ++ args.toList.map a.eval ++ ws).toArray := by
      apply Array.toList_inj.1
      simp
    simp only [execOp, ho, resolve, hv, Deferred.ofValue, invoke, callFunc, Sem.run_bind, Sem.run_pure, Result.andThen_ok, run_program, f1, f2, f3, Bool.false_eq_true, if_false, hm]
  unfold Oper.wp
  rw [hrun]
  have hds := hs.drops (ks := ks)
  have hcall := hc.runs w (okk c (dropO O' ks) σ w) (us ++ args.toList.map a.eval ++ ws) (fun b hb => hb.1) hds.glob (by simp [hu, hw, d1]) (app_rep (by simp [hu, d1]) (app_rep hu r1' d2) r2')
  refine Calls.mono hcall fun e w' he => ?_
  obtain ⟨v, rfl, hg, hm, hr⟩ := he
  have hs' := (hds.growM hg (Glob.upR hm)).al_ext (al' := fun k => al k ∨ k = id) fun _ => .inl
  have happ : (dropE ks).app id O' = dropO O' ks := by
    cases ks with
    | nil => funext j; simp [dropE, Eff.app, dropO]
    | cons k ks => rfl
  refine hK v w' σ (by rw [happ]; exact hs') fun y hy => ?_
  injection hy with hy
  subst hy
  rw [happ]
  refine .of_d (hr.mono fun b hb => ⟨⟨hb.1, ?_, fun k ob hk he => ?_⟩, rfl⟩)
  · rcases hb.2 with h | h
    · exact h.2.1
    · exact .inr (Nat.le_trans hs.size h)
  · rcases hb.2 with h | h
    · exact h.2.2 k ob hk he
    · have := (hds.own k ob hk).2.toO.lt b he
      omega
end

section
variable {P : Program} {E : Nat → Option AV} {O : Nat → Option Obj1} {gl : GL} {o : Oper} {id : Nat}
theorem st_callR {f : Nat} {x : Operand} {args : Array Operand} {ts : Array TypeId} {fs cs ds : List D} {te : TypeId} {sz : Nat} {xs : List (List D)} (ho : o.op = .call { callee := .value x, args := args, argTypes := ts }) (hx : getE gl E x = some (.d (.fn f fs cs))) (hd : getAs (getE gl E) O args.toList = some (ds, []))
    (hc : PConR P gl f (fs ++ ds ++ cs) te sz xs) : Step P gl E O o id (some (.own id)) (.new (.row true te sz xs)) := by
  intro c E' O' al nt a w σ hgl hs hid hag K Q hK
  subst hgl
  have hops : o.op.operands = #[x] ++ args := by simp [ho, Op.operands, Call.operands]
  have h1 := (hs.get (hag.get (x := x) (by simp [hops]) hx)).d_inv
  obtain ⟨us, ws, hv, hu, hw, r1, r2⟩ := rep_fn_inv h1
  obtain ⟨d1, d2⟩ := getAs_rep hs hag (Kept.refl w _) (fun z hz => by rw [hops]; exact Array.mem_append.2 (.inr (Array.mem_toList_iff.1 hz))) hd (fun k hk => by simp at hk)
  obtain ⟨fn, f1, f2, f3⟩ := hc.fn
  have hrun : (execOp a.eval o).run P w = .ok (.enter f (us ++ args.toList.map a.eval ++ ws).toArray) w := by
    have hm : us.toArray ++ args.map a.eval ++ ws.toArray = (us ++ args.toList.map a.eval ++ ws).toArray := by
      apply Array.toList_inj.1
      simp
    simp only [execOp, ho, resolve, hv, Deferred.ofValue, invoke, callFunc, Sem.run_bind, Sem.run_pure, Result.andThen_ok, run_program, f1, f2, f3, Bool.false_eq_true, if_false, hm]
  unfold Oper.wp
  rw [hrun]
  have hcall := hc.runs w (okk c O' σ w) (us ++ args.toList.map a.eval ++ ws) (fun b hb => hb.1) hs.glob (by simp [hu, hw, d1]) (app_rep (by simp [hu, d1]) (app_rep hu r1 d2) r2)
  refine Calls.mono hcall fun e w' he => ?_
  obtain ⟨v, rfl, hg, hm, hnew, hr⟩ := he
  have hs' := hs.newR (id := id) hg (Glob.upR' hm) hid hnew (hr (fun _ => True) σ).toO
  refine hK v w' _ hs' fun y hy => ?_
  injection hy with hy
  subst hy
  intro τ hτ
  have : v = τ id := by rw [hτ id (.inr rfl)]; simp [updσ]
  rw [this]
  exact .own id
end

/-- The arguments as they are (nil stays nil); no own rows among them. -/
def getAR (g : Operand → Option AV) : List Operand → Option (List D)
  | [] => some []
  | x :: r => match g x, getAR g r with
    | some (.d y), some ds => some (y :: ds)
    | _, _ => none
section
variable {P : Program} {E : Nat → Option AV} {O : Nat → Option Obj1} {gl : GL} {o : Oper} {id : Nat}
theorem getAR_rep {c : Ctx} {E' : Nat → Option AV} {O' : Nat → Option Obj1} {al : Nat → Prop} {nt : Nat} {a : Act} {w : World} {σ : Nat → Value} (hs : SRep c E' O' al nt a w σ) (hag : Agree c.gl E E' O O' o) :
    ∀ {xs : List Operand} {ds : List D}, (∀ x ∈ xs, x ∈ o.op.operands) → getAR (getE c.gl E) xs = some ds →
      ds.length = xs.length ∧ ∀ (i : Nat) d v, ds[i]? = some d → (xs.map a.eval)[i]? = some v → Rep w (okk c O' σ w) d v
  | [], ds, _, h => by simp [getAR] at h; subst h; simp
  | x :: r, ds, hm, h => by
    simp only [getAR] at h
    split at h
    · rename_i y ds' h1 h2
      injection h with h
      subst h
      have hx := hm x List.mem_cons_self
      obtain ⟨h3, h4⟩ := getAR_rep hs hag (fun z hz => hm z (List.mem_cons_of_mem _ hz)) h2
      refine ⟨by simp [h3], fun i d v hd hv => ?_⟩
      cases i with
      | zero =>
        simp at hd hv
        subst hd; subst hv
        exact (hs.get (hag.get hx h1)).d_inv
      | succ i => exact h4 i d v (by simpa using hd) (by simpa using hv)
    · cases h
theorem st_callN {f : Nat} {x : Operand} {args : Array Operand} {ts : Array TypeId} {fs cs ds : List D} {res : D} (ho : o.op = .call { callee := .value x, args := args, argTypes := ts }) (hx : getE gl E x = some (.d (.fn f fs cs))) (hd : getAR (getE gl E) args.toList = some ds)
    (hc : PCon P gl f (fs ++ ds ++ cs) res) : Step P gl E O o id (some (.d res)) .none := by
  intro c E' O' al nt a w σ hgl hs hid hag K Q hK
  subst hgl
  have hops : o.op.operands = #[x] ++ args := by simp [ho, Op.operands, Call.operands]
  have h1 := (hs.get (hag.get (x := x) (by simp [hops]) hx)).d_inv
  obtain ⟨us, ws, hv, hu, hw, r1, r2⟩ := rep_fn_inv h1
  obtain ⟨d1, d2⟩ := getAR_rep hs hag (fun z hz => by rw [hops]; exact Array.mem_append.2 (.inr (Array.mem_toList_iff.1 hz))) hd
  obtain ⟨fn, f1, f2, f3⟩ := hc.fn
  have hrun : (execOp a.eval o).run P w = .ok (.enter f (us ++ args.toList.map a.eval ++ ws).toArray) w := by
    have hm : us.toArray ++ args.map a.eval ++ ws.toArray = (us ++ args.toList.map a.eval ++ ws).toArray := by
      apply Array.toList_inj.1
      simp
    simp only [execOp, ho, resolve, hv, Deferred.ofValue, invoke, callFunc, Sem.run_bind, Sem.run_pure, Result.andThen_ok, run_program, f1, f2, f3, Bool.false_eq_true, if_false, hm]
  unfold Oper.wp
  rw [hrun]
  have hcall := hc.runs w (okk c O' σ w) (us ++ args.toList.map a.eval ++ ws) (fun b hb => hb.1) hs.glob (by simp [hu, hw, d1]) (app_rep (by simp [hu, d1]) (app_rep hu r1 d2) r2)
  refine Calls.mono hcall fun e w' he => ?_
  obtain ⟨v, rfl, hg, hm, hr⟩ := he
  have hs' := (hs.growM hg (Glob.upR hm)).al_ext (al' := fun k => al k ∨ k = id) fun _ => .inl
  refine hK v w' σ hs' fun y hy => ?_
  injection hy with hy
  subst hy
  refine .of_d (hr.mono fun b hb => ⟨⟨hb.1, ?_, fun k ob hk he => ?_⟩, rfl⟩)
  · rcases hb.2 with h | h
    · exact h.2.1
    · exact .inr (Nat.le_trans hs.size h)
  · rcases hb.2 with h | h
    · exact h.2.2 k ob hk he
    · have := (hs.own k ob hk).2.toO.lt b he
      omega
theorem st_callNR {f : Nat} {x : Operand} {args : Array Operand} {ts : Array TypeId} {fs cs ds : List D} {te : TypeId} {sz : Nat} {xs : List (List D)} (ho : o.op = .call { callee := .value x, args := args, argTypes := ts }) (hx : getE gl E x = some (.d (.fn f fs cs))) (hd : getAR (getE gl E) args.toList = some ds)
    (hc : PConR P gl f (fs ++ ds ++ cs) te sz xs) : Step P gl E O o id (some (.own id)) (.new (.row true te sz xs)) := by
  intro c E' O' al nt a w σ hgl hs hid hag K Q hK
  subst hgl
  have hops : o.op.operands = #[x] ++ args := by simp [ho, Op.operands, Call.operands]
  have h1 := (hs.get (hag.get (x := x) (by simp [hops]) hx)).d_inv
  obtain ⟨us, ws, hv, hu, hw, r1, r2⟩ := rep_fn_inv h1
  obtain ⟨d1, d2⟩ := getAR_rep hs hag (fun z hz => by rw [hops]; exact Array.mem_append.2 (.inr (Array.mem_toList_iff.1 hz))) hd
  obtain ⟨fn, f1, f2, f3⟩ := hc.fn
  have hrun : (execOp a.eval o).run P w = .ok (.enter f (us ++ args.toList.map a.eval ++ ws).toArray) w := by
    have hm : us.toArray ++ args.map a.eval ++ ws.toArray = (us ++ args.toList.map a.eval ++ ws).toArray := by
      apply Array.toList_inj.1
      simp
    simp only [execOp, ho, resolve, hv, Deferred.ofValue, invoke, callFunc, Sem.run_bind, Sem.run_pure, Result.andThen_ok, run_program, f1, f2, f3, Bool.false_eq_true, if_false, hm]
  unfold Oper.wp
  rw [hrun]
  have hcall := hc.runs w (okk c O' σ w) (us ++ args.toList.map a.eval ++ ws) (fun b hb => hb.1) hs.glob (by simp [hu, hw, d1]) (app_rep (by simp [hu, d1]) (app_rep hu r1 d2) r2)
  refine Calls.mono hcall fun e w' he => ?_
  obtain ⟨v, rfl, hg, hm, hnew, hr⟩ := he
  have hs' := hs.newR (id := id) hg (Glob.upR' hm) hid hnew (hr (fun _ => True) σ).toO
  refine hK v w' _ hs' fun y hy => ?_
  injection hy with hy
  subst hy
  intro τ hτ
  have : v = τ id := by rw [hτ id (.inr rfl)]; simp [updσ]
  rw [this]
  exact .own id
end

/-! ### One operation -/
def ownOk (O : Nat → Option Obj1) : AV → Prop
  | .own k => match O k with
    | some _ => True
    | none => False
  | _ => True
def ownsOk' (O : Nat → Option Obj1) : List (Nat × AV) → Prop
  | [] => True
  | p :: r => ownOk O p.2 ∧ ownsOk' O r
theorem ownOk_spec {O : Nat → Option Obj1} {y : AV} (h : ownOk O y) : ∀ k, y = .own k → ∃ ob, O k = some ob := fun k hk => by
  subst hk
  simp only [ownOk] at h
  split at h
  · rename_i ob hob; exact ⟨ob, hob⟩
  · exact h.elim
theorem ownsOk_spec {O : Nat → Option Obj1} : ∀ {l : List (Nat × AV)}, ownsOk' O l → ownsOk O l
  | [], _ => fun p hp => by cases hp
  | p :: r, h => fun q hq => by
    rcases List.mem_cons.1 hq with rfl | hq
    · exact ownOk_spec h.1
    · exact ownsOk_spec h.2 q hq

def AV.mk : AV → AV
  | .agg cs => mkAgg cs
  | x => x
theorem AV.mk_rep {al : Nat → Prop} {w : World} {ok : Nat → Prop} {σ : Nat → Value} {x : AV} {v : Value} (h : RepS al w ok σ x v) : RepS al w ok σ x.mk v := by
  cases x <;> first | exact h | exact mkAgg_rep h

def cutB (g : Operand → Option AV) (n : Nat) (lo hi : Option Operand) (K : Nat → Nat → Prop) : Prop :=
  match lo, hi with
  | none, none => K 0 n
  | some x, none => match g x with
    | some (.d (.int _ l)) => 0 ≤ l ∧ l ≤ n ∧ K l.toNat n
    | _ => False
  | none, some y => match g y with
    | some (.d (.int _ h)) => 0 ≤ h ∧ h ≤ n ∧ K 0 h.toNat
    | _ => False
  | some x, some y => match g x, g y with
    | some (.d (.int _ l)), some (.d (.int _ h)) => 0 ≤ l ∧ l ≤ h ∧ h ≤ n ∧ K l.toNat h.toNat
    | _, _ => False

theorem cutB_spec {gl : GL} {E : Nat → Option AV} {n : Nat} {lo hi : Option Operand} {K : Nat → Nat → Prop} (h : cutB (getE gl E) n lo hi K) : ∃ l r, CutB gl E n lo hi l r ∧ K l r := by
  unfold cutB at h
  split at h
  · exact ⟨_, _, .all, h⟩
  · split at h
    · rename_i x _ k l hx
      exact ⟨_, _, .lo x k l hx h.1 h.2.1, h.2.2⟩
    · exact h.elim
  · split at h
    · rename_i y _ k l hy
      exact ⟨_, _, .hi y k l hy h.1 h.2.1, h.2.2⟩
    · exact h.elim
  · split at h
    · rename_i x y _ _ k l k' r hx hy
      exact ⟨_, _, .both x y k k' l r hx hy h.1 h.2.1 h.2.2.1, h.2.2.2⟩
    · exact h.elim

/-- What 'append' is handed, as a list. -/
def srcA (O : Nat → Option Obj1) (sz : Nat) : AV → Option (List (List D))
  | .d (.slice ys) => some ys
  | .d .nils => some []
  | .own k => match O k with
    | some (.row _ _ sz' ys) => if sz' = sz then some ys else none
    | _ => none
  | _ => none
theorem srcA_spec {O : Nat → Option Obj1} {sz : Nat} {y : AV} {ys : List (List D)} (h : srcA O sz y = some ys) : Src O sz y ys := by
  unfold srcA at h
  split at h
  · injection h with h; subst h; exact .d _
  · injection h with h; subst h; exact .nils
  · split at h
    · split at h
      · rename_i hk hsz
        injection h with h
        subst h
        subst hsz
        exact .own _ _ _ _ hk
      · cases h
    · cases h
  · cases h

/-! ### Function values -/
def getDs (g : Operand → Option AV) : List Operand → Option (List D)
  | [] => some []
  | x :: r => match g x, getDs g r with
    | some (.d d), some ds => some (d :: ds)
    | _, _ => none
theorem getDs_rep {gl : GL} {E E' : Nat → Option AV} {O O' : Nat → Option Obj1} {o : Oper} {c : Ctx} {al : Nat → Prop} {nt : Nat} {a : Act} {w : World} {σ : Nat → Value} (hgl : c.gl = gl) (hs : SRep c E' O' al nt a w σ) (hag : Agree gl E E' O O' o) :
    ∀ {xs : List Operand} {ds : List D}, (∀ x ∈ xs, x ∈ o.op.operands) → getDs (getE gl E) xs = some ds → ds.length = xs.length ∧ ∀ (i : Nat) d v, ds[i]? = some d → (xs.map a.eval)[i]? = some v → Rep w (okk c O' σ w) d v
  | [], ds, _, h => by simp [getDs] at h; subst h; simp
  | x :: r, ds, hm, h => by
    simp only [getDs] at h
    split at h
    · rename_i d ds' h1 h2
      injection h with h
      subst h
      subst hgl
      obtain ⟨h3, h4⟩ := getDs_rep rfl hs hag (fun z hz => hm z (List.mem_cons_of_mem _ hz)) h2
      refine ⟨by simp [h3], fun i e v he hv => ?_⟩
      cases i with
      | zero =>
        simp at he hv
        subst he; subst hv
        exact (hs.get (hag.get (hm x List.mem_cons_self) h1)).d_inv
      | succ i => exact h4 i e v (by simpa using he) (by simpa using hv)
    · cases h
theorem st_makeFunc {P : Program} {E : Nat → Option AV} {O : Nat → Option Obj1} {gl : GL} {o : Oper} {id : Nat} {f : FuncId} {first caps : Array Operand} {ds es : List D} (ho : o.op = .makeFunc (.func f) first caps) (h1 : getDs (getE gl E) first.toList = some ds) (h2 : getDs (getE gl E) caps.toList = some es) :
    Step P gl E O o id (some (.d (.fn f ds es))) .none :=
  .val fun c E' O' al nt a w σ hgl hs hag => by
    obtain ⟨l1, r1⟩ := getDs_rep hgl hs hag (fun x hx => by rw [ho]; simp only [Op.operands]; exact Array.mem_toList_iff.1 (by simp; exact .inl (by simpa using hx))) h1
    obtain ⟨l2, r2⟩ := getDs_rep hgl hs hag (fun x hx => by rw [ho]; simp only [Op.operands]; exact Array.mem_toList_iff.1 (by simp; exact .inr (by simpa using hx))) h2
    refine ⟨.func (.func f) (first.toList.map a.eval).toArray (caps.toList.map a.eval).toArray, ?_, .of_d (.fn f ds es _ _ (by simp [l1]) (by simp [l2]) r1 r2)⟩
    simp [execOp, ho, Instr.makeFunc]
    exact ⟨Array.toList_inj.1 (by simp), Array.toList_inj.1 (by simp)⟩

def binA (tb : Nat → Option TI) (op : BinOp) (t : Nat) (x y : Option AV) (K : AV → Prop) : Prop :=
  match x, y with
  | some (.d (.int k m)), some (.d (.int k' n)) => match op with
    | .shl | .shr => 0 ≤ n ∧ (match shiftV op k m n with
      | some z => K (.d z)
      | none => False)
    | _ => k = k' ∧ intC op n ∧ (match intV op k m n with
      | some z => K (.d z)
      | none => False)
  | some (.d (.str m)), some (.d (.str n)) => strC op m n ∧ (match strV op m n with
      | some z => K (.d z)
      | none => False)
  | some (.d (.bool m)), some (.d (.bool n)) => match tb t with
    | some i => match i.k, boolV op m n with
      | .bool, some z => K (.d z)
      | _, _ => False
    | none => False
  | some (.d (.agg ds)), some (.d (.agg es)) => match tb t with
    | some i => i.k.agg = true ∧ i.eq ≠ [] ∧ (match sameS i.eq ds es with
      | some b => (match aggV op b with
        | some z => K (.d z)
        | none => False)
      | none => False)
    | none => False
  | some (.d d), some (.d .nils) => match tb t with
    | some i => (match i.k, nilV op d with
      | .slice _ _, some z => K (.d z)
      | _, _ => False)
    | none => False
  | _, _ => False

theorem binA_sound {P : Program} {E : Nat → Option AV} {O : Nat → Option Obj1} {gl : GL} {o : Oper} {id : Nat} {tb : Nat → Option TI} (htb : TbOk P tb) {op : BinOp} {t ty : TypeId} {x y : Operand} {K : AV → Prop} (ho : o.op = .binOp op t x y ty) (h : binA tb op t (getE gl E x) (getE gl E y) K) :
    ∃ v, K v ∧ Step P gl E O o id (some v) .none := by
  unfold binA at h
  split at h
  · rename_i k m k' n hx hy
    split at h
    · obtain ⟨h0, h⟩ := h
      split at h
      · rename_i z hz
        exact ⟨_, h, st_bin_shift ho hx hy h0 hz⟩
      · exact h.elim
    · obtain ⟨h0, h⟩ := h
      split at h
      · rename_i z hz
        exact ⟨_, h, st_bin_shift ho hx hy h0 hz⟩
      · exact h.elim
    · obtain ⟨rfl, h0, h⟩ := h
      split at h
      · rename_i z hz
        exact ⟨_, h, st_bin_int ho hx hy h0 hz⟩
      · exact h.elim
  · rename_i m n hx hy
    obtain ⟨h0, h⟩ := h
    split at h
    · rename_i z hz
      exact ⟨_, h, st_bin_str ho hx hy h0 hz⟩
    · exact h.elim
  · rename_i m n hx hy
    split at h
    · rename_i i hi
      split at h
      · rename_i z hk hz
        exact ⟨_, h, st_bin_bool (htb _ _ hi) hk ho hx hy hz⟩
      · exact h.elim
    · exact h.elim
  · rename_i ds es hx hy
    split at h
    · rename_i i hi
      obtain ⟨h1, h2, h⟩ := h
      split at h
      · rename_i b hb
        split at h
        · rename_i z hz
          exact ⟨_, h, st_bin_agg (htb _ _ hi) h1 ho hx hy hb h2 hz⟩
        · exact h.elim
      · exact h.elim
    · exact h.elim
  · rename_i d hx hy
    split at h
    · rename_i i hi
      split at h
      · rename_i te sz z hk hz
        exact ⟨_, h, st_bin_nil (htb _ _ hi) hk ho hx hy hz⟩
      · exact h.elim
    · exact h.elim
  · exact h.elim
end Go.Proofs.Ytpibdbjlilpfiaa
/- One operation: what ranges over a string; maps whose keys are whole numbers. -/
namespace Go.Proofs.Ytpibdbjlilpfiaa
set_option linter.all false
open Go Go.RowKit

section
variable {P : Program} {E : Nat → Option AV} {O : Nat → Option Obj1} {gl : GL} {o : Oper} {id : Nat}

theorem heap_new (w : World) (ob : Obj) : (w.alloc ob).heap[w.heap.size]? = some ob := by
  show (w.heap.push ob)[w.heap.size]? = some ob
  simp
theorem st_range {t : Nat} {x : Operand} {s : ByteArray} {i : TI} (hi : i.ok P t) (hk : i.k = .str) (ho : o.op = .range t x) (hx : getE gl E x = some (.d (.str s))) : Step P gl E O o id (some (.ref id 0)) (.new (.iter s 0)) :=
  .run fun c E' O' al nt a w σ hgl hs hid hag => by
    subst hgl
    obtain ⟨h1, _⟩ := rep_str (hs.get (hag.get (x := x) (by simp [ho, Op.operands]) hx))
    have hb := hi.k
    rw [hk] at hb
    have hn := hs.new (id := id) (o := .iter s 0) (v := .pointer (some ⟨w.heap.size, 0, none⟩)) (Go1.alloc w (.stringIter s 0) none) hid (fun b hb => by simp [blkOf] at hb; omega) (fun ok' hk τ hτ => .iter s 0 _ (heap_new w _))
    exact ⟨.pointer (some ⟨w.heap.size, 0, none⟩), _, _, by simp only [execOp, ho, h1, Sem.run_bind, run_range_string w t s hb, Result.andThen_ok, Sem.run_pure]; rfl, hn, rep_ref_new id (.inr rfl) (by simp [updσ])⟩

theorem iter_at {al : Nat → Prop} {w : World} {ok : Nat → Prop} {σ : Nat → Value} {s : ByteArray} {pos : Nat} {v : Value} (h : RepSO al w ok σ (.iter s pos) v) : ∃ b, v = .pointer (some ⟨b, 0, none⟩) ∧ w.heap[b]? = some (.stringIter s pos) := by
  have h0 := h.toO
  generalize ho : Obj1.iter s pos = ob at h0
  cases h0 with
  | iter s' pos' b hb => cases ho; exact ⟨b, rfl, hb⟩
  | box => cases ho
  | row => cases ho
  | map => cases ho
theorem st_next {k : Nat} {x : Operand} {s : ByteArray} {pos : Nat} (ho : o.op = .next x true) (hx : getE gl E x = some (.ref k 0)) (hO : O k = some (.iter s pos)) (hp : pos < s.size) :
    Step P gl E O o id (some (.d (.tup [.bool true, .int .i64 pos, .int .i32 (Utf8.decode s pos).1]))) (.turn k (.iter s (pos + (Utf8.decode s pos).2))) :=
  .run fun c E' O' al nt a w σ hgl hs hid hag => by
    subst hgl
    have hm : x ∈ o.op.operands := by simp [ho, Op.operands]
    have h1 := hs.get (hag.get hm hx)
    have hO' : O' k = some (.iter s pos) := (hag.o x hm _ hx k (by simp [AV.ids])).trans hO
    obtain ⟨b, hb, hva⟩ := h1.toA.ref_inv
    obtain ⟨b', e1, hh⟩ := iter_at (hs.own k _ hO').2
    rw [e1] at hb
    simp [blkOf] at hb
    subst hb
    have hbk : blkOf (σ k) = some b' := by rw [e1]; rfl
    have hgo : Go1 w (w.iterAt b' s (pos + (Utf8.decode s pos).2)) (blkOf (σ k)) := ⟨rfl, rfl, rfl, by rw [Lib.iterAt_size]; exact Nat.le_refl _, fun q _ hq => Lib.iterAt_other _ _ _ _ _ (fun e => hq (by rw [hbk, e]))⟩
    have hturn := (hs.al_ext (al' := fun j => al j ∨ j = id) fun _ => .inl).turn (o' := .iter s (pos + (Utf8.decode s pos).2)) hO' hgo rfl (fun ok' hk τ hτ => by
      rw [e1]
      exact .iter s _ _ (Lib.iterAt_heap _ _ _ _ _ hh))
    refine ⟨.tuple #[.bool true, .int .i64 pos, .int .i32 (Utf8.decode s pos).1], _, σ, ?_, hturn, .of_d (.tup _ [.bool true, .int .i64 pos, .int .i32 (Utf8.decode s pos).1] rfl fun i c v hc hv => ?_)⟩
    · simp only [execOp, ho, hva, Sem.run_bind, Lib.run_next_any_at w b' s pos _ hh hp, Result.andThen_ok, Sem.run_pure]
    · match i with
      | 0 => simp at hc hv; subst hc; subst hv; exact .bool _
      | 1 => simp at hc hv; subst hc; subst hv; exact .int _ _
      | 2 => simp at hc hv; subst hc; subst hv; exact .int _ _
      | i + 3 => simp at hc
theorem st_next_end {k : Nat} {x : Operand} {s : ByteArray} {pos : Nat} (ho : o.op = .next x true) (hx : getE gl E x = some (.ref k 0)) (hO : O k = some (.iter s pos)) (hp : ¬ pos < s.size) : Step P gl E O o id (some (.d (.tup [.bool false]))) .none :=
  .val fun c E' O' al nt a w σ hgl hs hag => by
    subst hgl
    have hm : x ∈ o.op.operands := by simp [ho, Op.operands]
    have h1 := hs.get (hag.get hm hx)
    have hO' : O' k = some (.iter s pos) := (hag.o x hm _ hx k (by simp [AV.ids])).trans hO
    obtain ⟨b, hb, hva⟩ := h1.toA.ref_inv
    obtain ⟨b', e1, hh⟩ := iter_at (hs.own k _ hO').2
    rw [e1] at hb
    simp [blkOf] at hb
    subst hb
    refine ⟨.tuple #[.bool false], ?_, .of_d (.tup _ [.bool false] rfl fun i c v hc hv => ?_)⟩
    · simp only [execOp, ho, hva, Sem.run_bind, Lib.run_next_end_at w b' s pos _ hh hp, Result.andThen_ok, Sem.run_pure]
    · match i with
      | 0 => simp at hc hv; subst hc; subst hv; exact .bool _
      | i + 1 => simp at hc

/-! ### Maps -/
/-- A map's types, where its keys are whole numbers. -/
def mapT (P : Program) (t : TypeId) : Option (TypeId × TypeId × IntKind) := match P.underlying t with
  | some (.map kt et) => match P.underlying kt with
    | some (.int kk) => some (kt, et, kk)
    | _ => none
  | _ => none
theorem mapT_spec {t kt et : TypeId} {kk : IntKind} (h : mapT P t = some (kt, et, kk)) : P.underlying t = some (.map kt et) ∧ P.underlying kt = some (.int kk) := by
  unfold mapT at h
  split at h
  · rename_i a b h1
    split at h
    · rename_i k h2
      cases h
      exact ⟨h1, h2⟩
    · cases h
  · cases h
def findM (kk : IntKind) (n : Int) : List (D × D) → Nat → Option (Option (Nat × D))
  | [], _ => some none
  | (.int k m, d) :: r, i => if k = kk then (if n = m then some (some (i, d)) else findM kk n r (i + 1)) else none
  | _ :: _, _ => none
theorem find_run {w : World} {ok : Nat → Prop} {kk : IntKind} {n : Int} : ∀ {es : List (D × D)} {ms : List MapEntry} {i : Nat} {r : Option (Nat × D)}, ms.length = es.length → (∀ (i : Nat) e m, es[i]? = some e → ms[i]? = some m → Rep w ok e.1 m.key ∧ Rep w ok e.2 m.val) →
    findM kk n es i = some r → ∃ r', Instr.findNow (.int kk) (.int kk n) ms i = some r' ∧ (match r, r' with
      | none, none => True
      | some (j, d), some (j', v) => j = j' ∧ Rep w ok d v
      | _, _ => False)
  | [], [], i, r, _, _, h => by
    simp only [findM, Option.some.injEq] at h
    subst h
    exact ⟨none, rfl, trivial⟩
  | [], _ :: _, _, _, hl, _, _ => by simp at hl
  | _ :: _, [], _, _, hl, _, _ => by simp at hl
  | e :: es, m :: ms, i, r, hl, hr, h => by
    obtain ⟨h1, h2⟩ := hr 0 e m rfl rfl
    obtain ⟨ek, ed⟩ := e
    cases ek <;> simp only [findM] at h <;> try cases h
    rename_i k z
    split at h
    · rename_i hk
      subst hk
      generalize hkey : m.key = key at h1
      cases h1
      split at h
      · rename_i hz
        cases h
        subst hz
        exact ⟨some (i, m.val), by simp [Instr.findNow, hkey, Instr.sameNow], rfl, h2⟩
      · rename_i hz
        obtain ⟨r', q1, q2⟩ := find_run (by simpa using hl) (fun i e m he hm => hr (i + 1) e m (by simpa using he) (by simpa using hm)) h
        refine ⟨r', ?_, q2⟩
        · simp only [Instr.findNow, hkey, Instr.sameNow, if_true]
          have : (n == z) = false := by simpa using hz
          rw [this]
          exact q1
    · cases h
theorem run_checkKey {w : World} {kt : TypeId} {kk : IntKind} (h : P.underlying kt = some (.int kk)) (b : Bool) (m : Nat) (v : Value) : (Instr.checkKey b (m + 1) kt v).run P w = .ok () w := by
  rw [Instr.checkKey]
  simp only [Sem.run_bind, run_underlying h, Result.andThen_ok]
  cases v <;> rfl
theorem st_makeMap {t : Nat} (ho : o.op = .makeMap t none) : Step P gl E O o id (some (.own id)) (.new (.map [])) :=
  .run fun c E' O' al nt a w σ hgl hs hid hag => by
    subst hgl
    have hn := hs.new (id := id) (o := .map []) (v := .map (some w.heap.size)) (Go1.alloc w (.map #[] 0) none) hid (fun b hb => by simp [blkOf] at hb; omega) (fun ok' hk τ hτ => .map [] _ 0 #[] (heap_new w _) rfl (fun i e m he => by simp at he))
    refine ⟨.map (some w.heap.size), _, _, ?_, hn, fun τ hτ => ?_⟩
    · simp [execOp, ho, Instr.makeMap, run_newObj]
    · have := hτ id (.inr rfl)
      simp [updσ] at this
      rw [← this]
      exact .own id
theorem map_at {al : Nat → Prop} {w : World} {ok : Nat → Prop} {σ : Nat → Value} {es : List (D × D)} {v : Value} (h : RepSO al w ok σ (.map es) v) : ∃ (b cl : Nat) (ms : Array MapEntry), v = .map (some b) ∧ w.heap[b]? = some (.map ms cl) ∧ ms.size = es.length ∧
    ∀ (i : Nat) e m, es[i]? = some e → ms[i]? = some m → Rep w ok e.1 m.key ∧ Rep w ok e.2 m.val := by
  have h0 := h.toO
  generalize ho : Obj1.map es = ob at h0
  cases h0 with
  | map es' b cl ms hb hl h => cases ho; exact ⟨b, cl, ms, rfl, hb, hl, h⟩
  | box => cases ho
  | row => cases ho
  | iter => cases ho
/-- What 'x, ok := m[k]' gives. -/
def lookV (z : D) : Option (Nat × D) → D
  | some (_, d) => .tup [d, .bool true]
  | none => .tup [z, .bool false]
theorem st_lookup {t kt et k : Nat} {kk kk' : IntKind} {x y : Operand} {n : Int} {es : List (D × D)} {r : Option (Nat × D)} {ie : TI} (hm : mapT P t = some (kt, et, kk)) (hie : ie.ok P et) (ho : o.op = .lookup t x y true) (hx : getE gl E x = some (.own k)) (hO : O k = some (.map es))
    (hy : getE gl E y = some (.d (.int kk n))) (hr : findM kk n es 0 = some r) : Step P gl E O o id (some (.d (lookV ie.zd r))) .none :=
  .val fun c E' O' al nt a w σ hgl hs hag => by
    subst hgl
    have hmx : x ∈ o.op.operands := by simp [ho, Op.operands]
    have h1 := (hs.get (hag.get hmx hx)).toA.own_inv
    have hO' : O' k = some (.map es) := (hag.o x hmx _ hx k (by simp [AV.ids])).trans hO
    have h2 := rep_int (hs.get (hag.get (x := y) (by simp [ho, Op.operands]) hy))
    obtain ⟨b, cl, ms, e1, hh, hl, hrep⟩ := map_at (hs.own k _ hO').2
    rw [e1] at h1
    obtain ⟨u1, u2⟩ := mapT_spec hm
    obtain ⟨z, hz, hzr, _⟩ := hie.zero w
    obtain ⟨r', q1, q2⟩ := find_run (ms := ms.toList) (by simpa using hl) (fun i e m he hm => hrep i e m he (by simpa using hm)) hr
    have hfk : (Instr.findKey kt (.int kk n) ms.toList).run P w = .ok r' w := by
      simp only [Instr.findKey, Sem.run_bind, run_underlying u2, Result.andThen_ok, q1, Sem.run_pure]
    have hck := run_checkKey (w := w) u2 ms.isEmpty 9999 (.int kk n)
    have hobj : (getObj b).run P w = .ok (.map ms cl) w := by simp [getObj, Sem.run, hh]
    refine ⟨match r' with
      | some (_, v) => .tuple #[v, .bool true]
      | none => .tuple #[z, .bool false], ?_, ?_⟩
    · simp only [execOp, ho, h1, h2, Instr.lookup, Sem.run_bind, run_underlying u1, Result.andThen_ok, hobj, Sem.run_pure, hck, hfk]
      cases r' with
      | none => simp [hz]
      | some p => simp
    · cases r with
      | none =>
        cases r' with
        | none => exact .of_d (tup2 (hzr _ _) (.bool _))
        | some _ => exact q2.elim
      | some p =>
        cases r' with
        | none => exact q2.elim
        | some p' =>
          obtain ⟨j, d⟩ := p
          obtain ⟨j', v⟩ := p'
          exact .of_d (tup2 q2.2 (.bool _))
theorem st_mapSet {t kt et k : Nat} {kk : IntKind} {x y z : Operand} {n : Int} {d : D} {es : List (D × D)} (hm : mapT P t = some (kt, et, kk)) (ho : o.op = .insert t x y z ∨ o.op = .mapUpdate t x y z) (hx : getE gl E x = some (.own k)) (hO : O k = some (.map es))
    (hy : getE gl E y = some (.d (.int kk n))) (hz : getE gl E z = some (.d d)) (hr : findM kk n es 0 = some none) : Step P gl E O o id none (.turn k (.map (es ++ [(.int kk n, d)]))) :=
  .skip fun c E' O' al nt a w σ hgl hs hid hag => by
    subst hgl
    have hmx : x ∈ o.op.operands := by rcases ho with ho | ho <;> simp [ho, Op.operands]
    have h1 := (hs.get (hag.get hmx hx)).toA.own_inv
    have hO' : O' k = some (.map es) := (hag.o x hmx _ hx k (by simp [AV.ids])).trans hO
    have h2 := rep_int (hs.get (hag.get (x := y) (by rcases ho with ho | ho <;> simp [ho, Op.operands]) hy))
    have h3 := (hs.get (hag.get (x := z) (by rcases ho with ho | ho <;> simp [ho, Op.operands]) hz)).d_inv
    obtain ⟨b, cl, ms, e1, hh, hl, hrep⟩ := map_at (hs.own k _ hO').2
    rw [e1] at h1
    obtain ⟨u1, u2⟩ := mapT_spec hm
    obtain ⟨r', q1, q2⟩ := find_run (ms := ms.toList) (by simpa using hl) (fun i e m he hm => hrep i e m he (by simpa using hm)) hr
    have hr' : r' = none := by cases r' with
      | none => rfl
      | some _ => exact q2.elim
    subst hr'
    have hfk : (Instr.findKey kt (.int kk n) ms.toList).run P w = .ok none w := by
      simp only [Instr.findKey, Sem.run_bind, run_underlying u2, Result.andThen_ok, q1, Sem.run_pure]
    have hck := run_checkKey (w := w) u2 false 9999 (.int kk n)
    have hobj : (getObj b).run P w = .ok (.map ms cl) w := by simp [getObj, Sem.run, hh]
    have hbk : blkOf (σ k) = some b := by rw [e1]; rfl
    have hlt : b < w.heap.size := (Array.getElem?_eq_some_iff.1 hh).1
    have hgo : Go1 w { w with heap := w.heap.setIfInBounds b (.map (ms.push ⟨.int kk n, a.eval z, cl⟩) (cl + 1)) } (blkOf (σ k)) := ⟨rfl, rfl, rfl, by simp, fun q _ hq => by
      have : b ≠ q := fun e => hq (by rw [hbk, e])
      simp [this]⟩
    have hturn := (hs.al_ext (al' := fun j => al j ∨ j = id) fun _ => .inl).turn (o' := .map (es ++ [(.int kk n, d)])) hO' hgo rfl (fun ok' hk τ hτ => by
      rw [e1]
      refine .map _ b (cl + 1) (ms.push ⟨.int kk n, a.eval z, cl⟩) (by simp [hlt]) (by simp [hl]) (fun i e m he hm => ?_)
      rw [Array.getElem?_push] at hm
      rw [List.getElem?_append] at he
      split at hm
      · rename_i hi
        cases hm
        rw [if_neg (by omega)] at he
        have : i - es.length = 0 := by omega
        rw [this] at he
        cases he
        exact ⟨.int _ _, h3.mono hk⟩
      · rename_i hi
        have hi' := (Array.getElem?_eq_some_iff.1 hm).1
        rw [if_pos (by omega)] at he
        exact ⟨(hrep i e m he hm).1.mono hk, (hrep i e m he hm).2.mono hk⟩)
    refine ⟨_, σ, ?_, hturn⟩
    have hset : (setObj b (.map (ms.push ⟨.int kk n, a.eval z, cl⟩) (cl + 1))).run P w = .ok () { w with heap := w.heap.setIfInBounds b (.map (ms.push ⟨.int kk n, a.eval z, cl⟩) (cl + 1)) } := by simp [setObj, Sem.run, hh]
    rcases ho with ho | ho <;> simp only [execOp, ho, h1, h2, Instr.mapUpdate, Sem.run_bind, run_underlying u1, Result.andThen_ok, hobj, hck, hfk, hset] <;> rfl
end
end Go.Proofs.Ytpibdbjlilpfiaa
/- Own rows that become parts of a new row; a struct of one row of its own handed out. -/
namespace Go.Proofs.Ytpibdbjlilpfiaa
set_option linter.all false
open Go Go.RowKit

/-- A part as data: own rows are written no more. -/
def asP (O : Nat → Option Obj1) : AV → Option AV
  | .d x => some (.d x)
  | .own k => match asD O (.own k) with
    | some d => some (.d d)
    | none => none
  | .agg cs => match asD O (.agg cs) with
    | some d => some (.d d)
    | none => none
  | .ref _ _ => none
  | .elt _ _ _ _ => none
  | .tup _ => none
def asPs (O : Nat → Option Obj1) : List (Nat × AV) → Option (List (Nat × AV) × List Nat)
  | [] => some ([], [])
  | (i, y) :: r => match asP O y, asPs O r with
    | some z, some (zs, ks) => some ((i, z) :: zs, y.ids ++ ks)
    | _, _ => none
theorem asPs_spec {O : Nat → Option Obj1} : ∀ {ys zs : List (Nat × AV)} {ks : List Nat}, asPs O ys = some (zs, ks) → zs.map (·.1) = ys.map (·.1) ∧ ∀ (i : Nat) z, zs[i]? = some z → ∃ y, ys[i]? = some y ∧ asP O y.2 = some z.2 ∧ ∀ k ∈ y.2.ids, k ∈ ks
  | [], zs, ks, h => by
    simp only [asPs, Option.some.injEq, Prod.mk.injEq] at h
    obtain ⟨rfl, rfl⟩ := h
    simp
  | (j, y) :: r, zs, ks, h => by
    simp only [asPs] at h
    split at h
    · rename_i z zs' ks' h1 h2
      simp only [Option.some.injEq, Prod.mk.injEq] at h
      obtain ⟨rfl, rfl⟩ := h
      obtain ⟨h3, h4⟩ := asPs_spec h2
      refine ⟨by simp [h3], fun i z' hz => ?_⟩
      cases i with
      | zero => simp at hz; subst hz; exact ⟨(j, y), rfl, h1, fun k hk => List.mem_append_left _ hk⟩
      | succ i =>
        obtain ⟨y', q1, q2, q3⟩ := h4 i z' (by simpa using hz)
        exact ⟨y', by simpa using q1, q2, fun k hk => List.mem_append_right _ (q3 k hk)⟩
    · cases h
theorem asP_row {O : Nat → Option Obj1} {x y : AV} (h : asP O x = some y) : (∃ d, y = .d d) ∧ ((∃ d, x = .d d) ∧ y = x ∨ ∃ d, asD O x = some d ∧ y = .d d) := by
  cases x <;> simp only [asP] at h
  case d d => cases h; exact ⟨⟨_, rfl⟩, .inl ⟨⟨_, rfl⟩, rfl⟩⟩
  all_goals first | cases h | skip
  all_goals split at h
  all_goals first | (cases h; done) | skip
  all_goals (rename_i d hd; cases h; exact ⟨⟨_, rfl⟩, .inr ⟨d, hd, rfl⟩⟩)
def newE (ks : List Nat) (id : Nat) (o : Obj1) : Eff := match ks with
  | [] => .new o
  | k :: ks => .pass (k :: ks) [(id, o)]
theorem newE_app {ks : List Nat} {id : Nat} {o : Obj1} {O : Nat → Option Obj1} : (newE ks id o).app id O = upd1 (dropO O ks) id (some o) := by
  cases ks with
  | nil =>
    funext j
    simp [newE, Eff.app, upd1, dropO]
  | cons k ks =>
    funext j
    simp only [newE, Eff.app, look, upd1, dropO]
    by_cases h : id = j
    · simp [h]
    · simp [h, Ne.symm h]

section
variable {P : Program} {E : Nat → Option AV} {O : Nat → Option Obj1} {gl : GL} {o : Oper} {id : Nat}

theorem st_buildSliceP {t te sz len : Nat} {i ie : TI} {parts : Array (Nat × Operand)} {ys zs : List (Nat × AV)} {ks : List Nat} {xs : List (List D)} (hi : i.ok P t) (hk : i.k = .slice te sz) (hie : ie.ok P te) (hsz : ie.size = sz) (hpos : 0 < sz) (ho : o.op = .buildSlice t len parts)
    (hy : getParts (getE gl E) parts.toList = some ys) (hp : asPs O ys = some (zs, ks)) (hf : dense sz 0 zs = some xs) (hl : xs.length = len) (hsmall : len * sz ≤ 16777216) : Step P gl E O o id (some (.own id)) (newE ks id (.row true te sz xs)) :=
  .run fun c E' O' al nt a w σ hgl hs hid hag => by
    subst hgl
    obtain ⟨a1, a2⟩ := asPs_spec hp
    have hmem : ∀ p ∈ parts.toList, p.2 ∈ o.op.operands := fun p hp => by simp only [ho, Op.operands, List.mem_toArray, List.mem_map]; exact ⟨p, hp, rfl⟩
    obtain ⟨g1, g2⟩ := getParts_len hy
    have hlen : zs.length = ys.length := by simpa using congrArg List.length a1
    have hown : ∀ (i : Nat) y, ys[i]? = some y → ∀ k ∈ y.2.ids, O' k = O k := fun i y hyi k hk => by
      have hpl : i < parts.toList.length := by
        have := congrArg List.length g1
        have := (List.getElem?_eq_some_iff.1 hyi).1
        simp at *; omega
      have hpi := List.getElem?_eq_getElem hpl
      exact hag.o _ (hmem _ (List.getElem_mem hpl)) y.2 (g2 i _ y hpi hyi) k hk
    have how : ownsOk O ys := fun p hpm k hk => by
      obtain ⟨i, hi, rfl⟩ := List.getElem_of_mem hpm
      have hz := List.getElem?_eq_getElem (show i < zs.length by omega)
      obtain ⟨y, q1, q2, q3⟩ := a2 i _ hz
      rw [List.getElem?_eq_getElem hi] at q1
      cases q1
      rcases (asP_row q2).2 with ⟨⟨d, hd⟩, _⟩ | ⟨d, hd, _⟩
      · rw [hd] at hk; cases hk
      · obtain ⟨t, s, r, h⟩ := asD_row hd k (by rw [hk]; simp [AV.ids])
        exact ⟨_, h⟩
    obtain ⟨p1, p2⟩ := parts_rep hs hag (parts := parts) hmem hy how
    have hds := hs.drops (ks := ks)
    have hkept : Kept w w (okk c O' σ w) (okk c (dropO O' ks) σ w) := fun b hb => ⟨⟨hb.1, hb.2.1, fun j o1 hj => hb.2.2 j o1 (dropO_some hj).1⟩, rfl⟩
    have p1' : (parts.map fun (i, x) => (i, a.eval x)).toList.map (·.1) = zs.map (·.1) := p1.trans a1.symm
    have p2' : ∀ (i : Nat) z v, zs[i]? = some z → (parts.map fun (i, x) => (i, a.eval x)).toList[i]? = some v → RepS al w (okk c (dropO O' ks) σ w) σ z.2 v.2 ∧ ∀ k, z.2 = .own k → v.2.oneCell' = true := fun i z v hz hv => by
      obtain ⟨y, q1, q2, q3⟩ := a2 i z hz
      have hr := (p2 i y v q1 hv).1
      obtain ⟨⟨d0, hd0⟩, hcase⟩ := asP_row q2
      refine ⟨?_, fun k hk => by rw [hd0] at hk; cases hk⟩
      rcases hcase with ⟨_, he⟩ | ⟨d, hd, he⟩
      · rw [he]; exact hr.mono hkept
      · rw [he]
        have hd' : asD O' y.2 = some d := by rw [asD_congr (hown i y q1)]; exact hd
        exact .of_d (asD_rep' hs hkept hd' (fun k hk b hb => by
          obtain ⟨t, s, r, h⟩ := asD_row hd' k hk
          exact hs.drops_ok h rfl (q3 k hk) b hb) hr.toA)
    have hb := hi.k
    rw [hk] at hb
    obtain ⟨j, z, j1, j2, j3, j4, j5, j6⟩ := hie.info
    obtain ⟨d1, d2, d3, d4, d5, d6, d7, d8⟩ := dense_rep hf p1' p2'
    generalize hvals : (parts.map fun (i, x) => (i, a.eval x)).toList = vals at *
    have hfl := flat_len d5
    have hcs : ((vals.map (·.2)).flatMap fun v => v.cells.toList).toArray.size = len * sz := by rw [List.size_toArray, d7, hfl, hl]
    have hrun : (Instr.buildSlice t len (parts.map fun (i, x) => (i, a.eval x))).run P w = .ok (.slice (some ⟨w.heap.size, 0, none⟩) len len) (w.alloc (.cells ((vals.map (·.2)).flatMap fun v => v.cells.toList).toArray te)) := by
      by_cases h0 : len = 0
      · subst h0
        have hx0 : xs = [] := List.eq_nil_of_length_eq_zero hl
        subst hx0
        have hv0 : vals = [] := List.eq_nil_of_length_eq_zero (by rw [d4, ← d3]; rfl)
        subst hv0
        have hpa : (parts.map fun (i, x) => (i, a.eval x)) = #[] := Array.toList_inj.1 hvals
        rw [hpa]
        simp [Instr.buildSlice, run_underlying hb.1, sizeOf, typeInfo, j1, Instr.fill, newRow, Array.range_zero']
      · refine run_buildSlice w t te len _ _ j z hb.1 j1 j4 (by rw [j2, hsz]; omega) (by rw [j2, hsz]; exact Nat.mul_ne_zero h0 (by omega)) ?_
        have hw := Go.Great.fill_whole hpos (vals.map (·.2)) ((Array.range (len * sz)).map (z.cells[· % z.cells.size]!)) d2 (by rw [List.length_map, d4, ← d3, hl]; simp)
        rw [← d1] at hw
        rw [hvals, j2, hsz]
        exact hw
    have hn := hds.new (id := id) (o := .row true te sz xs) (v := .slice (some ⟨w.heap.size, 0, none⟩) len len) (Go1.alloc w (.cells ((vals.map (·.2)).flatMap fun v => v.cells.toList).toArray te) none) hid
      (fun b hb => by simp [blkOf] at hb; omega)
      (fun ok' hkp => by
        have hmax : len ≤ maxLen := by
          have := Nat.le_mul_of_pos_right len hpos
          simp only [maxLen]; omega
        have hown := World.ownsRow_lit (base := 0) (e := te) (size := sz) w ((vals.map (·.2)).flatMap fun v => v.cells.toList).toArray len (Nat.zero_le _) hmax hcs
        exact row_mk (by rw [hl]; exact hown) hpos (by omega) d5 d6 (fun i c u hc hu => (d8 i c u hc hu).mono hkp))
    refine ⟨.slice (some ⟨w.heap.size, 0, none⟩) len len, _, _, ?_, by rw [newE_app]; exact hn, rep_own_new id (.inr rfl) (by simp [updσ])⟩
    simp only [execOp, ho, Sem.run_bind, hrun, Result.andThen_ok, Sem.run_pure]
end

/-- As 'PConR', but the row stands in a struct of nothing else. -/
structure PConW (P : Program) (gl : GL) (f : Nat) (args : List D) (te : TypeId) (sz : Nat) (xs : List (List D)) : Prop where
  fn : FnOk P f
  runs : ∀ (w : World) (ok : Nat → Prop) (vs : List Value), (∀ b, ok b → b < w.heap.size) → Glob gl w ok → vs.length = args.length →
    (∀ (i : Nat) x v, args[i]? = some x → vs[i]? = some v → Rep w ok x v) →
    Calls P f vs.toArray w fun e w' => ∃ v, e = .returned (.agg #[v]) ∧ Go1 w w' gl.tgt ∧ Glob gl w' (fun b => b < w'.heap.size ∧ (ok b ∨ w.heap.size ≤ b) ∧ blkOf v ≠ some b) ∧ (∀ b, blkOf v = some b → w.heap.size ≤ b) ∧ ∀ (al : Nat → Prop) (σ : Nat → Value), RepSO al w' (fun b => b < w'.heap.size ∧ (ok b ∨ w.heap.size ≤ b) ∧ blkOf v ≠ some b) σ (.row true te sz xs) v
theorem PConW.toP {P : Program} {gl : GL} {f : Nat} {args : List D} {te : TypeId} {sz : Nat} {xs : List (List D)} (h : PConW P gl f args te sz xs) : PCon P gl f args (.agg [.slice xs]) :=
  ⟨h.fn, fun w ok vs hok hgl hl hargs => Calls.mono (h.runs w ok vs hok hgl hl hargs) fun e w' ⟨v, he, hg, hm, hn, hr⟩ => by
    have h1 := hr (fun _ => True) fun _ => undef
    have h2 : Rep w' (fun b => b < w'.heap.size ∧ (ok b ∨ w.heap.size ≤ b)) (.slice xs) v := row_rep h1 (fun b hb => ⟨⟨hb.1, hb.2.1⟩, rfl⟩) fun b hb => ⟨h1.toO.lt b hb, .inr (hn b hb)⟩
    refine ⟨_, he, hg, Glob.upR' hm _ (fun M hM h => by
      obtain ⟨_, h4, h5⟩ := hgl.memo M hM
      rcases h.2 with h6 | h6
      · exact h5 h6
      · omega) (fun b q1 q2 _ => ⟨q1, q2⟩), .agg [.slice xs] [v] rfl (fun i c u hc hu => ?_) (fun u hu => ?_)⟩
    · cases i with
      | zero => simp at hc hu; subst hc; subst hu; exact h2
      | succ i => simp at hc
    · simp at hu; subst hu; exact h1.toO.one⟩

section
variable {P : Program} {E : Nat → Option AV} {O : Nat → Option Obj1} {gl : GL} {o : Oper} {id : Nat}
theorem st_callW {f : Nat} {x : Operand} {args : Array Operand} {ts : Array TypeId} {fs cs ds : List D} {ks : List Nat} {te : TypeId} {sz : Nat} {xs : List (List D)} (ho : o.op = .call { callee := .value x, args := args, argTypes := ts }) (hx : getE gl E x = some (.d (.fn f fs cs))) (hd : getAs (getE gl E) O args.toList = some (ds, ks))
    (hc : PConW P gl f (fs ++ ds ++ cs) te sz xs) : Step P gl E O o id (some (.agg [.own id])) (newE ks id (.row true te sz xs)) := by
  intro c E' O' al nt a w σ hgl hs hid hag K Q hK
  subst hgl
  have hops : o.op.operands = #[x] ++ args := by simp [ho, Op.operands, Call.operands]
  have h1 := (hs.get (hag.get (x := x) (by simp [hops]) hx)).d_inv
  obtain ⟨us, ws, hv, hu, hw, r1, r2⟩ := rep_fn_inv h1
  have hkept : Kept w w (okk c O' σ w) (okk c (dropO O' ks) σ w) := fun b hb => ⟨⟨hb.1, hb.2.1, fun j o1 hj => hb.2.2 j o1 (dropO_some hj).1⟩, rfl⟩
  obtain ⟨d1, d2⟩ := getAs_rep hs hag hkept (fun z hz => by rw [hops]; exact Array.mem_append.2 (.inr (Array.mem_toList_iff.1 hz))) hd (fun k hk ⟨_, _, _, hO⟩ => hs.drops_ok hO rfl hk)
  have r1' := fun i c v hc hv => (r1 i c v hc hv).mono hkept
  have r2' := fun i c v hc hv => (r2 i c v hc hv).mono hkept
  have hds := hs.drops (ks := ks)
  obtain ⟨fn, f1, f2, f3⟩ := hc.fn
  have hrun : (execOp a.eval o).run P w = .ok (.enter f (us ++ args.toList.map a.eval ++ ws).toArray) w := by
    have hm : us.toArray ++ args.map a.eval ++ ws.toArray = (us ++ args.toList.map a.eval ++ ws).toArray := by
      apply Array.toList_inj.1
      simp
    simp only [execOp, ho, resolve, hv, Deferred.ofValue, invoke, callFunc, Sem.run_bind, Sem.run_pure, Result.andThen_ok, run_program, f1, f2, f3, Bool.false_eq_true, if_false, hm]
  unfold Oper.wp
  rw [hrun]
  have hcall := hc.runs w (okk c (dropO O' ks) σ w) (us ++ args.toList.map a.eval ++ ws) (fun b hb => hb.1) hds.glob (by simp [hu, hw, d1]) (app_rep (by simp [hu, d1]) (app_rep hu r1' d2) r2')
  refine Calls.mono hcall fun e w' he => ?_
  obtain ⟨v, rfl, hg, hm, hnew, hr⟩ := he
  have hs' := hds.newR (id := id) hg (Glob.upR' hm) hid hnew (hr (fun _ => True) σ).toO
  rw [← newE_app] at hs'
  refine hK _ w' _ hs' fun y hy => ?_
  injection hy with hy
  subst hy
  intro τ hτ
  refine .agg [.own id] [v] rfl (fun i c u hc hu => ?_) (fun u hu => ?_)
  · cases i with
    | zero =>
      simp at hc hu
      subst hc; subst hu
      have : v = τ id := by rw [hτ id (.inr rfl)]; simp [updσ]
      rw [this]
      exact .own id
    | succ i => simp at hc
  · simp at hu; subst hu; exact (hr (fun _ => True) σ).toO.one
theorem st_callRP {f : Nat} {x : Operand} {args : Array Operand} {ts : Array TypeId} {fs cs ds : List D} {ks : List Nat} {te : TypeId} {sz : Nat} {xs : List (List D)} (ho : o.op = .call { callee := .value x, args := args, argTypes := ts }) (hx : getE gl E x = some (.d (.fn f fs cs))) (hd : getAs (getE gl E) O args.toList = some (ds, ks))
    (hc : PConR P gl f (fs ++ ds ++ cs) te sz xs) : Step P gl E O o id (some (.own id)) (newE ks id (.row true te sz xs)) := by
  intro c E' O' al nt a w σ hgl hs hid hag K Q hK
  subst hgl
  have hops : o.op.operands = #[x] ++ args := by simp [ho, Op.operands, Call.operands]
  have h1 := (hs.get (hag.get (x := x) (by simp [hops]) hx)).d_inv
  obtain ⟨us, ws, hv, hu, hw, r1, r2⟩ := rep_fn_inv h1
  have hkept : Kept w w (okk c O' σ w) (okk c (dropO O' ks) σ w) := fun b hb => ⟨⟨hb.1, hb.2.1, fun j o1 hj => hb.2.2 j o1 (dropO_some hj).1⟩, rfl⟩
  obtain ⟨d1, d2⟩ := getAs_rep hs hag hkept (fun z hz => by rw [hops]; exact Array.mem_append.2 (.inr (Array.mem_toList_iff.1 hz))) hd (fun k hk ⟨_, _, _, hO⟩ => hs.drops_ok hO rfl hk)
  have r1' := fun i c v hc hv => (r1 i c v hc hv).mono hkept
  have r2' := fun i c v hc hv => (r2 i c v hc hv).mono hkept
  have hds := hs.drops (ks := ks)
  obtain ⟨fn, f1, f2, f3⟩ := hc.fn
  have hrun : (execOp a.eval o).run P w = .ok (.enter f (us ++ args.toList.map a.eval ++ ws).toArray) w := by
    have hm : us.toArray ++ args.map a.eval ++ ws.toArray = (us ++ args.toList.map a.eval ++ ws).toArray := by
      apply Array.toList_inj.1
      simp
    simp only [execOp, ho, resolve, hv, Deferred.ofValue, invoke, callFunc, Sem.run_bind, Sem.run_pure, Result.andThen_ok, run_program, f1, f2, f3, Bool.false_eq_true, if_false, hm]
  unfold Oper.wp
  rw [hrun]
  have hcall := hc.runs w (okk c (dropO O' ks) σ w) (us ++ args.toList.map a.eval ++ ws) (fun b hb => hb.1) hds.glob (by simp [hu, hw, d1]) (app_rep (by simp [hu, d1]) (app_rep hu r1' d2) r2')
  refine Calls.mono hcall fun e w' he => ?_
  obtain ⟨v, rfl, hg, hm, hnew, hr⟩ := he
  have hs' := hds.newR (id := id) hg (Glob.upR' hm) hid hnew (hr (fun _ => True) σ).toO
  rw [← newE_app] at hs'
  refine hK _ w' _ hs' fun y hy => ?_
  injection hy with hy
  subst hy
  intro τ hτ
  have : v = τ id := by rw [hτ id (.inr rfl)]; simp [updσ]
  rw [this]
  exact .own id
end
end Go.Proofs.Ytpibdbjlilpfiaa

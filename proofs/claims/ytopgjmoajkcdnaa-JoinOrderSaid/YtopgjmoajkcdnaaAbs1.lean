/- Abstract data and what it says of the machine's memory. -/
import Derived.Calls
import Derived.Laws.OwnMore
import Derived.Below
import Derived.Orders
import Derived.Tactics
namespace Go.Proofs.Ytopgjmoajkcdnaa
set_option linter.all false
open Go Go.RowKit

/-- Pure data: what a value says, memory that nobody writes any more included. -/
inductive D where
  | int (k : IntKind) (n : Int)
  | bool (b : Bool)
  | str (s : ByteArray)
  | agg (cs : List D)
  | tup (cs : List D)
  | slice (xs : List (List D))
  | addr (cs : List D)
  | iface (t : TypeId) (x : D)
  | nils
  | nilif
  | nilp
  | fn (f : FuncId) (first caps : List D)
  | nilfn
  | anyb

/-- A value and memory say this datum; all blocks that it lies in are among 'ok'. -/
inductive Rep (w : World) (ok : Nat → Prop) : D → Value → Prop
  | int (k : IntKind) (n : Int) : Rep w ok (.int k n) (.int k n)
  | bool (b : Bool) : Rep w ok (.bool b) (.bool b)
  | str (s : ByteArray) (h : s.size ≤ maxLen) : Rep w ok (.str s) (.string s)
  | agg (cs : List D) (vs : List Value) (hl : vs.length = cs.length) (h : ∀ (i : Nat) c v, cs[i]? = some c → vs[i]? = some v → Rep w ok c v)
      (h1 : ∀ v ∈ vs, v.oneCell' = true) : Rep w ok (.agg cs) (.agg vs.toArray)
  | tup (cs : List D) (vs : List Value) (hl : vs.length = cs.length) (h : ∀ (i : Nat) c v, cs[i]? = some c → vs[i]? = some v → Rep w ok c v) :
      Rep w ok (.tup cs) (.tuple vs.toArray)
  | nils : Rep w ok .nils (.slice none 0 0)
  | nil : Rep w ok (.slice []) (.slice none 0 0)
  | empty (a : Addr) (cap : Nat) : Rep w ok (.slice []) (.slice (some a) 0 cap)
  | slice (xs : List (List D)) (b off cap sz : Nat) (f : Nat → Value) (hok : ok b) (hcap : xs.length ≤ cap) (hmax : xs.length ≤ maxLen) (hsz : ∀ x ∈ xs, x.length = sz)
      (hc : ∀ i, i < xs.flatten.length → w.cell? ⟨b, off + i, none⟩ = some (f i)) (h1 : ∀ i, (f i).oneCell' = true)
      (h : ∀ (i : Nat) c, xs.flatten[i]? = some c → Rep w ok c (f i)) : Rep w ok (.slice xs) (.slice (some ⟨b, off, none⟩) xs.length cap)
  | addr (cs : List D) (b off : Nat) (f : Nat → Value) (hok : ok b)
      (hc : ∀ i, i < cs.length → w.cell? ⟨b, off + i, none⟩ = some (f i)) (h1 : ∀ i, (f i).oneCell' = true)
      (h : ∀ (i : Nat) c, cs[i]? = some c → Rep w ok c (f i)) : Rep w ok (.addr cs) (.pointer (some ⟨b, off, none⟩))
  | iface (t : TypeId) (x : D) (v : Value) (h : Rep w ok x v) : Rep w ok (.iface t x) (.iface t v)
  | nilif : Rep w ok .nilif .nilIface
  | nilp : Rep w ok .nilp (.pointer none)
  | fn (f : FuncId) (first caps : List D) (fs cs : List Value) (hf : fs.length = first.length) (hc : cs.length = caps.length)
      (h1 : ∀ (i : Nat) c v, first[i]? = some c → fs[i]? = some v → Rep w ok c v) (h2 : ∀ (i : Nat) c v, caps[i]? = some c → cs[i]? = some v → Rep w ok c v) :
      Rep w ok (.fn f first caps) (.func (.func f) fs.toArray cs.toArray)
  | nilfn : Rep w ok .nilfn .nilFunc
  | anyb (b : Bool) : Rep w ok .anyb (.bool b)

/-- What is kept: the blocks of 'ok' are as they were, and still ok. -/
def Kept (w w' : World) (ok ok' : Nat → Prop) : Prop := ∀ b, ok b → ok' b ∧ w'.heap[b]? = w.heap[b]?

theorem Kept.refl (w : World) (ok : Nat → Prop) : Kept w w ok ok := fun _ h => ⟨h, rfl⟩
theorem Kept.trans {a b c : World} {x y z : Nat → Prop} (h : Kept a b x y) (k : Kept b c y z) : Kept a c x z := fun i hi =>
  let ⟨h1, h2⟩ := h i hi
  let ⟨k1, k2⟩ := k i h1
  ⟨k1, k2.trans h2⟩

theorem Rep.mono {w w' : World} {ok ok' : Nat → Prop} (hk : Kept w w' ok ok') {x : D} {v : Value} (h : Rep w ok x v) : Rep w' ok' x v := by
  induction h with
  | int k n => exact .int k n
  | bool b => exact .bool b
  | str s h => exact .str s h
  | agg cs vs hl _ h1 ih => exact .agg cs vs hl ih h1
  | tup cs vs hl _ ih => exact .tup cs vs hl ih
  | nils => exact .nils
  | nil => exact .nil
  | empty a cap => exact .empty a cap
  | slice xs b off cap sz f hok hcap hmax hsz hc h1 _ ih =>
    exact .slice xs b off cap sz f (hk b hok).1 hcap hmax hsz (fun i hi => (World.cell?_of_block (hk b hok).2).trans (hc i hi)) h1 ih
  | addr cs b off f hok hc h1 _ ih =>
    exact .addr cs b off f (hk b hok).1 (fun i hi => (World.cell?_of_block (hk b hok).2).trans (hc i hi)) h1 ih
  | iface t x v _ ih => exact .iface t x v ih
  | nilif => exact .nilif
  | nilp => exact .nilp
  | fn f first caps fs cs hf hc _ _ ih1 ih2 => exact .fn f first caps fs cs hf hc ih1 ih2
  | nilfn => exact .nilfn
  | anyb b => exact .anyb b

/-- What a frame's slot holds: a datum, an own row (its slice value), a pointer into an own block, a struct of such cells, a tuple. -/
inductive AV where
  | d (x : D)
  | own (k : Nat)
  | ref (k off : Nat)
  | elt (k sz j o : Nat)
  | agg (cs : List AV)
  | tup (cs : List AV)

def blkOf : Value → Option Nat
  | .pointer (some a) => some a.block
  | .slice (some a) _ _ => some a.block
  | .map (some r) => some r
  | _ => none

inductive RepA (w : World) (ok : Nat → Prop) (σ : Nat → Value) : AV → Value → Prop
  | d (x : D) (v : Value) (h : Rep w ok x v) : RepA w ok σ (.d x) v
  | own (k : Nat) : RepA w ok σ (.own k) (σ k)
  | ref (k off b : Nat) (h : blkOf (σ k) = some b) : RepA w ok σ (.ref k off) (.pointer (some ⟨b, off, none⟩))
  | elt (k sz j o b : Nat) (h : blkOf (σ k) = some b) : RepA w ok σ (.elt k sz j o) (.pointer (some ⟨b, j * sz + o, none⟩))
  | agg (cs : List AV) (vs : List Value) (hl : vs.length = cs.length) (h : ∀ (i : Nat) c v, cs[i]? = some c → vs[i]? = some v → RepA w ok σ c v)
      (h1 : ∀ v ∈ vs, v.oneCell' = true) : RepA w ok σ (.agg cs) (.agg vs.toArray)
  | tup (cs : List AV) (vs : List Value) (hl : vs.length = cs.length) (h : ∀ (i : Nat) c v, cs[i]? = some c → vs[i]? = some v → RepA w ok σ c v) :
      RepA w ok σ (.tup cs) (.tuple vs.toArray)

theorem RepA.mono {w w' : World} {ok ok' : Nat → Prop} {σ : Nat → Value} (hk : Kept w w' ok ok') {x : AV} {v : Value} (h : RepA w ok σ x v) : RepA w' ok' σ x v := by
  induction h with
  | d x v h => exact .d x v (h.mono hk)
  | own k => exact .own k
  | ref k off b h => exact .ref k off b h
  | elt k sz j o b h => exact .elt k sz j o b h
  | agg cs vs hl _ h1 ih => exact .agg cs vs hl ih h1
  | tup cs vs hl _ ih => exact .tup cs vs hl ih

/-- An own object: a block of cells (a variable); a row of elements of 'sz' cells. -/
inductive Obj1 where
  | box (fr : Bool) (cs : List AV)
  | row (fr : Bool) (t : TypeId) (sz : Nat) (xs : List (List D))

/-- Was it made in this call? -/
def Obj1.fr : Obj1 → Bool
  | .box f _ => f
  | .row f _ _ _ => f

inductive RepO (w : World) (ok : Nat → Prop) (σ : Nat → Value) : Obj1 → Value → Prop
  | box (fr : Bool) (cs : List AV) (b : Nat) (t : TypeId) (vs : List Value) (hb : w.heap[b]? = some (.cells vs.toArray t (0, 0))) (hl : vs.length = cs.length)
      (h1 : ∀ v ∈ vs, v.oneCell' = true) (h : ∀ (i : Nat) c v, cs[i]? = some c → vs[i]? = some v → RepA w ok σ c v) : RepO w ok σ (.box fr cs) (.pointer (some ⟨b, 0, none⟩))
  | row (fr : Bool) (t : TypeId) (sz : Nat) (xs : List (List D)) (v : Value) (vs : List Value) (ho : w.ownsRow 0 t sz v xs.length vs) (hpos : 0 < sz) (hmax : xs.length ≤ maxLen) (hsz : ∀ x ∈ xs, x.length = sz)
      (h1 : ∀ v ∈ vs, v.oneCell' = true) (h : ∀ (i : Nat) c v, xs.flatten[i]? = some c → vs[i]? = some v → Rep w ok c v) : RepO w ok σ (.row fr t sz xs) v

/-- An own object that is kept, and all that it leads to. -/
theorem RepO.mono {w w' : World} {ok ok' : Nat → Prop} {σ : Nat → Value} {o : Obj1} {v : Value} (hk : Kept w w' ok ok') (hb : ∀ b, blkOf v = some b → w'.heap[b]? = w.heap[b]?) (h : RepO w ok σ o v) : RepO w' ok' σ o v := by
  cases h with
  | box fr cs b t vs h0 hl h1 h => exact .box fr cs b t vs ((hb b rfl).trans h0) hl h1 (fun i c v hc hv => (h i c v hc hv).mono hk)
  | row fr t sz xs v vs ho hpos hmax hsz h1 h =>
    refine .row fr t sz xs v vs ⟨ho.1, ?_⟩ hpos hmax hsz h1 (fun i c v hc hv => (h i c v hc hv).mono hk)
    rcases ho.2 with hn | ⟨g, cap, cur, rfl, hg, hgg, rest⟩
    · exact .inl hn
    · exact .inr ⟨g, cap, cur, rfl, hg, (hb g rfl).trans hgg, rest⟩

theorem RepO.lt {w : World} {ok : Nat → Prop} {σ : Nat → Value} {o : Obj1} {v : Value} (h : RepO w ok σ o v) : ∀ b, blkOf v = some b → b < w.heap.size := by
  cases h with
  | box fr cs b t vs h0 hl h1 h =>
    intro b' hb
    simp only [blkOf, Option.some.injEq] at hb
    subst hb
    exact (Array.getElem?_eq_some_iff.1 h0).1
  | row fr t sz xs v vs ho hpos hmax hsz h1 h =>
    intro b hb
    rcases ho.2 with ⟨rfl, _⟩ | ⟨g, cap, cur, rfl, _, hgg, _⟩
    · simp [blkOf] at hb
    · simp only [blkOf, Option.some.injEq] at hb
      subst hb
      exact (Array.getElem?_eq_some_iff.1 hgg).1
end Go.Proofs.Ytopgjmoajkcdnaa

/- The table of types; loads and stores of what the abstract state says. -/
import Derived.Test.YtopgjmoajkcdnaaAbs2
import Derived.Laws.IdiomCopy
import Derived.Laws.Entries
import Derived.Laws.Cells
namespace Go.Proofs.Ytopgjmoajkcdnaa
set_option linter.all false
open Go Go.RowKit

inductive TK where
  | int (k : IntKind) | bool | str
  | struct (fs : List (Nat × Nat × Nat))       -- of each field: where it begins, its type, its cells
  | arr (n e sz : Nat)
  | slice (e sz : Nat)
  | ptr (e : Nat)
  | iface (n : Nat)
  | func
  | map (k e : Nat)
  | other

/-- A cell that '==' compares. -/
inductive Sc where
  | int | bool | str
  deriving DecidableEq

structure TI where
  k : TK
  size : Nat
  bytes : Nat
  zd : D
  eq : List Sc := []

def TK.agg : TK → Bool
  | .struct _ | .arr .. => true
  | _ => false

def FldsOk (P : Program) : List Field → List (Nat × Nat × Nat) → Prop
  | [], [] => True
  | f :: fs, (o, t, s) :: r => f.offset = o ∧ f.type = t ∧ (P.info? t).map (·.size) = some s ∧ s ≠ 0 ∧ FldsOk P fs r
  | _, _ => False

def TK.ok (P : Program) (t : Nat) : TK → Prop
  | .int k => P.underlying t = some (.int k)
  | .bool => P.underlying t = some .bool
  | .str => P.underlying t = some .string
  | .struct fs => ∃ l : Array Field, P.underlying t = some (.struct l) ∧ FldsOk P l.toList fs
  | .arr n e sz => P.underlying t = some (.array n e) ∧ (P.info? e).map (·.size) = some sz
  | .slice e sz => P.underlying t = some (.slice e) ∧ (P.info? e).map (·.size) = some sz
  | .ptr e => P.underlying t = some (.pointer e)
  | .iface n => ∃ ms : Array (String × TypeId), P.underlying t = some (.interface ms) ∧ ms.size = n
  | .func => ∃ a b c, P.underlying t = some (.func a b c)
  | .map k e => P.underlying t = some (.map k e)
  | .other => ∃ d, P.underlying t = some d ∧ (match d with | .struct _ | .array .. => False | _ => True)

/-- What holds whatever the world. -/
def RepC (x : D) (v : Value) : Prop := ∀ w ok, Rep w ok x v

def eqFlds (P : Program) (g : Nat → Option (List Sc)) : Nat → List Field → Option (List Sc)
  | _, [] => some []
  | off, f :: fs => if f.name ≠ "_" ∧ f.offset = off then (match g f.type, P.info? f.type with
    | some ks, some j => if j.size = ks.length ∧ ks ≠ [] then (match eqFlds P g (off + ks.length) fs with
      | some r => some (ks ++ r)
      | none => none) else none
    | _, _ => none) else none
def rep1 {α : Type} : Nat → List α → List α
  | 0, _ => []
  | n + 1, l => l ++ rep1 n l
/-- The cells of what '==' compares. -/
def eqShape (P : Program) : Nat → Nat → Option (List Sc)
  | 0, _ => none
  | d + 1, t => match P.underlying t with
    | some (.int _) => some [.int]
    | some .bool => some [.bool]
    | some .string => some [.str]
    | some (.struct fs) => if P.stoodInHeld t = true then none else eqFlds P (eqShape P d) 0 fs.toList
    | some (.array n e) => match eqShape P d e, P.info? e with
      | some ks, some j => if j.size = ks.length ∧ ks ≠ [] then some (rep1 n ks) else none
      | _, _ => none
    | _ => none

structure TI.ok (P : Program) (t : Nat) (i : TI) : Prop where
  k : i.k.ok P t
  eq : i.eq = [] ∨ (eqShape P 9 t = some i.eq ∧ P.eqGuardType P.depth t = false)
  info : ∃ j z, P.info? t = some j ∧ j.size = i.size ∧ j.bytes = i.bytes ∧ j.zero = some z ∧ RepC i.zd z ∧ z.cells.size = i.size

/-- The table says what the program says. -/
def TbOk (P : Program) (tb : Nat → Option TI) : Prop := ∀ t i, tb t = some i → i.ok P t

theorem TI.ok.isAgg {P : Program} {t : Nat} {i : TI} (h : i.ok P t) (w : World) : (isAgg t).run P w = .ok i.k.agg w := by
  have hk := h.k
  unfold Go.isAgg
  cases hi : i.k <;> rw [hi] at hk <;> simp only [TK.ok] at hk
  case struct fs => obtain ⟨l, h1, _⟩ := hk; simp [run_underlying h1, TK.agg]
  case iface => obtain ⟨l, h1, _⟩ := hk; simp [run_underlying h1, TK.agg]
  case func => obtain ⟨_, _, _, h1⟩ := hk; simp [run_underlying h1, TK.agg]
  case arr => simp [run_underlying hk.1, TK.agg]
  case slice => simp [run_underlying hk.1, TK.agg]
  case other =>
    obtain ⟨d, h1, h2⟩ := hk
    cases d <;> simp_all [run_underlying h1, TK.agg]
  all_goals simp [run_underlying hk, TK.agg]

theorem TI.ok.sizeOf {P : Program} {t : Nat} {i : TI} (h : i.ok P t) (w : World) : (Go.sizeOf t).run P w = .ok i.size w := by
  obtain ⟨j, z, h1, h2, _⟩ := h.info
  simp [Go.sizeOf, typeInfo, h1, h2]

theorem TI.ok.zero {P : Program} {t : Nat} {i : TI} (h : i.ok P t) (w : World) : ∃ z, (zeroValue t).run P w = .ok z w ∧ RepC i.zd z ∧ z.cells.size = i.size := by
  obtain ⟨j, z, h1, h2, h3, h4, h5, h6⟩ := h.info
  exact ⟨z, by simp [zeroValue, typeInfo, h1, h4], h5, h6⟩

theorem run_size_of_map {P : Program} {t s : Nat} (h : (P.info? t).map (·.size) = some s) (w : World) : (sizeOf t).run P w = .ok s w := by
  cases hi : P.info? t with
  | none => rw [hi] at h; cases h
  | some j => rw [hi] at h; injection h with h; simp [sizeOf, typeInfo, hi, h]

/-! ### Cells of a value -/
def D.cells : D → List D
  | .agg cs => cs
  | x => [x]
def AV.cells : AV → List AV
  | .agg cs => cs
  | .d x => x.cells.map .d
  | x => [x]
def D.isTup : D → Bool
  | .tup _ => true
  | _ => false
def AV.isTup : AV → Bool
  | .tup _ => true
  | .d x => x.isTup
  | _ => false

section
variable {al : Nat → Prop} {w : World} {ok : Nat → Prop} {σ : Nat → Value}

theorem Rep.one {x : D} {v : Value} (h : Rep w ok x v) (ht : x.isTup = false) (ha : ∀ cs, x ≠ .agg cs) : v.oneCell' = true := by
  cases h <;> simp_all [Value.oneCell', D.isTup]

/-- What the cells of a value say, one by one. -/
theorem Rep.cells {x : D} {v : Value} (h : Rep w ok x v) (ht : x.isTup = false) :
    ∃ vs : List Value, v.cells = vs.toArray ∧ vs.length = x.cells.length ∧ (∀ u ∈ vs, u.oneCell' = true) ∧ ∀ (i : Nat) c u, x.cells[i]? = some c → vs[i]? = some u → Rep w ok c u := by
  by_cases ha : ∃ cs, x = .agg cs
  · obtain ⟨cs, rfl⟩ := ha
    cases h with
    | agg _ vs hl h h1 => exact ⟨vs, rfl, hl, h1, h⟩
  · have ha' : ∀ cs, x ≠ .agg cs := fun cs e => ha ⟨cs, e⟩
    have h1 := h.one ht ha'
    have hx : x.cells = [x] := by cases x <;> first | rfl | exact absurd rfl (ha' _)
    have hv : v.cells = [v].toArray := by cases v <;> simp_all [Value.cells, Value.oneCell']
    refine ⟨[v], hv, by rw [hx]; rfl, by simpa using h1, fun i c u hc hu => ?_⟩
    rw [hx] at hc
    cases i with
    | zero => simp at hc hu; subst hc; subst hu; exact h
    | succ i => simp at hc

theorem RepA.cells {x : AV} {v : Value} (h : RepA w ok σ x v) (ht : x.isTup = false) (ho : ∀ k, x = .own k → v.oneCell' = true) :
    ∃ vs : List Value, v.cells = vs.toArray ∧ vs.length = x.cells.length ∧ (∀ u ∈ vs, u.oneCell' = true) ∧ ∀ (i : Nat) c u, x.cells[i]? = some c → vs[i]? = some u → RepA w ok σ c u := by
  cases h with
  | d x v h =>
    obtain ⟨vs, h1, h2, h3, h4⟩ := h.cells (by simpa [AV.isTup] using ht)
    refine ⟨vs, h1, by simpa [AV.cells] using h2, h3, fun i c u hc hu => ?_⟩
    simp only [AV.cells, List.getElem?_map, Option.map_eq_some_iff] at hc
    obtain ⟨c', h5, rfl⟩ := hc
    exact .d c' u (h4 i c' u h5 hu)
  | own k =>
    have h1 := ho k rfl
    have hv : (σ k).cells = [σ k].toArray := by cases hh : σ k <;> simp_all [Value.cells, Value.oneCell']
    refine ⟨[σ k], hv, rfl, by simpa using h1, fun i c u hc hu => ?_⟩
    cases i with
    | zero => simp [AV.cells] at hc hu; subst hc; subst hu; exact .own k
    | succ i => simp [AV.cells] at hc
  | ref k off b hb =>
    refine ⟨[.pointer (some ⟨b, off, none⟩)], rfl, rfl, by simp [Value.oneCell'], fun i c u hc hu => ?_⟩
    cases i with
    | zero => simp [AV.cells] at hc hu; subst hc; subst hu; exact .ref k off b hb
    | succ i => simp [AV.cells] at hc
  | elt k sz j o b hb =>
    refine ⟨[.pointer (some ⟨b, j * sz + o, none⟩)], rfl, rfl, by simp [Value.oneCell'], fun i c u hc hu => ?_⟩
    cases i with
    | zero => simp [AV.cells] at hc hu; subst hc; subst hu; exact .elt k sz j o b hb
    | succ i => simp [AV.cells] at hc
  | agg cs vs hl h h1 => exact ⟨vs, rfl, hl, h1, h⟩
  | tup cs vs hl h => simp [AV.isTup] at ht

/-- The cells do not hang on what isn't allotted. -/
theorem RepS.cells {x : AV} {v : Value} (h : RepS al w ok σ x v) (ht : x.isTup = false) (ho : ∀ k, x = .own k → v.oneCell' = true) :
    ∃ vs : List Value, v.cells = vs.toArray ∧ vs.length = x.cells.length ∧ (∀ u ∈ vs, u.oneCell' = true) ∧ ∀ (i : Nat) c u, x.cells[i]? = some c → vs[i]? = some u → RepS al w ok σ c u := by
  obtain ⟨vs, h1, h2, h3, h4⟩ := h.toA.cells ht ho
  refine ⟨vs, h1, h2, h3, fun i c u hc hu τ hτ => ?_⟩
  obtain ⟨vs', h1', _, _, h4'⟩ := (h τ hτ).cells ht ho
  rw [h1] at h1'
  have : vs = vs' := by injection h1'
  subst this
  exact h4' i c u hc hu
end

theorem RepO.one {w : World} {ok : Nat → Prop} {σ : Nat → Value} {o : Obj1} {v : Value} (h : RepO w ok σ o v) : v.oneCell' = true := by
  cases h with
  | box fr cs b t vs hb hl h1 h => rfl
  | row fr t sz xs v vs ho =>
    rcases ho.2 with ⟨rfl, _⟩ | ⟨g, cap, cur, rfl, _⟩ <;> rfl

/-- A new variable. -/
theorem run_newVar {P : Program} {t : TypeId} {v : Value} (w : World) : (newVar t v).run P w = .ok ⟨w.heap.size, 0, none⟩ (w.alloc (.cells v.cells t)) := by
  simp [newVar, newRow, run_newObj]

theorem box_new {al : Nat → Prop} {w : World} {ok ok' : Nat → Prop} {σ : Nat → Value} {t : TypeId} {x : AV} {v : Value} (fr : Bool) (h : RepS al w ok σ x v) (ht : x.isTup = false) (ho : ∀ k, x = .own k → v.oneCell' = true)
    (hk : Kept w (w.alloc (.cells v.cells t)) ok ok') : RepSO al (w.alloc (.cells v.cells t)) ok' σ (.box fr x.cells) (.pointer (some ⟨w.heap.size, 0, none⟩)) := by
  intro τ hτ
  obtain ⟨vs, h1, h2, h3, h4⟩ := h.cells ht ho
  refine .box fr x.cells w.heap.size t vs ?_ h2 h3 (fun i c u hc hu => (h4 i c u hc hu τ hτ).mono hk)
  rw [← h1]
  exact heap_alloc_new w _
/-! ### Loads -/
section
variable {P : Program} {t : Nat} {i : TI} {w : World}

theorem load_agg (hi : i.ok P t) (ha : i.k.agg = true) (b off : Nat) (vs : List Value) (hl : vs.length = i.size) (hc : ∀ (j : Nat) v, vs[j]? = some v → w.cell? ⟨b, off + j, none⟩ = some v) :
    (loadVar t ⟨b, off, none⟩).run P w = .ok (.agg vs.toArray) w := by
  have h1 := run_loadCells_list (P := P) (w := w) ⟨b, off, none⟩ vs (fun j v h => by rw [Addr.add_lit]; exact hc j v h)
  rw [hl] at h1
  simp [loadVar, hi.isAgg, hi.sizeOf, ha, h1]

theorem load_one (hi : i.ok P t) (ha : i.k.agg = false) (a : Addr) (v : Value) (hc : w.cell? a = some v) : (loadVar t a).run P w = .ok v w := by
  simp [loadVar, hi.isAgg, ha, hc]

/-- What is read out of cells: a struct, or one of them. -/
def readD (i : TI) (cs : List D) : Option D := if i.k.agg then (if i.size ≤ cs.length then some (.agg (cs.take i.size)) else none) else cs[0]?
def readA (i : TI) (cs : List AV) : Option AV := if i.k.agg then (if i.size ≤ cs.length then some (.agg (cs.take i.size)) else none) else cs[0]?

theorem run_readD {ok : Nat → Prop} (hi : i.ok P t) (b off : Nat) (cs : List D) (f : Nat → Value) (hc : ∀ j, j < cs.length → w.cell? ⟨b, off + j, none⟩ = some (f j)) (h1 : ∀ j, (f j).oneCell' = true)
    (h : ∀ (j : Nat) c, cs[j]? = some c → Rep w ok c (f j)) {x : D} (hx : readD i cs = some x) : ∃ v, (loadVar t ⟨b, off, none⟩).run P w = .ok v w ∧ Rep w ok x v := by
  unfold readD at hx
  cases ha : i.k.agg <;> rw [ha] at hx
  · simp only [Bool.false_eq_true, if_false] at hx
    have hlt : 0 < cs.length := (List.getElem?_eq_some_iff.1 hx).1
    have h2 := hc 0 hlt
    exact ⟨f 0, load_one hi ha _ _ (by simpa using h2), h 0 x hx⟩
  · simp only [if_true] at hx
    split at hx
    · rename_i hle
      injection hx with hx
      subst hx
      refine ⟨_, load_agg hi ha b off ((List.range i.size).map f) (by simp) (fun j v hj => ?_), .agg _ _ (by simp; omega) (fun j c v hj hv => ?_) (fun v hv => ?_)⟩
      · have hlt : j < i.size := by have := (List.getElem?_eq_some_iff.1 hj).1; simpa using this
        simp [hlt] at hj
        subst hj
        exact hc j (by omega)
      · have hlt : j < i.size := by have := (List.getElem?_eq_some_iff.1 hv).1; simpa using this
        simp [hlt] at hv
        subst hv
        rw [List.getElem?_take, if_pos hlt] at hj
        exact h j c hj
      · obtain ⟨j, _, rfl⟩ := List.mem_map.1 hv
        exact h1 j
    · cases hx

theorem run_readA {al ok : Nat → Prop} {σ : Nat → Value} (hi : i.ok P t) (b off : Nat) (cs : List AV) (vs : List Value) (hl : vs.length = cs.length) (hc : ∀ (j : Nat) v, vs[j]? = some v → w.cell? ⟨b, off + j, none⟩ = some v) (h1 : ∀ v ∈ vs, v.oneCell' = true)
    (h : ∀ (j : Nat) c v, cs[j]? = some c → vs[j]? = some v → RepS al w ok σ c v) {x : AV} (hx : readA i cs = some x) : ∃ v, (loadVar t ⟨b, off, none⟩).run P w = .ok v w ∧ RepS al w ok σ x v := by
  unfold readA at hx
  cases ha : i.k.agg <;> rw [ha] at hx
  · simp only [Bool.false_eq_true, if_false] at hx
    have hlt : 0 < cs.length := (List.getElem?_eq_some_iff.1 hx).1
    have h2 : vs[0]? = some vs[0] := List.getElem?_eq_getElem (by omega)
    exact ⟨vs[0], load_one hi ha _ _ (by simpa using hc 0 _ h2), h 0 x _ hx h2⟩
  · simp only [if_true] at hx
    split at hx
    · rename_i hle
      injection hx with hx
      subst hx
      refine ⟨_, load_agg hi ha b off (vs.take i.size) (by simp; omega) (fun j v hj => ?_), fun τ hτ => .agg _ _ (by simp; omega) (fun j c v hj hv => ?_) (fun v hv => ?_)⟩
      · rw [List.getElem?_take] at hj
        split at hj
        · exact hc j v hj
        · cases hj
      · rw [List.getElem?_take] at hj hv
        split at hj
        · rename_i hlt
          rw [if_pos hlt] at hv
          exact h j c v hj hv τ hτ
        · cases hj
      · exact h1 v (List.mem_of_mem_take hv)
    · cases hx
end
end Go.Proofs.Ytopgjmoajkcdnaa

/- One operation: what it does to the abstract state (values, variables, loads, stores). -/
import Derived.Test.YtopgjmoajkcdnaaAbs3
import Derived.Laws.StructEq
namespace Go.Proofs.Ytopgjmoajkcdnaa
set_option linter.all false
open Go Go.RowKit

inductive Eff where
  | none
  | new (o : Obj1)
  | turn (k : Nat) (o : Obj1)
  | swap (k : Nat) (o : Obj1)
  | drop (ks : List Nat)

def Eff.app (id : Nat) (O : Nat → Option Obj1) : Eff → Nat → Option Obj1
  | .none => O
  | .new o => upd1 O id (some o)
  | .turn k o => upd1 O k (some o)
  | .swap k o => upd1 (upd1 O k Option.none) id (some o)
  | .drop ks => fun j => if j ∈ ks then Option.none else O j

mutual
def AV.ids : AV → List Nat
  | .d _ => []
  | .own k => [k]
  | .ref k _ => [k]
  | .elt k _ _ _ => [k]
  | .agg cs => AV.idsL cs
  | .tup cs => AV.idsL cs
def AV.idsL : List AV → List Nat
  | [] => []
  | x :: r => x.ids ++ AV.idsL r
end

def constA : Value → Option AV
  | .int k n => some (.d (.int k n))
  | .bool b => some (.d (.bool b))
  | .string s => if s.size ≤ 1000 then some (.d (.str s)) else none
  | .nilIface => some (.d .nilif)
  | .nilFunc => some (.d .nilfn)
  | .pointer none => some (.d .nilp)
  | .slice none 0 0 => some (.d .nils)
  | _ => none

def getE (gl : List (Nat × List D)) (E : Nat → Option AV) : Operand → Option AV
  | .tmp t => E t
  | .const v => constA v
  | .func f => some (.d (.fn f [] []))
  | .global g => match look gl g with
    | some cs => some (.d (.addr cs))
    | none => none

section
variable {P : Program} {c : Ctx} {E : Nat → Option AV} {O : Nat → Option Obj1} {al : Nat → Prop} {nt : Nat} {a : Act} {w : World} {σ : Nat → Value}

theorem constA_rep {v : Value} {y : AV} (h : constA v = some y) {ok : Nat → Prop} : RepS al w ok σ y v := by
  unfold constA at h
  split at h <;> first | cases h | skip
  · exact .of_d (.int _ _)
  · exact .of_d (.bool _)
  · split at h
    · cases h
      exact .of_d (.str _ (by simp only [maxLen]; omega))
    · cases h
  · exact .of_d .nilif
  · exact .of_d .nilfn
  · exact .of_d .nilp
  · exact .of_d .nils

theorem SRep.get (h : SRep c E O al nt a w σ) {x : Operand} {y : AV} (hx : getE c.gl E x = some y) : RepS al w (okk c O σ w) σ y (a.eval x) := by
  cases x with
  | tmp t => exact h.env t y hx
  | const v => exact constA_rep hx
  | func f =>
    simp only [getE, Option.some.injEq] at hx
    subst hx
    exact .of_d (.fn f [] [] [] [] rfl rfl (fun i c v hc => by simp at hc) (fun i c v hc => by simp at hc))
  | global g =>
    simp only [getE] at hx
    split at hx
    · rename_i cs hg
      cases hx
      exact .of_d (h.glob g cs hg)
    · cases hx

theorem SRep.al_ext {al' : Nat → Prop} (h : SRep c E O al nt a w σ) (ha : ∀ k, al k → al' k) : SRep c E O al' nt a w σ :=
  ⟨fun t x hx => (h.env t x hx).ext ha (fun _ _ => rfl), fun k o hk => ⟨ha k (h.own k o hk).1, (h.own k o hk).2.ext ha (fun _ _ => rfl)⟩, h.dis, h.mine, h.frame, h.low, h.size, h.os, h.tape, h.output, fun k hk => ⟨ha k (h.ag k hk).1, (h.ag k hk).2⟩, h.defers, h.nt, h.glob⟩

/-- The operands, and the objects that they name, are as they were. -/
structure Agree (gl : List (Nat × List D)) (E E' : Nat → Option AV) (O O' : Nat → Option Obj1) (o : Oper) : Prop where
  e : ∀ x ∈ o.op.operands, getE gl E' x = getE gl E x
  o : ∀ x ∈ o.op.operands, ∀ y, getE gl E x = some y → ∀ k ∈ y.ids, O' k = O k

/-- What one operation does, wherever its operands are as here. -/
def Step (P : Program) (gl : List (Nat × List D)) (E : Nat → Option AV) (O : Nat → Option Obj1) (o : Oper) (id : Nat) (v : Option AV) (e : Eff) : Prop :=
  ∀ (c : Ctx) (E' : Nat → Option AV) (O' : Nat → Option Obj1) (al : Nat → Prop) (nt : Nat) (a : Act) (w : World) (σ : Nat → Value), c.gl = gl → SRep c E' O' al nt a w σ → ¬ al id → Agree gl E E' O O' o →
    ∀ (K : Act → World → Prop) (Q : Exit → Act → World → Prop),
      (∀ v' w' σ', SRep c E' (e.app id O') (fun k => al k ∨ k = id) nt a w' σ' →
        (∀ x, v = some x → RepS (fun k => al k ∨ k = id) w' (okk c (e.app id O') σ' w') σ' x v') → K (a.put o.dst v') w') → o.wp P a w K Q

variable {gl : List (Nat × List D)} {o : Oper} {id : Nat}

theorem Step.val {x : AV} (h : ∀ (c : Ctx) (E' : Nat → Option AV) (O' : Nat → Option Obj1) (al : Nat → Prop) (nt : Nat) (a : Act) (w : World) (σ : Nat → Value), c.gl = gl → SRep c E' O' al nt a w σ → Agree gl E E' O O' o →
    ∃ v', (execOp a.eval o).run P w = .ok (.value v') w ∧ RepS al w (okk c O' σ w) σ x v') : Step P gl E O o id (some x) .none := by
  intro c E' O' al nt a w σ hgl hs _ hag K Q hK
  obtain ⟨v', hr, hx⟩ := h c E' O' al nt a w σ hgl hs hag
  unfold Oper.wp
  rw [hr]
  refine hK v' w σ (hs.al_ext fun _ => .inl) fun y hy => ?_
  injection hy with hy
  subst hy
  exact hx.ext (fun _ => .inl) fun _ _ => rfl

theorem Agree.get {E E' : Nat → Option AV} {O O' : Nat → Option Obj1} (h : Agree gl E E' O O' o) {x : Operand} (hm : x ∈ o.op.operands) {y : AV} (hx : getE gl E x = some y) : getE gl E' x = some y := (h.e x hm).trans hx

theorem st_move {x : Operand} {v : AV} (ho : o.op = .move x) (hx : getE gl E x = some v) : Step P gl E O o id (some v) .none :=
  .val fun c E' O' al nt a w σ hgl hs hag => ⟨a.eval x, by simp [execOp, ho], hs.get (by rw [hgl]; exact hag.get (by simp [ho, Op.operands]) hx)⟩

theorem st_assign {x : Operand} {v : AV} (ho : o.op = .assign x) (hx : getE gl E x = some v) : Step P gl E O o id (some v) .none :=
  .val fun c E' O' al nt a w σ hgl hs hag => ⟨a.eval x, by simp [execOp, ho], hs.get (by rw [hgl]; exact hag.get (by simp [ho, Op.operands]) hx)⟩

theorem rep_bool {ok : Nat → Prop} {b : Bool} {v : Value} (h : RepS al w ok σ (.d (.bool b)) v) : v = .bool b := by cases h.d_inv; rfl
theorem rep_int {ok : Nat → Prop} {k : IntKind} {n : Int} {v : Value} (h : RepS al w ok σ (.d (.int k n)) v) : v = .int k n := by cases h.d_inv; rfl
theorem rep_str {ok : Nat → Prop} {s : ByteArray} {v : Value} (h : RepS al w ok σ (.d (.str s)) v) : v = .string s ∧ s.size ≤ maxLen := by cases h.d_inv with | str _ h2 => exact ⟨rfl, h2⟩

theorem st_pick {cd x y : Operand} {b : Bool} {v : AV} (ho : o.op = .pick cd x y) (hc : getE gl E cd = some (.d (.bool b))) (hx : getE gl E (if b then x else y) = some v) : Step P gl E O o id (some v) .none :=
  .val fun c E' O' al nt a w σ hgl hs hag => by
    subst hgl
    have h1 := rep_bool (hs.get (hag.get (by simp [ho, Op.operands]) hc))
    have h2 := hs.get (hag.get (x := if b then x else y) (by cases b <;> simp [ho, Op.operands]) hx)
    refine ⟨a.eval (if b then x else y), ?_, h2⟩
    simp only [execOp, ho, h1, asBool]
    cases b <;> simp

/-! ### Arithmetic -/
def intC (op : BinOp) (b : Int) : Prop := match op with
  | .quo => b ≠ 0
  | .rem => b ≠ 0
  | _ => True
def intV (op : BinOp) (k : IntKind) (a b : Int) : Option D :=
  match op with
  | .add => some (.int k (k.wrap (a + b)))
  | .sub => some (.int k (k.wrap (a - b)))
  | .mul => some (.int k (k.wrap (a * b)))
  | .quo => some (.int k (k.wrap (a.tdiv b)))
  | .rem => some (.int k (a.tmod b))
  | .and => some (.int k (k.wrap (BitVec.ofInt k.bits a &&& BitVec.ofInt k.bits b).toNat))
  | .or => some (.int k (k.wrap (BitVec.ofInt k.bits a ||| BitVec.ofInt k.bits b).toNat))
  | .xor => some (.int k (k.wrap (BitVec.ofInt k.bits a ^^^ BitVec.ofInt k.bits b).toNat))
  | .andNot => some (.int k (k.wrap (BitVec.ofInt k.bits a &&& ~~~ BitVec.ofInt k.bits b).toNat))
  | .eql => some (.bool (decide (a = b)))
  | .neq => some (.bool (decide (a ≠ b)))
  | .lss => some (.bool (decide (a < b)))
  | .leq => some (.bool (decide (a ≤ b)))
  | .gtr => some (.bool (decide (b < a)))
  | .geq => some (.bool (decide (b ≤ a)))
  | _ => none

def shiftV (op : BinOp) (k : IntKind) (a b : Int) : Option D :=
  match op with
  | .shl => some (.int k (k.wrap (a * 2 ^ min b.toNat k.bits)))
  | .shr => some (.int k (a.fdiv (2 ^ min b.toNat k.bits)))
  | _ => none

def strC (op : BinOp) (s t : ByteArray) : Prop := match op with
  | .add => s.size + t.size ≤ 9223372036854775807
  | _ => True
def strV (op : BinOp) (s t : ByteArray) : Option D :=
  match op with
  | .eql => some (.bool (decide (s = t)))
  | .neq => some (.bool (decide (s ≠ t)))
  | .add => some (.str (s ++ t))
  | .lss => some (.bool (Op.bytesLess s.toList t.toList))
  | _ => none

theorem toList_inj {s t : ByteArray} : (s.toList == t.toList) = decide (s = t) := by
  rw [ByteArray.toList_eq, ByteArray.toList_eq, Bool.eq_iff_iff]
  simp only [beq_iff_eq, decide_eq_true_eq]
  constructor
  · intro h
    obtain ⟨⟨s⟩⟩ := s
    obtain ⟨⟨t⟩⟩ := t
    simp at h
    rw [h]
  · rintro rfl; rfl

theorem eqGuard_int (op : BinOp) (t : TypeId) (x y : Operand) (k k' : IntKind) (a b : Int) (w : World) : (eqGuard op t x y (.int k a) (.int k' b)).run P w = .ok () w := by
  unfold eqGuard; split <;> simp
theorem eqGuard_str (op : BinOp) (t : TypeId) (x y : Operand) (a b : ByteArray) (w : World) : (eqGuard op t x y (.string a) (.string b)).run P w = .ok () w := by
  unfold eqGuard; split <;> simp
theorem eqGuard_bool (op : BinOp) (t : TypeId) (x y : Operand) (a b : Bool) (w : World) : (eqGuard op t x y (.bool a) (.bool b)).run P w = .ok () w := by
  unfold eqGuard; split <;> simp

theorem int_run {op : BinOp} {t : TypeId} {k : IntKind} {a b : Int} {z : D} (hc : intC op b) (h : intV op k a b = some z) (w : World) : ∃ v, (binOp op t (.int k a) (.int k b)).run P w = .ok v w ∧ RepC z v := by
  cases op <;> simp only [intV] at h <;> first | cases h | skip
  case quo => exact ⟨_, by simp [binOp, Op.intDiv, show b ≠ 0 from hc], fun _ _ => .int _ _⟩
  case rem => exact ⟨_, by simp [binOp, Op.intDiv, show b ≠ 0 from hc], fun _ _ => .int _ _⟩
  case eql => exact ⟨.bool (decide (a = b)), by simp [binOp, Op.intCmp]; rfl, fun _ _ => .bool _⟩
  case neq => exact ⟨.bool (decide (a ≠ b)), by by_cases hab : a = b <;> simp [binOp, Op.intCmp, bne, hab], fun _ _ => .bool _⟩
  case lss => exact ⟨.bool (decide (a < b)), by simp [binOp, Op.intCmp], fun _ _ => .bool _⟩
  case leq => exact ⟨.bool (decide (a ≤ b)), by simp [binOp, Op.intCmp], fun _ _ => .bool _⟩
  case gtr => exact ⟨.bool (decide (b < a)), by simp [binOp, Op.intCmp], fun _ _ => .bool _⟩
  case geq => exact ⟨.bool (decide (b ≤ a)), by simp [binOp, Op.intCmp], fun _ _ => .bool _⟩
  all_goals exact ⟨_, by simp [binOp, Op.intArith, Op.intBits], fun _ _ => .int _ _⟩

theorem shift_run {op : BinOp} {t : TypeId} {k k' : IntKind} {a b : Int} {z : D} (hc : 0 ≤ b) (h : shiftV op k a b = some z) (w : World) : ∃ v, (binOp op t (.int k a) (.int k' b)).run P w = .ok v w ∧ RepC z v := by
  cases op <;> simp only [shiftV] at h <;> first | cases h | skip
  all_goals exact ⟨_, by simp [binOp, Op.shift, Int.not_lt.2 hc], fun _ _ => .int _ _⟩

theorem str_run {op : BinOp} {t : TypeId} {a b : ByteArray} {z : D} (hc : strC op a b) (h : strV op a b = some z) (w : World) : ∃ v, (binOp op t (.string a) (.string b)).run P w = .ok v w ∧ RepC z v := by
  cases op <;> simp only [strV] at h <;> first | cases h | skip
  case eql => exact ⟨.bool (decide (a = b)), by simp [binOp, Op.stringOp, toList_inj], fun _ _ => .bool _⟩
  case neq => exact ⟨.bool (decide (a ≠ b)), by simp [binOp, Op.stringOp, toList_inj], fun _ _ => .bool _⟩
  case lss => exact ⟨.bool (Op.bytesLess a.toList b.toList), by simp [binOp, Op.stringOp], fun _ _ => .bool _⟩
  case add =>
    have hc' : a.size + b.size ≤ 9223372036854775807 := hc
    refine ⟨.string (a ++ b), ?_, fun _ _ => .str _ ?_⟩
    · have hm : IntKind.i64.max = 9223372036854775807 := by decide
      have h1 : ¬ ((a.size + b.size : Nat) : Int) > 9223372036854775807 := by omega
      simp only [binOp, Op.stringOp, hm, if_neg h1]
      rfl
    · rw [ByteArray.size_append]; simp only [maxLen]; omega
end
end Go.Proofs.Ytopgjmoajkcdnaa

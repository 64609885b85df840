/- One operation: operators, conversions, cuts, stores into rows. -/
import Derived.Test.YtopgjmoajkcdnaaAbs10
import Derived.Laws.BytesString
namespace Go.Proofs.Ytopgjmoajkcdnaa
set_option linter.all false
open Go Go.RowKit

section
variable {P : Program} {E : Nat → Option AV} {O : Nat → Option Obj1} {gl : List (Nat × List D)} {o : Oper} {id : Nat}

theorem st_bin_int {op : BinOp} {t ty : TypeId} {x y : Operand} {k : IntKind} {m n : Int} {z : D} (ho : o.op = .binOp op t x y ty) (hx : getE gl E x = some (.d (.int k m))) (hy : getE gl E y = some (.d (.int k n))) (hc : intC op n) (h : intV op k m n = some z) :
    Step P gl E O o id (some (.d z)) .none :=
  .val fun c E' O' al nt a w σ hgl hs hag => by
    subst hgl
    have h1 := rep_int (hs.get (hag.get (x := x) (by simp [ho, Op.operands]) hx))
    have h2 := rep_int (hs.get (hag.get (x := y) (by simp [ho, Op.operands]) hy))
    obtain ⟨v, hrun, hr⟩ := int_run (P := P) (t := t) hc h w
    exact ⟨v, by simp [execOp, ho, h1, h2, eqGuard_int, hrun], .of_d (hr _ _)⟩

theorem st_bin_shift {op : BinOp} {t ty : TypeId} {x y : Operand} {k k' : IntKind} {m n : Int} {z : D} (ho : o.op = .binOp op t x y ty) (hx : getE gl E x = some (.d (.int k m))) (hy : getE gl E y = some (.d (.int k' n))) (hc : 0 ≤ n) (h : shiftV op k m n = some z) :
    Step P gl E O o id (some (.d z)) .none :=
  .val fun c E' O' al nt a w σ hgl hs hag => by
    subst hgl
    have h1 := rep_int (hs.get (hag.get (x := x) (by simp [ho, Op.operands]) hx))
    have h2 := rep_int (hs.get (hag.get (x := y) (by simp [ho, Op.operands]) hy))
    obtain ⟨v, hrun, hr⟩ := shift_run (P := P) (t := t) (k' := k') hc h w
    exact ⟨v, by simp [execOp, ho, h1, h2, eqGuard_int, hrun], .of_d (hr _ _)⟩

theorem st_bin_str {op : BinOp} {t ty : TypeId} {x y : Operand} {m n : ByteArray} {z : D} (ho : o.op = .binOp op t x y ty) (hx : getE gl E x = some (.d (.str m))) (hy : getE gl E y = some (.d (.str n))) (hc : strC op m n) (h : strV op m n = some z) :
    Step P gl E O o id (some (.d z)) .none :=
  .val fun c E' O' al nt a w σ hgl hs hag => by
    subst hgl
    obtain ⟨h1, _⟩ := rep_str (hs.get (hag.get (x := x) (by simp [ho, Op.operands]) hx))
    obtain ⟨h2, _⟩ := rep_str (hs.get (hag.get (x := y) (by simp [ho, Op.operands]) hy))
    obtain ⟨v, hrun, hr⟩ := str_run (P := P) (t := t) hc h w
    exact ⟨v, by simp [execOp, ho, h1, h2, eqGuard_str, hrun], .of_d (hr _ _)⟩

def boolV (op : BinOp) (a b : Bool) : Option D := match op with
  | .eql => some (.bool (a == b))
  | .neq => some (.bool (!(a == b)))
  | _ => none

theorem st_bin_bool {op : BinOp} {t : Nat} {ty : TypeId} {i : TI} {x y : Operand} {m n : Bool} {z : D} (hi : i.ok P t) (hk : i.k = .bool) (ho : o.op = .binOp op t x y ty) (hx : getE gl E x = some (.d (.bool m))) (hy : getE gl E y = some (.d (.bool n))) (h : boolV op m n = some z) :
    Step P gl E O o id (some (.d z)) .none :=
  .val fun c E' O' al nt a w σ hgl hs hag => by
    subst hgl
    have h1 := rep_bool (hs.get (hag.get (x := x) (by simp [ho, Op.operands]) hx))
    have h2 := rep_bool (hs.get (hag.get (x := y) (by simp [ho, Op.operands]) hy))
    have hb := hi.k
    rw [hk] at hb
    have he : (Op.equal t (.bool m) (.bool n)).run P w = .ok (m == n) w := run_equalIn_bool' w 9999 t m n hb
    cases op <;> simp only [boolV] at h <;> first | cases h | skip
    · exact ⟨.bool (m == n), by simp [execOp, ho, h1, h2, eqGuard_bool, binOp, he], .of_d (.bool _)⟩
    · exact ⟨.bool (!(m == n)), by simp [execOp, ho, h1, h2, eqGuard_bool, binOp, he], .of_d (.bool _)⟩

theorem st_not {t : TypeId} {x : Operand} {b : Bool} (ho : o.op = .unOp .not t x) (hx : getE gl E x = some (.d (.bool b))) : Step P gl E O o id (some (.d (.bool (!b)))) .none :=
  .val fun c E' O' al nt a w σ hgl hs hag => by
    subst hgl
    have h1 := rep_bool (hs.get (hag.get (x := x) (by simp [ho, Op.operands]) hx))
    exact ⟨.bool (!b), by simp [execOp, ho, h1, Op.unary], .of_d (.bool _)⟩

theorem st_neg {t : TypeId} {x : Operand} {k : IntKind} {n : Int} (ho : o.op = .unOp .neg t x) (hx : getE gl E x = some (.d (.int k n))) : Step P gl E O o id (some (.d (.int k (k.wrap (0 - n))))) .none :=
  .val fun c E' O' al nt a w σ hgl hs hag => by
    subst hgl
    have h1 := rep_int (hs.get (hag.get (x := x) (by simp [ho, Op.operands]) hx))
    exact ⟨.int k (k.wrap (0 - n)), by simp [execOp, ho, h1, Op.unary, Op.intArith], .of_d (.int _ _)⟩

theorem st_conv_int {s t : Nat} {i j : TI} {x : Operand} {k k' : IntKind} {n : Int} (hi : i.ok P t) (hk : i.k = .int k') (hj : j.ok P s) (hjk : ∃ k'', j.k = .int k'') (ho : o.op = .convert s t x) (hx : getE gl E x = some (.d (.int k n))) : Step P gl E O o id (some (.d (.int k' (k'.wrap n)))) .none :=
  .val fun c E' O' al nt a w σ hgl hs hag => by
    subst hgl
    have h1 := rep_int (hs.get (hag.get (x := x) (by simp [ho, Op.operands]) hx))
    have hb := hi.k
    rw [hk] at hb
    obtain ⟨k'', hk''⟩ := hjk
    have hc := hj.k
    rw [hk''] at hc
    exact ⟨.int k' (k'.wrap n), by simp [execOp, ho, h1, convert, run_underlying hb, run_underlying hc, Conv.intToInt], .of_d (.int _ _)⟩

theorem st_nilCheck {x : Operand} {y : AV} (ho : o.op = .nilCheck x) (hx : getE gl E x = some y) (hy : (∃ k off, y = .ref k off) ∨ (∃ k sz j q, y = .elt k sz j q) ∨ ∃ cs, y = .d (.addr cs)) : Step P gl E O o id (some y) .none :=
  .val fun c E' O' al nt a w σ hgl hs hag => by
    subst hgl
    have h1 := hs.get (hag.get (x := x) (by simp [ho, Op.operands]) hx)
    have h2 : ∃ ad, a.eval x = .pointer (some ad) := by
      rcases hy with ⟨k, off, rfl⟩ | ⟨k, sz, j, q, rfl⟩ | ⟨cs, rfl⟩
      · obtain ⟨b, _, h⟩ := h1.toA.ref_inv; exact ⟨_, h⟩
      · obtain ⟨b, _, h⟩ := h1.toA.elt_inv; exact ⟨_, h⟩
      · obtain ⟨b, off, h⟩ := rep_addr_inv h1.d_inv; exact ⟨_, h⟩
    obtain ⟨ad, had⟩ := h2
    exact ⟨a.eval x, by simp [execOp, ho, had], h1⟩

theorem st_nilCheck_fn {x : Operand} {f : FuncId} {fs cs : List D} (ho : o.op = .nilCheck x) (hx : getE gl E x = some (.d (.fn f fs cs))) : Step P gl E O o id (some (.d (.fn f fs cs))) .none :=
  .val fun c E' O' al nt a w σ hgl hs hag => by
    subst hgl
    have h1 := hs.get (hag.get (x := x) (by simp [ho, Op.operands]) hx)
    have h2 : ∃ u v, a.eval x = .func (.func f) u v := by
      have h3 := h1.d_inv
      generalize a.eval x = u at h3 ⊢
      cases h3
      exact ⟨_, _, rfl⟩
    obtain ⟨u, v, had⟩ := h2
    exact ⟨a.eval x, by simp [execOp, ho, had], h1⟩

/-! ### Cuts -/
theorem rep_cut {w : World} {ok : Nat → Prop} {xs : List (List D)} {A : Option Addr} {n cap sz lo hi : Nat} (h : Rep w ok (.slice xs) (.slice A n cap)) (hsz : ∀ e ∈ xs, e.length = sz) (h1 : lo ≤ hi) (h2 : hi ≤ xs.length) :
    n = xs.length ∧ n ≤ cap ∧ Rep w ok (.slice ((xs.drop lo).take (hi - lo))) (.slice (if cap = lo then A else A.map (·.add (lo * sz))) (hi - lo) (cap - lo)) := by
  generalize hv : Value.slice A n cap = v at h
  cases h with
  | nil =>
    injection hv with e1 e2 e3
    subst e1; subst e2; subst e3
    simp at h2
    subst h2
    have h3 : lo = 0 := by omega
    subst h3
    exact ⟨rfl, Nat.le_refl _, by simpa using Rep.nil⟩
  | empty ad cp =>
    injection hv with e1 e2 e3
    subst e1; subst e2; subst e3
    simp at h2
    subst h2
    have h3 : lo = 0 := by omega
    subst h3
    refine ⟨rfl, Nat.zero_le _, ?_⟩
    have : (if cap = 0 then some ad else (some ad : Option Addr).map (·.add (0 * sz))) = some ad := by
      split
      · rfl
      · simp [Addr.add]
    rw [this]
    simpa using Rep.empty ad cap
  | slice _ b off cp sz' f hok hcap hmax hsz' hc h1' h =>
    injection hv with e1 e2 e3
    subst e1; subst e2; subst e3
    refine ⟨rfl, hcap, ?_⟩
    have hlen : ((xs.drop lo).take (hi - lo)).length = hi - lo := by rw [List.length_take, List.length_drop]; omega
    by_cases hz : cap = lo
    · subst hz
      have : hi - cap = 0 := by omega
      rw [this]
      simpa using Rep.empty ⟨b, off, none⟩ 0
    · rw [if_neg hz]
      simp only [Option.map_some, Addr.add_lit]
      have hsub : ∀ e ∈ (xs.drop lo).take (hi - lo), e.length = sz := fun e he => hsz e (List.mem_of_mem_drop (List.mem_of_mem_take he))
      have hflat : ∀ i, i < ((xs.drop lo).take (hi - lo)).flatten.length → ((xs.drop lo).take (hi - lo)).flatten[i]? = xs.flatten[lo * sz + i]? := fun i hi' => by
        have e1 : xs = xs.take lo ++ ((xs.drop lo).take (hi - lo) ++ (xs.drop lo).drop (hi - lo)) := by rw [List.take_append_drop, List.take_append_drop]
        have e2 : (xs.take lo).flatten.length = lo * sz := by
          rw [flat_len (sz := sz) fun e he => hsz e (List.mem_of_mem_take he), List.length_take]
          congr 1
          omega
        conv => rhs; rw [e1, List.flatten_append, List.flatten_append]
        rw [List.getElem?_append_right (by omega), e2, Nat.add_sub_cancel_left, List.getElem?_append_left hi']
      have hle : lo * sz + ((xs.drop lo).take (hi - lo)).flatten.length ≤ xs.flatten.length := by
        rw [flat_len hsub, flat_len hsz, hlen, ← Nat.add_mul]
        exact Nat.mul_le_mul_right _ (by omega)
      have := Rep.slice (w := w) (ok := ok) ((xs.drop lo).take (hi - lo)) b (off + lo * sz) (cap - lo) sz (fun i => f (lo * sz + i)) hok (by rw [hlen]; omega) (by rw [hlen]; omega) hsub
        (fun i hi' => by rw [Nat.add_assoc]; exact hc _ (by omega)) (fun i => h1' _) (fun i c hc' => by
          have hlt := (List.getElem?_eq_some_iff.1 hc').1
          exact h _ c ((hflat i hlt).symm.trans hc'))
      rw [hlen] at this
      exact this

/-- The bounds of a cut. -/
inductive CutB (gl : List (Nat × List D)) (E : Nat → Option AV) (n : Nat) : Option Operand → Option Operand → Nat → Nat → Prop
  | all : CutB gl E n none none 0 n
  | lo (x : Operand) (k : IntKind) (l : Int) (hx : getE gl E x = some (.d (.int k l))) (h0 : 0 ≤ l) (h1 : l ≤ n) : CutB gl E n (some x) none l.toNat n
  | hi (y : Operand) (k : IntKind) (h : Int) (hy : getE gl E y = some (.d (.int k h))) (h0 : 0 ≤ h) (h1 : h ≤ n) : CutB gl E n none (some y) 0 h.toNat
  | both (x y : Operand) (k k' : IntKind) (l h : Int) (hx : getE gl E x = some (.d (.int k l))) (hy : getE gl E y = some (.d (.int k' h))) (h0 : 0 ≤ l) (h1 : l ≤ h) (h2 : h ≤ n) : CutB gl E n (some x) (some y) l.toNat h.toNat

theorem CutB.le {E : Nat → Option AV} {n : Nat} {x y : Option Operand} {l h : Nat} (hb : CutB gl E n x y l h) : l ≤ h ∧ h ≤ n := by
  cases hb <;> omega

theorem cut_run {c : Ctx} {E' : Nat → Option AV} {O' : Nat → Option Obj1} {al : Nat → Prop} {nt : Nat} {a : Act} {w : World} {σ : Nat → Value} (hs : SRep c E' O' al nt a w σ) (hag : Agree c.gl E E' O O' o) {n cap : Nat} {x y : Option Operand} {l h : Nat} (hb : CutB c.gl E n x y l h)
    (hm : ∀ z, (x = some z ∨ y = some z) → z ∈ o.op.operands) (hcap : n ≤ cap) : (Instr.sliceBounds true n cap (x.map a.eval) (y.map a.eval) none).run P w = .ok (l, h, cap) w ∧ (Instr.sliceBounds false n n (x.map a.eval) (y.map a.eval) none).run P w = .ok (l, h, n) w := by
  cases hb with
  | all => simp [Instr.sliceBounds]
  | lo x k l hx h0 h1 =>
    have e := rep_int (hs.get (hag.get (hm x (.inl rfl)) hx))
    simp [Instr.sliceBounds, e, run_sliceBound w k l n .sliceB h0 h1]
  | hi y k h hy h0 h1 =>
    have e := rep_int (hs.get (hag.get (hm y (.inr rfl)) hy))
    simp [Instr.sliceBounds, e, run_sliceBound w k h cap .sliceAcap h0 (by omega), run_sliceBound w k h n .sliceAlen h0 h1]
  | both x y k k' l h hx hy h0 h1 h2 =>
    have e1 := rep_int (hs.get (hag.get (hm x (.inl rfl)) hx))
    have e2 := rep_int (hs.get (hag.get (hm y (.inr rfl)) hy))
    simp [Instr.sliceBounds, e1, e2, run_sliceBound w k' h cap .sliceAcap (by omega) (by omega), run_sliceBound w k' h n .sliceAlen (by omega) h2, run_sliceBound w k l h.toNat .sliceB h0 (by omega)]

theorem st_cut {t te sz l h : Nat} {i : TI} {x : Operand} {lo hi : Option Operand} {xs : List (List D)} (hi' : i.ok P t) (hk : i.k = .slice te sz) (ho : o.op = .slice t x lo hi none) (hx : getE gl E x = some (.d (.slice xs))) (hsz : ∀ e ∈ xs, e.length = sz) (hb : CutB gl E xs.length lo hi l h) :
    Step P gl E O o id (some (.d (.slice ((xs.drop l).take (h - l))))) .none :=
  .val fun c E' O' al nt a w σ hgl hs hag => by
    subst hgl
    have h1 := (hs.get (hag.get (x := x) (by simp [ho, Op.operands]) hx)).d_inv
    have hbk := hi'.k
    rw [hk] at hbk
    obtain ⟨A, n, cap, hv⟩ : ∃ A n cap, a.eval x = .slice A n cap := by
      generalize a.eval x = v at h1
      cases h1 <;> exact ⟨_, _, _, rfl⟩
    rw [hv] at h1
    obtain ⟨hl1, hl2⟩ := hb.le
    obtain ⟨e1, e2, e3⟩ := rep_cut h1 hsz hl1 hl2
    subst e1
    have hr := (cut_run (P := P) hs hag hb (fun z hz => by
      simp only [ho, Op.operands]
      rcases hz with rfl | rfl <;> simp) e2).1
    refine ⟨_, ?_, .of_d e3⟩
    simp [execOp, ho, hv, Instr.sliceAt, Instr.slice, run_underlying hbk.1, hr, run_size_of_map hbk.2]

theorem st_cut_str {t l h : Nat} {i : TI} {x : Operand} {lo hi : Option Operand} {s : ByteArray} (hi' : i.ok P t) (hk : i.k = .str) (ho : o.op = .slice t x lo hi none) (hx : getE gl E x = some (.d (.str s))) (hb : CutB gl E s.size lo hi l h) :
    Step P gl E O o id (some (.d (.str (s.extract l h)))) .none :=
  .val fun c E' O' al nt a w σ hgl hs hag => by
    subst hgl
    obtain ⟨h1, h2⟩ := rep_str (hs.get (hag.get (x := x) (by simp [ho, Op.operands]) hx))
    have hbk := hi'.k
    rw [hk] at hbk
    have hr := (cut_run (P := P) (cap := s.size) hs hag hb (fun z hz => by
      simp only [ho, Op.operands]
      rcases hz with rfl | rfl <;> simp) (Nat.le_refl _)).2
    refine ⟨.string (s.extract l h), ?_, .of_d (.str _ ?_)⟩
    · simp [execOp, ho, h1, Instr.sliceAt, Instr.slice, run_underlying hbk, hr]
    · rw [ByteArray.size_extract]; omega

/-- An own row, made shorter: it stays one's own. -/
theorem st_cut_own {t te sz l h k : Nat} {i : TI} {fr : Bool} {x : Operand} {hi : Option Operand} {xs : List (List D)} {te' : Nat} (hi' : i.ok P t) (hk : i.k = .slice te sz) (ho : o.op = .slice t x none hi none) (hx : getE gl E x = some (.own k)) (hO : O k = some (.row fr te' sz xs)) (hb : CutB gl E xs.length none hi l h) :
    Step P gl E O o id (some (.own id)) (.swap k (.row fr te' sz (xs.take h))) :=
  .run fun c E' O' al nt a w σ hgl hs hid hag => by
    subst hgl
    have hm : x ∈ o.op.operands := by simp [ho, Op.operands]
    have h1 := hs.get (hag.get hm hx)
    have hO' : O' k = some (.row fr te' sz xs) := (hag.o x hm _ hx k (by simp [AV.ids])).trans hO
    obtain ⟨vs, f1, f2, f3, f4, f5, f6⟩ := row_facts (hs.own k _ hO').2
    have hv := h1.toA.own_inv
    have hbk := hi'.k
    rw [hk] at hbk
    obtain ⟨hl1, hl2⟩ := hb.le
    have hl0 : l = 0 := by cases hb <;> rfl
    subst hl0
    have hhl : (xs.take h).length = h := by rw [List.length_take]; omega
    have hflt : (xs.take h).flatten = xs.flatten.take (h * sz) := by
      have e1 : xs = xs.take h ++ xs.drop h := by rw [List.take_append_drop]
      have e2 : (xs.take h).flatten.length = h * sz := by rw [flat_len (sz := sz) fun e he => f4 e (List.mem_of_mem_take he), hhl]
      conv => rhs; rw [e1, List.flatten_append]
      rw [← e2, List.take_left]
    have hmem : ∀ z, ((none : Option Operand) = some z ∨ hi = some z) → z ∈ o.op.operands := fun z hz => by
      simp only [ho, Op.operands]
      rcases hz with h | rfl
      · cases h
      · simp
    have key : ∃ v', (Instr.slice t (σ k) none (hi.map a.eval) none).run P w = .ok v' w ∧ w.ownsRow 0 te' sz v' h (vs.take (h * sz)) ∧ ∀ b, blkOf v' = some b → blkOf (σ k) = some b := by
      rcases f1.2 with ⟨e1, e2⟩ | ⟨g, cap, cur, e1, e2, e3, e4, e5, e6, e7⟩
      · have hh : h = 0 := by omega
        subst hh
        have hr := (cut_run (P := P) (cap := 0) hs hag hb hmem (by omega)).1
        rw [e2] at hr
        refine ⟨.slice none 0 0, ?_, by simpa using World.ownsRow_nil w 0 te' sz, by simp [blkOf]⟩
        simp only [e1, Instr.slice, Sem.run_bind, run_underlying hbk.1, Result.andThen_ok, Option.map_none] at hr ⊢
        simp [hr, run_size_of_map hbk.2]
      · have hr := (cut_run (P := P) (cap := cap) hs hag hb hmem e4).1
        refine ⟨.slice (some ⟨g, 0, none⟩) h cap, ?_, ⟨?_, .inr ⟨g, cap, cur, rfl, Nat.zero_le _, e3, by omega, e5, e6, ?_⟩⟩, by simp [e1, blkOf]⟩
        · simp only [e1, Instr.slice, Sem.run_bind, run_underlying hbk.1, Result.andThen_ok, Option.map_none] at hr ⊢
          simp [hr, run_size_of_map hbk.2, Addr.add]
        · rw [List.length_take, f1.1]
          exact Nat.min_eq_left (Nat.mul_le_mul_right _ hl2)
        · rw [← e7, List.take_take, Nat.min_eq_left (Nat.mul_le_mul_right _ hl2)]
    obtain ⟨v', k1, k2, k3⟩ := key
    have hn := hs.swap (id := id) (o' := .row fr te' sz (xs.take h)) (v := v') hO' hid (Go1.refl w _) (fun b hb => .inl (k3 b hb)) rfl (fun ok' hkp => by
      refine row_mk (vs := vs.take (h * sz)) (by rw [hhl]; exact k2) f2 (by omega) (fun e he => f4 e (List.mem_of_mem_take he)) (fun u hu => f5 u (List.mem_of_mem_take hu)) (fun j cc u hc hu => ?_)
      rw [hflt, List.getElem?_take] at hc
      rw [List.getElem?_take] at hu
      split at hc
      · rename_i hlt
        rw [if_pos hlt] at hu
        exact (f6 j cc u hc hu).mono hkp
      · cases hc)
    refine ⟨v', w, _, ?_, hn, rep_own_new id (.inr rfl) (by simp [updσ])⟩
    rw [← hv] at k1
    simp only [execOp, ho, Instr.sliceAt, Sem.run_bind, run_underlying hbk.1, Result.andThen_ok, Option.map_none]
    simp [k1]
end
end Go.Proofs.Ytopgjmoajkcdnaa

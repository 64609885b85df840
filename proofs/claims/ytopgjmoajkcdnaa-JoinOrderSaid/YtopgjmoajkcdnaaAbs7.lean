/- One operation: indexes, lengths, cuts, literals, make, append. -/
import Derived.Test.YtopgjmoajkcdnaaAbs6
namespace Go.Proofs.Ytopgjmoajkcdnaa
set_option linter.all false
open Go Go.RowKit

section
variable {P : Program} {E : Nat → Option AV} {O : Nat → Option Obj1} {gl : List (Nat × List D)} {o : Oper} {id : Nat}

theorem hO_of {c : Ctx} {E' : Nat → Option AV} {O' : Nat → Option Obj1} {x : Operand} {y : AV} {k : Nat} {ob : Obj1} (hag : Agree gl E E' O O' o) (hm : x ∈ o.op.operands) (hx : getE gl E x = some y) (hk : k ∈ y.ids) (hO : O k = some ob) (_ : c.gl = gl) : O' k = some ob := (hag.o x hm y hx k hk).trans hO

/-! ### Addresses of elements -/
theorem rep_slice_at {w : World} {ok : Nat → Prop} {xs : List (List D)} {v : Value} (h : Rep w ok (.slice xs) v) {j : Nat} {e : List D} (he : xs[j]? = some e) :
    ∃ b off cap, v = .slice (some ⟨b, off, none⟩) xs.length cap ∧ Rep w ok (.addr e) (.pointer (some ⟨b, off + j * e.length, none⟩)) := by
  cases h with
  | nil => simp at he
  | empty a cap => simp at he
  | slice _ b off cap sz f hok hcap hmax hsz hc h1 h =>
    have hl : e.length = sz := hsz e (List.mem_of_getElem? he)
    have hj : j < xs.length := (List.getElem?_eq_some_iff.1 he).1
    have hfl := flat_len hsz
    have hjs : j * sz + sz ≤ xs.length * sz := by rw [← Nat.succ_mul]; exact Nat.mul_le_mul_right _ hj
    refine ⟨b, off, cap, rfl, .addr e b (off + j * e.length) (fun i => f (j * sz + i)) hok (fun i hi => ?_) (fun i => h1 _) (fun i c hc' => ?_)⟩
    · rw [hl] at hi ⊢
      rw [Nat.add_assoc]
      exact hc _ (by omega)
    · have hlt : i < e.length := (List.getElem?_eq_some_iff.1 hc').1
      exact h _ c ((flat_at hsz he i (by omega)).trans hc')

theorem st_indexAddr_slice {t te sz j : Nat} {k : IntKind} {xs : List (List D)} {e : List D} {x y : Operand} {n : Int} {i : TI} (hi : i.ok P t) (hk : i.k = .slice te sz) (ho : o.op = .indexAddr t x y) (hx : getE gl E x = some (.d (.slice xs)))
    (hy : getE gl E y = some (.d (.int k n))) (h0 : 0 ≤ n) (hj : n.toNat = j) (he : xs[j]? = some e) (hl : e.length = sz) : Step P gl E O o id (some (.d (.addr e))) .none :=
  .val fun c E' O' al nt a w σ hgl hs hag => by
    subst hgl
    have h1 := (hs.get (hag.get (x := x) (by simp [ho, Op.operands]) hx)).d_inv
    have h2 := rep_int (hs.get (hag.get (x := y) (by simp [ho, Op.operands]) hy))
    obtain ⟨b, off, cap, hv, hr⟩ := rep_slice_at h1 he
    have hb := hi.k
    rw [hk] at hb
    have hlt : j < xs.length := (List.getElem?_eq_some_iff.1 he).1
    have hin : 0 ≤ n ∧ n < (xs.length : Int) := ⟨h0, by omega⟩
    refine ⟨_, ?_, .of_d hr⟩
    simp [execOp, ho, hv, h2, Instr.indexAt, asIntOf, run_underlying hb.1, run_size_of_map hb.2, hin, Addr.add_lit, hj, hl]

theorem st_indexAddr_own {t te sz k' : Nat} {k : IntKind} {fr : Bool} {te' : TypeId} {xs : List (List D)} {x y : Operand} {n : Int} {i : TI} (hi : i.ok P t) (hk : i.k = .slice te sz) (ho : o.op = .indexAddr t x y) (hx : getE gl E x = some (.own k')) (hO : O k' = some (.row fr te' sz xs))
    (hy : getE gl E y = some (.d (.int k n))) (h0 : 0 ≤ n) (hj : n < xs.length) : Step P gl E O o id (some (.elt k' sz n.toNat 0)) .none :=
  .val fun c E' O' al nt a w σ hgl hs hag => by
    subst hgl
    have hm : x ∈ o.op.operands := by simp [ho, Op.operands]
    have h1 := hs.get (hag.get hm hx)
    have h2 := rep_int (hs.get (hag.get (x := y) (by simp [ho, Op.operands]) hy))
    have hO' : O' k' = some (.row fr te' sz xs) := (hag.o x hm _ hx k' (by simp [AV.ids])).trans hO
    obtain ⟨vs, f1, f2, f3, f4, f5, f6⟩ := row_facts (hs.own k' _ hO').2
    obtain ⟨g, cap, hg⟩ := row_form f1 (by omega)
    have hb := hi.k
    rw [hk] at hb
    have hv := h1.toA.own_inv
    rw [hg] at hv
    have hin : 0 ≤ n ∧ n < (xs.length : Int) := ⟨h0, hj⟩
    refine ⟨.pointer (some ⟨g, n.toNat * sz + 0, none⟩), ?_, fun τ hτ => .elt k' sz n.toNat 0 g ?_⟩
    · simp [execOp, ho, hv, h2, Instr.indexAt, asIntOf, run_underlying hb.1, run_size_of_map hb.2, hin, Addr.add_lit]
    · rw [hτ k' (hs.own k' _ hO').1, hg]; rfl

theorem st_indexAddr_arr {t te sz len k' off : Nat} {k : IntKind} {x y : Operand} {n : Int} {i : TI} (hi : i.ok P t) (hk : i.k = .arr len te sz) (ho : o.op = .indexAddr t x y) (hx : getE gl E x = some (.ref k' off))
    (hy : getE gl E y = some (.d (.int k n))) (h0 : 0 ≤ n) (hj : n < len) : Step P gl E O o id (some (.ref k' (off + n.toNat * sz))) .none :=
  .val fun c E' O' al nt a w σ hgl hs hag => by
    subst hgl
    have h1 := hs.get (hag.get (x := x) (by simp [ho, Op.operands]) hx)
    have h2 := rep_int (hs.get (hag.get (x := y) (by simp [ho, Op.operands]) hy))
    have hb := hi.k
    rw [hk] at hb
    obtain ⟨b, hb1, hv⟩ := h1.toA.ref_inv
    have hin : 0 ≤ n ∧ n < (len : Int) := ⟨h0, hj⟩
    refine ⟨.pointer (some ⟨b, off + n.toNat * sz, none⟩), ?_, fun τ hτ => ?_⟩
    · simp [execOp, ho, hv, h2, Instr.indexAt, Instr.sureAddr, asIntOf, run_underlying hb.1, run_size_of_map hb.2, hin, Addr.add_lit]
    · obtain ⟨b', hb', hv'⟩ := (h1 τ hτ).ref_inv
      rw [hv] at hv'
      injection hv' with hv'
      injection hv' with hv'
      injection hv' with hv' _ _
      subst hv'
      exact .ref k' _ _ hb'

theorem st_indexAddr_arrd {t te sz len : Nat} {k : IntKind} {cs : List D} {x y : Operand} {n : Int} {i : TI} (hi : i.ok P t) (hk : i.k = .arr len te sz) (ho : o.op = .indexAddr t x y) (hx : getE gl E x = some (.d (.addr cs)))
    (hy : getE gl E y = some (.d (.int k n))) (h0 : 0 ≤ n) (hj : n < len) : Step P gl E O o id (some (.d (.addr (cs.drop (n.toNat * sz))))) .none :=
  .val fun c E' O' al nt a w σ hgl hs hag => by
    subst hgl
    have h1 := (hs.get (hag.get (x := x) (by simp [ho, Op.operands]) hx)).d_inv
    have h2 := rep_int (hs.get (hag.get (x := y) (by simp [ho, Op.operands]) hy))
    have hb := hi.k
    rw [hk] at hb
    obtain ⟨b, off, hv⟩ := rep_addr_inv h1
    rw [hv] at h1
    have hin : 0 ≤ n ∧ n < (len : Int) := ⟨h0, hj⟩
    refine ⟨_, ?_, .of_d (rep_addr_drop (n := n.toNat * sz) h1)⟩
    simp [execOp, ho, hv, h2, Instr.indexAt, Instr.sureAddr, asIntOf, run_underlying hb.1, run_size_of_map hb.2, hin, Addr.add_lit]

theorem st_index_str {t : Nat} {k : IntKind} {s : ByteArray} {x y : Operand} {n : Int} {i : TI} (hi : i.ok P t) (hk : i.k = .str) (ho : o.op = .index t x y) (hx : getE gl E x = some (.d (.str s)))
    (hy : getE gl E y = some (.d (.int k n))) (h0 : 0 ≤ n) (hj : n.toNat < s.size) : Step P gl E O o id (some (.d (.int .u8 (s[n.toNat]'hj).toNat))) .none :=
  .val fun c E' O' al nt a w σ hgl hs hag => by
    subst hgl
    obtain ⟨h1, _⟩ := rep_str (hs.get (hag.get (x := x) (by simp [ho, Op.operands]) hx))
    have h2 := rep_int (hs.get (hag.get (x := y) (by simp [ho, Op.operands]) hy))
    have hb := hi.k
    rw [hk] at hb
    refine ⟨.int .u8 (s[n.toNat]'hj).toNat, ?_, .of_d (.int _ _)⟩
    simp [execOp, ho, h1, h2, Instr.index, asIntOf, run_underlying hb, h0, hj]

/-! ### Parts of values -/
theorem part_run {t : Nat} {i : TI} (hi : i.ok P t) {al : Nat → Prop} {w : World} {ok : Nat → Prop} {σ : Nat → Value} {cs : List AV} {vs : List Value} (off : Nat) (hl : vs.length = cs.length) (h1 : ∀ v ∈ vs, v.oneCell' = true)
    (h : ∀ (j : Nat) c v, cs[j]? = some c → vs[j]? = some v → RepS al w ok σ c v) {y : AV} (hy : readA i (cs.drop off) = some y) : ∃ v, (part t vs.toArray off).run P w = .ok v w ∧ RepS al w ok σ y v := by
  unfold readA at hy
  cases ha : i.k.agg <;> rw [ha] at hy
  · simp only [Bool.false_eq_true, if_false, List.getElem?_drop, Nat.add_zero] at hy
    have hlt : off < vs.length := by rw [hl]; exact (List.getElem?_eq_some_iff.1 hy).1
    have h2 : vs[off]? = some vs[off] := List.getElem?_eq_getElem hlt
    exact ⟨vs[off], by simp [part, hi.isAgg, ha, hlt], h off y _ hy h2⟩
  · simp only [if_true] at hy
    split at hy
    · rename_i hle
      injection hy with hy
      subst hy
      rw [List.length_drop] at hle
      refine ⟨.agg ((vs.drop off).take i.size).toArray, ?_, fun τ hτ => .agg _ _ (by simp; omega) (fun j c v hj hv => ?_) (fun v hv => ?_)⟩
      · simp [part, hi.isAgg, hi.sizeOf, ha]
      · rw [List.getElem?_take] at hj hv
        split at hj
        · rename_i hlt
          rw [if_pos hlt, List.getElem?_drop] at hv
          rw [List.getElem?_drop] at hj
          exact h _ c v hj hv τ hτ
        · cases hj
      · exact h1 v (List.mem_of_mem_drop (List.mem_of_mem_take hv))
    · cases hy

theorem st_field {s n : Nat} {x : Operand} {y z : AV} {i fi : TI} {fs : List (Nat × Nat × Nat)} {f : Nat × Nat × Nat} (hi : i.ok P s) (hk : i.k = .struct fs) (hf : fs[n]? = some f) (hfi : fi.ok P f.2.1) (ho : o.op = .field s x n) (hx : getE gl E x = some y)
    (hagg : (∃ cs, y = .agg cs) ∨ ∃ cs, y = .d (.agg cs)) (hz : readA fi (y.cells.drop f.1) = some z) : Step P gl E O o id (some z) .none :=
  .val fun c E' O' al nt a w σ hgl hs hag => by
    subst hgl
    have h1 := hs.get (hag.get (x := x) (by simp [ho, Op.operands]) hx)
    obtain ⟨vs, v1, v2, v3, v4⟩ := h1.cells (by rcases hagg with ⟨cs, rfl⟩ | ⟨cs, rfl⟩ <;> rfl) (fun k hk => by rcases hagg with ⟨cs, rfl⟩ | ⟨cs, rfl⟩ <;> cases hk)
    have hv : a.eval x = .agg vs.toArray := by
      rcases hagg with ⟨cs, rfl⟩ | ⟨cs, rfl⟩
      · generalize a.eval x = v at h1 v1
        cases h1.toA with
        | agg _ vs' => simp only [Value.cells] at v1; rw [v1]
      · generalize a.eval x = v at h1 v1
        cases h1.d_inv with
        | agg _ vs' => simp only [Value.cells] at v1; rw [v1]
    obtain ⟨v, hr, hv'⟩ := part_run hfi f.1 v2 v3 v4 hz
    have hb := hi.k
    rw [hk] at hb
    obtain ⟨l, h3, h4⟩ := hb
    obtain ⟨g, g1, g2, g3, _, _⟩ := fld_at h4 hf
    have g1' : l[n]? = some g := by simpa using g1
    refine ⟨v, ?_, hv'⟩
    simp [execOp, ho, hv, Instr.field, run_underlying h3, g1', asAgg, g2, g3, hr]

theorem st_extract_d {x : Operand} {n : Nat} {cs : List D} {y : D} (ho : o.op = .extract x n) (hx : getE gl E x = some (.d (.tup cs))) (hy : cs[n]? = some y) : Step P gl E O o id (some (.d y)) .none :=
  .val fun c E' O' al nt a w σ hgl hs hag => by
    subst hgl
    have h1 := (hs.get (hag.get (x := x) (by simp [ho, Op.operands]) hx)).d_inv
    generalize hv : a.eval x = v at h1
    cases h1 with
    | tup _ vs hl h =>
      have hlt : n < vs.length := by rw [hl]; exact (List.getElem?_eq_some_iff.1 hy).1
      have h2 : vs[n]? = some vs[n] := List.getElem?_eq_getElem hlt
      exact ⟨vs[n], by simp [execOp, ho, hv, Instr.extract, hlt], .of_d (h n y _ hy h2)⟩

theorem st_extract_a {x : Operand} {n : Nat} {cs : List AV} {y : AV} (ho : o.op = .extract x n) (hx : getE gl E x = some (.tup cs)) (hy : cs[n]? = some y) : Step P gl E O o id (some y) .none :=
  .val fun c E' O' al nt a w σ hgl hs hag => by
    subst hgl
    have h1 := hs.get (hag.get (x := x) (by simp [ho, Op.operands]) hx)
    generalize hv : a.eval x = v at h1
    have h0 := h1.toA
    cases h0 with
    | tup _ vs hl h =>
      have hlt : n < vs.length := by rw [hl]; exact (List.getElem?_eq_some_iff.1 hy).1
      have h2 : vs[n]? = some vs[n] := List.getElem?_eq_getElem hlt
      refine ⟨vs[n], by simp [execOp, ho, hv, Instr.extract, hlt], fun τ hτ => ?_⟩
      generalize hu : (Value.tuple vs.toArray) = u at h1
      have h3 := h1 τ hτ
      generalize hcc : AV.tup cs = cc at h3
      cases h3 with
      | tup cs' vs' hl' h' =>
        cases hcc
        injection hu with hu
        have : vs = vs' := by injection hu
        subst this
        exact h' n y _ hy h2
      | _ => cases hcc

/-! ### Lengths -/
theorem st_len {t n : Nat} {ts : Array TypeId} {x : Operand} {y : AV} {i : TI} (hi : i.ok P t) (hts : ts = #[t]) (ho : o.op = .call { callee := .builtin .len, args := #[x], argTypes := ts }) (hx : getE gl E x = some y)
    (hn : (∃ te sz xs, i.k = .slice te sz ∧ y = .d (.slice xs) ∧ n = xs.length) ∨ (∃ te sz, i.k = .slice te sz ∧ y = .d .nils ∧ n = 0) ∨ (∃ s, i.k = .str ∧ y = .d (.str s) ∧ n = s.size) ∨
      ∃ te sz k fr te' sz' xs, i.k = .slice te sz ∧ y = .own k ∧ O k = some (.row fr te' sz' xs) ∧ n = xs.length) : Step P gl E O o id (some (.d (.int .i64 n))) .none :=
  .val fun c E' O' al nt a w σ hgl hs hag => by
    subst hgl
    subst hts
    have hm : x ∈ o.op.operands := by simp [ho, Op.operands, Call.operands]
    have h1 := hs.get (hag.get hm hx)
    have hb := hi.k
    refine ⟨.int .i64 n, ?_, .of_d (.int _ _)⟩
    rcases hn with ⟨te, sz, xs, hk, rfl, rfl⟩ | ⟨te, sz, hk, rfl, rfl⟩ | ⟨s, hk, rfl, rfl⟩ | ⟨te, sz, k, fr, te', sz', xs, hk, rfl, hO, rfl⟩ <;> rw [hk] at hb
    · have h2 := h1.d_inv
      generalize hv : a.eval x = v at h2
      cases h2 with
      | nil => simp [execOp, ho, resolve, invoke, builtin, hv, Builtin.len_, run_underlying hb.1, goInt]
      | empty => simp [execOp, ho, resolve, invoke, builtin, hv, Builtin.len_, run_underlying hb.1, goInt]
      | slice => simp [execOp, ho, resolve, invoke, builtin, hv, Builtin.len_, run_underlying hb.1, goInt]
    · have h2 := h1.d_inv
      generalize hv : a.eval x = v at h2
      cases h2
      simp [execOp, ho, resolve, invoke, builtin, hv, Builtin.len_, run_underlying hb.1, goInt]
    · obtain ⟨hv, _⟩ := rep_str h1
      simp [execOp, ho, resolve, invoke, builtin, hv, Builtin.len_, run_underlying hb, goInt]
    · have hO' : O' k = some (.row fr te' sz' xs) := (hag.o x hm _ hx k (by simp [AV.ids])).trans hO
      obtain ⟨vs, f1, _⟩ := row_facts (hs.own k _ hO').2
      obtain ⟨A, cap, hA⟩ := row_slice f1
      have hv := h1.toA.own_inv
      rw [hA] at hv
      simp [execOp, ho, resolve, invoke, builtin, hv, Builtin.len_, run_underlying hb.1, goInt]

/-! ### min, max of whole numbers -/
theorem st_min {ts : Array TypeId} {x y : Operand} {k k' : IntKind} {m n : Int} (ho : o.op = .call { callee := .builtin .min, args := #[x, y], argTypes := ts }) (hx : getE gl E x = some (.d (.int k m))) (hy : getE gl E y = some (.d (.int k' n))) :
    Step P gl E O o id (some (.d (.int k (min m n)))) .none :=
  .val fun c E' O' al nt a w σ hgl hs hag => by
    subst hgl
    have h1 := rep_int (hs.get (hag.get (x := x) (by simp [ho, Op.operands, Call.operands]) hx))
    have h2 := rep_int (hs.get (hag.get (x := y) (by simp [ho, Op.operands, Call.operands]) hy))
    refine ⟨.int k (min m n), ?_, .of_d (.int _ _)⟩
    have : (if n < m then n else m) = min m n := by rw [Int.min_def]; split <;> split <;> omega
    simp [execOp, ho, resolve, invoke, builtin, h1, h2, Builtin.min_, Builtin.min2, this]

theorem st_max {ts : Array TypeId} {x y : Operand} {k k' : IntKind} {m n : Int} (ho : o.op = .call { callee := .builtin .max, args := #[x, y], argTypes := ts }) (hx : getE gl E x = some (.d (.int k m))) (hy : getE gl E y = some (.d (.int k' n))) :
    Step P gl E O o id (some (.d (.int k (max m n)))) .none :=
  .val fun c E' O' al nt a w σ hgl hs hag => by
    subst hgl
    have h1 := rep_int (hs.get (hag.get (x := x) (by simp [ho, Op.operands, Call.operands]) hx))
    have h2 := rep_int (hs.get (hag.get (x := y) (by simp [ho, Op.operands, Call.operands]) hy))
    refine ⟨.int k (max m n), ?_, .of_d (.int _ _)⟩
    have : (if m < n then n else m) = max m n := by rw [Int.max_def]; split <;> split <;> omega
    simp [execOp, ho, resolve, invoke, builtin, h1, h2, Builtin.max_, Builtin.max2, this]
end
end Go.Proofs.Ytopgjmoajkcdnaa

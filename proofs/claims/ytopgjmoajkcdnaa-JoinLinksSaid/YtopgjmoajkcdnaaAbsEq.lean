/- '==' of structs and arrays of cells that can be compared. -/
import Derived.Test.YtopgjmoajkcdnaaAbs12
import Derived.ChangeKeysEq
namespace Go.Proofs.Ytopgjmoajkcdnaa
set_option linter.all false
open Go Go.RowKit

/-- Are the cells the same? -/
def same1 : Sc → D → D → Option Bool
  | .int, .int k a, .int k' b => if k = k' then some (decide (a = b)) else none
  | .bool, .bool a, .bool b => some (a == b)
  | .str, .str a, .str b => some (decide (a = b))
  | _, _, _ => none
def sameS : List Sc → List D → List D → Option Bool
  | [], [], [] => some true
  | k :: ks, x :: xs, y :: ys => match same1 k x y, sameS ks xs ys with
    | some p, some q => some (p && q)
    | _, _ => none
  | _, _, _ => none

theorem sameS_cons {k : Sc} {ks : List Sc} {xs ys : List D} {b : Bool} (h : sameS (k :: ks) xs ys = some b) : ∃ x xs' y ys' p q, xs = x :: xs' ∧ ys = y :: ys' ∧ same1 k x y = some p ∧ sameS ks xs' ys' = some q ∧ b = (p && q) := by
  cases xs with
  | nil => simp [sameS] at h
  | cons x xs =>
    cases ys with
    | nil => simp [sameS] at h
    | cons y ys =>
      simp only [sameS] at h
      split at h
      · rename_i p q hp hq
        injection h with h
        exact ⟨x, xs, y, ys, p, q, rfl, rfl, hp, hq, h.symm⟩
      · cases h
theorem sameS_nil {xs ys : List D} {b : Bool} (h : sameS [] xs ys = some b) : xs = [] ∧ ys = [] ∧ b = true := by
  cases xs <;> cases ys <;> simp [sameS] at h
  exact ⟨rfl, rfl, h⟩

theorem sameS_app : ∀ {ks r : List Sc} {xs ys : List D} {b : Bool}, sameS (ks ++ r) xs ys = some b → ∃ b1 b2, sameS ks (xs.take ks.length) (ys.take ks.length) = some b1 ∧ sameS r (xs.drop ks.length) (ys.drop ks.length) = some b2 ∧ b = (b1 && b2)
  | [], r, xs, ys, b, h => ⟨true, b, by simp [sameS], by simpa using h, by simp⟩
  | k :: ks, r, xs, ys, b, h => by
    obtain ⟨x, xs', y, ys', p, q, rfl, rfl, h1, h2, rfl⟩ := sameS_cons h
    obtain ⟨b1, b2, h3, h4, rfl⟩ := sameS_app h2
    exact ⟨p && b1, b2, by simp [sameS, h1, h3], by simpa using h4, by rw [Bool.and_assoc]⟩

theorem sameS_len : ∀ {ks : List Sc} {xs ys : List D} {b : Bool}, sameS ks xs ys = some b → xs.length = ks.length ∧ ys.length = ks.length
  | [], xs, ys, b, h => by obtain ⟨rfl, rfl, _⟩ := sameS_nil h; simp
  | k :: ks, xs, ys, b, h => by
    obtain ⟨x, xs', y, ys', p, q, rfl, rfl, h1, h2, rfl⟩ := sameS_cons h
    have := sameS_len h2
    simp [this]

section
variable {P : Program} {w : World} {ok : Nat → Prop}

/-- The cells of a list, one by one. -/
def CR (w : World) (ok : Nat → Prop) (ds : List D) (vs : List Value) : Prop := vs.length = ds.length ∧ ∀ (i : Nat) d v, ds[i]? = some d → vs[i]? = some v → Rep w ok d v
theorem CR.take {ds : List D} {vs : List Value} (h : CR w ok ds vs) (n : Nat) : CR w ok (ds.take n) (vs.take n) := ⟨by simp [h.1], fun i d v hd hv => by
  rw [List.getElem?_take] at hd hv
  split at hd
  · rename_i hlt; rw [if_pos hlt] at hv; exact h.2 i d v hd hv
  · cases hd⟩
theorem CR.drop {ds : List D} {vs : List Value} (h : CR w ok ds vs) (n : Nat) : CR w ok (ds.drop n) (vs.drop n) := ⟨by simp [h.1], fun i d v hd hv => by
  rw [List.getElem?_drop] at hd hv
  exact h.2 _ d v hd hv⟩

/-- The cells of a value of the type. -/
def VlOf (P : Program) (t : Nat) (vs : List Value) (v : Value) : Prop := match P.underlying t with
  | some (.struct _) | some (.array ..) => v = .agg vs.toArray
  | _ => vs = [v]

def EqRun (P : Program) (n t : Nat) (ks : List Sc) : Prop := ∀ (w : World) (ok : Nat → Prop) (ds es : List D) (vs us : List Value) (b : Bool) (v u : Value), sameS ks ds es = some b → CR w ok ds vs → CR w ok es us → VlOf P t vs v → VlOf P t us u → (Op.equalIn n t v u).run P w = .ok b w

theorem run_part {t : Nat} {ks : List Sc} {j : TypeInfo} {d : Nat} (hks : eqShape P d t = some ks) (hj : P.info? t = some j) (hs : j.size = ks.length) (vs : List Value) (off : Nat) (hl : off + ks.length ≤ vs.length) :
    ∃ v, (part t vs.toArray off).run P w = .ok v w ∧ VlOf P t ((vs.drop off).take ks.length) v := by
  have hsz : (sizeOf t).run P w = .ok ks.length w := by simp [sizeOf, typeInfo, hj, hs]
  have agg : (isAgg t).run P w = .ok true w → (∀ v, v = Value.agg ((vs.drop off).take ks.length).toArray → VlOf P t ((vs.drop off).take ks.length) v) → ∃ v, (part t vs.toArray off).run P w = .ok v w ∧ VlOf P t ((vs.drop off).take ks.length) v := fun ha hv =>
    ⟨.agg ((vs.drop off).take ks.length).toArray, by
      simp only [part, Sem.run_bind, ha, Result.andThen_ok, if_true, hsz, Sem.run_pure]
      congr 2
      apply Array.toList_inj.1
      simp [List.extract], hv _ rfl⟩
  have one : (isAgg t).run P w = .ok false w → ks.length = 1 → (∀ v, (vs.drop off).take ks.length = [v] → VlOf P t ((vs.drop off).take ks.length) v) → ∃ v, (part t vs.toArray off).run P w = .ok v w ∧ VlOf P t ((vs.drop off).take ks.length) v := fun ha h1 hv => by
    have h2 : vs[off]? = some vs[off] := List.getElem?_eq_getElem (by omega)
    refine ⟨vs[off], by simp [part, ha, h2], hv _ ?_⟩
    rw [h1, List.drop_eq_getElem_cons (by omega)]
    rfl
  cases d with
  | zero => simp [eqShape] at hks
  | succ d =>
    unfold eqShape at hks
    split at hks
    · rename_i hu; injection hks with hks; subst hks; exact one (by simp [isAgg, run_underlying hu]) rfl (fun v h => by simp only [VlOf, hu]; exact h)
    · rename_i hu; injection hks with hks; subst hks; exact one (by simp [isAgg, run_underlying hu]) rfl (fun v h => by simp only [VlOf, hu]; exact h)
    · rename_i hu; injection hks with hks; subst hks; exact one (by simp [isAgg, run_underlying hu]) rfl (fun v h => by simp only [VlOf, hu]; exact h)
    · rename_i hu; exact agg (by simp [isAgg, run_underlying hu]) (fun v h => by simp only [VlOf, hu]; exact h)
    · rename_i hu; exact agg (by simp [isAgg, run_underlying hu]) (fun v h => by simp only [VlOf, hu]; exact h)
    · cases hks

theorem run_flds {d n : Nat} (hg : ∀ t ks, eqShape P d t = some ks → EqRun P n t ks) {vs us : List Value} {ds es : List D} (h1 : CR w ok ds vs) (h2 : CR w ok es us) : ∀ {fs : List Field} {off : Nat} {r : List Sc} {b : Bool}, eqFlds P (eqShape P d) off fs = some r →
    sameS r (ds.drop off) (es.drop off) = some b → (Op.eqFields n vs.toArray us.toArray fs).run P w = .ok b w
  | [], off, r, b, hr, hb => by
    simp only [eqFlds, Option.some.injEq] at hr
    subst hr
    obtain ⟨_, _, rfl⟩ := sameS_nil hb
    simp [Op.eqFields]
  | f :: fs, off, r, b, hr, hb => by
    simp only [eqFlds] at hr
    split at hr
    · rename_i hf
      split at hr
      · rename_i ks j hks hj
        split at hr
        · rename_i hs
          split at hr
          · rename_i r' hr'
            injection hr with hr
            subst hr
            obtain ⟨b1, b2, q1, q2, rfl⟩ := sameS_app hb
            have hlen := sameS_len q1
            simp only [List.length_take, List.length_drop] at hlen
            have hv := h1.1
            have hu := h2.1
            have hpos := List.length_pos_iff.2 hs.2
            obtain ⟨v, p1, p2⟩ := run_part (w := w) hks hj hs.1 vs off (by omega)
            obtain ⟨u, p3, p4⟩ := run_part (w := w) hks hj hs.1 us off (by omega)
            have he := hg f.type ks hks w ok _ _ _ _ b1 v u q1 ((h1.drop off).take _) ((h2.drop off).take _) p2 p4
            have hrec := run_flds hg h1 h2 hr' (b := b2) (by rw [← List.drop_drop, ← List.drop_drop]; exact q2)
            simp only [Op.eqFields, hf.1, ne_eq, not_false_eq_true, if_true, Sem.run_bind, hf.2, p1, p3, he, Result.andThen_ok]
            cases b1
            · simp
            · simpa using hrec
          · cases hr
        · cases hr
      · cases hr
    · cases hr

theorem run_items {d n e : Nat} {ks : List Sc} {j : TypeInfo} (hks : eqShape P d e = some ks) (hj : P.info? e = some j) (hs : j.size = ks.length) (hpos : 0 < ks.length) (hg : EqRun P n e ks) {vs us : List Value} {ds es : List D} (h1 : CR w ok ds vs) (h2 : CR w ok es us) : ∀ (m i : Nat) (b : Bool),
    sameS (rep1 m ks) (ds.drop (i * ks.length)) (es.drop (i * ks.length)) = some b → (Op.eqItems n e ks.length vs.toArray us.toArray (List.range' i m)).run P w = .ok b w
  | 0, i, b, hb => by
    simp only [rep1] at hb
    obtain ⟨_, _, rfl⟩ := sameS_nil hb
    simp [Op.eqItems]
  | m + 1, i, b, hb => by
    simp only [rep1] at hb
    obtain ⟨b1, b2, q1, q2, rfl⟩ := sameS_app hb
    have hlen := sameS_len q1
    simp only [List.length_take, List.length_drop] at hlen
    have hv := h1.1
    have hu := h2.1
    obtain ⟨v, p1, p2⟩ := run_part (w := w) hks hj hs vs (i * ks.length) (by omega)
    obtain ⟨u, p3, p4⟩ := run_part (w := w) hks hj hs us (i * ks.length) (by omega)
    have he := hg w ok _ _ _ _ b1 v u q1 ((h1.drop _).take _) ((h2.drop _).take _) p2 p4
    have hrec := run_items hks hj hs hpos hg h1 h2 m (i + 1) b2 (by rw [Nat.succ_mul, ← List.drop_drop, ← List.drop_drop]; exact q2)
    rw [List.range'_succ]
    simp only [Op.eqItems, Sem.run_bind, p1, p3, he, Result.andThen_ok]
    cases b1
    · simp
    · simpa using hrec

theorem eq_run : ∀ (d n t : Nat) (ks : List Sc), eqShape P d t = some ks → EqRun P (n + d) t ks
  | 0, _, _, _, h => by simp [eqShape] at h
  | d + 1, n, t, ks, hks => by
    intro w ok ds es vs us b v u hb h1 h2 hv hu
    unfold eqShape at hks
    have one : ∀ s, ks = [s] → vs = [v] → us = [u] → ∃ x y, Rep w ok x v ∧ Rep w ok y u ∧ same1 s x y = some b := fun s hs h3 h4 => by
      subst hs
      obtain ⟨x, xs', y, ys', p, q, rfl, rfl, q1, q2, rfl⟩ := sameS_cons hb
      obtain ⟨rfl, rfl, rfl⟩ := sameS_nil q2
      exact ⟨x, y, h1.2 0 x v rfl (by rw [h3]; rfl), h2.2 0 y u rfl (by rw [h4]; rfl), by simpa using q1⟩
    split at hks
    · rename_i k hk
      injection hks with hks
      simp only [VlOf, hk] at hv hu
      obtain ⟨x, y, r1, r2, r3⟩ := one .int hks.symm hv hu
      cases x <;> simp only [same1] at r3 <;> try cases r3
      cases y <;> simp only at r3 <;> try cases r3
      split at r3
      · rename_i hkk
        subst hkk
        injection r3 with r3
        subst r3
        cases r1; cases r2
        rw [show n + (d + 1) = (n + d) + 1 from rfl, run_equalIn_int (P := P) w (n + d) t _ _ _ _ hk]
        rfl
      · cases r3
    · rename_i hk
      injection hks with hks
      simp only [VlOf, hk] at hv hu
      obtain ⟨x, y, r1, r2, r3⟩ := one .bool hks.symm hv hu
      cases x <;> simp only [same1] at r3 <;> try cases r3
      cases y <;> simp only at r3 <;> try cases r3
      cases r1; cases r2
      rw [show n + (d + 1) = (n + d) + 1 from rfl, run_equalIn_bool' (P := P) w (n + d) t _ _ hk]
    · rename_i hk
      injection hks with hks
      simp only [VlOf, hk] at hv hu
      obtain ⟨x, y, r1, r2, r3⟩ := one .str hks.symm hv hu
      cases x <;> simp only [same1] at r3 <;> try cases r3
      cases y <;> simp only at r3 <;> try cases r3
      cases r1; cases r2
      rw [show n + (d + 1) = (n + d) + 1 from rfl, run_equalIn_string (P := P) w (n + d) t _ _ hk, toList_inj]
    · rename_i fs hk
      split at hks
      · cases hks
      · rename_i hst
        simp only [VlOf, hk] at hv hu
        subst hv; subst hu
        have hfs : P.fieldsOf t = fs := by simp [Program.fieldsOf, hk]
        rw [show n + (d + 1) = (n + d) + 1 from rfl, run_equalIn_struct w (n + d) t _ _ (by rw [hfs]; exact hk) (by simpa using hst), hfs]
        exact run_flds (fun t ks h => eq_run d n t ks h) h1 h2 hks (by simpa using hb)
    · rename_i m e hk
      split at hks
      · rename_i ks' j hks' hj
        split at hks
        · rename_i hs
          injection hks with hks
          subst hks
          simp only [VlOf, hk] at hv hu
          subst hv; subst hu
          rw [show n + (d + 1) = (n + d) + 1 from rfl, run_equalIn_array w (n + d) _ _ hk hj]
          have hc : P.cellsOf e = ks'.length := by simp [Program.cellsOf, hj, hs.1]
          rw [hc, List.range_eq_range']
          exact run_items hks' hj hs.1 (List.length_pos_iff.2 hs.2) (eq_run d n e ks' hks') h1 h2 m 0 b (by simpa using hb)
        · cases hks
      · cases hks
    · cases hks

variable {E : Nat → Option AV} {O : Nat → Option Obj1} {gl : List (Nat × List D)} {o : Oper} {id : Nat}
def aggV (op : BinOp) (b : Bool) : Option D := match op with
  | .eql => some (.bool b)
  | .neq => some (.bool (!b))
  | _ => none

theorem st_bin_agg {op : BinOp} {t : Nat} {ty : TypeId} {i : TI} {x y : Operand} {ds es : List D} {b : Bool} {z : D} (hi : i.ok P t) (hk : i.k.agg = true) (ho : o.op = .binOp op t x y ty) (hx : getE gl E x = some (.d (.agg ds))) (hy : getE gl E y = some (.d (.agg es))) (hb : sameS i.eq ds es = some b) (hne : i.eq ≠ []) (h : aggV op b = some z) :
    Step P gl E O o id (some (.d z)) .none :=
  .val fun c E' O' al nt a w σ hgl hs hag => by
    subst hgl
    have h1 := (hs.get (hag.get (x := x) (by simp [ho, Op.operands]) hx)).d_inv
    have h2 := (hs.get (hag.get (x := y) (by simp [ho, Op.operands]) hy)).d_inv
    rcases hi.eq with he | ⟨he, hg⟩
    · exact absurd he hne
    · generalize hv : a.eval x = v at h1
      generalize hu : a.eval y = u at h2
      cases h1 with
      | agg _ vs l1 r1 _ =>
        cases h2 with
        | agg _ us l2 r2 _ =>
          have hV : ∀ l : List Value, VlOf P t l (.agg l.toArray) := fun l => by
            have hkk := hi.k
            unfold VlOf
            cases hik : i.k <;> rw [hik] at hk hkk <;> simp only [TK.agg, Bool.false_eq_true] at hk
            · obtain ⟨l', hl', _⟩ := hkk; rw [hl']
            · rw [hkk.1]
          have hr := eq_run 9 9991 t i.eq he w (okk c O' σ w) ds es vs us b _ _ hb ⟨l1, r1⟩ ⟨l2, r2⟩ (hV vs) (hV us)
          cases op <;> simp only [aggV] at h <;> first | cases h | skip
          · exact ⟨.bool b, by simp [execOp, ho, hv, hu, run_eqGuard_agg w .eql t x y _ _ hg, run_eql_struct, hr], .of_d (.bool _)⟩
          · exact ⟨.bool (!b), by simp [execOp, ho, hv, hu, run_eqGuard_agg w .neq t x y _ _ hg, run_neq_struct, hr], .of_d (.bool _)⟩

/-! ### Slices and nil -/
theorem run_eqIn_nil {w : World} {t e : TypeId} {n : Nat} {a : Option Addr} {l c : Nat} (hu : P.underlying t = some (.slice e)) : (Op.equalIn (n + 1) t (.slice a l c) (.slice none 0 0)).run P w = .ok a.isNone w := by
  unfold Op.equalIn
  simp only [Sem.run_bind, run_underlying hu, Result.andThen_ok]
  cases a <;> simp
theorem eqGuard_slice (op : BinOp) (t : TypeId) (x y : Operand) (a b : Option Addr) (l c l' c' : Nat) (w : World) : (eqGuard op t x y (.slice a l c) (.slice b l' c')).run P w = .ok () w := by
  unfold eqGuard; split <;> simp
def nilV (op : BinOp) : D → Option D
  | .nils => aggV op true
  | .slice [] => (match op with
    | .eql => some .anyb
    | .neq => some .anyb
    | _ => none)
  | .slice (_ :: _) => aggV op false
  | _ => none
theorem st_bin_nil {op : BinOp} {t : Nat} {ty : TypeId} {i : TI} {te sz : Nat} {x y : Operand} {d z : D} (hi : i.ok P t) (hk : i.k = .slice te sz) (ho : o.op = .binOp op t x y ty) (hx : getE gl E x = some (.d d)) (hy : getE gl E y = some (.d .nils)) (h : nilV op d = some z) :
    Step P gl E O o id (some (.d z)) .none :=
  .val fun c E' O' al nt a w σ hgl hs hag => by
    subst hgl
    have h1 := (hs.get (hag.get (x := x) (by simp [ho, Op.operands]) hx)).d_inv
    have h2 := (hs.get (hag.get (x := y) (by simp [ho, Op.operands]) hy)).d_inv
    have hu := hi.k
    rw [hk] at hu
    have key : ∀ (q : Option Addr) (l c' : Nat), a.eval x = .slice q l c' → (∀ b : Bool, b = q.isNone → ∀ z', aggV op b = some z' → RepS al w (okk c O' σ w) σ (.d z) (match z' with | .bool b => .bool b | _ => undef)) → (∃ z', aggV op true = some z') → ∃ v', (execOp a.eval o).run P w = .ok (.value v') w ∧ RepS al w (okk c O' σ w) σ (.d z) v' := fun q l c' hq hb hz => by
      generalize hu' : a.eval y = u at h2
      cases h2 with
      | nils =>
        have hr := run_eqIn_nil (P := P) (w := w) (n := 9999) (a := q) (l := l) (c := c') hu.1
        cases op <;> simp only [aggV] at hz <;> first | (obtain ⟨_, hz⟩ := hz; cases hz; done) | skip
        · exact ⟨.bool q.isNone, by simp [execOp, ho, hq, hu', eqGuard_slice, binOp, Op.equal, Op.maxDepth, hr], hb _ rfl _ rfl⟩
        · exact ⟨.bool (!q.isNone), by simp [execOp, ho, hq, hu', eqGuard_slice, binOp, Op.equal, Op.maxDepth, hr], hb _ rfl _ rfl⟩
    generalize hv : a.eval x = v at h1 key
    cases d <;> simp only [nilV] at h <;> try cases h
    case nils =>
      cases h1
      exact key none 0 0 rfl (fun b hb z' hz => by
        subst hb
        cases op <;> simp only [aggV] at h hz <;> first | (cases h; done) | skip
        all_goals (cases h; cases hz; exact .of_d (.bool _))) ⟨_, h⟩
    case slice xs =>
      cases xs with
      | nil =>
        have any : ∀ b z', aggV op b = some z' → RepS al w (okk c O' σ w) σ (.d z) (match z' with | .bool b => .bool b | _ => undef) := fun b z' hz => by
          cases op <;> simp only [nilV, aggV] at h hz <;> first | (cases h; done) | skip
          all_goals (cases h; cases hz; exact .of_d (.anyb _))
        have ex : ∃ z', aggV op true = some z' := by
          cases op <;> simp only [nilV] at h <;> first | (cases h; done) | exact ⟨_, rfl⟩
        cases h1 with
        | nil => exact key none 0 0 rfl (fun b _ => any b) ex
        | empty q cap => exact key (some q) 0 cap rfl (fun b _ => any b) ex
        | slice _ b off cap sz f => exact key _ _ _ rfl (fun b _ => any b) ex
      | cons e xs =>
        cases h1 with
        | slice _ b off cap sz f =>
          exact key _ _ _ rfl (fun b hb z' hz => by
            subst hb
            simp only [nilV] at h
            cases op <;> simp only [aggV] at h hz <;> first | (cases h; done) | skip
            all_goals (cases h; cases hz; exact .of_d (.bool _))) (by
            simp only [nilV] at h
            cases op <;> simp only [aggV] at h <;> first | (cases h; done) | exact ⟨_, rfl⟩)
end
end Go.Proofs.Ytopgjmoajkcdnaa

/- Regions whose order is open: the theorem. -/
import Derived.Test.YtopgjmoajkcdnaaAbs17
namespace Go.Proofs.Ytopgjmoajkcdnaa
set_option linter.all false
open Go Go.RowKit

def okEff (effs : List Nat) (j : Nat) (p : Op) : Eff → Prop
  | .none => True
  | .new _ => isEx p = false
  | .turn _ _ => j ∈ effs ∧ isEx p = false
  | .swap _ _ => j ∈ effs ∧ isEx p = false
  | .drop _ => j ∈ effs ∧ isEx p = false
theorem okEff_ex {effs : List Nat} {j : Nat} {p : Op} {e : Eff} (h : okEff effs j p e) (he : e ≠ .none) : isEx p = false := by
  cases e with
  | none => exact absurd rfl he
  | new o => exact h
  | turn k o => exact h.2
  | swap k o => exact h.2
  | drop ks => exact h.2
/-- What takes a part takes it of data. -/
def exL (g : Operand → Option AV) : Op → Bool
  | .extract x _ => (match g x with
    | some y => y.ids.isEmpty
    | none => true)
  | _ => true
theorem exL_spec {g : Operand → Option AV} {p : Op} (h : exL g p = true) (hx : isEx p = true) : ∀ x ∈ p.operands, ∀ y, g x = some y → y.ids = [] := by
  cases p <;> simp only [isEx] at hx <;> try cases hx
  rename_i x n
  intro z hz y hy
  simp [Op.operands] at hz
  subst hz
  simp only [exL, hy] at h
  exact List.isEmpty_iff.1 h
def touchL (g : Operand → Option AV) (B : List Nat) (base j : Nat) : List Operand → Prop
  | [] => True
  | x :: r => (match g x with
    | some (.d _) => True
    | some y => ∀ k ∈ y.ids, k < base ∨ (B.getD j 0).testBit (k - base) = true
    | none => True) ∧ touchL g B base j r

theorem touchL_spec {g : Operand → Option AV} {B : List Nat} {base j : Nat} : ∀ {l : List Operand}, touchL g B base j l → ∀ x ∈ l, ∀ y, g x = some y → ∀ k ∈ y.ids, k < base ∨ (B.getD j 0).testBit (k - base) = true
  | [], _, x, hx, _, _, _, _ => by cases hx
  | z :: r, h, x, hx, y, hy, k, hk => by
    rcases List.mem_cons.1 hx with rfl | hx
    · have h1 := h.1
      rw [hy] at h1
      cases y with
      | d y => simp [AV.ids] at hk
      | own _ => exact h1 k hk
      | ref _ _ => exact h1 k hk
      | elt _ _ _ _ => exact h1 k hk
      | agg _ => exact h1 k hk
      | tup _ => exact h1 k hk
    · exact touchL_spec h.2 x hx y hy k hk

def AED (P : Program) (gl : List (Nat × List D)) (tb : Nat → Option TI) (all : List Oper) (B effs : List Nat) (base : Nat) (K : St → Prop) : List Oper → Nat → St → Prop
  | [], _, s => K s
  | o :: rest, j, s => guardA (look s.env) all o.guard
    ((touchL (getE gl (look s.env)) B base j o.op.operands.toList ∧ exL (getE gl (look s.env)) o.op = true) ∧ opA P gl tb (look s.env) (look s.own) s.nxt o.op fun v e => okEff effs j o.op e ∧ AED P gl tb all B effs base K rest (j + 1) (s.app o.dst v e))
    (AED P gl tb all B effs base K rest (j + 1) (s.skip o.dst))

/-- Is the operation wanted? -/
def WantE (all : List Oper) (o : Oper) (E : Nat → Option AV) (b : Bool) : Prop := match o.guard with
  | none => b = true
  | some (j, want) => ∃ oj t, all[j]? = some oj ∧ oj.dst = some t ∧ ((∃ c, E t = some (.d (.bool c)) ∧ b = (c == want)) ∨ E t = some und ∧ b = false)

def TrOk (P : Program) (gl : List (Nat × List D)) (all : List Oper) (B effs : List Nat) (base j : Nat) (E : Nat → Option AV) (O : Nat → Option Obj1) (t : Tr) : Prop :=
  (t.w = true ∧ WantE all t.o E true ∧ (touchL (getE gl E) B base j t.o.op.operands.toList ∧ exL (getE gl E) t.o.op = true) ∧ Step P gl E O t.o (base + j) t.v t.e ∧ okEff effs j t.o.op t.e) ∨ (t.w = false ∧ WantE all t.o E false)

/-- The walk in the text's order. -/
def Trace (P : Program) (gl : List (Nat × List D)) (all : List Oper) (B effs : List Nat) (base : Nat) : Nat → (Nat → Option AV) → (Nat → Option Obj1) → List Tr → Prop
  | _, _, _, [] => True
  | j, E, O, t :: r => TrOk P gl all B effs base j E O t ∧ Trace P gl all B effs base (j + 1) (t.env E) (t.obj (base + j) O) r

section
variable {P : Program} {gl : List (Nat × List D)} {tb : Nat → Option TI} {all : List Oper} {B effs : List Nat} {base : Nat}

theorem app_env (s : St) (o : Oper) (v : Option AV) (e : Eff) : look (s.app o.dst v e).env = (Tr.mk o true v e).env (look s.env) := by
  unfold Tr.env St.app
  cases o.dst with
  | none => simp
  | some d =>
    cases v with
    | some x => simp [look_cons]
    | none => simp [look_del]
theorem skip_env (s : St) (o : Oper) (v : Option AV) (e : Eff) : look (s.skip o.dst).env = (Tr.mk o false v e).env (look s.env) := by
  unfold Tr.env St.skip
  cases o.dst with
  | none => simp
  | some d => simp [look_cons]

theorem trace_of (htb : TbOk P tb) {K : St → Prop} : ∀ (l : List Oper) (j : Nat) (s : St), s.nxt = base + j → AED P gl tb all B effs base K l j s →
    ∃ tr s', tr.map Tr.o = l ∧ Trace P gl all B effs base j (look s.env) (look s.own) tr ∧ K s' ∧ look s'.env = foldE (fun _ => true) j tr (look s.env) ∧ look s'.own = foldO (fun _ => true) base j tr (look s.own) ∧ s'.nxt = base + j + l.length
  | [], j, s, hn, h => ⟨[], s, rfl, trivial, h, rfl, rfl, by simpa using hn⟩
  | o :: rest, j, s, hn, h => by
    have yes : ((touchL (getE gl (look s.env)) B base j o.op.operands.toList ∧ exL (getE gl (look s.env)) o.op = true) ∧ opA P gl tb (look s.env) (look s.own) s.nxt o.op fun v e => okEff effs j o.op e ∧ AED P gl tb all B effs base K rest (j + 1) (s.app o.dst v e)) → WantE all o (look s.env) true →
        ∃ tr s', tr.map Tr.o = o :: rest ∧ Trace P gl all B effs base j (look s.env) (look s.own) tr ∧ K s' ∧ look s'.env = foldE (fun _ => true) j tr (look s.env) ∧ look s'.own = foldO (fun _ => true) base j tr (look s.own) ∧ s'.nxt = base + j + (o :: rest).length := fun ⟨ht, hop⟩ hw => by
      obtain ⟨v, e, ⟨he, hr⟩, hst⟩ := opA_sound htb hop
      obtain ⟨tr, s', h1, h2, h3, h4, h5, h6⟩ := trace_of htb rest (j + 1) (s.app o.dst v e) (by show s.nxt + 1 = _; omega) hr
      rw [app_env] at h2 h4
      rw [eff_own, hn] at h2 h5
      rw [hn] at hst
      refine ⟨⟨o, true, v, e⟩ :: tr, s', by simp [h1], ⟨.inl ⟨rfl, hw, ht, hst, he⟩, h2⟩, h3, h4, h5, by rw [h6]; simp; omega⟩
    have no : AED P gl tb all B effs base K rest (j + 1) (s.skip o.dst) → WantE all o (look s.env) false →
        ∃ tr s', tr.map Tr.o = o :: rest ∧ Trace P gl all B effs base j (look s.env) (look s.own) tr ∧ K s' ∧ look s'.env = foldE (fun _ => true) j tr (look s.env) ∧ look s'.own = foldO (fun _ => true) base j tr (look s.own) ∧ s'.nxt = base + j + (o :: rest).length := fun hr hw => by
      obtain ⟨tr, s', h1, h2, h3, h4, h5, h6⟩ := trace_of htb rest (j + 1) (s.skip o.dst) (by show s.nxt + 1 = _; omega) hr
      rw [skip_env s o none .none] at h2 h4
      refine ⟨⟨o, false, none, .none⟩ :: tr, s', by simp [h1], ⟨.inr ⟨rfl, hw⟩, h2⟩, h3, h4, h5, by rw [h6]; simp; omega⟩
    simp only [AED] at h
    unfold guardA at h
    cases hg : o.guard with
    | none =>
      rw [hg] at h
      exact yes h (by unfold WantE; rw [hg])
    | some jb =>
      obtain ⟨j', b⟩ := jb
      rw [hg] at h
      simp only at h
      split at h
      · rename_i oj hj
        split at h
        · rename_i t ht
          split at h
          · rename_i cb hcb
            split at h
            · rename_i hcb'
              exact yes h (by unfold WantE; rw [hg]; exact ⟨oj, t, hj, ht, .inl ⟨cb, hcb, by simp [hcb']⟩⟩)
            · rename_i hcb'
              exact no h (by unfold WantE; rw [hg]; exact ⟨oj, t, hj, ht, .inl ⟨cb, hcb, by simpa using hcb'⟩⟩)
          · rename_i hcb
            exact no h (by unfold WantE; rw [hg]; exact ⟨oj, t, hj, ht, .inr ⟨hcb, rfl⟩⟩)
          · exact h.elim
        · exact h.elim
      · exact h.elim

theorem foldE_none {L : Nat → Bool} : ∀ (r : List Tr) (j : Nat) (E : Nat → Option AV), (∀ k, j ≤ k → L k = false) → foldE L j r E = E
  | [], _, _, _ => rfl
  | t :: r, j, E, h => by
    simp only [foldE, h j (Nat.le_refl _), Bool.false_eq_true, if_false]
    exact foldE_none r (j + 1) E fun k hk => h k (by omega)
theorem foldO_none {L : Nat → Bool} : ∀ (r : List Tr) (j : Nat) (O : Nat → Option Obj1), (∀ k, j ≤ k → L k = false) → foldO L base j r O = O
  | [], _, _, _ => rfl
  | t :: r, j, O, h => by
    simp only [foldO, h j (Nat.le_refl _), Bool.false_eq_true, if_false]
    exact foldO_none r (j + 1) O fun k hk => h k (by omega)

def below (j : Nat) : Nat → Bool := fun k => decide (k < j)

theorem trace_at : ∀ (tr : List Tr) (j : Nat) (E : Nat → Option AV) (O : Nat → Option Obj1), Trace P gl all B effs base j E O tr → ∀ (i : Nat) t, tr[i]? = some t →
    TrOk P gl all B effs base (j + i) (foldE (below (j + i)) j tr E) (foldO (below (j + i)) base j tr O) t ∧
      foldE (below (j + i + 1)) j tr E = t.env (foldE (below (j + i)) j tr E) ∧ foldO (below (j + i + 1)) base j tr O = t.obj (base + (j + i)) (foldO (below (j + i)) base j tr O)
  | [], _, _, _, _, i, t, h => by simp at h
  | t :: r, j, E, O, h, 0, t', ht => by
    simp at ht
    subst ht
    have h0 : ∀ k, j ≤ k → below (j + 0) k = false := fun k hk => by simp [below]; omega
    have h1 : ∀ k, j + 1 ≤ k → below (j + 0 + 1) k = false := fun k hk => by simp [below]; omega
    rw [foldE_none _ _ _ h0, foldO_none _ _ _ h0]
    refine ⟨h.1, ?_, ?_⟩
    · simp only [foldE]
      rw [if_pos (by simp [below]), foldE_none _ _ _ h1]
    · simp only [foldO]
      rw [if_pos (by simp [below]), foldO_none _ _ _ h1]
      rfl
  | t :: r, j, E, O, h, i + 1, t', ht => by
    have ih := trace_at r (j + 1) _ _ h.2 i t' (by simpa using ht)
    have e : j + 1 + i = j + (i + 1) := by omega
    rw [e] at ih
    simp only [foldE, foldO]
    rw [if_pos (show below (j + (i + 1)) j = true by simp [below]), if_pos (show below (j + (i + 1) + 1) j = true by simp [below]; omega), if_pos (show below (j + (i + 1)) j = true by simp [below]), if_pos (show below (j + (i + 1) + 1) j = true by simp [below]; omega)]
    exact ih
end

/-! ### The listed -/
section
variable {P : Program} {gl : List (Nat × List D)} {ops : Array Oper} {B effs : List Nat} {base nt : Nat} {tr : List Tr} {E0 : Nat → Option AV} {O0 : Nat → Option Obj1}

theorem tr_op (hm : tr.map Tr.o = ops.toList) {i : Nat} {t : Tr} (ht : tr[i]? = some t) : ops[i]? = some t.o := by
  have : (tr.map Tr.o)[i]? = some t.o := by rw [List.getElem?_map, ht]; rfl
  rw [hm] at this
  simpa using this

theorem apart_of (hA : apartOk ops B = true) {i j : Nat} {oi oj : Oper} (hi : ops[i]? = some oi) (hj : ops[j]? = some oj) (hlt : i < j) : oi.apart ops oj = true ∨ (B.getD j 0).testBit i = true := by
  have h1 := zip_all hA (show ops.toList[i]? = some oi by simpa using hi)
  have h2 := zip_all h1 (show ops.toList[j]? = some oj by simpa using hj)
  simp only [Bool.or_eq_true] at h2
  rcases h2 with (h2 | h2) | h2
  · simp [hlt] at h2
  · exact .inl h2
  · exact .inr h2

theorem exAt_of {j : Nat} {o : Oper} (h : ops[j]? = some o) : exAt ops j = isEx o.op := by unfold exAt; rw [h]
theorem eff_order (hF : effsOk ops B effs = true) {i j : Nat} (hi : i ∈ effs) (hj : j < ops.size) (hx : exAt ops j = false) : (j < i → (B.getD i 0).testBit j = true) ∧ (i < j → (B.getD j 0).testBit i = true) := by
  have h1 := List.all_eq_true.1 hF i hi
  have h2 := List.all_eq_true.1 h1 j (List.mem_range.2 hj)
  rw [hx, Bool.false_or] at h2
  simp only [Bool.and_eq_true, Bool.or_eq_true] at h2
  refine ⟨fun h => ?_, fun h => ?_⟩
  · rcases h2.1 with h3 | h3
    · simp [h] at h3
    · exact h3
  · rcases h2.2 with h3 | h3
    · simp [h] at h3
    · exact h3

variable (hB : bitsOk ops.toList B = true) (hA : apartOk ops B = true) (hF : effsOk ops B effs = true) (hm : tr.map Tr.o = ops.toList) {L : Nat → Bool} (hL : Closed ops L) {j : Nat} {oj : Oper} (hoj : ops[j]? = some oj) (hj : L j = false) (hr : ∀ e ∈ oj.after, Region.binds .any e = true → L e.on = true)
include hB hA hm hL hoj hj hr

/-- Of the writers of what it looks at just those ahead of it in the text are listed. -/
theorem writers_e {d i : Nat} {t : Tr} (ht : tr[i]? = some t) (hd : t.o.dst = some d) (hlook : d ∈ oj.looksAt ops ∨ oj.dst = some d) (hne : i ≠ j) : L i = below j i := by
  obtain ⟨r1, r2⟩ := ready_bits hB hL hoj hj hr
  have hoi := tr_op hm ht
  rcases Nat.lt_or_gt_of_ne hne with hlt | hgt
  · rcases apart_of hA hoi hoj hlt with h | h
    · obtain ⟨s1, s2, s3⟩ := Oper.apart_spec h
      rcases hlook with hl | hl
      · exact absurd hl (s1 d hd)
      · exact absurd hl (s2 d hd)
    · rw [r1 i h]; simp [below, hlt]
  · rcases apart_of hA hoj hoi hgt with h | h
    · obtain ⟨s1, s2, s3⟩ := Oper.apart_spec h
      rcases hlook with hl | hl
      · exact absurd hl (s3 d hd)
      · exact absurd hd (s2 d hl)
    · rw [r2 i t.o hoi h]
      simp [below]; omega

theorem env_same {d : Nat} (hlook : d ∈ oj.looksAt ops) : foldE L 0 tr E0 d = foldE (below j) 0 tr E0 d :=
  foldE_congr tr 0 E0 E0 rfl fun i t ht hd => by
    rw [Nat.zero_add]
    by_cases hne : i = j
    · subst hne; rw [hj]; simp [below]
    · exact writers_e hB hA hm hL hoj hj hr ht hd (.inl hlook) hne

omit hA in
include hF in
theorem eff_writers (hx : exAt ops j = false) {i k : Nat} {t : Tr} (hTr : Trace P gl ops.toList B effs base 0 E0 O0 tr) (ht : tr[i]? = some t) (hw : t.w = true) (hk : k ∈ t.e.keys (base + i)) (hk' : k = base + i → i = j ∨ (B.getD j 0).testBit i = true ∨ (∀ o, t.e ≠ .new o)) (hne : i ≠ j) : L i = below j i := by
  obtain ⟨r1, r2⟩ := ready_bits hB hL hoj hj hr
  have hoi := tr_op hm ht
  have hjl : j < ops.size := (Array.getElem?_eq_some_iff.1 hoj).1
  have hok := (trace_at tr 0 E0 O0 hTr i t ht).1
  rw [Nat.zero_add] at hok
  have heff : okEff effs i t.o.op t.e := by
    rcases hok with ⟨_, _, _, _, h⟩ | ⟨h, _⟩
    · exact h
    · rw [hw] at h; cases h
  have fromEff : i ∈ effs → L i = below j i := fun hi => by
    obtain ⟨e1, e2⟩ := eff_order hF hi hjl hx
    rcases Nat.lt_or_gt_of_ne hne with hlt | hgt
    · rw [r1 i (e2 hlt)]; simp [below, hlt]
    · rw [r2 i t.o hoi (e1 hgt)]; simp [below]; omega
  cases he : t.e with
  | none => rw [he] at hk; simp [Eff.keys] at hk
  | turn q o => rw [he] at heff; exact fromEff heff.1
  | swap q o => rw [he] at heff; exact fromEff heff.1
  | drop ks => rw [he] at heff; exact fromEff heff.1
  | new o =>
    rw [he] at hk
    simp only [Eff.keys, List.mem_singleton] at hk
    rcases hk' hk with h | h | h
    · exact absurd h hne
    · have hlt := bit_lt hB j j oj (Nat.le_refl _) hoj i h
      rw [r1 i h]; simp [below, hlt]
    · exact absurd he (h o)
end
end Go.Proofs.Ytopgjmoajkcdnaa

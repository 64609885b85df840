/- Regions of few operations whose order is open: each order by itself. -/
import Derived.Test.YtoidlnhgaaohdaaDoorAbsP
namespace Go.Proofs.YtoidlnhgaaohdaaDoor
set_option linter.all false
open Go Go.RowKit

/-- The orders, as a tree: which operations may come next. -/
inductive Sch where
  | done
  | node (l : List (Nat × Sch))
mutual
def schOk (ops : Array Oper) : Nat → Array Bool → Sch → Bool
  | fuel, listed, .done => (Region.ready .any ops listed).isEmpty
  | 0, _, .node _ => false
  | fuel + 1, listed, .node l => !l.isEmpty && decide (Region.ready .any ops listed = l.map (·.1)) && schOkL ops fuel listed l
def schOkL (ops : Array Oper) : Nat → Array Bool → List (Nat × Sch) → Bool
  | _, _, [] => true
  | fuel, listed, (i, t) :: r => schOk ops fuel (listed.setIfInBounds i true) t && schOkL ops fuel listed r
end
mutual
def AES (P : Program) (gl : List (Nat × List D)) (tb : Nat → Option TI) (all : List Oper) (KP : D → St → Prop) (K : St → Prop) : Sch → St → Prop
  | .done, s => K s
  | .node l, s => AESl P gl tb all KP K l s
def AESl (P : Program) (gl : List (Nat × List D)) (tb : Nat → Option TI) (all : List Oper) (KP : D → St → Prop) (K : St → Prop) : List (Nat × Sch) → St → Prop
  | [], _ => True
  | (i, t) :: r, s => (match all[i]? with
    | some o => guardA (look s.env) all o.guard (opX P gl tb (look s.env) (look s.own) s.nxt (fun x => KP x s) o.op fun v e => AES P gl tb all KP K t (s.app o.dst v e)) (AES P gl tb all KP K t (s.skip o.dst))
    | none => False) ∧ AESl P gl tb all KP K r s
end

section
variable {P : Program} {gl : List (Nat × List D)} {tb : Nat → Option TI} {nt : Nat} {c : Ctx}
theorem aesl_mem {all : List Oper} {KP : D → St → Prop} {K : St → Prop} {s : St} : ∀ {l : List (Nat × Sch)}, AESl P gl tb all KP K l s → ∀ i t, (i, t) ∈ l → ∃ o, all[i]? = some o ∧ guardA (look s.env) all o.guard (opX P gl tb (look s.env) (look s.own) s.nxt (fun x => KP x s) o.op fun v e => AES P gl tb all KP K t (s.app o.dst v e)) (AES P gl tb all KP K t (s.skip o.dst))
  | [], _, i, t, h => by cases h
  | (j, u) :: r, h, i, t, hm => by
    simp only [AESl] at h
    rcases List.mem_cons.1 hm with e | hm
    · cases e
      have h1 := h.1
      split at h1
      · rename_i o ho; exact ⟨o, ho, h1⟩
      · exact h1.elim
    · exact aesl_mem h.2 i t hm
theorem schl_mem {ops : Array Oper} {fuel : Nat} {listed : Array Bool} : ∀ {l : List (Nat × Sch)}, schOkL ops fuel listed l = true → ∀ i t, (i, t) ∈ l → schOk ops fuel (listed.setIfInBounds i true) t = true
  | [], _, i, t, h => by cases h
  | (j, u) :: r, h, i, t, hm => by
    simp only [schOkL, Bool.and_eq_true] at h
    rcases List.mem_cons.1 hm with e | hm
    · cases e; exact h.1
    · exact schl_mem h.2 i t hm

theorem AES_sound (htb : TbOk P tb) {ops : Array Oper} {KP : D → St → Prop} {K : St → Prop} {Q : Exit → Act → World → Prop} (hgl : c.gl = gl) (hd : ops.toList.all (dstOk nt) = true) (hK : ∀ s' a' w' σ', K s' → SR c nt s' a' w' σ' → Q .normal a' w')
    (hKP : ∀ x s v' a' w' σ', KP x s → SRep c (look s.env) (fun _ => none) (fun k => k < s.nxt) nt a' w' σ' → Rep w' (okk c (fun _ => none) σ' w') x v' → Q (.panic [{ v := v', recovered := false }]) a' w') :
    ∀ (fuel : Nat) (listed : Array Bool) (t : Sch) (s : St) (a : Act) (w : World) (σ : Nat → Value), schOk ops fuel listed t = true → AES P gl tb ops.toList KP K t s → SR c nt s a w σ → wpAny P .any ops Q fuel listed a w := by
  intro fuel
  induction fuel with
  | zero =>
    intro listed t s a w σ hsch h hs
    cases t with
    | done =>
      simp only [schOk, List.isEmpty_iff] at hsch
      simp only [AES] at h
      exact ⟨hsch, hK s a w σ h hs⟩
    | node l => simp [schOk] at hsch
  | succ fuel ih =>
    intro listed t s a w σ hsch h hs
    cases t with
    | done =>
      simp only [schOk, List.isEmpty_iff] at hsch
      simp only [AES] at h
      exact ⟨fun _ => hK s a w σ h hs, fun i hi => by rw [hsch] at hi; cases hi⟩
    | node l =>
      simp only [schOk, Bool.and_eq_true, decide_eq_true_eq, Bool.not_eq_true', List.isEmpty_eq_false_iff] at hsch
      obtain ⟨⟨hne, hready⟩, hl⟩ := hsch
      refine ⟨fun h0 => ?_, fun i hi => ?_⟩
      · rw [hready] at h0
        exact absurd (List.map_eq_nil_iff.1 h0) hne
      · rw [hready] at hi
        obtain ⟨⟨i', t'⟩, hm, rfl⟩ := List.mem_map.1 hi
        simp only [AES] at h
        obtain ⟨o, ho, hg0⟩ := aesl_mem h i' t' hm
        have hsch' := schl_mem hl i' t' hm
        have ho' : ops[i']? = some o := by simpa using ho
        have hdo : dstOk nt o = true := List.all_eq_true.1 hd o (List.mem_of_getElem? ho)
        have hop : (opX P gl tb (look s.env) (look s.own) s.nxt (fun x => KP x s) o.op fun v e => AES P gl tb ops.toList KP K t' (s.app o.dst v e)) → o.wp P a w (wpAny P .any ops Q fuel (listed.setIfInBounds i' true)) Q := fun hop => by
          rcases opX_sound htb hop with ⟨v, e, hAE, hst⟩ | ⟨x, hx, hst⟩
          · refine hst c (fun k => k < s.nxt) nt a w σ hgl hs (by omega) _ Q fun v' w' σ' hs' hx => ?_
            exact ih _ t' _ _ _ σ' hsch' hAE (SR.app hdo hs' hx)
          · exact hst c (fun k => k < s.nxt) nt a w σ hgl hs _ Q fun v' w' hs' hr => hKP x s v' a w' σ hx hs' hr
        unfold wpOp
        simp only [ho']
        unfold guardA at hg0
        cases hg : o.guard with
        | none =>
          rw [hg] at hg0
          rw [if_pos (by simp [Region.wanted, hg])]
          exact .inl (hop hg0)
        | some jb =>
          obtain ⟨j, b⟩ := jb
          rw [hg] at hg0
          simp only at hg0
          split at hg0
          · rename_i oj hj
            split at hg0
            · rename_i tt ht
              split at hg0
              · rename_i cb hcb
                have hv := rep_bool (hs.env tt _ hcb)
                have hy := yielded_of hj ht hv
                split at hg0
                · rename_i hcb'
                  rw [if_pos (by simp [Region.wanted, hg, hy, hcb'])]
                  exact .inl (hop hg0)
                · rename_i hcb'
                  rw [if_neg (by simp [Region.wanted, hg, hy, hcb'])]
                  exact ih _ t' _ _ _ σ hsch' hg0 (hs.skip hdo)
              · rename_i hcb
                have hy := yielded_none hj ht (rep_und' (hs.env tt _ hcb))
                rw [if_neg (by simp [Region.wanted, hg, hy])]
                exact ih _ t' _ _ _ σ hsch' hg0 (hs.skip hdo)
              · exact hg0.elim
            · exact hg0.elim
          · exact hg0.elim
variable {Q : AExit → St → Prop} {s : St}
theorem AW.regionA (htb : TbOk P tb) (hmix : P.follows .mixedOrders = true) {id : Nat} {ops : List Oper} (live : List Nat) (t : Sch) (hchk : schOk ops.toArray ops.length (Array.replicate ops.length false) t = true) (hd : ops.all (dstOk nt) = true)
    (h : AES P gl tb ops (fun x s => Q (.panic x) ⟨s.env, [], s.nxt⟩) (fun s' => Q .normal (s'.prune live)) t s) : AW P gl nt (.region id ops.toArray true) Q s := fun c a w σ hgl hp hs => by
  refine wp_region_any hmix ?_
  have hs' : SR c nt s a { w with drawn := w.drawn + 1 } σ := SRep.grow hs ⟨rfl, rfl, rfl, Nat.le_refl _, fun _ _ _ => rfl⟩
  have h' : AES P gl tb ops.toArray.toList (fun x s => Q (.panic x) ⟨s.env, [], s.nxt⟩) (fun s' => Q .normal (s'.prune live)) t s := h
  exact AES_sound (ops := ops.toArray) htb hgl hd (fun s' a' w' σ' hq hs' => ⟨.normal, s'.prune live, σ', hq, hs'.prune live, .normal⟩) (fun x s v' a' w' σ' hx hs' hr => ⟨.panic x, ⟨s.env, [], s.nxt⟩, σ', hx, sr_empty hs', .panic x v' hr⟩) _ _ t s a _ σ hchk h' hs'
end
section
variable {P : Program} {gl : List (Nat × List D)} {tb : Nat → Option TI} {all : List Oper} {KP : D → St → Prop} {K : St → Prop} {s : St} {i : Nat} {t : Sch} {r : List (Nat × Sch)} {E : List (Nat × AV)} {O : List (Nat × Obj1)} {n : Nat}
theorem s_done : AES P gl tb all KP K .done s = K s := by rw [AES]
theorem s_node : AES P gl tb all KP K (.node r) s = AESl P gl tb all KP K r s := by rw [AES]
theorem s_nil : AESl P gl tb all KP K [] s = True := by rw [AESl]
theorem s_one : AESl P gl tb all KP K ((i, t) :: r) ⟨E, O, n⟩ = ((match all[i]? with
    | some o => guardA (look E) all o.guard (opX P gl tb (look E) (look O) n (fun x => KP x ⟨E, O, n⟩) o.op fun v e => AES P gl tb all KP K t (St.app ⟨E, O, n⟩ o.dst v e)) (AES P gl tb all KP K t (St.skip ⟨E, O, n⟩ o.dst))
    | none => False) ∧ AESl P gl tb all KP K r ⟨E, O, n⟩) := by rw [AESl]
theorem s_guard {Y N : Prop} {Ef : Nat → Option AV} : guardA Ef all none Y N = Y := (rfl)
end
attribute [go_sem] s_done s_node s_nil s_one s_guard
end Go.Proofs.YtoidlnhgaaohdaaDoor

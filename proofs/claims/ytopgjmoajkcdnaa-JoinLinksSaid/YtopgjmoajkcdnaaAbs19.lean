/- Regions whose order is open: one walk serves every order. -/
import Derived.Test.YtopgjmoajkcdnaaAbs18
namespace Go.Proofs.Ytopgjmoajkcdnaa
set_option linter.all false
open Go Go.RowKit

def upL (L : Nat → Bool) (j : Nat) : Nat → Bool := fun k => if k = j then true else L k

section
variable {P : Program} {gl : List (Nat × List D)} {ops : Array Oper} {B effs : List Nat} {base nt : Nat} {tr : List Tr} {E0 : Nat → Option AV} {O0 : Nat → Option Obj1} {L : Nat → Bool}

theorem upL_below {i j : Nat} : below (j + 1) i = upL (below j) j i := by
  unfold below upL
  by_cases h : i = j
  · simp [h]
  · rw [if_neg h]
    by_cases h2 : i < j
    · simp [h2]; omega
    · simp [h2]; omega

theorem env_step (hB : bitsOk ops.toList B = true) (hA : apartOk ops B = true) (hm : tr.map Tr.o = ops.toList) (hL : Closed ops L) {j : Nat} {t : Tr} (ht : tr[j]? = some t) (hTr : Trace P gl ops.toList B effs base 0 E0 O0 tr) (hj : L j = false)
    (hr : ∀ e ∈ t.o.after, Region.binds .any e = true → L e.on = true) : foldE (upL L j) 0 tr E0 = t.env (foldE L 0 tr E0) := by
  have hoj := tr_op hm ht
  have hat := (trace_at tr 0 E0 O0 hTr j t ht).2.1
  rw [Nat.zero_add] at hat
  funext d
  by_cases hd : t.o.dst = some d
  · have h1 : foldE (upL L j) 0 tr E0 d = foldE (below (j + 1)) 0 tr E0 d := foldE_congr tr 0 E0 E0 rfl fun i u hu hud => by
      rw [Nat.zero_add, upL_below]
      unfold upL
      by_cases hne : i = j
      · simp [hne]
      · rw [if_neg hne, if_neg hne]
        exact writers_e hB hA hm hL hoj hj hr hu hud (.inr hd) hne
    rw [h1, hat]
    simp only [Tr.env, hd, upd1_self]
  · have h1 : foldE (upL L j) 0 tr E0 d = foldE L 0 tr E0 d := foldE_congr tr 0 E0 E0 rfl fun i u hu hud => by
      rw [Nat.zero_add]
      unfold upL
      rw [if_neg]
      rintro rfl
      rw [ht] at hu
      injection hu with hu
      subst hu
      exact hd hud
    rw [h1]
    unfold Tr.env
    cases hd' : t.o.dst with
    | none => rfl
    | some d' =>
      symm
      exact upd1_ne fun e => hd (by rw [hd', e])

theorem obj_step (hB : bitsOk ops.toList B = true) (hF : effsOk ops B effs = true) (hm : tr.map Tr.o = ops.toList) (hL : Closed ops L) {j : Nat} {t : Tr} (ht : tr[j]? = some t) (hTr : Trace P gl ops.toList B effs base 0 E0 O0 tr) (hj : L j = false)
    (hr : ∀ e ∈ t.o.after, Region.binds .any e = true → L e.on = true) : foldO (upL L j) base 0 tr O0 = t.obj (base + j) (foldO L base 0 tr O0) := by
  have hoj := tr_op hm ht
  have hat := (trace_at tr 0 E0 O0 hTr j t ht).2.2
  rw [Nat.zero_add] at hat
  have hok := (trace_at tr 0 E0 O0 hTr j t ht).1
  rw [Nat.zero_add] at hok
  obtain ⟨r1, r2⟩ := ready_bits hB hL hoj hj hr
  funext k
  by_cases hk : t.w = true ∧ k ∈ t.e.keys (base + j)
  · obtain ⟨hw, hk⟩ := hk
    have heff : okEff effs j t.o.op t.e := by
      rcases hok with ⟨_, _, _, _, h⟩ | ⟨h, _⟩
      · exact h
      · rw [hw] at h; cases h
    have h1 : foldO (upL L j) base 0 tr O0 k = foldO (below (j + 1)) base 0 tr O0 k := foldO_congr tr 0 O0 O0 rfl fun i u hu huw huk => by
      rw [Nat.zero_add] at huk ⊢
      rw [upL_below]
      unfold upL
      by_cases hne : i = j
      · simp [hne]
      · rw [if_neg hne, if_neg hne]
        have all : j ∈ effs → L i = below j i := fun hje => by
          have hil : i < ops.size := (Array.getElem?_eq_some_iff.1 (tr_op hm hu)).1
          have hxi : exAt ops i = false := by
            rw [exAt_of (tr_op hm hu)]
            have hoki := (trace_at tr 0 E0 O0 hTr i u hu).1
            rcases hoki with ⟨_, _, _, _, h⟩ | ⟨h, _⟩
            · exact okEff_ex h fun e => by rw [e] at huk; simp [Eff.keys] at huk
            · rw [huw] at h; cases h
          obtain ⟨e1, e2⟩ := eff_order hF hje hil hxi
          rcases Nat.lt_or_gt_of_ne hne with hlt | hgt
          · rw [r1 i (e1 hlt)]; simp [below, hlt]
          · rw [r2 i u.o (tr_op hm hu) (e2 hgt)]; simp [below]; omega
        cases he : t.e with
        | none => rw [he] at hk; simp [Eff.keys] at hk
        | turn q o => rw [he] at heff; exact all heff.1
        | swap q o => rw [he] at heff; exact all heff.1
        | drop ks => rw [he] at heff; exact all heff.1
        | new o =>
          rw [he] at hk
          simp only [Eff.keys, List.mem_singleton] at hk
          refine eff_writers hB hF hm hL hoj hj hr (by rw [exAt_of hoj]; exact okEff_ex heff (by rw [he]; simp)) hTr hu huw huk (fun hki => ?_) hne
          exact .inl (by omega)
    rw [h1, hat]
    simp only [Tr.obj, hw, if_true]
    cases he : t.e with
    | none => rw [he] at hk; simp [Eff.keys] at hk
    | new o =>
      rw [he] at hk
      simp only [Eff.keys, List.mem_singleton] at hk
      simp only [Eff.app, hk, upd1_self]
    | turn q o =>
      rw [he] at hk
      simp only [Eff.keys, List.mem_singleton] at hk
      simp only [Eff.app, hk, upd1_self]
    | swap q o =>
      rw [he] at hk
      simp only [Eff.keys, List.mem_cons, List.not_mem_nil, or_false] at hk
      simp only [Eff.app, upd1]
      rcases hk with hk | hk
      · by_cases h2 : k = base + j
        · rw [if_pos h2, if_pos h2]
        · rw [if_neg h2, if_neg h2, if_pos hk, if_pos hk]
      · rw [if_pos hk, if_pos hk]
    | drop ks =>
      rw [he] at hk
      simp only [Eff.keys] at hk
      simp only [Eff.app, hk, if_true]
  · have h1 : foldO (upL L j) base 0 tr O0 k = foldO L base 0 tr O0 k := foldO_congr tr 0 O0 O0 rfl fun i u hu huw huk => by
      rw [Nat.zero_add] at huk ⊢
      unfold upL
      rw [if_neg]
      rintro rfl
      rw [ht] at hu
      injection hu with hu
      subst hu
      exact hk ⟨huw, huk⟩
    rw [h1]
    unfold Tr.obj
    split
    · rename_i hw
      exact (Eff.app_ne fun h => hk ⟨hw, h⟩).symm
    · rfl

theorem obj_same (hB : bitsOk ops.toList B = true) (hF : effsOk ops B effs = true) (hm : tr.map Tr.o = ops.toList) (hL : Closed ops L) {j : Nat} {t : Tr} (ht : tr[j]? = some t) (hTr : Trace P gl ops.toList B effs base 0 E0 O0 tr) (hj : L j = false)
    (hr : ∀ e ∈ t.o.after, Region.binds .any e = true → L e.on = true) (hx : exAt ops j = false) {k : Nat} (hk : k < base ∨ (B.getD j 0).testBit (k - base) = true) : foldO L base 0 tr O0 k = foldO (below j) base 0 tr O0 k := by
  have hoj := tr_op hm ht
  refine foldO_congr tr 0 O0 O0 rfl fun i u hu huw huk => ?_
  rw [Nat.zero_add] at huk ⊢
  by_cases hne : i = j
  · subst hne; rw [hj]; simp [below]
  · refine eff_writers hB hF hm hL hoj hj hr hx hTr hu huw huk (fun hki => ?_) hne
    rcases hk with h | h
    · omega
    · rw [hki, Nat.add_sub_cancel_left] at h
      exact .inr (.inl h)

/-- Whatever order is drawn. -/
theorem drawn_any {c : Ctx} {Q : Exit → Act → World → Prop} (hgl : c.gl = gl) (hB : bitsOk ops.toList B = true) (hA : apartOk ops B = true) (hF : effsOk ops B effs = true) (hd : ops.toList.all (dstOk nt) = true) (hm : tr.map Tr.o = ops.toList) (hTr : Trace P gl ops.toList B effs base 0 E0 O0 tr)
    (hend : ∀ a w σ, SRep c (foldE (fun _ => true) 0 tr E0) (foldO (fun _ => true) base 0 tr O0) (fun k => k < base + ops.size) nt a w σ → Q .normal a w) :
    ∀ (fuel : Nat) (listed : Array Bool) (a : Act) (w : World) (σ : Nat → Value), listed.size = ops.size → Closed ops (fun j => listed.getD j false) → ((List.range ops.size).filter fun j => !listed.getD j false).length = fuel →
      SRep c (foldE (fun j => listed.getD j false) 0 tr E0) (foldO (fun j => listed.getD j false) base 0 tr O0) (fun k => k < base ∨ ∃ i, listed.getD i false = true ∧ k = base + i) nt a w σ → wpAny P .any ops Q fuel listed a w := by
  have hlen : tr.length = ops.size := by have := congrArg List.length hm; simpa using this
  have getD_tf : ∀ (listed : Array Bool) (j : Nat), listed.size = ops.size → j < ops.size → listed.getD j true = listed.getD j false := fun listed j hs hj => by
    have : j < listed.size := by omega
    simp [Array.getD_eq_getD_getElem?, this]
  -- all are listed if none is ready
  have allListed : ∀ (listed : Array Bool), listed.size = ops.size → Region.ready .any ops listed = [] → ∀ j, j < ops.size → listed.getD j false = true := by
    intro listed hs hr j
    induction j using Nat.strongRecOn with
    | _ j ih =>
      intro hj
      cases hl : listed.getD j false with
      | true => rfl
      | false =>
        have hmem : j ∈ Region.ready .any ops listed := by
          rw [mem_ready]
          refine ⟨by rw [getD_tf listed j hs hj]; exact hl, ops[j], Array.getElem?_eq_getElem hj, fun e he hb => ?_⟩
          have h1 := zip_all hB (show ops.toList[j]? = some ops[j] by simp [hj])
          simp only [Bool.and_eq_true] at h1
          have h2 := Array.all_eq_true_iff_forall_mem.1 h1.1 e he
          simp [hb] at h2
          exact ih e.on h2 (by omega)
        rw [hr] at hmem
        cases hmem
  have atEnd : ∀ (listed : Array Bool) (a : Act) (w : World) (σ : Nat → Value), listed.size = ops.size → (∀ j, j < ops.size → listed.getD j false = true) →
      SRep c (foldE (fun j => listed.getD j false) 0 tr E0) (foldO (fun j => listed.getD j false) base 0 tr O0) (fun k => k < base ∨ ∃ i, listed.getD i false = true ∧ k = base + i) nt a w σ → Q .normal a w := fun listed a w σ hs hall h => by
    have e1 : foldE (fun j => listed.getD j false) 0 tr E0 = foldE (fun _ => true) 0 tr E0 := by
      funext d
      exact foldE_congr tr 0 E0 E0 rfl fun i t ht _ => by
        have : i < tr.length := (List.getElem?_eq_some_iff.1 ht).1
        rw [Nat.zero_add]
        exact hall i (by omega)
    have e2 : foldO (fun j => listed.getD j false) base 0 tr O0 = foldO (fun _ => true) base 0 tr O0 := by
      funext d
      exact foldO_congr tr 0 O0 O0 rfl fun i t ht _ _ => by
        have : i < tr.length := (List.getElem?_eq_some_iff.1 ht).1
        rw [Nat.zero_add]
        exact hall i (by omega)
    rw [e1, e2] at h
    refine hend a w σ (h.al_ext fun k hk => ?_)
    rcases hk with hk | ⟨i, hi, rfl⟩
    · omega
    · have : i < listed.size := by
        rcases Nat.lt_or_ge i listed.size with h' | h'
        · exact h'
        · simp [Array.getD_eq_getD_getElem?, h'] at hi
      omega
  intro fuel
  induction fuel with
  | zero =>
    intro listed a w σ hs _ hf h
    have hall : ∀ j, j < ops.size → listed.getD j false = true := fun j hj => by
      cases hl : listed.getD j false with
      | true => rfl
      | false =>
        have : j ∈ (List.range ops.size).filter fun j => !listed.getD j false := List.mem_filter.2 ⟨List.mem_range.2 hj, by rw [hl]; rfl⟩
        rw [List.eq_nil_of_length_eq_zero hf] at this
        cases this
    refine ⟨List.eq_nil_iff_forall_not_mem.2 fun j hj => ?_, atEnd listed a w σ hs hall h⟩
    rw [mem_ready] at hj
    obtain ⟨h1, o, ho, _⟩ := hj
    have hjl : j < ops.size := (Array.getElem?_eq_some_iff.1 ho).1
    rw [getD_tf listed j hs hjl, hall j hjl] at h1
    cases h1
  | succ fuel ih =>
    intro listed a w σ hs hcl hf h
    refine ⟨fun hr => atEnd listed a w σ hs (allListed listed hs hr) h, fun j hjr => ?_⟩
    rw [mem_ready] at hjr
    obtain ⟨hj1, oj, hoj, hedges⟩ := hjr
    have hjl : j < ops.size := (Array.getElem?_eq_some_iff.1 hoj).1
    rw [getD_tf listed j hs hjl] at hj1
    obtain ⟨t, ht⟩ : ∃ t, tr[j]? = some t := ⟨tr[j], List.getElem?_eq_getElem (by omega)⟩
    have hto := tr_op hm ht
    rw [hoj] at hto
    injection hto with hto
    subst hto
    have hok := (trace_at tr 0 E0 O0 hTr j t ht).1
    rw [Nat.zero_add] at hok
    have hup : ∀ i, (listed.setIfInBounds j true).getD i false = upL (fun j => listed.getD j false) j i := fun i => by
      unfold upL
      by_cases hij : i = j
      · subst hij
        have : i < listed.size := by omega
        simp [Array.getD_eq_getD_getElem?, this]
      · rw [if_neg hij]
        simp [Array.getD_eq_getD_getElem?, Array.getElem?_setIfInBounds_ne (Ne.symm hij)]
    have hupf : (fun i => (listed.setIfInBounds j true).getD i false) = upL (fun j => listed.getD j false) j := funext hup
    have hcl' : Closed ops (fun i => (listed.setIfInBounds j true).getD i false) := by
      rw [hupf]
      intro q o ho hq e he hb
      unfold upL at hq ⊢
      by_cases heq : e.on = j
      · rw [if_pos heq]
      · rw [if_neg heq]
        by_cases hqj : q = j
        · subst hqj
          rw [hoj] at ho
          injection ho with ho
          subst ho
          exact hedges e he hb
        · rw [if_neg hqj] at hq
          exact hcl q o ho hq e he hb
    have hcount : ((List.range ops.size).filter fun i => !(listed.setIfInBounds j true).getD i false).length = fuel := by
      have h1 : ∀ (l : List Nat), l.Nodup → j ∈ l → (l.filter fun i => !(listed.setIfInBounds j true).getD i false).length + 1 = (l.filter fun i => !listed.getD i false).length := by
        intro l
        induction l with
        | nil => intro _ h; cases h
        | cons x r ihr =>
          intro hn hmem
          rw [List.nodup_cons] at hn
          by_cases hxj : x = j
          · subst hxj
            have h2 : (r.filter fun i => !(listed.setIfInBounds x true).getD i false) = r.filter fun i => !listed.getD i false := List.filter_congr fun i hi => by
              rw [hup i]
              unfold upL
              rw [if_neg]
              rintro rfl
              exact hn.1 hi
            rw [List.filter_cons, List.filter_cons, hup x, h2]
            simp [upL, hj1]
          · have hjr : j ∈ r := by
              rcases List.mem_cons.1 hmem with h' | h'
              · exact absurd h'.symm hxj
              · exact h'
            have h2 := ihr hn.2 hjr
            have hx' : (listed.setIfInBounds j true).getD x false = listed.getD x false := by
              rw [hup x]
              unfold upL
              rw [if_neg hxj]
            cases hlx : listed.getD x false with
            | false =>
              rw [List.filter_cons_of_pos (by rw [hx', hlx]; rfl), List.filter_cons_of_pos (by rw [hlx]; rfl)]
              simp only [List.length_cons]
              omega
            | true =>
              rw [List.filter_cons_of_neg (by rw [hx', hlx]; simp), List.filter_cons_of_neg (by rw [hlx]; simp)]
              exact h2
      have := h1 (List.range ops.size) List.nodup_range (List.mem_range.2 hjl)
      omega
    have henv := env_step hB hA hm hcl ht hTr hj1 hedges
    have hobj := obj_step hB hF hm hcl ht hTr hj1 hedges
    have hal : ∀ k, (k < base ∨ ∃ i, (listed.setIfInBounds j true).getD i false = true ∧ k = base + i) ↔ ((k < base ∨ ∃ i, listed.getD i false = true ∧ k = base + i) ∨ k = base + j) := fun k => by
      constructor
      · rintro (hk | ⟨i, hi, rfl⟩)
        · exact .inl (.inl hk)
        · rw [hup i] at hi
          unfold upL at hi
          by_cases hij : i = j
          · exact .inr (by rw [hij])
          · rw [if_neg hij] at hi
            exact .inl (.inr ⟨i, hi, rfl⟩)
      · rintro ((hk | ⟨i, hi, rfl⟩) | rfl)
        · exact .inl hk
        · refine .inr ⟨i, ?_, rfl⟩
          rw [hup i]
          unfold upL
          by_cases hij : i = j
          · rw [if_pos hij]
          · rw [if_neg hij]; exact hi
        · exact .inr ⟨j, by rw [hup j]; simp [upL], rfl⟩
    have next : ∀ a' w' σ', SRep c (t.env (foldE (fun j => listed.getD j false) 0 tr E0)) (t.obj (base + j) (foldO (fun j => listed.getD j false) base 0 tr O0)) (fun k => (k < base ∨ ∃ i, listed.getD i false = true ∧ k = base + i) ∨ k = base + j) nt a' w' σ' →
        wpAny P .any ops Q fuel (listed.setIfInBounds j true) a' w' := fun a' w' σ' h' => by
      refine ih (listed.setIfInBounds j true) a' w' σ' (by simpa using hs) hcl' hcount ?_
      rw [hupf, henv, hobj]
      exact h'.al_ext fun k hk => (hal k).2 hk
    have hdj : dstOk nt t.o = true := List.all_eq_true.1 hd t.o (by rw [← hm]; exact List.mem_map.2 ⟨t, List.mem_of_getElem? ht, rfl⟩)
    have hwant : ∀ b, WantE ops.toList t.o (foldE (below j) 0 tr E0) b → Region.wanted t.o (yielded ops a.tmps) = b := fun b hwb => by
      unfold WantE at hwb
      cases hg : t.o.guard with
      | none => rw [hg] at hwb; simp only at hwb; simp [Region.wanted, hg, hwb]
      | some jb =>
        obtain ⟨g, want⟩ := jb
        rw [hg] at hwb
        obtain ⟨og, tt, h1, h2, h34⟩ := hwb
        have hlook : tt ∈ t.o.looksAt ops := by
          have : (ops[g]?).bind (·.dst) = some tt := by
            have h1' : ops[g]? = some og := by simpa using h1
            rw [h1']; exact h2
          simp [Oper.looksAt, hg, this]
        have h5 := env_same (E0 := E0) hB hA hm hcl hoj hj1 hedges hlook
        rw [← h5] at h34
        rcases h34 with ⟨cc, h3, h4⟩ | ⟨h3, h4⟩
        · have hv := rep_bool (h.env tt _ h3)
          have hy := yielded_of h1 h2 hv
          simp only [Region.wanted, hg, hy, h4]
          cases cc <;> cases want <;> rfl
        · have hy := yielded_none h1 h2 (rep_und' (h.env tt _ h3))
          simp only [Region.wanted, hg, hy, h4]
          rfl
    unfold wpOp
    simp only [hoj]
    rcases hok with ⟨hw, hwe, htouch, hst, heff⟩ | ⟨hw, hwe⟩
    · rw [if_pos (hwant true hwe)]
      refine .inl (hst c _ _ (fun k => k < base ∨ ∃ i, listed.getD i false = true ∧ k = base + i) nt a w σ hgl h ?_ ⟨fun x hx => ?_, fun x hx y hy k hk => ?_⟩ _ _ fun v' w' σ' hs' hx => next _ w' σ' ?_)
      · rintro (hk | ⟨i, hi, hk⟩)
        · omega
        · have : i = j := by omega
          subst this
          rw [hj1] at hi
          cases hi
      · cases x with
        | tmp d =>
          have hlook : d ∈ t.o.looksAt ops := List.mem_append_left _ (List.mem_filterMap.2 ⟨.tmp d, by simpa using hx, rfl⟩)
          exact env_same (E0 := E0) hB hA hm hcl hoj hj1 hedges hlook
        | const v => rfl
        | global g => rfl
        | func f => rfl
      · have hk' := touchL_spec htouch.1 x (by simpa using hx) y hy k hk
        refine obj_same hB hF hm hcl ht hTr hj1 hedges ?_ hk'
        rw [exAt_of hoj]
        cases hex : isEx t.o.op with
        | false => rfl
        | true =>
          have := exL_spec htouch.2 hex x hx y hy
          rw [this] at hk
          cases hk
      · unfold Tr.obj Tr.env
        rw [if_pos hw]
        cases hdst : t.o.dst with
        | none =>
          simp only [hw, if_true]
          exact hs'
        | some d =>
          simp only [dstOk, hdst, decide_eq_true_eq] at hdj
          simp only [hw, if_true]
          cases hv : t.v with
          | none => exact hs'.wipe
          | some x => exact hs'.put hdj (hx x hv)
    · rw [if_neg (by rw [hwant false hwe]; simp)]
      refine next _ w σ ?_
      unfold Tr.obj Tr.env
      rw [hw]
      simp only [Bool.false_eq_true, if_false]
      have h' := h.al_ext (al' := fun k => (k < base ∨ ∃ i, listed.getD i false = true ∧ k = base + i) ∨ k = base + j) fun k hk => .inl hk
      cases hdst : t.o.dst with
      | none => exact h'
      | some d =>
        simp only [dstOk, hdst, decide_eq_true_eq] at hdj
        exact h'.put hdj rep_und
end
end Go.Proofs.Ytopgjmoajkcdnaa

/- Stores into own rows; conversions between strings and bytes; what is forgotten. -/
import Derived.Test.YtopgjmoajkcdnaaAbs11
import Derived.Laws.BytesArg
import Derived.Lib.ConvBytes
namespace Go.Proofs.Ytopgjmoajkcdnaa
set_option linter.all false
open Go Go.RowKit

theorem flat_splice {α : Type} {sz : Nat} : ∀ {xs : List (List α)}, (∀ x ∈ xs, x.length = sz) → ∀ {j : Nat} {x : List α}, xs[j]? = some x → ∀ o new, o + new.length ≤ sz → (xs.set j (splice x o new)).flatten = splice xs.flatten (j * sz + o) new := by
  intro xs h j x hx o new ho
  have hj : j < xs.length := (List.getElem?_eq_some_iff.1 hx).1
  have hxl : x.length = sz := h x (List.mem_of_getElem? hx)
  have hjs : j * sz + sz ≤ xs.length * sz := by rw [← Nat.succ_mul]; exact Nat.mul_le_mul_right _ hj
  have hfl := flat_len h
  have h' : ∀ y ∈ xs.set j (splice x o new), y.length = sz := fun y hy => by
    rcases List.mem_or_eq_of_mem_set hy with hy | rfl
    · exact h y hy
    · rw [splice_len _ _ _ (by omega), hxl]
  have hfl' := flat_len h'
  rw [List.length_set] at hfl'
  apply List.ext_getElem?
  intro i
  rw [splice_get _ _ _ (by omega)]
  by_cases hi : i < xs.length * sz
  · by_cases hs0 : sz = 0
    · subst hs0; simp at hi
    · have hpos : 0 < sz := by omega
      have hq : i / sz < xs.length := (Nat.div_lt_iff_lt_mul hpos).2 hi
      have hr : i % sz < sz := Nat.mod_lt _ hpos
      have hdm : i = (i / sz) * sz + i % sz := (Nat.div_add_mod' i sz).symm
      by_cases hij : i / sz = j
      · have e1 : (xs.set j (splice x o new))[i / sz]? = some (splice x o new) := by rw [hij, List.getElem?_set_self hj]
        have e2 := flat_at h' e1 (i % sz) hr
        rw [← hdm] at e2
        rw [e2, splice_get _ _ _ (by omega)]
        have e3 := flat_at h (show xs[i / sz]? = some x by rw [hij]; exact hx) (i % sz) hr
        rw [← hdm] at e3
        rw [e3]
        rw [hij] at hdm
        by_cases hc : o ≤ i % sz ∧ i % sz < o + new.length
        · rw [if_pos hc, if_pos (by omega)]; congr 1; omega
        · rw [if_neg hc, if_neg (by omega)]
      · have e1 : (xs.set j (splice x o new))[i / sz]? = some xs[i / sz] := by rw [List.getElem?_set_ne (fun e => hij e.symm)]; exact List.getElem?_eq_getElem hq
        have e2 := flat_at h' e1 (i % sz) hr
        rw [← hdm] at e2
        have e3 := flat_at h (List.getElem?_eq_getElem hq) (i % sz) hr
        rw [← hdm] at e3
        rw [e2, e3, if_neg]
        rintro ⟨g1, g2⟩
        apply hij
        have h9 : (sz * j + (i - j * sz)) / sz = j := by
          rw [Nat.mul_add_div hpos, Nat.div_eq_of_lt (by omega), Nat.add_zero]
        rw [Nat.mul_comm sz j, show j * sz + (i - j * sz) = i by omega] at h9
        exact h9
  · rw [List.getElem?_eq_none (by omega), if_neg (by omega), List.getElem?_eq_none (by omega)]

theorem splice_take {α : Type} (cs : List α) (n : Nat) (new : List α) (m : Nat) (h : n + new.length ≤ m) (hm : m ≤ cs.length) : (splice cs n new).take m = splice (cs.take m) n new := by
  apply List.ext_getElem?
  intro i
  rw [splice_get _ _ _ (by rw [List.length_take]; omega), List.getElem?_take, splice_get _ _ _ (by omega), List.getElem?_take]
  by_cases hi : i < m
  · simp [hi]
  · rw [if_neg hi, if_neg hi, if_neg (by omega)]

section
variable {P : Program} {E : Nat → Option AV} {O : Nat → Option Obj1} {gl : List (Nat × List D)} {o : Oper} {id : Nat}

theorem st_store_elt {t k sz j off : Nat} {fr : Bool} {te : Nat} {xs : List (List D)} {x v : Operand} {y : AV} {e ds : List D} {i : TI} (hi : i.ok P t) (ho : o.op = .store t x v) (hx : getE gl E x = some (.elt k sz j off)) (hO : O k = some (.row fr te sz xs)) (hv : getE gl E v = some y)
    (ht : y.isTup = false) (hds : allD y.cells = some ds) (hsz : ds.length = i.size) (he : xs[j]? = some e) (hfit : off + ds.length ≤ sz) : Step P gl E O o id none (.turn k (.row fr te sz (xs.set j (splice e off ds)))) :=
  .skip fun c E' O' al nt a w σ hgl hs hid hag => by
    subst hgl
    have hm : x ∈ o.op.operands := by simp [ho, Op.operands]
    have hm2 : v ∈ o.op.operands := by simp [ho, Op.operands]
    have h1 := hs.get (hag.get hm hx)
    have h2 := hs.get (hag.get hm2 hv)
    have hO' : O' k = some (.row fr te sz xs) := (hag.o x hm _ hx k (by simp [AV.ids])).trans hO
    have hnot : ∀ k', y = .own k' → False := fun k' hk => by subst hk; simp [AV.cells, allD] at hds
    obtain ⟨us, u1, u2, u3, u4⟩ := h2.cells ht (fun k' hk => (hnot k' hk).elim)
    have hdl := allD_eq hds
    rw [hdl] at u2 u4
    rw [List.length_map] at u2
    obtain ⟨b, hb, hva⟩ := h1.toA.elt_inv
    obtain ⟨vs, f1, f2, f3, f4, f5, f6⟩ := row_facts (hs.own k _ hO').2
    have hj : j < xs.length := (List.getElem?_eq_some_iff.1 he).1
    have hjs : j * sz + sz ≤ xs.length * sz := by rw [← Nat.succ_mul]; exact Nat.mul_le_mul_right _ hj
    rcases f1.2 with ⟨_, e2⟩ | ⟨g, cap, cur, e1, e2, e3, e4, e5, e6, e7⟩
    · omega
    · rw [e1] at hb
      simp [blkOf] at hb
      subst hb
      have hcur : w.heap[g]? = some (.cells cur.toList.toArray te (0, 0)) := by simpa using e3
      have hcl : cur.toList.length = cap * sz := by simpa using e6
      have hns : xs.length * sz ≤ cap * sz := Nat.mul_le_mul_right _ e4
      obtain ⟨w', hr, hh', hgo⟩ := run_storeCells_list P g (j * sz + off) us cur.toList 0 w hcur (by omega) u3
      have hbk : blkOf (σ k) = some g := by rw [e1]; rfl
      have hel : e.length = sz := f4 e (List.mem_of_getElem? he)
      have hset : ∀ z ∈ xs.set j (splice e off ds), z.length = sz := fun z hz => by
        rcases List.mem_or_eq_of_mem_set hz with hz | rfl
        · exact f4 z hz
        · rw [splice_len _ _ _ (by omega), hel]
      have hturn := (hs.al_ext (al' := fun j => al j ∨ j = id) fun _ => .inl).turn (w' := w') (o' := .row fr te sz (xs.set j (splice e off ds))) hO' (by rw [hbk]; exact hgo) rfl (fun ok' hkp => by
        refine row_mk (vs := splice vs (j * sz + off) us) ?_ f2 (by rw [List.length_set]; exact f3) hset (fun u hu => ?_) (fun m cc u hc hu => ?_)
        · rw [List.length_set, e1]
          refine ⟨by rw [splice_len _ _ _ (by rw [f1.1]; omega), f1.1], .inr ⟨g, cap, _, rfl, Nat.zero_le _, hh', e4, e5, ?_, ?_⟩⟩
          · rw [List.size_toArray, splice_len _ _ _ (by omega), hcl]
          · show (splice cur.toList (j * sz + off + 0) us).take (xs.length * sz) = _
            rw [Nat.add_zero, splice_take _ _ _ _ (by omega) (by omega), e7]
        · obtain ⟨q, hq⟩ := List.mem_iff_getElem?.1 hu
          rw [splice_get _ _ _ (by rw [f1.1]; omega)] at hq
          split at hq
          · exact u3 u (List.mem_of_getElem? hq)
          · exact f5 u (List.mem_of_getElem? hq)
        · rw [flat_splice f4 he off ds hfit, splice_get _ _ _ (by rw [flat_len f4]; omega)] at hc
          rw [splice_get _ _ _ (by rw [f1.1]; omega), u2] at hu
          split at hu
          · rename_i hcnd
            rw [if_pos hcnd] at hc
            exact ((u4 _ (.d cc) u (by simp [hc]) hu).d_inv).mono hkp
          · rename_i hcnd
            rw [if_neg hcnd] at hc
            exact (f6 m cc u hc hu).mono hkp)
      refine ⟨w', σ, ?_, hturn⟩
      have hus : us.length = i.size := by omega
      simp [execOp, ho, hva, Instr.storeAt, Instr.sureAddr, storeVar, hi.sizeOf, u1, hus, hr]

/-! ### Strings and bytes -/
def encB (b : UInt8) : List D := [.int .u8 b.toNat]

theorem bytes_flat (l : List UInt8) (i : Nat) : (l.map encB).flatten[i]? = (l[i]?).map fun q : UInt8 => D.int .u8 q.toNat := by
  induction l generalizing i with
  | nil => simp
  | cons q r ih => cases i with
    | zero => simp [encB]
    | succ i => simp [encB]; exact ih i

theorem st_bytes {s t te : Nat} {i j : TI} {x : Operand} {b : ByteArray} (hi : i.ok P t) (hk : i.k = .slice te 1) (hte : P.underlying te = some (.int .u8)) (hj : j.ok P s) (hjk : j.k = .str) (ho : o.op = .convert s t x) (hx : getE gl E x = some (.d (.str b))) : Step P gl E O o id (some (.d (.slice (b.data.toList.map encB)))) .none :=
  .run fun c E' O' al nt a w σ hgl hs hid hag => by
    subst hgl
    obtain ⟨h1, h2⟩ := rep_str (hs.get (hag.get (x := x) (by simp [ho, Op.operands]) hx))
    have hb := hi.k
    rw [hk] at hb
    have hc := hj.k
    rw [hjk] at hc
    have hg : Go1 w (Lib.bytesWorld w te b) none := ⟨rfl, rfl, rfl, by rw [Lib.bytesWorld_size]; omega, fun q hq _ => Lib.bytesWorld_at_old w te b q hq⟩
    have hn := (hs.grow hg).al_ext (al' := fun j => al j ∨ j = id) fun _ => .inl
    have hrun := Lib.run_convert_string_bytes (P := P) w s t te b hc hb.1 hte
    refine ⟨.slice (some ⟨w.heap.size, 0, none⟩) b.size (grownCap w b.size 0 te), _, σ, by simp [execOp, ho, h1, hrun], hn, .of_d ?_⟩
    by_cases h0 : b.size = 0
    · have hd0 : b.data.toList = [] := List.eq_nil_of_length_eq_zero (by simpa using h0)
      rw [h0, hd0]
      exact .empty _ _
    · have hlen : (b.data.toList.map encB).length = b.size := by simp
      have hone : ∀ e ∈ b.data.toList.map encB, e.length = 1 := fun e he => by
        obtain ⟨q, _, rfl⟩ := List.mem_map.1 he
        rfl
      have hfl := flat_len hone
      have := Rep.slice (w := Lib.bytesWorld w te b) (ok := okk c (Eff.none.app id O') σ (Lib.bytesWorld w te b)) (b.data.toList.map encB) w.heap.size 0 (grownCap w b.size 0 te) 1 (fun i => .int .u8 (b.data.toList.getD i 0).toNat)
        ⟨by rw [Lib.bytesWorld_size]; omega, .inr hs.size, fun k ob hk he => by
          have := (hs.own k ob hk).2.toO.lt _ he
          omega⟩
        (by rw [hlen]; exact grownCap_ge w b.size 0 te) (by rw [hlen]; exact h2) hone
        (fun i hi => by
          rw [hfl, hlen, Nat.mul_one] at hi
          rw [Nat.zero_add]
          exact Lib.bytesWorld_cell w te b i hi) (fun i => rfl)
        (fun i cc hcc => by
          rw [bytes_flat, Option.map_eq_some_iff] at hcc
          obtain ⟨q, hq, rfl⟩ := hcc
          rw [List.getD_eq_getElem?_getD, hq]
          exact .int _ _)
      rw [hlen] at this
      exact this

/-- string(bytes), of bytes that are read. -/
theorem st_strof {s t te : Nat} {i j : TI} {x : Operand} {l : List UInt8} (hi : i.ok P t) (hk : i.k = .str) (hj : j.ok P s) (hjk : j.k = .slice te 1) (hte : P.underlying te = some (.int .u8)) (ho : o.op = .convert s t x) (hx : getE gl E x = some (.d (.slice (l.map encB)))) :
    Step P gl E O o id (some (.d (.str ⟨l.toArray⟩))) .none :=
  .val fun c E' O' al nt a w σ hgl hs hag => by
    subst hgl
    have h1 := (hs.get (hag.get (x := x) (by simp [ho, Op.operands]) hx)).d_inv
    have hb := hi.k
    rw [hk] at hb
    have hc := hj.k
    rw [hjk] at hc
    have hstr : l.length ≤ maxLen → Rep w (okk c O' σ w) (.str ⟨l.toArray⟩) (.string ⟨l.toArray⟩) := fun h => .str _ h
    generalize hxs : l.map encB = xs at h1
    generalize hv : a.eval x = v at h1
    cases h1 with
    | nil =>
      have : l = [] := by simpa using hxs
      subst this
      exact ⟨.string ⟨#[]⟩, by simp only [execOp, ho, Sem.run_bind, hv, run_convert_bytes_nil w s te hc.1 hte 0 0 t hb]; rfl, .of_d (hstr (by simp))⟩
    | empty ad cap =>
      have : l = [] := by simpa using hxs
      subst this
      obtain ⟨bb, off, sp⟩ := ad
      refine ⟨.string ⟨#[]⟩, ?_, .of_d (hstr (by simp))⟩
      have h0 : (loadCells ⟨bb, off, sp⟩ 0).run P w = .ok (([] : List Int).map (Value.int .u8)).toArray w := by simp [loadCells, loadCellsFrom]
      simp only [execOp, ho, Sem.run_bind, hv, run_convert_bytes_string w s t te _ 0 cap hc.1 hte hb, run_bytesToString w _ 0 cap [] h0]
      rfl
    | slice _ b off cap sz f hok hcap hmax hsz hcc hh1 h =>
      subst hxs
      have hlen : (l.map encB).length = l.length := by simp
      have hone : ∀ e ∈ l.map encB, e.length = 1 := fun e he => by
        obtain ⟨q, _, rfl⟩ := List.mem_map.1 he
        rfl
      have hfl := flat_len hone
      have hcell : ∀ i, i < (l.map encB).length → w.cell? ⟨b, off + i, none⟩ = some (.int .u8 ((l.map fun q : UInt8 => (q.toNat : Int)).getD i 0)) := fun i hi => by
        have h3 := hcc i (by rw [hfl]; omega)
        rw [h3]
        rw [hlen] at hi
        have h4 := h i (.int .u8 l[i].toNat) (by rw [bytes_flat]; simp [hi])
        cases hf : f i with
        | int k n =>
          rw [hf] at h4
          cases h4
          simp [List.getD_eq_getElem?_getD, hi]
        | _ => rw [hf] at h4; cases h4
      have hr := run_convert_bytes_arg (P := P) w s te hc.1 hte b off (l.map encB).length cap (l.map fun q : UInt8 => (q.toNat : Int)) (by simp) hcell t hb
      have hs2 : strOfNums (l.map fun q : UInt8 => (q.toNat : Int)) = ⟨l.toArray⟩ := by
        simp [strOfNums, Function.comp_def]
      rw [hs2] at hr
      exact ⟨.string ⟨l.toArray⟩, by simp only [execOp, ho, Sem.run_bind, hv, hr, Result.andThen_ok, Sem.run_pure], .of_d (hstr (by omega))⟩
end
end Go.Proofs.Ytopgjmoajkcdnaa

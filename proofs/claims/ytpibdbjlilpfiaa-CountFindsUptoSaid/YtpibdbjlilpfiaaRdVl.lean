/- How values, and bytes, are read. -/
import Derived.Test.YtpibdbjlilpfiaaRdNd
import Derived.Test.YtpibdbjlilpfiaaVal
namespace Go.Proofs.Ytpibdbjlilpfiaa
set_option linter.all false
open Go Go.RowKit
open Nat (reduceEqDiff reduceAdd reduceMul reduceSub reduceLeDiff)
open Int (reduceEq reduceLT reduceLE)

section
variable {H : Type} {enc : TypeId × Value → H} {w : World}
theorem cells_u8 : Try.prog.cellsOf 5 = 1 := by kernel_rfl
theorem cells_val : Try.prog.cellsOf 27 = 5 := by kernel_rfl
theorem cells_vals : Try.prog.cellsOf 25 = 1 := by kernel_rfl
theorem upto_mem : ∀ {l : List (DataW H)} {i : Nat} {d : DataW H}, l[i]? = some d → Rows.uptoBulk d ≤ Rows.uptoBulkAll l
  | x :: r, 0, d, h => by simp at h; subst h; rw [Rows.uptoBulkAll]; omega
  | x :: r, i + 1, d, h => by
    have := upto_mem (l := r) (i := i) (by simpa using h)
    rw [Rows.uptoBulkAll]; omega
theorem upto_sum {G : Vl → DataW H → Prop} (hG : ∀ v d, G v d → v.bulk ≤ Rows.uptoBulk d) : ∀ {l : List Vl} {es : List (DataW H)}, es.length = l.length → (∀ (i : Nat) a d, l[i]? = some a → es[i]? = some d → G a d) → Vl.bulkL l ≤ Rows.uptoBulkAll es
  | [], _, _, _ => by simp [Vl.bulkL]
  | x :: r, [], h, _ => by simp at h
  | x :: r, e :: es, h, hg => by
    have h1 := hG x e (hg 0 x e rfl rfl)
    have h2 := upto_sum hG (l := r) (es := es) (by simpa using h) (fun i a d ha hd => hg (i + 1) a d (by simpa using ha) (by simpa using hd))
    rw [Vl.bulkL, Rows.uptoBulkAll]
    omega
set_option maxRecDepth 100000 in
theorem rd_val : ∀ (fuel : Nat) {cs : List Value} {x : DataW H × List MemPlace}, DataW.trod enc Try.prog w 0 (fun _ => true) true fuel 27 cs = some x → ∃ v : Vl, (v.Wf ∧ v.bulk ≤ Rows.uptoBulk x.1) ∧ CellsOk w v.cells cs := by
  intro fuel
  induction fuel using Nat.strongRecOn with
  | _ fuel ih =>
  intro cs x h
  obtain ⟨xs, m, rfl, rfl, hl, hxl, hf⟩ := DataW.trod_struct Try.underlying27 h
  rw [cells_val] at hl
  match cs, hl with
  | [v0, v1, v2, v3, v4], _ =>
  match xs, hxl with
  | [x0, x1, x2, x3, x4], _ =>
  have h0 := hf 0 _ rfl
  have h1 := hf 1 _ rfl
  have h2 := hf 2 _ rfl
  have h3 := hf 3 _ rfl
  have h4 := hf 4 _ rfl
  simp only [List.getElem_toArray, List.getElem_cons_zero, List.getElem_cons_succ, cells_int, cells_u8, cells_str, cells_vals, List.drop_zero, List.drop_succ_cons, List.take_succ_cons, List.take_zero, List.getElem?_cons_zero, List.getElem?_cons_succ] at h0 h1 h2 h3 h4
  obtain ⟨n0, e0, rfl, w0⟩ := DataW.trod_int Try.underlying3 h0
  obtain ⟨n1, e1, rfl, w1⟩ := DataW.trod_int Try.underlying5 h1
  obtain ⟨s, e2, rfl, hs⟩ := DataW.trod_string Try.underlying9 h2
  obtain ⟨n3, e3, rfl, w3⟩ := DataW.trod_int Try.underlying3 h3
  obtain ⟨l, u, e4, r1, r2, r3⟩ := rd_sliceN Try.underlying25 cells_val (by decide) Vl.cells Vl.cells_len (fun v d => v.Wf ∧ v.bulk ≤ Rows.uptoBulk d) (fun {n cs x} hn hx => ih n (by omega) hx) h4
  simp only [List.cons.injEq, and_true] at e0 e1 e2 e3 e4
  subst e0 e1 e2 e3 e4
  have wi : ∀ {c : Int}, (Lit.int .i64 c).wf = true → -9223372036854775808 ≤ c ∧ c ≤ 9223372036854775807 := fun {c} h => by
    simpa [Lit.wf, IntKind.min, IntKind.max, IntKind.signed, IntKind.bits] using h
  have wb : ∀ {c : Int}, (Lit.int .u8 c).wf = true → 0 ≤ c ∧ c ≤ 255 := fun {c} h => by
    simpa [Lit.wf, IntKind.min, IntKind.max, IntKind.signed, IntKind.bits] using h
  have hsz : s.data.toList.length = s.size := by rw [Array.length_toList]; rfl
  refine ⟨.mk n0 n1 s n3 l, ⟨.mk _ _ _ _ _ (wi w0) (wb w1) (wi w3) (fun y hy => ?_), ?_⟩, ?_⟩
  · rcases r3 with ⟨rfl, _⟩ | ⟨es, sp, e, hle, hg⟩
    · cases hy
    · obtain ⟨i, hi, rfl⟩ := List.mem_iff_getElem.1 hy
      exact (hg i _ (es[i]'(by omega)) (List.getElem?_eq_getElem hi) (List.getElem?_eq_getElem (by omega))).1
  · rw [Vl.bulk]
    have hk : Vl.bulkL l ≤ Rows.uptoBulk x4.1 := by
      rcases r3 with ⟨rfl, _⟩ | ⟨es, sp, e, hle, hg⟩
      · simp [Vl.bulkL]
      · have := upto_sum (G := fun v d => v.Wf ∧ v.bulk ≤ Rows.uptoBulk d) (fun v d h => h.2) hle hg
        rw [e, Rows.uptoBulk]
        omega
    simp only [List.map_cons, List.map_nil, Rows.uptoBulk, Rows.uptoBulkAll, hsz]
    omega
  · rw [Vl.cells_eq]
    refine ⟨rfl, fun i c v hc hv => ?_⟩
    match i with
    | 0 | 1 | 3 =>
      simp [Vl.kind_mk, Vl.byte_mk, Vl.pick_mk] at hc hv
      subst hc hv
      exact ⟨.int _ _, rfl⟩
    | 2 =>
      simp [Vl.text_mk] at hc hv
      subst hc hv
      exact ⟨.str _ hs, rfl⟩
    | 4 =>
      simp [Vl.kids_mk] at hc hv
      subst hc hv
      exact ⟨r1, r2⟩
    | i + 5 => simp at hc
/-- A value, as it is handed in. -/
theorem rd_value {base : Nat} {v : Value} {d : DataW H} {ps : List MemPlace} (hv : Value.okWide Try.prog w .any base 27 v) (h : DataW.Trod enc Try.prog w 0 (fun _ => true) true 27 v d ps) : ∃ u : Vl, Rep w (okW w) (val u) v ∧ u.Wf ∧ u.bulk ≤ Rows.uptoBulk d := by
  unfold Value.okWide at hv
  rw [Try.underlying27] at hv
  obtain ⟨cs, rfl, hcs, _⟩ := hv
  obtain ⟨fuel, h⟩ := h
  obtain ⟨u, ⟨h1, h2⟩, h3⟩ := rd_val fuel h
  refine ⟨u, ?_, h1, h2⟩
  simp only [Value.cells] at h3
  have hcs' : cs = cs.toList.toArray := by simp
  rw [hcs', val, ← Vl.cells_eq]
  exact .agg u.cells cs.toList h3.1 (fun i c x hc hx => (h3.2 i c x hc hx).1) (fun x hx => by
    obtain ⟨i, hi, rfl⟩ := List.mem_iff_getElem.1 hx
    exact (h3.2 i (u.cells[i]'(by rw [← h3.1]; exact hi)) _ (List.getElem?_eq_getElem _) (List.getElem?_eq_getElem hi)).2)
end
end Go.Proofs.Ytpibdbjlilpfiaa

/- One operation: slice literals, make, append, cuts. -/
import Derived.Test.YtopgjmoajkcdnaaAbs8
import Derived.Laws.Slices
namespace Go.Proofs.Ytopgjmoajkcdnaa
set_option linter.all false
open Go Go.RowKit

section
variable {P : Program} {E : Nat → Option AV} {O : Nat → Option Obj1} {gl : List (Nat × List D)} {o : Oper} {id : Nat}

/-- Parts number k, k + 1, ..: each of 'sz' pure cells. -/
def dense (sz : Nat) : Nat → List (Nat × AV) → Option (List (List D))
  | _, [] => some []
  | k, (i, y) :: r => match allD y.cells, dense sz (k + 1) r with
    | some ds, some xs => if i = k ∧ ds.length = sz ∧ y.isTup = false then some (ds :: xs) else none
    | _, _ => none

theorem dense_rep {al : Nat → Prop} {w : World} {ok : Nat → Prop} {σ : Nat → Value} {sz : Nat} : ∀ {ys : List (Nat × AV)} {k : Nat} {xs : List (List D)} {vals : List (Nat × Value)}, dense sz k ys = some xs → vals.map (·.1) = ys.map (·.1) →
    (∀ (i : Nat) y v, ys[i]? = some y → vals[i]? = some v → RepS al w ok σ y.2 v.2 ∧ ∀ k, y.2 = .own k → v.2.oneCell' = true) →
    vals = ((vals.map (·.2)).zipIdx k).map (fun x => (x.2, x.1)) ∧ (∀ v ∈ vals.map (·.2), v.cells.size = sz) ∧ xs.length = ys.length ∧ vals.length = ys.length ∧ (∀ x ∈ xs, x.length = sz) ∧
      (∀ u ∈ (vals.map (·.2)).flatMap fun v => v.cells.toList, u.oneCell' = true) ∧ ((vals.map (·.2)).flatMap fun v => v.cells.toList).length = xs.flatten.length ∧
      ∀ (i : Nat) c u, xs.flatten[i]? = some c → ((vals.map (·.2)).flatMap fun v => v.cells.toList)[i]? = some u → Rep w ok c u
  | [], k, xs, vals, h, hm, _ => by
    have : vals = [] := by cases vals with | nil => rfl | cons => simp at hm
    subst this
    simp only [dense, Option.some.injEq] at h
    subst h
    simp
  | (i, y) :: r, k, xs, [], h, hm, _ => by simp at hm
  | (i, y) :: r, k, xs, (i', v) :: vals, h, hm, hp => by
    simp only [List.map_cons, List.cons.injEq] at hm
    obtain ⟨rfl, hm⟩ := hm
    simp only [dense] at h
    split at h
    · rename_i ds xs' h1 h2
      split at h
      · rename_i hc
        obtain ⟨rfl, hc2, hc3⟩ := hc
        injection h with h
        subst h
        obtain ⟨hr, ho⟩ := hp 0 (i', y) (i', v) rfl rfl
        obtain ⟨us, u1, u2, u3, u4⟩ := RepS.cells (x := y) (v := v) hr hc3 ho
        have hds := allD_eq h1
        rw [hds] at u2 u4
        have hul : us.length = sz := by rw [u2]; simpa using hc2
        obtain ⟨r1, r2, r3, r4, r5, r6, r7, r8⟩ := dense_rep (vals := vals) h2 hm (fun j y' v' hj hv => hp (j + 1) y' v' (by simpa using hj) (by simpa using hv))
        have hcl : v.cells.toList = us := by rw [u1]
        refine ⟨?_, ?_, by simp [r3], by simp [r4], ?_, ?_, ?_, ?_⟩
        · simp only [List.map_cons, List.zipIdx_cons, List.cons.injEq, true_and]
          exact r1
        · intro u hu
          rcases List.mem_cons.1 hu with hu | hu
          · rw [hu]
            show v.cells.size = sz
            rw [u1]; simpa using hul
          · exact r2 u hu
        · intro x hx
          rcases List.mem_cons.1 hx with rfl | hx
          · exact hc2
          · exact r5 x hx
        · intro u hu
          simp only [List.map_cons, List.flatMap_cons, List.mem_append] at hu
          rcases hu with hu | hu
          · rw [hcl] at hu; exact u3 u hu
          · exact r6 u hu
        · simp only [List.map_cons, List.flatMap_cons, List.length_append, List.flatten_cons, r7, hcl, u2, List.length_map]
        · intro j c u hc hu
          simp only [List.map_cons, List.flatMap_cons, List.flatten_cons, hcl] at hc hu
          by_cases hj : j < ds.length
          · rw [List.getElem?_append_left hj] at hc
            rw [List.getElem?_append_left (by rw [u2]; simpa using hj)] at hu
            exact (u4 j (.d c) u (by simp [hc]) hu).d_inv
          · rw [List.getElem?_append_right (by omega)] at hc
            rw [List.getElem?_append_right (by rw [u2]; simpa using hj), u2, List.length_map] at hu
            exact r8 _ c u hc hu
      · cases h
    · cases h

/-- The slice's own value. -/
theorem rep_own_new {al : Nat → Prop} {w : World} {ok : Nat → Prop} {σ : Nat → Value} (k : Nat) (hk : al k) {v : Value} (h : σ k = v) : RepS al w ok σ (.own k) v := fun τ hτ => by
  rw [← h, ← hτ k hk]
  exact .own k

theorem st_buildSlice {t te sz len : Nat} {i ie : TI} {parts : Array (Nat × Operand)} {ys : List (Nat × AV)} {xs : List (List D)} (hi : i.ok P t) (hk : i.k = .slice te sz) (hie : ie.ok P te) (hsz : ie.size = sz) (hpos : 0 < sz) (ho : o.op = .buildSlice t len parts)
    (hy : getParts (getE gl E) parts.toList = some ys) (how : ownsOk O ys) (hf : dense sz 0 ys = some xs) (hl : xs.length = len) (hsmall : len * sz ≤ 16777216) : Step P gl E O o id (some (.own id)) (.new (.row true te sz xs)) :=
  .run fun c E' O' al nt a w σ hgl hs hid hag => by
    subst hgl
    obtain ⟨p1, p2⟩ := parts_rep hs hag (parts := parts) (fun p hp => by simp only [ho, Op.operands, List.mem_toArray, List.mem_map]; exact ⟨p, hp, rfl⟩) hy how
    have hb := hi.k
    rw [hk] at hb
    obtain ⟨j, z, j1, j2, j3, j4, j5, j6⟩ := hie.info
    obtain ⟨d1, d2, d3, d4, d5, d6, d7, d8⟩ := dense_rep hf p1 p2
    generalize hvals : (parts.map fun (i, x) => (i, a.eval x)).toList = vals at *
    have hfl := flat_len d5
    have hcs : ((vals.map (·.2)).flatMap fun v => v.cells.toList).toArray.size = len * sz := by rw [List.size_toArray, d7, hfl, hl]
    have hrun : (Instr.buildSlice t len (parts.map fun (i, x) => (i, a.eval x))).run P w = .ok (.slice (some ⟨w.heap.size, 0, none⟩) len len) (w.alloc (.cells ((vals.map (·.2)).flatMap fun v => v.cells.toList).toArray te)) := by
      by_cases h0 : len = 0
      · subst h0
        have hx0 : xs = [] := List.eq_nil_of_length_eq_zero hl
        subst hx0
        have hv0 : vals = [] := List.eq_nil_of_length_eq_zero (by rw [d4, ← d3]; rfl)
        subst hv0
        have hpa : (parts.map fun (i, x) => (i, a.eval x)) = #[] := Array.toList_inj.1 hvals
        rw [hpa]
        simp [Instr.buildSlice, run_underlying hb.1, sizeOf, typeInfo, j1, Instr.fill, newRow, Array.range_zero']
      · refine run_buildSlice w t te len _ _ j z hb.1 j1 j4 (by rw [j2, hsz]; omega) (by rw [j2, hsz]; exact Nat.mul_ne_zero h0 (by omega)) ?_
        have hw := Go.Great.fill_whole hpos (vals.map (·.2)) ((Array.range (len * sz)).map (z.cells[· % z.cells.size]!)) d2 (by rw [List.length_map, d4, ← d3, hl]; simp)
        rw [← d1] at hw
        rw [hvals, j2, hsz]
        exact hw
    have hn := hs.new (id := id) (o := .row true te sz xs) (v := .slice (some ⟨w.heap.size, 0, none⟩) len len) (Go1.alloc w (.cells ((vals.map (·.2)).flatMap fun v => v.cells.toList).toArray te) none) hid
      (fun b hb => by simp [blkOf] at hb; omega)
      (fun ok' hkp => by
        have hmax : len ≤ maxLen := by
          have := Nat.le_mul_of_pos_right len hpos
          simp only [maxLen]; omega
        have hown := World.ownsRow_lit (base := 0) (e := te) (size := sz) w ((vals.map (·.2)).flatMap fun v => v.cells.toList).toArray len (Nat.zero_le _) hmax hcs
        exact row_mk (by rw [hl]; exact hown) hpos (by omega) d5 d6 (fun i c u hc hu => (d8 i c u hc hu).mono hkp))
    refine ⟨.slice (some ⟨w.heap.size, 0, none⟩) len len, _, _, ?_, hn, rep_own_new id (.inr rfl) (by simp [updσ])⟩
    simp only [execOp, ho, Sem.run_bind, hrun, Result.andThen_ok, Sem.run_pure]

/-! ### make -/
def zeroCells (i : TI) : List D := i.zd.cells

theorem zero_cells {t : Nat} {i : TI} (hi : i.ok P t) (ht : i.zd.isTup = false) : ∃ (it : TypeInfo) (z : Value) (vs : List Value), P.info? t = some it ∧ it.size = i.size ∧ it.bytes = i.bytes ∧ it.zero = some z ∧ z.cells = vs.toArray ∧ vs.length = i.zd.cells.length ∧ i.size = vs.length ∧ (∀ u ∈ vs, u.oneCell' = true) ∧
    ∀ w ok, ∀ (j : Nat) c u, i.zd.cells[j]? = some c → vs[j]? = some u → Rep w ok c u := by
  obtain ⟨j, z, h1, h2, h3, h4, h5, h6⟩ := hi.info
  obtain ⟨vs, v1, v2, v3, v4⟩ := (h5 default (fun _ => True)).cells ht
  refine ⟨j, z, vs, h1, h2, h3, h4, v1, v2, by rw [← h6, v1]; simp, v3, fun w ok => ?_⟩
  obtain ⟨vs', v1', _, _, v4'⟩ := (h5 w ok).cells ht
  rw [v1] at v1'
  have : vs = vs' := by injection v1'
  subst this
  exact v4'

theorem st_makeSlice {t te sz : Nat} {i ie : TI} {x y : Operand} {k k' : IntKind} {n : Int} (hi : i.ok P t) (hk : i.k = .slice te sz) (hie : ie.ok P te) (hsz : ie.size = sz) (hpos : 0 < sz) (htup : ie.zd.isTup = false) (ho : o.op = .makeSlice t x y)
    (hx : getE gl E x = some (.d (.int k n))) (hy : getE gl E y = some (.d (.int k' n))) (h0 : 0 ≤ n) (hn : n.toNat * ie.bytes ≤ 281474976710656) (hbig : n ≤ 9223372036854775807) : Step P gl E O o id (some (.own id)) (.new (.row true te sz (List.replicate n.toNat ie.zd.cells))) :=
  .run fun c E' O' al nt a w σ hgl hs hid hag => by
    subst hgl
    have h1 := rep_int (hs.get (hag.get (x := x) (by simp [ho, Op.operands]) hx))
    have h2 := rep_int (hs.get (hag.get (x := y) (by simp [ho, Op.operands]) hy))
    have hb := hi.k
    rw [hk] at hb
    obtain ⟨it, z, vs, i1, i2, i3, i4, i5, i6, i7, i8, i9⟩ := zero_cells hie htup
    have hmax : n.toNat ≤ maxLen := by simp only [maxLen]; omega
    obtain ⟨w', r1, r2, r3⟩ := run_make_full (P := P) w 0 t te it z sz hb.1 i1 i4 (by rw [i2, hsz]) k k' n.toNat (by rw [i3, Nat.mul_comm]; omega) hmax (Nat.zero_le _)
    have hnn : ((n.toNat : Nat) : Int) = n := by omega
    rw [hnn] at r1
    have hvl : vs.length = sz := by omega
    have hn' := hs.new (id := id) (o := .row true te sz (List.replicate n.toNat ie.zd.cells)) (v := .slice (some ⟨w.heap.size, 0, none⟩) n.toNat n.toNat) (Go1.of_grown r3) hid (fun b hb => by simp [blkOf] at hb; omega) (fun ok' hkp => by
      have hmc : (madeCells z.cells (n.toNat * sz)).toList = (List.range (n.toNat * sz)).map fun j => vs.getD (j % sz) (.bool false) := by
        apply List.ext_getElem?
        intro j
        by_cases hj : j < n.toNat * sz
        · have hm : j % sz < vs.length := by rw [hvl]; exact Nat.mod_lt _ hpos
          simp only [madeCells, Array.toList_map, Array.toList_range, List.getElem?_map, List.getElem?_range hj, Option.map_some, i5, List.size_toArray, hvl, List.getD_eq_getElem?_getD, List.getElem?_eq_getElem hm, Option.getD_some, Option.some.injEq]
          rw [getElem!_pos _ _ (by simpa using hm)]
          simp
        · simp [madeCells, hj]
      refine row_mk (vs := (madeCells z.cells (n.toNat * sz)).toList) (by rw [List.length_replicate]; exact r2) hpos (by rw [List.length_replicate]; exact hmax) (fun e he => by rw [(List.mem_replicate.1 he).2]; omega) (fun u hu => ?_) (fun j c u hc hu => ?_)
      · rw [hmc] at hu
        obtain ⟨j, hj, rfl⟩ := List.mem_map.1 hu
        have hm : j % sz < vs.length := by rw [hvl]; exact Nat.mod_lt _ hpos
        rw [List.getD_eq_getElem?_getD, List.getElem?_eq_getElem hm]
        exact i8 _ (List.getElem_mem hm)
      · rw [hmc] at hu
        have hlens : ∀ x ∈ List.replicate n.toNat ie.zd.cells, x.length = sz := fun e he => by rw [(List.mem_replicate.1 he).2]; omega
        have hj : j < n.toNat * sz := by have := (List.getElem?_eq_some_iff.1 hu).1; simpa using this
        have hq : (List.replicate n.toNat ie.zd.cells)[j / sz]? = some ie.zd.cells := by
          rw [List.getElem?_replicate, if_pos ((Nat.div_lt_iff_lt_mul hpos).2 hj)]
        have h7 := flat_at hlens hq (j % sz) (Nat.mod_lt _ hpos)
        rw [Nat.div_add_mod'] at h7
        rw [h7] at hc
        have hm : j % sz < vs.length := by rw [hvl]; exact Nat.mod_lt _ hpos
        simp only [List.getElem?_map, List.getElem?_range hj, Option.map_some, Option.some.injEq] at hu
        rw [List.getD_eq_getElem?_getD, List.getElem?_eq_getElem hm] at hu
        exact i9 _ _ (j % sz) c u hc (by rw [List.getElem?_eq_getElem hm]; exact congrArg some hu))
    exact ⟨.slice (some ⟨w.heap.size, 0, none⟩) n.toNat n.toNat, _, _, by simp [execOp, ho, h1, h2, r1], hn', rep_own_new id (.inr rfl) (by simp [updσ])⟩
end
end Go.Proofs.Ytopgjmoajkcdnaa

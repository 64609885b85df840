/- One operation: append. -/
import Derived.Test.YtopgjmoajkcdnaaAbs9
namespace Go.Proofs.Ytopgjmoajkcdnaa
set_option linter.all false
open Go Go.RowKit

theorem blkOf_slice {A : Option Addr} {n c : Nat} : blkOf (.slice A n c) = (Value.slice A n c).ownBlock := by cases A <;> rfl

section
variable {P : Program} {E : Nat → Option AV} {O : Nat → Option Obj1} {gl : List (Nat × List D)} {o : Oper} {id : Nat}

theorem append_run {w : World} {t ty te : TypeId} {it : TypeInfo} {z : Value} {sz bytes : Nat} (ht : P.underlying t = some (.slice te)) (hi : P.info? te = some it) (hz : it.zero = some z) (hsz : it.size = sz) (hby : it.bytes = bytes) (hzs : z.cells.size = sz) (hpos : 0 < sz)
    {v : Value} {n : Nat} {xs : List Value} (hown : w.ownsRow 0 te sz v n xs) {x : Value} {m : Nat} {news : List Value}
    (hx : (∃ ad c, x = .slice (some ad) m c ∧ news.length = m * sz ∧ ∀ (j : Nat) u, news[j]? = some u → w.cell? (ad.add j) = some u) ∨ (x = .slice none 0 0 ∧ m = 0 ∧ news = []))
    (h1 : ∀ u ∈ news, u.oneCell' = true) (hbytes : (n + m) * bytes ≤ 140737488355328) (h63 : n + m ≤ maxLen) :
    ∃ v' w', (Builtin.append_ #[t, t] ty #[v, x]).run P w = .ok v' w' ∧ w'.ownsRow 0 te sz v' (n + m) (xs ++ news) ∧ Go1 w w' (blkOf v) ∧ ∀ b, blkOf v' = some b → blkOf v = some b ∨ w.heap.size ≤ b := by
  rcases hx with ⟨ad, c, rfl, hl, hc⟩ | ⟨rfl, rfl, rfl⟩
  · have hform := hown.2
    rcases hform with ⟨rfl, rfl⟩ | ⟨g, cap, cur, rfl, _, hg, hnc, hcm, hcs, htake⟩
    · have hx0 : xs = [] := List.eq_nil_of_length_eq_zero (by simpa using hown.1)
      subst hx0
      obtain ⟨v', w', r1, r2, r3, _⟩ := run_append_own (P := P) w w.heap.size t ty te it z sz bytes ht hi hz hsz hby hzs hpos (.slice none 0 0) 0 [] (World.ownsRow_nil w w.heap.size te sz) ad m c news hl hc h1 h63 hbytes (Nat.le_refl _)
      refine ⟨v', w', r1, ⟨r2.1, ?_⟩, ⟨r3.os, r3.tape, r3.output, r3.size, r3.block⟩, fun b hb => .inr ?_⟩
      · rcases r2.2 with hh | ⟨g, cap, cur, e1, e2, rest⟩
        · exact .inl hh
        · exact .inr ⟨g, cap, cur, e1, Nat.zero_le _, rest⟩
      · rcases r2.2 with ⟨rfl, _⟩ | ⟨g, cap, cur, rfl, e2, rest⟩
        · simp [blkOf] at hb
        · simp [blkOf] at hb; omega
    · by_cases hroom : n + m ≤ cap
      · obtain ⟨w', r1, r2, r3⟩ := run_append_fits (P := P) w 0 t ty te it sz ht hi hsz g n cap xs hown ad m c news hl hc h1 hroom
        exact ⟨_, w', r1, r2, ⟨r3.os, r3.tape, r3.output, r3.size, r3.block⟩, fun b hb => .inl (by simpa [blkOf] using hb)⟩
      · subst hsz
        subst hby
        have holds : ∀ (j : Nat) u, xs[j]? = some u → w.cell? ((⟨g, 0, none⟩ : Addr).add j) = some u := hown.cells (g := g) rfl
        have hr := run_append_grow (P := P) w t ty te it z ht hi hz ⟨g, 0, none⟩ n cap xs hown.1 holds ad m c news hl hc (by omega) (by simp only [maxLen] at h63; omega) (growslice_fits (by omega) hbytes)
        have hge := grownCap_ge w (n + m) cap te
        have hcm' : grownCap w (n + m) cap te ≤ maxLen := grownCap_le_maxLen w (n + m) cap te h63
        have hlen : (xs ++ news).length = (n + m) * it.size := by rw [List.length_append, hown.1, hl, Nat.add_mul]
        refine ⟨_, _, hr, ⟨hlen, .inr ⟨w.heap.size, _, _, rfl, Nat.zero_le _, heap_alloc_new w.drew _, hge, hcm', ?_, ?_⟩⟩, ⟨rfl, rfl, rfl, by simp, fun k hk _ => heap_alloc_old w.drew _ k hk⟩, fun b hb => .inr (by simp [blkOf] at hb; omega)⟩
        · simp only [Array.size_append, List.size_toArray, size_zeroCells, hzs, hown.1, hl, ← Nat.add_mul]
          congr 1
          omega
        · simp only [Array.toList_append, List.append_assoc]
          rw [← List.append_assoc, ← hlen]
          exact List.take_left
  · have hr := run_append_owned_none (P := P) w 0 t ty te it sz ht hi v n xs hown
    exact ⟨v, w, hr, by simpa using hown, Go1.refl _ _, fun b hb => .inl hb⟩

/-- The row that is appended. -/
inductive Src (O : Nat → Option Obj1) (sz : Nat) : AV → List (List D) → Prop
  | d (ys : List (List D)) : Src O sz (.d (.slice ys)) ys
  | nils : Src O sz (.d .nils) []
  | own (k : Nat) (fr : Bool) (te : Nat) (ys : List (List D)) (h : O k = some (.row fr te sz ys)) : Src O sz (.own k) ys

theorem src_rep {c : Ctx} {E' : Nat → Option AV} {O' : Nat → Option Obj1} {al : Nat → Prop} {nt : Nat} {a : Act} {w : World} {σ : Nat → Value} (hs : SRep c E' O' al nt a w σ) {sz : Nat} {y : AV} {ys : List (List D)} {v : Value} (hy : Src O' sz y ys) (hr : RepS al w (okk c O' σ w) σ y v) (hsz : ∀ e ∈ ys, e.length = sz) :
    ∃ news : List Value, ((∃ ad cp, v = .slice (some ad) ys.length cp ∧ news.length = ys.length * sz ∧ ∀ (j : Nat) u, news[j]? = some u → w.cell? (ad.add j) = some u) ∨ (v = .slice none 0 0 ∧ ys.length = 0 ∧ news = [])) ∧ (∀ u ∈ news, u.oneCell' = true) ∧ ys.length ≤ maxLen ∧
      ∀ (i : Nat) cc u, ys.flatten[i]? = some cc → news[i]? = some u → Rep w (okk c O' σ w) cc u := by
  cases hy with
  | nils =>
    cases hr.d_inv
    exact ⟨[], .inr ⟨rfl, rfl, rfl⟩, by simp, by simp, fun i cc u h => by simp at h⟩
  | d ys =>
    have h := hr.d_inv
    cases h with
    | nil => exact ⟨[], .inr ⟨rfl, rfl, rfl⟩, by simp, by simp, fun i cc u h => by simp at h⟩
    | empty ad cp => exact ⟨[], .inl ⟨ad, cp, rfl, by simp, fun j u h => by simp at h⟩, by simp, by simp, fun i cc u h => by simp at h⟩
    | slice _ b off cp sz' f hok hcap hmax hsz' hc h1 h =>
      have hfl := flat_len hsz
      refine ⟨(List.range ys.flatten.length).map f, .inl ⟨⟨b, off, none⟩, cp, rfl, by simp only [List.length_map, List.length_range]; exact hfl, fun j u hj => ?_⟩, fun u hu => ?_, hmax, fun i cc u hcc hu => ?_⟩
      · have hlt : j < ys.flatten.length := by have := (List.getElem?_eq_some_iff.1 hj).1; rw [List.length_map, List.length_range] at this; exact this
        rw [List.getElem?_map, List.getElem?_range hlt] at hj
        injection hj with hj
        rw [Addr.add_lit, ← hj]
        exact hc j hlt
      · obtain ⟨j, _, rfl⟩ := List.mem_map.1 hu
        exact h1 j
      · have hlt : i < ys.flatten.length := (List.getElem?_eq_some_iff.1 hcc).1
        rw [List.getElem?_map, List.getElem?_range hlt] at hu
        injection hu with hu
        rw [← hu]
        exact h i cc hcc
  | own k fr te ys ho =>
    obtain ⟨vs, f1, f2, f3, f4, f5, f6⟩ := row_facts (hs.own k _ ho).2
    have hv := hr.toA.own_inv
    have hform := f1.2
    rcases hform with ⟨e1, e2⟩ | ⟨g, cap, cur, e1, _, _⟩
    · have hy0 : ys = [] := List.eq_nil_of_length_eq_zero e2
      subst hy0
      exact ⟨[], .inr ⟨hv.trans e1, rfl, rfl⟩, by simp, by simp, fun i cc u h => by simp at h⟩
    · refine ⟨vs, .inl ⟨⟨g, 0, none⟩, cap, hv.trans e1, f1.1, fun j u hj => ?_⟩, f5, f3, f6⟩
      exact f1.cells (g := g) (by rw [e1]; rfl) j u hj

theorem st_append {t te sz k : Nat} {ts : Array TypeId} {fr : Bool} {s x : Operand} {y : AV} {xs ys : List (List D)} {i ie : TI} (hi : i.ok P t) (hk : i.k = .slice te sz) (hie : ie.ok P te) (hsz : ie.size = sz) (hts : ts = #[t, t])
    (ho : o.op = .call { callee := .builtin .append, args := #[s, x], argTypes := ts }) (hs' : getE gl E s = some (.own k)) (hO : O k = some (.row fr te sz xs)) (hx : getE gl E x = some y) (hy : Src O sz y ys) (hel : ∀ e ∈ ys, e.length = sz)
    (hb : (xs.length + ys.length) * ie.bytes ≤ 140737488355328) (h63 : xs.length + ys.length ≤ maxLen) : Step P gl E O o id (some (.own id)) (.swap k (.row fr te sz (xs ++ ys))) :=
  .run fun c E' O' al nt a w σ hgl hs hid hag => by
    subst hgl
    subst hts
    have hm : s ∈ o.op.operands := by simp [ho, Op.operands, Call.operands]
    have hm2 : x ∈ o.op.operands := by simp [ho, Op.operands, Call.operands]
    have h1 := hs.get (hag.get hm hs')
    have h2 := hs.get (hag.get hm2 hx)
    have hO' : O' k = some (.row fr te sz xs) := (hag.o s hm _ hs' k (by simp [AV.ids])).trans hO
    have hy' : Src O' sz y ys := by
      cases hy with
      | d ys => exact .d ys
      | nils => exact .nils
      | own k2 fr2 te2 ys h => exact .own k2 fr2 te2 ys ((hag.o x hm2 _ hx k2 (by simp [AV.ids])).trans h)
    have hbk := hi.k
    rw [hk] at hbk
    obtain ⟨it, z, z1, z2, z3, z4, z5, z6⟩ := hie.info
    obtain ⟨vs, f1, f2, f3, f4, f5, f6⟩ := row_facts (hs.own k _ hO').2
    obtain ⟨news, n1, n2, n3, n4⟩ := src_rep hs hy' h2 hel
    obtain ⟨v', w', r1, r2, r3, r4⟩ := append_run (P := P) (w := w) (t := t) (ty := o.type) (bytes := ie.bytes) hbk.1 z1 z4 (by rw [z2, hsz]) z3 (by rw [z6, hsz]) f2 f1 n1 n2 hb h63
    have hv := h1.toA.own_inv
    have hn := hs.swap (id := id) (o' := .row fr te sz (xs ++ ys)) (v := v') hO' hid r3 r4 rfl (fun ok' hkp => by
      refine row_mk (vs := vs ++ news) (by rw [List.length_append]; exact r2) f2 (by rw [List.length_append]; exact h63) (fun e he => ?_) (fun u hu => ?_) (fun j cc u hc hu => ?_)
      · rcases List.mem_append.1 he with he | he
        · exact f4 e he
        · exact hel e he
      · rcases List.mem_append.1 hu with hu | hu
        · exact f5 u hu
        · exact n2 u hu
      · rw [List.flatten_append] at hc
        have hl1 : xs.flatten.length = vs.length := by rw [flat_len f4, f1.1]
        by_cases hj : j < vs.length
        · rw [List.getElem?_append_left (by omega)] at hc
          rw [List.getElem?_append_left hj] at hu
          exact (f6 j cc u hc hu).mono hkp
        · rw [List.getElem?_append_right (by omega), hl1] at hc
          rw [List.getElem?_append_right (by omega)] at hu
          exact (n4 _ cc u hc hu).mono hkp)
    refine ⟨v', w', _, ?_, hn, rep_own_new id (.inr rfl) (by simp [updσ])⟩
    rw [← hv] at r1
    simp [execOp, ho, resolve, invoke, builtin, r1]

/-- append to nil: a new row. -/
theorem st_append_nil {t te sz : Nat} {ts : Array TypeId} {s x : Operand} {y : AV} {ys : List (List D)} {i ie : TI} (hi : i.ok P t) (hk : i.k = .slice te sz) (hie : ie.ok P te) (hsz : ie.size = sz) (hpos : 0 < sz) (hts : ts = #[t, t])
    (ho : o.op = .call { callee := .builtin .append, args := #[s, x], argTypes := ts }) (hs' : getE gl E s = some (.d .nils)) (hx : getE gl E x = some y) (hy : Src O sz y ys) (hel : ∀ e ∈ ys, e.length = sz)
    (hb : ys.length * ie.bytes ≤ 140737488355328) (h63 : ys.length ≤ maxLen) : Step P gl E O o id (some (.own id)) (.new (.row true te sz ys)) :=
  .run fun c E' O' al nt a w σ hgl hs hid hag => by
    subst hgl
    subst hts
    have hm : s ∈ o.op.operands := by simp [ho, Op.operands, Call.operands]
    have hm2 : x ∈ o.op.operands := by simp [ho, Op.operands, Call.operands]
    have h1 := hs.get (hag.get hm hs')
    have h2 := hs.get (hag.get hm2 hx)
    have hy' : Src O' sz y ys := by
      cases hy with
      | d ys => exact .d ys
      | nils => exact .nils
      | own k2 fr2 te2 ys h => exact .own k2 fr2 te2 ys ((hag.o x hm2 _ hx k2 (by simp [AV.ids])).trans h)
    have hbk := hi.k
    rw [hk] at hbk
    obtain ⟨it, z, z1, z2, z3, z4, z5, z6⟩ := hie.info
    obtain ⟨news, n1, n2, n3, n4⟩ := src_rep hs hy' h2 hel
    obtain ⟨v', w', r1, r2, r3, r4⟩ := append_run (P := P) (w := w) (t := t) (ty := o.type) (bytes := ie.bytes) hbk.1 z1 z4 (by rw [z2, hsz]) z3 (by rw [z6, hsz]) hpos (World.ownsRow_nil w 0 te sz) n1 n2 (by rw [Nat.zero_add]; exact hb) (by rw [Nat.zero_add]; exact h63)
    rw [Nat.zero_add, List.nil_append] at r2
    have hv : a.eval s = .slice none 0 0 := by
      have h3 := h1.d_inv
      generalize a.eval s = u at h3 ⊢
      cases h3
      rfl
    have hn := hs.new (id := id) (o := .row true te sz ys) (v := v') r3 hid (fun b hb => by
      rcases r4 b hb with h | h
      · simp [blkOf] at h
      · exact h) (fun ok' hkp => row_mk (vs := news) r2 hpos h63 hel n2 (fun j cc u hc hu => (n4 j cc u hc hu).mono hkp))
    refine ⟨v', w', _, ?_, hn, rep_own_new id (.inr rfl) (by simp [updσ])⟩
    simp [execOp, ho, resolve, invoke, builtin, hv, r1]
end
end Go.Proofs.Ytopgjmoajkcdnaa

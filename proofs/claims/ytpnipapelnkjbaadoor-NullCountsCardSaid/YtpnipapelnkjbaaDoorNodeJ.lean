/- The plain law of node.firsts: what it tells are the places where trees begin. -/
import Derived.Test.YtpnipapelnkjbaaDoorNodeG
namespace Go.Proofs.YtpnipapelnkjbaaDoor
set_option linter.all false
open Go Go.RowKit
open Nat (reduceEqDiff reduceAdd reduceMul reduceSub reduceLeDiff)
open Int (reduceEq reduceLT reduceLE)

theorem any_noQ {s : ByteArray} : (!(s.data.toList.any (· == 34))) = noQ s s.size := by
  rw [Bool.eq_iff_iff]
  simp only [Bool.not_eq_true', noQ, decide_eq_true_eq]
  rw [← Bool.not_eq_true, List.any_eq_true]
  constructor
  · intro h j hj he
    rw [byteAt_get] at he
    refine h ⟨s.get! j, ?_, ?_⟩
    · have : s.get! j = s.data.toList[j]'(by simpa using hj) := by
        show s.data[j]! = _
        rw [getElem!_pos s.data j hj]
        simp
      rw [this]
      exact List.getElem_mem _
    · have h2 : (s.get! j).toNat = 34 := by omega
      simp only [beq_iff_eq]
      exact UInt8.toNat_inj.1 h2
  · rintro h ⟨x, hx, hx'⟩
    simp only [beq_iff_eq] at hx'
    subst hx'
    obtain ⟨j, hj, he⟩ := List.getElem_of_mem hx
    have hj' : j < s.size := by simpa using hj
    refine h j hj' ?_
    rw [byteAt_get]
    have : s.get! j = s.data.toList[j] := by
      show s.data[j]! = _
      rw [getElem!_pos s.data j hj']
      simp
    rw [this, he]
    rfl
theorem text_fit {s : ByteArray} : (decide (¬ s = ⟨#[]⟩) && (utf8B s && !(s.data.toList.any (· == 34)))) = textB s := by
  rw [any_noQ, textB]
  have : decide (¬ s = ⟨#[]⟩) = decide (0 < s.size) := by
    refine decide_eq_decide.2 ⟨fun h => ?_, fun h e => ?_⟩
    · rcases Nat.eq_zero_or_pos s.size with h0 | h0
      · refine absurd ?_ h
        rcases s with ⟨d⟩
        congr
        exact Array.eq_empty_of_size_eq_zero h0
      · exact h0
    · subst e
      exact absurd h (by decide)
  rw [this]
  cases noQ s s.size <;> cases utf8B s <;> cases decide (0 < s.size) <;> rfl

/-- A stack of trees that lie side by side up to a place; their last nodes. -/
inductive Stk (l : List Nd) : Nat → List Int → Prop
  | nil : Stk l 0 []
  | push {off : Nat} {rs : List Int} {t : T} (h : Stk l off rs) (hs : Sits l off t) (hok : t.ok txtOk) : Stk l (off + t.n) (rs ++ [((off + t.n : Nat) : Int) - 1])
theorem Stk.zero {l : List Nd} {rs : List Int} {m : Nat} (h : Stk l m rs) (hm : m = 0) : rs = [] := by
  cases h with
  | nil => rfl
  | push h hs hok => rename_i off rs t; have := t.n_pos; omega
theorem Stk.top {l : List Nd} {rs : List Int} {m : Nat} (h : Stk l m rs) (hm : 0 < m) : ∃ off rs' t, Stk l off rs' ∧ Sits l off t ∧ t.ok txtOk ∧ m = off + t.n ∧ rs = rs' ++ [(m : Int) - 1] := by
  cases h with
  | nil => omega
  | push h hs hok => exact ⟨_, _, _, h, hs, hok, rfl, rfl⟩
theorem Stk.len {l : List Nd} {rs : List Int} {m : Nat} (h : Stk l m rs) : rs.length = 0 ↔ m = 0 := by
  cases h with
  | nil => simp
  | push h hs hok => rename_i off rs t; have := t.n_pos; simp; omega
/-- What is told of the nodes ahead of a place. -/
def Outs (l : List Nd) (i : Nat) (out : List Int) : Prop := out.length = i ∧ ∀ j, j < i → ∃ (off : Nat) (t : T), Sits l off t ∧ off + t.n = j + 1 ∧ t.ok txtOk ∧ out.getD j 0 = off
theorem Outs.push {l : List Nd} {i off : Nat} {out : List Int} {t : T} (h : Outs l i out) (hs : Sits l off t) (he : off + t.n = i + 1) (hok : t.ok txtOk) {z : Int} (hz : z = off) : Outs l (i + 1) (out ++ [z]) := by
  refine ⟨by simp [h.1], fun j hj => ?_⟩
  by_cases e : j = i
  · subst e
    refine ⟨off, t, hs, he, hok, ?_⟩
    rw [List.getD_eq_getElem?_getD, List.getElem?_append_right (by rw [h.1]; exact Nat.le_refl _), h.1, Nat.sub_self, hz]
    rfl
  · obtain ⟨o, t', q1, q2, q3, q4⟩ := h.2 j (by omega)
    refine ⟨o, t', q1, q2, q3, ?_⟩
    rw [List.getD_eq_getElem?_getD, List.getElem?_append_left (by rw [h.1]; omega), ← List.getD_eq_getElem?_getD, q4]

/-- Is there a tree that all nodes are of? -/
def Whole (l : List Nd) : Prop := ∃ t : T, Sits l 0 t ∧ t.n = l.length ∧ t.ok txtOk
theorem whole_flat {l : List Nd} : Whole l ↔ ∃ t : T, l = t.flat 0 ∧ t.ok txtOk :=
  ⟨fun ⟨t, h1, h2, h3⟩ => ⟨t, sits_all h1 h2, h3⟩, fun ⟨t, h1, h3⟩ => ⟨t, h1 ▸ sits_flat t, by rw [h1, T.flat_len], h3⟩⟩

theorem fits_void {n : Nd} (hk : n.kind = 1) : fitsB n = true ↔ n = ⟨1, 0, 0, 0, 0, 0, 0, 0, 0, .empty⟩ := by
  rw [fitsB, if_pos hk, plainB_iff, hk]
theorem fits_bytes {n : Nd} (hk : n.kind = 2) : fitsB n = true ↔ n = ⟨2, 0, 0, 0, 0, n.c0, n.c1, n.c2, n.c3, .empty⟩ := by
  rw [fitsB, if_neg (by omega), if_pos hk, plainB_iff, hk]
theorem fits_text {n : Nd} (hk : n.kind = 3) : fitsB n = true ↔ n = ⟨3, 0, 0, 0, 0, 0, 0, 0, 0, n.text⟩ ∧ textB n.text = true := by
  rw [fitsB, if_neg (by omega), if_neg (by omega), if_pos hk, Bool.and_eq_true, text_fit, plainB_iff, hk]
theorem fits_rep {n : Nd} (hk : n.kind = 7) : fitsB n = true ↔ n = ⟨7, n.a, 0, n.lo, n.hi, 0, 0, 0, 0, .empty⟩ ∧ 0 ≤ n.lo ∧ n.lo ≤ n.hi ∧ n.hi ≤ 255 := by
  rw [fitsB, if_neg (by omega), if_neg (by omega), if_neg (by omega), if_pos hk]
  simp only [Bool.and_eq_true, plainB_iff, decide_eq_true_eq, hk]
theorem fits_one' {n : Nd} (hk : n.kind = 6 ∨ n.kind = 8 ∨ n.kind = 9) : fitsB n = true ↔ n = ⟨n.kind, n.a, 0, 0, 0, 0, 0, 0, 0, .empty⟩ := by
  rw [fitsB, if_neg (by omega), if_neg (by omega), if_neg (by omega), if_neg (by omega), plainB_iff]
theorem fits_single {n : Nd} (hk : n.kind = 6 ∨ n.kind = 7 ∨ n.kind = 8 ∨ n.kind = 9) : fitsB n = true ↔ ∃ lo hi : Int, n = ⟨n.kind, n.a, 0, lo, hi, 0, 0, 0, 0, .empty⟩ ∧ ((n.kind = 6 ∨ n.kind = 8 ∨ n.kind = 9) ∧ lo = 0 ∧ hi = 0 ∨ n.kind = 7 ∧ 0 ≤ lo ∧ lo ≤ hi ∧ hi ≤ 255) := by
  by_cases h7 : n.kind = 7
  · rw [fits_rep h7]
    constructor
    · rintro ⟨h1, h2⟩
      exact ⟨n.lo, n.hi, by rw [h7]; exact h1, .inr ⟨h7, h2⟩⟩
    · rintro ⟨lo, hi, h1, h2⟩
      have e1 := congrArg Nd.lo h1
      have e2 := congrArg Nd.hi h1
      simp only at e1 e2
      rcases h2 with ⟨h, _⟩ | ⟨_, h⟩
      · omega
      · subst e1
        subst e2
        exact ⟨by rw [h7] at h1; exact h1, h⟩
  · rw [fits_one' (by omega)]
    constructor
    · intro h
      exact ⟨0, 0, h, .inl ⟨by omega, rfl, rfl⟩⟩
    · rintro ⟨lo, hi, h1, h2⟩
      rcases h2 with ⟨_, h3, h4⟩ | ⟨h, _⟩
      · rw [h3, h4] at h1; exact h1
      · omega

theorem firstsF_law {l : List Nd} (htx : ∀ i, (l.getD i Nd.z).text.size ≤ 1048576) : ∀ (m i : Nat) (rs out : List Int), l.length < m + i → i ≤ l.length → Stk l i rs → Outs l i out →
    ((firstsF l m i rs out).2 = true ↔ Whole l) ∧ ((firstsF l m i rs out).2 = true → Outs l l.length (firstsF l m i rs out).1)
  | 0, i, rs, out, hm, hi, _, _ => by omega
  | m + 1, i, rs, out, hm, hi, hst, hout => by
    have no : (∀ (off : Nat) (t : T), Sits l off t → off + t.n = i + 1 → t.ok txtOk → False) → i < l.length → (((out, false) : List Int × Bool).2 = true ↔ Whole l) ∧ (((out, false) : List Int × Bool).2 = true → Outs l l.length ((out, false) : List Int × Bool).1) := fun h hlt => by
      refine ⟨⟨fun h => (by cases h), fun ⟨t, q1, q2, q3⟩ => ?_⟩, fun h => (by cases h)⟩
      obtain ⟨t', off', p1, p2, p3, _⟩ := sits_sub t q1 q3 (i := i) (by omega) (by omega)
      exact (h off' t' p1 p2 p3).elim
    simp only [firstsF]
    by_cases hlt : i < l.length
    · rw [if_pos hlt]
      generalize hn : l.getD i Nd.z = n
      have htxi : n.text.size ≤ 1048576 := hn ▸ htx i
      by_cases kl : n.kind = 1 ∨ n.kind = 2 ∨ n.kind = 3
      · rw [if_pos kl]
        by_cases hf : fitsB n = true
        · rw [if_pos hf]
          have ht : ∃ t : T, Sits l i t ∧ t.n = 1 ∧ t.ok txtOk := by
            rcases kl with k | k | k
            · rw [fits_void k] at hf
              exact ⟨.void, sits_void hlt (hn.trans hf), rfl, trivial⟩
            · rw [fits_bytes k] at hf
              exact ⟨_, sits_bytes hlt (hn.trans hf), rfl, trivial⟩
            · rw [fits_text k] at hf
              exact ⟨_, sits_text hlt (hn.trans hf.1), rfl, htxi, hf.2⟩
          obtain ⟨t, h1, h2, h3⟩ := ht
          have hp := hst.push h1 h3
          rw [h2, show ((i + 1 : Nat) : Int) - 1 = i by omega] at hp
          exact firstsF_law htx m (i + 1) _ _ (by omega) (by omega) hp (hout.push h1 (by omega) h3 rfl)
        · rw [if_neg hf]
          refine no (fun off t q1 q2 q3 => hf ?_) hlt
          rcases root_says q1 q2 q3 with e | ⟨_, _, _, _, e⟩ | ⟨s, e, hs⟩ | ⟨k', a, b, e', e, _⟩ | ⟨k', lo', hi', a, e', e, _⟩
          · rw [hn] at e; subst e; rw [fits_void rfl]
          · rw [hn] at e; subst e; rw [fits_bytes rfl]
          · rw [hn] at e; subst e; rw [fits_text rfl]; exact ⟨rfl, hs.2⟩
          · rw [hn] at e; subst e; simp only at kl; omega
          · rw [hn] at e; subst e; simp only at kl; omega
      · rw [if_neg kl]
        by_cases k1 : n.kind = 6 ∨ n.kind = 7 ∨ n.kind = 8 ∨ n.kind = 9
        · rw [if_pos k1]
          by_cases hf : fitsB n = true ∧ 1 ≤ rs.length ∧ n.a = rs.getD (rs.length - 1) 0 ∧ n.a = (i : Int) - 1
          · rw [if_pos hf]
            obtain ⟨hf, hr1, hr2, hr3⟩ := hf
            have hi0 : 0 < i := by have := hst.len; omega
            obtain ⟨off, rs', t, p1, p2, p3, p4, p5⟩ := hst.top hi0
            obtain ⟨lo, hi', e1, e2⟩ := (fits_single k1).1 hf
            have hs : Sits l off (.one n.kind lo hi' t) := sits_one hlt p2 p4.symm (by rw [hn]; rw [hr3] at e1; exact e1)
            have hok : (T.one n.kind lo hi' t).ok txtOk := ⟨e2, p3⟩
            have hp := p1.push hs hok
            have hnn : off + (T.one n.kind lo hi' t).n = i + 1 := by simp only [T.n]; omega
            rw [hnn, show ((i + 1 : Nat) : Int) - 1 = i by omega] at hp
            have htk : rs.take (rs.length - 1) = rs' := by rw [p5]; simp
            rw [htk]
            refine firstsF_law htx m (i + 1) _ _ (by omega) (by omega) hp (hout.push hs hnn hok ?_)
            obtain ⟨off', t', r1, r2, r3, r4⟩ := hout.2 (i - 1) (by omega)
            rw [show n.a.toNat = i - 1 by omega, r4]
            have := (sits_uniq (i := i - 1) t' r1 r2 r3 p2 (by omega) p3).1
            omega
          · rw [if_neg hf]
            refine no (fun off t q1 q2 q3 => hf ?_) hlt
            rcases root_says q1 q2 q3 with e | ⟨_, _, _, _, e⟩ | ⟨s, e, hs⟩ | ⟨k', a, b, e', e, _⟩ | ⟨k', lo', hi', a, e', e, r1, r2, r3⟩
            · rw [hn] at e; subst e; simp only at k1; omega
            · rw [hn] at e; subst e; simp only at k1; omega
            · rw [hn] at e; subst e; simp only at k1; omega
            · rw [hn] at e; subst e; simp only at k1; omega
            · rw [hn] at e
              have ha := a.n_pos
              obtain ⟨o2, rs', t2, p1, p2, p3, p4, p5⟩ := hst.top (by omega)
              refine ⟨(fits_single k1).2 ⟨lo', hi', ?_, ?_⟩, ?_, ?_, ?_⟩
              · subst e; rfl
              · subst e; exact e'
              · rw [p5]; simp
              · subst e; rw [p5]; simp
              · subst e; rfl
        · rw [if_neg k1]
          by_cases k2 : n.kind = 4 ∨ n.kind = 5
          · rw [if_pos k2]
            by_cases hf : 2 ≤ rs.length ∧ n.b = (i : Int) - 1 ∧ n.a = rs.getD (rs.length - 2) 0 ∧ plainB n ⟨n.kind, n.a, n.b, 0, 0, 0, 0, 0, 0, .empty⟩ = true
            · rw [if_pos hf]
              obtain ⟨hr1, hr2, hr3, hr4⟩ := hf
              rw [plainB_iff] at hr4
              obtain ⟨off, rs', t, p1, p2, p3, p4, p5⟩ := hst.top (by have := hst.len; omega)
              have hl' : rs'.length + 1 = rs.length := by rw [p5]; simp
              obtain ⟨off', rs2, t', p1', p2', p3', p4', p5'⟩ := p1.top (by have := p1.len; omega)
              have hl2 : rs2.length + 1 = rs'.length := by rw [p5']; simp
              have hna : n.a = (off : Int) - 1 := by
                rw [hr3, p5, p5', List.getD_eq_getElem?_getD, List.length_append, List.length_append, List.getElem?_append_left (by simp), List.getElem?_append_right (by simp)]
                simp
              have hs : Sits l off' (.two n.kind t' t) := sits_two hlt p2' (p4' ▸ p2) (by omega) (by rw [hn]; rw [hna, hr2, p4'] at hr4; exact hr4)
              have hok : (T.two n.kind t' t).ok txtOk := ⟨k2, p3', p3⟩
              have hp := p1'.push hs hok
              have hnn : off' + (T.two n.kind t' t).n = i + 1 := by simp only [T.n]; omega
              rw [hnn, show ((i + 1 : Nat) : Int) - 1 = i by omega] at hp
              have htk : rs.take (rs.length - 2) = rs2 := by
                rw [p5, p5', List.append_assoc, List.length_append, List.length_append]
                simp
              rw [htk]
              refine firstsF_law htx m (i + 1) _ _ (by omega) (by omega) hp (hout.push hs hnn hok ?_)
              have := t'.n_pos
              have := t.n_pos
              obtain ⟨off2, t2, r1, r2, r3, r4⟩ := hout.2 (off - 1) (by omega)
              rw [show n.a.toNat = off - 1 by omega, r4]
              have := (sits_uniq (i := off - 1) t2 r1 r2 r3 p2' (by omega) p3').1
              omega
            · rw [if_neg hf]
              refine no (fun off t q1 q2 q3 => hf ?_) hlt
              rcases root_says q1 q2 q3 with e | ⟨_, _, _, _, e⟩ | ⟨s, e, hs⟩ | ⟨k', a, b, e', e, r1, r2, r3, r4, r5⟩ | ⟨k', lo', hi', a, e', e, _⟩
              · rw [hn] at e; subst e; simp only at k2; omega
              · rw [hn] at e; subst e; simp only at k2; omega
              · rw [hn] at e; subst e; simp only at k2; omega
              · rw [hn] at e
                have ha := a.n_pos
                have hb := b.n_pos
                obtain ⟨o2, rs', t2, p1, p2, p3, p4, p5⟩ := hst.top (by omega)
                have ho2 := (sits_uniq (i := i - 1) t2 p2 (by omega) p3 r3 (by omega) r4).1
                obtain ⟨o3, rs2, t3, p1', p2', p3', p4', p5'⟩ := p1.top (by omega)
                refine ⟨by rw [p5, p5']; simp, by subst e; rfl, ?_, ?_⟩
                · have hna : n.a = (o2 : Int) - 1 := by subst e; simp only; omega
                  rw [hna, p5, p5', List.getD_eq_getElem?_getD, List.length_append, List.length_append, List.getElem?_append_left (by simp), List.getElem?_append_right (by simp)]
                  simp
                · rw [plainB_iff]; subst e; rfl
              · rw [hn] at e; subst e; simp only at k2; omega
          · rw [if_neg k2]
            refine no (fun off t q1 q2 q3 => ?_) hlt
            rcases root_says q1 q2 q3 with e | ⟨_, _, _, _, e⟩ | ⟨s, e, hs⟩ | ⟨k', a, b, e', e, _⟩ | ⟨k', lo', hi', a, e', e, _⟩
            all_goals (rw [hn] at e; have := congrArg Nd.kind e; simp only at this; omega)
    · rw [if_neg hlt]
      obtain rfl : i = l.length := by omega
      simp only [decide_eq_true_eq]
      refine ⟨⟨fun h => ?_, fun ⟨t, q1, q2, q3⟩ => ?_⟩, fun _ => hout⟩
      · obtain ⟨off, rs', t, p1, p2, p3, p4, p5⟩ := hst.top (by have := hst.len; omega)
        have h0 : rs'.length = 0 := by have : rs.length = rs'.length + 1 := by rw [p5]; simp
                                       omega
        have := p1.len.1 h0
        subst this
        exact ⟨t, p2, by omega, p3⟩
      · have hp := t.n_pos
        obtain ⟨off, rs', t', p1, p2, p3, p4, p5⟩ := hst.top (by omega)
        have ho := (sits_uniq (i := l.length - 1) t' p2 (by omega) p3 q1 (by omega) q3).1
        have := p1.zero ho
        rw [p5, this]
        rfl
theorem frOk_iff {l : List Nd} (htx : ∀ i, (l.getD i Nd.z).text.size ≤ 1048576) : frOk l = true ↔ ∃ t : T, l = t.flat 0 ∧ t.ok txtOk :=
  (firstsF_law htx (l.length + 1) 0 [] [] (by omega) (by omega) .nil ⟨rfl, fun j hj => by omega⟩).1.trans whole_flat
theorem frs_at {l : List Nd} (htx : ∀ i, (l.getD i Nd.z).text.size ≤ 1048576) (h : ∃ t : T, l = t.flat 0 ∧ t.ok txtOk) : (frs l).length = l.length ∧ ∀ (off i : Nat) (t : T), Sits l off t → off + t.n = i + 1 → t.ok txtOk → (frs l).getD i 0 = off := by
  obtain ⟨h1, h2⟩ := (firstsF_law htx (l.length + 1) 0 [] [] (by omega) (by omega) .nil ⟨rfl, fun j hj => by omega⟩).2 ((frOk_iff htx).2 h)
  refine ⟨h1, fun off i t q1 q2 q3 => ?_⟩
  have := q1.lt
  obtain ⟨off', t', r1, r2, r3, r4⟩ := h2 i (by omega)
  have := (sits_uniq t' r1 r2 r3 q1 q2 q3).1
  rw [frs, r4, this]
theorem pmv_eq {b : Int} {n : Nd} (h : 1 ≤ n.kind) (h' : n.kind ≤ 9) : n.pmv b = n.mv b := by
  unfold Nd.pmv Nd.mv
  by_cases h1 : n.kind = 6 ∨ n.kind = 7 ∨ n.kind = 8 ∨ n.kind = 9
  · rw [if_pos h1, if_pos (show 4 ≤ n.kind by omega), if_neg (show ¬ (n.kind = 4 ∨ n.kind = 5) by omega)]
  · by_cases h2 : n.kind = 4 ∨ n.kind = 5
    · rw [if_neg h1, if_pos h2, if_pos (show 4 ≤ n.kind by omega), if_pos h2]
    · rw [if_neg h1, if_neg h2, if_neg (show ¬ 4 ≤ n.kind by omega), if_neg h2]
theorem pmv_mv {txt : ByteArray → Prop} {b : Int} : ∀ {t : T} {off : Nat}, t.ok txt → (t.flat off).map (Nd.pmv b) = (t.flat off).map (Nd.mv b) := by
  intro t
  induction t with
  | void | bytes | text =>
    intro off hok
    rfl
  | two k x y ihx ihy =>
    intro off hok
    have h := hok.1
    simp only [T.flat, List.map_append, List.map_cons, List.map_nil]
    rw [ihx hok.2.1, ihy hok.2.2, pmv_eq (show 1 ≤ k by omega) (show k ≤ 9 by omega)]
  | one k lo hi x ihx =>
    intro off hok
    have h := hok.1
    simp only [T.flat, List.map_append, List.map_cons, List.map_nil]
    rw [ihx hok.2, pmv_eq (show 1 ≤ k by omega) (show k ≤ 9 by omega)]
end Go.Proofs.YtpnipapelnkjbaaDoor

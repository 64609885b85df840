/- Rows of tokens that are parsed, and what is built of them. -/
import Derived.Test.YtoidlnhgaaohdaaDoorParV
import Derived.Test.YtoidlnhgaaohdaaDoorParL
namespace Go.Proofs.YtoidlnhgaaohdaaDoor
set_option linter.all false
open Go Go.RowKit
open Nat (reduceEqDiff reduceAdd reduceMul reduceSub reduceLeDiff)
open Int (reduceEq reduceLT reduceLE)

theorem sameTk.refl (t : Tk) : sameTk t t := ⟨rfl, rfl, rfl, rfl, rfl, rfl, rfl, rfl⟩
theorem sameTk.symm {t u : Tk} (h : sameTk t u) : sameTk u t := by
  obtain ⟨h1, h2, h3, h4, h5, h6, h7, h8⟩ := h
  exact ⟨h1.symm, h2.symm, h3.symm, h4.symm, h5.symm, h6.symm, h7.symm, h8.symm⟩
theorem sameTk.trans {t u v : Tk} (h : sameTk t u) (g : sameTk u v) : sameTk t v := by
  obtain ⟨h1, h2, h3, h4, h5, h6, h7, h8⟩ := h
  obtain ⟨g1, g2, g3, g4, g5, g6, g7, g8⟩ := g
  exact ⟨h1.trans g1, h2.trans g2, h3.trans g3, h4.trans g4, h5.trans g5, h6.trans g6, h7.trans g7, h8.trans g8⟩
theorem tkOk_same {t u : Tk} (h : sameTk t u) (hu : tkOk u) : tkOk t := by
  obtain ⟨h1, _, _, _, _, h6, h7, h8⟩ := h
  unfold tkOk
  rw [h1, h6, h7, h8]
  exact hu
theorem tkOk_z : tkOk Tk.z := ⟨fun h => by simp [Tk.z] at h, fun h => by simp [Tk.z] at h⟩
theorem tk_out {l : List Tk} {i : Nat} (h : l.length ≤ i) : tk l i = Tk.z := by
  rw [tk, List.getD_eq_getElem?_getD, List.getElem?_eq_none h]; rfl
theorem tk_app1 {a b : List Tk} {i : Nat} (h : i < a.length) : tk (a ++ b) i = tk a i := by
  rw [tk, tk, List.getD_eq_getElem?_getD, List.getD_eq_getElem?_getD, List.getElem?_append_left h]
theorem tk_app2 {a b : List Tk} {i : Nat} (h : a.length ≤ i) : tk (a ++ b) i = tk b (i - a.length) := by
  rw [tk, tk, List.getD_eq_getElem?_getD, List.getD_eq_getElem?_getD, List.getElem?_append_right h]
theorem tk_take {l : List Tk} {i k : Nat} (h : i < k) : tk (l.take k) i = tk l i := by
  rw [tk, tk, List.getD_eq_getElem?_getD, List.getD_eq_getElem?_getD, List.getElem?_take, if_pos h]
theorem tk_dl {l : List Tk} {i : Nat} (h : i + 1 < l.length) : tk l.dropLast i = tk l i := by
  rw [List.dropLast_eq_take, tk_take (by omega)]
def tkN (k : Int) : Tk := ⟨k, 0, 0, 0, 0, 0, .empty, 0, 0⟩
/-- Tokens at their places. -/
def reAt (l : List Tk) : List Tk := l.mapIdx fun i t => { t with t := i }
theorem reAt_len {l : List Tk} : (reAt l).length = l.length := by simp [reAt]
theorem reAt_same {l : List Tk} {i : Nat} : sameTk (tk (reAt l) i) (tk l i) := by
  unfold reAt tk
  rw [List.getD_eq_getElem?_getD, List.getD_eq_getElem?_getD, List.getElem?_mapIdx]
  cases l[i]? with
  | none => exact .refl _
  | some t => exact ⟨rfl, rfl, rfl, rfl, rfl, rfl, rfl, rfl⟩
def joinedL (a : List Tk) (k : Int) (b : List Tk) : List Tk := reAt (a.dropLast ++ (if 0 < k then [tkN k] else []) ++ b)
theorem joined0_len {a b : List Tk} (h : 0 < a.length) : (joinedL a 0 b).length + 1 = a.length + b.length := by
  simp [joinedL, reAt_len]; omega
theorem joined0_1 {a b : List Tk} {i : Nat} (h : i + 1 < a.length) : sameTk (tk (joinedL a 0 b) i) (tk a i) := by
  refine (reAt_same).trans ?_
  rw [if_neg (by decide), List.append_nil, tk_app1 (by simp; omega), tk_dl h]
  exact .refl _
theorem joined0_2 {a b : List Tk} {i : Nat} (h : a.length ≤ i + 1) : sameTk (tk (joinedL a 0 b) i) (tk b (i - (a.length - 1))) := by
  refine (reAt_same).trans ?_
  rw [if_neg (by decide), List.append_nil, tk_app2 (by simp; omega), List.length_dropLast]
  exact .refl _
theorem joinedK_len {k : Int} (hk : 0 < k) {a b : List Tk} (h : 0 < a.length) : (joinedL a k b).length = a.length + b.length := by
  simp [joinedL, reAt_len, hk]; omega
theorem joinedK_1 {k : Int} (hk : 0 < k) {a b : List Tk} {i : Nat} (h : i + 1 < a.length) : sameTk (tk (joinedL a k b) i) (tk a i) := by
  refine (reAt_same).trans ?_
  rw [if_pos hk, List.append_assoc, tk_app1 (by simp; omega), tk_dl h]
  exact .refl _
theorem joinedK_m {k : Int} (hk : 0 < k) {a b : List Tk} {i : Nat} (h : i + 1 = a.length) : (tk (joinedL a k b) i).k = k := by
  refine (reAt_same).1.trans ?_
  rw [if_pos hk, List.append_assoc, tk_app2 (by simp; omega), List.length_dropLast, show i - (a.length - 1) = 0 by omega]
  rfl
theorem joinedK_2 {k : Int} (hk : 0 < k) {a b : List Tk} {i : Nat} (h : a.length ≤ i) (h0 : 0 < a.length) : sameTk (tk (joinedL a k b) i) (tk b (i - a.length)) := by
  refine (reAt_same).trans ?_
  rw [if_pos hk, tk_app2 (by simp; omega)]
  simp only [List.length_append, List.length_dropLast, List.length_cons, List.length_nil]
  rw [show i - (a.length - 1 + (0 + 1)) = i - a.length by omega]
  exact .refl _
theorem joined_ok {k : Int} (h2 : k ≠ 2) (h7 : k ≠ 7) {a b : List Tk} (ha : ∀ i, tkOk (tk a i)) (hb : ∀ i, tkOk (tk b i)) (i : Nat) : tkOk (tk (joinedL a k b) i) := by
  refine tkOk_same reAt_same ?_
  have hm : ∀ i, tkOk (tk (if 0 < k then [tkN k] else []) i) := fun i => by
    split
    · cases i with
      | zero => exact ⟨fun h => absurd h h2, fun h => absurd h h7⟩
      | succ i => rw [tk_out (by simp)]; exact tkOk_z
    · rw [tk_out (by simp)]; exact tkOk_z
  by_cases h : i < (a.dropLast ++ (if 0 < k then [tkN k] else [])).length
  · rw [tk_app1 h]
    by_cases g : i < a.dropLast.length
    · rw [tk_app1 g, tk_dl (by simp at g; omega)]; exact ha i
    · rw [tk_app2 (by omega)]; exact hm _
  · rw [tk_app2 (by omega)]; exact hb _

/-- A row of tokens as promised. -/
structure MayP (l : List Tk) : Prop where
  len : 0 < l.length ∧ l.length ≤ 400
  tok : ∀ i, i < l.length → 1 ≤ (tk l i).k ∧ (tk l i).k ≤ 10 ∧ ((tk l i).k = 10 ↔ i + 1 = l.length) ∧ 0 ≤ (tk l i).t ∧ (tk l i).text.size ≤ 100 ∧ ((tk l i).k = 2 → txtOk (tk l i).text) ∧ ((tk l i).k = 7 → 0 ≤ (tk l i).lo ∧ (tk l i).lo ≤ (tk l i).hi ∧ (tk l i).hi ≤ 255)
theorem MayP.ok {l : List Tk} (h : MayP l) (i : Nat) : tkOk (tk l i) := by
  by_cases hi : i < l.length
  · exact (h.tok i hi).2.2.2.2.2
  · rw [tk_out (by omega)]; exact tkOk_z
theorem MayP.fin {l : List Tk} (h : MayP l) : (tk l (l.length - 1)).k = 10 := (h.tok _ (by have := h.len.1; omega)).2.2.1.2 (by have := h.len.1; omega)
/-- It is parsed to a tree. -/
def Par (l : List Tk) (t : T) : Prop := ∃ ats j, Rel l .or 0 [] (.ok t ats j) ∧ (tk l j).k = 10 ∧ l.length = j + 1

theorem Rel.first {l : List Tk} {x : NT} {i : Nat} {os : List Int} {r : PR} (h : Rel l x i os r) : x.isL = false → ∀ t ats j, r = .ok t ats j → begs (tk l i) := by
  have b3 : ∀ {i : Nat}, (tk l i).k = 3 → begs (tk l i) := fun h => by unfold begs; rw [h]; decide
  induction h with
  | or1 h1 h2 ih1 ih2 | row1 h1 h2 ih1 ih2 | post1 h1 h2 ih1 ih2 => exact fun _ t ats j e => ih1 rfl _ _ _ rfl
  | orN | rowN | postN | orY | rowY | postS | postR => exact fun e => by cases e
  | atomG hk h1 ih1 => exact fun _ => ih1 rfl
  | atomB hk => exact fun _ t ats j e => by unfold begs; rw [hk]; decide
  | atomT hk => exact fun _ t ats j e => by unfold begs; rw [hk]; decide
  | atomF hk hk2 h1 ih1 => exact fun _ t ats j e => by unfold begs; rw [hk2]; rcases hk with rfl | rfl <;> decide
  | atomS | groupS | groupZ => exact fun _ t ats j e => absurd e halt_ok
  | groupE hk h64 h4 => exact fun _ t ats j e => b3 hk
  | group1 hk h64 h4 h1 h5 ih => exact fun _ t ats j e => b3 hk
  | or2 | orX | row2 | rowX | post2 | atomX | groupD | group2 => exact fun _ t ats j e => by cases e
theorem deepOk.moved {a l : List Tk} {p j d : Nat} (h : deepOk a 0 j d) (hs : ∀ m, m < j → sameTk (tk l (p + m)) (tk a m)) : deepOk l p j d := fun m hm => by
  have := cnt_same (l := a) (l' := l) (i := 0) (c := p) (n := d) (m := m) fun q _ h2 => by
    rw [Nat.add_comm]; exact (hs q (by omega)).1
  rw [Nat.zero_add] at this
  rw [this]
  exact h m hm
theorem Rel.at' {a l : List Tk} {d : T} {ats : List Int} {j : Nat} (h : Rel a .or 0 [] (.ok d ats j)) (hk : (tk a j).k = 10) (p : Nat) (os : List Int) (hs : ∀ m, m < j → sameTk (tk l (p + m)) (tk a m)) (hl : NT.or.ends (tk l (p + j))) (hd : deepOk a 0 j os.length) : ∃ ats', Rel l .or p os (.ok d ats' (p + j)) := by
  have hm := h.move (l' := l) (c := p) hk _ _ _ rfl (Nat.zero_le _) os [] (fun m _ h2 => by rw [Nat.add_comm]; exact hs m h2) (by rw [Nat.add_comm]; exact hl) (by rw [Nat.zero_add]; exact hd.moved hs)
  rw [Nat.zero_add, Nat.add_comm] at hm
  exact hm
theorem ends4 {t : Tk} (h : t.k = 4) : NT.or.ends t := ⟨by omega, by unfold begs; rw [h]; decide, by omega, by omega⟩
theorem ends10 {t : Tk} (h : t.k = 10) : NT.or.ends t := ⟨by omega, by unfold begs; rw [h]; decide, by omega, by omega⟩
theorem Rel.brak {a l : List Tk} {d : T} {ats : List Int} {j : Nat} (h : Rel a .or 0 [] (.ok d ats j)) (hk : (tk a j).k = 10) (p : Nat) (os : List Int) (h3 : (tk l p).k = 3) (hs : ∀ m, m < j → sameTk (tk l (p + 1 + m)) (tk a m)) (h4 : (tk l (p + 1 + j)).k = 4) (hd : deepOk a 0 j (os.length + 1)) : ∃ ats', Rel l .group p os (.ok d ats' (p + 1 + j + 1)) := by
  have h0 : 0 < j := (h.within hk (Nat.zero_le _)).2.2 rfl _ _ _ rfl
  have h64 : os.length < 64 := by
    have := hd 0 (Nat.zero_le _)
    have e : cnt a 0 0 ((os.length + 1 : Nat) : Int) = ((os.length + 1 : Nat) : Int) := rfl
    rw [e] at this
    omega
  obtain ⟨a1, r1⟩ := h.at' hk (l := l) (p + 1) (os ++ [(tk l p).t]) hs (ends4 h4) (by simpa using hd)
  refine ⟨a1, .group1 h3 h64 (fun c => ?_) r1 h4⟩
  have := h.first rfl _ _ _ rfl
  have e := (hs 0 h0).1
  rw [Nat.add_zero] at e
  unfold begs at this
  rw [← e, c] at this
  exact absurd this (by decide)
theorem deep_of {a : List Tk} (h : deepF (tkN 3 :: a) 0 = none) {j : Nat} (hj : j ≤ a.length) : deepOk a 0 j 1 := fun m hm => by
  have h1 := deepF_all.1 h (1 + m) (by simp; omega)
  have e : cnt (tkN 3 :: a) (0 + 1) m 1 = cnt a 0 m 1 := cnt_same (c := 1) fun q _ _ => rfl
  rw [cnt_add, cnt_one, show dstep 0 (tk (tkN 3 :: a) 0) = 1 from rfl, e] at h1
  exact h1

/-- A row of tokens in brackets. -/
structure Brk (a l : List Tk) : Prop where
  len : l.length = a.length + 2
  o : (tk l 0).k = 3
  m : ∀ m, m + 1 < a.length → sameTk (tk l (1 + m)) (tk a m)
  c : (tk l a.length).k = 4
  e : (tk l (a.length + 1)).k = 10
theorem brk_joined {a : List Tk} (ha : 0 < a.length) : Brk a (joinedL (joinedL [tkN 3, tkN 10] 0 a) 0 [tkN 4, tkN 10]) := by
  have l1 : (joinedL [tkN 3, tkN 10] 0 a).length + 1 = 2 + a.length := joined0_len (by simp)
  have l2 : (joinedL (joinedL [tkN 3, tkN 10] 0 a) 0 [tkN 4, tkN 10]).length + 1 = _ := joined0_len (by omega)
  simp only [List.length_cons, List.length_nil] at l2
  refine ⟨by omega, ?_, fun m hm => ?_, ?_, ?_⟩
  · exact (joined0_1 (by omega)).1.trans (joined0_1 (by simp)).1
  · refine (joined0_1 (by omega)).trans ((joined0_2 (by simp)).trans ?_)
    rw [show 1 + m - ([tkN 3, tkN 10].length - 1) = m by simp]
    exact .refl _
  · refine (joined0_2 (by omega)).1.trans ?_
    rw [show a.length - ((joinedL [tkN 3, tkN 10] 0 a).length - 1) = 0 by omega]
    rfl
  · refine (joined0_2 (by omega)).1.trans ?_
    rw [show a.length + 1 - ((joinedL [tkN 3, tkN 10] 0 a).length - 1) = 1 by omega]
    rfl
theorem par_in {a l : List Tk} {d : T} (h : Par a d) (hd : deepF (tkN 3 :: a) 0 = none) (hb : Brk a l) : Par l d := by
  obtain ⟨ats, j, h1, h2, h3⟩ := h
  obtain ⟨b1, b2, b3, b4, b5⟩ := hb
  rw [h3] at b4 b5
  obtain ⟨a1, r1⟩ := h1.brak (l := l) h2 0 [] b2 (fun m hm => by rw [Nat.zero_add]; exact b3 m (by omega)) (by rw [show 0 + 1 + j = j + 1 by omega]; exact b4) (deep_of hd (by omega))
  rw [show 0 + 1 + j + 1 = j + 2 by omega] at r1
  have e := ends10 b5
  exact ⟨a1, j + 2, .or1 (.row1 (.post1 (.atomG b2 r1) (.postN e.2.2.1 e.2.2.2)) (.rowN e.2.1)) (.orN e.1), b5, by omega⟩
theorem par_w {a x l : List Tk} {d : T} (h : Par a d) (hd : deepF (tkN 3 :: a) 0 = none) (hb : Brk a x) (hl : l.length = x.length + 1) (h9 : (tk l 0).k = 9) (hx : ∀ i, i < x.length → (sameTk (tk l (1 + i)) (tk x i))) : Par l (.one 9 0 0 d) := by
  obtain ⟨ats, j, h1, h2, h3⟩ := h
  obtain ⟨b1, b2, b3, b4, b5⟩ := hb
  rw [h3] at b4 b5
  have b5' := (hx (j + 2) (by omega)).1.trans b5
  obtain ⟨a1, r1⟩ := h1.brak (l := l) h2 1 [] ((hx 0 (by omega)).1.trans b2) (fun m hm => by rw [Nat.add_assoc]; exact (hx (1 + m) (by omega)).trans (b3 m (by omega))) (by rw [Nat.add_assoc, Nat.add_comm 1 j]; exact (hx (j + 1) (by omega)).1.trans b4) (deep_of hd (by omega))
  rw [show 1 + 1 + j + 1 = 1 + (j + 2) by omega] at r1
  have e := ends10 b5'
  exact ⟨_, 1 + (j + 2), .or1 (.row1 (.post1 (.atomF (.inr rfl) h9 r1) (.postN e.2.2.1 e.2.2.2)) (.rowN e.2.1)) (.orN e.1), b5', by omega⟩
theorem par_s {a b x y l : List Tk} {d c : T} (h : Par a d) (g : Par b c) (hd : deepF (tkN 3 :: a) 0 = none) (gd : deepF (tkN 3 :: b) 0 = none) (hb : Brk a x) (gb : Brk b y) (hl : l.length + 1 = x.length + y.length) (hx : ∀ i, i + 1 < x.length → (sameTk (tk l i) (tk x i))) (hy : ∀ i, i < y.length → (sameTk (tk l (x.length - 1 + i)) (tk y i))) : Par l (.two 4 d c) := by
  obtain ⟨ats, j, h1, h2, h3⟩ := h
  obtain ⟨bts, k, g1, g2, g3⟩ := g
  obtain ⟨b1, b2, b3, b4, b5⟩ := hb
  obtain ⟨c1, c2, c3, c4, c5⟩ := gb
  rw [h3] at b4 b5
  rw [g3] at c4 c5
  rw [show x.length - 1 = j + 2 by omega] at hy
  obtain ⟨a1, r1⟩ := h1.brak (l := l) h2 0 [] ((hx 0 (by omega)).1.trans b2) (fun m hm => by rw [Nat.zero_add]; exact (hx (1 + m) (by omega)).trans (b3 m (by omega))) (by rw [show 0 + 1 + j = j + 1 by omega]; exact (hx (j + 1) (by omega)).1.trans b4) (deep_of hd (by omega))
  rw [show 0 + 1 + j + 1 = j + 2 by omega] at r1
  have k3 : (tk l (j + 2)).k = 3 := (hy 0 (by omega)).1.trans c2
  have c5' := (hy (k + 2) (by omega)).1.trans c5
  obtain ⟨a2, r2⟩ := g1.brak (l := l) g2 (j + 2) [] k3 (fun m hm => by rw [Nat.add_assoc (j + 2)]; exact (hy (1 + m) (by omega)).trans (c3 m (by omega))) (by rw [Nat.add_assoc (j + 2), Nat.add_comm 1 k]; exact (hy (k + 1) (by omega)).1.trans c4) (deep_of gd (by omega))
  rw [show j + 2 + 1 + k + 1 = j + 2 + (k + 2) by omega] at r2
  have e := ends10 c5'
  have k0 : (tk l 0).k = 3 := (hx 0 (by omega)).1.trans b2
  exact ⟨_, j + 2 + (k + 2), .or1 (.row1 (.post1 (.atomG k0 r1) (.postN (by omega) (by omega))) (.rowY (by unfold begs; rw [k3]; decide) (.post1 (.atomG k3 r2) (.postN e.2.2.1 e.2.2.2)) (.rowN e.2.1))) (.orN e.1), c5', by omega⟩
theorem par_o {a b y l : List Tk} {d c : T} (h : Par a d) (g : Par b c) (gd : deepF (tkN 3 :: b) 0 = none) (gb : Brk b y) (hl : l.length = a.length + y.length) (hx : ∀ i, i + 1 < a.length → (sameTk (tk l i) (tk a i))) (h5 : (tk l (a.length - 1)).k = 5) (hy : ∀ i, i < y.length → (sameTk (tk l (a.length + i)) (tk y i))) : Par l (.two 5 d c) := by
  obtain ⟨ats, j, h1, h2, h3⟩ := h
  obtain ⟨bts, k, g1, g2, g3⟩ := g
  obtain ⟨c1, c2, c3, c4, c5⟩ := gb
  rw [g3] at c4 c5
  rw [h3] at hy
  rw [show a.length - 1 = j by omega] at h5
  have k3 : (tk l (j + 1)).k = 3 := (hy 0 (by omega)).1.trans c2
  have c5' := (hy (k + 2) (by omega)).1.trans c5
  obtain ⟨a2, r2⟩ := g1.brak (l := l) g2 (j + 1) [] k3 (fun m hm => by rw [Nat.add_assoc (j + 1)]; exact (hy (1 + m) (by omega)).trans (c3 m (by omega))) (by rw [Nat.add_assoc (j + 1), Nat.add_comm 1 k]; exact (hy (k + 1) (by omega)).1.trans c4) (deep_of gd (by omega))
  rw [show j + 1 + 1 + k + 1 = j + 1 + (k + 2) by omega] at r2
  have e := ends10 c5'
  have hsame : ∀ m, m < j → sameTk (tk l (0 + m)) (tk a m) := fun m hm => by rw [Nat.zero_add]; exact hx m (by omega)
  have hd0 : deepOk l 0 (j - 0) ([] : List Int).length := deepOk.moved (a := a) (h1.deep (by simp) _ _ _ rfl) hsame
  obtain ⟨r, ⟨q, rfl⟩, hq⟩ := h1.onOr (l' := l) h2 _ _ _ rfl (Nat.zero_le _) trivial [] [] (fun r => ∃ q, r = .ok (.two 5 d c) q (j + 1 + (k + 2))) (fun m _ hm => hx m (by omega)) ⟨by unfold begs; rw [h5]; decide, by omega, by omega⟩ hd0 (fun a0 => ⟨_, ⟨_, rfl⟩, .orY h5 (.row1 (.post1 (.atomG k3 r2) (.postN e.2.2.1 e.2.2.2)) (.rowN e.2.1)) (.orN e.1)⟩)
  exact ⟨q, j + 1 + (k + 2), hq, c5', by omega⟩
end Go.Proofs.YtoidlnhgaaohdaaDoor

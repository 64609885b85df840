/- What parse.Parse says of a row of tokens. -/
import Derived.Test.YtoidlnhgaaohdaaDoorParW
import Derived.Test.YtoidlnhgaaohdaaDoorParK
namespace Go.Proofs.YtoidlnhgaaohdaaDoor
set_option linter.all false
open Go Go.RowKit
open Nat (reduceEqDiff reduceAdd reduceMul reduceSub reduceLeDiff)
open Int (reduceEq reduceLT reduceLE)

/-- It has a fault. -/
def BadAt (l : List Tk) (w a : Int) (j : Nat) : Prop := Rel l .or 0 [] (.bad w a j) ∨ ∃ t ats, Rel l .or 0 [] (.ok t ats j) ∧ (tk l j).k ≠ 10 ∧ w = 7 ∧ a = (tk l j).t
theorem parse_bad {l : List Tk} {w a : Int} {j e : Nat} (h : BadAt l w a j) (hl : l.length ≤ 1000) (hok : ∀ i, tkOk (tk l i)) (he : (tk l e).k = 10) (hel : e < l.length) : PCon Tryd.prog glU 9 [tks l] (pout (.bad w a j)) := by
  rcases h with h | ⟨t, ats, h, h1, rfl, rfl⟩
  · exact c_parse h hl hok he hel
  · have := c_parse h hl hok he hel
    rwa [fin, if_neg h1, halt, if_neg (fun c => absurd c.1 h1)] at this
theorem parse_ok {l : List Tk} {t : T} (h : Par l t) (hl : l.length ≤ 1000) (hok : ∀ i, tkOk (tk l i)) : ∃ ats j, PCon Tryd.prog glU 9 [tks l] (pout (.ok t ats j)) := by
  obtain ⟨ats, j, h1, h2, h3⟩ := h
  have := c_parse h1 hl hok h2 (by omega)
  rw [fin, if_pos h2] at this
  exact ⟨ats, j, this⟩
theorem parse_of {l : List Tk} (h : MayP l) : (∃ t ats, Rel l .or 0 [] (.ok t ats (l.length - 1)) ∧ PCon Tryd.prog glU 9 [tks l] (pout (.ok t ats (l.length - 1)))) ∨ ∃ w a j, j < l.length ∧ BadAt l w a j ∧ PCon Tryd.prog glU 9 [tks l] (pout (.bad w a j)) := by
  have hn := h.len.1
  obtain ⟨r, hr⟩ := (Rel.total h.fin _ 0 rfl (Nat.zero_le _) []).1
  have hw := hr.within h.fin (Nat.zero_le _)
  cases r with
  | bad w a j =>
    have h2 : j ≤ l.length - 1 := hw.2.1
    exact .inr ⟨w, a, j, by omega, .inl hr, parse_bad (.inl hr) (by have := h.len.2; omega) h.ok h.fin (by omega)⟩
  | ok t ats j =>
    have h2 : j ≤ l.length - 1 := hw.2.1
    by_cases hk : (tk l j).k = 10
    · have e := (h.tok j (by omega)).2.2.1.1 hk
      have e2 : j = l.length - 1 := by omega
      subst e2
      have := c_parse hr (by have := h.len.2; omega) h.ok hk (by omega)
      rw [fin, if_pos hk] at this
      exact .inl ⟨t, ats, hr, this⟩
    · have hb : BadAt l 7 (tk l j).t j := .inr ⟨t, ats, hr, hk, rfl, rfl⟩
      exact .inr ⟨_, _, j, by omega, hb, parse_bad hb (by have := h.len.2; omega) h.ok h.fin (by omega)⟩
section
variable {l : List Tk} {w a : Int} {j : Nat}
theorem BadAt.why (h : BadAt l w a j) : (w = 6 ∨ w = 7 ∨ w = 8) ∧ (w = 7 → a = (tk l j).t) := by
  rcases h with h | ⟨t, ats, h, h1, rfl, rfl⟩
  · exact Rel.why h _ _ _ rfl
  · exact ⟨.inr (.inl rfl), fun _ => rfl⟩
theorem BadAt.placed {e : Nat} (h : BadAt l w a j) (he : (tk l e).k = 10) : ∃ m, m ≤ e ∧ a = (tk l m).t := by
  rcases h with h | ⟨t, ats, h, h1, rfl, rfl⟩
  · rcases h.placed he (Nat.zero_le _) _ _ _ rfl with h | h
    · exact h
    · cases h
  · exact ⟨j, (h.within he (Nat.zero_le _)).2.1, rfl⟩
theorem BadAt.agree {l' : List Tk} {e : Nat} (h : BadAt l w a j) (he : (tk l e).k = 10) (hs : ∀ m, m ≤ j → tk l' m = tk l m) : BadAt l' w a j := by
  rcases h with h | ⟨t, ats, h, h1, h2, h3⟩
  · exact .inl (h.agree he (Nat.zero_le _) hs)
  · exact .inr ⟨t, ats, h.agree he (Nat.zero_le _) hs, by rw [hs j (Nat.le_refl _)]; exact h1, h2, by rw [hs j (Nat.le_refl _)]; exact h3⟩
theorem BadAt.deep {e : Nat} (h : BadAt l 8 a j) (hj : j < l.length) : deepF l 0 ≠ none := by
  rcases h with h | ⟨t, ats, h, h1, h2, h3⟩
  · exact h.toodeep hj
  · cases h2
end
/-- Its tokens, with two others in place of the end. -/
def onTo (l : List Tk) (x y : Tk) : List Tk := l.dropLast ++ [x, y]
theorem onTo_len {l : List Tk} {x y : Tk} (h : 0 < l.length) : (onTo l x y).length = l.length + 1 := by simp [onTo]; omega
theorem onTo_1 {l : List Tk} {x y : Tk} {m : Nat} (h : m + 1 < l.length) : tk (onTo l x y) m = tk l m := by
  rw [onTo, tk_app1 (by simp; omega), tk_dl h]
theorem onTo_2 {l : List Tk} {x y : Tk} (h : 0 < l.length) : tk (onTo l x y) (l.length - 1) = x := by
  rw [onTo, tk_app2 (by simp), List.length_dropLast, Nat.sub_self]; rfl
theorem onTo_3 {l : List Tk} {x y : Tk} (h : 0 < l.length) : tk (onTo l x y) l.length = y := by
  rw [onTo, tk_app2 (by simp), List.length_dropLast, show l.length - (l.length - 1) = 1 by omega]; rfl
theorem onTo_ok {l : List Tk} {x y : Tk} (h : ∀ i, tkOk (tk l i)) (h0 : 0 < l.length) (hx : tkOk x) (hy : tkOk y) (i : Nat) : tkOk (tk (onTo l x y) i) := by
  by_cases h1 : i + 1 < l.length
  · rw [onTo_1 h1]; exact h i
  · by_cases h2 : i = l.length - 1
    · rw [h2, onTo_2 h0]; exact hx
    · by_cases h3 : i = l.length
      · rw [h3, onTo_3 h0]; exact hy
      · rw [tk_out (by rw [onTo_len h0]; omega)]; exact tkOk_z
section
variable {l : List Tk} {t : T} {ats : List Int} {x y : Tk}
theorem fault_close (h : Rel l .or 0 [] (.ok t ats (l.length - 1))) (he : (tk l (l.length - 1)).k = 10) (h0 : 0 < l.length) (hx : x.k = 4) : BadAt (onTo l x y) 7 x.t (l.length - 1) := by
  have hd : deepOk (onTo l x y) (0 + 0) (l.length - 1 - 0) ([] : List Int).length := deepOk.moved (a := l) (h.deep (by simp) _ _ _ rfl) fun m hm => by rw [Nat.add_zero, Nat.zero_add, onTo_1 (by omega)]; exact .refl _
  obtain ⟨a, r⟩ := h.move (l' := onTo l x y) (c := 0) he _ _ _ rfl (Nat.zero_le _) [] [] (fun m _ hm => by rw [Nat.add_zero, onTo_1 (by omega)]; exact .refl _) (by rw [Nat.add_zero, onTo_2 h0]; exact ends4 hx) hd
  exact .inr ⟨t, a, r, by rw [onTo_2 h0]; omega, rfl, by rw [onTo_2 h0]⟩
theorem nobegs {t : Tk} (h : t.k = 10) : ¬ begs t := by unfold begs; rw [h]; decide
theorem halt_0 {l : List Tk} {i : Nat} : halt l i [] = .bad 7 (tk l i).t i := if_neg fun c => absurd c.2 (by simp)
theorem fault_or (h : Rel l .or 0 [] (.ok t ats (l.length - 1))) (he : (tk l (l.length - 1)).k = 10) (h0 : 0 < l.length) (hx : x.k = 5) (hy : y.k = 10) : BadAt (onTo l x y) 7 y.t l.length := by
  have hd : deepOk (onTo l x y) 0 (l.length - 1 - 0) ([] : List Int).length := deepOk.moved (a := l) (h.deep (by simp) _ _ _ rfl) fun m hm => by rw [Nat.zero_add, onTo_1 (by omega)]; exact .refl _
  have k5 : (tk (onTo l x y) (l.length - 1)).k = 5 := by rw [onTo_2 h0]; exact hx
  have ky : tk (onTo l x y) (l.length - 1 + 1) = y := by rw [show l.length - 1 + 1 = l.length by omega, onTo_3 h0]
  have hb : Rel (onTo l x y) .row (l.length - 1 + 1) [] (.bad 7 y.t (l.length - 1 + 1)) := by
    have := Rel.atomS (l := onTo l x y) (i := l.length - 1 + 1) (os := []) (by rw [ky]; exact nobegs hy)
    rw [halt_0, ky] at this
    exact .row2 (.post2 this)
  obtain ⟨r, rfl, hr⟩ := h.onOr (l' := onTo l x y) he _ _ _ rfl (Nat.zero_le _) trivial [] [] (fun r => r = .bad 7 y.t l.length) (fun m _ hm => by rw [onTo_1 (by omega)]; exact .refl _) ⟨by unfold begs; rw [k5]; decide, by omega, by omega⟩ hd (fun a0 => ⟨_, rfl, by
    have := Rel.orX (t := t) (ats := a0) k5 hb
    rwa [show l.length - 1 + 1 = l.length by omega] at this⟩)
  exact .inl hr
theorem fault_frame (h : Rel l .or 0 [] (.ok t ats (l.length - 1))) (he : (tk l (l.length - 1)).k = 10) (h0 : 0 < l.length) (hx : x.k = 8) (hy : y.k = 10) : BadAt (onTo l x y) 7 y.t l.length := by
  have hd : deepOk (onTo l x y) 0 (l.length - 1 - 0) ([] : List Int).length := deepOk.moved (a := l) (h.deep (by simp) _ _ _ rfl) fun m hm => by rw [Nat.zero_add, onTo_1 (by omega)]; exact .refl _
  have k8 : (tk (onTo l x y) (l.length - 1)).k = 8 := by rw [onTo_2 h0]; exact hx
  have ky : tk (onTo l x y) (l.length - 1 + 1) = y := by rw [show l.length - 1 + 1 = l.length by omega, onTo_3 h0]
  have hb : Rel (onTo l x y) .group (l.length - 1 + 1) [] (.bad 7 y.t (l.length - 1 + 1)) := by
    have := Rel.groupS (l := onTo l x y) (i := l.length - 1 + 1) (os := []) (by rw [ky]; omega)
    rwa [halt_0, ky] at this
  have h1 := (h.within he (Nat.zero_le _)).2.2 rfl _ _ _ rfl
  have hr := h.onRow (l' := onTo l x y) he _ _ _ rfl (Nat.zero_le _) trivial (fun _ => trivial) [] [] 7 y.t l.length (fun m _ hm => by rw [onTo_1 (by omega)]; exact .refl _) ⟨by omega, by omega⟩ hd (fun t0 a0 => by
    have := Rel.rowX (t := t0) (ats := a0) (by unfold begs; rw [k8]; decide) (.post2 (.atomX (.inl rfl) k8 hb))
    rwa [show l.length - 1 + 1 = l.length by omega] at this)
  exact .inl hr
end

/-- So many brackets, one within the other. -/
def deepL (n : Nat) : List Tk := (List.range n).map (fun i => { tkN 3 with t := i }) ++ [tkN 1] ++ List.replicate n { tkN 4 with t := 100 } ++ [{ tkN 10 with t := 200 }]
theorem deepL_len {n : Nat} : (deepL n).length = 2 * n + 2 := by simp [deepL]; omega
theorem deepL_o {n i : Nat} (h : i < n) : tk (deepL n) i = { tkN 3 with t := i } := by
  rw [deepL, tk_app1 (by simp; omega), tk_app1 (by simp; omega), tk_app1 (by simpa using h), tk, List.getD_eq_getElem?_getD, List.getElem?_map, List.getElem?_range h]; rfl
theorem deepL_m {n : Nat} : tk (deepL n) n = tkN 1 := by
  rw [deepL, tk_app1 (by simp), tk_app1 (by simp), tk_app2 (by simp)]
  simp [tk]
theorem deepL_c {n i : Nat} (h : n < i) (h2 : i ≤ 2 * n) : tk (deepL n) i = { tkN 4 with t := 100 } := by
  rw [deepL, tk_app1 (by simp; omega), tk_app2 (by simp; omega), tk, List.getD_eq_getElem?_getD, List.getElem?_replicate, if_pos (by simp; omega)]; rfl
theorem deepL_e {n : Nat} : tk (deepL n) (2 * n + 1) = { tkN 10 with t := 200 } := by
  rw [deepL, tk_app2 (by simp; omega)]
  simp only [List.length_append, List.length_map, List.length_range, List.length_cons, List.length_nil, List.length_replicate]
  rw [show 2 * n + 1 - (n + (0 + 1) + n) = 0 by omega]
  rfl
theorem deepL_ok {n : Nat} (i : Nat) : tkOk (tk (deepL n) i) := by
  by_cases h1 : i < n
  · rw [deepL_o h1]; exact ⟨fun h => absurd h (show ¬ (3 : Int) = 2 by decide), fun h => absurd h (show ¬ (3 : Int) = 7 by decide)⟩
  · by_cases h2 : i = n
    · rw [h2, deepL_m]; exact ⟨fun h => absurd h (by decide), fun h => absurd h (by decide)⟩
    · by_cases h3 : i ≤ 2 * n
      · rw [deepL_c (by omega) h3]; exact ⟨fun h => absurd h (by decide), fun h => absurd h (by decide)⟩
      · by_cases h4 : i = 2 * n + 1
        · rw [h4, deepL_e]; exact ⟨fun h => absurd h (by decide), fun h => absurd h (by decide)⟩
        · rw [tk_out (by rw [deepL_len]; omega)]; exact tkOk_z
theorem deepL_rel {n : Nat} (hn : n ≤ 64) (hn0 : 0 < n) : ∀ (q : Nat) (os : List Int), q ≤ n → os.length = n - q → Rel (deepL n) .or (n - q) os (.ok (.bytes 0 0 0 0) [-1] (n + 1 + q)) := by
  intro q
  have tail : ∀ {i j : Nat} {os : List Int} {t : T} {ats : List Int}, ((tk (deepL n) j).k = 4 ∨ (tk (deepL n) j).k = 10) → Rel (deepL n) .atom i os (.ok t ats j) → Rel (deepL n) .or i os (.ok t ats j) := fun {i j os t ats} hk h =>
    .or1 (.row1 (.post1 h (.postN (by omega) (by omega))) (.rowN (by unfold begs; rcases hk with hk | hk <;> rw [hk] <;> decide))) (.orN (by omega))
  have kk : ∀ q, q ≤ n → (tk (deepL n) (n + 1 + q)).k = 4 ∨ (tk (deepL n) (n + 1 + q)).k = 10 := fun q hq => by
    by_cases h : q = n
    · rw [h, show n + 1 + n = 2 * n + 1 by omega, deepL_e]; exact .inr rfl
    · rw [deepL_c (by omega) (by omega)]; exact .inl rfl
  induction q with
  | zero =>
    intro os hq ho
    refine tail (kk 0 hq) ?_
    have h1 : (tk (deepL n) n).k = 1 := by rw [deepL_m]; rfl
    have := Rel.atomB (os := os) h1
    rw [deepL_m] at this
    exact this
  | succ q ih =>
    intro os hq ho
    refine tail (kk (q + 1) hq) ?_
    have k3 : (tk (deepL n) (n - (q + 1))).k = 3 := by rw [deepL_o (by omega)]; rfl
    have hi := ih (os ++ [(tk (deepL n) (n - (q + 1))).t]) (by omega) (by simp; omega)
    rw [show n - q = n - (q + 1) + 1 by omega] at hi
    have h4 : (tk (deepL n) (n - (q + 1) + 1)).k ≠ 4 := fun c => by
      have := hi.first rfl _ _ _ rfl
      unfold begs at this
      rw [c] at this
      exact absurd this (by decide)
    exact .atomG k3 (.group1 k3 (by omega) h4 hi (by show (tk (deepL n) (n + 1 + q)).k = 4; rw [deepL_c (i := n + 1 + q) (by omega) (by omega)]; rfl))
theorem deepL_par {n : Nat} (hn : n ≤ 64) (hn0 : 0 < n) : Par (deepL n) (.bytes 0 0 0 0) := by
  have := deepL_rel hn hn0 n [] (Nat.le_refl _) (by simp)
  rw [Nat.sub_self, show n + 1 + n = 2 * n + 1 by omega] at this
  exact ⟨_, _, this, by rw [deepL_e]; rfl, deepL_len⟩
theorem deepL_bad {n : Nat} (hn : 64 < n) : BadAt (deepL n) 8 64 64 := by
  have k3 : ∀ q, q ≤ 64 → (tk (deepL n) q).k = 3 := fun q hq => by rw [deepL_o (by omega)]; rfl
  have all : ∀ (q : Nat) (os : List Int), q ≤ 64 → os.length = 64 - q → Rel (deepL n) .or (64 - q) os (.bad 8 64 64) := by
    intro q
    induction q with
    | zero =>
      intro os _ ho
      have := Rel.groupD (os := os) (k3 64 (by omega)) (by omega)
      rw [deepL_o (by omega)] at this
      exact .or2 (.row2 (.post2 (.atomG (k3 64 (by omega)) this)))
    | succ q ih =>
      intro os hq ho
      have hi := ih (os ++ [(tk (deepL n) (64 - (q + 1))).t]) (by omega) (by simp; omega)
      rw [show 64 - q = 64 - (q + 1) + 1 by omega] at hi
      exact .or2 (.row2 (.post2 (.atomG (k3 _ (by omega)) (.group2 (k3 _ (by omega)) (by omega) (by rw [k3 _ (by omega)]; decide) hi))))
  exact .inl (all 64 [] (Nat.le_refl _) rfl)
end Go.Proofs.YtoidlnhgaaohdaaDoor

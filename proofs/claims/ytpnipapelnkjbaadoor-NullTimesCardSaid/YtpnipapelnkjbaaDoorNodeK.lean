/- node's functions over trees; the plain laws of what is turned. -/
import Derived.Test.YtpnipapelnkjbaaDoorNodeI
namespace Go.Proofs.YtpnipapelnkjbaaDoor
set_option linter.all false
open Go Go.RowKit
open Nat (reduceEqDiff reduceAdd reduceMul reduceSub reduceLeDiff)
open Int (reduceEq reduceLT reduceLE)

theorem c_nformT {t : T} (hok : t.ok txtOk) (hn : t.n ≤ 1048576) : PCon Tryd.prog glU 25 [desc (t.flat 0)] (.bool true) := by
  have h := c_nform (l := t.flat 0) (by rw [T.flat_len]; exact hn) (flat_txD hok)
  rwa [(frOk_iff (flat_txD hok)).2 ⟨t, rfl, hok⟩] at h
theorem c_nformF {l : List Nd} (hl : l.length ≤ 1048576) (htx : ∀ i, (l.getD i Nd.z).text.size ≤ 1048576) (hno : ∀ t : T, l = t.flat 0 → t.ok txtOk → False) : PCon Tryd.prog glU 25 [desc l] (.bool false) := by
  have h := c_nform hl htx
  have : frOk l = false := by
    cases hh : frOk l with
    | false => rfl
    | true => obtain ⟨t, h1, h2⟩ := (frOk_iff htx).1 hh; exact (hno t h1 h2).elim
  rwa [this] at h
theorem c_nfirstT {t0 t : T} {off i : Nat} (hok0 : t0.ok txtOk) (hn : t0.n ≤ 1048576) (hs : Sits (t0.flat 0) off t) (he : off + t.n = i + 1) (hok : t.ok txtOk) : PCon Tryd.prog glU 28 [desc (t0.flat 0), .int .i64 i] (.int .i64 off) := by
  have hlt := hs.lt
  obtain ⟨f1, f2⟩ := frs_at (flat_txD hok0) ⟨t0, rfl, hok0⟩
  have h := c_nfirst (l := t0.flat 0) (i := i) (by rw [T.flat_len]; exact hn) (flat_txD hok0) (by omega)
  rwa [f2 off i t hs he hok] at h
theorem c_nsubT {t0 t : T} {off i : Nat} (hok0 : t0.ok txtOk) (hn : t0.n ≤ 1048576) (hs : Sits (t0.flat 0) off t) (he : off + t.n = i + 1) (hok : t.ok txtOk) : PCon Tryd.prog glU 30 [desc (t0.flat 0), .int .i64 i] (desc (t.flat 0)) :=
  (cw_nsub (by rw [T.flat_len]; exact hn) (flat_txD hok0) ⟨t0, rfl, hok0⟩ hs he hok).toP
theorem wrap_flat {a : T} {k lo hi : Int} : a.flat 0 ++ [⟨k, ((a.flat 0).length : Int) - 1, 0, lo, hi, 0, 0, 0, 0, .empty⟩] = (T.one k lo hi a).flat 0 := by
  have := a.n_pos
  simp only [T.flat, T.root, T.flat_len, Nat.zero_add]
  rw [show ((a.n - 1 : Nat) : Int) = (a.n : Int) - 1 by omega]
theorem pair_flat {a b : T} {k : Int} (hok : b.ok txtOk) (hb : a.n + b.n ≤ 1099511627776) : a.flat 0 ++ (b.flat 0).map (Nd.pmv (a.flat 0).length) ++ [⟨k, ((a.flat 0).length : Int) - 1, ((a.flat 0).length : Int) + (b.flat 0).length - 1, 0, 0, 0, 0, 0, 0, .empty⟩] = (T.two k a b).flat 0 := by
  have := a.n_pos
  have := b.n_pos
  rw [flat_pmv (off' := a.n) hok (by simp [T.flat_len]) (by omega) (by omega)]
  simp only [T.flat, T.root, T.flat_len, Nat.zero_add, List.append_assoc]
  rw [show ((a.n - 1 : Nat) : Int) = (a.n : Int) - 1 by omega, show ((a.n + (b.n - 1) : Nat) : Int) = (a.n : Int) + b.n - 1 by omega]
theorem c_nwrapT {gl} {a : T} {k lo hi : Int} (hn : a.n ≤ 1048576) : PCon Tryd.prog gl 32 [.int .i64 k, .int .i64 lo, .int .i64 hi, desc (a.flat 0)] (desc ((T.one k lo hi a).flat 0)) := by
  have h := (cw_nwrap (gl := gl) (l := a.flat 0) (k := k) (lo := lo) (hi := hi) (by rw [T.flat_len]; exact hn)).toP
  rwa [wrap_flat] at h
theorem c_npairT {a b : T} {k : Int} (hb : b.ok txtOk) (hn : a.n ≤ 1048576) (hm : b.n ≤ 1048576) : PCon Tryd.prog glU 31 [.int .i64 k, desc (a.flat 0), desc (b.flat 0)] (desc ((T.two k a b).flat 0)) := by
  have h := (cw_npair (l := a.flat 0) (m := b.flat 0) (k := k) (by rw [T.flat_len]; exact hn) (by rw [T.flat_len]; exact hm) (flat_txD hb)).toP
  rwa [pair_flat hb (by omega)] at h
/-- ref04.First of a node that a tree ends with. -/
theorem c_rfirstT {gl} {l : List Nd} (hl : l.length ≤ 1048576) (htx : ∀ i, (l.getD i Nd.z).text.size ≤ 1048576) {t : T} {off i : Nat} (hs : Sits l off t) (he : off + t.n = i + 1) (hok : t.ok txtOk) : PCon Tryd.prog gl 29 [nds l, .int .i64 i] (.int .i64 off) := by
  have hlt := hs.lt
  have hp := t.n_pos
  obtain ⟨r, h1, h2⟩ := c_first (gl := gl) hl htx (i + 1) (by omega)
  have hr : r = off := by
    rcases h1 with ⟨off', t', e, q1, q2, q3⟩ | ⟨e, h⟩
    · have := (sits_uniq t' q1 q2 q3 hs he hok).1
      omega
    · exact absurd (h off t hs he hok) id
  subst hr
  rwa [show ((i + 1 : Nat) : Int) - 1 = i by omega] at h2
theorem sameL_refl {l : List Nd} : sameL l l = true := sameL_iff.2 rfl
theorem sameL_ne {l m : List Nd} (h : l ≠ m) : sameL l m = false := by
  cases hh : sameL l m with
  | false => rfl
  | true => exact absurd (sameL_iff.1 hh) h
theorem two_ne {a b : T} : (T.two 4 a b).flat 0 ≠ (T.two 5 a b).flat 0 := fun h => by
  have := congrArg (fun l => (l.getLast?.map Nd.kind)) h
  simp [T.flat, T.root] at this
theorem one_ne {a b : T} {lo hi lo' hi' : Int} : (T.one 7 lo hi a).flat 0 ≠ (T.one 6 lo' hi' b).flat 0 := fun h => by
  have := congrArg (fun l => (l.getLast?.map Nd.kind)) h
  simp [T.flat, T.root] at this

/-- The first one of a tree's nodes has no parts. -/
theorem flat_head : ∀ (t : T) (off : Nat), ∃ n, (t.flat off)[0]? = some n ∧ n.kind ≤ 3
  | .void, _ => ⟨_, rfl, by simp [T.root]⟩
  | .bytes .., _ => ⟨_, rfl, by simp [T.root]⟩
  | .text _, _ => ⟨_, rfl, by simp [T.root]⟩
  | .two k a b, off => by
    obtain ⟨n, h1, h2⟩ := flat_head a off
    have := a.n_pos
    exact ⟨n, by rw [T.flat, List.getElem?_append_left (by rw [T.flat_len]; exact this)]; exact h1, h2⟩
  | .one k lo hi a, off => by
    obtain ⟨n, h1, h2⟩ := flat_head a off
    have := a.n_pos
    exact ⟨n, by rw [T.flat, List.getElem?_append_left (by rw [T.flat_len]; exact this)]; exact h1, h2⟩
/-- What stands behind a whole. -/
theorem no_more {t : T} (hok : t.ok txtOk) : ∀ t2 : T, t.flat 0 ++ [(t.flat 0).getD 0 Nd.z] = t2.flat 0 → t2.ok txtOk → False := fun t2 h hok2 => by
  have hp := t.n_pos
  obtain ⟨n, h1, h2⟩ := flat_head t 0
  have hl := congrArg List.length h
  simp only [List.length_append, T.flat_len, List.length_singleton] at hl
  have hr := flat_root t2 0
  rw [← h, show t2.n - 1 = t.n by omega, List.getElem?_append_right (by rw [T.flat_len]; exact Nat.le_refl _), T.flat_len, Nat.sub_self] at hr
  simp only [List.getElem?_cons_zero, Option.some.injEq] at hr
  rw [List.getD_eq_getElem?_getD, h1, Option.getD_some] at hr
  cases t2 with
  | void => simp [T.n] at hl; omega
  | bytes => simp [T.n] at hl; omega
  | text => simp [T.n] at hl; omega
  | two k a b => have := hok2.1; rw [hr] at h2; simp [T.root] at h2; omega
  | one k lo hi a => have := hok2.1; rw [hr] at h2; simp [T.root] at h2; omega
/-- Cut behind a node. -/
theorem cut_whole {l : List Nd} {t : T} {off k : Nat} (hs : Sits l off t) (he : off + t.n = k + 1) (hok : t.ok txtOk) : (∃ t2 : T, l.take (k + 1) = t2.flat 0 ∧ t2.ok txtOk) ↔ off = 0 := by
  have hlt := hs.lt
  constructor
  · rintro ⟨t2, h1, h2⟩
    have hn : t2.n = k + 1 := by
      have := congrArg List.length h1
      rw [List.length_take, T.flat_len] at this
      omega
    have hs2 : Sits l 0 t2 := fun i hi => by
      rw [← h1, Nat.zero_add, List.getElem?_take, if_pos (by omega)]
    exact (sits_uniq t hs he hok hs2 (by omega) h2).1
  · rintro rfl
    refine ⟨t, ?_, hok⟩
    have := sits_cut hs
    rw [List.drop_zero, show t.n = k + 1 by omega] at this
    exact this
/-- A node with another number of its first part: no tree's. -/
theorem turned_no {t : T} (hok : t.ok txtOk) {i : Nat} (hi : i < t.n) {z : Int} (hz : z ≠ ((t.flat 0).getD i Nd.z).a) : ∀ t2 : T, (t.flat 0).set i { (t.flat 0).getD i Nd.z with a := z } = t2.flat 0 → t2.ok txtOk → False := fun t2 h hok2 => by
  have hlen := t.flat_len 0
  generalize hl : t.flat 0 = l at *
  have hs : Sits l 0 t := hl ▸ sits_flat t
  have hn2 : t2.n = l.length := by
    have := congrArg List.length h
    rw [List.length_set, T.flat_len] at this
    exact this.symm
  have hs2 : Sits (l.set i { l.getD i Nd.z with a := z }) 0 t2 := h ▸ sits_flat t2
  obtain ⟨u, o, u1, u2, u3, _⟩ := sits_sub t hs hok (i := i) (by omega) (by omega)
  obtain ⟨v, p, v1, v2, v3, _⟩ := sits_sub t2 hs2 hok2 (i := i) (by omega) (by omega)
  have hat : (l.set i { l.getD i Nd.z with a := z }).getD i Nd.z = { l.getD i Nd.z with a := z } := by
    rw [List.getD_eq_getElem?_getD, List.getElem?_set_self (by omega)]
    rfl
  have back : ∀ {b : T} {q : Nat}, q + b.n = i → Sits (l.set i { l.getD i Nd.z with a := z }) q b → Sits l q b := fun {b q} hq hb j hj => by
    rw [← hb j hj, List.getElem?_set_ne (by omega)]
  generalize hn : l.getD i Nd.z = n at *
  rcases root_says u1 u2 u3 with e | ⟨_, _, _, _, e⟩ | ⟨s, e, hs⟩ | ⟨k', a, b, e', e, r1, r2, r3, r4, r5⟩ | ⟨k', lo', hi', a, e', e, r1, r2, r3⟩ <;>
  rcases root_says v1 v2 v3 with f | ⟨_, _, _, _, f⟩ | ⟨_, f, _⟩ | ⟨k2, a2, b2, f', f, w1, w2, w3, w4, w5⟩ | ⟨k2, lo2, hi2, a2, f', f, w1, w2, w3⟩ <;>
  rw [hn] at e <;> rw [hat] at f
  all_goals (have e1 := congrArg Nd.kind e; have e2 := congrArg Nd.a e; have f1 := congrArg Nd.kind f; have f2 := congrArg Nd.a f; simp only at e1 e2 f1 f2)
  all_goals try omega
  · have hb := back w5 w3
    have := b.n_pos
    have := (sits_uniq (i := i - 1) b r3 (by omega) r4 hb (by omega) w4).1
    omega
theorem c_nsameR {gl} {l : List Nd} (hl : l.length ≤ 1048576) : PCon Tryd.prog gl 26 [desc l, desc l] (.bool true) := by
  have h := c_nsame (gl := gl) hl hl
  rwa [sameL_refl] at h
theorem c_nsameN {gl} {l m : List Nd} (hl : l.length ≤ 1048576) (hm : m.length ≤ 1048576) (h : l ≠ m) : PCon Tryd.prog gl 26 [desc l, desc m] (.bool false) := by
  have h1 := c_nsame (gl := gl) hl hm
  rwa [sameL_ne h] at h1
theorem c_rsameR {gl} {l : List Nd} (hl : l.length ≤ 1048576) : PCon Tryd.prog gl 27 [desc l, desc l] (.bool true) := by
  have h := c_rsame (gl := gl) hl hl
  rwa [sameL_refl] at h
end Go.Proofs.YtpnipapelnkjbaaDoor

/- count: values. -/
import Derived.Test.YtpibdbjlilpfiaaCntH
namespace Go.Proofs.Ytpibdbjlilpfiaa
set_option linter.all false
open Go Go.RowKit
open Nat (reduceEqDiff reduceAdd reduceMul reduceSub reduceLeDiff)
open Int (reduceEq reduceLT reduceLE)

/-- What values answers, at a tree. -/
def ValsC (vars : List (Nat × List D)) (l : List Nd) (w : List UInt8) (m off : Nat) (t : T) : Prop := ∀ (lo hi : Int), (0 ≤ lo ∧ lo ≤ 255) → (0 ≤ hi ∧ hi ≤ 255) → ∀ a to : Nat, a ≤ to → to ≤ w.length →
  PCon Try.prog (gM vars l w m) 45 [rdr l w m, keyD [((off + (t.n - 1) : Nat) : Int), lo, hi, (a : Int), (to : Int)]] (vals ((t.at' lo hi).fnd (part' w a to)))
theorem ValsC.asks {vars : List (Nat × List D)} {l : List Nd} {w : List UInt8} {m off : Nat} {t : T} (h : ValsC vars l w m off t) (hs : Sits l off t) (hok : t.ok txtOk) {a to : Nat} (hat : a ≤ to) (hto : to ≤ w.length) : Asks (gM vars l w m) l w m (off + (t.n - 1)) a to (t.fnd (part' w a to)) := by
  have hb := root_bd hok off
  have := h _ _ hb.1 hb.2 a to hat hto
  rw [T.at_self] at this
  unfold Asks
  rw [hs.getD Nd.z]
  exact this
theorem fnd_bd {t : T} {l : List Nd} {off : Nat} (hs : Sits l off t) (hl : l.length ≤ 1000) {w : List UInt8} {a to : Nat} (hto : to ≤ w.length) (hw : w.length ≤ 100) {v : Vl} (hv : v ∈ t.fnd (part' w a to)) : v.bulk ≤ 200000 := by
  have h1 := t.fnd_bulk _ v hv
  have h2 := hs.lt
  have h3 := @cap_mono t.n 1000 (part' w a to).length 100 (by omega) (by rw [part_len hto]; omega)
  have h4 : cap 1000 100 = 200000 := by decide
  omega
theorem values_at {vars : List (Nat × List D)} {l : List Nd} {w : List UInt8} {m : Nat} (hl : l.length ≤ 1000) (hw : w.length ≤ 100) : ∀ (t : T) {off : Nat}, Sits l off t → t.ok txtOk → t.cok → ValsC vars l w m off t := by
  intro t
  induction t with
  | void =>
    intro off hs hok hc lo hi hlo hhi a to hat hto
    exact c_values ⟨_, off, lo, hi, a, to, hs, hok, rfl, rfl⟩ (find_void (by omega) (by have := hs.lt; have := T.n_pos .void; omega) (hs.getD Nd.z) hat hto (by omega)).toP
  | bytes c0 c1 c2 c3 =>
    intro off hs hok hc lo hi hlo hhi a to hat hto
    exact c_values ⟨_, off, lo, hi, a, to, hs, hok, rfl, rfl⟩ (find_bytes (by omega) (by have := hs.lt; have := T.n_pos (.bytes c0 c1 c2 c3); omega) (hs.getD Nd.z) hat hto (by omega) hc).toP
  | text s =>
    intro off hs hok hc lo hi hlo hhi a to hat hto
    exact c_values ⟨_, off, lo, hi, a, to, hs, hok, rfl, rfl⟩ (find_text (by omega) (by have := hs.lt; have := T.n_pos (.text s); omega) (hs.getD Nd.z) hat hto (by omega) hok).toP
  | two k x y ihx ihy =>
    intro off hs hok hc lo hi hlo hhi a to hat hto
    have hx := ihx hs.two1 hok.2.1 hc.1
    have hy := ihy hs.two2 hok.2.2 hc.2
    have lt := hs.lt
    have px := x.n_pos
    have py := y.n_pos
    have hn : (T.two k x y).n = x.n + y.n + 1 := rfl
    refine c_values ⟨_, off, lo, hi, a, to, hs, hok, rfl, rfl⟩ ?_
    show PCon _ _ _ _ (vals ((T.two k x y).fnd (part' w a to)))
    rcases hok.1 with rfl | rfl
    · have e := cross_part (F := x.fnd) (G := y.fnd) (J := fun x y => .mk 4 0 .empty 0 [x, y]) (f := 0) hat hto
      have hf := find_seq (gl := gM vars l w m) (lo := lo) (hi := hi) (A := fun mid => x.fnd (part' w a mid)) (B := fun mid => y.fnd (part' w mid to)) (by omega) (by omega) (hs.getD Nd.z) hat hto (by omega) (ia := off + (x.n - 1)) (ib := off + x.n + (y.n - 1)) (by omega) (by omega) (fun mid => x.fnd_len _) (fun mid => y.fnd_len _)
        (fun mid h1 h2 => hx.asks hs.two1 hok.2.1 h1 (by omega)) (fun mid h1 h2 => hy.asks hs.two2 hok.2.2 h2 hto) (fun mid u v h1 h2 hu hv => by
          have b1 := fnd_bd hs.two1 hl (by omega) hw hu
          have b2 := fnd_bd hs.two2 hl hto hw hv
          rw [mk_bulk, bulk2]
          omega)
      rw [Nat.add_zero] at e
      rw [e] at hf
      rw [T.fnd, if_pos rfl]
      exact hf
    · have hf := find_or (gl := gM vars l w m) (lo := lo) (hi := hi) (A := x.fnd (part' w a to)) (B := y.fnd (part' w a to)) (by omega) (by omega) (hs.getD Nd.z) hat hto (by omega) (ia := off + (x.n - 1)) (ib := off + x.n + (y.n - 1)) (by omega) (by omega) (x.fnd_len _) (y.fnd_len _)
        (hx.asks hs.two1 hok.2.1 hat hto) (hy.asks hs.two2 hok.2.2 hat hto) (fun u hu => by
          have b1 := fnd_bd hs.two1 hl hto hw hu
          rw [mk_bulk, bulk1]
          omega) (fun u hu => by
          have b1 := fnd_bd hs.two2 hl hto hw hu
          rw [mk_bulk, bulk1]
          omega)
      rw [T.fnd, if_neg (by omega)]
      exact hf.toP
  | one k nlo nhi x ihx =>
    intro off hs hok hc
    have hx := ihx hs.one1 hok.2 hc
    have lt := hs.lt
    have px := x.n_pos
    have hn : (T.one k nlo nhi x).n = x.n + 1 := rfl
    have hr : ∀ (k : Int), k = 6 ∨ k = 7 → ∀ (nlo nhi : Int), Sits l off (.one k nlo nhi x) → T.ok txtOk (.one k nlo nhi x) → ∀ (N : Nat) (lo hi : Int), (0 ≤ lo ∧ lo ≤ 255) → (0 ≤ hi ∧ hi ≤ 255) → ∀ a to : Nat, to - a < N → a ≤ to → to ≤ w.length →
        PCon Try.prog (gM vars l w m) 45 [rdr l w m, keyD [((off + ((T.one k nlo nhi x).n - 1) : Nat) : Int), lo, hi, (a : Int), (to : Int)]] (vals ((T.one k lo hi x).fnd (part' w a to))) := by
      intro k hk nlo nhi hs hok N
      induction N with
      | zero => intro lo hi _ _ a to h; omega
      | succ N ih =>
      intro lo hi hlo hhi a to hN hat hto
      have bm : ∀ {k : Int} {n : Nat} {lo hi : Int} {a mid to : Nat} {y : Vl}, a < mid → mid ≤ to → to ≤ w.length → y ∈ manyV x.fnd k n lo hi (part' w mid to) → y.bulk ≤ 200001 := fun {k n lo hi a mid to y} h1 h2 hto hy => by
        have b1 := many_bulk x.fnd_bulk _ y hy
        rw [part_len hto] at b1
        have b2 : x.n * (to - mid) ≤ 1000 * 100 := Nat.mul_le_mul (by omega) (by omega)
        rw [Nat.mul_assoc] at b1
        omega
      have hlt := hs.lt
      have hn3 : (T.one k nlo nhi x).n = x.n + 1 := rfl
      rcases hk with rfl | rfl
      · refine c_values ⟨_, off, lo, hi, a, to, hs, hok, rfl, by rw [T.at', if_pos (by decide)]⟩ ?_
        have hf := find_star (gl := gM vars l w m) (lo := lo) (hi := hi) (A := fun mid => x.fnd (part' w a mid)) (B := fun mid => manyV x.fnd 6 ((part' w mid to).length + 1) (max (lo - 1) 0) (max (hi - 1) 0) (part' w mid to)) (by omega) (by omega) (hs.getD Nd.z) hat hto (by omega) (ia := off + (x.n - 1)) (by omega) hlo hhi
          (fun mid h1 h2 => hx.asks hs.one1 hok.2 (by omega) (by omega)) (fun mid h1 h2 => by
            have := ih (max (lo - 1) 0) (max (hi - 1) 0) (by omega) (by omega) mid to (by omega) h2 hto
            rw [T.fnd, if_pos (by decide)] at this
            exact this) (fun mid => x.fnd_len _) (fun mid => manyV_len) (fun mid y h1 h2 hy => by
            have b1 := bm h1 h2 hto hy
            have := y.bulk_eq
            have := Vl.bulkL_len (l := y.kids)
            omega) (fun mid u y h1 h2 hu hy => by
            have b1 := bm h1 h2 hto hy
            have b2 := fnd_bd hs.one1 hl (by omega) hw hu
            have := @join_bulk 6 u y
            omega)
        rw [many_step hat hto] at hf
        rw [T.fnd, if_pos (by decide)]
        exact hf
      · refine c_values ⟨_, off, lo, hi, a, to, hs, hok, rfl, by rw [T.at', if_pos (by decide)]⟩ ?_
        have hf := find_rep (gl := gM vars l w m) (lo := lo) (hi := hi) (A := fun mid => x.fnd (part' w a mid)) (B := fun mid => manyV x.fnd 7 ((part' w mid to).length + 1) (max (lo - 1) 0) (max (hi - 1) 0) (part' w mid to)) (by omega) (by omega) (hs.getD Nd.z) hat hto (by omega) (ia := off + (x.n - 1)) (by omega) hlo hhi
          (fun mid h1 h2 => hx.asks hs.one1 hok.2 (by omega) (by omega)) (fun mid h1 h2 => by
            have := ih (max (lo - 1) 0) (max (hi - 1) 0) (by omega) (by omega) mid to (by omega) h2 hto
            rw [T.fnd, if_pos (by decide)] at this
            exact this) (fun mid => x.fnd_len _) (fun mid => manyV_len) (fun mid y h1 h2 hy => by
            have b1 := bm h1 h2 hto hy
            have := y.bulk_eq
            have := Vl.bulkL_len (l := y.kids)
            omega) (fun mid u y h1 h2 hu hy => by
            have b1 := bm h1 h2 hto hy
            have b2 := fnd_bd hs.one1 hl (by omega) hw hu
            have := @join_bulk 7 u y
            omega)
        rw [many_step hat hto] at hf
        rw [T.fnd, if_pos (by decide)]
        exact hf
    have hn2 : ∀ (k : Int) nlo nhi, (T.one k nlo nhi x).n = x.n + 1 := fun _ _ _ => rfl
    intro lo hi hlo hhi a to hat hto
    rcases (show k = 6 ∨ k = 7 ∨ k = 8 ∨ k = 9 by have := hok.1; omega) with rfl | rfl | rfl | rfl
    · rw [T.at', if_pos (by decide)]
      exact hr 6 (.inl rfl) _ _ hs hok (to - a + 1) lo hi hlo hhi a to (by omega) hat hto
    · rw [T.at', if_pos (by decide)]
      exact hr 7 (.inr rfl) _ _ hs hok (to - a + 1) lo hi hlo hhi a to (by omega) hat hto
    · obtain ⟨rfl, rfl⟩ : nlo = 0 ∧ nhi = 0 := by have := hok.1; omega
      refine c_values ⟨_, off, lo, hi, a, to, hs, hok, rfl, rfl⟩ ?_
      have hf := find_frame (gl := gM vars l w m) (i := off + ((T.one 8 0 0 x).n - 1)) (lo := lo) (hi := hi) (R := x.fnd (part' w (a + 1) to)) (by omega) (by omega) (hs.getD Nd.z) hat hto (by omega) (ia := off + (x.n - 1)) (by omega) (x.fnd_len _) (fun h => hx.asks hs.one1 hok.2 h hto)
      rw [T.at', if_neg (by decide), T.fnd, if_neg (by decide), frameV, part_len hto, part_drop]
      exact hf
    · obtain ⟨rfl, rfl⟩ : nlo = 0 ∧ nhi = 0 := by have := hok.1; omega
      refine c_values ⟨_, off, lo, hi, a, to, hs, hok, rfl, rfl⟩ ?_
      have hf := find_wide (gl := gM vars l w m) (i := off + ((T.one 9 0 0 x).n - 1)) (lo := lo) (hi := hi) (R := x.fnd (part' w (a + 2) to)) (by omega) (by omega) (hs.getD Nd.z) hat hto (by omega) (ia := off + (x.n - 1)) (by omega) (x.fnd_len _) (fun h => hx.asks hs.one1 hok.2 h hto)
      rw [T.at', if_neg (by decide), T.fnd, if_neg (by decide), frameV, part_len hto, part_drop]
      exact hf
end Go.Proofs.Ytpibdbjlilpfiaa

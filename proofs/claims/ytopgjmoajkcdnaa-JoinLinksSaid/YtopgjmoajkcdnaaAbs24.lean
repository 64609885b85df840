/- Loops and joins whose own objects get other numbers. -/
import Derived.Test.YtopgjmoajkcdnaaAbs23
namespace Go.Proofs.Ytopgjmoajkcdnaa
set_option linter.all false
open Go Go.RowKit

def St.swl : List (Nat × Nat) → St → St
  | [], s => s
  | (i, j) :: r, s => St.swl r (s.sw i j)
def swlOk (l : List (Nat × Nat)) (n : Nat) : Bool := l.all fun p => decide (p.1 < n) && decide (p.2 < n)
theorem swl_nxt : ∀ {l : List (Nat × Nat)} {s : St}, (St.swl l s).nxt = s.nxt
  | [], _ => rfl
  | (i, j) :: r, s => by rw [St.swl, swl_nxt]; rfl
section
variable {P : Program} {gl : List (Nat × List D)} {tb : Nat → Option TI} {nt : Nat} {Q : AExit → St → Prop} {s : St}
theorem AW.swl {code : Code} : ∀ (l : List (Nat × Nat)) {s : St}, swlOk l s.nxt = true → AW P gl nt code Q (St.swl l s) → AW P gl nt code Q s
  | [], _, _, h => h
  | (i, j) :: r, s, hl, h => by
    simp only [swlOk, List.all_cons, Bool.and_eq_true, decide_eq_true_eq] at hl
    exact .swap i j hl.1.1 hl.1.2 (AW.swl r (s := s.sw i j) hl.2 h)
/-- What a round leaves, but for the numbers. -/
def LoopM {α : Type} (st : α → St) (ok : α → Prop) (mu : α → Nat) (a : α) (s' : St) : Prop := ∃ a', ok a' ∧ mu a' < mu a ∧ ∃ l, swlOk l s'.nxt = true ∧ (st a').le (St.swl l s')
structure Lw {α : Type} (st : α → St) (ok : α → Prop) (mu : α → Nat) (a : α) (Q Q' : AExit → St → Prop) : Prop where
  n : ∀ s, LoopM st ok mu a s → Q' .normal s
  e : ∀ e s, e.ab → Q e s → Q' e s
theorem AW.loopS {α : Type} (st : α → St) (ok : α → Prop) (mu : α → Nat) (a0 : α) (h0 : ok a0) (l : List (Nat × Nat)) (hl : swlOk l s.nxt = true) (hle : (st a0).le (St.swl l s)) {x : Code}
    (hr : ∀ a, ok a → ∀ Q', Lw st ok mu a Q Q' → AW P gl nt x Q' (st a)) : AW P gl nt (.loop x) Q s :=
  .loop (fun n s => ∃ a, ok a ∧ mu a = n ∧ ∃ l, swlOk l s.nxt = true ∧ (st a).le (St.swl l s)) ⟨mu a0, a0, h0, rfl, l, hl, hle⟩ fun n s ⟨a, h1, h2, l, h3, h4⟩ => .swl l h3 (.weaken (st a) h4 (hr a h1 _ ⟨fun s' ⟨a', q1, q2, q3⟩ => ⟨mu a', h2 ▸ q2, a', q1, rfl, q3⟩, fun e s he hq => by cases e <;> first | exact he.elim | exact hq⟩))
theorem Lw.out {α : Type} {st : α → St} {ok : α → Prop} {mu : α → Nat} {a : α} {Q' : AExit → St → Prop} {e : AExit} (h : Lw st ok mu a Q Q') (he : e.ab) (k : Q e s) : Q' e s := h.e e s he k
theorem Lw.next {α : Type} {st : α → St} {ok : α → Prop} {mu : α → Nat} {a : α} {Q' : AExit → St → Prop} (h : Lw st ok mu a Q Q') (a' : α) (l : List (Nat × Nat)) (h1 : ok a') (h2 : mu a' < mu a) (hl : swlOk l s.nxt = true) (h3 : (st a').le (St.swl l s)) : Q' .normal s := h.n s ⟨a', h1, h2, l, hl, h3⟩
/-- What is known behind the first part, but for the numbers. -/
theorem AW.cutW {x y : Code} (st : St) (hx : ∀ Q', (∀ s' l, swlOk l s'.nxt = true → st.le (St.swl l s') → Q' AExit.normal s') → AW P gl nt x Q' s) (hy : AW P gl nt y Q st) : AW P gl nt (.seq x y) Q s :=
  .seq ((hx (fun e s' => e = .normal ∧ ∃ l, swlOk l s'.nxt = true ∧ st.le (St.swl l s')) fun s' l h1 h2 => ⟨rfl, l, h1, h2⟩).mono fun e s' hq => by
    obtain ⟨rfl, l, h1, h2⟩ := hq
    exact .swl l h1 (.weaken st h2 hy))
variable {i j k : Nat} {r : List (Nat × Nat)} {E : List (Nat × AV)} {O : List (Nat × Obj1)} {n t : Nat} {v x : AV} {o : Obj1} {cs : List AV}
theorem z_0 : St.swl [] s = s := (rfl)
theorem z_1 : St.swl ((i, j) :: r) s = St.swl r (s.sw i j) := (rfl)
theorem z_2 : St.sw ⟨E, O, n⟩ i j = ⟨swE i j E, swO i j O, n⟩ := (rfl)
theorem z_3 : swE i j [] = [] := (rfl)
theorem z_4 : swE i j ((t, v) :: E) = (t, v.sw i j) :: swE i j E := (rfl)
theorem z_5 : swO i j [] = [] := (rfl)
theorem z_6 : swO i j ((t, o) :: O) = (sw i j t, o.sw i j) :: swO i j O := (rfl)
theorem z_7 : sw i j k = if k = i then j else if k = j then i else k := (rfl)
theorem z_8 {d : D} : AV.sw i j (.d d) = .d d := (by rw [AV.sw])
theorem z_9 : AV.sw i j (.own k) = .own (sw i j k) := (by rw [AV.sw])
theorem z_a : AV.sw i j (.ref k n) = .ref (sw i j k) n := (by rw [AV.sw])
theorem z_b {a b c : Nat} : AV.sw i j (.elt k a b c) = .elt (sw i j k) a b c := (by rw [AV.sw])
theorem z_c : AV.sw i j (.agg cs) = .agg (AV.swL i j cs) := (by rw [AV.sw])
theorem z_d : AV.sw i j (.tup cs) = .tup (AV.swL i j cs) := (by rw [AV.sw])
theorem z_e : AV.swL i j [] = [] := (by rw [AV.swL])
theorem z_f : AV.swL i j (x :: cs) = x.sw i j :: AV.swL i j cs := (by rw [AV.swL])
theorem z_g {b : Bool} : Obj1.sw i j (.box b cs) = .box b (AV.swL i j cs) := (rfl)
theorem z_h {b : Bool} {a c : Nat} {xs : List (List D)} : Obj1.sw i j (.row b a c xs) = .row b a c xs := (rfl)
end
attribute [go_sem ↓] z_0 z_1 z_2 z_3 z_4 z_5 z_6 z_8 z_9 z_a z_b z_c z_d z_e z_f z_g z_h
attribute [go_sem] z_7
end Go.Proofs.Ytopgjmoajkcdnaa

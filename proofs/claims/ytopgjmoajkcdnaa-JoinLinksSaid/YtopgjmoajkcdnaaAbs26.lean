/- Scopes with one label to which the run jumps back. -/
import Derived.Test.YtopgjmoajkcdnaaAbs25
import Derived.ScopeJumps
namespace Go.Proofs.Ytopgjmoajkcdnaa
set_option linter.all false
open Go Go.RowKit

section
variable {P : Program} {gl : List (Nat × List D)} {nt : Nat} {Q : AExit → St → Prop} {s : St}
/-- What follows a pass: as Q; by a jump to the label: again. -/
structure Sw {α : Type} (st : α → St) (ok : α → Prop) (l : Nat) (Q Q' : AExit → St → Prop) : Prop where
  g : ∀ s, (∃ a, ok a ∧ ∃ z, swlOk z s.nxt = true ∧ (st a).le (St.swl z s)) → Q' (.goto l) s
  n : ∀ s, Q .normal s → Q' .normal s
  r : ∀ s, Q .ret s → Q' .ret s
  x : ∀ k s, Q (.exit k) s → Q' (.exit k) s
theorem Sw.again {α : Type} {st : α → St} {ok : α → Prop} {l : Nat} {Q' : AExit → St → Prop} (h : Sw st ok l Q Q') (a : α) (z : List (Nat × Nat)) (h1 : ok a) (hz : swlOk z s.nxt = true) (h3 : (st a).le (St.swl z s)) : Q' (.goto l) s := h.g s ⟨a, h1, z, hz, h3⟩
theorem Sw.less {α : Type} {st : α → St} {ok ok' : α → Prop} {l : Nat} {Q' : AExit → St → Prop} (h : Sw st ok l Q Q') : Sw st (fun a => ok a ∧ ok' a) l Q Q' := ⟨fun s ⟨a, h1, z, h2, h3⟩ => h.g s ⟨a, h1.1, z, h2, h3⟩, h.n, h.r, h.x⟩
theorem Sw.go {α : Type} {st : α → St} {ok : α → Prop} {l : Nat} {Q' : AExit → St → Prop} (h : Sw st ok l Q Q') (k : Q .normal s) : Q' .normal s := h.n s k
theorem Sw.ret {α : Type} {st : α → St} {ok : α → Prop} {l : Nat} {Q' : AExit → St → Prop} (h : Sw st ok l Q Q') (k : Q .ret s) : Q' .ret s := h.r s k
theorem Sw.exit {α : Type} {st : α → St} {ok : α → Prop} {l i : Nat} {Q' : AExit → St → Prop} (h : Sw st ok l Q Q') (k : Q (.exit i) s) : Q' (.exit i) s := h.x i s k

def scopeQ (l : Nat) (J : St → Prop) (Q : AExit → St → Prop) : AExit → St → Prop
  | .goto l', s => l' = l ∧ J s
  | e, s => Q e s
theorem scope_sw {α : Type} {st : α → St} {ok : α → Prop} {l : Nat} : Sw st ok l Q (scopeQ l (fun s => ∃ a, ok a ∧ ∃ z, swlOk z s.nxt = true ∧ (st a).le (St.swl z s)) Q) :=
  ⟨fun _ h => ⟨rfl, h⟩, fun _ h => h, fun _ h => h, fun _ _ h => h⟩
theorem AW.scopeC {α : Type} {code rest : Code} (l : Nat) (st : α → St) (ok : α → Prop) (mu : α → Nat) (hf : findLabel code l = some (.seq .skip rest))
    (pass : ∀ a, ok a → ∀ Q', Sw st (fun a' => ok a' ∧ mu a' < mu a) l Q Q' → AW P gl nt rest Q' (st a))
    (first : (∀ a, ok a → ∀ Q', Sw st ok l Q Q' → AW P gl nt rest Q' (st a)) → ∀ Q', Sw st ok l Q Q' → AW P gl nt code Q' s) : AW P gl nt (.scope code) Q s := by
  replace first := first fun a h Q' hQ => pass a h Q' hQ.less
  intro c a w σ hgl hp hs b k cs
  have hg : gotoIn l (.inScope code :: k) = some (.code (.seq .skip rest) :: .inScope code :: k) := by simp [gotoIn, hf]
  have key : ∀ n a0, ok a0 → mu a0 = n → ∀ s a w σ, (∃ z, swlOk z s.nxt = true ∧ (st a0).le (St.swl z s)) → SR c nt s a w σ → ∃ e a' w', APost c nt Q e a' w' ∧ Arrives P (lone (b.at a (.code (.seq .skip rest) :: .inScope code :: k)) cs w) b k cs e a' w' := by
    intro n
    induction n using Nat.strongRecOn with
    | _ n ih =>
      intro a0 h0 hn s a w σ ⟨z, hz, hle⟩ hs
      obtain ⟨e, a', w', ⟨ae, s', σ', q1, q2, q3⟩, harr⟩ := AW.swl z hz (.weaken (st a0) hle (AW.seq (AW.skip (pass a0 h0 _ scope_sw)))) c a w σ hgl hp hs b (.inScope code :: k) cs
      cases q3 with
      | normal => exact ⟨_, a', w', ⟨_, _, _, q1, q2, .normal⟩, Steps.trans harr (.one step_inScope)⟩
      | exit id => exact ⟨_, a', w', ⟨_, _, _, q1, q2, .exit id⟩, fun k' hk => harr k' (by simp [exitTo, hk])⟩
      | goto l' =>
        obtain ⟨rfl, a1, ⟨h1, h2⟩, z1, hz1, hle1⟩ := q1
        obtain ⟨e2, a2, w2, r1, r2⟩ := ih _ (by omega) a1 h1 rfl s' a' w' σ' ⟨z1, hz1, hle1⟩ q2
        exact ⟨e2, a2, w2, r1, .of_steps (harr _ hg) r2⟩
      | ret => exact ⟨_, a', w', ⟨_, _, _, q1, q2, .ret⟩, harr⟩
      | panic x v hv => exact ⟨_, a', w', ⟨_, _, _, q1, q2, .panic x v hv⟩, harr⟩
  obtain ⟨e, a', w', ⟨ae, s', σ', q1, q2, q3⟩, harr⟩ := first _ scope_sw c a w σ hgl hp hs b (.inScope code :: k) cs
  cases q3 with
  | normal => exact ⟨_, a', w', ⟨_, _, _, q1, q2, .normal⟩, .head step_scope (Steps.trans harr (.one step_inScope))⟩
  | exit id => exact ⟨_, a', w', ⟨_, _, _, q1, q2, .exit id⟩, fun k' hk => .head step_scope (harr k' (by simp [exitTo, hk]))⟩
  | goto l' =>
    obtain ⟨rfl, a1, h1, z1, hz1, hle1⟩ := q1
    obtain ⟨e2, a2, w2, r1, r2⟩ := key _ a1 h1 rfl s' a' w' σ' ⟨z1, hz1, hle1⟩ q2
    exact ⟨e2, a2, w2, r1, .of_steps (.head step_scope (harr _ hg)) r2⟩
  | ret => exact ⟨_, a', w', ⟨_, _, _, q1, q2, .ret⟩, .of_steps (.one step_scope) harr⟩
  | panic x v hv => exact ⟨_, a', w', ⟨_, _, _, q1, q2, .panic x v hv⟩, .of_steps (.one step_scope) harr⟩
end
end Go.Proofs.Ytopgjmoajkcdnaa

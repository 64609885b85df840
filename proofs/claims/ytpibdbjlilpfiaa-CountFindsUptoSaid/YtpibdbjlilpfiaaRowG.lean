/- From a contract to a row. -/
import Derived.Test.YtpibdbjlilpfiaaRead
import Derived.Test.YtpibdbjlilpfiaaRows
import Derived.WalkKit
import Derived.ProofKit
import Derived.OpenShut
import Derived.JoinedCond
namespace Go.Proofs.Ytpibdbjlilpfiaa
set_option linter.all false
open Go Go.ChangeShapes Go.WideShapes Go.ChangeAt Go.RowKit

section
variable {H : Type} {enc : TypeId × Value → H} {P : Program} {W W' : World}
theorem Go1.below (g : Go1 W W' none) : Below W.heap.size W W' := ⟨g.os, g.tape, g.output, g.size, fun k hk => g.block k hk (by simp)⟩
theorem below_all (hl : laidOutB P = true) (hb : Below W.heap.size W W') : ∀ {ts : List TypeId} {vs : List Value} {ds : List (DataW H)} {ps : List MemPlace}, (∀ t ∈ ts, P.readableRec t = true ∧ t < P.types.size) → DataW.TrodAll enc P W 0 (fun _ => true) true ts vs ds ps → (∀ x ∈ ps, x.block < W.heap.size) → DataW.TrodAll enc P W' 0 (fun b => decide (b < W.heap.size)) true ts vs ds ps
  | [], [], [], ps, _, h, _ => h
  | t :: ts, v :: vs, d :: ds, ps, ht, ⟨p, q, h1, h2, h3⟩, hlt => by
    subst h3
    exact ⟨p, q, Below.trod hl (ht t List.mem_cons_self).1 (ht t List.mem_cons_self).2 h1 hb fun x hx => hlt x (List.mem_append_left _ hx), below_all hl hb (fun t' h' => ht t' (List.mem_cons_of_mem _ h')) h2 fun x hx => hlt x (List.mem_append_right _ hx), rfl⟩
  | [], [], _ :: _, _, _, h, _ => h.elim
  | [], _ :: _, _, _, _, h, _ => h.elim
  | _ :: _, [], _, _, _, h, _ => h.elim
  | _ :: _, _ :: _, [], _, _, h, _ => h.elim

/-- A law that returned true and turned nothing. -/
theorem row_post {fn : Func} {s : ChangeSpec} {args : Array Value} {ds gs : List (DataW H)} {before : List MemPlace} {t : TypeId} (hl : laidOutB P = true) (hW : DataW.Whole enc P fn.params.toList s.vars false W args.toList ds gs before)
    (hvars : s.vars = []) (hspec : s.fn H ds = { results := [.lit (.bool true)], args := ds }) (hres : fn.resultTypes = #[t]) (ht : P.underlying t = some .bool) (g : Go1 W W' none)
    (hread : fn.params.toList.all (fun t => P.readableRec t && decide (t < P.types.size)) = true) : s.post enc P fn false true false false W args (.bool true) W' := by
  have hb := g.below
  have hW' := hW
  obtain ⟨p, q, hA, hV, rfl, hz, hn⟩ := hW
  rw [hvars] at hV
  have hgs : gs = [] ∧ q = [] := by
    cases gs with
    | nil => exact ⟨rfl, hV⟩
    | cons _ _ => exact hV.elim
  obtain ⟨rfl, rfl⟩ := hgs
  have hlt : ∀ x ∈ p, x.block < W.heap.size := fun x hx => by simpa using hW'.lt x (List.mem_append_left _ hx)
  refine ⟨ds, [], p ++ [], [], p, [], hW', ?_, ?_, ?_, hb.frame _, fun h => by cases h⟩
  · rw [hres, List.append_nil, hspec]
    exact trodAll_cons_mk (p := []) (p' := []) (shut_bool ht true) trodAll_mk0
  · rw [List.append_nil, hspec]
    exact below_all hl hb (fun t ht => by simpa using List.all_eq_true.1 hread t ht) hA hlt
  · rw [List.append_nil, hspec, hvars]
    exact rfl
theorem law_calls {f : Nat} {fn : Func} {s : ChangeSpec} {vs : List Value} {xs : List D} {ds gs : List (DataW H)} {before : List MemPlace} {t : TypeId} (hl : laidOutB P = true) (hW : DataW.Whole enc P fn.params.toList s.vars false W vs ds gs before)
    (hvars : s.vars = []) (hspec : s.fn H ds = { results := [.lit (.bool true)], args := ds }) (hres : fn.resultTypes = #[t]) (ht : P.underlying t = some .bool)
    (hread : fn.params.toList.all (fun t => P.readableRec t && decide (t < P.types.size)) = true) (hc : PCon P ⟨[], none⟩ f xs (.bool true)) (hlen : vs.length = xs.length) (hrep : ∀ (i : Nat) x v, xs[i]? = some x → vs[i]? = some v → Rep W (okW W) x v) :
    Calls P f vs.toArray W fun e W' => ∃ v, e = .returned v ∧ s.post enc P fn false true false false W vs.toArray v W' :=
  (hc.runs W (okW W) vs (fun _ h => h) ⟨fun g cs h => by simp [look] at h, fun M h => by cases h⟩ hlen hrep).mono fun e W' ⟨v, he, hg, hm, hr⟩ => by
    cases hr
    exact ⟨_, he, row_post hl hW hvars hspec hres ht hg hread⟩
theorem law_callsG {gl : GL} {f : Nat} {fn : Func} {s : ChangeSpec} {vs : List Value} {xs : List D} {ds gs : List (DataW H)} {before : List MemPlace} {t : TypeId} (hl : laidOutB P = true) (hW : DataW.Whole enc P fn.params.toList s.vars false W vs ds gs before)
    (hvars : s.vars = []) (hspec : s.fn H ds = { results := [.lit (.bool true)], args := ds }) (hres : fn.resultTypes = #[t]) (ht : P.underlying t = some .bool)
    (hread : fn.params.toList.all (fun t => P.readableRec t && decide (t < P.types.size)) = true) (hG : Glob gl W (okW W)) (hc : PCon P gl f xs (.bool true)) (hlen : vs.length = xs.length) (hrep : ∀ (i : Nat) x v, xs[i]? = some x → vs[i]? = some v → Rep W (okW W) x v) (hM : gl.memo = none := by first | rfl | assumption) :
    Calls P f vs.toArray W fun e W' => ∃ v, e = .returned v ∧ s.post enc P fn false true false false W vs.toArray v W' :=
  (hc.runs W (okW W) vs (fun _ h => h) hG hlen hrep).mono fun e W' ⟨v, he, hg, hm, hr⟩ => by
    have ht0 : gl.tgt = none := by simp [GL.tgt, hM]
    rw [ht0] at hg
    cases hr
    exact ⟨_, he, row_post hl hW hvars hspec hres ht hg hread⟩
theorem rep_two {x y : D} {u v : Value} (h1 : Rep W (okW W) x u) (h2 : Rep W (okW W) y v) : ∀ (i : Nat) x' v', [x, y][i]? = some x' → [u, v][i]? = some v' → Rep W (okW W) x' v'
  | 0, _, _, h, h' => by simp at h h'; subst h; subst h'; exact h1
  | 1, _, _, h, h' => by simp at h h'; subst h; subst h'; exact h2
  | i + 2, _, _, h, _ => by simp at h
theorem rep_three {x y z : D} {u v q : Value} (h1 : Rep W (okW W) x u) (h2 : Rep W (okW W) y v) (h3 : Rep W (okW W) z q) : ∀ (i : Nat) x' v', [x, y, z][i]? = some x' → [u, v, q][i]? = some v' → Rep W (okW W) x' v'
  | 0, _, _, h, h' => by simp at h h'; subst h; subst h'; exact h1
  | 1, _, _, h, h' => by simp at h h'; subst h; subst h'; exact h2
  | 2, _, _, h, h' => by simp at h h'; subst h; subst h'; exact h3
  | i + 3, _, _, h, _ => by simp at h
theorem rep_four {x y z r : D} {u v q p : Value} (h1 : Rep W (okW W) x u) (h2 : Rep W (okW W) y v) (h3 : Rep W (okW W) z q) (h4 : Rep W (okW W) r p) : ∀ (i : Nat) x' v', [x, y, z, r][i]? = some x' → [u, v, q, p][i]? = some v' → Rep W (okW W) x' v'
  | 0, _, _, h, h' => by simp at h h'; subst h; subst h'; exact h1
  | 1, _, _, h, h' => by simp at h h'; subst h; subst h'; exact h2
  | 2, _, _, h, h' => by simp at h h'; subst h; subst h'; exact h3
  | 3, _, _, h, h' => by simp at h h'; subst h; subst h'; exact h4
  | i + 4, _, _, h, _ => by simp at h
end
end Go.Proofs.Ytpibdbjlilpfiaa

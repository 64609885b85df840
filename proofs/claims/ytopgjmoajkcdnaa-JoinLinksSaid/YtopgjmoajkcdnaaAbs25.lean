/- The equations of freezing. -/
import Derived.Test.YtopgjmoajkcdnaaAbs24
namespace Go.Proofs.Ytopgjmoajkcdnaa
set_option linter.all false
open Go Go.RowKit
section
variable {k j t n : Nat} {f : Frz} {xs : List (List D)} {cs : List AV} {ds : List D} {x v : AV} {E : List (Nat × AV)} {O : List (Nat × Obj1)} {o : Obj1}
theorem y_0 : AV.fz k (.row xs) (.own j) = if j = k then .d (.slice xs) else .own j := (by rw [AV.fz])
theorem y_1 : AV.fz k (.box ds) (.own j) = .own j := (by rw [AV.fz]; simp)
theorem y_2 : AV.fz k (.box ds) (.ref j n) = if j = k then .d (.addr (ds.drop n)) else .ref j n := (by rw [AV.fz])
theorem y_3 : AV.fz k (.row xs) (.ref j n) = .ref j n := (by rw [AV.fz]; simp)
theorem y_4 : AV.fz k f (.agg cs) = mkAgg (AV.fzL k f cs) := (by rw [AV.fz])
theorem y_5 : AV.fz k f (.tup cs) = .tup (AV.fzL k f cs) := (by rw [AV.fz])
theorem y_6 {d : D} : AV.fz k f (.d d) = .d d := (by rw [AV.fz])
theorem y_7 {a b c : Nat} : AV.fz k f (.elt a b c n) = .elt a b c n := (by rw [AV.fz])
theorem y_8 : AV.fzL k f [] = [] := (by rw [AV.fzL])
theorem y_9 : AV.fzL k f (x :: cs) = x.fz k f :: AV.fzL k f cs := (by rw [AV.fzL])
theorem y_a {b : Bool} : Obj1.fz k f (.box b cs) = .box b (AV.fzL k f cs) := (rfl)
theorem y_b {b : Bool} {a c : Nat} : Obj1.fz k f (.row b a c xs) = .row b a c xs := (rfl)
theorem y_c : mapE k f [] = [] := (rfl)
theorem y_d : mapE k f ((t, v) :: E) = (t, v.fz k f) :: mapE k f E := (rfl)
theorem y_e : mapO k f [] = [] := (rfl)
theorem y_f : mapO k f ((t, o) :: O) = (t, o.fz k f) :: mapO k f O := (rfl)
theorem y_g : St.fz ⟨E, O, n⟩ k f = ⟨mapE k f E, mapO k f (delL O k), n⟩ := (rfl)
end
attribute [go_sem ↓] y_0 y_1 y_2 y_3 y_4 y_5 y_6 y_7 y_8 y_9 y_a y_b y_c y_d y_e y_f y_g
end Go.Proofs.Ytopgjmoajkcdnaa

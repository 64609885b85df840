/- What is written no more; numbers exchanged; the way into a function and out of it. -/
import Derived.Test.YtopgjmoajkcdnaaAbs20
namespace Go.Proofs.Ytopgjmoajkcdnaa
set_option linter.all false
open Go Go.RowKit

inductive Frz where
  | row (xs : List (List D))
  | box (cs : List D)

mutual
def AV.fz (k : Nat) (f : Frz) : AV → AV
  | .own j => if j = k then (match f with
    | .row xs => .d (.slice xs)
    | .box _ => .own j) else .own j
  | .ref j off => if j = k then (match f with
    | .box cs => .d (.addr (cs.drop off))
    | .row _ => .ref j off) else .ref j off
  | .agg cs => mkAgg (AV.fzL k f cs)
  | .tup cs => .tup (AV.fzL k f cs)
  | .d x => .d x
  | .elt p q r u => .elt p q r u
def AV.fzL (k : Nat) (f : Frz) : List AV → List AV
  | [] => []
  | x :: r => x.fz k f :: AV.fzL k f r
end
theorem fzL_len {k : Nat} {f : Frz} : ∀ {cs : List AV}, (AV.fzL k f cs).length = cs.length
  | [] => rfl
  | x :: r => by simp [AV.fzL, fzL_len]
theorem fzL_get {k : Nat} {f : Frz} : ∀ {cs : List AV} {i : Nat} {c : AV}, (AV.fzL k f cs)[i]? = some c → ∃ c', cs[i]? = some c' ∧ c = c'.fz k f
  | [], i, c, h => by simp [AV.fzL] at h
  | x :: r, 0, c, h => by simp [AV.fzL] at h; exact ⟨x, rfl, h.symm⟩
  | x :: r, i + 1, c, h => by simp [AV.fzL] at h; simpa using fzL_get h

/-- What the object says once nobody writes it. -/
def FrzRep (w : World) (ok : Nat → Prop) (f : Frz) (u : Value) : Prop := match f with
  | .row xs => Rep w ok (.slice xs) u
  | .box cs => Rep w ok (.addr cs) u ∧ ∃ b, u = .pointer (some ⟨b, 0, none⟩)

theorem mkAgg_repA {w : World} {ok : Nat → Prop} {σ : Nat → Value} {cs : List AV} {v : Value} (h : RepA w ok σ (.agg cs) v) : RepA w ok σ (mkAgg cs) v :=
  (mkAgg_rep (al := fun _ => True) (fun _ hτ => h.congr fun k _ => hτ k trivial)).toA

theorem RepA.fz {w : World} {ok : Nat → Prop} {σ : Nat → Value} {k : Nat} {f : Frz} (hf : FrzRep w ok f (σ k)) {x : AV} {v : Value} (h : RepA w ok σ x v) : RepA w ok σ (x.fz k f) v := by
  induction h with
  | d x v h => exact .d x v h
  | own j =>
    simp only [AV.fz]
    split
    · rename_i hj
      subst hj
      cases f with
      | row xs => exact .d _ _ hf
      | box cs => exact .own j
    · exact .own j
  | ref j off b hb =>
    simp only [AV.fz]
    split
    · rename_i hj
      subst hj
      cases f with
      | row xs => exact .ref j off b hb
      | box cs =>
        obtain ⟨h1, b', h2⟩ := hf
        rw [h2] at h1 hb
        simp [blkOf] at hb
        subst hb
        have := rep_addr_drop (n := off) h1
        rw [Nat.zero_add] at this
        exact .d _ _ this
    · exact .ref j off b hb
  | elt p q r u e he => exact .elt p q r u e he
  | agg cs vs hl _ h1 ih =>
    simp only [AV.fz]
    refine mkAgg_repA (.agg _ vs (by rw [fzL_len, hl]) (fun i c v hc hv => ?_) h1)
    obtain ⟨c', hc', rfl⟩ := fzL_get hc
    exact ih i c' v hc' hv
  | tup cs vs hl _ ih =>
    simp only [AV.fz]
    refine .tup _ vs (by rw [fzL_len, hl]) (fun i c v hc hv => ?_)
    obtain ⟨c', hc', rfl⟩ := fzL_get hc
    exact ih i c' v hc' hv

def Obj1.fz (k : Nat) (f : Frz) : Obj1 → Obj1
  | .box fr cs => .box fr (AV.fzL k f cs)
  | .row fr t sz xs => .row fr t sz xs

/-- A box's cells stay one cell each. -/
theorem RepO.fz {w : World} {ok : Nat → Prop} {σ : Nat → Value} {k : Nat} {f : Frz} (hf : FrzRep w ok f (σ k)) {o : Obj1} {v : Value} (h : RepO w ok σ o v) : RepO w ok σ (o.fz k f) v := by
  cases h with
  | box fr cs b t vs hb hl h1 h =>
    refine .box fr _ b t vs hb (by rw [fzL_len, hl]) h1 (fun i c v hc hv => ?_)
    obtain ⟨c', hc', rfl⟩ := fzL_get hc
    exact (h i c' v hc' hv).fz hf
  | row fr t sz xs v vs ho hp hm hsz h1 h => exact .row fr t sz xs v vs ho hp hm hsz h1 h

def mapE (k : Nat) (f : Frz) : List (Nat × AV) → List (Nat × AV)
  | [] => []
  | (t, v) :: r => (t, v.fz k f) :: mapE k f r
def mapO (k : Nat) (f : Frz) : List (Nat × Obj1) → List (Nat × Obj1)
  | [] => []
  | (t, v) :: r => (t, v.fz k f) :: mapO k f r
theorem look_mapE {k : Nat} {f : Frz} : ∀ {l : List (Nat × AV)} {t : Nat} {v : AV}, look (mapE k f l) t = some v → ∃ v', look l t = some v' ∧ v = v'.fz k f
  | [], t, v, h => by simp [mapE, look] at h
  | (q, x) :: r, t, v, h => by
    simp only [mapE, look] at h ⊢
    split at h
    · rename_i hq; injection h with h; subst h; exact ⟨x, by rw [if_pos hq], rfl⟩
    · rename_i hq; rw [if_neg hq]; exact look_mapE h
theorem look_mapO {k : Nat} {f : Frz} : ∀ {l : List (Nat × Obj1)} {t : Nat} {v : Obj1}, look (mapO k f l) t = some v → ∃ v', look l t = some v' ∧ v = v'.fz k f
  | [], t, v, h => by simp [mapO, look] at h
  | (q, x) :: r, t, v, h => by
    simp only [mapO, look] at h ⊢
    split at h
    · rename_i hq; injection h with h; subst h; exact ⟨x, by rw [if_pos hq], rfl⟩
    · rename_i hq; rw [if_neg hq]; exact look_mapO h

theorem Obj1.fr_fz {k : Nat} {f : Frz} {o : Obj1} : (o.fz k f).fr = o.fr := by cases o <;> rfl

theorem box_rep {al : Nat → Prop} {w : World} {ok ok' : Nat → Prop} {σ : Nat → Value} {fr : Bool} {cs : List AV} {ds : List D} (hds : allD cs = some ds) {v : Value} (h : RepSO al w ok σ (.box fr cs) v) (hk : Kept w w ok ok') (hb : ∀ b, blkOf v = some b → ok' b) :
    Rep w ok' (.addr ds) v ∧ ∃ b, v = .pointer (some ⟨b, 0, none⟩) := by
  obtain ⟨b, t, vs, e1, e2, e3, e4, e5⟩ := box_cells h
  have hcs := allD_eq hds
  subst hcs
  rw [List.length_map] at e3
  subst e1
  refine ⟨.addr ds b 0 (fun i => vs.getD i (.bool false)) (hb b rfl) (fun i hi => ?_) (fun i => ?_) (fun i c hc => ?_), b, rfl⟩
  · rw [Nat.zero_add, cell_of_row w b i vs.toArray t (0, 0) e2, List.getElem?_toArray, List.getElem?_eq_getElem (by omega), List.getD_eq_getElem?_getD, List.getElem?_eq_getElem (by omega)]
    rfl
  · rw [List.getD_eq_getElem?_getD]
    cases hh : vs[i]? with
    | none => rfl
    | some u => exact e4 u (List.mem_of_getElem? hh)
  · have hlt := (List.getElem?_eq_some_iff.1 hc).1
    rw [List.getD_eq_getElem?_getD, List.getElem?_eq_getElem (by omega)]
    exact ((e5 i (.d c) _ (by simp [hc]) (List.getElem?_eq_getElem (by omega))).d_inv).mono hk

section
variable {P : Program} {gl : List (Nat × List D)} {tb : Nat → Option TI} {nt : Nat} {Q : AExit → St → Prop} {s : St}

def frzOf : Obj1 → Option Frz
  | .row true _ _ xs => some (.row xs)
  | .box true cs => match allD cs with
    | some ds => some (.box ds)
    | none => none
  | _ => none

def St.fz (s : St) (k : Nat) (f : Frz) : St := ⟨mapE k f s.env, mapO k f (delL s.own k), s.nxt⟩

theorem SR.fz {c : Ctx} {a : Act} {w : World} {σ : Nat → Value} {k : Nat} {o : Obj1} {f : Frz} (h : SR c nt s a w σ) (hk : look s.own k = some o) (hf : frzOf o = some f) : SR c nt (s.fz k f) a w σ := by
  have hd := SRep.drop (k := k) h
  have hfr : o.fr = true := by
    unfold frzOf at hf
    split at hf
    · rfl
    · rfl
    · cases hf
  have hblk := SRep.dropped h hk hfr
  have hkept : Kept w w (okk c (look s.own) σ w) (okk c (upd1 (look s.own) k none) σ w) := fun b hb => ⟨⟨hb.1, hb.2.1, fun j o1 hj => hb.2.2 j o1 (by
    by_cases e : j = k
    · subst e; rw [upd1_self] at hj; cases hj
    · rwa [upd1_ne e] at hj)⟩, rfl⟩
  have hrep : FrzRep w (okk c (upd1 (look s.own) k none) σ w) f (σ k) := by
    have ho := (h.own k o hk).2
    unfold frzOf at hf
    split at hf
    · injection hf with hf
      subst hf
      exact row_rep ho hkept hblk
    · rename_i cs
      split at hf
      · rename_i ds hds
        injection hf with hf
        subst hf
        exact box_rep hds ho hkept hblk
      · cases hf
    · cases hf
  have hal : k < s.nxt := (h.own k o hk).1
  have hO : ∀ j o1, look (mapO k f (delL s.own k)) j = some o1 → ∃ o2, upd1 (look s.own) k none j = some o2 ∧ o1 = o2.fz k f := fun j o1 hj => by
    obtain ⟨o2, h1, h2⟩ := look_mapO hj
    rw [look_del] at h1
    exact ⟨o2, h1, h2⟩
  have hk2 : Kept w w (okk c (upd1 (look s.own) k none) σ w) (okk c (look (mapO k f (delL s.own k))) σ w) := fun b hb => ⟨⟨hb.1, hb.2.1, fun j o1 hj => by
    obtain ⟨o2, h1, _⟩ := hO j o1 hj
    exact hb.2.2 j o2 h1⟩, rfl⟩
  have hrep' : ∀ τ : Nat → Value, (∀ j, j < s.nxt → τ j = σ j) → FrzRep w (okk c (upd1 (look s.own) k none) σ w) f (τ k) := fun τ hτ => by rw [hτ k hal]; exact hrep
  refine ⟨fun t x hx τ hτ => ?_, fun j o1 hj => ?_, fun j j' o1 o2 h1 h2 hne => ?_, fun j o1 h1 => ?_, hd.frame, hd.low, hd.size, hd.os, hd.tape, hd.output, hd.ag, hd.defers, hd.nt, hd.glob.mono hk2⟩
  · obtain ⟨x', hx', rfl⟩ := look_mapE hx
    exact ((hd.env t x' hx' τ hτ).fz (hrep' τ hτ)).mono hk2
  · obtain ⟨o2, h1, rfl⟩ := hO j o1 hj
    refine ⟨(hd.own j o2 h1).1, fun τ hτ => ?_⟩
    exact (((hd.own j o2 h1).2 τ hτ).fz (hrep' τ hτ)).mono hk2 fun _ _ => rfl
  · obtain ⟨p1, q1, _⟩ := hO j o1 h1
    obtain ⟨p2, q2, _⟩ := hO j' o2 h2
    exact hd.dis j j' p1 p2 q1 q2 hne
  · obtain ⟨p1, q1, rfl⟩ := hO j o1 h1
    rw [Obj1.fr_fz]
    exact hd.mine j p1 q1

/-- An own object is written no more: it is data. -/
theorem AW.freeze {code : Code} (k : Nat) {o : Obj1} {f : Frz} (hk : look s.own k = some o) (hf : frzOf o = some f) (h : AW P gl nt code Q (s.fz k f)) : AW P gl nt code Q s := fun c a w σ hgl hp hs => h c a w σ hgl hp (SR.fz hs hk hf)

/-! ### The way in and out -/
def argsE : Nat → List D → List (Nat × AV)
  | _, [] => []
  | i, x :: r => (i, .d x) :: argsE (i + 1) r
theorem look_argsE : ∀ {l : List D} {i t : Nat} {v : AV}, look (argsE i l) t = some v → ∃ x, i ≤ t ∧ l[t - i]? = some x ∧ v = .d x
  | [], i, t, v, h => by simp [argsE, look] at h
  | x :: r, i, t, v, h => by
    simp only [argsE, look] at h
    split at h
    · rename_i hi; subst hi; injection h with h; exact ⟨x, Nat.le_refl _, by simp, h.symm⟩
    · obtain ⟨y, h1, h2, h3⟩ := look_argsE h
      exact ⟨y, by omega, by rw [show t - i = (t - (i + 1)) + 1 by omega, List.getElem?_cons_succ]; exact h2, h3⟩

def okEnd (c : Ctx) (w : World) : Nat → Prop := fun b => b < w.heap.size ∧ (c.ok0 b ∨ c.w0.heap.size ≤ b)

theorem asD_rep {c : Ctx} {O : Nat → Option Obj1} {E : Nat → Option AV} {al : Nat → Prop} {a : Act} {w : World} {σ : Nat → Value} (h : SRep c E O al nt a w σ) {x : AV} {d : D} (hd : asD O x = some d) {v : Value} (hx : RepA w (okk c O σ w) σ x v) : Rep w (okEnd c w) d v := by
  refine asD_rep' h (fun b hb => ⟨⟨hb.1, hb.2.1⟩, rfl⟩) hd (fun k hk b hb => ?_) hx
  obtain ⟨t, sz, xs, hO⟩ := asD_row hd k hk
  exact ⟨(h.own k _ hO).2.toO.lt b hb, by
    rcases h.mine k _ hO b hb with ⟨h1, _⟩ | h1
    · cases h1
    · exact .inr h1⟩
end
end Go.Proofs.Ytopgjmoajkcdnaa

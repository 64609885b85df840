/- One operation: struct literals, slice literals, make, append, cuts, conversions. -/
import Derived.Test.YtopgjmoajkcdnaaAbs7
import Derived.Laws.Tables
import Derived.Great.BuildSlice
namespace Go.Proofs.Ytopgjmoajkcdnaa
set_option linter.all false
open Go Go.RowKit

/-- Cells, one by one. -/
structure LRep (al : Nat → Prop) (w : World) (ok : Nat → Prop) (σ : Nat → Value) (cs : List AV) (vs : List Value) : Prop where
  len : vs.length = cs.length
  one : ∀ v ∈ vs, v.oneCell' = true
  at_ : ∀ (i : Nat) c v, cs[i]? = some c → vs[i]? = some v → RepS al w ok σ c v

theorem LRep.splice {al : Nat → Prop} {w : World} {ok : Nat → Prop} {σ : Nat → Value} {cs ds : List AV} {vs us : List Value} (h : LRep al w ok σ cs vs) (k : LRep al w ok σ ds us) {n : Nat} (hn : n + ds.length ≤ cs.length) :
    LRep al w ok σ (Ytopgjmoajkcdnaa.splice cs n ds) (Ytopgjmoajkcdnaa.splice vs n us) := by
  have hv : n + us.length ≤ vs.length := by rw [k.len, h.len]; exact hn
  refine ⟨by rw [splice_len _ _ _ hn, splice_len _ _ _ hv, h.len], fun v hm => ?_, fun i c v hc hu => ?_⟩
  · obtain ⟨j, hj⟩ := List.mem_iff_getElem?.1 hm
    rw [splice_get _ _ _ hv] at hj
    split at hj
    · exact k.one v (List.mem_of_getElem? hj)
    · exact h.one v (List.mem_of_getElem? hj)
  · rw [splice_get _ _ _ hv] at hu
    rw [splice_get _ _ _ hn] at hc
    rw [k.len] at hu
    split at hu
    · rename_i hcnd
      rw [if_pos hcnd] at hc
      exact k.at_ _ _ _ hc hu
    · rename_i hcnd
      rw [if_neg hcnd] at hc
      exact h.at_ _ _ _ hc hu

theorem foldl_splice (off : Nat) (l : List Value) (vs : List Value) (h : off + l.length ≤ vs.length) :
    (l.toArray.zipIdx.foldl (fun cs (x : Value × Nat) => cs.setIfInBounds (off + x.2) x.1) vs.toArray) = (splice vs off l).toArray := by
  have h1 := Go.Great.foldl_set off l 0 vs.toArray
  have e : (l.toArray.zipIdx.foldl (fun cs (x : Value × Nat) => cs.setIfInBounds (off + x.2) x.1) vs.toArray) = (l.zipIdx 0).foldl (fun cs (x : Value × Nat) => cs.setIfInBounds (off + x.2) x.1) vs.toArray := by
    rw [← Array.foldl_toList, Array.toList_zipIdx]
  rw [e]
  apply Array.ext_getElem?
  intro k
  rw [h1.2 k]
  simp only [List.getElem?_toArray, List.size_toArray, Nat.add_zero]
  rw [splice_get _ _ _ h]
  by_cases hc : off ≤ k ∧ k < off + l.length
  · rw [if_pos hc, if_pos (by omega)]
  · rw [if_neg hc, if_neg (by omega)]

/-- 'Instr.fill' over abstract cells. -/
def fillA (place : Nat → Option (Nat × Nat)) : List AV → List (Nat × AV) → Option (List AV)
  | cells, [] => some cells
  | cells, (i, y) :: rest => match place i with
    | none => none
    | some (off, size) => if y.isTup = false ∧ y.cells.length = size ∧ off + size ≤ cells.length then fillA place (splice cells off y.cells) rest else none

theorem fill_run {al : Nat → Prop} {w : World} {ok : Nat → Prop} {σ : Nat → Value} {place : Nat → Option (Nat × Nat)} : ∀ (parts : List (Nat × AV)) (vals : List (Nat × Value)) (cells : List AV) (vs : List Value) (out : List AV),
    LRep al w ok σ cells vs → vals.map (·.1) = parts.map (·.1) → (∀ (i : Nat) y v, parts[i]? = some y → vals[i]? = some v → RepS al w ok σ y.2 v.2 ∧ ∀ k, y.2 = .own k → v.2.oneCell' = true) →
    fillA place cells parts = some out → ∃ us : List Value, Instr.fill place vs.toArray vals = some us.toArray ∧ LRep al w ok σ out us
  | [], vals, cells, vs, out, h, hm, _, hf => by
    have : vals = [] := by cases vals with | nil => rfl | cons => simp at hm
    subst this
    simp only [fillA, Option.some.injEq] at hf
    subst hf
    exact ⟨vs, rfl, h⟩
  | (i, y) :: parts, [], cells, vs, out, h, hm, _, hf => by simp at hm
  | (i, y) :: parts, (i', v) :: vals, cells, vs, out, h, hm, hp, hf => by
    simp only [List.map_cons, List.cons.injEq] at hm
    obtain ⟨rfl, hm⟩ := hm
    simp only [fillA] at hf
    cases hpl : place i' with
    | none => rw [hpl] at hf; cases hf
    | some os =>
      obtain ⟨off, size⟩ := os
      rw [hpl] at hf
      simp only at hf
      split at hf
      · rename_i hc
        obtain ⟨hc1, hc2, hc3⟩ := hc
        obtain ⟨hr, ho⟩ := hp 0 (i', y) (i', v) rfl rfl
        obtain ⟨us, u1, u2, u3, u4⟩ := RepS.cells (x := y) (v := v) hr hc1 ho
        have hL := h.splice ⟨u2, u3, u4⟩ (n := off) (by omega)
        obtain ⟨rs, hr1, hr2⟩ := fill_run parts vals _ _ out hL hm (fun j y' v' hj hv => hp (j + 1) y' v' (by simpa using hj) (by simpa using hv)) hf
        refine ⟨rs, ?_, hr2⟩
        unfold Instr.fill
        have hsz : v.cells.size = size := by rw [u1]; simp [u2, hc2]
        have hvl : off + size ≤ vs.length := by rw [h.len]; exact hc3
        simp only [hpl, hsz]
        rw [if_neg (by simp; omega), u1, foldl_splice off us vs (by omega)]
        exact hr1
      · cases hf

/-- A struct all of whose cells are pure is pure. -/
def allD : List AV → Option (List D)
  | [] => some []
  | .d x :: r => match allD r with
    | some xs => some (x :: xs)
    | none => none
  | _ :: _ => none
theorem allD_eq : ∀ {cs : List AV} {ds : List D}, allD cs = some ds → cs = ds.map .d
  | [], ds, h => by simp [allD] at h; subst h; rfl
  | x :: r, ds, h => by
    cases x <;> simp only [allD] at h <;> try cases h
    cases hr : allD r with
    | none => rw [hr] at h; cases h
    | some xs => rw [hr] at h; injection h with h; subst h; rw [allD_eq hr]; rfl
def mkAgg (cs : List AV) : AV := match allD cs with
  | some ds => .d (.agg ds)
  | none => .agg cs
theorem mkAgg_rep {al : Nat → Prop} {w : World} {ok : Nat → Prop} {σ : Nat → Value} {cs : List AV} {v : Value} (h : RepS al w ok σ (.agg cs) v) : RepS al w ok σ (mkAgg cs) v := by
  unfold mkAgg
  split
  · rename_i ds hd
    have := allD_eq hd
    subst this
    have h0 := h.toA
    generalize hc : AV.agg (ds.map .d) = cc at h0
    cases h0 with
    | agg cs' vs hl h' h1 =>
      cases hc
      refine .of_d (.agg ds vs (by simpa using hl) (fun i c v hc hv => ?_) h1)
      exact (h' i (.d c) v (by simp [hc]) hv).d_inv
    | _ => cases hc
  · exact h

theorem LRep.agg {al : Nat → Prop} {w : World} {ok : Nat → Prop} {σ : Nat → Value} {cs : List AV} {vs : List Value} (h : LRep al w ok σ cs vs) : RepS al w ok σ (.agg cs) (.agg vs.toArray) := fun τ hτ => .agg cs vs h.len (fun i c v hc hv => h.at_ i c v hc hv τ hτ) h.one

section
variable {P : Program} {E : Nat → Option AV} {O : Nat → Option Obj1} {gl : List (Nat × List D)} {o : Oper} {id : Nat}

/-- The operands of a literal's parts. -/
def getParts (g : Operand → Option AV) : List (Nat × Operand) → Option (List (Nat × AV))
  | [] => some []
  | (i, x) :: r => match g x, getParts g r with
    | some y, some ys => some ((i, y) :: ys)
    | _, _ => none

theorem getParts_len {g : Operand → Option AV} : ∀ {l : List (Nat × Operand)} {ys : List (Nat × AV)}, getParts g l = some ys → ys.map (·.1) = l.map (·.1) ∧ ∀ (i : Nat) p y, l[i]? = some p → ys[i]? = some y → g p.2 = some y.2
  | [], ys, h => by simp [getParts] at h; subst h; simp
  | (i, x) :: r, ys, h => by
    simp only [getParts] at h
    split at h
    · rename_i y ys' h1 h2
      injection h with h
      subst h
      obtain ⟨h3, h4⟩ := getParts_len h2
      refine ⟨by simp [h3], fun j p z hp hz => ?_⟩
      cases j with
      | zero => simp at hp hz; subst hp; subst hz; exact h1
      | succ j => exact h4 j p z (by simpa using hp) (by simpa using hz)
    · cases h

/-- The operands that are own rows are rows. -/
def ownsOk (O : Nat → Option Obj1) (ys : List (Nat × AV)) : Prop := ∀ p ∈ ys, ∀ k, p.2 = .own k → ∃ ob, O k = some ob

theorem parts_rep {c : Ctx} {E' : Nat → Option AV} {O' : Nat → Option Obj1} {al : Nat → Prop} {nt : Nat} {a : Act} {w : World} {σ : Nat → Value} (hs : SRep c E' O' al nt a w σ) (hag : Agree c.gl E E' O O' o) {parts : Array (Nat × Operand)}
    (hm : ∀ p ∈ parts.toList, p.2 ∈ o.op.operands) {ys : List (Nat × AV)} (hy : getParts (getE c.gl E) parts.toList = some ys) (ho : ownsOk O ys) :
    (parts.map fun (i, x) => (i, a.eval x)).toList.map (·.1) = ys.map (·.1) ∧ ∀ (i : Nat) y v, ys[i]? = some y → (parts.map fun (i, x) => (i, a.eval x)).toList[i]? = some v → RepS al w (okk c O' σ w) σ y.2 v.2 ∧ ∀ k, y.2 = .own k → v.2.oneCell' = true := by
  obtain ⟨h1, h2⟩ := getParts_len hy
  refine ⟨?_, fun i y v hyi hv => ?_⟩
  · rw [h1, Array.toList_map, List.map_map]
    rfl
  · rw [Array.toList_map, List.getElem?_map, Option.map_eq_some_iff] at hv
    obtain ⟨p, hp, rfl⟩ := hv
    have hg := h2 i p y hp hyi
    have hmm := hm p (List.mem_of_getElem? hp)
    have hr := hs.get (hag.get hmm hg)
    refine ⟨hr, fun k hk => ?_⟩
    obtain ⟨ob, hob⟩ := ho y (List.mem_of_getElem? hyi) k hk
    have h3 := hag.o p.2 hmm y.2 hg k (by rw [hk]; simp [AV.ids])
    rw [hob] at h3
    rw [hk] at hr
    simp only
    rw [hr.toA.own_inv]
    exact (hs.own k ob h3).2.toO.one

def placeS (fs : List (Nat × Nat × Nat)) (i : Nat) : Option (Nat × Nat) := match fs[i]? with
  | some (o, _, s) => some (o, s)
  | none => none

theorem flds_places : ∀ {l : List Field} {fs : List (Nat × Nat × Nat)}, FldsOk P l fs → l.mapM (fun f => (P.info? f.type).map fun i => (f.offset, i.size)) = some (fs.map fun x => (x.1, x.2.2))
  | [], [], _ => rfl
  | [], _ :: _, h => by simp [FldsOk] at h
  | _ :: _, [], h => by simp [FldsOk] at h
  | f :: l, (o, t, s) :: r, h => by
    simp only [FldsOk] at h
    obtain ⟨h1, h2, h3, _, h5⟩ := h
    subst h1
    subst h2
    cases hi : P.info? f.type with
    | none => rw [hi] at h3; cases h3
    | some i =>
      rw [hi] at h3
      simp at h3
      subst h3
      rw [List.mapM_cons, flds_places h5, hi]
      rfl

theorem zero_rep {t : Nat} {i : TI} (hi : i.ok P t) {zs : List D} (hz : i.zd = .agg zs) : ∃ (it : TypeInfo) (vs : List Value), P.info? t = some it ∧ it.zero = some (.agg vs.toArray) ∧ ∀ al w ok σ, LRep al w ok σ (zs.map .d) vs := by
  obtain ⟨j, z, h1, h2, h3, h4, h5, h6⟩ := hi.info
  rw [hz] at h5
  have h7 := h5 default (fun _ => True)
  cases h7 with
  | agg _ vs hl hh h1' =>
    refine ⟨j, vs, h1, h4, fun al w ok σ => ⟨by simpa using hl, h1', fun i c v hc hv => ?_⟩⟩
    have h8 := h5 w ok
    generalize hvv : Value.agg vs.toArray = u at h8
    generalize hzz : D.agg zs = zz at h8
    cases h8 with
    | agg zs' vs' hl' hh' _ =>
      cases hzz
      injection hvv with hvv
      have : vs = vs' := by injection hvv
      subst this
      simp only [List.getElem?_map, Option.map_eq_some_iff] at hc
      obtain ⟨c', hc', rfl⟩ := hc
      exact .of_d (hh' i c' v hc' hv)
    | _ => cases hzz

theorem st_build {t : Nat} {i : TI} {fs : List (Nat × Nat × Nat)} {zs : List D} {parts : Array (Nat × Operand)} {ys : List (Nat × AV)} {out : List AV} (hi : i.ok P t) (hk : i.k = .struct fs) (hz : i.zd = .agg zs) (ho : o.op = .build t parts)
    (hy : getParts (getE gl E) parts.toList = some ys) (how : ownsOk O ys) (hf : fillA (placeS fs) (zs.map .d) ys = some out) : Step P gl E O o id (some (mkAgg out)) .none :=
  .val fun c E' O' al nt a w σ hgl hs hag => by
    subst hgl
    obtain ⟨it, vs, i1, i2, i3⟩ := zero_rep hi hz
    obtain ⟨p1, p2⟩ := parts_rep hs hag (parts := parts) (fun p hp => by simp only [ho, Op.operands, List.mem_toArray, List.mem_map]; exact ⟨p, hp, rfl⟩) hy how
    have hb := hi.k
    rw [hk] at hb
    obtain ⟨l, l1, l2⟩ := hb
    have hpl := flds_places l2
    have hfl : ∀ i, (fs.map fun x => (x.1, x.2.2)).toArray[i]? = placeS fs i := fun i => by
      simp only [placeS, List.getElem?_toArray, List.getElem?_map]
      cases fs[i]? with
      | none => rfl
      | some x => rfl
    obtain ⟨us, u1, u2⟩ := fill_run (al := al) (ok := okk c O' σ w) (σ := σ) (w := w) (place := placeS fs) ys _ _ vs out (i3 _ _ _ _) p1 p2 hf
    have hbuilt : P.built t (parts.map fun (i, x) => (i, a.eval x)).toList = some us.toArray := by
      unfold Program.built
      rw [i1, l1]
      simp only [i2, hpl, Value.cells]
      rw [show (fun x => (fs.map fun x => (x.1, x.2.2)).toArray[x]?) = placeS fs from funext hfl]
      exact u1
    exact ⟨.agg us.toArray, by simp only [execOp, ho, Sem.run_bind, run_build w t _ us.toArray hbuilt, Result.andThen_ok, Sem.run_pure], mkAgg_rep u2.agg⟩

theorem st_build_arr {t n te sz : Nat} {i : TI} {zs : List D} {parts : Array (Nat × Operand)} {ys : List (Nat × AV)} {out : List AV} (hi : i.ok P t) (hk : i.k = .arr n te sz) (hz : i.zd = .agg zs) (ho : o.op = .build t parts)
    (hy : getParts (getE gl E) parts.toList = some ys) (how : ownsOk O ys) (hf : fillA (fun i => some (i * sz, sz)) (zs.map .d) ys = some out) : Step P gl E O o id (some (mkAgg out)) .none :=
  .val fun c E' O' al nt a w σ hgl hs hag => by
    subst hgl
    obtain ⟨it, vs, i1, i2, i3⟩ := zero_rep hi hz
    obtain ⟨p1, p2⟩ := parts_rep hs hag (parts := parts) (fun p hp => by simp only [ho, Op.operands, List.mem_toArray, List.mem_map]; exact ⟨p, hp, rfl⟩) hy how
    have hb := hi.k
    rw [hk] at hb
    obtain ⟨l1, l2⟩ := hb
    cases hte : P.info? te with
    | none => rw [hte] at l2; cases l2
    | some ie =>
      rw [hte] at l2
      simp at l2
      obtain ⟨us, u1, u2⟩ := fill_run (al := al) (ok := okk c O' σ w) (σ := σ) (w := w) (place := fun i => some (i * sz, sz)) ys _ _ vs out (i3 _ _ _ _) p1 p2 hf
      have hbuilt : P.built t (parts.map fun (i, x) => (i, a.eval x)).toList = some us.toArray := by
        unfold Program.built
        rw [i1, l1]
        simp only [i2, hte, Value.cells, l2]
        exact u1
      exact ⟨.agg us.toArray, by simp only [execOp, ho, Sem.run_bind, run_build w t _ us.toArray hbuilt, Result.andThen_ok, Sem.run_pure], mkAgg_rep u2.agg⟩
end
end Go.Proofs.Ytopgjmoajkcdnaa

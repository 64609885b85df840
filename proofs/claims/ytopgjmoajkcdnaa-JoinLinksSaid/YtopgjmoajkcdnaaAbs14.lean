/- One operation as a whole. -/
import Derived.Test.YtopgjmoajkcdnaaAbs13
namespace Go.Proofs.Ytopgjmoajkcdnaa
set_option linter.all false
open Go Go.RowKit

def idxA (tb : Nat → Option TI) (O : Nat → Option Obj1) (t : Nat) (x y : Option AV) (K : AV → Prop) : Prop :=
  match tb t, x, y with
  | some i, some (.d (.slice xs)), some (.d (.int _ n)) => match i.k with
    | .slice _ sz => 0 ≤ n ∧ ∃ e, xs[n.toNat]? = some e ∧ e.length = sz ∧ K (.d (.addr e))
    | _ => False
  | some i, some (.own k), some (.d (.int _ n)) => match i.k, O k with
    | .slice _ sz, some (.row _ _ sz' xs) => sz' = sz ∧ 0 ≤ n ∧ n < xs.length ∧ K (.elt k sz n.toNat 0)
    | _, _ => False
  | some i, some (.ref k off), some (.d (.int _ n)) => match i.k with
    | .arr len _ sz => 0 ≤ n ∧ n < len ∧ K (.ref k (off + n.toNat * sz))
    | _ => False
  | some i, some (.d (.addr cs)), some (.d (.int _ n)) => match i.k with
    | .arr len _ sz => 0 ≤ n ∧ n < len ∧ K (.d (.addr (cs.drop (n.toNat * sz))))
    | _ => False
  | _, _, _ => False

def lenA (tb : Nat → Option TI) (O : Nat → Option Obj1) (t : Nat) (x : Option AV) (K : Nat → Prop) : Prop :=
  match tb t, x with
  | some i, some (.d (.slice xs)) => match i.k with
    | .slice _ _ => K xs.length
    | _ => False
  | some i, some (.d .nils) => match i.k with
    | .slice _ _ => K 0
    | _ => False
  | some i, some (.d (.str s)) => match i.k with
    | .str => K s.size
    | _ => False
  | some i, some (.own k) => match i.k, O k with
    | .slice _ _, some (.row _ _ _ xs) => K xs.length
    | _, _ => False
  | _, _ => False

def appA (tb : Nat → Option TI) (O : Nat → Option Obj1) (id : Nat) (t t' : Nat) (s x : Option AV) (K : AV → Eff → Prop) : Prop :=
  match tb t, s, x with
  | some i, some sv, some y => match i.k with
    | .slice te sz => match tb te, srcA O sz y with
      | some ie, some ys => t' = t ∧ ie.size = sz ∧ 0 < sz ∧ (∀ e ∈ ys, e.length = sz) ∧ (match sv with
        | .own k => match O k with
          | some (.row fr te' sz' xs) => te' = te ∧ sz' = sz ∧ (xs.length + ys.length) * ie.bytes ≤ 140737488355328 ∧ xs.length + ys.length ≤ 9223372036854775807 ∧ K (.own id) (.swap k (.row fr te sz (xs ++ ys)))
          | _ => False
        | .d .nils => ys.length * ie.bytes ≤ 140737488355328 ∧ ys.length ≤ 9223372036854775807 ∧ K (.own id) (.new (.row true te sz ys))
        | _ => False)
      | _, _ => False
    | _ => False
  | _, _, _ => False

def callA (P : Program) (gl : List (Nat × List D)) (tb : Nat → Option TI) (g : Operand → Option AV) (O : Nat → Option Obj1) (id : Nat) (c : Call) (K : AV → Eff → Prop) : Prop :=
  match c.callee with
  | .value x => match g x, getAs g O c.args.toList with
    | some (.d (.fn f fs cs)), some (ds, ks) => (∃ res, PCon P gl f (fs ++ ds ++ cs) res ∧ K (.d res) (dropE ks)) ∨ ∃ te sz xs, ks = [] ∧ PConR P gl f (fs ++ ds ++ cs) te sz xs ∧ K (.own id) (.new (.row true te sz xs))
    | _, _ => False
  | .builtin .len => match c.args.toList, c.argTypes.toList with
    | [x], [t] => lenA tb O t (g x) fun n => K (.d (.int .i64 n)) .none
    | _, _ => False
  | .builtin .min => match c.args.toList with
    | [x, y] => match g x, g y with
      | some (.d (.int k m)), some (.d (.int _ n)) => K (.d (.int k (min m n))) .none
      | _, _ => False
    | _ => False
  | .builtin .max => match c.args.toList with
    | [x, y] => match g x, g y with
      | some (.d (.int k m)), some (.d (.int _ n)) => K (.d (.int k (max m n))) .none
      | _, _ => False
    | _ => False
  | .builtin .append => match c.args.toList, c.argTypes.toList with
    | [s, x], [t, t'] => appA tb O id t t' (g s) (g x) K
    | _, _ => False
  | _ => False

def opA (P : Program) (gl : List (Nat × List D)) (tb : Nat → Option TI) (E : Nat → Option AV) (O : Nat → Option Obj1) (id : Nat) (op : Op) (K : Option AV → Eff → Prop) : Prop :=
  match op with
  | .move x | .assign x => match getE gl E x with
    | some v => K (some v) .none
    | none => False
  | .pick c x y => match getE gl E c with
    | some (.d (.bool b)) => if b = true then (match getE gl E x with
      | some v => K (some v) .none
      | none => False) else (match getE gl E y with
      | some v => K (some v) .none
      | none => False)
    | _ => False
  | .alloc t => match tb t with
    | some i => i.zd.isTup = false ∧ K (some (.ref id 0)) (.new (.box true (AV.d i.zd).cells))
    | none => False
  | .box _ x => match getE gl E x with
    | some y => y.isTup = false ∧ ownOk O y ∧ K (some (.ref id 0)) (.new (.box true y.cells))
    | none => False
  | .build t ps => match tb t, getParts (getE gl E) ps.toList with
    | some i, some ys => ownsOk' O ys ∧ (match i.k, i.zd with
      | .struct fs, .agg zs => match fillA (placeS fs) (zs.map .d) ys with
        | some out => K (some (mkAgg out)) .none
        | none => False
      | .arr _ _ sz, .agg zs => match fillA (fun i => some (i * sz, sz)) (zs.map .d) ys with
        | some out => K (some (mkAgg out)) .none
        | none => False
      | _, _ => False)
    | _, _ => False
  | .buildSlice t len ps => match tb t, getParts (getE gl E) ps.toList with
    | some i, some ys => ownsOk' O ys ∧ (match i.k with
      | .slice te sz => match tb te, dense sz 0 ys with
        | some ie, some xs => ie.size = sz ∧ 0 < sz ∧ xs.length = len ∧ len * sz ≤ 16777216 ∧ K (some (.own id)) (.new (.row true te sz xs))
        | _, _ => False
      | _ => False)
    | _, _ => False
  | .load t x => match tb t, getE gl E x with
    | some i, some (.d (.addr cs)) => match readD i cs with
      | some y => K (some (.d y)) .none
      | none => False
    | some i, some (.ref k off) => match O k with
      | some (.box _ cs) => match readA i (cs.drop off) with
        | some y => K (some y.mk) .none
        | none => False
      | _ => False
    | some i, some (.elt k sz j off) => match O k with
      | some (.row _ _ sz' xs) => sz' = sz ∧ ∃ e, xs[j]? = some e ∧ (match readD i (e.drop off) with
        | some y => K (some (.d y)) .none
        | none => False)
      | _ => False
    | _, _ => False
  | .store t x v => match tb t, getE gl E x, getE gl E v with
    | some i, some (.ref k off), some y => match O k with
      | some (.box fr cs) => y.isTup = false ∧ ownOk O y ∧ y.cells.length = i.size ∧ off + y.cells.length ≤ cs.length ∧ K none (.turn k (.box fr (splice cs off y.cells)))
      | _ => False
    | some i, some (.elt k sz j off), some y => match O k, allD y.cells with
      | some (.row fr te sz' xs), some ds => sz' = sz ∧ y.isTup = false ∧ ds.length = i.size ∧ off + ds.length ≤ sz ∧ ∃ e, xs[j]? = some e ∧ K none (.turn k (.row fr te sz (xs.set j (splice e off ds))))
      | _, _ => False
    | _, _, _ => False
  | .nilCheck x => match getE gl E x with
    | some (.ref k off) => K (some (.ref k off)) .none
    | some (.elt k sz j q) => K (some (.elt k sz j q)) .none
    | some (.d (.addr cs)) => K (some (.d (.addr cs))) .none
    | some (.d (.fn f fs cs)) => K (some (.d (.fn f fs cs))) .none
    | _ => False
  | .binOp op t x y _ => binA tb op t (getE gl E x) (getE gl E y) fun v => K (some v) .none
  | .unOp .not _ x => match getE gl E x with
    | some (.d (.bool b)) => K (some (.d (.bool (!b)))) .none
    | _ => False
  | .unOp .neg _ x => match getE gl E x with
    | some (.d (.int k n)) => K (some (.d (.int k (k.wrap (0 - n))))) .none
    | _ => False
  | .convert s t x => match tb s, tb t, getE gl E x with
    | some i, some j, some (.d (.int _ n)) => match i.k, j.k with
      | .int _, .int k' => K (some (.d (.int k' (k'.wrap n)))) .none
      | _, _ => False
    | some i, some j, some (.d (.str b)) => match i.k, j.k with
      | .str, .slice te sz => sz = 1 ∧ P.underlying te = some (.int .u8) ∧ K (some (.d (.slice (b.data.toList.map encB)))) .none
      | _, _ => False
    | some i, some j, some (.d (.slice xs)) => match i.k, j.k with
      | .slice te sz, .str => sz = 1 ∧ P.underlying te = some (.int .u8) ∧ ∃ l : List UInt8, xs = l.map encB ∧ K (some (.d (.str ⟨l.toArray⟩))) .none
      | _, _ => False
    | _, _, _ => False
  | .makeSlice t x y => match tb t, getE gl E x, getE gl E y with
    | some i, some (.d (.int _ n)), some (.d (.int _ n')) => match i.k with
      | .slice te sz => match tb te with
        | some ie => n' = n ∧ ie.size = sz ∧ 0 < sz ∧ ie.zd.isTup = false ∧ 0 ≤ n ∧ n.toNat * ie.bytes ≤ 281474976710656 ∧ n ≤ 9223372036854775807 ∧ K (some (.own id)) (.new (.row true te sz (List.replicate n.toNat ie.zd.cells)))
        | none => False
      | _ => False
    | _, _, _ => False
  | .slice t x lo hi none => match tb t, getE gl E x with
    | some i, some (.d (.slice xs)) => match i.k with
      | .slice _ sz => (∀ e ∈ xs, e.length = sz) ∧ cutB (getE gl E) xs.length lo hi fun l h => K (some (.d (.slice ((xs.drop l).take (h - l))))) .none
      | _ => False
    | some i, some (.d (.str s)) => match i.k with
      | .str => cutB (getE gl E) s.size lo hi fun l h => K (some (.d (.str (s.extract l h)))) .none
      | _ => False
    | some i, some (.own k) => match i.k, lo, O k with
      | .slice _ sz, none, some (.row fr te sz' xs) => sz' = sz ∧ cutB (getE gl E) xs.length none hi fun _ h => K (some (.own id)) (.swap k (.row fr te sz (xs.take h)))
      | _, _, _ => False
    | _, _ => False
  | .fieldAddr s x n => match tb s, getE gl E x with
    | some i, some y => match i.k with
      | .struct fs => match fs[n]? with
        | some f => match y with
          | .ref k off => K (some (.ref k (off + f.1))) .none
          | .elt k sz j off => K (some (.elt k sz j (off + f.1))) .none
          | .d (.addr cs) => K (some (.d (.addr (cs.drop f.1)))) .none
          | _ => False
        | none => False
      | _ => False
    | _, _ => False
  | .field s x n => match tb s, getE gl E x with
    | some i, some y => match i.k with
      | .struct fs => match fs[n]? with
        | some f => match tb f.2.1 with
          | some fi => (match y with
            | .agg _ => True
            | .d (.agg _) => True
            | _ => False) ∧ (match readA fi (y.cells.drop f.1) with
            | some z => K (some z.mk) .none
            | none => False)
          | none => False
        | none => False
      | _ => False
    | _, _ => False
  | .indexAddr t x y => idxA tb O t (getE gl E x) (getE gl E y) fun v => K (some v) .none
  | .index t x y => match tb t, getE gl E x, getE gl E y with
    | some i, some (.d (.str s)), some (.d (.int _ n)) => match i.k with
      | .str => 0 ≤ n ∧ ∃ h : n.toNat < s.size, K (some (.d (.int .u8 (s[n.toNat]'h).toNat))) .none
      | _ => False
    | _, _, _ => False
  | .extract x n => match getE gl E x with
    | some (.d (.tup cs)) => match cs[n]? with
      | some y => K (some (.d y)) .none
      | none => False
    | some (.tup cs) => match cs[n]? with
      | some y => K (some y) .none
      | none => False
    | _ => False
  | .call c => callA P gl tb (getE gl E) O id c fun v e => K (some v) e
  | _ => False

section
variable {P : Program} {E : Nat → Option AV} {O : Nat → Option Obj1} {gl : List (Nat × List D)} {o : Oper} {id : Nat} {tb : Nat → Option TI}

theorem Step.mk {v : AV} {e : Eff} (h : Step P gl E O o id (some v) e) : Step P gl E O o id (some v.mk) e := by
  intro c E' O' al nt a w σ hgl hs hid hag K Q hK
  refine h c E' O' al nt a w σ hgl hs hid hag K Q fun v' w' σ' hs' hx => hK v' w' σ' hs' fun y hy => ?_
  injection hy with hy
  subst hy
  exact AV.mk_rep (hx v rfl)

theorem idxA_sound (htb : TbOk P tb) {t : TypeId} {x y : Operand} {K : AV → Prop} (ho : o.op = .indexAddr t x y) (h : idxA tb O t (getE gl E x) (getE gl E y) K) : ∃ v, K v ∧ Step P gl E O o id (some v) .none := by
  unfold idxA at h
  split at h
  · rename_i i xs k n hi hx hy
    split at h
    · rename_i te sz hk
      obtain ⟨h0, e, he, hl, hK⟩ := h
      exact ⟨_, hK, st_indexAddr_slice (htb _ _ hi) hk ho hx hy h0 rfl he hl⟩
    · exact h.elim
  · rename_i i k k' n hi hx hy
    split at h
    · rename_i te sz fr te' sz' xs hk hO
      obtain ⟨rfl, h0, h1, hK⟩ := h
      exact ⟨_, hK, st_indexAddr_own (htb _ _ hi) hk ho hx hO hy h0 h1⟩
    · exact h.elim
  · rename_i i k off k' n hi hx hy
    split at h
    · rename_i len te sz hk
      obtain ⟨h0, h1, hK⟩ := h
      exact ⟨_, hK, st_indexAddr_arr (htb _ _ hi) hk ho hx hy h0 h1⟩
    · exact h.elim
  · rename_i i cs k' n hi hx hy
    split at h
    · rename_i len te sz hk
      obtain ⟨h0, h1, hK⟩ := h
      exact ⟨_, hK, st_indexAddr_arrd (htb _ _ hi) hk ho hx hy h0 h1⟩
    · exact h.elim
  · exact h.elim

theorem lenA_sound (htb : TbOk P tb) {t : TypeId} {ts : Array TypeId} {x : Operand} {K : Nat → Prop} (hts : ts = #[t]) (ho : o.op = .call { callee := .builtin .len, args := #[x], argTypes := ts }) (h : lenA tb O t (getE gl E x) K) : ∃ n, K n ∧ Step P gl E O o id (some (.d (.int .i64 n))) .none := by
  unfold lenA at h
  split at h
  · rename_i i xs hi hx
    split at h
    · rename_i te sz hk
      exact ⟨_, h, st_len (htb _ _ hi) hts ho hx (.inl ⟨te, sz, xs, hk, rfl, rfl⟩)⟩
    · exact h.elim
  · rename_i i hi hx
    split at h
    · rename_i te sz hk
      exact ⟨_, h, st_len (htb _ _ hi) hts ho hx (.inr (.inl ⟨te, sz, hk, rfl, rfl⟩))⟩
    · exact h.elim
  · rename_i i s hi hx
    split at h
    · rename_i hk
      exact ⟨_, h, st_len (htb _ _ hi) hts ho hx (.inr (.inr (.inl ⟨s, hk, rfl, rfl⟩)))⟩
    · exact h.elim
  · rename_i i k hi hx
    split at h
    · rename_i te sz fr te' sz' xs hk hO
      exact ⟨_, h, st_len (htb _ _ hi) hts ho hx (.inr (.inr (.inr ⟨te, sz, k, fr, te', sz', xs, hk, rfl, hO, rfl⟩)))⟩
    · exact h.elim
  · exact h.elim

theorem appA_sound (htb : TbOk P tb) {t t' : TypeId} {ts : Array TypeId} {s x : Operand} {K : AV → Eff → Prop} (hts : ts = #[t, t']) (ho : o.op = .call { callee := .builtin .append, args := #[s, x], argTypes := ts }) (h : appA tb O id t t' (getE gl E s) (getE gl E x) K) : ∃ v e, K v e ∧ Step P gl E O o id (some v) e := by
  unfold appA at h
  split at h
  · rename_i i sv y hi hs hx
    split at h
    · rename_i te sz hk
      split at h
      · rename_i ie ys hie hys
        obtain ⟨rfl, h1, h2, h3, h⟩ := h
        split at h
        · rename_i k
          split at h
          · rename_i fr te' sz' xs hO
            obtain ⟨rfl, rfl, h4, h5, hK⟩ := h
            exact ⟨_, _, hK, st_append (htb _ _ hi) hk (htb _ _ hie) h1 hts ho hs hO hx (srcA_spec hys) h3 h4 (by simp only [maxLen]; omega)⟩
          · exact h.elim
        · obtain ⟨h4, h5, hK⟩ := h
          exact ⟨_, _, hK, st_append_nil (htb _ _ hi) hk (htb _ _ hie) h1 h2 hts ho hs hx (srcA_spec hys) h3 h4 (by simp only [maxLen]; omega)⟩
        · exact h.elim
      · exact h.elim
    · exact h.elim
  · exact h.elim

theorem array_of_list {α : Type} {a : Array α} {l : List α} (h : a.toList = l) : a = l.toArray := by rw [← h]

theorem callA_sound (htb : TbOk P tb) {cl : Call} {K : AV → Eff → Prop} (ho : o.op = .call cl) (h : callA P gl tb (getE gl E) O id cl K) : ∃ v e, K v e ∧ Step P gl E O o id (some v) e := by
  obtain ⟨callee, args, ts⟩ := cl
  unfold callA at h
  simp only at h
  split at h
  · rename_i x
    split at h
    · rename_i f fs cs ds ks hx hd
      rcases h with ⟨res, hc, hK⟩ | ⟨te, sz, xs, rfl, hc, hK⟩
      · exact ⟨_, _, hK, st_call ho hx hd hc⟩
      · exact ⟨_, _, hK, st_callR ho hx hd hc⟩
    · exact h.elim
  · split at h
    · rename_i x t ha ht
      have e1 := array_of_list ha
      have e2 := array_of_list ht
      subst e1
      obtain ⟨n, hK, hst⟩ := lenA_sound htb e2 ho h
      exact ⟨_, _, hK, hst⟩
    · exact h.elim
  · split at h
    · rename_i x y ha
      have e1 := array_of_list ha
      subst e1
      split at h
      · rename_i k m k' n hx hy
        exact ⟨_, _, h, st_min ho hx hy⟩
      · exact h.elim
    · exact h.elim
  · split at h
    · rename_i x y ha
      have e1 := array_of_list ha
      subst e1
      split at h
      · rename_i k m k' n hx hy
        exact ⟨_, _, h, st_max ho hx hy⟩
      · exact h.elim
    · exact h.elim
  · split at h
    · rename_i s x t t' ha ht
      have e1 := array_of_list ha
      have e2 := array_of_list ht
      subst e1
      exact appA_sound htb e2 ho h
    · exact h.elim
  · exact h.elim
end
end Go.Proofs.Ytopgjmoajkcdnaa

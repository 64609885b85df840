/- AbsB: Abs14, Abs15, AbsX, Abs16, Abs17, Abs18, Abs19, Abs20, Abs21, Abs22. -/
import Derived.Test.YtpibdbjlilpfiaaAbsO
import Derived.KernelRfl
/- One operation as a whole. -/
namespace Go.Proofs.Ytpibdbjlilpfiaa
set_option linter.all false
open Go Go.RowKit

def idxA (tb : Nat → Option TI) (O : Nat → Option Obj1) (t : Nat) (x y : Option AV) (K : AV → Prop) : Prop :=
  match tb t, x, y with
  | some i, some (.d (.slice xs)), some (.d (.int _ n)) => match i.k with
    | .slice _ sz => 0 ≤ n ∧ ∃ e, xs[n.toNat]? = some e ∧ e.length = sz ∧ K (.d (.addr e))
    | _ => False
  | some i, some (.own k), some (.d (.int _ n)) => match i.k, O k with
    | .slice _ sz, some (.row _ _ sz' xs) => sz' = sz ∧ 0 ≤ n ∧ n < xs.length ∧ K (.elt k sz n.toNat 0)
    | _, _ => False
  | some i, some (.ref k off), some (.d (.int _ n)) => match i.k with
    | .arr len _ sz => 0 ≤ n ∧ n < len ∧ K (.ref k (off + n.toNat * sz))
    | _ => False
  | some i, some (.d (.addr cs)), some (.d (.int _ n)) => match i.k with
    | .arr len _ sz => 0 ≤ n ∧ n < len ∧ K (.d (.addr (cs.drop (n.toNat * sz))))
    | _ => False
  | _, _, _ => False

def lenA (tb : Nat → Option TI) (O : Nat → Option Obj1) (t : Nat) (x : Option AV) (K : Nat → Prop) : Prop :=
  match tb t, x with
  | some i, some (.d (.slice xs)) => match i.k with
    | .slice _ _ => K xs.length
    | _ => False
  | some i, some (.d .nils) => match i.k with
    | .slice _ _ => K 0
    | _ => False
  | some i, some (.d (.str s)) => match i.k with
    | .str => K s.size
    | _ => False
  | some i, some (.own k) => match i.k, O k with
    | .slice _ _, some (.row _ _ _ xs) => K xs.length
    | _, _ => False
  | _, _ => False

def appA (tb : Nat → Option TI) (O : Nat → Option Obj1) (id : Nat) (t t' : Nat) (s x : Option AV) (K : AV → Eff → Prop) : Prop :=
  match x with
  | some (.d (.int _ n)) => (match tb t, tb t', s with
    | some i, some i', some (.d .nils) => match i.k, i'.k with
      | .slice te sz, .int _ => (match tb te with
        | some ie => ie.size = sz ∧ 0 < sz ∧ ie.zd.isTup = false ∧ 0 < n ∧ n.toNat * ie.bytes ≤ 140737488355328 ∧ n ≤ 4611686018427387904 ∧ K (.own id) (.new (.row true te sz (List.replicate n.toNat ie.zd.cells)))
        | none => False)
      | _, _ => False
    | _, _, _ => False)
  | _ => match tb t, s, x with
  | some i, some sv, some y => match i.k with
    | .slice te sz => match tb te, srcA O sz y with
      | some ie, some ys => t' = t ∧ ie.size = sz ∧ 0 < sz ∧ (∀ e ∈ ys, e.length = sz) ∧ (match sv with
        | .own k => match O k with
          | some (.row fr te' sz' xs) => te' = te ∧ sz' = sz ∧ (xs.length + ys.length) * ie.bytes ≤ 140737488355328 ∧ xs.length + ys.length ≤ 9223372036854775807 ∧ K (.own id) (.swap k (.row fr te sz (xs ++ ys)))
          | _ => False
        | .d .nils => ys.length * ie.bytes ≤ 140737488355328 ∧ ys.length ≤ 9223372036854775807 ∧ K (.own id) (.new (.row true te sz ys))
        | _ => False)
      | _, _ => False
    | _ => False
  | _, _, _ => False

def callA (P : Program) (gl : GL) (tb : Nat → Option TI) (g : Operand → Option AV) (O : Nat → Option Obj1) (id : Nat) (c : Call) (K : AV → Eff → Prop) : Prop :=
  match c.callee with
  | .value x => match g x, getAs g O c.args.toList with
    | some (.d (.fn f fs cs)), some (ds, ks) => (∃ res, PCon P gl f (fs ++ ds ++ cs) res ∧ K (.d res) (dropE ks)) ∨ (∃ te sz xs, PConR P gl f (fs ++ ds ++ cs) te sz xs ∧ K (.own id) (newE ks id (.row true te sz xs))) ∨
        (∃ ds' res, getAR g c.args.toList = some ds' ∧ PCon P gl f (fs ++ ds' ++ cs) res ∧ K (.d res) .none) ∨ (∃ ds' te sz xs, getAR g c.args.toList = some ds' ∧ PConR P gl f (fs ++ ds' ++ cs) te sz xs ∧ K (.own id) (.new (.row true te sz xs))) ∨ (∃ te sz xs, PConW P gl f (fs ++ ds ++ cs) te sz xs ∧ K (.agg [.own id]) (newE ks id (.row true te sz xs))) ∨ ∃ E, g = getE gl E ∧ ∃ v e, K v e ∧ ∀ o : Oper, o.op = .call c → Step P gl E O o id (some v) e
    | _, _ => False
  | .builtin .cap => match c.args.toList, c.argTypes.toList with
    | [x], [t] => (match tb t, g x with
      | some i, some (.d .nils) => match i.k with
        | .slice _ _ => K (.d (.int .i64 0)) .none
        | _ => False
      | _, _ => False)
    | _, _ => False
  | .builtin .len => match c.args.toList, c.argTypes.toList with
    | [x], [t] => lenA tb O t (g x) fun n => K (.d (.int .i64 n)) .none
    | _, _ => False
  | .builtin .min => match c.args.toList with
    | [x, y] => match g x, g y with
      | some (.d (.int k m)), some (.d (.int _ n)) => K (.d (.int k (min m n))) .none
      | _, _ => False
    | _ => False
  | .builtin .max => match c.args.toList with
    | [x, y] => match g x, g y with
      | some (.d (.int k m)), some (.d (.int _ n)) => K (.d (.int k (max m n))) .none
      | _, _ => False
    | _ => False
  | .builtin .append => match c.args.toList, c.argTypes.toList with
    | [s, x], [t, t'] => appA tb O id t t' (g s) (g x) K
    | _, _ => False
  | _ => False

def opA (P : Program) (gl : GL) (tb : Nat → Option TI) (E : Nat → Option AV) (O : Nat → Option Obj1) (id : Nat) (op : Op) (K : Option AV → Eff → Prop) : Prop :=
  match op with
  | .move x | .assign x => match getE gl E x with
    | some v => K (some v) .none
    | none => False
  | .pick c x y => match getE gl E c with
    | some (.d (.bool b)) => if b = true then (match getE gl E x with
      | some v => K (some v) .none
      | none => False) else (match getE gl E y with
      | some v => K (some v) .none
      | none => False)
    | _ => False
  | .alloc t => match tb t with
    | some i => i.zd.isTup = false ∧ K (some (.ref id 0)) (.new (.box true (AV.d i.zd).cells))
    | none => False
  | .box _ x => match getE gl E x with
    | some y => y.isTup = false ∧ ownOk O y ∧ K (some (.ref id 0)) (.new (.box true y.cells))
    | none => False
  | .build t ps => match tb t, getParts (getE gl E) ps.toList with
    | some i, some ys => ownsOk' O ys ∧ (match i.k, i.zd with
      | .struct fs, .agg zs => match fillA (placeS fs) (zs.map .d) ys with
        | some out => K (some (mkAgg out)) .none
        | none => False
      | .arr _ _ sz, .agg zs => match fillA (fun i => some (i * sz, sz)) (zs.map .d) ys with
        | some out => K (some (mkAgg out)) .none
        | none => False
      | _, _ => False)
    | _, _ => False
  | .buildSlice t len ps => match tb t, getParts (getE gl E) ps.toList with
    | some i, some ys => (match i.k, asPs O ys with
      | .slice te sz, some (zs, ks) => match tb te, dense sz 0 zs with
        | some ie, some xs => ie.size = sz ∧ 0 < sz ∧ xs.length = len ∧ len * sz ≤ 16777216 ∧ K (some (.own id)) (newE ks id (.row true te sz xs))
        | _, _ => False
      | _, _ => False)
    | _, _ => False
  | .load t x => match tb t, getE gl E x with
    | some i, some (.d (.addr cs)) => match readD i cs with
      | some y => K (some (.d y)) .none
      | none => False
    | some i, some (.ref k off) => match O k with
      | some (.box _ cs) => match readA i (cs.drop off) with
        | some y => K (some y.mk) .none
        | none => False
      | _ => False
    | some i, some (.elt k sz j off) => match O k with
      | some (.row _ _ sz' xs) => sz' = sz ∧ ∃ e, xs[j]? = some e ∧ (match readD i (e.drop off) with
        | some y => K (some (.d y)) .none
        | none => False)
      | _ => False
    | _, _ => False
  | .store t x v => match tb t, getE gl E x, getE gl E v with
    | some i, some (.ref k off), some y => match O k with
      | some (.box fr cs) => y.isTup = false ∧ ownOk O y ∧ y.cells.length = i.size ∧ off + y.cells.length ≤ cs.length ∧ K none (.turn k (.box fr (splice cs off y.cells)))
      | _ => False
    | some i, some (.elt k sz j off), some y => match O k, allD y.cells with
      | some (.row fr te sz' xs), some ds => sz' = sz ∧ y.isTup = false ∧ ds.length = i.size ∧ off + ds.length ≤ sz ∧ ∃ e, xs[j]? = some e ∧ K none (.turn k (.row fr te sz (xs.set j (splice e off ds))))
      | _, _ => False
    | _, _, _ => False
  | .nilCheck x => match getE gl E x with
    | some (.ref k off) => K (some (.ref k off)) .none
    | some (.elt k sz j q) => K (some (.elt k sz j q)) .none
    | some (.d (.addr cs)) => K (some (.d (.addr cs))) .none
    | some (.d (.fn f fs cs)) => K (some (.d (.fn f fs cs))) .none
    | _ => False
  | .binOp op t x y _ => binA tb op t (getE gl E x) (getE gl E y) fun v => K (some v) .none
  | .unOp .not _ x => match getE gl E x with
    | some (.d (.bool b)) => K (some (.d (.bool (!b)))) .none
    | _ => False
  | .unOp .neg _ x => match getE gl E x with
    | some (.d (.int k n)) => K (some (.d (.int k (k.wrap (0 - n))))) .none
    | _ => False
  | .convert s t x => match tb s, tb t, getE gl E x with
    | some i, some j, some (.d (.int _ n)) => match i.k, j.k with
      | .int _, .int k' => K (some (.d (.int k' (k'.wrap n)))) .none
      | _, _ => False
    | some i, some j, some (.d (.str b)) => match i.k, j.k with
      | .str, .slice te sz => sz = 1 ∧ P.underlying te = some (.int .u8) ∧ K (some (.d (.slice (b.data.toList.map encB)))) .none
      | _, _ => False
    | some i, some j, some (.d (.slice xs)) => match i.k, j.k with
      | .slice te sz, .str => sz = 1 ∧ P.underlying te = some (.int .u8) ∧ ∃ l : List UInt8, xs = l.map encB ∧ K (some (.d (.str ⟨l.toArray⟩))) .none
      | _, _ => False
    | some i, some j, some (.own k) => match i.k, j.k, O k with
      | .slice te sz, .slice _ _, some (.row true te' sz' xs) => s = t ∧ sz = 1 ∧ sz' = 1 ∧ te' = te ∧ P.underlying te = some (.int .u8) ∧ 0 < xs.length ∧ K (some (.d (.slice xs))) (.drop [k])
      | _, _, _ => False
    | _, _, _ => False
  | .makeSlice t x y => match tb t, getE gl E x, getE gl E y with
    | some i, some (.d (.int _ n)), some (.d (.int _ n')) => match i.k with
      | .slice te sz => match tb te with
        | some ie => n' = n ∧ ie.size = sz ∧ 0 < sz ∧ ie.zd.isTup = false ∧ 0 ≤ n ∧ n.toNat * ie.bytes ≤ 281474976710656 ∧ n ≤ 9223372036854775807 ∧ K (some (.own id)) (.new (.row true te sz (List.replicate n.toNat ie.zd.cells)))
        | none => False
      | _ => False
    | _, _, _ => False
  | .slice t x lo hi none => match tb t, getE gl E x with
    | some i, some (.d (.slice xs)) => match i.k with
      | .slice _ sz => (∀ e ∈ xs, e.length = sz) ∧ cutB (getE gl E) xs.length lo hi fun l h => K (some (.d (.slice ((xs.drop l).take (h - l))))) .none
      | _ => False
    | some i, some (.d .nils) => match i.k with
      | .slice _ _ => cutB (getE gl E) 0 lo hi fun _ _ => K (some (.d .nils)) .none
      | _ => False
    | some i, some (.d (.str s)) => match i.k with
      | .str => cutB (getE gl E) s.size lo hi fun l h => K (some (.d (.str (s.extract l h)))) .none
      | _ => False
    | some i, some (.own k) => match i.k, lo, O k with
      | .slice _ sz, none, some (.row fr te sz' xs) => sz' = sz ∧ cutB (getE gl E) xs.length none hi fun _ h => K (some (.own id)) (.swap k (.row fr te sz (xs.take h)))
      | _, _, _ => False
    | _, _ => False
  | .fieldAddr s x n => match tb s, getE gl E x with
    | some i, some y => match i.k with
      | .struct fs => match fs[n]? with
        | some f => match y with
          | .ref k off => K (some (.ref k (off + f.1))) .none
          | .elt k sz j off => K (some (.elt k sz j (off + f.1))) .none
          | .d (.addr cs) => K (some (.d (.addr (cs.drop f.1)))) .none
          | _ => False
        | none => False
      | _ => False
    | _, _ => False
  | .field s x n => match tb s, getE gl E x with
    | some i, some y => match i.k with
      | .struct fs => match fs[n]? with
        | some f => match tb f.2.1 with
          | some fi => (match y with
            | .agg _ => True
            | .d (.agg _) => True
            | _ => False) ∧ (match readA fi (y.cells.drop f.1) with
            | some z => K (some z.mk) .none
            | none => False)
          | none => False
        | none => False
      | _ => False
    | _, _ => False
  | .indexAddr t x y => idxA tb O t (getE gl E x) (getE gl E y) fun v => K (some v) .none
  | .index t x y => match tb t, getE gl E x, getE gl E y with
    | some i, some (.d (.str s)), some (.d (.int _ n)) => match i.k with
      | .str => 0 ≤ n ∧ ∃ h : n.toNat < s.size, K (some (.d (.int .u8 (s[n.toNat]'h).toNat))) .none
      | _ => False
    | _, _, _ => False
  | .extract x n => match getE gl E x with
    | some (.d (.tup cs)) => match cs[n]? with
      | some y => K (some (.d y)) .none
      | none => False
    | some (.tup cs) => match cs[n]? with
      | some y => K (some y) .none
      | none => False
    | _ => False
  | .call c => callA P gl tb (getE gl E) O id c fun v e => K (some v) e
  | .makeInterface t x => match tb t, getE gl E x with
    | some i, some (.d y) => i.k.conc = true ∧ K (some (.d (.iface t y))) .none
    | _, _ => False
  | .typeAssert x _ u true => match tb u, getE gl E x with
    | some i, some (.d y) => i.k.conc = true ∧ (match assertV u i.zd y with
      | some r => K (some (.d r)) .none
      | none => False)
    | _, _ => False
  | .range t x => match tb t, getE gl E x with
    | some i, some (.d (.str s)) => match i.k with
      | .str => K (some (.ref id 0)) (.new (.iter s 0))
      | _ => False
    | _, _ => False
  | .next x true => match getE gl E x with
    | some (.ref k 0) => match O k with
      | some (.iter s pos) => (pos < s.size → K (some (.d (.tup [.bool true, .int .i64 pos, .int .i32 (Utf8.decode s pos).1]))) (.turn k (.iter s (pos + (Utf8.decode s pos).2)))) ∧ (¬ pos < s.size → K (some (.d (.tup [.bool false]))) .none)
      | _ => False
    | _ => False
  | .makeMap _ none => K (some (.own id)) (.new (.map []))
  | .insert t m k x => match mapT P t, getE gl E m, getE gl E k, getE gl E x with
    | some (_, _, kk), some (.own q), some (.d (.int kk' n)), some (.d d) => match O q with
      | some (.map es) => kk' = kk ∧ findM kk n es 0 = some none ∧ K none (.turn q (.map (es ++ [(.int kk n, d)])))
      | _ => False
    | _, _, _, _ => False
  | .lookup t m k true => match getE gl E m with
    | some (.d (.mapv _)) => ∃ v, K (some v) .none ∧ ∀ o : Oper, o.op = .lookup t m k true → Step P gl E O o id (some v) .none
    | y => match mapT P t, y, getE gl E k with
      | some (_, et, kk), some (.own q), some (.d (.int kk' n)) => match O q, tb et with
        | some (.map es), some ie => kk' = kk ∧ (match findM kk n es 0 with
          | some r => K (some (.d (lookV ie.zd r))) .none
          | none => False)
        | _, _ => False
      | _, _, _ => False
  | .mapUpdate t m k x => match getE gl E m with
    | some (.d (.mapv _)) => K none .none ∧ ∀ o : Oper, o.op = .mapUpdate t m k x → Step P gl E O o id none .none
    | _ => False
  | .makeFunc fn fs cs => match fn, getDs (getE gl E) fs.toList, getDs (getE gl E) cs.toList with
    | .func f, some ds, some es => K (some (.d (.fn f ds es))) .none
    | _, _, _ => False
  | _ => False

section
variable {P : Program} {E : Nat → Option AV} {O : Nat → Option Obj1} {gl : GL} {o : Oper} {id : Nat} {tb : Nat → Option TI}

theorem Step.mk {v : AV} {e : Eff} (h : Step P gl E O o id (some v) e) : Step P gl E O o id (some v.mk) e := by
  intro c E' O' al nt a w σ hgl hs hid hag K Q hK
  refine h c E' O' al nt a w σ hgl hs hid hag K Q fun v' w' σ' hs' hx => hK v' w' σ' hs' fun y hy => ?_
  injection hy with hy
  subst hy
  exact AV.mk_rep (hx v rfl)

theorem idxA_sound (htb : TbOk P tb) {t : TypeId} {x y : Operand} {K : AV → Prop} (ho : o.op = .indexAddr t x y) (h : idxA tb O t (getE gl E x) (getE gl E y) K) : ∃ v, K v ∧ Step P gl E O o id (some v) .none := by
  unfold idxA at h
  split at h
  · rename_i i xs k n hi hx hy
    split at h
    · rename_i te sz hk
      obtain ⟨h0, e, he, hl, hK⟩ := h
      exact ⟨_, hK, st_indexAddr_slice (htb _ _ hi) hk ho hx hy h0 rfl he hl⟩
    · exact h.elim
  · rename_i i k k' n hi hx hy
    split at h
    · rename_i te sz fr te' sz' xs hk hO
      obtain ⟨rfl, h0, h1, hK⟩ := h
      exact ⟨_, hK, st_indexAddr_own (htb _ _ hi) hk ho hx hO hy h0 h1⟩
    · exact h.elim
  · rename_i i k off k' n hi hx hy
    split at h
    · rename_i len te sz hk
      obtain ⟨h0, h1, hK⟩ := h
      exact ⟨_, hK, st_indexAddr_arr (htb _ _ hi) hk ho hx hy h0 h1⟩
    · exact h.elim
  · rename_i i cs k' n hi hx hy
    split at h
    · rename_i len te sz hk
      obtain ⟨h0, h1, hK⟩ := h
      exact ⟨_, hK, st_indexAddr_arrd (htb _ _ hi) hk ho hx hy h0 h1⟩
    · exact h.elim
  · exact h.elim

theorem lenA_sound (htb : TbOk P tb) {t : TypeId} {ts : Array TypeId} {x : Operand} {K : Nat → Prop} (hts : ts = #[t]) (ho : o.op = .call { callee := .builtin .len, args := #[x], argTypes := ts }) (h : lenA tb O t (getE gl E x) K) : ∃ n, K n ∧ Step P gl E O o id (some (.d (.int .i64 n))) .none := by
  unfold lenA at h
  split at h
  · rename_i i xs hi hx
    split at h
    · rename_i te sz hk
      exact ⟨_, h, st_len (htb _ _ hi) hts ho hx (.inl ⟨te, sz, xs, hk, rfl, rfl⟩)⟩
    · exact h.elim
  · rename_i i hi hx
    split at h
    · rename_i te sz hk
      exact ⟨_, h, st_len (htb _ _ hi) hts ho hx (.inr (.inl ⟨te, sz, hk, rfl, rfl⟩))⟩
    · exact h.elim
  · rename_i i s hi hx
    split at h
    · rename_i hk
      exact ⟨_, h, st_len (htb _ _ hi) hts ho hx (.inr (.inr (.inl ⟨s, hk, rfl, rfl⟩)))⟩
    · exact h.elim
  · rename_i i k hi hx
    split at h
    · rename_i te sz fr te' sz' xs hk hO
      exact ⟨_, h, st_len (htb _ _ hi) hts ho hx (.inr (.inr (.inr ⟨te, sz, k, fr, te', sz', xs, hk, rfl, hO, rfl⟩)))⟩
    · exact h.elim
  · exact h.elim

theorem appA_sound (htb : TbOk P tb) {t t' : TypeId} {ts : Array TypeId} {s x : Operand} {K : AV → Eff → Prop} (hts : ts = #[t, t']) (ho : o.op = .call { callee := .builtin .append, args := #[s, x], argTypes := ts }) (h : appA tb O id t t' (getE gl E s) (getE gl E x) K) : ∃ v e, K v e ∧ Step P gl E O o id (some v) e := by
  unfold appA at h
  split at h
  · rename_i kn n hx
    split at h
    · rename_i i i' hi hi' hs
      split at h
      · rename_i te sz kk hk hk'
        split at h
        · rename_i ie hie
          obtain ⟨h1, h2, h3, h4, h5, h6, hK⟩ := h
          exact ⟨_, _, hK, st_append_zeros (htb _ _ hi) hk (htb _ _ hi') hk' (htb _ _ hie) h1 h2 h3 hts ho hs hx h4 h5 h6⟩
        · exact h.elim
      · exact h.elim
    · exact h.elim
  split at h
  · rename_i i sv y hi hs hx
    split at h
    · rename_i te sz hk
      split at h
      · rename_i ie ys hie hys
        obtain ⟨rfl, h1, h2, h3, h⟩ := h
        split at h
        · rename_i k
          split at h
          · rename_i fr te' sz' xs hO
            obtain ⟨rfl, rfl, h4, h5, hK⟩ := h
            exact ⟨_, _, hK, st_append (htb _ _ hi) hk (htb _ _ hie) h1 hts ho hs hO hx (srcA_spec hys) h3 h4 (by simp only [maxLen]; omega)⟩
          · exact h.elim
        · obtain ⟨h4, h5, hK⟩ := h
          exact ⟨_, _, hK, st_append_nil (htb _ _ hi) hk (htb _ _ hie) h1 h2 hts ho hs hx (srcA_spec hys) h3 h4 (by simp only [maxLen]; omega)⟩
        · exact h.elim
      · exact h.elim
    · exact h.elim
  · exact h.elim

theorem array_of_list {α : Type} {a : Array α} {l : List α} (h : a.toList = l) : a = l.toArray := by rw [← h]

theorem callA_sound (htb : TbOk P tb) {cl : Call} {K : AV → Eff → Prop} (ho : o.op = .call cl) (h : callA P gl tb (getE gl E) O id cl K) : ∃ v e, K v e ∧ Step P gl E O o id (some v) e := by
  obtain ⟨callee, args, ts⟩ := cl
  unfold callA at h
  simp only at h
  split at h
  · rename_i x
    split at h
    · rename_i f fs cs ds ks hx hd
      rcases h with ⟨res, hc, hK⟩ | ⟨te, sz, xs, hc, hK⟩ | ⟨ds', res, hd', hc, hK⟩ | ⟨ds', te, sz, xs, hd', hc, hK⟩ | ⟨te, sz, xs, hc, hK⟩ | ⟨E1, hE, v, e, hK, hst⟩
      · exact ⟨_, _, hK, st_call ho hx hd hc⟩
      · exact ⟨_, _, hK, st_callRP ho hx hd hc⟩
      · exact ⟨_, _, hK, st_callN ho hx hd' hc⟩
      · exact ⟨_, _, hK, st_callNR ho hx hd' hc⟩
      · exact ⟨_, _, hK, st_callW ho hx hd hc⟩
      · exact ⟨_, _, hK, (hst o ho).agree (fun x _ => by rw [hE]) fun _ _ _ _ _ _ => rfl⟩
    · exact h.elim
  · split at h
    · rename_i x t ha ht
      have e1 := array_of_list ha
      have e2 := array_of_list ht
      subst e1
      split at h
      · rename_i i hi hx
        split at h
        · rename_i te sz hk
          exact ⟨_, _, h, st_cap_nil (htb _ _ hi) hk e2 ho hx⟩
        · exact h.elim
      · exact h.elim
    · exact h.elim
  · split at h
    · rename_i x t ha ht
      have e1 := array_of_list ha
      have e2 := array_of_list ht
      subst e1
      obtain ⟨n, hK, hst⟩ := lenA_sound htb e2 ho h
      exact ⟨_, _, hK, hst⟩
    · exact h.elim
  · split at h
    · rename_i x y ha
      have e1 := array_of_list ha
      subst e1
      split at h
      · rename_i k m k' n hx hy
        exact ⟨_, _, h, st_min ho hx hy⟩
      · exact h.elim
    · exact h.elim
  · split at h
    · rename_i x y ha
      have e1 := array_of_list ha
      subst e1
      split at h
      · rename_i k m k' n hx hy
        exact ⟨_, _, h, st_max ho hx hy⟩
      · exact h.elim
    · exact h.elim
  · split at h
    · rename_i s x t t' ha ht
      have e1 := array_of_list ha
      have e2 := array_of_list ht
      subst e1
      exact appA_sound htb e2 ho h
    · exact h.elim
  · exact h.elim
end
end Go.Proofs.Ytpibdbjlilpfiaa
/- One operation as a whole: sound. -/
namespace Go.Proofs.Ytpibdbjlilpfiaa
set_option linter.all false
open Go Go.RowKit

section
variable {P : Program} {E : Nat → Option AV} {O : Nat → Option Obj1} {gl : GL} {o : Oper} {id : Nat} {tb : Nat → Option TI}

theorem opA_sound (htb : TbOk P tb) {K : Option AV → Eff → Prop} (h : opA P gl tb E O id o.op K) : ∃ v e, K v e ∧ Step P gl E O o id v e := by
  generalize ho : o.op = op at h
  cases op
  case unOp u t x =>
    cases u <;> simp only [opA] at h
    case not =>
      split at h
      · rename_i b hx; exact ⟨_, _, h, st_not ho hx⟩
      · exact h.elim
    case neg =>
      split at h
      · rename_i k n hx; exact ⟨_, _, h, st_neg ho hx⟩
      · exact h.elim
  case makeMap t r =>
    cases r <;> simp only [opA] at h
    exact ⟨_, _, h, st_makeMap ho⟩
  case next x b =>
    cases b <;> simp only [opA] at h
    split at h
    · rename_i k hx
      split at h
      · rename_i s pos hO
        by_cases hp : pos < s.size
        · exact ⟨_, _, h.1 hp, st_next ho hx hO hp⟩
        · exact ⟨_, _, h.2 hp, st_next_end ho hx hO hp⟩
      · exact h.elim
    · exact h.elim
  case mapUpdate t m k x =>
    simp only [opA] at h
    split at h
    · exact ⟨_, _, h.1, h.2 o ho⟩
    · exact h.elim
  case lookup t m k b =>
    cases b <;> simp only [opA] at h
    split at h
    · obtain ⟨v, h1, h2⟩ := h
      exact ⟨_, _, h1, h2 o ho⟩
    split at h
    · rename_i a et kk q kk' n hm hx hy
      split at h
      · rename_i es ie hO hie
        obtain ⟨rfl, h⟩ := h
        split at h
        · rename_i r hr; exact ⟨_, _, h, st_lookup (kk' := kk') hm (htb _ _ hie) ho hx hO hy hr⟩
        · exact h.elim
      · exact h.elim
    · exact h.elim
  case typeAssert x s u b =>
    cases b <;> simp only [opA] at h
    split at h
    · rename_i i y hi hx
      obtain ⟨h1, h⟩ := h
      split at h
      · rename_i r hr; exact ⟨_, _, h, st_typeAssert (htb _ _ hi) h1 ho hx hr⟩
      · exact h.elim
    · exact h.elim
  case slice t x lo hi mx =>
    cases mx with
    | some m => simp only [opA] at h
    | none =>
      simp only [opA] at h
      split at h
      · rename_i i xs hi' hx
        split at h
        · rename_i te sz hk
          obtain ⟨h1, h⟩ := h
          obtain ⟨l, r, hb, hK⟩ := cutB_spec h
          exact ⟨_, _, hK, st_cut (htb _ _ hi') hk ho hx h1 hb⟩
        · exact h.elim
      · rename_i i hi' hx
        split at h
        · rename_i te sz hk
          obtain ⟨l, r, hb, hK⟩ := cutB_spec h
          exact ⟨_, _, hK, st_cut_nil (htb _ _ hi') hk ho hx hb⟩
        · exact h.elim
      · rename_i i s hi' hx
        split at h
        · rename_i hk
          obtain ⟨l, r, hb, hK⟩ := cutB_spec h
          exact ⟨_, _, hK, st_cut_str (htb _ _ hi') hk ho hx hb⟩
        · exact h.elim
      · rename_i i k hi' hx
        split at h
        · rename_i te sz fr te' sz' xs hk hO
          obtain ⟨rfl, h⟩ := h
          obtain ⟨l, r, hb, hK⟩ := cutB_spec h
          exact ⟨_, _, hK, st_cut_own (htb _ _ hi') hk ho hx hO hb⟩
        · exact h.elim
      · exact h.elim
  all_goals simp only [opA] at h
  case move x =>
    split at h
    · rename_i v hx; exact ⟨_, _, h, st_move ho hx⟩
    · exact h.elim
  case assign x =>
    split at h
    · rename_i v hx; exact ⟨_, _, h, st_assign ho hx⟩
    · exact h.elim
  case pick cd x y =>
    split at h
    · rename_i b hc
      split at h
      · rename_i hb
        subst hb
        split at h
        · rename_i v hx; exact ⟨_, _, h, st_pick ho hc hx⟩
        · exact h.elim
      · rename_i hb
        have hb' : b = false := by simpa using hb
        subst hb'
        split at h
        · rename_i v hx; exact ⟨_, _, h, st_pick ho hc hx⟩
        · exact h.elim
    · exact h.elim
  case alloc t =>
    split at h
    · rename_i i hi; exact ⟨_, _, h.2, st_alloc (htb _ _ hi) ho h.1⟩
    · exact h.elim
  case box t x =>
    split at h
    · rename_i y hx; exact ⟨_, _, h.2.2, st_box ho hx h.1 (ownOk_spec h.2.1)⟩
    · exact h.elim
  case build t ps =>
    split at h
    · rename_i i ys hi hy
      obtain ⟨h1, h⟩ := h
      split at h
      · rename_i fs zs hk hz
        split at h
        · rename_i out hf; exact ⟨_, _, h, st_build (htb _ _ hi) hk hz ho hy (ownsOk_spec h1) hf⟩
        · exact h.elim
      · rename_i n te sz zs hk hz
        split at h
        · rename_i out hf; exact ⟨_, _, h, st_build_arr (htb _ _ hi) hk hz ho hy (ownsOk_spec h1) hf⟩
        · exact h.elim
      · exact h.elim
    · exact h.elim
  case buildSlice t len ps =>
    split at h
    · rename_i i ys hi hy
      split at h
      · rename_i te sz zs ks hk hp
        split at h
        · rename_i ie xs hie hf
          obtain ⟨h2, h3, h4, h5, hK⟩ := h
          exact ⟨_, _, hK, st_buildSliceP (htb _ _ hi) hk (htb _ _ hie) h2 h3 ho hy hp hf h4 h5⟩
        · exact h.elim
      · exact h.elim
    · exact h.elim
  case load t x =>
    split at h
    · rename_i i cs hi hx
      split at h
      · rename_i y hy; exact ⟨_, _, h, st_load_addr (htb _ _ hi) ho hx hy⟩
      · exact h.elim
    · rename_i i k off hi hx
      split at h
      · rename_i fr cs hO
        split at h
        · rename_i y hy; exact ⟨_, _, h, (st_load_ref (htb _ _ hi) ho hx hO hy).mk⟩
        · exact h.elim
      · exact h.elim
    · rename_i i k sz j off hi hx
      split at h
      · rename_i fr te sz' xs hO
        obtain ⟨rfl, e, he, h⟩ := h
        split at h
        · rename_i y hy; exact ⟨_, _, h, st_load_elt (htb _ _ hi) ho hx hO he hy⟩
        · exact h.elim
      · exact h.elim
    · exact h.elim
  case store t x v =>
    split at h
    · rename_i i k off y hi hx hv
      split at h
      · rename_i fr cs hO
        obtain ⟨h1, h2, h3, h4, hK⟩ := h
        exact ⟨_, _, hK, st_store_ref (htb _ _ hi) ho hx hO hv h1 (ownOk_spec h2) h3 h4⟩
      · exact h.elim
    · rename_i i k sz j off y hi hx hv
      split at h
      · rename_i fr te sz' xs ds hO hds
        obtain ⟨rfl, h1, h2, h3, e, he, hK⟩ := h
        exact ⟨_, _, hK, st_store_elt (htb _ _ hi) ho hx hO hv h1 hds h2 he h3⟩
      · exact h.elim
    · exact h.elim
  case nilCheck x =>
    split at h
    · rename_i k off hx; exact ⟨_, _, h, st_nilCheck ho hx (.inl ⟨_, _, rfl⟩)⟩
    · rename_i k sz j q hx; exact ⟨_, _, h, st_nilCheck ho hx (.inr (.inl ⟨_, _, _, _, rfl⟩))⟩
    · rename_i cs hx; exact ⟨_, _, h, st_nilCheck ho hx (.inr (.inr ⟨_, rfl⟩))⟩
    · rename_i f fs cs hx; exact ⟨_, _, h, st_nilCheck_fn ho hx⟩
    · exact h.elim
  case binOp op t x y ty =>
    obtain ⟨v, hK, hst⟩ := binA_sound htb ho h
    exact ⟨_, _, hK, hst⟩
  case convert s t x =>
    split at h
    · rename_i i j k n hi hj hx
      split at h
      · rename_i k1 k2 h1 h2; exact ⟨_, _, h, st_conv_int (htb _ _ hj) h2 (htb _ _ hi) ⟨_, h1⟩ ho hx⟩
      · exact h.elim
    · rename_i i j b hi hj hx
      split at h
      · rename_i te sz h1 h2
        obtain ⟨rfl, h3, hK⟩ := h
        exact ⟨_, _, hK, st_bytes (htb _ _ hj) h2 h3 (htb _ _ hi) h1 ho hx⟩
      · exact h.elim
    · rename_i i j xs hi hj hx
      split at h
      · rename_i te sz h1 h2
        obtain ⟨rfl, h3, l, rfl, hK⟩ := h
        exact ⟨_, _, hK, st_strof (htb _ _ hj) h2 (htb _ _ hi) h1 h3 ho hx⟩
      · exact h.elim
    · rename_i i j k hi hj hx
      split at h
      · rename_i te sz te2 sz2 te' sz' xs h1 h2 hO
        obtain ⟨rfl, rfl, rfl, rfl, h3, h4, hK⟩ := h
        rw [hi] at hj
        injection hj with hj
        subst hj
        exact ⟨_, _, hK, st_mark (htb _ _ hi) h1 h3 ho hx hO h4⟩
      · exact h.elim
    · exact h.elim
  case makeSlice t x y =>
    split at h
    · rename_i i k n k' n' hi hx hy
      split at h
      · rename_i te sz hk
        split at h
        · rename_i ie hie
          obtain ⟨rfl, h1, h2, h3, h4, h5, h6, hK⟩ := h
          exact ⟨_, _, hK, st_makeSlice (htb _ _ hi) hk (htb _ _ hie) h1 h2 h3 ho hx hy h4 h5 h6⟩
        · exact h.elim
      · exact h.elim
    · exact h.elim
  case fieldAddr s x n =>
    split at h
    · rename_i i y hi hx
      split at h
      · rename_i fs hk
        split at h
        · rename_i f hf
          split at h
          · exact ⟨_, _, h, st_fieldAddr_ref (htb _ _ hi) hk hf ho hx⟩
          · exact ⟨_, _, h, st_fieldAddr_elt (htb _ _ hi) hk hf ho hx⟩
          · exact ⟨_, _, h, st_fieldAddr_addr (htb _ _ hi) hk hf ho hx⟩
          · exact h.elim
        · exact h.elim
      · exact h.elim
    · exact h.elim
  case field s x n =>
    split at h
    · rename_i i y hi hx
      split at h
      · rename_i fs hk
        split at h
        · rename_i f hf
          split at h
          · rename_i fi hfi
            obtain ⟨h1, h⟩ := h
            split at h
            · rename_i z hz
              refine ⟨_, _, h, (st_field (htb _ _ hi) hk hf (htb _ _ hfi) ho hx ?_ hz).mk⟩
              split at h1
              · exact .inl ⟨_, rfl⟩
              · exact .inr ⟨_, rfl⟩
              · exact h1.elim
            · exact h.elim
          · exact h.elim
        · exact h.elim
      · exact h.elim
    · exact h.elim
  case indexAddr t x y =>
    obtain ⟨v, hK, hst⟩ := idxA_sound htb ho h
    exact ⟨_, _, hK, hst⟩
  case index t x y =>
    split at h
    · rename_i i s k n hi hx hy
      split at h
      · rename_i hk
        obtain ⟨h0, h1, hK⟩ := h
        exact ⟨_, _, hK, st_index_str (htb _ _ hi) hk ho hx hy h0 h1⟩
      · exact h.elim
    · exact h.elim
  case extract x n =>
    split at h
    · rename_i cs hx
      split at h
      · rename_i y hy; exact ⟨_, _, h, st_extract_d ho hx hy⟩
      · exact h.elim
    · rename_i cs hx
      split at h
      · rename_i y hy; exact ⟨_, _, h, st_extract_a ho hx hy⟩
      · exact h.elim
    · exact h.elim
  case makeFunc fn fs cs =>
    split at h
    · rename_i f ds es h1 h2; exact ⟨_, _, h, st_makeFunc ho h1 h2⟩
    · exact h.elim
  case range t x =>
    split at h
    · rename_i i s hi hx
      split at h
      · rename_i hk; exact ⟨_, _, h, st_range (htb _ _ hi) hk ho hx⟩
      · exact h.elim
    · exact h.elim
  case insert t m k x =>
    split at h
    · rename_i a et kk q kk' n d hm hx hy hz
      split at h
      · rename_i es hO
        obtain ⟨rfl, hr, hK⟩ := h
        exact ⟨_, _, hK, st_mapSet hm (.inl ho) hx hO hy hz hr⟩
      · exact h.elim
    · exact h.elim
  case makeInterface t x =>
    split at h
    · rename_i i y hi hx; exact ⟨_, _, h.2, st_makeInterface (htb _ _ hi) h.1 ho hx⟩
    · exact h.elim
  case call c =>
    obtain ⟨v, e, hK, hst⟩ := callA_sound htb ho h
    exact ⟨_, _, hK, hst⟩
end
end Go.Proofs.Ytpibdbjlilpfiaa
/- One operation, calls of methods and panics among them. -/
namespace Go.Proofs.Ytpibdbjlilpfiaa
set_option linter.all false
open Go Go.RowKit

def firstA (g : Operand → Option AV) : List Operand → Option AV
  | [] => none
  | x :: _ => g x
def callB (P : Program) (gl : GL) (g : Operand → Option AV) (O : Nat → Option Obj1) (id : Nat) (f : Nat) (as : List Operand) (KP : D → Prop) (K : Option AV → Eff → Prop) : Prop :=
  gl.memo = none ∧ ∃ y r k j fr fr1 ds cells te sz xs res, as = y :: r ∧ g y = some (.ref k 0) ∧ getAR g r = some ds ∧ O k = some (.box fr (toAV j cells)) ∧ O j = some (.row fr1 te sz xs) ∧ PConB P gl f ds cells te sz xs res ∧
    (match res with
      | .ret q cells' xs' => K (some (.d q)) (.pass [k, j] [(k, .box fr (toAV id cells')), (id, .row fr1 te sz xs')])
      | .panic z => KP z)
def callX (P : Program) (gl : GL) (tb : Nat → Option TI) (E : Nat → Option AV) (O : Nat → Option Obj1) (id : Nat) (KP : D → Prop) (c : Call) (K : Option AV → Eff → Prop) : Prop :=
  match c.callee with
  | .value x => (match firstA (getE gl E) c.args.toList with
    | some (.ref _ _) => (match getE gl E x with
      | some (.d (.fn f [] [])) => callB P gl (getE gl E) O id f c.args.toList KP K
      | _ => False)
    | _ => opA P gl tb E O id (.call c) K)
  | _ => opA P gl tb E O id (.call c) K
def opX (P : Program) (gl : GL) (tb : Nat → Option TI) (E : Nat → Option AV) (O : Nat → Option Obj1) (id : Nat) (KP : D → Prop) (op : Op) (K : Option AV → Eff → Prop) : Prop :=
  match op with
  | .panic x => (match getE gl E x with
    | some (.d (.iface t y)) => KP (.iface t y)
    | _ => False)
  | .call c => callX P gl tb E O id KP c K
  | op => opA P gl tb E O id op K

section
variable {P : Program} {E : Nat → Option AV} {O : Nat → Option Obj1} {gl : GL} {o : Oper} {id : Nat} {tb : Nat → Option TI} {KP : D → Prop} {K : Option AV → Eff → Prop}
theorem opA_one (htb : TbOk P tb) (h : opA P gl tb E O id o.op K) : (∃ v e, K v e ∧ Step1 P gl E O o id v e) ∨ ∃ x, KP x ∧ StepX P gl E O o x := by
  obtain ⟨v, e, hK, hst⟩ := opA_sound htb h
  exact .inl ⟨v, e, hK, hst.one⟩
theorem opX_sound (htb : TbOk P tb) (h : opX P gl tb E O id KP o.op K) : (∃ v e, K v e ∧ Step1 P gl E O o id v e) ∨ ∃ x, KP x ∧ StepX P gl E O o x := by
  cases ho : o.op
  case panic x =>
    rw [ho] at h
    simp only [opX] at h
    split at h
    · rename_i t y hx; exact .inr ⟨_, h, st_panic ho hx⟩
    · exact h.elim
  case call c =>
    rw [ho] at h
    simp only [opX] at h
    unfold callX at h
    split at h
    · rename_i x hcx
      split at h
      · split at h
        · rename_i f hx
          obtain ⟨hM, y, r, k, j, fr, fr1, ds, cells, te, sz, xs, res, ha, hy, hd, hO, hj, hc, hK⟩ := h
          have ho' : o.op = .call { callee := .value x, args := c.args, argTypes := c.argTypes } := by rw [ho, ← hcx]
          cases res with
          | ret q cells' xs' => exact .inl ⟨_, _, hK, st_callB ho' hx ha hy hd hO hj hc hM⟩
          | panic z => exact .inr ⟨_, hK, st_callBX ho' hx ha hy hd hO hj hc hM⟩
        · exact h.elim
      · exact opA_one htb (ho ▸ h)
    · exact opA_one htb (ho ▸ h)
  all_goals
    rw [ho] at h
    simp only [opX] at h
    exact opA_one htb (ho ▸ h)
end
end Go.Proofs.Ytpibdbjlilpfiaa
/- Regions and code over abstract states. -/
namespace Go.Proofs.Ytpibdbjlilpfiaa
set_option linter.all false
open Go Go.RowKit

structure St where
  env : List (Nat × AV)
  own : List (Nat × Obj1)
  nxt : Nat

def delL {α : Type} : List (Nat × α) → Nat → List (Nat × α)
  | [], _ => []
  | (k, x) :: r, t => if k = t then delL r t else (k, x) :: delL r t
def delsL {α : Type} (l : List (Nat × α)) : List Nat → List (Nat × α)
  | [] => l
  | k :: ks => delsL (delL l k) ks
def setL {α : Type} : List (Nat × α) → Nat → α → List (Nat × α)
  | [], t, v => [(t, v)]
  | (k, x) :: r, t, v => if k = t then (k, v) :: r else (k, x) :: setL r t v

theorem look_cons {α : Type} (l : List (Nat × α)) (t : Nat) (v : α) : look ((t, v) :: l) = upd1 (look l) t (some v) := by
  funext j
  simp only [look, upd1]
  by_cases h : t = j
  · simp [h]
  · simp [h, Ne.symm h]
theorem look_del {α : Type} (l : List (Nat × α)) (t : Nat) : look (delL l t) = upd1 (look l) t none := by
  funext j
  induction l with
  | nil => simp [delL, look, upd1]
  | cons p r ih =>
    obtain ⟨k, x⟩ := p
    simp only [delL]
    by_cases hk : k = t
    · rw [if_pos hk, ih]
      subst hk
      simp only [upd1, look]
      by_cases hj : j = k
      · simp [hj]
      · simp [hj, Ne.symm hj]
    · rw [if_neg hk]
      simp only [look, ih, upd1]
      by_cases hj : j = t
      · subst hj; simp [hk]
      · simp [hj]
theorem look_dels {α : Type} : ∀ (ks : List Nat) (l : List (Nat × α)), look (delsL l ks) = fun j => if j ∈ ks then none else look l j
  | [], l => by funext j; simp [delsL]
  | k :: ks, l => by
    funext j
    simp only [delsL, look_dels ks, look_del, upd1, List.mem_cons]
    by_cases h1 : j ∈ ks <;> by_cases h2 : j = k <;> simp [h1, h2]
theorem look_app {α : Type} (t : Nat) : ∀ (l r : List (Nat × α)), look (l ++ r) t = match look l t with
    | some x => some x
    | none => look r t
  | [], r => rfl
  | (k, x) :: l, r => by
    simp only [List.cons_append, look]
    split
    · rfl
    · exact look_app t l r
theorem look_set {α : Type} (l : List (Nat × α)) (t : Nat) (v : α) : look (setL l t v) = upd1 (look l) t (some v) := by
  funext j
  induction l with
  | nil => simp only [setL, look, upd1]; by_cases h : t = j <;> simp [h]; intro h2; exact absurd h2.symm h
  | cons p r ih =>
    obtain ⟨k, x⟩ := p
    simp only [setL]
    by_cases hk : k = t
    · rw [if_pos hk]
      subst hk
      simp only [upd1, look]
      by_cases hj : k = j
      · simp [hj]
      · simp [hj, Ne.symm hj]
    · rw [if_neg hk]
      simp only [look, ih, upd1]
      by_cases hj : j = t
      · subst hj; simp [hk]
      · simp [hj]

def St.app (s : St) (dst : Option Tmp) (v : Option AV) (e : Eff) : St :=
  ⟨match dst with
    | some d => (match v with
      | some x => (d, x) :: s.env
      | none => delL s.env d)
    | none => s.env,
   match e with
    | .none => s.own
    | .new o => (s.nxt, o) :: s.own
    | .turn k o => setL s.own k o
    | .swap k o => (s.nxt, o) :: delL s.own k
    | .drop ks => delsL s.own ks
    | .pass ks os => os ++ delsL s.own ks,
   s.nxt + 1⟩
/-- What stands in a slot whose operation was passed over. -/
abbrev und : AV := .d (.tup [])
theorem rep_und {al : Nat → Prop} {w : World} {ok : Nat → Prop} {σ : Nat → Value} : RepS al w ok σ und undef := fun _ _ => .d _ _ (.tup [] [] rfl (fun i c v h _ => by simp at h))
def St.skip (s : St) (dst : Option Tmp) : St := ⟨match dst with
    | some d => (d, und) :: s.env
    | none => s.env, s.own, s.nxt + 1⟩

def SR (c : Ctx) (nt : Nat) (s : St) (a : Act) (w : World) (σ : Nat → Value) : Prop := SRep c (look s.env) (look s.own) (fun k => k < s.nxt) nt a w σ

def dstOk (nt : Nat) (o : Oper) : Bool := match o.dst with
  | some d => decide (d < nt)
  | none => true

def guardA (E : Nat → Option AV) (all : List Oper) (g : Option (Nat × Bool)) (yes no : Prop) : Prop := match g with
  | none => yes
  | some (j, b) => match all[j]? with
    | some oj => match oj.dst with
      | some t => match E t with
        | some (.d (.bool c)) => if c = b then yes else no
        | some (.d (.tup [])) => no
        | _ => False
      | none => False
    | none => False

def AE (P : Program) (gl : GL) (tb : Nat → Option TI) (all : List Oper) (KP : D → St → Prop) (K : St → Prop) : List Oper → St → Prop
  | [], s => K s
  | o :: rest, s => guardA (look s.env) all o.guard (opX P gl tb (look s.env) (look s.own) s.nxt (fun x => KP x s) o.op fun v e => AE P gl tb all KP K rest (s.app o.dst v e)) (AE P gl tb all KP K rest (s.skip o.dst))

section
variable {P : Program} {gl : GL} {tb : Nat → Option TI} {nt : Nat} {c : Ctx} {s : St} {a : Act} {w : World} {σ : Nat → Value}

theorem eff_own (s : St) (dst : Option Tmp) (v : Option AV) (e : Eff) : look (s.app dst v e).own = e.app s.nxt (look s.own) := by
  cases e with
  | none => rfl
  | new o => exact look_cons _ _ _
  | turn k o => exact look_set _ _ _
  | swap k o =>
    show look ((s.nxt, o) :: delL s.own k) = _
    rw [look_cons, look_del]
    rfl
  | drop ks => exact look_dels _ _
  | pass ks os =>
    funext j
    show look (os ++ delsL s.own ks) j = _
    rw [look_app, look_dels]
    simp only [Eff.app]
    cases look os j <;> rfl

theorem al_lt {n : Nat} : (fun k => k < n ∨ k = n) = fun k : Nat => k < n + 1 := by
  funext k
  exact propext ⟨fun h => by omega, fun h => by omega⟩

/-- Behind a step. -/
theorem SR.app {o : Oper} {v : Option AV} {e : Eff} {w' : World} {σ' : Nat → Value} {v' : Value} (hd : dstOk nt o = true) (h : SRep c (look s.env) (e.app s.nxt (look s.own)) (fun k => k < s.nxt ∨ k = s.nxt) nt a w' σ')
    (hx : ∀ x, v = some x → RepS (fun k => k < s.nxt ∨ k = s.nxt) w' (okk c (e.app s.nxt (look s.own)) σ' w') σ' x v') : SR c nt (s.app o.dst v e) (a.put o.dst v') w' σ' := by
  unfold SR
  rw [eff_own]
  rw [al_lt] at h hx
  show SRep c (look (s.app o.dst v e).env) _ (fun k => k < s.nxt + 1) nt _ _ _
  cases hdst : o.dst with
  | none =>
    simp only [St.app, Act.put]
    exact h
  | some d =>
    simp only [dstOk, hdst, decide_eq_true_eq] at hd
    cases v with
    | some x =>
      show SRep c (look ((d, x) :: s.env)) _ _ _ _ _ _
      rw [look_cons]
      exact h.put hd (hx x rfl)
    | none =>
      show SRep c (look (delL s.env d)) _ _ _ _ _ _
      rw [look_del]
      exact h.wipe

theorem SR.skip {o : Oper} (hd : dstOk nt o = true) (h : SR c nt s a w σ) : SR c nt (s.skip o.dst) (a.put o.dst undef) w σ := by
  have h' := SRep.al_ext (al' := fun k => k < s.nxt + 1) h (fun k (hk : k < s.nxt) => by omega)
  unfold SR
  show SRep c (look (s.skip o.dst).env) (look s.own) (fun k => k < s.nxt + 1) nt _ _ _
  cases hdst : o.dst with
  | none => exact h'
  | some d =>
    simp only [dstOk, hdst, decide_eq_true_eq] at hd
    show SRep c (look ((d, und) :: s.env)) _ _ _ _ _ _
    rw [look_cons]
    exact h'.put hd rep_und

theorem yielded_none {ops : Array Oper} {tmps : Array Value} {j t : Nat} {oj : Oper} (hj : ops.toList[j]? = some oj) (ht : oj.dst = some t) (hv : tmps.getD t undef = undef) : yielded ops tmps j = none := by
  have h1 : ops[j]? = some oj := by simpa using hj
  unfold yielded
  rw [h1]
  simp only [Option.bind_some, ht]
  rw [Array.getD_eq_getD_getElem?] at hv
  cases hh : tmps[t]? with
  | none => rfl
  | some u => rw [hh] at hv; simp at hv; rw [hv]; rfl
theorem rep_und' {al : Nat → Prop} {w : World} {ok : Nat → Prop} {σ : Nat → Value} {v : Value} (h : RepS al w ok σ und v) : v = undef := by
  have h1 := h.toA.d_inv
  cases h1 with
  | tup cs vs hl h =>
    have : vs = [] := List.eq_nil_of_length_eq_zero hl
    subst this
    rfl
theorem yielded_of {ops : Array Oper} {tmps : Array Value} {j t : Nat} {oj : Oper} {b : Bool} (hj : ops.toList[j]? = some oj) (ht : oj.dst = some t) (hv : tmps.getD t undef = .bool b) : yielded ops tmps j = some b := by
  have h1 : ops[j]? = some oj := by simpa using hj
  unfold yielded
  rw [h1]
  simp only [Option.bind_some, ht]
  have h2 : tmps[t]? = some (.bool b) := by
    rw [Array.getD_eq_getD_getElem?] at hv
    cases hh : tmps[t]? with
    | none => rw [hh] at hv; simp [undef] at hv
    | some u => rw [hh] at hv; simp at hv; rw [hv]
  rw [h2]

theorem AE_sound (htb : TbOk P tb) {ops : Array Oper} {KP : D → St → Prop} {K : St → Prop} {Q : Exit → Act → World → Prop} (hgl : c.gl = gl) (hK : ∀ s' a' w' σ', K s' → SR c nt s' a' w' σ' → Q .normal a' w')
    (hKP : ∀ x s v' a' w' σ', KP x s → SRep c (look s.env) (fun _ => none) (fun k => k < s.nxt) nt a' w' σ' → Rep w' (okk c (fun _ => none) σ' w') x v' → Q (.panic [{ v := v', recovered := false }]) a' w') :
    ∀ (l : List Oper) (s : St) (a : Act) (w : World) (σ : Nat → Value), AE P gl tb ops.toList KP K l s → (l.all (dstOk nt)) = true → SR c nt s a w σ → wpList P ops Q l a w
  | [], s, a, w, σ, h, _, hs => hK s a w σ h hs
  | o :: rest, s, a, w, σ, h, hd, hs => by
    simp only [List.all_cons, Bool.and_eq_true] at hd
    have hop : (opX P gl tb (look s.env) (look s.own) s.nxt (fun x => KP x s) o.op fun v e => AE P gl tb ops.toList KP K rest (s.app o.dst v e)) → ∀ K', (∀ a' w', wpList P ops Q rest a' w' → K' a' w') → o.wp P a w K' Q := fun hop K' hK' => by
      rcases opX_sound htb hop with ⟨v, e, hAE, hst⟩ | ⟨x, hx, hst⟩
      · refine hst c (fun k => k < s.nxt) nt a w σ hgl hs (by omega) K' Q fun v' w' σ' hs' hx => hK' _ _ ?_
        exact AE_sound htb hgl hK hKP rest _ _ _ σ' hAE hd.2 (SR.app hd.1 hs' hx)
      · exact hst c (fun k => k < s.nxt) nt a w σ hgl hs K' Q fun v' w' hs' hr => hKP x s v' a w' σ hx hs' hr
    simp only [AE] at h
    unfold guardA at h
    cases hg : o.guard with
    | none =>
      rw [hg] at h
      simp only at h
      unfold wpList
      rw [if_pos (by simp [Region.wanted, hg])]
      exact .inl (hop h _ fun _ _ hh => hh)
    | some jb =>
      obtain ⟨j, b⟩ := jb
      rw [hg] at h
      simp only at h
      split at h
      · rename_i oj hj
        split at h
        · rename_i t ht
          split at h
          · rename_i cb hcb
            have hv := rep_bool (hs.env t _ hcb)
            have hy := yielded_of hj ht hv
            split at h
            · rename_i hcb'
              unfold wpList
              rw [if_pos (by simp [Region.wanted, hg, hy, hcb'])]
              exact .inl (hop h _ fun _ _ hh => hh)
            · rename_i hcb'
              unfold wpList
              rw [if_neg (by simp [Region.wanted, hg, hy, hcb'])]
              exact AE_sound htb hgl hK hKP rest _ _ _ σ h hd.2 (hs.skip hd.1)
          · rename_i hcb
            have hy := yielded_none hj ht (rep_und' (hs.env t _ hcb))
            unfold wpList
            rw [if_neg (by simp [Region.wanted, hg, hy])]
            exact AE_sound htb hgl hK hKP rest _ _ _ σ h hd.2 (hs.skip hd.1)
          · exact h.elim
        · exact h.elim
      · exact h.elim
end

/-! ### Code -/
inductive AExit where
  | normal | exit (id : Nat) | goto (l : Nat) | ret | panic (x : D)

inductive ExR (w : World) (ok : Nat → Prop) : AExit → Exit → Prop
  | normal : ExR w ok .normal .normal
  | exit (id : Nat) : ExR w ok (.exit id) (.exit id)
  | goto (l : Nat) : ExR w ok (.goto l) (.goto l)
  | ret : ExR w ok .ret .ret
  | panic (x : D) (v : Value) (h : Rep w ok x v) : ExR w ok (.panic x) (.panic [{ v := v, recovered := false }])

def APost (c : Ctx) (nt : Nat) (Q : AExit → St → Prop) (e : Exit) (a : Act) (w : World) : Prop := ∃ ae s σ, Q ae s ∧ SR c nt s a w σ ∧ ExR w (okk c (look s.own) σ w) ae e

/-- Nothing that is another's is written. -/
structure Ctx.plain (c : Ctx) : Prop where
  al0 : ∀ k, ¬ c.al0 k

def AW (P : Program) (gl : GL) (nt : Nat) (code : Code) (Q : AExit → St → Prop) (s : St) : Prop := ∀ (c : Ctx) (a : Act) (w : World) (σ : Nat → Value), c.gl = gl → c.plain → SR c nt s a w σ → code.wp P (APost c nt Q) a w

section
variable {P : Program} {gl : GL} {tb : Nat → Option TI} {nt : Nat} {Q : AExit → St → Prop} {s : St}

theorem AW.mono {code : Code} {Q' : AExit → St → Prop} (h : AW P gl nt code Q s) (hq : ∀ e s, Q e s → Q' e s) : AW P gl nt code Q' s := fun c a w σ hgl hp hs =>
  wp_mono (h c a w σ hgl hp hs) fun _ _ _ ⟨ae, s', σ', h1, h2, h3⟩ => ⟨ae, s', σ', hq _ _ h1, h2, h3⟩

theorem AW.skip (h : Q .normal s) : AW P gl nt .skip Q s := fun _ _ _ σ _ _ hs => wp_skip ⟨.normal, s, σ, h, hs, .normal⟩
theorem AW.label {l : Nat} (h : Q .normal s) : AW P gl nt (.label l) Q s := fun _ _ _ σ _ _ hs => wp_label ⟨.normal, s, σ, h, hs, .normal⟩
theorem AW.exit {id : Nat} (h : Q (.exit id) s) : AW P gl nt (.exit id) Q s := fun _ _ _ σ _ _ hs => wp_exit ⟨.exit id, s, σ, h, hs, .exit id⟩
theorem AW.goto {l : Nat} (h : Q (.goto l) s) : AW P gl nt (.goto l) Q s := fun _ _ _ σ _ _ hs => wp_goto ⟨.goto l, s, σ, h, hs, .goto l⟩
theorem AW.ret (h : Q .ret s) : AW P gl nt .ret Q s := fun _ _ _ σ _ _ hs => wp_ret ⟨.ret, s, σ, h, hs, .ret⟩

def thenA (R : St → Prop) (Q : AExit → St → Prop) : AExit → St → Prop
  | .normal, s => R s
  | e, s => Q e s

theorem AW.seq {x y : Code} (h : AW P gl nt x (thenA (AW P gl nt y Q) Q) s) : AW P gl nt (.seq x y) Q s := fun c a w σ hgl hp hs =>
  wp_seq (wp_mono (h c a w σ hgl hp hs) fun e a' w' ⟨ae, s', σ', h1, h2, h3⟩ => by
    cases h3 with
    | normal => exact h1 c a' w' σ' hgl hp h2
    | exit id => exact ⟨_, _, _, h1, h2, .exit id⟩
    | goto l => exact ⟨_, _, _, h1, h2, .goto l⟩
    | ret => exact ⟨_, _, _, h1, h2, .ret⟩
    | panic x v hv => exact ⟨_, _, _, h1, h2, .panic x v hv⟩)

/-- Ways that meet again: what holds of each. -/
theorem AW.seq_cut {x y : Code} (R : St → Prop) (h : AW P gl nt x (thenA R Q) s) (k : ∀ s, R s → AW P gl nt y Q s) : AW P gl nt (.seq x y) Q s :=
  .seq (h.mono fun e s' hq => by cases e <;> first | exact k s' hq | exact hq)

theorem AW.cond {cd : Operand} {x y : Code} {b : Bool} (hc : getE gl (look s.env) cd = some (.d (.bool b))) (h1 : b = true → AW P gl nt x Q s) (h2 : b = false → AW P gl nt y Q s) : AW P gl nt (.cond cd x y) Q s := fun c a w σ hgl hp hs => by
  subst hgl
  have hb := rep_bool (hs.get hc)
  exact wp_cond_split hb (fun h => h1 h c a w σ rfl hp hs) (fun h => h2 h c a w σ rfl hp hs)

/-- A condition of which nothing is known but that it is one. -/
theorem AW.condAny {cd : Operand} {x y : Code} (hc : getE gl (look s.env) cd = some (.d .anyb)) (h1 : AW P gl nt x Q s) (h2 : AW P gl nt y Q s) : AW P gl nt (.cond cd x y) Q s := fun c a w σ hgl hp hs => by
  subst hgl
  have hb := (hs.get hc).d_inv
  generalize hv : a.eval cd = v at hb
  cases hb with
  | anyb b => exact wp_cond_split hv (fun _ => h1 c a w σ rfl hp hs) (fun _ => h2 c a w σ rfl hp hs)

def blockA (id : Nat) (Q : AExit → St → Prop) : AExit → St → Prop
  | .exit id', s => if id' = id then Q .normal s else Q (.exit id') s
  | e, s => Q e s
theorem AW.block {id : Nat} {x : Code} (h : AW P gl nt x (blockA id Q) s) : AW P gl nt (.block id x) Q s := fun c a w σ hgl hp hs =>
  wp_block (wp_mono (h c a w σ hgl hp hs) fun e a' w' ⟨ae, s', σ', h1, h2, h3⟩ => by
    cases h3 with
    | normal => exact ⟨_, _, _, h1, h2, .normal⟩
    | exit id' =>
      simp only [blockA] at h1
      simp only [Exit.inBlock]
      split at h1
      · rename_i he; rw [if_pos he]; exact ⟨_, _, _, h1, h2, .normal⟩
      · rename_i he; rw [if_neg he]; exact ⟨_, _, _, h1, h2, .exit id'⟩
    | goto l => exact ⟨_, _, _, h1, h2, .goto l⟩
    | ret => exact ⟨_, _, _, h1, h2, .ret⟩
    | panic x v hv => exact ⟨_, _, _, h1, h2, .panic x v hv⟩)

/-- A loop: the number falls round by round. -/
theorem AW.loop {x : Code} (I : Nat → St → Prop) (h0 : ∃ n, I n s) (hr : ∀ n s, I n s → AW P gl nt x (thenA (fun s' => ∃ m, m < n ∧ I m s') Q) s) : AW P gl nt (.loop x) Q s := by
  intro c a w σ hgl hp hs b k cs
  obtain ⟨n0, hn0⟩ := h0
  have key : ∀ n s a w σ, I n s → SR c nt s a w σ → ∃ e a' w', APost c nt Q e a' w' ∧ Arrives P (lone (b.at a (.code x :: .inLoop x :: k)) cs w) b k cs e a' w' := by
    intro n
    induction n using Nat.strongRecOn with
    | _ n ih =>
      intro s a w σ hI hs
      obtain ⟨e, a', w', ⟨ae, s', σ', q1, q2, q3⟩, harr⟩ := hr n s hI c a w σ hgl hp hs b (.inLoop x :: k) cs
      cases q3 with
      | normal =>
        obtain ⟨m, hm, hIm⟩ := q1
        obtain ⟨e2, a2, w2, r1, r2⟩ := ih m hm s' a' w' σ' hIm q2
        exact ⟨e2, a2, w2, r1, .of_steps (Steps.trans harr (.one step_inLoop)) r2⟩
      | exit id => exact ⟨_, a', w', ⟨_, _, _, q1, q2, .exit id⟩, .pass (x := .inLoop x) rfl (fun _ _ => .inl (by simp)) harr⟩
      | goto l => exact ⟨_, a', w', ⟨_, _, _, q1, q2, .goto l⟩, .pass (x := .inLoop x) rfl (fun _ _ => .inl (by simp)) harr⟩
      | ret => exact ⟨_, a', w', ⟨_, _, _, q1, q2, .ret⟩, .pass (x := .inLoop x) rfl (fun _ _ => .inl (by simp)) harr⟩
      | panic y v hv => exact ⟨_, a', w', ⟨_, _, _, q1, q2, .panic y v hv⟩, .pass (x := .inLoop x) rfl (fun _ _ => .inl (by simp)) harr⟩
  obtain ⟨e, a', w', q, harr⟩ := key n0 s a w σ hn0 hs
  exact ⟨e, a', w', q, .of_steps (.one step_loop) harr⟩
end
end Go.Proofs.Ytpibdbjlilpfiaa
/- Regions whose order is open: one walk in the text's order serves every order. -/
namespace Go.Proofs.Ytpibdbjlilpfiaa
set_option linter.all false
open Go Go.RowKit

/-- What an operation did. -/
structure Tr where
  o : Oper
  w : Bool
  v : Option AV
  e : Eff

def Tr.env (t : Tr) (E : Nat → Option AV) : Nat → Option AV := match t.o.dst with
  | some d => upd1 E d (if t.w then t.v else some und)
  | none => E
def Tr.obj (t : Tr) (id : Nat) (O : Nat → Option Obj1) : Nat → Option Obj1 := if t.w then t.e.app id O else O

/-- Of those that are listed, in the text's order. -/
def foldE (L : Nat → Bool) : Nat → List Tr → (Nat → Option AV) → Nat → Option AV
  | _, [], E => E
  | j, t :: r, E => foldE L (j + 1) r (if L j then t.env E else E)
def foldO (L : Nat → Bool) (base : Nat) : Nat → List Tr → (Nat → Option Obj1) → Nat → Option Obj1
  | _, [], O => O
  | j, t :: r, O => foldO L base (j + 1) r (if L j then t.obj (base + j) O else O)

/-- The slot's value hangs on its writers alone. -/
theorem foldE_congr {L L' : Nat → Bool} {d : Nat} : ∀ (r : List Tr) (j : Nat) (E E' : Nat → Option AV), E d = E' d → (∀ i t, r[i]? = some t → t.o.dst = some d → L (j + i) = L' (j + i)) → foldE L j r E d = foldE L' j r E' d
  | [], _, _, _, h, _ => h
  | t :: r, j, E, E', h, hw => by
    simp only [foldE]
    refine foldE_congr r (j + 1) _ _ ?_ (fun i u hu hd => by
      have := hw (i + 1) u (by simpa using hu) hd
      rwa [show j + 1 + i = j + (i + 1) by omega])
    by_cases hd : t.o.dst = some d
    · have h0 := hw 0 t rfl hd
      rw [Nat.add_zero] at h0
      rw [h0]
      by_cases hl : L' j = true
      · simp [hl, Tr.env, hd, upd1]
      · simp [hl, h]
    · have hne : ∀ F : Nat → Option AV, t.env F d = F d := fun F => by
        unfold Tr.env
        cases hd' : t.o.dst with
        | some d' => exact upd1_ne fun e => hd (by rw [hd', e])
        | none => rfl
      by_cases hl : L j = true <;> by_cases hl' : L' j = true <;> simp [hl, hl', hne, h]

/-- What an effect may turn. -/
def Eff.keys (id : Nat) : Eff → List Nat
  | .none => []
  | .new _ => [id]
  | .turn k _ => [k]
  | .swap k _ => [k, id]
  | .drop ks => ks
  | .pass ks os => ks ++ os.map (·.1)
theorem look_none {α : Type} {k : Nat} : ∀ {l : List (Nat × α)}, k ∉ l.map (·.1) → look l k = none
  | [], _ => rfl
  | (j, x) :: l, h => by
    simp only [List.map_cons, List.mem_cons, not_or] at h
    simp only [look, if_neg (Ne.symm h.1)]
    exact look_none h.2
theorem Eff.app_ne {id k : Nat} {e : Eff} {O : Nat → Option Obj1} (h : k ∉ e.keys id) : e.app id O k = O k := by
  cases e with
  | none => rfl
  | new o => simp only [Eff.keys, List.mem_singleton] at h; exact upd1_ne h
  | turn q o => simp only [Eff.keys, List.mem_singleton] at h; exact upd1_ne h
  | drop ks => simp only [Eff.keys] at h; simp [Eff.app, h]
  | pass ks os =>
    simp only [Eff.keys, List.mem_append, not_or] at h
    simp only [Eff.app, look_none h.2, if_neg h.1]
  | swap q o =>
    simp only [Eff.keys, List.mem_cons, List.not_mem_nil, or_false, not_or] at h
    show upd1 (upd1 O q Option.none) id (some o) k = O k
    rw [upd1_ne h.2, upd1_ne h.1]
theorem Eff.app_congr {id k : Nat} {e : Eff} {O O' : Nat → Option Obj1} (h : O k = O' k) : e.app id O k = e.app id O' k := by
  cases e with
  | none => exact h
  | new o => simp only [Eff.app, upd1]; split <;> first | rfl | exact h
  | turn q o => simp only [Eff.app, upd1]; split <;> first | rfl | exact h
  | drop ks => simp only [Eff.app]; split <;> first | rfl | exact h
  | pass ks os => simp only [Eff.app]; split <;> first | rfl | (split <;> first | rfl | exact h)
  | swap q o => simp only [Eff.app, upd1]; split <;> first | rfl | (split <;> first | rfl | exact h)

theorem foldO_congr {L L' : Nat → Bool} {k base : Nat} : ∀ (r : List Tr) (j : Nat) (O O' : Nat → Option Obj1), O k = O' k → (∀ i t, r[i]? = some t → t.w = true → k ∈ t.e.keys (base + (j + i)) → L (j + i) = L' (j + i)) → foldO L base j r O k = foldO L' base j r O' k
  | [], _, _, _, h, _ => h
  | t :: r, j, O, O', h, hw => by
    simp only [foldO]
    refine foldO_congr r (j + 1) _ _ ?_ (fun i u hu hwu hk => by
      have := hw (i + 1) u (by simpa using hu) hwu (by rwa [show j + (i + 1) = j + 1 + i by omega])
      rwa [show j + 1 + i = j + (i + 1) by omega])
    by_cases hk : t.w = true ∧ k ∈ t.e.keys (base + j)
    · have h0 := hw 0 t rfl hk.1 (by simpa using hk.2)
      rw [Nat.add_zero] at h0
      rw [h0]
      by_cases hl : L' j = true
      · simp [hl, Tr.obj, hk.1, Eff.app_congr h]
      · simp [hl, h]
    · have hne : ∀ F : Nat → Option Obj1, t.obj (base + j) F k = F k := fun F => by
        unfold Tr.obj
        split
        · rename_i hw'
          exact Eff.app_ne fun hm => hk ⟨hw', hm⟩
        · rfl
      by_cases hl : L j = true <;> by_cases hl' : L' j = true <;> simp [hl, hl', hne, h]

/-! ### The static check -/
def bitsOk (ops : List Oper) (B : List Nat) : Bool := ops.zipIdx.all fun (o, j) =>
  (o.after.all fun e => !Region.binds .any e || decide (e.on < j)) &&
  (let u := o.after.foldl (fun s e => if Region.binds .any e then s ||| 2 ^ e.on ||| B.getD e.on 0 else s) 0
   (B.getD j 0) ||| u == u)
def apartOk (ops : Array Oper) (B : List Nat) : Bool := ops.toList.zipIdx.all fun (x, i) => ops.toList.zipIdx.all fun (y, j) => !decide (i < j) || x.apart ops y || (B.getD j 0).testBit i
/-- Does it only take a part of what a slot holds? -/
def isEx : Op → Bool
  | .extract _ _ => true
  | .move _ => true
  | _ => false
def exAt (ops : Array Oper) (i : Nat) : Bool := match ops[i]? with
  | some o => isEx o.op
  | none => false
/-- Those that turn an own object are ordered with all, but for those that only take a part of data. -/
def effsOk (ops : Array Oper) (B : List Nat) (effs : List Nat) : Bool := effs.all fun j => (List.range ops.size).all fun i => exAt ops i || ((!decide (i < j) || (B.getD j 0).testBit i) && (!decide (j < i) || (B.getD i 0).testBit j))
def noSel (ops : Array Oper) : Bool := Region.noSelect ops
def drawOk (ops : Array Oper) (B : List Nat) (effs : List Nat) : Bool := bitsOk ops.toList B && apartOk ops B && effsOk ops B effs

section
variable {ops : Array Oper} {B : List Nat} {effs : List Nat}

theorem zip_all {α : Type} {l : List α} {p : α × Nat → Bool} (h : l.zipIdx.all p = true) {j : Nat} {x : α} (hx : l[j]? = some x) : p (x, j) = true := by
  rw [List.all_eq_true] at h
  exact h (x, j) (List.mem_iff_getElem?.2 ⟨j, by rw [List.getElem?_zipIdx, hx]; simp⟩)

/-- Listed with all that it waits for. -/
def Closed (ops : Array Oper) (L : Nat → Bool) : Prop := ∀ (j : Nat) o, ops[j]? = some o → L j = true → ∀ e ∈ o.after, Region.binds .any e = true → L e.on = true

theorem fold_bit {after : List Edge} {B : List Nat} {i : Nat} : ∀ {s : Nat}, (after.foldl (fun s e => if Region.binds .any e then s ||| 2 ^ e.on ||| B.getD e.on 0 else s) s).testBit i = true → s.testBit i = true ∨ ∃ e ∈ after, Region.binds .any e = true ∧ (i = e.on ∨ (B.getD e.on 0).testBit i = true) := by
  induction after with
  | nil => intro s h; exact .inl h
  | cons e r ih =>
    intro s h
    simp only [List.foldl_cons] at h
    rcases ih h with h1 | ⟨e', he, hb, h2⟩
    · by_cases hb : Region.binds .any e = true
      · rw [if_pos hb, Nat.testBit_or, Nat.testBit_or, Bool.or_eq_true, Bool.or_eq_true] at h1
        rcases h1 with (h1 | h1) | h1
        · exact .inl h1
        · rw [Nat.testBit_two_pow] at h1
          exact .inr ⟨e, List.mem_cons_self, hb, .inl (by simpa using h1 : e.on = i).symm⟩
        · exact .inr ⟨e, List.mem_cons_self, hb, .inr h1⟩
      · rw [if_neg hb] at h1
        exact .inl h1
    · exact .inr ⟨e', List.mem_cons_of_mem _ he, hb, h2⟩

theorem bit_edge (hB : bitsOk ops.toList B = true) {j : Nat} {o : Oper} (ho : ops[j]? = some o) {i : Nat} (hi : (B.getD j 0).testBit i = true) : ∃ e ∈ o.after, Region.binds .any e = true ∧ e.on < j ∧ (i = e.on ∨ (B.getD e.on 0).testBit i = true) := by
  have ho' : ops.toList[j]? = some o := by simpa using ho
  have h := zip_all hB ho'
  simp only [Bool.and_eq_true] at h
  obtain ⟨h1, h2⟩ := h
  have h3 : B.getD j 0 ||| o.after.foldl (fun s e => if Region.binds .any e then s ||| 2 ^ e.on ||| B.getD e.on 0 else s) 0 = o.after.foldl (fun s e => if Region.binds .any e then s ||| 2 ^ e.on ||| B.getD e.on 0 else s) 0 := by simpa using h2
  have h4 : (o.after.foldl (fun s e => if Region.binds .any e then s ||| 2 ^ e.on ||| B.getD e.on 0 else s) 0).testBit i = true := by
    rw [← h3, Nat.testBit_or, hi, Bool.true_or]
  rw [← Array.foldl_toList] at h4
  rcases fold_bit h4 with h5 | ⟨e, he, hb, h5⟩
  · simp at h5
  · refine ⟨e, Array.mem_toList_iff.1 he, hb, ?_, h5⟩
    have := Array.all_eq_true_iff_forall_mem.1 h1 e (Array.mem_toList_iff.1 he)
    simpa [hb] using this

theorem closed_bit (hB : bitsOk ops.toList B = true) {L : Nat → Bool} (hL : Closed ops L) : ∀ (n j : Nat) (o : Oper), j ≤ n → ops[j]? = some o → L j = true → ∀ i, (B.getD j 0).testBit i = true → L i = true := by
  intro n
  induction n with
  | zero =>
    intro j o hj ho hl i hi
    obtain ⟨e, _, _, h, _⟩ := bit_edge hB ho hi
    omega
  | succ n ih =>
    intro j o hj ho hl i hi
    obtain ⟨e, he, hb, hlt, h⟩ := bit_edge hB ho hi
    have hle := hL j o ho hl e he hb
    rcases h with rfl | h
    · exact hle
    · have hjl : j < ops.size := (Array.getElem?_eq_some_iff.1 ho).1
      exact ih e.on ops[e.on] (by omega) (Array.getElem?_eq_getElem (by omega)) hle i h

theorem bit_lt (hB : bitsOk ops.toList B = true) : ∀ (n j : Nat) (o : Oper), j ≤ n → ops[j]? = some o → ∀ i, (B.getD j 0).testBit i = true → i < j := by
  intro n
  induction n with
  | zero =>
    intro j o hj ho i hi
    obtain ⟨e, _, _, h, _⟩ := bit_edge hB ho hi
    omega
  | succ n ih =>
    intro j o hj ho i hi
    obtain ⟨e, he, hb, hlt, h⟩ := bit_edge hB ho hi
    rcases h with rfl | h
    · exact hlt
    · have hjl : j < ops.size := (Array.getElem?_eq_some_iff.1 ho).1
      have := ih e.on ops[e.on] (by omega) (Array.getElem?_eq_getElem (by omega)) i h
      omega

/-- A ready operation: its bits are listed; what has it among its bits is not. -/
theorem ready_bits (hB : bitsOk ops.toList B = true) {L : Nat → Bool} (hL : Closed ops L) {j : Nat} {o : Oper} (ho : ops[j]? = some o) (hj : L j = false) (hr : ∀ e ∈ o.after, Region.binds .any e = true → L e.on = true) :
    (∀ i, (B.getD j 0).testBit i = true → L i = true) ∧ ∀ i oi, ops[i]? = some oi → (B.getD i 0).testBit j = true → L i = false := by
  refine ⟨fun i hi => ?_, fun i oi hoi hi => ?_⟩
  · obtain ⟨e, he, hb, hlt, h⟩ := bit_edge hB ho hi
    have hle := hr e he hb
    rcases h with rfl | h
    · exact hle
    · have hjl : j < ops.size := (Array.getElem?_eq_some_iff.1 ho).1
      exact closed_bit hB hL e.on e.on ops[e.on] (Nat.le_refl _) (Array.getElem?_eq_getElem (by omega)) hle i h
  · cases hl : L i with
    | false => rfl
    | true =>
      have := closed_bit hB hL i i oi (Nat.le_refl _) hoi hl j hi
      rw [hj] at this
      cases this
end
end Go.Proofs.Ytpibdbjlilpfiaa
/- Regions whose order is open: the theorem. -/
namespace Go.Proofs.Ytpibdbjlilpfiaa
set_option linter.all false
open Go Go.RowKit

/-- An own object that was made in this region by operation 'm' may be turned by operation 'i': all that can touch it are ordered with 'i'. -/
def swapOk (n : Nat) (B : List Nat) (m i : Nat) : Bool := (B.getD i 0).testBit m && (List.range n).all fun j => j == i || !(B.getD j 0).testBit m || ((!decide (j < i) || (B.getD i 0).testBit j) && (!decide (i < j) || (B.getD j 0).testBit i))
def swapB (n : Nat) (B : List Nat) (base j k : Nat) : Bool := decide (base ≤ k) && swapOk n B (k - base) j
theorem swapB_spec {n : Nat} {B : List Nat} {base i k : Nat} (h : swapB n B base i k = true) : base ≤ k ∧ (B.getD i 0).testBit (k - base) = true ∧ ∀ j, j < n → j ≠ i → (B.getD j 0).testBit (k - base) = true → (j < i → (B.getD i 0).testBit j = true) ∧ (i < j → (B.getD j 0).testBit i = true) := by
  simp only [swapB, swapOk, Bool.and_eq_true, decide_eq_true_eq] at h
  refine ⟨h.1, h.2.1, fun j hj hne hb => ?_⟩
  have := List.all_eq_true.1 h.2.2 j (List.mem_range.2 hj)
  simp only [Bool.or_eq_true, Bool.and_eq_true, beq_iff_eq, Bool.not_eq_true', decide_eq_false_iff_not] at this
  rcases this with (h1 | h1) | ⟨h1, h2⟩
  · exact absurd h1 hne
  · rw [hb] at h1; cases h1
  · exact ⟨fun h => h1.resolve_left (fun e => e h), fun h => h2.resolve_left (fun e => e h)⟩
def okEff (n : Nat) (B effs : List Nat) (base j : Nat) (p : Op) : Eff → Prop
  | .none => True
  | .new _ => isEx p = false
  | .turn k _ => (j ∈ effs ∨ swapB n B base j k = true) ∧ isEx p = false
  | .swap k _ => (j ∈ effs ∨ swapB n B base j k = true) ∧ isEx p = false
  | .drop ks => (j ∈ effs ∨ ks.all (swapB n B base j) = true) ∧ isEx p = false
  | .pass ks os => (j ∈ effs ∨ (ks ++ os.map (·.1)).all (fun q => decide (q = base + j) || swapB n B base j q) = true) ∧ isEx p = false
theorem okEff_ex {n : Nat} {B effs : List Nat} {base j : Nat} {p : Op} {e : Eff} (h : okEff n B effs base j p e) (he : e ≠ .none) : isEx p = false := by
  cases e with
  | none => exact absurd rfl he
  | new o => exact h
  | turn k o => exact h.2
  | swap k o => exact h.2
  | drop ks => exact h.2
  | pass ks os => exact h.2
/-- What takes a part takes it of data. -/
def exL (g : Operand → Option AV) : Op → Bool
  | .extract x _ => (match g x with
    | some y => y.ids.isEmpty
    | none => true)
  | _ => true
theorem exL_spec {g : Operand → Option AV} {p : Op} (h : exL g p = true) (hx : isEx p = true) : (∃ x, p = .move x) ∨ ∀ x ∈ p.operands, ∀ y, g x = some y → y.ids = [] := by
  cases p <;> simp only [isEx] at hx <;> try cases hx
  · exact .inl ⟨_, rfl⟩
  rename_i x n
  right
  intro z hz y hy
  simp [Op.operands] at hz
  subst hz
  simp only [exL, hy] at h
  exact List.isEmpty_iff.1 h
/-- What is moved is what stood there. -/
def MoveOk (gl : GL) (E : Nat → Option AV) (p : Op) (v : Option AV) (e : Eff) : Prop := ∀ x, p = .move x → ∃ u, getE gl E x = some u ∧ v = some u ∧ e = .none
def touchL (g : Operand → Option AV) (B : List Nat) (base j : Nat) : List Operand → Prop
  | [] => True
  | x :: r => (match g x with
    | some (.d _) => True
    | some y => ∀ k ∈ y.ids, k < base ∨ (B.getD j 0).testBit (k - base) = true
    | none => True) ∧ touchL g B base j r

theorem touchL_spec {g : Operand → Option AV} {B : List Nat} {base j : Nat} : ∀ {l : List Operand}, touchL g B base j l → ∀ x ∈ l, ∀ y, g x = some y → ∀ k ∈ y.ids, k < base ∨ (B.getD j 0).testBit (k - base) = true
  | [], _, x, hx, _, _, _, _ => by cases hx
  | z :: r, h, x, hx, y, hy, k, hk => by
    rcases List.mem_cons.1 hx with rfl | hx
    · have h1 := h.1
      rw [hy] at h1
      cases y with
      | d y => simp [AV.ids] at hk
      | own _ => exact h1 k hk
      | ref _ _ => exact h1 k hk
      | elt _ _ _ _ => exact h1 k hk
      | agg _ => exact h1 k hk
      | tup _ => exact h1 k hk
    · exact touchL_spec h.2 x hx y hy k hk

def AED (P : Program) (gl : GL) (tb : Nat → Option TI) (all : List Oper) (B effs : List Nat) (base : Nat) (K : St → Prop) : List Oper → Nat → St → Prop
  | [], _, s => K s
  | o :: rest, j, s => guardA (look s.env) all o.guard
    ((touchL (getE gl (look s.env)) B base j o.op.operands.toList ∧ exL (getE gl (look s.env)) o.op = true) ∧ opA P gl tb (look s.env) (look s.own) s.nxt o.op fun v e => okEff all.length B effs base j o.op e ∧ AED P gl tb all B effs base K rest (j + 1) (s.app o.dst v e))
    (AED P gl tb all B effs base K rest (j + 1) (s.skip o.dst))

/-- Is the operation wanted? -/
def WantE (all : List Oper) (o : Oper) (E : Nat → Option AV) (b : Bool) : Prop := match o.guard with
  | none => b = true
  | some (j, want) => ∃ oj t, all[j]? = some oj ∧ oj.dst = some t ∧ ((∃ c, E t = some (.d (.bool c)) ∧ b = (c == want)) ∨ E t = some und ∧ b = false)

def TrOk (P : Program) (gl : GL) (all : List Oper) (B effs : List Nat) (base j : Nat) (E : Nat → Option AV) (O : Nat → Option Obj1) (t : Tr) : Prop :=
  (t.w = true ∧ WantE all t.o E true ∧ (touchL (getE gl E) B base j t.o.op.operands.toList ∧ exL (getE gl E) t.o.op = true) ∧ Step P gl E O t.o (base + j) t.v t.e ∧ okEff all.length B effs base j t.o.op t.e ∧ MoveOk gl E t.o.op t.v t.e) ∨ (t.w = false ∧ WantE all t.o E false)

/-- The walk in the text's order. -/
def Trace (P : Program) (gl : GL) (all : List Oper) (B effs : List Nat) (base : Nat) : Nat → (Nat → Option AV) → (Nat → Option Obj1) → List Tr → Prop
  | _, _, _, [] => True
  | j, E, O, t :: r => TrOk P gl all B effs base j E O t ∧ Trace P gl all B effs base (j + 1) (t.env E) (t.obj (base + j) O) r

section
variable {P : Program} {gl : GL} {tb : Nat → Option TI} {all : List Oper} {B effs : List Nat} {base : Nat}

theorem app_env (s : St) (o : Oper) (v : Option AV) (e : Eff) : look (s.app o.dst v e).env = (Tr.mk o true v e).env (look s.env) := by
  unfold Tr.env St.app
  cases o.dst with
  | none => simp
  | some d =>
    cases v with
    | some x => simp [look_cons]
    | none => simp [look_del]
theorem skip_env (s : St) (o : Oper) (v : Option AV) (e : Eff) : look (s.skip o.dst).env = (Tr.mk o false v e).env (look s.env) := by
  unfold Tr.env St.skip
  cases o.dst with
  | none => simp
  | some d => simp [look_cons]

theorem opA_soundM (htb : TbOk P tb) {E : Nat → Option AV} {O : Nat → Option Obj1} {o : Oper} {id : Nat} {K : Option AV → Eff → Prop} (h : opA P gl tb E O id o.op K) : ∃ v e, K v e ∧ Step P gl E O o id v e ∧ MoveOk gl E o.op v e := by
  by_cases hm : ∃ x, o.op = .move x
  · obtain ⟨x, hx⟩ := hm
    rw [hx] at h
    simp only [opA] at h
    split at h
    · rename_i v hv
      exact ⟨_, _, h, st_move hx hv, fun y hy => ⟨v, by rw [hx] at hy; cases hy; exact hv, rfl, rfl⟩⟩
    · exact h.elim
  · obtain ⟨v, e, hK, hst⟩ := opA_sound htb h
    exact ⟨v, e, hK, hst, fun x hx => absurd ⟨x, hx⟩ hm⟩
theorem trace_of (htb : TbOk P tb) {K : St → Prop} : ∀ (l : List Oper) (j : Nat) (s : St), s.nxt = base + j → AED P gl tb all B effs base K l j s →
    ∃ tr s', tr.map Tr.o = l ∧ Trace P gl all B effs base j (look s.env) (look s.own) tr ∧ K s' ∧ look s'.env = foldE (fun _ => true) j tr (look s.env) ∧ look s'.own = foldO (fun _ => true) base j tr (look s.own) ∧ s'.nxt = base + j + l.length
  | [], j, s, hn, h => ⟨[], s, rfl, trivial, h, rfl, rfl, by simpa using hn⟩
  | o :: rest, j, s, hn, h => by
    have yes : ((touchL (getE gl (look s.env)) B base j o.op.operands.toList ∧ exL (getE gl (look s.env)) o.op = true) ∧ opA P gl tb (look s.env) (look s.own) s.nxt o.op fun v e => okEff all.length B effs base j o.op e ∧ AED P gl tb all B effs base K rest (j + 1) (s.app o.dst v e)) → WantE all o (look s.env) true →
        ∃ tr s', tr.map Tr.o = o :: rest ∧ Trace P gl all B effs base j (look s.env) (look s.own) tr ∧ K s' ∧ look s'.env = foldE (fun _ => true) j tr (look s.env) ∧ look s'.own = foldO (fun _ => true) base j tr (look s.own) ∧ s'.nxt = base + j + (o :: rest).length := fun ⟨ht, hop⟩ hw => by
      obtain ⟨v, e, ⟨he, hr⟩, hst, hmv⟩ := opA_soundM htb hop
      obtain ⟨tr, s', h1, h2, h3, h4, h5, h6⟩ := trace_of htb rest (j + 1) (s.app o.dst v e) (by show s.nxt + 1 = _; omega) hr
      rw [app_env] at h2 h4
      rw [eff_own, hn] at h2 h5
      rw [hn] at hst
      refine ⟨⟨o, true, v, e⟩ :: tr, s', by simp [h1], ⟨.inl ⟨rfl, hw, ht, hst, he, hmv⟩, h2⟩, h3, h4, h5, by rw [h6]; simp; omega⟩
    have no : AED P gl tb all B effs base K rest (j + 1) (s.skip o.dst) → WantE all o (look s.env) false →
        ∃ tr s', tr.map Tr.o = o :: rest ∧ Trace P gl all B effs base j (look s.env) (look s.own) tr ∧ K s' ∧ look s'.env = foldE (fun _ => true) j tr (look s.env) ∧ look s'.own = foldO (fun _ => true) base j tr (look s.own) ∧ s'.nxt = base + j + (o :: rest).length := fun hr hw => by
      obtain ⟨tr, s', h1, h2, h3, h4, h5, h6⟩ := trace_of htb rest (j + 1) (s.skip o.dst) (by show s.nxt + 1 = _; omega) hr
      rw [skip_env s o none .none] at h2 h4
      refine ⟨⟨o, false, none, .none⟩ :: tr, s', by simp [h1], ⟨.inr ⟨rfl, hw⟩, h2⟩, h3, h4, h5, by rw [h6]; simp; omega⟩
    simp only [AED] at h
    unfold guardA at h
    cases hg : o.guard with
    | none =>
      rw [hg] at h
      exact yes h (by unfold WantE; rw [hg])
    | some jb =>
      obtain ⟨j', b⟩ := jb
      rw [hg] at h
      simp only at h
      split at h
      · rename_i oj hj
        split at h
        · rename_i t ht
          split at h
          · rename_i cb hcb
            split at h
            · rename_i hcb'
              exact yes h (by unfold WantE; rw [hg]; exact ⟨oj, t, hj, ht, .inl ⟨cb, hcb, by simp [hcb']⟩⟩)
            · rename_i hcb'
              exact no h (by unfold WantE; rw [hg]; exact ⟨oj, t, hj, ht, .inl ⟨cb, hcb, by simpa using hcb'⟩⟩)
          · rename_i hcb
            exact no h (by unfold WantE; rw [hg]; exact ⟨oj, t, hj, ht, .inr ⟨hcb, rfl⟩⟩)
          · exact h.elim
        · exact h.elim
      · exact h.elim

theorem foldE_none {L : Nat → Bool} : ∀ (r : List Tr) (j : Nat) (E : Nat → Option AV), (∀ k, j ≤ k → L k = false) → foldE L j r E = E
  | [], _, _, _ => rfl
  | t :: r, j, E, h => by
    simp only [foldE, h j (Nat.le_refl _), Bool.false_eq_true, if_false]
    exact foldE_none r (j + 1) E fun k hk => h k (by omega)
theorem foldO_none {L : Nat → Bool} : ∀ (r : List Tr) (j : Nat) (O : Nat → Option Obj1), (∀ k, j ≤ k → L k = false) → foldO L base j r O = O
  | [], _, _, _ => rfl
  | t :: r, j, O, h => by
    simp only [foldO, h j (Nat.le_refl _), Bool.false_eq_true, if_false]
    exact foldO_none r (j + 1) O fun k hk => h k (by omega)

def below (j : Nat) : Nat → Bool := fun k => decide (k < j)

theorem trace_at : ∀ (tr : List Tr) (j : Nat) (E : Nat → Option AV) (O : Nat → Option Obj1), Trace P gl all B effs base j E O tr → ∀ (i : Nat) t, tr[i]? = some t →
    TrOk P gl all B effs base (j + i) (foldE (below (j + i)) j tr E) (foldO (below (j + i)) base j tr O) t ∧
      foldE (below (j + i + 1)) j tr E = t.env (foldE (below (j + i)) j tr E) ∧ foldO (below (j + i + 1)) base j tr O = t.obj (base + (j + i)) (foldO (below (j + i)) base j tr O)
  | [], _, _, _, _, i, t, h => by simp at h
  | t :: r, j, E, O, h, 0, t', ht => by
    simp at ht
    subst ht
    have h0 : ∀ k, j ≤ k → below (j + 0) k = false := fun k hk => by simp [below]; omega
    have h1 : ∀ k, j + 1 ≤ k → below (j + 0 + 1) k = false := fun k hk => by simp [below]; omega
    rw [foldE_none _ _ _ h0, foldO_none _ _ _ h0]
    refine ⟨h.1, ?_, ?_⟩
    · simp only [foldE]
      rw [if_pos (by simp [below]), foldE_none _ _ _ h1]
    · simp only [foldO]
      rw [if_pos (by simp [below]), foldO_none _ _ _ h1]
      rfl
  | t :: r, j, E, O, h, i + 1, t', ht => by
    have ih := trace_at r (j + 1) _ _ h.2 i t' (by simpa using ht)
    have e : j + 1 + i = j + (i + 1) := by omega
    rw [e] at ih
    simp only [foldE, foldO]
    rw [if_pos (show below (j + (i + 1)) j = true by simp [below]), if_pos (show below (j + (i + 1) + 1) j = true by simp [below]; omega), if_pos (show below (j + (i + 1)) j = true by simp [below]), if_pos (show below (j + (i + 1) + 1) j = true by simp [below]; omega)]
    exact ih
end

/-! ### The listed -/
section
variable {P : Program} {gl : GL} {ops : Array Oper} {B effs : List Nat} {base nt : Nat} {tr : List Tr} {E0 : Nat → Option AV} {O0 : Nat → Option Obj1}

theorem tr_op (hm : tr.map Tr.o = ops.toList) {i : Nat} {t : Tr} (ht : tr[i]? = some t) : ops[i]? = some t.o := by
  have : (tr.map Tr.o)[i]? = some t.o := by rw [List.getElem?_map, ht]; rfl
  rw [hm] at this
  simpa using this

theorem apart_of (hA : apartOk ops B = true) {i j : Nat} {oi oj : Oper} (hi : ops[i]? = some oi) (hj : ops[j]? = some oj) (hlt : i < j) : oi.apart ops oj = true ∨ (B.getD j 0).testBit i = true := by
  have h1 := zip_all hA (show ops.toList[i]? = some oi by simpa using hi)
  have h2 := zip_all h1 (show ops.toList[j]? = some oj by simpa using hj)
  simp only [Bool.or_eq_true] at h2
  rcases h2 with (h2 | h2) | h2
  · simp [hlt] at h2
  · exact .inl h2
  · exact .inr h2

theorem exAt_of {j : Nat} {o : Oper} (h : ops[j]? = some o) : exAt ops j = isEx o.op := by unfold exAt; rw [h]
theorem eff_order (hF : effsOk ops B effs = true) {i j : Nat} (hi : i ∈ effs) (hj : j < ops.size) (hx : exAt ops j = false) : (j < i → (B.getD i 0).testBit j = true) ∧ (i < j → (B.getD j 0).testBit i = true) := by
  have h1 := List.all_eq_true.1 hF i hi
  have h2 := List.all_eq_true.1 h1 j (List.mem_range.2 hj)
  rw [hx, Bool.false_or] at h2
  simp only [Bool.and_eq_true, Bool.or_eq_true] at h2
  refine ⟨fun h => ?_, fun h => ?_⟩
  · rcases h2.1 with h3 | h3
    · simp [h] at h3
    · exact h3
  · rcases h2.2 with h3 | h3
    · simp [h] at h3
    · exact h3

variable (hB : bitsOk ops.toList B = true) (hA : apartOk ops B = true) (hF : effsOk ops B effs = true) (hm : tr.map Tr.o = ops.toList) {L : Nat → Bool} (hL : Closed ops L) {j : Nat} {oj : Oper} (hoj : ops[j]? = some oj) (hj : L j = false) (hr : ∀ e ∈ oj.after, Region.binds .any e = true → L e.on = true)
include hB hA hm hL hoj hj hr

/-- Of the writers of what it looks at just those ahead of it in the text are listed. -/
theorem writers_e {d i : Nat} {t : Tr} (ht : tr[i]? = some t) (hd : t.o.dst = some d) (hlook : d ∈ oj.looksAt ops ∨ oj.dst = some d) (hne : i ≠ j) : L i = below j i := by
  obtain ⟨r1, r2⟩ := ready_bits hB hL hoj hj hr
  have hoi := tr_op hm ht
  rcases Nat.lt_or_gt_of_ne hne with hlt | hgt
  · rcases apart_of hA hoi hoj hlt with h | h
    · obtain ⟨s1, s2, s3⟩ := Oper.apart_spec h
      rcases hlook with hl | hl
      · exact absurd hl (s1 d hd)
      · exact absurd hl (s2 d hd)
    · rw [r1 i h]; simp [below, hlt]
  · rcases apart_of hA hoj hoi hgt with h | h
    · obtain ⟨s1, s2, s3⟩ := Oper.apart_spec h
      rcases hlook with hl | hl
      · exact absurd hl (s3 d hd)
      · exact absurd hd (s2 d hl)
    · rw [r2 i t.o hoi h]
      simp [below]; omega

theorem env_same {d : Nat} (hlook : d ∈ oj.looksAt ops) : foldE L 0 tr E0 d = foldE (below j) 0 tr E0 d :=
  foldE_congr tr 0 E0 E0 rfl fun i t ht hd => by
    rw [Nat.zero_add]
    by_cases hne : i = j
    · subst hne; rw [hj]; simp [below]
    · exact writers_e hB hA hm hL hoj hj hr ht hd (.inl hlook) hne

omit hA in
include hF in
theorem eff_writers (hx : exAt ops j = false) {i k : Nat} {t : Tr} (hTr : Trace P gl ops.toList B effs base 0 E0 O0 tr) (ht : tr[i]? = some t) (hw : t.w = true) (hk : k ∈ t.e.keys (base + i)) (hT : k < base ∨ (B.getD j 0).testBit (k - base) = true ∨ k = base + j) (hne : i ≠ j) : L i = below j i := by
  obtain ⟨r1, r2⟩ := ready_bits hB hL hoj hj hr
  have hoi := tr_op hm ht
  have hjl : j < ops.size := (Array.getElem?_eq_some_iff.1 hoj).1
  have hok := (trace_at tr 0 E0 O0 hTr i t ht).1
  rw [Nat.zero_add] at hok
  have heff : okEff ops.toList.length B effs base i t.o.op t.e := by
    rcases hok with ⟨_, _, _, _, h, _⟩ | ⟨h, _⟩
    · exact h
    · rw [hw] at h; cases h
  have fromEff : i ∈ effs → L i = below j i := fun hi => by
    obtain ⟨e1, e2⟩ := eff_order hF hi hjl hx
    rcases Nat.lt_or_gt_of_ne hne with hlt | hgt
    · rw [r1 i (e2 hlt)]; simp [below, hlt]
    · rw [r2 i t.o hoi (e1 hgt)]; simp [below]; omega
  have fromSwap : ∀ q, q = k → swapB ops.toList.length B base i q = true → L i = below j i := fun q hq hs => by
    subst hq
    obtain ⟨s1, s2, s3⟩ := swapB_spec hs
    rcases hT with h | h | h
    · omega
    · obtain ⟨e1, e2⟩ := s3 j (by simpa using hjl) (Ne.symm hne) h
      rcases Nat.lt_or_gt_of_ne hne with hlt | hgt
      · rw [r1 i (e2 hlt)]; simp [below, hlt]
      · rw [r2 i t.o hoi (e1 hgt)]; simp [below]; omega
    · rw [h, Nat.add_sub_cancel_left] at s2
      have hlt := bit_lt hB i i t.o (Nat.le_refl _) hoi j s2
      rw [r2 i t.o hoi s2]; simp [below]; omega
  have fromNew : k = base + i → L i = below j i := fun hki => by
    rcases hT with h | h | h
    · omega
    · rw [hki, Nat.add_sub_cancel_left] at h
      have hlt := bit_lt hB j j oj (Nat.le_refl _) hoj i h
      rw [r1 i h]; simp [below, hlt]
    · exact absurd (by omega) hne
  cases he : t.e with
  | none => rw [he] at hk; simp [Eff.keys] at hk
  | turn q o =>
    rw [he] at heff hk
    simp only [Eff.keys, List.mem_singleton] at hk
    exact heff.1.elim fromEff (fromSwap q hk.symm)
  | swap q o =>
    rw [he] at heff hk
    simp only [Eff.keys, List.mem_cons, List.not_mem_nil, or_false] at hk
    rcases hk with hk | hk
    · exact heff.1.elim fromEff (fromSwap q hk.symm)
    · exact fromNew hk
  | drop ks =>
    rw [he] at heff hk
    simp only [Eff.keys] at hk
    exact heff.1.elim fromEff fun h => fromSwap k rfl (List.all_eq_true.1 h k hk)
  | pass ks os =>
    rw [he] at heff hk
    simp only [Eff.keys] at hk
    refine heff.1.elim fromEff fun h => ?_
    have h1 := List.all_eq_true.1 h k hk
    simp only [Bool.or_eq_true, decide_eq_true_eq] at h1
    exact h1.elim fromNew (fromSwap k rfl)
  | new o =>
    rw [he] at hk
    simp only [Eff.keys, List.mem_singleton] at hk
    exact fromNew hk
end
end Go.Proofs.Ytpibdbjlilpfiaa
/- Regions whose order is open: one walk serves every order. -/
namespace Go.Proofs.Ytpibdbjlilpfiaa
set_option linter.all false
open Go Go.RowKit

def upL (L : Nat → Bool) (j : Nat) : Nat → Bool := fun k => if k = j then true else L k

section
variable {P : Program} {gl : GL} {ops : Array Oper} {B effs : List Nat} {base nt : Nat} {tr : List Tr} {E0 : Nat → Option AV} {O0 : Nat → Option Obj1} {L : Nat → Bool}

theorem upL_below {i j : Nat} : below (j + 1) i = upL (below j) j i := by
  unfold below upL
  by_cases h : i = j
  · simp [h]
  · rw [if_neg h]
    by_cases h2 : i < j
    · simp [h2]; omega
    · simp [h2]; omega

theorem env_step (hB : bitsOk ops.toList B = true) (hA : apartOk ops B = true) (hm : tr.map Tr.o = ops.toList) (hL : Closed ops L) {j : Nat} {t : Tr} (ht : tr[j]? = some t) (hTr : Trace P gl ops.toList B effs base 0 E0 O0 tr) (hj : L j = false)
    (hr : ∀ e ∈ t.o.after, Region.binds .any e = true → L e.on = true) : foldE (upL L j) 0 tr E0 = t.env (foldE L 0 tr E0) := by
  have hoj := tr_op hm ht
  have hat := (trace_at tr 0 E0 O0 hTr j t ht).2.1
  rw [Nat.zero_add] at hat
  funext d
  by_cases hd : t.o.dst = some d
  · have h1 : foldE (upL L j) 0 tr E0 d = foldE (below (j + 1)) 0 tr E0 d := foldE_congr tr 0 E0 E0 rfl fun i u hu hud => by
      rw [Nat.zero_add, upL_below]
      unfold upL
      by_cases hne : i = j
      · simp [hne]
      · rw [if_neg hne, if_neg hne]
        exact writers_e hB hA hm hL hoj hj hr hu hud (.inr hd) hne
    rw [h1, hat]
    simp only [Tr.env, hd, upd1_self]
  · have h1 : foldE (upL L j) 0 tr E0 d = foldE L 0 tr E0 d := foldE_congr tr 0 E0 E0 rfl fun i u hu hud => by
      rw [Nat.zero_add]
      unfold upL
      rw [if_neg]
      rintro rfl
      rw [ht] at hu
      injection hu with hu
      subst hu
      exact hd hud
    rw [h1]
    unfold Tr.env
    cases hd' : t.o.dst with
    | none => rfl
    | some d' =>
      symm
      exact upd1_ne fun e => hd (by rw [hd', e])

theorem obj_step (hB : bitsOk ops.toList B = true) (hF : effsOk ops B effs = true) (hm : tr.map Tr.o = ops.toList) (hL : Closed ops L) {j : Nat} {t : Tr} (ht : tr[j]? = some t) (hTr : Trace P gl ops.toList B effs base 0 E0 O0 tr) (hj : L j = false)
    (hr : ∀ e ∈ t.o.after, Region.binds .any e = true → L e.on = true) : foldO (upL L j) base 0 tr O0 = t.obj (base + j) (foldO L base 0 tr O0) := by
  have hoj := tr_op hm ht
  have hat := (trace_at tr 0 E0 O0 hTr j t ht).2.2
  rw [Nat.zero_add] at hat
  have hok := (trace_at tr 0 E0 O0 hTr j t ht).1
  rw [Nat.zero_add] at hok
  obtain ⟨r1, r2⟩ := ready_bits hB hL hoj hj hr
  funext k
  by_cases hk : t.w = true ∧ k ∈ t.e.keys (base + j)
  · obtain ⟨hw, hk⟩ := hk
    have heff : okEff ops.toList.length B effs base j t.o.op t.e := by
      rcases hok with ⟨_, _, _, _, h, _⟩ | ⟨h, _⟩
      · exact h
      · rw [hw] at h; cases h
    have h1 : foldO (upL L j) base 0 tr O0 k = foldO (below (j + 1)) base 0 tr O0 k := foldO_congr tr 0 O0 O0 rfl fun i u hu huw huk => by
      rw [Nat.zero_add] at huk ⊢
      rw [upL_below]
      unfold upL
      by_cases hne : i = j
      · simp [hne]
      · rw [if_neg hne, if_neg hne]
        have all : j ∈ effs → L i = below j i := fun hje => by
          have hil : i < ops.size := (Array.getElem?_eq_some_iff.1 (tr_op hm hu)).1
          have hxi : exAt ops i = false := by
            rw [exAt_of (tr_op hm hu)]
            have hoki := (trace_at tr 0 E0 O0 hTr i u hu).1
            rcases hoki with ⟨_, _, _, _, h, _⟩ | ⟨h, _⟩
            · exact okEff_ex h fun e => by rw [e] at huk; simp [Eff.keys] at huk
            · rw [huw] at h; cases h
          obtain ⟨e1, e2⟩ := eff_order hF hje hil hxi
          rcases Nat.lt_or_gt_of_ne hne with hlt | hgt
          · rw [r1 i (e1 hlt)]; simp [below, hlt]
          · rw [r2 i u.o (tr_op hm hu) (e2 hgt)]; simp [below]; omega
        have hxj : t.e ≠ .none → exAt ops j = false := fun h => by rw [exAt_of hoj]; exact okEff_ex heff h
        have sw : t.e ≠ .none → swapB ops.toList.length B base j k = true → L i = below j i := fun hn h => eff_writers hB hF hm hL hoj hj hr (hxj hn) hTr hu huw huk (.inr (.inl (swapB_spec h).2.1)) hne
        have nw : t.e ≠ .none → k = base + j → L i = below j i := fun hn h => eff_writers hB hF hm hL hoj hj hr (hxj hn) hTr hu huw huk (.inr (.inr h)) hne
        cases he : t.e with
        | none => rw [he] at hk; simp [Eff.keys] at hk
        | turn q o =>
          rw [he] at heff hk sw
          simp only [Eff.keys, List.mem_singleton] at hk
          subst hk
          exact heff.1.elim all (sw (by simp))
        | swap q o =>
          rw [he] at heff hk sw nw
          simp only [Eff.keys, List.mem_cons, List.not_mem_nil, or_false] at hk
          rcases hk with hk | hk
          · subst hk
            exact heff.1.elim all (sw (by simp))
          · exact nw (by simp) hk
        | drop ks =>
          rw [he] at heff hk sw
          simp only [Eff.keys] at hk
          exact heff.1.elim all fun h => sw (by simp) (List.all_eq_true.1 h k hk)
        | pass ks os =>
          rw [he] at heff hk sw nw
          simp only [Eff.keys] at hk
          refine heff.1.elim all fun h => ?_
          have h1 := List.all_eq_true.1 h k hk
          simp only [Bool.or_eq_true, decide_eq_true_eq] at h1
          exact h1.elim (nw (by simp)) (sw (by simp))
        | new o =>
          rw [he] at hk nw
          simp only [Eff.keys, List.mem_singleton] at hk
          exact nw (by simp) hk
    rw [h1, hat]
    simp only [Tr.obj, hw, if_true]
    cases he : t.e with
    | none => rw [he] at hk; simp [Eff.keys] at hk
    | new o =>
      rw [he] at hk
      simp only [Eff.keys, List.mem_singleton] at hk
      simp only [Eff.app, hk, upd1_self]
    | turn q o =>
      rw [he] at hk
      simp only [Eff.keys, List.mem_singleton] at hk
      simp only [Eff.app, hk, upd1_self]
    | swap q o =>
      rw [he] at hk
      simp only [Eff.keys, List.mem_cons, List.not_mem_nil, or_false] at hk
      simp only [Eff.app, upd1]
      rcases hk with hk | hk
      · by_cases h2 : k = base + j
        · rw [if_pos h2, if_pos h2]
        · rw [if_neg h2, if_neg h2, if_pos hk, if_pos hk]
      · rw [if_pos hk, if_pos hk]
    | drop ks =>
      rw [he] at hk
      simp only [Eff.keys] at hk
      simp only [Eff.app, hk, if_true]
    | pass ks os =>
      rw [he] at hk
      simp only [Eff.keys, List.mem_append] at hk
      simp only [Eff.app]
      cases hlk : look os k with
      | some o => rfl
      | none =>
        have hks : k ∈ ks := by
          rcases hk with hk | hk
          · exact hk
          · exfalso
            have : ∀ {l : List (Nat × Obj1)}, k ∈ l.map (·.1) → look l k ≠ none := by
              intro l
              induction l with
              | nil => intro h; simp at h
              | cons p l ih =>
                intro h
                obtain ⟨q, x⟩ := p
                simp only [look]
                split
                · simp
                · rename_i hq
                  simp only [List.map_cons, List.mem_cons] at h
                  exact ih (h.resolve_left fun e => hq e.symm)
            exact this hk hlk
        simp only [hks, if_true]
  · have h1 : foldO (upL L j) base 0 tr O0 k = foldO L base 0 tr O0 k := foldO_congr tr 0 O0 O0 rfl fun i u hu huw huk => by
      rw [Nat.zero_add] at huk ⊢
      unfold upL
      rw [if_neg]
      rintro rfl
      rw [ht] at hu
      injection hu with hu
      subst hu
      exact hk ⟨huw, huk⟩
    rw [h1]
    unfold Tr.obj
    split
    · rename_i hw
      exact (Eff.app_ne fun h => hk ⟨hw, h⟩).symm
    · rfl

theorem obj_same (hB : bitsOk ops.toList B = true) (hF : effsOk ops B effs = true) (hm : tr.map Tr.o = ops.toList) (hL : Closed ops L) {j : Nat} {t : Tr} (ht : tr[j]? = some t) (hTr : Trace P gl ops.toList B effs base 0 E0 O0 tr) (hj : L j = false)
    (hr : ∀ e ∈ t.o.after, Region.binds .any e = true → L e.on = true) (hx : exAt ops j = false) {k : Nat} (hk : k < base ∨ (B.getD j 0).testBit (k - base) = true) : foldO L base 0 tr O0 k = foldO (below j) base 0 tr O0 k := by
  have hoj := tr_op hm ht
  refine foldO_congr tr 0 O0 O0 rfl fun i u hu huw huk => ?_
  rw [Nat.zero_add] at huk ⊢
  by_cases hne : i = j
  · subst hne; rw [hj]; simp [below]
  ·  exact eff_writers hB hF hm hL hoj hj hr hx hTr hu huw huk (hk.imp id .inl) hne

/-- Whatever order is drawn. -/
theorem drawn_any {c : Ctx} {Q : Exit → Act → World → Prop} (hgl : c.gl = gl) (hB : bitsOk ops.toList B = true) (hA : apartOk ops B = true) (hF : effsOk ops B effs = true) (hd : ops.toList.all (dstOk nt) = true) (hm : tr.map Tr.o = ops.toList) (hTr : Trace P gl ops.toList B effs base 0 E0 O0 tr)
    (hend : ∀ a w σ, SRep c (foldE (fun _ => true) 0 tr E0) (foldO (fun _ => true) base 0 tr O0) (fun k => k < base + ops.size) nt a w σ → Q .normal a w) :
    ∀ (fuel : Nat) (listed : Array Bool) (a : Act) (w : World) (σ : Nat → Value), listed.size = ops.size → Closed ops (fun j => listed.getD j false) → ((List.range ops.size).filter fun j => !listed.getD j false).length = fuel →
      SRep c (foldE (fun j => listed.getD j false) 0 tr E0) (foldO (fun j => listed.getD j false) base 0 tr O0) (fun k => k < base ∨ ∃ i, listed.getD i false = true ∧ k = base + i) nt a w σ → wpAny P .any ops Q fuel listed a w := by
  have hlen : tr.length = ops.size := by have := congrArg List.length hm; simpa using this
  have getD_tf : ∀ (listed : Array Bool) (j : Nat), listed.size = ops.size → j < ops.size → listed.getD j true = listed.getD j false := fun listed j hs hj => by
    have : j < listed.size := by omega
    simp [Array.getD_eq_getD_getElem?, this]
  -- all are listed if none is ready
  have allListed : ∀ (listed : Array Bool), listed.size = ops.size → Region.ready .any ops listed = [] → ∀ j, j < ops.size → listed.getD j false = true := by
    intro listed hs hr j
    induction j using Nat.strongRecOn with
    | _ j ih =>
      intro hj
      cases hl : listed.getD j false with
      | true => rfl
      | false =>
        have hmem : j ∈ Region.ready .any ops listed := by
          rw [mem_ready]
          refine ⟨by rw [getD_tf listed j hs hj]; exact hl, ops[j], Array.getElem?_eq_getElem hj, fun e he hb => ?_⟩
          have h1 := zip_all hB (show ops.toList[j]? = some ops[j] by simp [hj])
          simp only [Bool.and_eq_true] at h1
          have h2 := Array.all_eq_true_iff_forall_mem.1 h1.1 e he
          simp [hb] at h2
          exact ih e.on h2 (by omega)
        rw [hr] at hmem
        cases hmem
  have atEnd : ∀ (listed : Array Bool) (a : Act) (w : World) (σ : Nat → Value), listed.size = ops.size → (∀ j, j < ops.size → listed.getD j false = true) →
      SRep c (foldE (fun j => listed.getD j false) 0 tr E0) (foldO (fun j => listed.getD j false) base 0 tr O0) (fun k => k < base ∨ ∃ i, listed.getD i false = true ∧ k = base + i) nt a w σ → Q .normal a w := fun listed a w σ hs hall h => by
    have e1 : foldE (fun j => listed.getD j false) 0 tr E0 = foldE (fun _ => true) 0 tr E0 := by
      funext d
      exact foldE_congr tr 0 E0 E0 rfl fun i t ht _ => by
        have : i < tr.length := (List.getElem?_eq_some_iff.1 ht).1
        rw [Nat.zero_add]
        exact hall i (by omega)
    have e2 : foldO (fun j => listed.getD j false) base 0 tr O0 = foldO (fun _ => true) base 0 tr O0 := by
      funext d
      exact foldO_congr tr 0 O0 O0 rfl fun i t ht _ _ => by
        have : i < tr.length := (List.getElem?_eq_some_iff.1 ht).1
        rw [Nat.zero_add]
        exact hall i (by omega)
    rw [e1, e2] at h
    refine hend a w σ (h.al_ext fun k hk => ?_)
    rcases hk with hk | ⟨i, hi, rfl⟩
    · omega
    · have : i < listed.size := by
        rcases Nat.lt_or_ge i listed.size with h' | h'
        · exact h'
        · simp [Array.getD_eq_getD_getElem?, h'] at hi
      omega
  intro fuel
  induction fuel with
  | zero =>
    intro listed a w σ hs _ hf h
    have hall : ∀ j, j < ops.size → listed.getD j false = true := fun j hj => by
      cases hl : listed.getD j false with
      | true => rfl
      | false =>
        have : j ∈ (List.range ops.size).filter fun j => !listed.getD j false := List.mem_filter.2 ⟨List.mem_range.2 hj, by rw [hl]; rfl⟩
        rw [List.eq_nil_of_length_eq_zero hf] at this
        cases this
    refine ⟨List.eq_nil_iff_forall_not_mem.2 fun j hj => ?_, atEnd listed a w σ hs hall h⟩
    rw [mem_ready] at hj
    obtain ⟨h1, o, ho, _⟩ := hj
    have hjl : j < ops.size := (Array.getElem?_eq_some_iff.1 ho).1
    rw [getD_tf listed j hs hjl, hall j hjl] at h1
    cases h1
  | succ fuel ih =>
    intro listed a w σ hs hcl hf h
    refine ⟨fun hr => atEnd listed a w σ hs (allListed listed hs hr) h, fun j hjr => ?_⟩
    rw [mem_ready] at hjr
    obtain ⟨hj1, oj, hoj, hedges⟩ := hjr
    have hjl : j < ops.size := (Array.getElem?_eq_some_iff.1 hoj).1
    rw [getD_tf listed j hs hjl] at hj1
    obtain ⟨t, ht⟩ : ∃ t, tr[j]? = some t := ⟨tr[j], List.getElem?_eq_getElem (by omega)⟩
    have hto := tr_op hm ht
    rw [hoj] at hto
    injection hto with hto
    subst hto
    have hok := (trace_at tr 0 E0 O0 hTr j t ht).1
    rw [Nat.zero_add] at hok
    have hup : ∀ i, (listed.setIfInBounds j true).getD i false = upL (fun j => listed.getD j false) j i := fun i => by
      unfold upL
      by_cases hij : i = j
      · subst hij
        have : i < listed.size := by omega
        simp [Array.getD_eq_getD_getElem?, this]
      · rw [if_neg hij]
        simp [Array.getD_eq_getD_getElem?, Array.getElem?_setIfInBounds_ne (Ne.symm hij)]
    have hupf : (fun i => (listed.setIfInBounds j true).getD i false) = upL (fun j => listed.getD j false) j := funext hup
    have hcl' : Closed ops (fun i => (listed.setIfInBounds j true).getD i false) := by
      rw [hupf]
      intro q o ho hq e he hb
      unfold upL at hq ⊢
      by_cases heq : e.on = j
      · rw [if_pos heq]
      · rw [if_neg heq]
        by_cases hqj : q = j
        · subst hqj
          rw [hoj] at ho
          injection ho with ho
          subst ho
          exact hedges e he hb
        · rw [if_neg hqj] at hq
          exact hcl q o ho hq e he hb
    have hcount : ((List.range ops.size).filter fun i => !(listed.setIfInBounds j true).getD i false).length = fuel := by
      have h1 : ∀ (l : List Nat), l.Nodup → j ∈ l → (l.filter fun i => !(listed.setIfInBounds j true).getD i false).length + 1 = (l.filter fun i => !listed.getD i false).length := by
        intro l
        induction l with
        | nil => intro _ h; cases h
        | cons x r ihr =>
          intro hn hmem
          rw [List.nodup_cons] at hn
          by_cases hxj : x = j
          · subst hxj
            have h2 : (r.filter fun i => !(listed.setIfInBounds x true).getD i false) = r.filter fun i => !listed.getD i false := List.filter_congr fun i hi => by
              rw [hup i]
              unfold upL
              rw [if_neg]
              rintro rfl
              exact hn.1 hi
            rw [List.filter_cons, List.filter_cons, hup x, h2]
            simp [upL, hj1]
          · have hjr : j ∈ r := by
              rcases List.mem_cons.1 hmem with h' | h'
              · exact absurd h'.symm hxj
              · exact h'
            have h2 := ihr hn.2 hjr
            have hx' : (listed.setIfInBounds j true).getD x false = listed.getD x false := by
              rw [hup x]
              unfold upL
              rw [if_neg hxj]
            cases hlx : listed.getD x false with
            | false =>
              rw [List.filter_cons_of_pos (by rw [hx', hlx]; rfl), List.filter_cons_of_pos (by rw [hlx]; rfl)]
              simp only [List.length_cons]
              omega
            | true =>
              rw [List.filter_cons_of_neg (by rw [hx', hlx]; simp), List.filter_cons_of_neg (by rw [hlx]; simp)]
              exact h2
      have := h1 (List.range ops.size) List.nodup_range (List.mem_range.2 hjl)
      omega
    have henv := env_step hB hA hm hcl ht hTr hj1 hedges
    have hobj := obj_step hB hF hm hcl ht hTr hj1 hedges
    have hal : ∀ k, (k < base ∨ ∃ i, (listed.setIfInBounds j true).getD i false = true ∧ k = base + i) ↔ ((k < base ∨ ∃ i, listed.getD i false = true ∧ k = base + i) ∨ k = base + j) := fun k => by
      constructor
      · rintro (hk | ⟨i, hi, rfl⟩)
        · exact .inl (.inl hk)
        · rw [hup i] at hi
          unfold upL at hi
          by_cases hij : i = j
          · exact .inr (by rw [hij])
          · rw [if_neg hij] at hi
            exact .inl (.inr ⟨i, hi, rfl⟩)
      · rintro ((hk | ⟨i, hi, rfl⟩) | rfl)
        · exact .inl hk
        · refine .inr ⟨i, ?_, rfl⟩
          rw [hup i]
          unfold upL
          by_cases hij : i = j
          · rw [if_pos hij]
          · rw [if_neg hij]; exact hi
        · exact .inr ⟨j, by rw [hup j]; simp [upL], rfl⟩
    have next : ∀ a' w' σ', SRep c (t.env (foldE (fun j => listed.getD j false) 0 tr E0)) (t.obj (base + j) (foldO (fun j => listed.getD j false) base 0 tr O0)) (fun k => (k < base ∨ ∃ i, listed.getD i false = true ∧ k = base + i) ∨ k = base + j) nt a' w' σ' →
        wpAny P .any ops Q fuel (listed.setIfInBounds j true) a' w' := fun a' w' σ' h' => by
      refine ih (listed.setIfInBounds j true) a' w' σ' (by simpa using hs) hcl' hcount ?_
      rw [hupf, henv, hobj]
      exact h'.al_ext fun k hk => (hal k).2 hk
    have hdj : dstOk nt t.o = true := List.all_eq_true.1 hd t.o (by rw [← hm]; exact List.mem_map.2 ⟨t, List.mem_of_getElem? ht, rfl⟩)
    have hwant : ∀ b, WantE ops.toList t.o (foldE (below j) 0 tr E0) b → Region.wanted t.o (yielded ops a.tmps) = b := fun b hwb => by
      unfold WantE at hwb
      cases hg : t.o.guard with
      | none => rw [hg] at hwb; simp only at hwb; simp [Region.wanted, hg, hwb]
      | some jb =>
        obtain ⟨g, want⟩ := jb
        rw [hg] at hwb
        obtain ⟨og, tt, h1, h2, h34⟩ := hwb
        have hlook : tt ∈ t.o.looksAt ops := by
          have : (ops[g]?).bind (·.dst) = some tt := by
            have h1' : ops[g]? = some og := by simpa using h1
            rw [h1']; exact h2
          simp [Oper.looksAt, hg, this]
        have h5 := env_same (E0 := E0) hB hA hm hcl hoj hj1 hedges hlook
        rw [← h5] at h34
        rcases h34 with ⟨cc, h3, h4⟩ | ⟨h3, h4⟩
        · have hv := rep_bool (h.env tt _ h3)
          have hy := yielded_of h1 h2 hv
          simp only [Region.wanted, hg, hy, h4]
          cases cc <;> cases want <;> rfl
        · have hy := yielded_none h1 h2 (rep_und' (h.env tt _ h3))
          simp only [Region.wanted, hg, hy, h4]
          rfl
    unfold wpOp
    simp only [hoj]
    rcases hok with ⟨hw, hwe, htouch, hst, heff, hmv⟩ | ⟨hw, hwe⟩
    · rw [if_pos (hwant true hwe)]
      have hsame : ∀ x ∈ t.o.op.operands, getE gl (foldE (fun j => listed.getD j false) 0 tr E0) x = getE gl (foldE (below j) 0 tr E0) x := fun x hx => by
        cases x with
        | tmp d =>
          have hlook : d ∈ t.o.looksAt ops := List.mem_append_left _ (List.mem_filterMap.2 ⟨.tmp d, by simpa using hx, rfl⟩)
          exact env_same (E0 := E0) hB hA hm hcl hoj hj1 hedges hlook
        | const v => rfl
        | global g => rfl
        | func f => rfl
      have hst' : Step P gl (foldE (fun j => listed.getD j false) 0 tr E0) (foldO (fun j => listed.getD j false) base 0 tr O0) t.o (base + j) t.v t.e := by
        by_cases hmove : ∃ x, t.o.op = .move x
        · obtain ⟨x, hx⟩ := hmove
          obtain ⟨u, h1, h2, h3⟩ := hmv x hx
          rw [h2, h3]
          exact st_move hx ((hsame x (by simp [hx, Op.operands])).trans h1)
        · refine hst.agree hsame fun x hx y hy k hk => ?_
          have hk' := touchL_spec htouch.1 x (by simpa using hx) y hy k hk
          refine obj_same hB hF hm hcl ht hTr hj1 hedges ?_ hk'
          rw [exAt_of hoj]
          cases hex : isEx t.o.op with
          | false => rfl
          | true =>
            rcases exL_spec htouch.2 hex with h | h
            · exact absurd h hmove
            · have := h x hx y hy
              rw [this] at hk
              cases hk
      refine .inl (hst' c _ _ (fun k => k < base ∨ ∃ i, listed.getD i false = true ∧ k = base + i) nt a w σ hgl h ?_ ⟨fun _ _ => rfl, fun _ _ _ _ _ _ => rfl⟩ _ _ fun v' w' σ' hs' hx => next _ w' σ' ?_)
      · rintro (hk | ⟨i, hi, hk⟩)
        · omega
        · have : i = j := by omega
          subst this
          rw [hj1] at hi
          cases hi
      · unfold Tr.obj Tr.env
        rw [if_pos hw]
        cases hdst : t.o.dst with
        | none =>
          simp only [hw, if_true]
          exact hs'
        | some d =>
          simp only [dstOk, hdst, decide_eq_true_eq] at hdj
          simp only [hw, if_true]
          cases hv : t.v with
          | none => exact hs'.wipe
          | some x => exact hs'.put hdj (hx x hv)
    · rw [if_neg (by rw [hwant false hwe]; simp)]
      refine next _ w σ ?_
      unfold Tr.obj Tr.env
      rw [hw]
      simp only [Bool.false_eq_true, if_false]
      have h' := h.al_ext (al' := fun k => (k < base ∨ ∃ i, listed.getD i false = true ∧ k = base + i) ∨ k = base + j) fun k hk => .inl hk
      cases hdst : t.o.dst with
      | none => exact h'
      | some d =>
        simp only [dstOk, hdst, decide_eq_true_eq] at hdj
        exact h'.put hdj rep_und
end
end Go.Proofs.Ytpibdbjlilpfiaa
/- Rules of code: regions, what is forgotten, what is known, the way in and out. -/
namespace Go.Proofs.Ytpibdbjlilpfiaa
set_option linter.all false
open Go Go.RowKit

def pruneL {α : Type} : List Nat → List (Nat × α) → List (Nat × α)
  | [], _ => []
  | t :: r, env => match look env t with
    | some v => (t, v) :: pruneL r env
    | none => pruneL r env
def St.prune (live : List Nat) (s : St) : St := ⟨pruneL live s.env, s.own, s.nxt⟩

theorem look_prune {α : Type} : ∀ (live : List Nat) (env : List (Nat × α)) (t : Nat) (v : α), look (pruneL live env) t = some v → look env t = some v
  | [], _, _, _, h => by simp [pruneL, look] at h
  | k :: r, env, t, v, h => by
    simp only [pruneL] at h
    split at h
    · rename_i u hu
      simp only [look] at h
      split at h
      · rename_i hk; subst hk; rw [hu]; exact h
      · exact look_prune r env t v h
    · exact look_prune r env t v h

section
variable {P : Program} {gl : GL} {tb : Nat → Option TI} {nt : Nat} {Q : AExit → St → Prop} {s : St}

theorem SR.prune {c : Ctx} {a : Act} {w : World} {σ : Nat → Value} (live : List Nat) (h : SR c nt s a w σ) : SR c nt (s.prune live) a w σ := SRep.less h fun t x hx => look_prune live s.env t x hx

theorem sr_empty {c : Ctx} {s : St} {a : Act} {w : World} {σ : Nat → Value} (h : SRep c (look s.env) (fun _ => none) (fun k => k < s.nxt) nt a w σ) : SR c nt ⟨s.env, [], s.nxt⟩ a w σ := h
/-- A region in the text's order; 'live': what is read behind it. -/
theorem AW.region (htb : TbOk P tb) {id : Nat} {ops : List Oper} (live : List Nat) (hd : ops.all (dstOk nt) = true) (h : AE P gl tb ops (fun x s => Q (.panic x) ⟨s.env, [], s.nxt⟩) (fun s' => Q .normal (s'.prune live)) ops s) : AW P gl nt (.region id ops.toArray false) Q s := fun c a w σ hgl hp hs =>
  wp_region_list (by
    have h' : AE P gl tb ops.toArray.toList (fun x s => Q (.panic x) ⟨s.env, [], s.nxt⟩) (fun s' => Q .normal (s'.prune live)) ops s := h
    exact AE_sound (ops := ops.toArray) htb hgl (fun s' a' w' σ' hq hs' => ⟨.normal, s'.prune live, σ', hq, hs'.prune live, .normal⟩) (fun x s v' a' w' σ' hx hs' hr => ⟨.panic x, ⟨s.env, [], s.nxt⟩, σ', hx, sr_empty hs', .panic x v' hr⟩) ops s a w σ h' hd hs)

/-- A region whose order is open. -/
theorem AW.regionD (htb : TbOk P tb) (hmix : P.follows .mixedOrders = true) {id : Nat} {ops : List Oper} (live : List Nat) (B effs : List Nat) (hchk : drawOk ops.toArray B effs = true) (hd : ops.all (dstOk nt) = true)
    (h : AED P gl tb ops B effs s.nxt (fun s' => Q .normal (s'.prune live)) ops 0 s) : AW P gl nt (.region id ops.toArray true) Q s := fun c a w σ hgl _ hs => by
  obtain ⟨tr, s', h1, h2, h3, h4, h5, h6⟩ := trace_of (all := ops) htb ops 0 s (by simp) h
  simp only [drawOk, Bool.and_eq_true] at hchk
  obtain ⟨⟨hB, hA⟩, hF⟩ := hchk
  refine wp_region_any hmix ?_
  have hs' : SRep c (look s.env) (look s.own) (fun k => k < s.nxt) nt a { w with drawn := w.drawn + 1 } σ := SRep.grow hs ⟨rfl, rfl, rfl, Nat.le_refl _, fun _ _ _ => rfl⟩
  have hfalse : ∀ j, (Array.replicate ops.toArray.size false).getD j false = false := fun j => by
    simp [Array.getD_eq_getD_getElem?, Array.getElem?_replicate]
    split <;> rfl
  refine drawn_any (base := s.nxt) (tr := tr) (E0 := look s.env) (O0 := look s.own) (Q := APost c nt Q) hgl hB hA hF hd h1 h2 (fun a' w' σ' hh => ?_) _ _ a _ σ (by simp) (fun j o ho hj => by
      have h9 : (Array.replicate ops.toArray.size false).getD j false = true := hj
      rw [hfalse] at h9
      cases h9) ?_ ?_
  · refine ⟨.normal, s'.prune live, σ', h3, SR.prune live ?_, .normal⟩
    unfold SR
    rw [h4, h5, h6]
    simpa using hh
  · have : ((List.range ops.toArray.size).filter fun j => !(Array.replicate ops.toArray.size false).getD j false) = List.range ops.toArray.size := List.filter_eq_self.2 fun j _ => by rw [hfalse]; rfl
    rw [this]
    simp
  · rw [foldE_none _ _ _ (fun k _ => hfalse k), foldO_none _ _ _ (fun k _ => hfalse k)]
    exact hs'.al_ext fun k hk => .inl hk

/-! ### Less is known -/
theorem RepA.congr {w : World} {ok : Nat → Prop} {σ σ' : Nat → Value} {x : AV} {v : Value} (h : RepA w ok σ x v) : (∀ k ∈ x.ids, σ' k = σ k) → RepA w ok σ' x v := by
  induction h with
  | d x v h => exact fun _ => .d x v h
  | own k =>
    intro hs
    have := hs k (by simp [AV.ids])
    rw [← this]
    exact .own k
  | ref k off b h => exact fun hs => .ref k off b (by rw [hs k (by simp [AV.ids])]; exact h)
  | elt k sz j o b h => exact fun hs => .elt k sz j o b (by rw [hs k (by simp [AV.ids])]; exact h)
  | agg cs vs hl _ h1 ih =>
    intro hs
    refine .agg cs vs hl (fun i c v hc hv => ih i c v hc hv fun k hk => hs k ?_) h1
    exact ids_mem hc hk
  | tup cs vs hl _ ih =>
    intro hs
    refine .tup cs vs hl (fun i c v hc hv => ih i c v hc hv fun k hk => hs k ?_)
    exact ids_mem hc hk
where
  ids_mem : ∀ {cs : List AV} {i : Nat} {c : AV}, cs[i]? = some c → ∀ {k : Nat}, k ∈ c.ids → k ∈ AV.idsL cs
    | [], i, c, h, _, _ => by simp at h
    | x :: r, 0, c, h, k, hk => by simp at h; subst h; exact List.mem_append_left _ hk
    | x :: r, i + 1, c, h, k, hk => List.mem_append_right _ (ids_mem (by simpa using h) hk)

def Obj1.ids : Obj1 → List Nat
  | .box _ cs => AV.idsL cs
  | .row .. => []
  | .iter .. => []
  | .map _ => []
theorem RepO.congr {w : World} {ok : Nat → Prop} {σ σ' : Nat → Value} {o : Obj1} {v : Value} (h : RepO w ok σ o v) (hs : ∀ k ∈ o.ids, σ' k = σ k) : RepO w ok σ' o v := by
  cases h with
  | box fr cs b t vs hb hl h1 h => exact .box fr cs b t vs hb hl h1 fun i c v hc hv => (h i c v hc hv).congr fun k hk => hs k (RepA.congr.ids_mem hc hk)
  | row fr t sz xs v vs ho hp hm hsz h1 h => exact .row fr t sz xs v vs ho hp hm hsz h1 h
  | iter s pos b h0 => exact .iter s pos b h0
  | map es b cl ms h0 hl h => exact .map es b cl ms h0 hl h

def allBelow (n : Nat) : List Nat → Prop
  | [] => True
  | k :: r => k < n ∧ allBelow n r
theorem allBelow_spec {n : Nat} : ∀ {l : List Nat}, allBelow n l → ∀ k ∈ l, k < n
  | [], _, k, hk => by cases hk
  | x :: r, h, k, hk => by
    rcases List.mem_cons.1 hk with rfl | hk
    · exact h.1
    · exact allBelow_spec h.2 k hk

/-- The first one knows no more than the second one; all that it names is below its own number. -/
def envLe (s' : St) : List (Nat × AV) → Prop
  | [] => True
  | (t, v) :: r => look s'.env t = some v ∧ envLe s' r
def ownLe (s' : St) : List (Nat × Obj1) → Prop
  | [] => True
  | (k, o) :: r => look s'.own k = some o ∧ ownLe s' r
def idsEnv (n : Nat) : List (Nat × AV) → Prop
  | [] => True
  | (_, v) :: r => allBelow n v.ids ∧ idsEnv n r
def idsOwn (n : Nat) : List (Nat × Obj1) → Prop
  | [] => True
  | (k, o) :: r => k < n ∧ allBelow n o.ids ∧ idsOwn n r
structure St.le (s s' : St) : Prop where
  env : envLe s' s.env
  own : ownLe s' s.own
  ie : idsEnv s.nxt s.env
  io : idsOwn s.nxt s.own

theorem envLe_spec {s' : St} : ∀ {l : List (Nat × AV)}, envLe s' l → ∀ t v, look l t = some v → look s'.env t = some v
  | [], _, t, v, h => by simp [look] at h
  | (k, x) :: r, h, t, v, hl => by
    simp only [look] at hl
    split at hl
    · rename_i hk; subst hk; rw [← hl]; exact h.1
    · exact envLe_spec h.2 t v hl
theorem ownLe_spec {s' : St} : ∀ {l : List (Nat × Obj1)}, ownLe s' l → ∀ t v, look l t = some v → look s'.own t = some v
  | [], _, t, v, h => by simp [look] at h
  | (k, x) :: r, h, t, v, hl => by
    simp only [look] at hl
    split at hl
    · rename_i hk; subst hk; rw [← hl]; exact h.1
    · exact ownLe_spec h.2 t v hl
theorem idsEnv_spec {n : Nat} : ∀ {l : List (Nat × AV)}, idsEnv n l → ∀ t v, look l t = some v → ∀ k ∈ v.ids, k < n
  | [], _, t, v, h => by simp [look] at h
  | (k, x) :: r, h, t, v, hl => by
    simp only [look] at hl
    split at hl
    · injection hl with hl; subst hl; exact allBelow_spec h.1
    · exact idsEnv_spec h.2 t v hl
theorem idsOwn_spec {n : Nat} : ∀ {l : List (Nat × Obj1)}, idsOwn n l → ∀ t v, look l t = some v → t < n ∧ ∀ k ∈ v.ids, k < n
  | [], _, t, v, h => by simp [look] at h
  | (k, x) :: r, h, t, v, hl => by
    simp only [look] at hl
    split at hl
    · rename_i hk; injection hl with hl; subst hl; subst hk; exact ⟨h.1, allBelow_spec h.2.1⟩
    · exact idsOwn_spec h.2.2 t v hl

/-- The numbers below which a call's own state began. -/
theorem SR.le {c : Ctx} {a : Act} {w : World} {σ : Nat → Value} {s' : St} (h : SR c nt s' a w σ) (hle : s.le s') (hal : ∀ k, c.al0 k → k < s.nxt) : SR c nt s a w σ := by
  have hO := fun k o (hk : look s.own k = some o) => ownLe_spec hle.own k o hk
  have hE := fun t v (ht : look s.env t = some v) => envLe_spec hle.env t v ht
  have hkept : Kept w w (okk c (look s'.own) σ w) (okk c (look s.own) σ w) := fun b hb => ⟨⟨hb.1, hb.2.1, fun k o hk => hb.2.2 k o (hO k o hk)⟩, rfl⟩
  exact ⟨fun t x hx τ hτ => ((h.env t x (hE t x hx)).toA.congr fun k hk => hτ k (idsEnv_spec hle.ie t x hx k hk)).mono hkept,
    fun k o hk => ⟨(idsOwn_spec hle.io k o hk).1, fun τ hτ => ((h.own k o (hO k o hk)).2.toO.congr fun j hj => hτ j ((idsOwn_spec hle.io k o hk).2 j hj)).mono hkept fun _ _ => rfl⟩,
    fun k k' o o' h1 h2 => h.dis k k' o o' (hO _ _ h1) (hO _ _ h2), fun k o h1 => h.mine k o (hO _ _ h1), h.frame, h.low, h.mlow, h.size, h.os, h.tape, h.output, fun k hk => ⟨hal k hk, (h.ag k hk).2⟩, h.defers, h.nt, h.gstep hkept fun _ _ => rfl⟩

theorem AW.weaken {code : Code} (s' : St) (hle : s'.le s) (h : AW P gl nt code Q s') : AW P gl nt code Q s := fun c a w σ hgl hp hs => h c a w σ hgl hp (SR.le hs hle fun k hk => absurd hk (hp.al0 k))

/-- What is known of lengths. -/
theorem AW.len {code : Code} {t : Nat} {xs : List (List D)} (ht : look s.env t = some (.d (.slice xs))) (h : xs.length ≤ 9223372036854775807 → AW P gl nt code Q s) : AW P gl nt code Q s := fun c a w σ hgl hp hs => by
  refine h ?_ c a w σ hgl hp hs
  have h1 := (hs.env t _ ht).d_inv
  generalize a.tmps.getD t undef = v at h1
  cases h1 with
  | nil => simp
  | empty => simp
  | slice _ b off cap sz f hok hcap hmax => simp only [maxLen] at hmax; omega
theorem AW.strlen {code : Code} {t : Nat} {b : ByteArray} (ht : look s.env t = some (.d (.str b))) (h : b.size ≤ 9223372036854775807 → AW P gl nt code Q s) : AW P gl nt code Q s := fun c a w σ hgl hp hs => by
  refine h ?_ c a w σ hgl hp hs
  have := (rep_str (hs.env t _ ht)).2
  simp only [maxLen] at this
  omega

end
end Go.Proofs.Ytpibdbjlilpfiaa
/- What is written no more; numbers exchanged; the way into a function and out of it. -/
namespace Go.Proofs.Ytpibdbjlilpfiaa
set_option linter.all false
open Go Go.RowKit

inductive Frz where
  | row (xs : List (List D))
  | box (cs : List D)

mutual
def AV.fz (k : Nat) (f : Frz) : AV → AV
  | .own j => if j = k then (match f with
    | .row xs => .d (.slice xs)
    | .box _ => .own j) else .own j
  | .ref j off => if j = k then (match f with
    | .box cs => .d (.addr (cs.drop off))
    | .row _ => .ref j off) else .ref j off
  | .agg cs => mkAgg (AV.fzL k f cs)
  | .tup cs => .tup (AV.fzL k f cs)
  | .d x => .d x
  | .elt p q r u => .elt p q r u
def AV.fzL (k : Nat) (f : Frz) : List AV → List AV
  | [] => []
  | x :: r => x.fz k f :: AV.fzL k f r
end
theorem fzL_len {k : Nat} {f : Frz} : ∀ {cs : List AV}, (AV.fzL k f cs).length = cs.length
  | [] => rfl
  | x :: r => by simp [AV.fzL, fzL_len]
theorem fzL_get {k : Nat} {f : Frz} : ∀ {cs : List AV} {i : Nat} {c : AV}, (AV.fzL k f cs)[i]? = some c → ∃ c', cs[i]? = some c' ∧ c = c'.fz k f
  | [], i, c, h => by simp [AV.fzL] at h
  | x :: r, 0, c, h => by simp [AV.fzL] at h; exact ⟨x, rfl, h.symm⟩
  | x :: r, i + 1, c, h => by simp [AV.fzL] at h; simpa using fzL_get h

/-- What the object says once nobody writes it. -/
def FrzRep (w : World) (ok : Nat → Prop) (f : Frz) (u : Value) : Prop := match f with
  | .row xs => Rep w ok (.slice xs) u
  | .box cs => Rep w ok (.addr cs) u ∧ ∃ b, u = .pointer (some ⟨b, 0, none⟩)

theorem mkAgg_repA {w : World} {ok : Nat → Prop} {σ : Nat → Value} {cs : List AV} {v : Value} (h : RepA w ok σ (.agg cs) v) : RepA w ok σ (mkAgg cs) v :=
  (mkAgg_rep (al := fun _ => True) (fun _ hτ => h.congr fun k _ => hτ k trivial)).toA

theorem RepA.fz {w : World} {ok : Nat → Prop} {σ : Nat → Value} {k : Nat} {f : Frz} (hf : FrzRep w ok f (σ k)) {x : AV} {v : Value} (h : RepA w ok σ x v) : RepA w ok σ (x.fz k f) v := by
  induction h with
  | d x v h => exact .d x v h
  | own j =>
    simp only [AV.fz]
    split
    · rename_i hj
      subst hj
      cases f with
      | row xs => exact .d _ _ hf
      | box cs => exact .own j
    · exact .own j
  | ref j off b hb =>
    simp only [AV.fz]
    split
    · rename_i hj
      subst hj
      cases f with
      | row xs => exact .ref j off b hb
      | box cs =>
        obtain ⟨h1, b', h2⟩ := hf
        rw [h2] at h1 hb
        simp [blkOf] at hb
        subst hb
        have := rep_addr_drop (n := off) h1
        rw [Nat.zero_add] at this
        exact .d _ _ this
    · exact .ref j off b hb
  | elt p q r u e he => exact .elt p q r u e he
  | agg cs vs hl _ h1 ih =>
    simp only [AV.fz]
    refine mkAgg_repA (.agg _ vs (by rw [fzL_len, hl]) (fun i c v hc hv => ?_) h1)
    obtain ⟨c', hc', rfl⟩ := fzL_get hc
    exact ih i c' v hc' hv
  | tup cs vs hl _ ih =>
    simp only [AV.fz]
    refine .tup _ vs (by rw [fzL_len, hl]) (fun i c v hc hv => ?_)
    obtain ⟨c', hc', rfl⟩ := fzL_get hc
    exact ih i c' v hc' hv

def Obj1.fz (k : Nat) (f : Frz) : Obj1 → Obj1
  | .box fr cs => .box fr (AV.fzL k f cs)
  | .row fr t sz xs => .row fr t sz xs
  | .iter s pos => .iter s pos
  | .map es => .map es

/-- A box's cells stay one cell each. -/
theorem RepO.fz {w : World} {ok : Nat → Prop} {σ : Nat → Value} {k : Nat} {f : Frz} (hf : FrzRep w ok f (σ k)) {o : Obj1} {v : Value} (h : RepO w ok σ o v) : RepO w ok σ (o.fz k f) v := by
  cases h with
  | box fr cs b t vs hb hl h1 h =>
    refine .box fr _ b t vs hb (by rw [fzL_len, hl]) h1 (fun i c v hc hv => ?_)
    obtain ⟨c', hc', rfl⟩ := fzL_get hc
    exact (h i c' v hc' hv).fz hf
  | row fr t sz xs v vs ho hp hm hsz h1 h => exact .row fr t sz xs v vs ho hp hm hsz h1 h
  | iter s pos b h0 => exact .iter s pos b h0
  | map es b cl ms h0 hl h => exact .map es b cl ms h0 hl h

def mapE (k : Nat) (f : Frz) : List (Nat × AV) → List (Nat × AV)
  | [] => []
  | (t, v) :: r => (t, v.fz k f) :: mapE k f r
def mapO (k : Nat) (f : Frz) : List (Nat × Obj1) → List (Nat × Obj1)
  | [] => []
  | (t, v) :: r => (t, v.fz k f) :: mapO k f r
theorem look_mapE {k : Nat} {f : Frz} : ∀ {l : List (Nat × AV)} {t : Nat} {v : AV}, look (mapE k f l) t = some v → ∃ v', look l t = some v' ∧ v = v'.fz k f
  | [], t, v, h => by simp [mapE, look] at h
  | (q, x) :: r, t, v, h => by
    simp only [mapE, look] at h ⊢
    split at h
    · rename_i hq; injection h with h; subst h; exact ⟨x, by rw [if_pos hq], rfl⟩
    · rename_i hq; rw [if_neg hq]; exact look_mapE h
theorem look_mapO {k : Nat} {f : Frz} : ∀ {l : List (Nat × Obj1)} {t : Nat} {v : Obj1}, look (mapO k f l) t = some v → ∃ v', look l t = some v' ∧ v = v'.fz k f
  | [], t, v, h => by simp [mapO, look] at h
  | (q, x) :: r, t, v, h => by
    simp only [mapO, look] at h ⊢
    split at h
    · rename_i hq; injection h with h; subst h; exact ⟨x, by rw [if_pos hq], rfl⟩
    · rename_i hq; rw [if_neg hq]; exact look_mapO h

theorem Obj1.fr_fz {k : Nat} {f : Frz} {o : Obj1} : (o.fz k f).fr = o.fr := by cases o <;> rfl

theorem box_rep {al : Nat → Prop} {w : World} {ok ok' : Nat → Prop} {σ : Nat → Value} {fr : Bool} {cs : List AV} {ds : List D} (hds : allD cs = some ds) {v : Value} (h : RepSO al w ok σ (.box fr cs) v) (hk : Kept w w ok ok') (hb : ∀ b, blkOf v = some b → ok' b) :
    Rep w ok' (.addr ds) v ∧ ∃ b, v = .pointer (some ⟨b, 0, none⟩) := by
  obtain ⟨b, t, vs, e1, e2, e3, e4, e5⟩ := box_cells h
  have hcs := allD_eq hds
  subst hcs
  rw [List.length_map] at e3
  subst e1
  refine ⟨.addr ds b 0 (fun i => vs.getD i (.bool false)) (hb b rfl) (fun i hi => ?_) (fun i => ?_) (fun i c hc => ?_), b, rfl⟩
  · rw [Nat.zero_add, cell_of_row w b i vs.toArray t (0, 0) e2, List.getElem?_toArray, List.getElem?_eq_getElem (by omega), List.getD_eq_getElem?_getD, List.getElem?_eq_getElem (by omega)]
    rfl
  · rw [List.getD_eq_getElem?_getD]
    cases hh : vs[i]? with
    | none => rfl
    | some u => exact e4 u (List.mem_of_getElem? hh)
  · have hlt := (List.getElem?_eq_some_iff.1 hc).1
    rw [List.getD_eq_getElem?_getD, List.getElem?_eq_getElem (by omega)]
    exact ((e5 i (.d c) _ (by simp [hc]) (List.getElem?_eq_getElem (by omega))).d_inv).mono hk

section
variable {P : Program} {gl : GL} {tb : Nat → Option TI} {nt : Nat} {Q : AExit → St → Prop} {s : St}

def frzOf : Obj1 → Option Frz
  | .row true _ _ xs => some (.row xs)
  | .box true cs => match allD cs with
    | some ds => some (.box ds)
    | none => none
  | _ => none

def St.fz (s : St) (k : Nat) (f : Frz) : St := ⟨mapE k f s.env, mapO k f (delL s.own k), s.nxt⟩

theorem SR.fz {c : Ctx} {a : Act} {w : World} {σ : Nat → Value} {k : Nat} {o : Obj1} {f : Frz} (h : SR c nt s a w σ) (hk : look s.own k = some o) (hf : frzOf o = some f) : SR c nt (s.fz k f) a w σ := by
  have hd := SRep.drop (k := k) h
  have hfr : o.fr = .own := by
    unfold frzOf at hf
    split at hf
    · rfl
    · rfl
    · cases hf
  have hblk := SRep.dropped h hk hfr
  have hkept : Kept w w (okk c (look s.own) σ w) (okk c (upd1 (look s.own) k none) σ w) := fun b hb => ⟨⟨hb.1, hb.2.1, fun j o1 hj => hb.2.2 j o1 (by
    by_cases e : j = k
    · subst e; rw [upd1_self] at hj; cases hj
    · rwa [upd1_ne e] at hj)⟩, rfl⟩
  have hrep : FrzRep w (okk c (upd1 (look s.own) k none) σ w) f (σ k) := by
    have ho := (h.own k o hk).2
    unfold frzOf at hf
    split at hf
    · injection hf with hf
      subst hf
      exact row_rep ho hkept hblk
    · rename_i cs
      split at hf
      · rename_i ds hds
        injection hf with hf
        subst hf
        exact box_rep hds ho hkept hblk
      · cases hf
    · cases hf
  have hal : k < s.nxt := (h.own k o hk).1
  have hO : ∀ j o1, look (mapO k f (delL s.own k)) j = some o1 → ∃ o2, upd1 (look s.own) k none j = some o2 ∧ o1 = o2.fz k f := fun j o1 hj => by
    obtain ⟨o2, h1, h2⟩ := look_mapO hj
    rw [look_del] at h1
    exact ⟨o2, h1, h2⟩
  have hk2 : Kept w w (okk c (upd1 (look s.own) k none) σ w) (okk c (look (mapO k f (delL s.own k))) σ w) := fun b hb => ⟨⟨hb.1, hb.2.1, fun j o1 hj => by
    obtain ⟨o2, h1, _⟩ := hO j o1 hj
    exact hb.2.2 j o2 h1⟩, rfl⟩
  have hrep' : ∀ τ : Nat → Value, (∀ j, j < s.nxt → τ j = σ j) → FrzRep w (okk c (upd1 (look s.own) k none) σ w) f (τ k) := fun τ hτ => by rw [hτ k hal]; exact hrep
  refine ⟨fun t x hx τ hτ => ?_, fun j o1 hj => ?_, fun j j' o1 o2 h1 h2 hne => ?_, fun j o1 h1 => ?_, hd.frame, hd.low, hd.mlow, hd.size, hd.os, hd.tape, hd.output, hd.ag, hd.defers, hd.nt, hd.gstep hk2 fun _ _ => rfl⟩
  · obtain ⟨x', hx', rfl⟩ := look_mapE hx
    exact ((hd.env t x' hx' τ hτ).fz (hrep' τ hτ)).mono hk2
  · obtain ⟨o2, h1, rfl⟩ := hO j o1 hj
    refine ⟨(hd.own j o2 h1).1, fun τ hτ => ?_⟩
    exact (((hd.own j o2 h1).2 τ hτ).fz (hrep' τ hτ)).mono hk2 fun _ _ => rfl
  · obtain ⟨p1, q1, _⟩ := hO j o1 h1
    obtain ⟨p2, q2, _⟩ := hO j' o2 h2
    exact hd.dis j j' p1 p2 q1 q2 hne
  · obtain ⟨p1, q1, rfl⟩ := hO j o1 h1
    rw [Obj1.fr_fz]
    exact hd.mine j p1 q1

/-- An own object is written no more: it is data. -/
theorem AW.freeze {code : Code} (k : Nat) {o : Obj1} {f : Frz} (hk : look s.own k = some o) (hf : frzOf o = some f) (h : AW P gl nt code Q (s.fz k f)) : AW P gl nt code Q s := fun c a w σ hgl hp hs => h c a w σ hgl hp (SR.fz hs hk hf)

/-! ### The way in and out -/
def argsE : Nat → List D → List (Nat × AV)
  | _, [] => []
  | i, x :: r => (i, .d x) :: argsE (i + 1) r
theorem look_argsE : ∀ {l : List D} {i t : Nat} {v : AV}, look (argsE i l) t = some v → ∃ x, i ≤ t ∧ l[t - i]? = some x ∧ v = .d x
  | [], i, t, v, h => by simp [argsE, look] at h
  | x :: r, i, t, v, h => by
    simp only [argsE, look] at h
    split at h
    · rename_i hi; subst hi; injection h with h; exact ⟨x, Nat.le_refl _, by simp, h.symm⟩
    · obtain ⟨y, h1, h2, h3⟩ := look_argsE h
      exact ⟨y, by omega, by rw [show t - i = (t - (i + 1)) + 1 by omega, List.getElem?_cons_succ]; exact h2, h3⟩

def okEnd (c : Ctx) (w : World) : Nat → Prop := fun b => b < w.heap.size ∧ (c.ok0 b ∨ c.w0.heap.size ≤ b)

theorem asD_rep {c : Ctx} {O : Nat → Option Obj1} {E : Nat → Option AV} {al : Nat → Prop} {a : Act} {w : World} {σ : Nat → Value} (h : SRep c E O al nt a w σ) {x : AV} {d : D} (hd : asD O x = some d) {v : Value} (hx : RepA w (okk c O σ w) σ x v) : Rep w (okEnd c w) d v := by
  refine asD_rep' h (fun b hb => ⟨⟨hb.1, hb.2.1⟩, rfl⟩) hd (fun k hk b hb => ?_) hx
  obtain ⟨t, sz, xs, hO⟩ := asD_row hd k hk
  exact ⟨(h.own k _ hO).2.toO.lt b hb, by
    rcases h.mine k _ hO b hb with ⟨h1, _⟩ | ⟨h1, _⟩
    · exact absurd rfl h1
    · exact .inr h1⟩
end
end Go.Proofs.Ytpibdbjlilpfiaa
/- The table of types, held by one computation; numbers exchanged; into a function and out of it. -/
namespace Go.Proofs.Ytpibdbjlilpfiaa
set_option linter.all false
open Go Go.RowKit

/-! ### The table -/
mutual
def cheap : D → Value → Bool
  | .int k n, .int k' n' => decide (k = k') && decide (n = n')
  | .bool b, .bool b' => b == b'
  | .str s, .string s' => decide (s = s') && decide (s.size ≤ maxLen)
  | .agg cs, .agg vs => cheapL cs vs.toList
  | .nils, .slice none 0 0 => true
  | .nilif, .nilIface => true
  | .nilp, .pointer none => true
  | .nilm, .map none => true
  | .nilfn, .nilFunc => true
  | .tup [], .tuple vs => vs.toList.isEmpty
  | _, _ => false
def cheapL : List D → List Value → Bool
  | [], [] => true
  | d :: ds, v :: vs => cheap d v && v.oneCell' && cheapL ds vs
  | _, _ => false
end

mutual
theorem cheap_ok : ∀ {d : D} {v : Value}, cheap d v = true → RepC d v := by
  intro d v h w ok
  unfold cheap at h
  split at h
  · simp only [Bool.and_eq_true, decide_eq_true_eq] at h; obtain ⟨rfl, rfl⟩ := h; exact .int _ _
  · simp only [beq_iff_eq] at h; subst h; exact .bool _
  · simp only [Bool.and_eq_true, decide_eq_true_eq] at h; obtain ⟨rfl, h⟩ := h; exact .str _ h
  · obtain ⟨h1, h2, h3⟩ := cheapL_ok h
    exact .agg _ _ h1 (fun i c v hc hv => h3 i c v hc hv w ok) h2
  · exact .nils
  · exact .nilif
  · exact .nilp
  · exact .nilm
  · exact .nilfn
  · rename_i vs
    have : vs = ([] : List Value).toArray := by cases vs; simp_all
    subst this
    exact .tup [] [] rfl (fun i c v hc _ => by simp at hc)
  · cases h
theorem cheapL_ok : ∀ {ds : List D} {vs : List Value}, cheapL ds vs = true → vs.length = ds.length ∧ (∀ v ∈ vs, v.oneCell' = true) ∧ ∀ (i : Nat) c v, ds[i]? = some c → vs[i]? = some v → RepC c v := by
  intro ds vs h
  unfold cheapL at h
  split at h
  · simp
  · rename_i d ds v vs
    simp only [Bool.and_eq_true] at h
    obtain ⟨⟨h0, h1⟩, h2⟩ := h
    obtain ⟨k1, k2, k3⟩ := cheapL_ok h2
    refine ⟨by simp [k1], fun u hu => ?_, fun i c u hc hu => ?_⟩
    · rcases List.mem_cons.1 hu with rfl | hu
      · exact h1
      · exact k2 u hu
    · cases i with
      | zero => simp at hc hu; subst hc; subst hu; exact cheap_ok h0
      | succ i => exact k3 i c u (by simpa using hc) (by simpa using hu)
  · cases h
end

def fldsCheck (P : Program) : List Field → List (Nat × Nat × Nat) → Bool
  | [], [] => true
  | f :: fs, (o, t, s) :: r => decide (f.offset = o) && decide (f.type = t) && decide ((P.info? t).map (·.size) = some s) && decide (s ≠ 0) && fldsCheck P fs r
  | _, _ => false
theorem fldsCheck_ok {P : Program} : ∀ {l : List Field} {r : List (Nat × Nat × Nat)}, fldsCheck P l r = true → FldsOk P l r
  | [], [], _ => trivial
  | f :: fs, (o, t, s) :: r, h => by
    simp only [fldsCheck, Bool.and_eq_true, decide_eq_true_eq] at h
    exact ⟨h.1.1.1.1, h.1.1.1.2, h.1.1.2, h.1.2, fldsCheck_ok h.2⟩
  | [], _ :: _, h => by simp [fldsCheck] at h
  | _ :: _, [], h => by simp [fldsCheck] at h

def kCheck (P : Program) (t : Nat) (k : TK) : Bool := match k, P.underlying t with
  | .int k, some (.int k') => decide (k' = k)
  | .bool, some .bool => true
  | .str, some .string => true
  | .struct fs, some (.struct l) => fldsCheck P l.toList fs
  | .arr n e sz, some (.array n' e') => decide (n' = n) && decide (e' = e) && decide ((P.info? e).map (·.size) = some sz)
  | .slice e sz, some (.slice e') => decide (e' = e) && decide ((P.info? e).map (·.size) = some sz)
  | .ptr e, some (.pointer e') => decide (e' = e)
  | .iface n, some (.interface ms) => decide (ms.size = n)
  | .func, some (.func ..) => true
  | .map k e, some (.map k' e') => decide (k' = k) && decide (e' = e)
  | _, _ => false
theorem kCheck_ok {P : Program} {t : Nat} {k : TK} (h : kCheck P t k = true) : k.ok P t := by
  unfold kCheck at h
  split at h
  · rename_i hu; simp only [decide_eq_true_eq] at h; subst h; exact hu
  · rename_i hu; exact hu
  · rename_i hu; exact hu
  · rename_i l hu; exact ⟨l, hu, fldsCheck_ok h⟩
  · rename_i hu; simp only [Bool.and_eq_true, decide_eq_true_eq] at h; obtain ⟨⟨rfl, rfl⟩, h⟩ := h; exact ⟨hu, h⟩
  · rename_i hu; simp only [Bool.and_eq_true, decide_eq_true_eq] at h; obtain ⟨rfl, h⟩ := h; exact ⟨hu, h⟩
  · rename_i hu; simp only [decide_eq_true_eq] at h; subst h; exact hu
  · rename_i ms hu; simp only [decide_eq_true_eq] at h; exact ⟨ms, hu, h⟩
  · rename_i hu; exact ⟨_, _, _, hu⟩
  · rename_i hu; simp only [Bool.and_eq_true, decide_eq_true_eq] at h; obtain ⟨rfl, rfl⟩ := h; exact hu
  · cases h

def tiCheck (P : Program) (t : Nat) (i : TI) : Bool := kCheck P t i.k && (i.eq.isEmpty || (decide (eqShape P 9 t = some i.eq) && !P.eqGuardType P.depth t)) && (match P.info? t with
  | some j => decide (j.size = i.size) && decide (j.bytes = i.bytes) && (match j.zero with
    | some z => cheap i.zd z && decide (z.cells.size = i.size)
    | none => false)
  | none => false)
theorem tiCheck_ok {P : Program} {t : Nat} {i : TI} (h : tiCheck P t i = true) : i.ok P t := by
  simp only [tiCheck, Bool.and_eq_true] at h
  obtain ⟨⟨h0, he⟩, h⟩ := h
  have he' : i.eq = [] ∨ (eqShape P 9 t = some i.eq ∧ P.eqGuardType P.depth t = false) := by simpa [List.isEmpty_iff] using he
  split at h
  · rename_i j hj
    simp only [Bool.and_eq_true, decide_eq_true_eq] at h
    obtain ⟨⟨h1, h2⟩, h⟩ := h
    split at h
    · rename_i z hz
      simp only [Bool.and_eq_true, decide_eq_true_eq] at h
      exact ⟨kCheck_ok h0, he', j, z, hj, h1, h2, hz, cheap_ok h.1, h.2⟩
    · cases h
  · cases h

def tblCheck (P : Program) : List (Nat × TI) → Bool
  | [] => true
  | (t, i) :: r => tiCheck P t i && tblCheck P r
theorem tblCheck_ok {P : Program} : ∀ {l : List (Nat × TI)}, tblCheck P l = true → TbOk P (look l)
  | [], _, t, i, h => by simp [look] at h
  | (k, j) :: r, h, t, i, hl => by
    simp only [tblCheck, Bool.and_eq_true] at h
    simp only [look] at hl
    split at hl
    · rename_i hk; subst hk; injection hl with hl; subst hl; exact tiCheck_ok h.1
    · exact tblCheck_ok h.2 t i hl

/-! ### Numbers exchanged -/
def sw (i j k : Nat) : Nat := if k = i then j else if k = j then i else k
theorem sw_sw (i j k : Nat) : sw i j (sw i j k) = k := by
  unfold sw
  split <;> split <;> (try split) <;> omega
theorem sw_lt {i j k n : Nat} (hi : i < n) (hj : j < n) (hk : k < n) : sw i j k < n := by
  unfold sw
  split
  · exact hj
  · split
    · exact hi
    · exact hk

mutual
def AV.sw (i j : Nat) : AV → AV
  | .d x => .d x
  | .own k => .own (Ytpibdbjlilpfiaa.sw i j k)
  | .ref k off => .ref (Ytpibdbjlilpfiaa.sw i j k) off
  | .elt k sz a o => .elt (Ytpibdbjlilpfiaa.sw i j k) sz a o
  | .agg cs => .agg (AV.swL i j cs)
  | .tup cs => .tup (AV.swL i j cs)
def AV.swL (i j : Nat) : List AV → List AV
  | [] => []
  | x :: r => x.sw i j :: AV.swL i j r
end
theorem swL_len {i j : Nat} : ∀ {cs : List AV}, (AV.swL i j cs).length = cs.length
  | [] => rfl
  | x :: r => by simp [AV.swL, swL_len]
theorem swL_get {i j : Nat} : ∀ {cs : List AV} {n : Nat} {c : AV}, (AV.swL i j cs)[n]? = some c → ∃ c', cs[n]? = some c' ∧ c = c'.sw i j
  | [], n, c, h => by simp [AV.swL] at h
  | x :: r, 0, c, h => by simp [AV.swL] at h; exact ⟨x, rfl, h.symm⟩
  | x :: r, n + 1, c, h => by simp [AV.swL] at h; simpa using swL_get h

theorem RepA.sw {w : World} {ok : Nat → Prop} {σ σ' : Nat → Value} {i j : Nat} (hσ : ∀ k, σ' (Ytpibdbjlilpfiaa.sw i j k) = σ k) {x : AV} {v : Value} (h : RepA w ok σ x v) : RepA w ok σ' (x.sw i j) v := by
  induction h with
  | d x v h => exact .d x v h
  | own k => simp only [AV.sw]; rw [← hσ k]; exact .own _
  | ref k off b h => exact .ref _ off b (by rw [hσ k]; exact h)
  | elt k sz a o b h => exact .elt _ sz a o b (by rw [hσ k]; exact h)
  | agg cs vs hl _ h1 ih =>
    refine .agg _ vs (by rw [swL_len, hl]) (fun i c v hc hv => ?_) h1
    obtain ⟨c', hc', rfl⟩ := swL_get hc
    exact ih i c' v hc' hv
  | tup cs vs hl _ ih =>
    refine .tup _ vs (by rw [swL_len, hl]) (fun i c v hc hv => ?_)
    obtain ⟨c', hc', rfl⟩ := swL_get hc
    exact ih i c' v hc' hv

def Obj1.sw (i j : Nat) : Obj1 → Obj1
  | .box fr cs => .box fr (AV.swL i j cs)
  | .row fr t sz xs => .row fr t sz xs
  | .iter s pos => .iter s pos
  | .map es => .map es
theorem Obj1.fr_sw {i j : Nat} {o : Obj1} : (o.sw i j).fr = o.fr := by cases o <;> rfl
theorem RepO.sw {w : World} {ok : Nat → Prop} {σ σ' : Nat → Value} {i j : Nat} (hσ : ∀ k, σ' (Ytpibdbjlilpfiaa.sw i j k) = σ k) {o : Obj1} {v : Value} (h : RepO w ok σ o v) : RepO w ok σ' (o.sw i j) v := by
  cases h with
  | box fr cs b t vs hb hl h1 h =>
    refine .box fr _ b t vs hb (by rw [swL_len, hl]) h1 (fun i c v hc hv => ?_)
    obtain ⟨c', hc', rfl⟩ := swL_get hc
    exact (h i c' v hc' hv).sw hσ
  | row fr t sz xs v vs ho hp hm hsz h1 h => exact .row fr t sz xs v vs ho hp hm hsz h1 h
  | iter s pos b h0 => exact .iter s pos b h0
  | map es b cl ms h0 hl h => exact .map es b cl ms h0 hl h

def swE (i j : Nat) : List (Nat × AV) → List (Nat × AV)
  | [] => []
  | (t, v) :: r => (t, v.sw i j) :: swE i j r
def swO (i j : Nat) : List (Nat × Obj1) → List (Nat × Obj1)
  | [] => []
  | (t, v) :: r => (sw i j t, v.sw i j) :: swO i j r
theorem look_swE {i j : Nat} : ∀ {l : List (Nat × AV)} {t : Nat} {v : AV}, look (swE i j l) t = some v → ∃ v', look l t = some v' ∧ v = v'.sw i j
  | [], t, v, h => by simp [swE, look] at h
  | (q, x) :: r, t, v, h => by
    simp only [swE, look] at h ⊢
    split at h
    · rename_i hq; injection h with h; subst h; exact ⟨x, by rw [if_pos hq], rfl⟩
    · rename_i hq; rw [if_neg hq]; exact look_swE h
theorem look_swO {i j : Nat} : ∀ {l : List (Nat × Obj1)} {t : Nat} {v : Obj1}, look (swO i j l) t = some v → ∃ v', look l (sw i j t) = some v' ∧ v = v'.sw i j
  | [], t, v, h => by simp [swO, look] at h
  | (q, x) :: r, t, v, h => by
    simp only [swO, look] at h ⊢
    split at h
    · rename_i hq
      injection h with h
      subst h
      subst hq
      exact ⟨x, by rw [sw_sw, if_pos rfl], rfl⟩
    · rename_i hq
      rw [if_neg (fun e => hq (by rw [e, sw_sw]))]
      exact look_swO h

section
variable {P : Program} {gl : GL} {tb : Nat → Option TI} {nt : Nat} {Q : AExit → St → Prop} {s : St}

def St.sw (s : St) (i j : Nat) : St := ⟨swE i j s.env, swO i j s.own, s.nxt⟩

theorem SR.sw {c : Ctx} {a : Act} {w : World} {σ : Nat → Value} {i j : Nat} (hi : i < s.nxt) (hj : j < s.nxt) (hp : c.plain) (h : SR c nt s a w σ) : SR c nt (s.sw i j) a w (fun k => σ (sw i j k)) := by
  have hk : Kept w w (okk c (look s.own) σ w) (okk c (look (swO i j s.own)) (fun k => σ (Ytpibdbjlilpfiaa.sw i j k)) w) := fun b hb => ⟨⟨hb.1, hb.2.1, fun k o hk => by
    obtain ⟨o', h1, _⟩ := look_swO hk
    exact hb.2.2 _ o' h1⟩, rfl⟩
  have hτ : ∀ τ : Nat → Value, (∀ k, k < s.nxt → τ k = σ (Ytpibdbjlilpfiaa.sw i j k)) → ∀ k, k < s.nxt → (fun k => τ (Ytpibdbjlilpfiaa.sw i j k)) k = σ k := fun τ hτ k hk => by
    show τ (Ytpibdbjlilpfiaa.sw i j k) = σ k
    rw [hτ _ (sw_lt hi hj hk), sw_sw]
  refine ⟨fun t x hx τ hτ' => ?_, fun k o hko => ?_, fun k k' o1 o2 h1 h2 hne => ?_, fun k o h1 => ?_, h.frame, h.low, h.mlow, h.size, h.os, h.tape, h.output, fun k hk => absurd hk (hp.al0 k), h.defers, h.nt, h.gstep hk fun _ _ => rfl⟩
  · obtain ⟨x', hx', rfl⟩ := look_swE hx
    exact ((h.env t x' hx' _ (hτ τ hτ')).sw fun k => rfl).mono hk
  · obtain ⟨o', h1, rfl⟩ := look_swO hko
    have h2 := h.own _ o' h1
    refine ⟨?_, fun τ hτ' => ?_⟩
    · have := sw_lt hi hj h2.1
      rwa [sw_sw] at this
    · exact ((h2.2 _ (hτ τ hτ')).sw fun k => rfl).mono hk fun _ _ => rfl
  · obtain ⟨p1, q1, _⟩ := look_swO h1
    obtain ⟨p2, q2, _⟩ := look_swO h2
    exact h.dis _ _ p1 p2 q1 q2 fun e => hne (by rw [← sw_sw i j k, e, sw_sw])
  · obtain ⟨p1, q1, rfl⟩ := look_swO h1
    rw [Obj1.fr_sw]
    exact h.mine _ p1 q1

theorem AW.swap {code : Code} (i j : Nat) (hi : i < s.nxt) (hj : j < s.nxt) (h : AW P gl nt code Q (s.sw i j)) : AW P gl nt code Q s := fun c a w σ hgl hp hs => h c a w _ hgl hp (SR.sw hi hj hp hs)
end

/-- More is known of a slot. -/
theorem SRep.know {c : Ctx} {E : Nat → Option AV} {O : Nat → Option Obj1} {al : Nat → Prop} {nt : Nat} {a : Act} {w : World} {σ : Nat → Value} {t : Nat} {x : AV} (h : SRep c E O al nt a w σ) (hx : RepS al w (okk c O σ w) σ x (a.tmps.getD t undef)) : SRep c (upd1 E t (some x)) O al nt a w σ := by
  refine ⟨fun t' y hy => ?_, h.own, h.dis, h.mine, h.frame, h.low, h.mlow, h.size, h.os, h.tape, h.output, h.ag, h.defers, h.nt, h.glob⟩
  by_cases ht : t' = t
  · subst ht
    rw [upd1_self] at hy
    injection hy with hy
    subst hy
    exact hx
  · rw [upd1_ne ht] at hy
    exact h.env t' y hy

/-- nil is taken for an own row without elements. -/
theorem AW.adopt {P : Program} {gl : GL} {nt : Nat} {Q : AExit → St → Prop} {s : St} {code : Code} (t te sz : Nat) (ht : look s.env t = some (.d .nils)) (hsz : 0 < sz) (h : AW P gl nt code Q ⟨(t, .own s.nxt) :: s.env, (s.nxt, .row true te sz []) :: s.own, s.nxt + 1⟩) : AW P gl nt code Q s := by
  intro c a w σ hgl hp hs
  have hv : a.tmps.getD t undef = .slice none 0 0 := by
    have h1 := (hs.env t _ ht).d_inv
    generalize a.tmps.getD t undef = v at h1
    cases h1
    rfl
  have hn := SRep.new (id := s.nxt) (o := .row true te sz []) (v := .slice none 0 0) hs (Go1.refl w none) (by omega) (fun b hb => by simp [blkOf] at hb) (fun ok' _ τ _ => .row true te sz [] (.slice none 0 0) [] ⟨by simp, .inl ⟨rfl, rfl⟩⟩ hsz (by simp) (by simp) (by simp) (fun i c v hc _ => by simp at hc))
  have hk := SRep.know (t := t) (x := .own s.nxt) hn (fun τ hτ => by
    have : a.tmps.getD t undef = τ s.nxt := by rw [hτ s.nxt (.inr rfl), hv]; simp [updσ]
    rw [this]
    exact .own _)
  refine h c a w (updσ σ s.nxt (.slice none 0 0)) hgl hp ?_
  unfold SR
  rw [look_cons, look_cons]
  rw [al_lt] at hk
  exact hk

/-- nil is taken for no elements. -/
def AV.norm1 : AV → AV
  | .d x => .d x.norm1
  | x => x
def AV.normE : AV → AV
  | .d x => .d x.norm
  | x => x
def Obj1.norm : Obj1 → Obj1
  | .box fr cs => .box fr (cs.map AV.norm1)
  | .row fr t sz xs => .row fr t sz (xs.map fun x => x.map D.norm1)
  | .iter s pos => .iter s pos
  | .map es => .map es
theorem Obj1.norm_fr (o : Obj1) : o.norm.fr = o.fr := by cases o <;> rfl
theorem RepA.norm1 {w : World} {ok : Nat → Prop} {σ : Nat → Value} {x : AV} {v : Value} (h : RepA w ok σ x v) : RepA w ok σ x.norm1 v := by
  cases x <;> first | exact h | exact .d _ _ h.d_inv.norm1
theorem RepA.normE {w : World} {ok : Nat → Prop} {σ : Nat → Value} {x : AV} {v : Value} (h : RepA w ok σ x v) : RepA w ok σ x.normE v := by
  cases x <;> first | exact h | exact .d _ _ h.d_inv.norm
theorem RepO.norm {w : World} {ok : Nat → Prop} {σ : Nat → Value} {o : Obj1} {v : Value} (h : RepO w ok σ o v) : RepO w ok σ o.norm v := by
  cases h with
  | box fr cs b t vs hb hl h1 h =>
    refine .box fr _ b t vs hb (by simpa using hl) h1 (fun i c v hc hv => ?_)
    rw [List.getElem?_map, Option.map_eq_some_iff] at hc
    obtain ⟨c', hc', rfl⟩ := hc
    exact (h i c' v hc' hv).norm1
  | row fr t sz xs v vs ho hpos hmax hsz h1 h =>
    have hfl : (xs.map fun x => x.map D.norm1).flatten = xs.flatten.map D.norm1 := by rw [List.map_flatten]
    refine .row fr t sz _ v vs (by rw [List.length_map]; exact ho) hpos (by rw [List.length_map]; exact hmax) (fun x hx => ?_) h1 (fun i c v hc hv => ?_)
    · obtain ⟨y, hy, rfl⟩ := List.mem_map.1 hx
      rw [List.length_map]
      exact hsz y hy
    · rw [hfl, List.getElem?_map, Option.map_eq_some_iff] at hc
      obtain ⟨c', hc', rfl⟩ := hc
      exact (h i c' v hc' hv).norm1
  | iter s pos b h0 => exact .iter s pos b h0
  | map es b cl ms h0 hl h => exact .map es b cl ms h0 hl h
theorem okk_upd {c : Ctx} {O : Nat → Option Obj1} {σ : Nat → Value} {w : World} {k : Nat} {o o' : Obj1} (hk : O k = some o) : okk c (upd1 O k (some o')) σ w = okk c O σ w := by
  funext b
  refine propext ⟨fun ⟨h1, h2, h3⟩ => ⟨h1, h2, fun j p hj => ?_⟩, fun ⟨h1, h2, h3⟩ => ⟨h1, h2, fun j p hj => ?_⟩⟩
  · by_cases hjk : j = k
    · exact h3 k o' (by simp [upd1]) |> fun h => hjk ▸ h
    · exact h3 j p (by rw [upd1_ne hjk]; exact hj)
  · by_cases hjk : j = k
    · subst hjk; exact h3 j o hk
    · rw [upd1_ne hjk] at hj; exact h3 j p hj
theorem SRep.own_mono {c : Ctx} {E : Nat → Option AV} {O : Nat → Option Obj1} {al : Nat → Prop} {nt : Nat} {a : Act} {w : World} {σ : Nat → Value} {k : Nat} {o o' : Obj1} (h : SRep c E O al nt a w σ) (hk : O k = some o) (hfr : o'.fr = o.fr) (hr : RepSO al w (okk c O σ w) σ o (σ k) → RepSO al w (okk c O σ w) σ o' (σ k)) : SRep c E (upd1 O k (some o')) al nt a w σ := by
  have hok := okk_upd (c := c) (σ := σ) (w := w) (o' := o') hk
  have old : ∀ j p, upd1 O k (some o') j = some p → ∃ q, O j = some q ∧ p.fr = q.fr := fun j p hj => by
    by_cases hjk : j = k
    · subst hjk
      rw [upd1_self] at hj
      injection hj with hj
      subst hj
      exact ⟨o, hk, hfr⟩
    · rw [upd1_ne hjk] at hj
      exact ⟨p, hj, rfl⟩
  refine ⟨fun t x hx => by rw [hok]; exact h.env t x hx, fun j p hj => ?_, fun j j' p p' hj hj' hne b hb => ?_, fun j p hj b hb => ?_, h.frame, h.low, h.mlow, h.size, h.os, h.tape, h.output, h.ag, h.defers, h.nt, by rw [hok]; exact h.glob⟩
  · by_cases hjk : j = k
    · subst hjk
      rw [upd1_self] at hj
      injection hj with hj
      subst hj
      have := h.own j o hk
      rw [hok]
      exact ⟨this.1, hr this.2⟩
    · rw [upd1_ne hjk] at hj
      rw [hok]
      exact h.own j p hj
  · obtain ⟨q, hq, _⟩ := old j p hj
    obtain ⟨q', hq', _⟩ := old j' p' hj'
    exact h.dis j j' q q' hq hq' hne b hb
  · obtain ⟨q, hq, hf⟩ := old j p hj
    rw [hf]
    exact h.mine j q hq b hb
theorem AW.norm {P : Program} {gl : GL} {nt : Nat} {Q : AExit → St → Prop} {s : St} {code : Code} (k : Nat) {o : Obj1} (hk : look s.own k = some o) (h : AW P gl nt code Q ⟨s.env, setL s.own k o.norm, s.nxt⟩) : AW P gl nt code Q s := by
  intro c a w σ hgl hp hs
  refine h c a w σ hgl hp ?_
  unfold SR
  rw [look_set]
  exact SRep.own_mono hs hk o.norm_fr fun hr τ hτ => (hr τ hτ).norm
theorem AW.normE {P : Program} {gl : GL} {nt : Nat} {Q : AExit → St → Prop} {s : St} {code : Code} (t : Nat) {x : AV} (ht : look s.env t = some x) (h : AW P gl nt code Q ⟨(t, x.normE) :: s.env, s.own, s.nxt⟩) : AW P gl nt code Q s := by
  intro c a w σ hgl hp hs
  refine h c a w σ hgl hp ?_
  unfold SR
  rw [look_cons]
  exact SRep.know hs fun τ hτ => (hs.env t x ht τ hτ).normE

/-! ### Into a function, and out of it -/
def outA (tb : Nat → Option TI) (E : Nat → Option AV) (O : Nat → Option Obj1) : ResultVar → Option D
  | .tmp t => match E t with
    | some x => asD O x
    | none => none
  | .cell a t => match tb t, E a with
    | some i, some (.ref k off) => match O k with
      | some (.box _ cs) => match readA i (cs.drop off) with
        | some x => asD O x.mk
        | none => none
      | _ => none
    | _, _ => none
def outL (tb : Nat → Option TI) (E : Nat → Option AV) (O : Nat → Option Obj1) : List ResultVar → Option (List D)
  | [] => some []
  | r :: rs => match outA tb E O r, outL tb E O rs with
    | some d, some ds => some (d :: ds)
    | _, _ => none
def outsA (tb : Nat → Option TI) (E : Nat → Option AV) (O : Nat → Option Obj1) (rs : List ResultVar) : Option D := match rs with
  | [r] => outA tb E O r
  | _ => match outL tb E O rs with
    | some ds => some (.tup ds)
    | none => none

section
variable {P : Program} {gl : GL} {tb : Nat → Option TI} {nt : Nat} {s : St}

def resOf (tmps : Array Value) : ResultVar → Sem Value
  | .tmp t => pure (tmps.getD t undef)
  | .cell a t => do loadVar t (← asAddr (tmps.getD a undef))

theorem outA_run (htb : TbOk P tb) {c : Ctx} {a : Act} {w : World} {σ : Nat → Value} (h : SR c nt s a w σ) {r : ResultVar} {d : D} (hr : outA tb (look s.env) (look s.own) r = some d) :
    ∃ v, (resOf a.tmps r).run P w = .ok v w ∧ Rep w (okEnd c w) d v := by
  cases r with
  | tmp t =>
    simp only [outA] at hr
    split at hr
    · rename_i x hx
      exact ⟨_, by simp [resOf], asD_rep h hr (h.env t x hx).toA⟩
    · cases hr
  | cell p t =>
    simp only [outA] at hr
    split at hr
    · rename_i i k off hi hp
      split at hr
      · rename_i fr cs hO
        split at hr
        · rename_i x hx
          have h1 := h.env p _ hp
          obtain ⟨b, hb, hv⟩ := h1.toA.ref_inv
          obtain ⟨b', t', vs, e1, e2, e3, e4, e5⟩ := box_cells (h.own k _ hO).2
          rw [e1] at hb
          simp [blkOf] at hb
          subst hb
          obtain ⟨v, hl, hv'⟩ := run_readA (al := fun k => k < s.nxt) (ok := okk c (look s.own) σ w) (σ := σ) (htb _ _ hi) b' off (cs.drop off) (vs.drop off) (by simp; omega) (fun j v hj => by
            rw [List.getElem?_drop] at hj
            rw [cell_of_row w b' (off + j) vs.toArray t' (0, 0) e2, List.getElem?_toArray, hj]) (fun v hv => e4 v (List.mem_of_mem_drop hv)) (fun j c' v hj hv => by
            rw [List.getElem?_drop] at hj hv
            exact e5 _ c' v hj hv) hx
          exact ⟨v, by simp [resOf, hv, asAddr, hl], asD_rep h hr (AV.mk_rep hv').toA⟩
        · cases hr
      · cases hr
    · cases hr

/-- A result as it is. -/
def outAV (tb : Nat → Option TI) (E : Nat → Option AV) (O : Nat → Option Obj1) : ResultVar → Option AV
  | .tmp t => E t
  | .cell a t => match tb t, E a with
    | some i, some (.ref k off) => match O k with
      | some (.box _ cs) => match readA i (cs.drop off) with
        | some x => some x.mk
        | none => none
      | _ => none
    | _, _ => none
theorem outAV_run (htb : TbOk P tb) {c : Ctx} {a : Act} {w : World} {σ : Nat → Value} (h : SR c nt s a w σ) {r : ResultVar} {d : AV} (hr : outAV tb (look s.env) (look s.own) r = some d) :
    ∃ v, (resOf a.tmps r).run P w = .ok v w ∧ RepS (fun k => k < s.nxt) w (okk c (look s.own) σ w) σ d v := by
  cases r with
  | tmp t =>
    simp only [outAV] at hr
    exact ⟨_, by simp [resOf], h.env t d hr⟩
  | cell p t =>
    simp only [outAV] at hr
    split at hr
    · rename_i i k off hi hp
      split at hr
      · rename_i fr cs hO
        split at hr
        · rename_i x hx
          cases hr
          have h1 := h.env p _ hp
          obtain ⟨b, hb, hv⟩ := h1.toA.ref_inv
          obtain ⟨b', t', vs, e1, e2, e3, e4, e5⟩ := box_cells (h.own k _ hO).2
          rw [e1] at hb
          simp [blkOf] at hb
          subst hb
          obtain ⟨v, hl, hv'⟩ := run_readA (al := fun k => k < s.nxt) (ok := okk c (look s.own) σ w) (σ := σ) (htb _ _ hi) b' off (cs.drop off) (vs.drop off) (by simp; omega) (fun j v hj => by
            rw [List.getElem?_drop] at hj
            rw [cell_of_row w b' (off + j) vs.toArray t' (0, 0) e2, List.getElem?_toArray, hj]) (fun v hv => e4 v (List.mem_of_mem_drop hv)) (fun j c' v hj hv => by
            rw [List.getElem?_drop] at hj hv
            exact e5 _ c' v hj hv) hx
          exact ⟨v, by simp [resOf, hv, asAddr, hl], AV.mk_rep hv'⟩
        · cases hr
      · cases hr
    · cases hr

theorem outL_run (htb : TbOk P tb) {c : Ctx} {a : Act} {w : World} {σ : Nat → Value} (h : SR c nt s a w σ) : ∀ {rs : List ResultVar} {ds : List D}, outL tb (look s.env) (look s.own) rs = some ds →
    ∃ vs : List Value, (rs.mapM (resOf a.tmps)).run P w = .ok vs w ∧ vs.length = ds.length ∧ ∀ (i : Nat) d v, ds[i]? = some d → vs[i]? = some v → Rep w (okEnd c w) d v
  | [], ds, hr => by simp [outL] at hr; subst hr; exact ⟨[], by simp, rfl, by simp⟩
  | r :: rs, ds, hr => by
    simp only [outL] at hr
    split at hr
    · rename_i d ds' h1 h2
      injection hr with hr
      subst hr
      obtain ⟨v, r1, r2⟩ := outA_run htb h h1
      obtain ⟨vs, r3, r4, r5⟩ := outL_run htb h h2
      refine ⟨v :: vs, by simp [List.mapM_cons, r1, r3], by simp [r4], fun i e u he hu => ?_⟩
      cases i with
      | zero => simp at he hu; subst he; subst hu; exact r2
      | succ i => exact r5 i e u (by simpa using he) (by simpa using hu)
    · cases hr

theorem results_eq (fn : Func) (tmps : Array Value) : results fn tmps = (do let l ← fn.results.toList.mapM (resOf tmps); pure (if h : l.toArray.size = 1 then l.toArray[0] else .tuple l.toArray)) := by
  have h1 : results fn tmps = (do let vs ← fn.results.mapM (resOf tmps); pure (if h : vs.size = 1 then vs[0] else .tuple vs)) := by
    have : (fun r : ResultVar => match r with
      | .tmp t => pure (tmps.getD t undef)
      | .cell a t => do loadVar t (← asAddr (tmps.getD a undef))) = resOf tmps := by funext r; cases r <;> rfl
    rw [← this]
    rfl
  rw [h1, Array.mapM_eq_mapM_toList]
  simp

theorem outs_run (htb : TbOk P tb) {c : Ctx} {a : Act} {w : World} {σ : Nat → Value} {fn : Func} {d : D} (h : SR c nt s a w σ) (hr : outsA tb (look s.env) (look s.own) fn.results.toList = some d) :
    ∃ v, (results fn a.tmps).run P w = .ok v w ∧ Rep w (okEnd c w) d v := by
  rw [results_eq]
  unfold outsA at hr
  split at hr
  · rename_i r hrs
    obtain ⟨v, r1, r2⟩ := outA_run htb h hr
    exact ⟨v, by simp [hrs, r1], r2⟩
  · rename_i hne
    split at hr
    · rename_i ds hds
      injection hr with hr
      subst hr
      obtain ⟨vs, r1, r2, r3⟩ := outL_run htb h hds
      have hlen : ∀ {rs : List ResultVar} {ds : List D}, outL tb (look s.env) (look s.own) rs = some ds → ds.length = rs.length := by
        intro rs
        induction rs with
        | nil => intro ds h; simp [outL] at h; subst h; rfl
        | cons r rs ih =>
          intro ds h
          simp only [outL] at h
          split at h
          · rename_i h2
            injection h with h
            subst h
            simp [ih h2]
          · cases h
      have hl := hlen hds
      have h1 : ¬ vs.length = 1 := fun e => by
        obtain ⟨r, hr⟩ := List.length_eq_one_iff.1 (hl.symm.trans (r2.symm.trans e))
        exact hne r hr
      refine ⟨.tuple vs.toArray, by simp [r1, h1], .tup ds vs r2 r3⟩
    · cases hr

/-- What a function's body leaves. -/
def retA (tb : Nat → Option TI) (rs : Array ResultVar) (res : D) : AExit → St → Prop
  | .normal, s | .ret, s => outsA tb (look s.env) (look s.own) rs.toList = some res
  | _, _ => False

theorem ret_eq {tb : Nat → Option TI} {rs : Array ResultVar} {res d : D} {s : St} (h : outsA tb (look s.env) (look s.own) rs.toList = some d) (hd : d = res) : retA tb rs res .ret s := hd ▸ h

def ctx0 (gl : GL) (w : World) (ok : Nat → Prop) : Ctx := ⟨gl, w, ok, fun _ => False, fun _ => undef, fun _ => False, fun _ => False, []⟩

theorem GL.ne_of {gl : GL} {b : Nat} (h : some b ≠ gl.tgt) : ∀ M, gl.memo = some M → M.m ≠ b := fun M hM e => h (by simp [GL.tgt, hM, e])
theorem Glob.out {gl : GL} {w w' : World} {ok : Nat → Prop} {O : Nat → Option Obj1} {σ : Nat → Value} (h : Glob gl w' (okk (ctx0 gl w ok) O σ w')) (hl : ∀ M, gl.memo = some M → M.m < w.heap.size ∧ ¬ ok M.m ∧ ¬ (ctx0 gl w ok).pass M.m) : Glob gl w' (fun b => b < w'.heap.size ∧ (ok b ∨ w.heap.size ≤ b)) :=
  h.mono (fun b hb => ⟨⟨hb.1, hb.2.1⟩, rfl⟩) fun M hM => ⟨rfl, fun h2 => by
    obtain ⟨h3, h4, _⟩ := hl M hM
    rcases h2.2 with h6 | h6
    · exact h4 h6
    · omega⟩
theorem Glob.out' {gl : GL} {w w' : World} {ok : Nat → Prop} {O : Nat → Option Obj1} {σ : Nat → Value} {p : Nat → Prop} (h : Glob gl w' (okk (ctx0 gl w ok) O σ w')) (hl : ∀ M, gl.memo = some M → M.m < w.heap.size ∧ ¬ ok M.m ∧ ¬ (ctx0 gl w ok).pass M.m) (hp : ∀ b, okk (ctx0 gl w ok) O σ w' b → p b) : Glob gl w' (fun b => b < w'.heap.size ∧ (ok b ∨ w.heap.size ≤ b) ∧ p b) :=
  h.mono (fun b hb => ⟨⟨hb.1, hb.2.1, hp b hb⟩, rfl⟩) fun M hM => ⟨rfl, fun h2 => by
    obtain ⟨h3, h4, _⟩ := hl M hM
    rcases h2.2.1 with h6 | h6
    · exact h4 h6
    · omega⟩
theorem args_len : ∀ {l : List D} {i t : Nat} {v : AV}, look (argsE i l) t = some v → t < i + l.length
  | [], _, _, _, h => by simp [argsE, look] at h
  | x :: r, i, t, v, h => by
    simp only [argsE, look] at h
    split at h
    · simp; omega
    · have := args_len h; simp; omega

/-- What a body leaves that returns a row of its own. -/
def retR (rs : Array ResultVar) (te : TypeId) (sz : Nat) (xs : List (List D)) : AExit → St → Prop
  | .normal, s | .ret, s => match rs.toList with
    | [.tmp t] => match look s.env t with
      | some (.own k) => look s.own k = some (.row true te sz xs)
      | some (.d .nils) => xs = [] ∧ 0 < sz
      | _ => False
    | _ => False
  | _, _ => False

theorem sr_start {fn : Func} {args : List D} {w : World} {ok : Nat → Prop} {vs : List Value} (hnt : args.length ≤ fn.ntmps) (hok : ∀ b, ok b → b < w.heap.size) (hgl : Glob gl w ok) (hl : vs.length = args.length)
    (hargs : ∀ (i : Nat) x v, args[i]? = some x → vs[i]? = some v → Rep w ok x v) : SR (ctx0 gl w ok) fn.ntmps ⟨argsE 0 args, [], 0⟩ { tmps := vs.toArray ++ Array.replicate (fn.ntmps - vs.toArray.size) undef, defers := [] } w fun _ => undef := by
  refine ⟨fun t x hx τ _ => ?_, fun k o hk => by simp [look] at hk, fun k k' o o' hk => by simp [look] at hk, fun k o hk => by simp [look] at hk, fun _ _ _ _ => rfl, fun b hb => ⟨hok b hb, fun h => h⟩, fun M hM => ⟨(hgl.memo M hM).2.1, (hgl.memo M hM).2.2, fun h => h⟩, Nat.le_refl _, rfl, rfl, rfl, fun k hk => hk.elim, rfl, by simp [hl]; omega, ?_⟩
  · obtain ⟨d, _, h2, rfl⟩ := look_argsE hx
    rw [Nat.sub_zero] at h2
    have hlt : t < vs.length := by rw [hl]; exact (List.getElem?_eq_some_iff.1 h2).1
    have hv : vs[t]? = some vs[t] := List.getElem?_eq_getElem hlt
    have hg : (vs.toArray ++ Array.replicate (fn.ntmps - vs.toArray.size) undef).getD t undef = vs[t] := by
      rw [Array.getD_eq_getD_getElem?, Array.getElem?_append_left (by simpa using hlt)]
      simp [hv]
    show RepA w _ τ _ ((vs.toArray ++ Array.replicate (fn.ntmps - vs.toArray.size) undef).getD t undef)
    rw [hg]
    exact .d _ _ ((hargs t d _ h2 hv).mono fun b hb => ⟨⟨hok b hb, .inl hb, fun k o hk => by simp [look] at hk⟩, rfl⟩)
  · exact hgl.mono (fun b hb => ⟨⟨hok b hb, .inl hb, fun k o hk => by simp [look] at hk⟩, rfl⟩) fun M hM => ⟨rfl, fun h => by
      obtain ⟨_, h4, h5⟩ := hgl.memo M hM
      rcases h.2.1 with h6 | h6
      · exact h5 h6
      · exact absurd h4 (Nat.not_lt.2 h6)⟩

theorem PConR.enter {f : Nat} {fn : Func} {code : Code} {args : List D} {te : TypeId} {sz : Nat} {xs : List (List D)} (hf : P.funcs[f]? = some fn) (hn : (fn.name == "runtime.NumGoroutine") = false) (hb : fn.body = some code) (hnt : args.length ≤ fn.ntmps)
    (h : AW P gl fn.ntmps code (retR fn.results te sz xs) ⟨argsE 0 args, [], 0⟩) : PConR P gl f args te sz xs := by
  refine ⟨⟨fn, hf, hn, by simp [hb]⟩, fun w ok vs hok hgl hl hargs => ?_⟩
  refine calls_of_wp hf hb ?_
  refine wp_mono (h (ctx0 gl w ok) _ w _ rfl ⟨fun _ h => h⟩ (sr_start hnt hok hgl hl hargs)) fun e a' w' ⟨ae, s', σ', q1, q2, q3⟩ => ?_
  have fin : (match fn.results.toList with
    | [.tmp t] => (match look s'.env t with
      | some (.own k) => look s'.own k = some (.row true te sz xs)
      | some (.d .nils) => xs = [] ∧ 0 < sz
      | _ => False)
    | _ => False) → a'.defers = [] ∧ ∃ v, (results fn a'.tmps).run P w' = .ok v w' ∧ ∃ v', Ending.returned v = .returned v' ∧ Go1 w w' gl.tgt ∧ Glob gl w' (fun b => b < w'.heap.size ∧ (ok b ∨ w.heap.size ≤ b) ∧ blkOf v' ≠ some b) ∧ (∀ b, blkOf v' = some b → w.heap.size ≤ b) ∧ ∀ (al : Nat → Prop) (σ : Nat → Value), RepSO al w' (fun b => b < w'.heap.size ∧ (ok b ∨ w.heap.size ≤ b) ∧ blkOf v' ≠ some b) σ (.row true te sz xs) v' := fun hq => by
    split at hq
    · rename_i t hrs
      split at hq
      · rename_i k hk
        have hv := (q2.env t _ hk).toA.own_inv
        have hO := q2.own k _ hq
        refine ⟨q2.defers, a'.tmps.getD t undef, by rw [results_eq, hrs]; simp [resOf], _, rfl, ⟨q2.os, q2.tape, q2.output, q2.size, fun b hb hn => q2.frame b hb (fun h => h) (GL.ne_of hn)⟩, q2.glob.out' q2.mlow (fun b hb => by rw [hv]; exact hb.2.2 k _ hq), fun b hb => ?_, fun al σ τ _ => ?_⟩
        · rw [hv] at hb
          rcases q2.mine k _ hq b hb with ⟨h1, _⟩ | ⟨h1, _⟩
          · exact absurd rfl h1
          · exact h1
        · rw [hv]
          exact (hO.2.toO.mono (fun b hb => ⟨⟨hb.1, hb.2.1, hb.2.2 k _ hq⟩, rfl⟩) fun _ _ => rfl).row_any
      · rename_i hk
        obtain ⟨rfl, hsz⟩ := hq
        have hv : a'.tmps.getD t undef = .slice none 0 0 := by
          have h1 := (q2.env t _ hk).d_inv
          generalize a'.tmps.getD t undef = v at h1
          cases h1
          rfl
        refine ⟨q2.defers, a'.tmps.getD t undef, by rw [results_eq, hrs]; simp [resOf], _, rfl, ⟨q2.os, q2.tape, q2.output, q2.size, fun b hb hn => q2.frame b hb (fun h => h) (GL.ne_of hn)⟩, q2.glob.out' q2.mlow (fun b hb => by rw [hv]; simp [blkOf]), fun b hb => ?_, fun al σ τ _ => ?_⟩
        · rw [hv] at hb
          simp [blkOf] at hb
        · rw [hv]
          exact .row true te sz [] (.slice none 0 0) [] ⟨by simp, .inl ⟨rfl, rfl⟩⟩ hsz (by simp) (by simp) (by simp) (fun i c v hc _ => by simp at hc)
      · exact hq.elim
    · exact hq.elim
  cases q3 with
  | normal => exact fin q1
  | ret => exact fin q1
  | exit id => exact q1.elim
  | goto l => exact q1.elim
  | panic x v hv => exact q1.elim

/-- What a body leaves that returns a struct of one row of its own. -/
def retW (tb : Nat → Option TI) (rs : Array ResultVar) (te : TypeId) (sz : Nat) (xs : List (List D)) : AExit → St → Prop
  | .normal, s | .ret, s => match rs.toList with
    | [r] => match outAV tb (look s.env) (look s.own) r with
      | some (.agg [.own k]) => look s.own k = some (.row true te sz xs)
      | _ => False
    | _ => False
  | _, _ => False
theorem PConW.enter (htb : TbOk P tb) {f : Nat} {fn : Func} {code : Code} {args : List D} {te : TypeId} {sz : Nat} {xs : List (List D)} (hf : P.funcs[f]? = some fn) (hn : (fn.name == "runtime.NumGoroutine") = false) (hb : fn.body = some code) (hnt : args.length ≤ fn.ntmps)
    (h : AW P gl fn.ntmps code (retW tb fn.results te sz xs) ⟨argsE 0 args, [], 0⟩) : PConW P gl f args te sz xs := by
  refine ⟨⟨fn, hf, hn, by simp [hb]⟩, fun w ok vs hok hgl hl hargs => ?_⟩
  refine calls_of_wp hf hb ?_
  refine wp_mono (h (ctx0 gl w ok) _ w _ rfl ⟨fun _ h => h⟩ (sr_start hnt hok hgl hl hargs)) fun e a' w' ⟨ae, s', σ', q1, q2, q3⟩ => ?_
  have fin : (match fn.results.toList with
    | [r] => (match outAV tb (look s'.env) (look s'.own) r with
      | some (.agg [.own k]) => look s'.own k = some (.row true te sz xs)
      | _ => False)
    | _ => False) → a'.defers = [] ∧ ∃ v, (results fn a'.tmps).run P w' = .ok v w' ∧ ∃ v', Ending.returned v = .returned (.agg #[v']) ∧ Go1 w w' gl.tgt ∧ Glob gl w' (fun b => b < w'.heap.size ∧ (ok b ∨ w.heap.size ≤ b) ∧ blkOf v' ≠ some b) ∧ (∀ b, blkOf v' = some b → w.heap.size ≤ b) ∧ ∀ (al : Nat → Prop) (σ : Nat → Value), RepSO al w' (fun b => b < w'.heap.size ∧ (ok b ∨ w.heap.size ≤ b) ∧ blkOf v' ≠ some b) σ (.row true te sz xs) v' := fun hq => by
    split at hq
    · rename_i r hrs
      split at hq
      · rename_i k hk
        obtain ⟨u, hu, hr⟩ := outAV_run htb q2 hk
        have hv0 := hr.toA
        have hv : u = .agg #[σ' k] := by
          cases hv0 with
          | agg _ vs hl h h1 =>
            match vs, hl with
            | [v], _ =>
              have := (h 0 (.own k) v rfl rfl).own_inv
              rw [this]
        have hO := q2.own k _ hq
        refine ⟨q2.defers, u, by rw [results_eq, hrs]; simp [hu], σ' k, by rw [hv], ⟨q2.os, q2.tape, q2.output, q2.size, fun b hb hn => q2.frame b hb (fun h => h) (GL.ne_of hn)⟩, q2.glob.out' q2.mlow (fun b hb => hb.2.2 k _ hq), fun b hb => ?_, fun al σ τ _ => ?_⟩
        · rcases q2.mine k _ hq b hb with ⟨h1, _⟩ | ⟨h1, _⟩
          · exact absurd rfl h1
          · exact h1
        · exact (hO.2.toO.mono (fun b hb => ⟨⟨hb.1, hb.2.1, hb.2.2 k _ hq⟩, rfl⟩) fun _ _ => rfl).row_any
      · exact hq.elim
    · exact hq.elim
  cases q3 with
  | normal => exact fin q1
  | ret => exact fin q1
  | exit id => exact q1.elim
  | goto l => exact q1.elim
  | panic x v hv => exact q1.elim

theorem PCon.enter (htb : TbOk P tb) {f : Nat} {fn : Func} {code : Code} {args : List D} {res : D} (hf : P.funcs[f]? = some fn) (hn : (fn.name == "runtime.NumGoroutine") = false) (hb : fn.body = some code) (hnt : args.length ≤ fn.ntmps)
    (h : AW P gl fn.ntmps code (retA tb fn.results res) ⟨argsE 0 args, [], 0⟩) : PCon P gl f args res := by
  refine ⟨⟨fn, hf, hn, by simp [hb]⟩, fun w ok vs hok hgl hl hargs => ?_⟩
  refine calls_of_wp hf hb ?_
  have hs : SR (ctx0 gl w ok) fn.ntmps ⟨argsE 0 args, [], 0⟩ { tmps := vs.toArray ++ Array.replicate (fn.ntmps - vs.toArray.size) undef, defers := [] } w fun _ => undef := by
    refine ⟨fun t x hx τ _ => ?_, fun k o hk => by simp [look] at hk, fun k k' o o' hk => by simp [look] at hk, fun k o hk => by simp [look] at hk, fun _ _ _ _ => rfl, fun b hb => ⟨hok b hb, fun h => h⟩, fun M hM => ⟨(hgl.memo M hM).2.1, (hgl.memo M hM).2.2, fun h => h⟩, Nat.le_refl _, rfl, rfl, rfl, fun k hk => hk.elim, rfl, by simp [hl]; omega, ?_⟩
    · obtain ⟨d, _, h2, rfl⟩ := look_argsE hx
      rw [Nat.sub_zero] at h2
      have hlt : t < vs.length := by rw [hl]; exact (List.getElem?_eq_some_iff.1 h2).1
      have hv : vs[t]? = some vs[t] := List.getElem?_eq_getElem hlt
      have hg : (vs.toArray ++ Array.replicate (fn.ntmps - vs.toArray.size) undef).getD t undef = vs[t] := by
        rw [Array.getD_eq_getD_getElem?, Array.getElem?_append_left (by simpa using hlt)]
        simp [hv]
      show RepA w _ τ _ ((vs.toArray ++ Array.replicate (fn.ntmps - vs.toArray.size) undef).getD t undef)
      rw [hg]
      exact .d _ _ ((hargs t d _ h2 hv).mono fun b hb => ⟨⟨hok b hb, .inl hb, fun k o hk => by simp [look] at hk⟩, rfl⟩)
    · exact hgl.mono (fun b hb => ⟨⟨hok b hb, .inl hb, fun k o hk => by simp [look] at hk⟩, rfl⟩) fun M hM => ⟨rfl, fun h => by
      obtain ⟨_, h4, h5⟩ := hgl.memo M hM
      rcases h.2.1 with h6 | h6
      · exact h5 h6
      · exact absurd h4 (Nat.not_lt.2 h6)⟩
  refine wp_mono (h (ctx0 gl w ok) _ w _ rfl ⟨fun _ h => h⟩ hs) fun e a' w' ⟨ae, s', σ', q1, q2, q3⟩ => ?_
  have fin : outsA tb (look s'.env) (look s'.own) fn.results.toList = some res → a'.defers = [] ∧ ∃ v, (results fn a'.tmps).run P w' = .ok v w' ∧ ∃ v', Ending.returned v = .returned v' ∧ Go1 w w' gl.tgt ∧ Glob gl w' (fun b => b < w'.heap.size ∧ (ok b ∨ w.heap.size ≤ b)) ∧ Rep w' (fun b => b < w'.heap.size ∧ (ok b ∨ w.heap.size ≤ b)) res v' := fun hq => by
    obtain ⟨v, r1, r2⟩ := outs_run (fn := fn) htb q2 hq
    exact ⟨q2.defers, v, r1, v, rfl, ⟨q2.os, q2.tape, q2.output, q2.size, fun b hb hn => q2.frame b hb (fun h => h) (GL.ne_of hn)⟩, q2.glob.out q2.mlow, r2⟩
  cases q3 with
  | normal => exact fin q1
  | ret => exact fin q1
  | exit id => exact q1.elim
  | goto l => exact q1.elim
  | panic x v hv => exact q1.elim
end
/-- What hands out a row of its own hands out data. -/
theorem PConR.toP {P : Program} {gl : GL} {f : Nat} {args : List D} {te : TypeId} {sz : Nat} {xs : List (List D)} (h : PConR P gl f args te sz xs) : PCon P gl f args (.slice xs) :=
  ⟨h.fn, fun w ok vs hok hgl hl hargs => Calls.mono (h.runs w ok vs hok hgl hl hargs) fun e w' ⟨v, he, hg, hm, hn, hr⟩ => by
    have h1 := hr (fun _ => True) fun _ => undef
    refine ⟨v, he, hg, Glob.upR' hm _ (fun M hM h => by
      obtain ⟨_, h4, h5⟩ := hgl.memo M hM
      rcases h.2 with h6 | h6
      · exact h5 h6
      · omega) (fun b q1 q2 _ => ⟨q1, q2⟩), row_rep h1 (fun b hb => ⟨⟨hb.1, hb.2.1⟩, rfl⟩) fun b hb => ⟨h1.toO.lt b hb, .inr (hn b hb)⟩⟩⟩
end Go.Proofs.Ytpibdbjlilpfiaa

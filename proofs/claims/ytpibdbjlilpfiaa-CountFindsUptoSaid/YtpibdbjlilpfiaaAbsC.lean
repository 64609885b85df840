/- AbsC: Abs23, Abs24, Abs25, Abs26. -/
import Derived.Test.YtpibdbjlilpfiaaAbsB
import Derived.ScopeJumps
/- The equations by which a walk goes on (printed by wip/gen/walklemmas.py). -/
namespace Go.Proofs.Ytpibdbjlilpfiaa
set_option linter.all false
open Go Go.RowKit

section
variable {P : Program} {E : Nat → Option AV} {O : Nat → Option Obj1} {gl : GL} {id : Nat} {tb : Nat → Option TI} {K : Option AV → Eff → Prop}

theorem w_move {x} : opA P gl tb E O id (.move x) K = (match getE gl E x with
      | some v => K (some v) .none
      | none => False) := (rfl)
theorem w_assign {x} : opA P gl tb E O id (.assign x) K = (match getE gl E x with
      | some v => K (some v) .none
      | none => False) := (rfl)
theorem w_pick {c x y} : opA P gl tb E O id (.pick c x y) K = (match getE gl E c with
      | some (.d (.bool b)) => if b = true then (match getE gl E x with
        | some v => K (some v) .none
        | none => False) else (match getE gl E y with
        | some v => K (some v) .none
        | none => False)
      | _ => False) := (rfl)
theorem w_alloc {t} : opA P gl tb E O id (.alloc t) K = (match tb t with
      | some i => i.zd.isTup = false ∧ K (some (.ref id 0)) (.new (.box true (AV.d i.zd).cells))
      | none => False) := (rfl)
theorem w_box {x u0} : opA P gl tb E O id (.box u0 x) K = (match getE gl E x with
      | some y => y.isTup = false ∧ ownOk O y ∧ K (some (.ref id 0)) (.new (.box true y.cells))
      | none => False) := (rfl)
theorem w_build {t ps} : opA P gl tb E O id (.build t ps) K = (match tb t, getParts (getE gl E) ps.toList with
      | some i, some ys => ownsOk' O ys ∧ (match i.k, i.zd with
        | .struct fs, .agg zs => match fillA (placeS fs) (zs.map .d) ys with
          | some out => K (some (mkAgg out)) .none
          | none => False
        | .arr _ _ sz, .agg zs => match fillA (fun i => some (i * sz, sz)) (zs.map .d) ys with
          | some out => K (some (mkAgg out)) .none
          | none => False
        | _, _ => False)
      | _, _ => False) := (rfl)
theorem w_buildSlice {t len ps} : opA P gl tb E O id (.buildSlice t len ps) K = (match tb t, getParts (getE gl E) ps.toList with
      | some i, some ys => (match i.k, asPs O ys with
        | .slice te sz, some (zs, ks) => match tb te, dense sz 0 zs with
          | some ie, some xs => ie.size = sz ∧ 0 < sz ∧ xs.length = len ∧ len * sz ≤ 16777216 ∧ K (some (.own id)) (newE ks id (.row true te sz xs))
          | _, _ => False
        | _, _ => False)
      | _, _ => False) := (rfl)
theorem w_load {t x} : opA P gl tb E O id (.load t x) K = (match tb t, getE gl E x with
      | some i, some (.d (.addr cs)) => match readD i cs with
        | some y => K (some (.d y)) .none
        | none => False
      | some i, some (.ref k off) => match O k with
        | some (.box _ cs) => match readA i (cs.drop off) with
          | some y => K (some y.mk) .none
          | none => False
        | _ => False
      | some i, some (.elt k sz j off) => match O k with
        | some (.row _ _ sz' xs) => sz' = sz ∧ ∃ e, xs[j]? = some e ∧ (match readD i (e.drop off) with
          | some y => K (some (.d y)) .none
          | none => False)
        | _ => False
      | _, _ => False) := (rfl)
theorem w_store {t x v} : opA P gl tb E O id (.store t x v) K = (match tb t, getE gl E x, getE gl E v with
      | some i, some (.ref k off), some y => match O k with
        | some (.box fr cs) => y.isTup = false ∧ ownOk O y ∧ y.cells.length = i.size ∧ off + y.cells.length ≤ cs.length ∧ K none (.turn k (.box fr (splice cs off y.cells)))
        | _ => False
      | some i, some (.elt k sz j off), some y => match O k, allD y.cells with
        | some (.row fr te sz' xs), some ds => sz' = sz ∧ y.isTup = false ∧ ds.length = i.size ∧ off + ds.length ≤ sz ∧ ∃ e, xs[j]? = some e ∧ K none (.turn k (.row fr te sz (xs.set j (splice e off ds))))
        | _, _ => False
      | _, _, _ => False) := (rfl)
theorem w_nilCheck {x} : opA P gl tb E O id (.nilCheck x) K = (match getE gl E x with
      | some (.ref k off) => K (some (.ref k off)) .none
      | some (.elt k sz j q) => K (some (.elt k sz j q)) .none
      | some (.d (.addr cs)) => K (some (.d (.addr cs))) .none
      | some (.d (.fn f fs cs)) => K (some (.d (.fn f fs cs))) .none
      | _ => False) := (rfl)
theorem w_binOp {op t x y u0} : opA P gl tb E O id (.binOp op t x y u0) K = (binA tb op t (getE gl E x) (getE gl E y) fun v => K (some v) .none
) := (rfl)
theorem w_unOp_not {x u0} : opA P gl tb E O id (.unOp .not u0 x) K = (match getE gl E x with
      | some (.d (.bool b)) => K (some (.d (.bool (!b)))) .none
      | _ => False) := (rfl)
theorem w_unOp_neg {x u0} : opA P gl tb E O id (.unOp .neg u0 x) K = (match getE gl E x with
      | some (.d (.int k n)) => K (some (.d (.int k (k.wrap (0 - n))))) .none
      | _ => False) := (rfl)
theorem w_convert {s t x} : opA P gl tb E O id (.convert s t x) K = (match tb s, tb t, getE gl E x with
      | some i, some j, some (.d (.int _ n)) => match i.k, j.k with
        | .int _, .int k' => K (some (.d (.int k' (k'.wrap n)))) .none
        | _, _ => False
      | some i, some j, some (.d (.str b)) => match i.k, j.k with
        | .str, .slice te sz => sz = 1 ∧ P.underlying te = some (.int .u8) ∧ K (some (.d (.slice (b.data.toList.map encB)))) .none
        | _, _ => False
      | some i, some j, some (.d (.slice xs)) => match i.k, j.k with
        | .slice te sz, .str => sz = 1 ∧ P.underlying te = some (.int .u8) ∧ ∃ l : List UInt8, xs = l.map encB ∧ K (some (.d (.str ⟨l.toArray⟩))) .none
        | _, _ => False
      | some i, some j, some (.own k) => match i.k, j.k, O k with
        | .slice te sz, .slice _ _, some (.row true te' sz' xs) => s = t ∧ sz = 1 ∧ sz' = 1 ∧ te' = te ∧ P.underlying te = some (.int .u8) ∧ 0 < xs.length ∧ K (some (.d (.slice xs))) (.drop [k])
        | _, _, _ => False
      | _, _, _ => False) := (rfl)
theorem w_makeSlice {t x y} : opA P gl tb E O id (.makeSlice t x y) K = (match tb t, getE gl E x, getE gl E y with
      | some i, some (.d (.int _ n)), some (.d (.int _ n')) => match i.k with
        | .slice te sz => match tb te with
          | some ie => n' = n ∧ ie.size = sz ∧ 0 < sz ∧ ie.zd.isTup = false ∧ 0 ≤ n ∧ n.toNat * ie.bytes ≤ 281474976710656 ∧ n ≤ 9223372036854775807 ∧ K (some (.own id)) (.new (.row true te sz (List.replicate n.toNat ie.zd.cells)))
          | none => False
        | _ => False
      | _, _, _ => False) := (rfl)
theorem w_slice {t x lo hi} : opA P gl tb E O id (.slice t x lo hi none) K = (match tb t, getE gl E x with
      | some i, some (.d (.slice xs)) => match i.k with
        | .slice _ sz => (∀ e ∈ xs, e.length = sz) ∧ cutB (getE gl E) xs.length lo hi fun l h => K (some (.d (.slice ((xs.drop l).take (h - l))))) .none
        | _ => False
      | some i, some (.d .nils) => match i.k with
        | .slice _ _ => cutB (getE gl E) 0 lo hi fun _ _ => K (some (.d .nils)) .none
        | _ => False
      | some i, some (.d (.str s)) => match i.k with
        | .str => cutB (getE gl E) s.size lo hi fun l h => K (some (.d (.str (s.extract l h)))) .none
        | _ => False
      | some i, some (.own k) => match i.k, lo, O k with
        | .slice _ sz, none, some (.row fr te sz' xs) => sz' = sz ∧ cutB (getE gl E) xs.length none hi fun _ h => K (some (.own id)) (.swap k (.row fr te sz (xs.take h)))
        | _, _, _ => False
      | _, _ => False) := (rfl)
theorem w_fieldAddr {s x n} : opA P gl tb E O id (.fieldAddr s x n) K = (match tb s, getE gl E x with
      | some i, some y => match i.k with
        | .struct fs => match fs[n]? with
          | some f => match y with
            | .ref k off => K (some (.ref k (off + f.1))) .none
            | .elt k sz j off => K (some (.elt k sz j (off + f.1))) .none
            | .d (.addr cs) => K (some (.d (.addr (cs.drop f.1)))) .none
            | _ => False
          | none => False
        | _ => False
      | _, _ => False) := (rfl)
theorem w_field {s x n} : opA P gl tb E O id (.field s x n) K = (match tb s, getE gl E x with
      | some i, some y => match i.k with
        | .struct fs => match fs[n]? with
          | some f => match tb f.2.1 with
            | some fi => (match y with
              | .agg _ => True
              | .d (.agg _) => True
              | _ => False) ∧ (match readA fi (y.cells.drop f.1) with
              | some z => K (some z.mk) .none
              | none => False)
            | none => False
          | none => False
        | _ => False
      | _, _ => False) := (rfl)
theorem w_indexAddr {t x y} : opA P gl tb E O id (.indexAddr t x y) K = (idxA tb O t (getE gl E x) (getE gl E y) fun v => K (some v) .none
) := (rfl)
theorem w_index {t x y} : opA P gl tb E O id (.index t x y) K = (match tb t, getE gl E x, getE gl E y with
      | some i, some (.d (.str s)), some (.d (.int _ n)) => match i.k with
        | .str => 0 ≤ n ∧ ∃ h : n.toNat < s.size, K (some (.d (.int .u8 (s[n.toNat]'h).toNat))) .none
        | _ => False
      | _, _, _ => False) := (rfl)
theorem w_extract {x n} : opA P gl tb E O id (.extract x n) K = (match getE gl E x with
      | some (.d (.tup cs)) => match cs[n]? with
        | some y => K (some (.d y)) .none
        | none => False
      | some (.tup cs) => match cs[n]? with
        | some y => K (some y) .none
        | none => False
      | _ => False) := (rfl)
theorem w_makeInterface {t x} : opA P gl tb E O id (.makeInterface t x) K = (match tb t, getE gl E x with
      | some i, some (.d y) => i.k.conc = true ∧ K (some (.d (.iface t y))) .none
      | _, _ => False) := (rfl)
theorem w_typeAssert {x u u0} : opA P gl tb E O id (.typeAssert x u0 u true) K = (match tb u, getE gl E x with
      | some i, some (.d y) => i.k.conc = true ∧ (match assertV u i.zd y with
        | some r => K (some (.d r)) .none
        | none => False)
      | _, _ => False) := (rfl)
theorem w_range {t x} : opA P gl tb E O id (.range t x) K = (match tb t, getE gl E x with
    | some i, some (.d (.str s)) => match i.k with
      | .str => K (some (.ref id 0)) (.new (.iter s 0))
      | _ => False
    | _, _ => False) := (rfl)
theorem w_next {x} : opA P gl tb E O id (.next x true) K = (match getE gl E x with
    | some (.ref k 0) => match O k with
      | some (.iter s pos) => (pos < s.size → K (some (.d (.tup [.bool true, .int .i64 pos, .int .i32 (Utf8.decode s pos).1]))) (.turn k (.iter s (pos + (Utf8.decode s pos).2)))) ∧ (¬ pos < s.size → K (some (.d (.tup [.bool false]))) .none)
      | _ => False
    | _ => False) := (rfl)
theorem w_makeMap {t} : opA P gl tb E O id (.makeMap t none) K = K (some (.own id)) (.new (.map [])) := (rfl)
theorem w_insert {t m k x} : opA P gl tb E O id (.insert t m k x) K = (match mapT P t, getE gl E m, getE gl E k, getE gl E x with
    | some (_, _, kk), some (.own q), some (.d (.int kk' n)), some (.d d) => match O q with
      | some (.map es) => kk' = kk ∧ findM kk n es 0 = some none ∧ K none (.turn q (.map (es ++ [(.int kk n, d)])))
      | _ => False
    | _, _, _, _ => False) := (rfl)
theorem w_lookup {t m k} : opA P gl tb E O id (.lookup t m k true) K = (match getE gl E m with
    | some (.d (.mapv _)) => ∃ v, K (some v) .none ∧ ∀ o : Oper, o.op = .lookup t m k true → Step P gl E O o id (some v) .none
    | y => match mapT P t, y, getE gl E k with
      | some (_, et, kk), some (.own q), some (.d (.int kk' n)) => match O q, tb et with
        | some (.map es), some ie => kk' = kk ∧ (match findM kk n es 0 with
          | some r => K (some (.d (lookV ie.zd r))) .none
          | none => False)
        | _, _ => False
      | _, _, _ => False) := (rfl)
theorem w_mapUpdate {t m k x} : opA P gl tb E O id (.mapUpdate t m k x) K = (match getE gl E m with
    | some (.d (.mapv _)) => K none .none ∧ ∀ o : Oper, o.op = .mapUpdate t m k x → Step P gl E O o id none .none
    | _ => False) := (rfl)
theorem w_makeFunc {f fs cs} : opA P gl tb E O id (.makeFunc (.func f) fs cs) K = (match getDs (getE gl E) fs.toList, getDs (getE gl E) cs.toList with
    | some ds, some es => K (some (.d (.fn f ds es))) .none
    | _, _ => False) := (by
  simp only [opA]
  cases getDs (getE gl E) fs.toList <;> cases getDs (getE gl E) cs.toList <;> rfl)
theorem w_getDs0 {g : Operand → Option AV} : getDs g [] = some [] := (rfl)
theorem w_getDs {g : Operand → Option AV} {x : Operand} {r : List Operand} : getDs g (x :: r) = match g x, getDs g r with
    | some (.d d), some ds => some (d :: ds)
    | _, _ => none := (rfl)
section
variable {KP : D → Prop} {x y z : Operand} {t u : TypeId} {n : Nat} {ps : Array (Nat × Operand)} {bo : BinOp} {uo : UnOp} {lo hi mx ox : Option Operand} {b : Bool} {fn : Fn} {ps2 ps3 : Array Operand}
theorem wx_move : opX P gl tb E O id KP (.move x) K = opA P gl tb E O id (.move x) K := (rfl)
theorem wx_assign : opX P gl tb E O id KP (.assign x) K = opA P gl tb E O id (.assign x) K := (rfl)
theorem wx_pick : opX P gl tb E O id KP (.pick x y z) K = opA P gl tb E O id (.pick x y z) K := (rfl)
theorem wx_alloc : opX P gl tb E O id KP (.alloc t) K = opA P gl tb E O id (.alloc t) K := (rfl)
theorem wx_box : opX P gl tb E O id KP (.box t x) K = opA P gl tb E O id (.box t x) K := (rfl)
theorem wx_build : opX P gl tb E O id KP (.build t ps) K = opA P gl tb E O id (.build t ps) K := (rfl)
theorem wx_buildSlice : opX P gl tb E O id KP (.buildSlice t n ps) K = opA P gl tb E O id (.buildSlice t n ps) K := (rfl)
theorem wx_load : opX P gl tb E O id KP (.load t x) K = opA P gl tb E O id (.load t x) K := (rfl)
theorem wx_store : opX P gl tb E O id KP (.store t x y) K = opA P gl tb E O id (.store t x y) K := (rfl)
theorem wx_nilCheck : opX P gl tb E O id KP (.nilCheck x) K = opA P gl tb E O id (.nilCheck x) K := (rfl)
theorem wx_binOp : opX P gl tb E O id KP (.binOp bo t x y u) K = opA P gl tb E O id (.binOp bo t x y u) K := (rfl)
theorem wx_unOp : opX P gl tb E O id KP (.unOp uo t x) K = opA P gl tb E O id (.unOp uo t x) K := (rfl)
theorem wx_convert : opX P gl tb E O id KP (.convert t u x) K = opA P gl tb E O id (.convert t u x) K := (rfl)
theorem wx_makeSlice : opX P gl tb E O id KP (.makeSlice t x y) K = opA P gl tb E O id (.makeSlice t x y) K := (rfl)
theorem wx_slice : opX P gl tb E O id KP (.slice t x lo hi mx) K = opA P gl tb E O id (.slice t x lo hi mx) K := (rfl)
theorem wx_fieldAddr : opX P gl tb E O id KP (.fieldAddr t x n) K = opA P gl tb E O id (.fieldAddr t x n) K := (rfl)
theorem wx_field : opX P gl tb E O id KP (.field t x n) K = opA P gl tb E O id (.field t x n) K := (rfl)
theorem wx_indexAddr : opX P gl tb E O id KP (.indexAddr t x y) K = opA P gl tb E O id (.indexAddr t x y) K := (rfl)
theorem wx_index : opX P gl tb E O id KP (.index t x y) K = opA P gl tb E O id (.index t x y) K := (rfl)
theorem wx_extract : opX P gl tb E O id KP (.extract x n) K = opA P gl tb E O id (.extract x n) K := (rfl)
theorem wx_makeInterface : opX P gl tb E O id KP (.makeInterface t x) K = opA P gl tb E O id (.makeInterface t x) K := (rfl)
theorem wx_typeAssert : opX P gl tb E O id KP (.typeAssert x t u b) K = opA P gl tb E O id (.typeAssert x t u b) K := (rfl)
theorem wx_range : opX P gl tb E O id KP (.range t x) K = opA P gl tb E O id (.range t x) K := (rfl)
theorem wx_next : opX P gl tb E O id KP (.next x b) K = opA P gl tb E O id (.next x b) K := (rfl)
theorem wx_makeMap : opX P gl tb E O id KP (.makeMap t ox) K = opA P gl tb E O id (.makeMap t ox) K := (rfl)
theorem wx_insert : opX P gl tb E O id KP (.insert t x y z) K = opA P gl tb E O id (.insert t x y z) K := (rfl)
theorem wx_mapUpdate : opX P gl tb E O id KP (.mapUpdate t x y z) K = opA P gl tb E O id (.mapUpdate t x y z) K := (rfl)
theorem wx_lookup : opX P gl tb E O id KP (.lookup t x y b) K = opA P gl tb E O id (.lookup t x y b) K := (rfl)
theorem wx_makeFunc : opX P gl tb E O id KP (.makeFunc fn ps2 ps3) K = opA P gl tb E O id (.makeFunc fn ps2 ps3) K := (rfl)
theorem wx_panic : opX P gl tb E O id KP (.panic x) K = (match getE gl E x with
    | some (.d (.iface t y)) => KP (.iface t y)
    | _ => False) := (rfl)
theorem wx_call {as : Array Operand} {ts : Array TypeId} : opX P gl tb E O id KP (.call ⟨.value x, as, ts⟩) K = (match firstA (getE gl E) as.toList with
    | some (.ref _ _) => (match getE gl E x with
      | some (.d (.fn f [] [])) => callB P gl (getE gl E) O id f as.toList KP K
      | _ => False)
    | _ => opA P gl tb E O id (.call ⟨.value x, as, ts⟩) K) := (rfl)
theorem wx_builtin {bi : Builtin} {as : Array Operand} {ts : Array TypeId} : opX P gl tb E O id KP (.call ⟨.builtin bi, as, ts⟩) K = opA P gl tb E O id (.call ⟨.builtin bi, as, ts⟩) K := (rfl)
theorem w_firstA {g : Operand → Option AV} {r : List Operand} : firstA g (x :: r) = g x := (rfl)
theorem w_firstA0 {g : Operand → Option AV} : firstA g [] = none := (rfl)
theorem box_ret {g : Operand → Option AV} {f k j : Nat} {as : List Operand} {r : List Operand} {fr fr1 : Bool} {ds : List D} {cells cells' : List (Option D)} {te : TypeId} {sz : Nat} {xs xs' : List (List D)} {q : D} (ha : as = y :: r) (hy : g y = some (.ref k 0)) (hd : getAR g r = some ds) (hO : O k = some (.box fr (toAV j cells))) (hj : O j = some (.row fr1 te sz xs)) (hc : PConB P gl f ds cells te sz xs (.ret q cells' xs')) (hK : K (some (.d q)) (.pass [k, j] [(k, .box fr (toAV id cells')), (id, .row fr1 te sz xs')])) (hM : gl.memo = none := by first | rfl | assumption) : callB P gl g O id f as KP K :=
  ⟨hM, y, r, k, j, fr, fr1, ds, cells, te, sz, xs, _, ha, hy, hd, hO, hj, hc, hK⟩
theorem box_pan {g : Operand → Option AV} {f k j : Nat} {as : List Operand} {r : List Operand} {fr fr1 : Bool} {ds : List D} {cells : List (Option D)} {te : TypeId} {sz : Nat} {xs : List (List D)} {q : D} (ha : as = y :: r) (hy : g y = some (.ref k 0)) (hd : getAR g r = some ds) (hO : O k = some (.box fr (toAV j cells))) (hj : O j = some (.row fr1 te sz xs)) (hc : PConB P gl f ds cells te sz xs (.panic q)) (hK : KP q) (hM : gl.memo = none := by first | rfl | assumption) : callB P gl g O id f as KP K :=
  ⟨hM, y, r, k, j, fr, fr1, ds, cells, te, sz, xs, _, ha, hy, hd, hO, hj, hc, hK⟩
end
theorem w_call {c} : opA P gl tb E O id (.call c) K = (callA P gl tb (getE gl E) O id c fun v e => K (some v) e
) := (rfl)
theorem w_binA {op : BinOp} {t : Nat} {x y : Option AV} {K1 : AV → Prop} : binA tb op t x y K1 = (
    match x, y with
    | some (.d (.int k m)), some (.d (.int k' n)) => match op with
      | .shl | .shr => 0 ≤ n ∧ (match shiftV op k m n with
        | some z => K1 (.d z)
        | none => False)
      | _ => k = k' ∧ intC op n ∧ (match intV op k m n with
        | some z => K1 (.d z)
        | none => False)
    | some (.d (.str m)), some (.d (.str n)) => strC op m n ∧ (match strV op m n with
        | some z => K1 (.d z)
        | none => False)
    | some (.d (.bool m)), some (.d (.bool n)) => match tb t with
      | some i => match i.k, boolV op m n with
        | .bool, some z => K1 (.d z)
        | _, _ => False
      | none => False
    | some (.d (.agg ds)), some (.d (.agg es)) => match tb t with
      | some i => i.k.agg = true ∧ i.eq ≠ [] ∧ (match sameS i.eq ds es with
        | some b => (match aggV op b with
          | some z => K1 (.d z)
          | none => False)
        | none => False)
      | none => False
    | some (.d d), some (.d .nils) => match tb t with
      | some i => (match i.k, nilV op d with
        | .slice _ _, some z => K1 (.d z)
        | _, _ => False)
      | none => False
    | _, _ => False) := (rfl)
theorem w_cutB {g : Operand → Option AV} {n : Nat} {lo hi : Option Operand} {K2 : Nat → Nat → Prop} : cutB g n lo hi K2 = (
    match lo, hi with
    | none, none => K2 0 n
    | some x, none => match g x with
      | some (.d (.int _ l)) => 0 ≤ l ∧ l ≤ n ∧ K2 l.toNat n
      | _ => False
    | none, some y => match g y with
      | some (.d (.int _ h)) => 0 ≤ h ∧ h ≤ n ∧ K2 0 h.toNat
      | _ => False
    | some x, some y => match g x, g y with
      | some (.d (.int _ l)), some (.d (.int _ h)) => 0 ≤ l ∧ l ≤ h ∧ h ≤ n ∧ K2 l.toNat h.toNat
      | _, _ => False) := (rfl)
theorem w_lenA {t : Nat} {x : Option AV} {K1 : Nat → Prop} : lenA tb O t x K1 = (
    match tb t, x with
    | some i, some (.d (.slice xs)) => match i.k with
      | .slice _ _ => K1 xs.length
      | _ => False
    | some i, some (.d .nils) => match i.k with
      | .slice _ _ => K1 0
      | _ => False
    | some i, some (.d (.str s)) => match i.k with
      | .str => K1 s.size
      | _ => False
    | some i, some (.own k) => match i.k, O k with
      | .slice _ _, some (.row _ _ _ xs) => K1 xs.length
      | _, _ => False
    | _, _ => False) := (rfl)
theorem w_appA {t t' : Nat} {s x : Option AV} {K2 : AV → Eff → Prop} : appA tb O id t t' s x K2 = (
    match x with
    | some (.d (.int _ n)) => (match tb t, tb t', s with
      | some i, some i', some (.d .nils) => match i.k, i'.k with
        | .slice te sz, .int _ => (match tb te with
          | some ie => ie.size = sz ∧ 0 < sz ∧ ie.zd.isTup = false ∧ 0 < n ∧ n.toNat * ie.bytes ≤ 140737488355328 ∧ n ≤ 4611686018427387904 ∧ K2 (.own id) (.new (.row true te sz (List.replicate n.toNat ie.zd.cells)))
          | none => False)
        | _, _ => False
      | _, _, _ => False)
    | _ => match tb t, s, x with
    | some i, some sv, some y => match i.k with
      | .slice te sz => match tb te, srcA O sz y with
        | some ie, some ys => t' = t ∧ ie.size = sz ∧ 0 < sz ∧ (∀ e ∈ ys, e.length = sz) ∧ (match sv with
          | .own k => match O k with
            | some (.row fr te' sz' xs) => te' = te ∧ sz' = sz ∧ (xs.length + ys.length) * ie.bytes ≤ 140737488355328 ∧ xs.length + ys.length ≤ 9223372036854775807 ∧ K2 (.own id) (.swap k (.row fr te sz (xs ++ ys)))
            | _ => False
          | .d .nils => ys.length * ie.bytes ≤ 140737488355328 ∧ ys.length ≤ 9223372036854775807 ∧ K2 (.own id) (.new (.row true te sz ys))
          | _ => False)
        | _, _ => False
      | _ => False
    | _, _, _ => False) := (rfl)

/-- As 'idxA', with what follows kept whole. -/
def idxB (tb : Nat → Option TI) (O : Nat → Option Obj1) (t : Nat) (x y : Option AV) (K : Option AV → Eff → Prop) : Prop := idxA tb O t x y fun v => K (some v) .none
theorem w_idx {t x y} : opA P gl tb E O id (.indexAddr t x y) K = idxB tb O t (getE gl E x) (getE gl E y) K := (rfl)
theorem w_getT {t : Nat} : getE gl E (.tmp t) = E t := (rfl)
theorem w_getI {k : IntKind} {n : Int} : getE gl E (.const (.int k n)) = some (.d (.int k n)) := (rfl)
theorem w_getB {b : Bool} : getE gl E (.const (.bool b)) = some (.d (.bool b)) := (rfl)
theorem w_getS {s : ByteArray} : getE gl E (.const (.string s)) = if s.size ≤ 1000 then some (.d (.str s)) else none := (rfl)
theorem w_getNI : getE gl E (.const .nilIface) = some (.d .nilif) := (rfl)
theorem w_getNF : getE gl E (.const .nilFunc) = some (.d .nilfn) := (rfl)
theorem w_getNP : getE gl E (.const (.pointer none)) = some (.d .nilp) := (rfl)
theorem w_getNS : getE gl E (.const (.slice none 0 0)) = some (.d .nils) := (rfl)
theorem w_getF {f : FuncId} : getE gl E (.func f) = some (.d (.fn f [] [])) := (rfl)
theorem w_getG {g : Nat} : getE gl E (.global g) = match look gl.vars g with
  | some cs => some (.d (.addr cs))
  | none => none := (rfl)
end
theorem bool_split {c b : Bool} {Y N : Prop} : (if c = b then Y else N) = ((c = b → Y) ∧ (c = !b → N)) := by
  cases c <;> cases b <;> simp
section
variable {P : Program} {gl : GL} {tb : Nat → Option TI} {all rest : List Oper} {K : St → Prop} {E : List (Nat × AV)} {O : List (Nat × Obj1)} {n t : Nat} {d : Option Tmp} {p : Op} {ty : TypeId} {ps : String} {af : Array Edge} {j : Nat} {b : Bool} {B effs : List Nat} {base i : Nat} {KP : D → St → Prop}
/-- What a guard reads. -/
def gate (Ef : Nat → Option AV) (b : Bool) (oj : Option Oper) : Option Bool := match oj with
  | some oj => match oj.dst with
    | some t => match Ef t with
      | some (.d (.bool c)) => some c
      | some (.d (.tup [])) => some (!b)
      | _ => none
    | none => none
  | none => none
theorem guard_of {Ef : Nat → Option AV} {Y N : Prop} {c : Bool} (h : gate Ef b all[j]? = some c) : guardA Ef all (some (j, b)) Y N = if c = b then Y else N := by
  unfold gate at h
  unfold guardA
  simp only
  split at h
  · rename_i oj hoj
    split at h
    · rename_i t ht
      split at h
      · rename_i c' hc
        injection h with h
        subst h
        simp only [hoj, ht, hc]
      · rename_i hc
        injection h with h
        subst h
        simp only [hoj, ht, hc]
        rw [if_neg (by cases b <;> simp)]
      · cases h
    · cases h
  · cases h
/-- 'touchL' as a computation. -/
def touchQ (g : Operand → Option AV) (B : List Nat) (base j : Nat) : List Operand → Bool
  | [] => true
  | x :: r => (match g x with
    | some y => y.ids.all fun k => decide (k < base) || (B.getD j 0).testBit (k - base)
    | none => true) && touchQ g B base j r
theorem touch_iff {g : Operand → Option AV} : ∀ {l : List Operand}, touchL g B base i l ↔ touchQ g B base i l = true
  | [] => by simp [touchL, touchQ]
  | x :: r => by
    simp only [touchL, touchQ, Bool.and_eq_true, touch_iff (l := r)]
    refine and_congr ?_ Iff.rfl
    cases hx : g x with
    | none => simp
    | some y => cases y <;> simp [AV.ids]
/-- Both conditions on what it touches. -/
def touchP (g : Operand → Option AV) (B : List Nat) (base i : Nat) (p : Op) : Bool := touchQ g B base i p.operands.toList && exL g p
theorem touchP_iff {g : Operand → Option AV} : (touchL g B base i p.operands.toList ∧ exL g p = true) = (touchP g B base i p = true) := by
  rw [touchP, Bool.and_eq_true, touch_iff]
theorem eff_go {m k : Nat} {q : Prop} (h : swapB m B base j k = true) (hp : q) : swapB m B base j k = true ∧ q := ⟨h, hp⟩
theorem touch_go {g : Operand → Option AV} {q : Prop} (h : touchP g B base i p = true) (hp : q) : touchP g B base i p = true ∧ q := ⟨h, hp⟩
theorem w_cons : AE P gl tb all KP K ({ op := p, dst := d, type := ty, pos := ps, after := af, guard := none } :: rest) ⟨E, O, n⟩ = opX P gl tb (look E) (look O) n (fun x => KP x ⟨E, O, n⟩) p (fun v e => AE P gl tb all KP K rest (St.app ⟨E, O, n⟩ d v e)) := (rfl)
theorem w_yes (h : gate (look E) b all[j]? = some b) : AE P gl tb all KP K ({ op := p, dst := d, type := ty, pos := ps, after := af, guard := some (j, b) } :: rest) ⟨E, O, n⟩ = opX P gl tb (look E) (look O) n (fun x => KP x ⟨E, O, n⟩) p (fun v e => AE P gl tb all KP K rest (St.app ⟨E, O, n⟩ d v e)) := by
  show guardA _ _ _ _ _ = _
  rw [guard_of h, if_pos rfl]
theorem w_no (h : gate (look E) b all[j]? = some (!b)) : AE P gl tb all KP K ({ op := p, dst := d, type := ty, pos := ps, after := af, guard := some (j, b) } :: rest) ⟨E, O, n⟩ = AE P gl tb all KP K rest (St.skip ⟨E, O, n⟩ d) := by
  show guardA _ _ _ _ _ = _
  rw [guard_of h, if_neg (by cases b <;> simp)]
/-- A guard that is not known yet: both ways. -/
theorem AE.split {s : St} {c : Bool} (_hc : gate (look s.env) b all[j]? = some c) (h1 : c = true → AE P gl tb all KP K ({ op := p, dst := d, type := ty, pos := ps, after := af, guard := some (j, b) } :: rest) s) (h2 : c = false → AE P gl tb all KP K ({ op := p, dst := d, type := ty, pos := ps, after := af, guard := some (j, b) } :: rest) s) : AE P gl tb all KP K ({ op := p, dst := d, type := ty, pos := ps, after := af, guard := some (j, b) } :: rest) s := by
  cases c
  · exact h2 rfl
  · exact h1 rfl
theorem AED.split {s : St} {c : Bool} (_hc : gate (look s.env) b all[j]? = some c) (h1 : c = true → AED P gl tb all B effs base K ({ op := p, dst := d, type := ty, pos := ps, after := af, guard := some (j, b) } :: rest) i s) (h2 : c = false → AED P gl tb all B effs base K ({ op := p, dst := d, type := ty, pos := ps, after := af, guard := some (j, b) } :: rest) i s) : AED P gl tb all B effs base K ({ op := p, dst := d, type := ty, pos := ps, after := af, guard := some (j, b) } :: rest) i s := by
  cases c
  · exact h2 rfl
  · exact h1 rfl
theorem w_nil {s : St} : AE P gl tb all KP K [] s = K s := (rfl)
theorem w_app_c {x : Oper} {l r : List Oper} {s : St} : AE P gl tb all KP K (List.append (x :: l) r) s = AE P gl tb all KP K (x :: List.append l r) s := (rfl)
theorem w_app_n {r : List Oper} {s : St} : AE P gl tb all KP K (List.append [] r) s = AE P gl tb all KP K r s := (rfl)
theorem w_aget0 {α : Type} {x : α} {l r : List α} : (List.append (x :: l) r)[0]? = some x := (rfl)
theorem w_agets {α : Type} {x : α} {l r : List α} {k : Nat} : (List.append (x :: l) r)[k + 1]? = (List.append l r)[k]? := (rfl)
theorem w_agetn {α : Type} {r : List α} {k : Nat} : (List.append [] r)[k]? = r[k]? := (rfl)
theorem w_dcons : AED P gl tb all B effs base K ({ op := p, dst := d, type := ty, pos := ps, after := af, guard := none } :: rest) i ⟨E, O, n⟩ =
  (touchP (getE gl (look E)) B base i p = true ∧ opA P gl tb (look E) (look O) n p (fun v e => okEff all.length B effs base i p e ∧ AED P gl tb all B effs base K rest (i + 1) (St.app ⟨E, O, n⟩ d v e))) := by
  rw [← touchP_iff]
  rfl
theorem w_dyes (h : gate (look E) b all[j]? = some b) : AED P gl tb all B effs base K ({ op := p, dst := d, type := ty, pos := ps, after := af, guard := some (j, b) } :: rest) i ⟨E, O, n⟩ =
  (touchP (getE gl (look E)) B base i p = true ∧ opA P gl tb (look E) (look O) n p (fun v e => okEff all.length B effs base i p e ∧ AED P gl tb all B effs base K rest (i + 1) (St.app ⟨E, O, n⟩ d v e))) := by
  rw [← touchP_iff]
  show guardA _ _ _ _ _ = _
  rw [guard_of h, if_pos rfl]
theorem w_dno (h : gate (look E) b all[j]? = some (!b)) : AED P gl tb all B effs base K ({ op := p, dst := d, type := ty, pos := ps, after := af, guard := some (j, b) } :: rest) i ⟨E, O, n⟩ = AED P gl tb all B effs base K rest (i + 1) (St.skip ⟨E, O, n⟩ d) := by
  show guardA _ _ _ _ _ = _
  rw [guard_of h, if_neg (by cases b <;> simp)]
theorem w_dapp {x : Oper} {l r : List Oper} {s : St} : AED P gl tb all B effs base K (List.append (x :: l) r) i s = AED P gl tb all B effs base K (x :: List.append l r) i s := (rfl)
theorem w_dapp0 {r : List Oper} {s : St} : AED P gl tb all B effs base K (List.append [] r) i s = AED P gl tb all B effs base K r i s := (rfl)
theorem w_dnil {s : St} : AED P gl tb all B effs base K [] i s = K s := (rfl)
theorem w_app1 {v : AV} {t : Nat} : St.app ⟨E, O, n⟩ (some t) (some v) .none = ⟨(t, v) :: E, O, n + 1⟩ := (rfl)
theorem w_app2 {v : AV} {t : Nat} {o : Obj1} : St.app ⟨E, O, n⟩ (some t) (some v) (.new o) = ⟨(t, v) :: E, (n, o) :: O, n + 1⟩ := (rfl)
theorem w_app3 {v : AV} {t k : Nat} {o : Obj1} : St.app ⟨E, O, n⟩ (some t) (some v) (.swap k o) = ⟨(t, v) :: E, (n, o) :: delL O k, n + 1⟩ := (rfl)
theorem w_app4 {k : Nat} {o : Obj1} : St.app ⟨E, O, n⟩ none none (.turn k o) = ⟨E, setL O k o, n + 1⟩ := (rfl)
theorem w_app5 {v : AV} {e : Eff} : St.app ⟨E, O, n⟩ none (some v) e = ⟨E, (match e with
    | .none => O
    | .new o => (n, o) :: O
    | .turn k o => setL O k o
    | .swap k o => (n, o) :: delL O k
    | .drop ks => delsL O ks
    | .pass ks os => os ++ delsL O ks), n + 1⟩ := (rfl)
theorem w_app9 {v : AV} {t : Nat} {ks : List Nat} {os : List (Nat × Obj1)} : St.app ⟨E, O, n⟩ (some t) (some v) (.pass ks os) = ⟨(t, v) :: E, os ++ delsL O ks, n + 1⟩ := (rfl)
theorem w_app7 {v : AV} {t : Nat} {ks : List Nat} : St.app ⟨E, O, n⟩ (some t) (some v) (.drop ks) = ⟨(t, v) :: E, delsL O ks, n + 1⟩ := (rfl)
theorem w_app8 {x : AV} {k : Nat} {o : Obj1} {d : Nat} : St.app ⟨E, O, n⟩ (some d) (some x) (.turn k o) = ⟨(d, x) :: E, setL O k o, n + 1⟩ := (rfl)
theorem w_app6 {t k : Nat} {o : Obj1} : St.app ⟨E, O, n⟩ (some t) none (.turn k o) = ⟨delL E t, setL O k o, n + 1⟩ := (rfl)
theorem w_skip1 {t : Nat} : St.skip ⟨E, O, n⟩ (some t) = ⟨(t, .d (.tup [])) :: E, O, n + 1⟩ := (rfl)
theorem w_skip0 : St.skip ⟨E, O, n⟩ none = ⟨E, O, n + 1⟩ := (rfl)
theorem w_prune {l : List Nat} : St.prune l ⟨E, O, n⟩ = ⟨pruneL l E, O, n⟩ := (rfl)
end
section
variable {α : Type}
theorem w_look {k t : Nat} {x : α} {r : List (Nat × α)} : look ((k, x) :: r) t = if k = t then some x else look r t := (rfl)
theorem w_look0 {t : Nat} : look ([] : List (Nat × α)) t = none := (rfl)
theorem w_del {k t : Nat} {x : α} {r : List (Nat × α)} : delL ((k, x) :: r) t = if k = t then delL r t else (k, x) :: delL r t := (rfl)
theorem w_del0 {t : Nat} : delL ([] : List (Nat × α)) t = [] := (rfl)
theorem w_set {k t : Nat} {x v : α} {r : List (Nat × α)} : setL ((k, x) :: r) t v = if k = t then (k, v) :: r else (k, x) :: setL r t v := (rfl)
theorem w_set0 {t : Nat} {v : α} : setL ([] : List (Nat × α)) t v = [(t, v)] := (rfl)
theorem w_pr {t : Nat} {l : List Nat} {E : List (Nat × α)} : pruneL (t :: l) E = match look E t with
  | some v => (t, v) :: pruneL l E
  | none => pruneL l E := (rfl)
theorem w_pr0 {E : List (Nat × α)} : pruneL [] E = [] := (rfl)
theorem w_spl0 {cs new : List α} : splice cs 0 new = new ++ cs.drop new.length := by cases cs <;> rfl
theorem w_spls {c : α} {cs new : List α} {n : Nat} : splice (c :: cs) (n + 1) new = c :: splice cs n new := (rfl)
end
section
variable {P : Program} {gl : GL} {tb : Nat → Option TI} {nt : Nat} {Q : AExit → St → Prop} {R : St → Prop} {s : St} {id k : Nat}
/-- What is alive behind a region. -/
def lvOf : List (Nat × List Nat) → Nat → List Nat
  | [], _ => []
  | (k, x) :: r, t => if k = t then x else lvOf r t
theorem w_lv {k t : Nat} {x : List Nat} {r : List (Nat × List Nat)} : lvOf ((k, x) :: r) t = if k = t then x else lvOf r t := (rfl)
theorem AW.regionL (htb : TbOk P tb) (lv : List (Nat × List Nat)) {id : Nat} {ops : List Oper} (hd : ops.all (dstOk nt) = true) (h : AE P gl tb ops (fun x s => Q (.panic x) ⟨s.env, [], s.nxt⟩) (fun s' => Q .normal (s'.prune (lvOf lv id))) ops s) : AW P gl nt (.region id ops.toArray false) Q s := .region htb _ hd h
theorem AW.regionDL (htb : TbOk P tb) (hmix : P.follows .mixedOrders = true) (lv : List (Nat × List Nat)) (bs : List (Nat × List Nat × List Nat)) {id : Nat} {ops : List Oper} {B effs : List Nat} (hb : look bs id = some (B, effs)) (hchk : drawOk ops.toArray B effs = true) (hd : ops.all (dstOk nt) = true)
    (h : AED P gl tb ops B effs s.nxt (fun s' => Q .normal (s'.prune (lvOf lv id))) ops 0 s) : AW P gl nt (.region id ops.toArray true) Q s := .regionD htb hmix _ B effs hchk hd h
/-- What follows is kept out of sight. -/
theorem AW.seqH {x y : Code} (h : ∀ y', y' = y → AW P gl nt x (thenA (AW P gl nt y' Q) Q) s) : AW P gl nt (.seq x y) Q s := .seq (h y rfl)
theorem AW.unf {y' y : Code} (hy : y' = y) (h : AW P gl nt y Q s) : AW P gl nt y' Q s := hy ▸ h
/-- An exit that isn't the plain one. -/
def AExit.ab : AExit → Prop
  | .normal => False
  | _ => True
/-- How a code ends that does nothing. -/
def cexit : Code → Option AExit
  | .skip => some .normal
  | .exit k => some (.exit k)
  | .ret => some .ret
  | .goto l => some (.goto l)
  | _ => none
theorem ZS {y : Code} {e : AExit} (h : cexit y = some e) (k : Q e s) : AW P gl nt y Q s := by
  unfold cexit at h
  split at h
  · injection h with h; subst h; exact .skip k
  · injection h with h; subst h; exact .exit k
  · injection h with h; subst h; exact .ret k
  · injection h with h; subst h; exact .goto k
  · cases h
/-- Where one is led. -/
class Hop (Q' : AExit → St → Prop) (e : AExit) (s : St) (R : outParam Prop) : Prop where
  go : R → Q' e s
theorem ZH {Q' : AExit → St → Prop} {e : AExit} {s : St} {R : Prop} [h : Hop Q' e s R] (r : R) : Q' e s := h.go r
theorem Zn {α : Type} {l : List α} {p : α → Bool} {q : Prop} (h : List.all l p = true) (hq : q) : List.all l p = true ∧ q := ⟨h, hq⟩
/-- What follows, as a variable. -/
class Cut (P : outParam Program) (gl : outParam GL) (nt : outParam Nat) (y : outParam Code) (Q : outParam (AExit → St → Prop)) (Q' : AExit → St → Prop) : Prop where
  n : ∀ s, AW P gl nt y Q s → Q' .normal s
  e : ∀ e s, e.ab → Q e s → Q' e s
theorem AW.seqC {x y : Code} (h : ∀ Q', Cut P gl nt y Q Q' → AW P gl nt x Q' s) : AW P gl nt (.seq x y) Q s :=
  .seq (h _ ⟨fun _ h => h, fun e s he hq => by cases e <;> first | exact he.elim | exact hq⟩)
theorem Cut.go {y : Code} {Q' : AExit → St → Prop} (h : Cut P gl nt y Q Q') (k : AW P gl nt y Q s) : Q' .normal s := h.n s k
theorem Cut.out {y : Code} {Q' : AExit → St → Prop} {e : AExit} (h : Cut P gl nt y Q Q') (he : e.ab) (k : Q e s) : Q' e s := h.e e s he k
instance {y : Code} {Q' : AExit → St → Prop} [h : Cut P gl nt y Q Q'] : Hop Q' .ret s (Q .ret s) := ⟨fun k => h.e _ s trivial k⟩
instance {y : Code} {Q' : AExit → St → Prop} [h : Cut P gl nt y Q Q'] {k : Nat} : Hop Q' (.exit k) s (Q (.exit k) s) := ⟨fun k => h.e _ s trivial k⟩
instance {y : Code} {Q' : AExit → St → Prop} [h : Cut P gl nt y Q Q'] {k : Nat} : Hop Q' (.goto k) s (Q (.goto k) s) := ⟨fun k => h.e _ s trivial k⟩
instance {y : Code} {Q' : AExit → St → Prop} [h : Cut P gl nt y Q Q'] {k : D} : Hop Q' (.panic k) s (Q (.panic k) s) := ⟨fun k => h.e _ s trivial k⟩
class Bl (id : outParam Nat) (Q : outParam (AExit → St → Prop)) (Q' : AExit → St → Prop) : Prop where
  n : ∀ s, Q .normal s → Q' .normal s
  x : ∀ s, Q .normal s → Q' (.exit id) s
  e : ∀ e s, e ≠ .exit id → Q e s → Q' e s
theorem AW.blockC {id : Nat} {x : Code} (h : ∀ Q', Bl id Q Q' → AW P gl nt x Q' s) : AW P gl nt (.block id x) Q s :=
  .block (h _ ⟨fun _ h => h, fun _ h => by simp only [blockA, if_true]; exact h, fun e s he hq => by
    cases e <;> first | exact hq | skip
    rename_i k
    simp only [blockA]
    rw [if_neg (fun hk => he (by rw [hk]))]
    exact hq⟩)
theorem Bl.go {id : Nat} {Q' : AExit → St → Prop} (h : Bl id Q Q') (k : Q .normal s) : Q' .normal s := h.n s k
theorem Bl.leave {id : Nat} {Q' : AExit → St → Prop} (h : Bl id Q Q') (k : Q .normal s) : Q' (.exit id) s := h.x s k
theorem Bl.ret {id : Nat} {Q' : AExit → St → Prop} (h : Bl id Q Q') (k : Q .ret s) : Q' .ret s := h.e _ s (fun h => nomatch h) k
theorem Bl.goto {id l : Nat} {Q' : AExit → St → Prop} (h : Bl id Q Q') (k : Q (.goto l) s) : Q' (.goto l) s := h.e _ s (fun h => nomatch h) k
instance {id : Nat} {Q' : AExit → St → Prop} [h : Bl id Q Q'] : Hop Q' .normal s (Q .normal s) := ⟨h.n s⟩
instance {id : Nat} {Q' : AExit → St → Prop} [h : Bl id Q Q'] : Hop Q' (.exit id) s (Q .normal s) := ⟨h.x s⟩
instance {id : Nat} {Q' : AExit → St → Prop} [h : Bl id Q Q'] : Hop Q' .ret s (Q .ret s) := ⟨fun k => Bl.ret h k⟩
instance {id : Nat} {Q' : AExit → St → Prop} [h : Bl id Q Q'] {l : Nat} : Hop Q' (.goto l) s (Q (.goto l) s) := ⟨fun k => Bl.goto h k⟩
theorem Bl.exit {id k : Nat} {Q' : AExit → St → Prop} (h : Bl id Q Q') (hk : k ≠ id) (hq : Q (.exit k) s) : Q' (.exit k) s := h.e _ s (fun h => hk (by injection h)) hq
/-- What is known behind the first part. -/
theorem AW.cutS {x y : Code} (st : St) (hx : ∀ Q', (∀ s', st.le s' → Q' AExit.normal s') → AW P gl nt x Q' s) (hy : AW P gl nt y Q st) : AW P gl nt (.seq x y) Q s :=
  .seq ((hx (fun e s' => e = .normal ∧ st.le s') fun s' h => ⟨rfl, h⟩).mono fun e s' hq => by
    obtain ⟨rfl, h⟩ := hq
    exact .weaken st h hy)
def condQ (b : Bool) (X Y : Prop) : Prop := (b = true → X) ∧ (b = false → Y)
theorem AW.condE {cd : Operand} {x y : Code} {b : Bool} (hc : getE gl (look s.env) cd = some (.d (.bool b))) (h : condQ b (AW P gl nt x Q s) (AW P gl nt y Q s)) : AW P gl nt (.cond cd x y) Q s := .cond hc h.1 h.2
theorem condQ_T {X Y : Prop} (h : X) : condQ true X Y := ⟨fun _ => h, fun h => nomatch h⟩
theorem condQ_F {X Y : Prop} (h : Y) : condQ false X Y := ⟨(fun h => nomatch h), fun _ => h⟩
theorem AW.condT {cd : Operand} {x y : Code} (hc : getE gl (look s.env) cd = some (.d (.bool true))) (h : AW P gl nt x Q s) : AW P gl nt (.cond cd x y) Q s := .cond hc (fun _ => h) (fun h => nomatch h)
theorem AW.condF {cd : Operand} {x y : Code} (hc : getE gl (look s.env) cd = some (.d (.bool false))) (h : AW P gl nt y Q s) : AW P gl nt (.cond cd x y) Q s := .cond hc (fun h => nomatch h) (fun _ => h)
theorem w_then : thenA R Q .normal s = R s := (rfl)
theorem w_thenr : thenA R Q .ret s = Q .ret s := (rfl)
theorem w_thene : thenA R Q (.exit k) s = Q (.exit k) s := (rfl)
theorem w_theng : thenA R Q (.goto k) s = Q (.goto k) s := (rfl)
theorem w_blk : blockA id Q .normal s = Q .normal s := (rfl)
theorem w_blkr : blockA id Q .ret s = Q .ret s := (rfl)
theorem w_blkg : blockA id Q (.goto k) s = Q (.goto k) s := (rfl)
theorem w_blke : blockA id Q (.exit k) s = if k = id then Q .normal s else Q (.exit k) s := (rfl)
variable {g : Operand → Option AV} {O : Nat → Option Obj1} {E : Nat → Option AV} {id : Nat} {K : AV → Eff → Prop} {K1 : AV → Prop} {K3 : Option AV → Eff → Prop}
theorem w_getAs0 : getAs g O [] = some ([], []) := (rfl)
theorem w_getAs {x : Operand} {r : List Operand} : getAs g O (x :: r) = match g x, getAs g O r with
  | some y, some (ds, ks) => match asD O y with
    | some d => some (d :: ds, y.ids ++ ks)
    | none => none
  | _, _ => none := (rfl)
theorem w_dropE0 : dropE [] = .none := (rfl)
theorem w_dropE {k : Nat} {ks : List Nat} : dropE (k :: ks) = .drop (k :: ks) := (rfl)
theorem w_getParts0 : getParts g [] = some [] := (rfl)
theorem w_getParts {i : Nat} {x : Operand} {r : List (Nat × Operand)} : getParts g ((i, x) :: r) = match g x, getParts g r with
    | some y, some ys => some ((i, y) :: ys)
    | _, _ => none := (rfl)
/-- The byte at a place. -/
def byteAt (s : ByteArray) (i : Nat) : Int := if h : i < s.size then ((s[i]'h).toNat : Int) else 0
theorem byteAt_bd (s : ByteArray) (i : Nat) : 0 ≤ byteAt s i ∧ byteAt s i ≤ 255 := by
  unfold byteAt
  split
  · have := (s[i]).toNat_lt
    omega
  · omega
theorem idx_str {E : Nat → Option AV} {Oo : Nat → Option Obj1} {t : Nat} {x y : Operand} {k : IntKind} {n : Int} {s : ByteArray} {i : TI} (hx : getE gl E x = some (.d (.str s))) (hy : getE gl E y = some (.d (.int k n))) (ht : tb t = some i) (hk : i.k = .str) (h0 : 0 ≤ n) (h : n < s.size) (hK : K3 (some (.d (.int .u8 (byteAt s n.toNat)))) .none) : opA P gl tb E Oo id (.index t x y) K3 := by
  have hlt : n.toNat < s.size := by omega
  simp only [w_index, hx, hy, ht, hk]
  rw [byteAt, dif_pos hlt] at hK
  exact ⟨h0, hlt, hK⟩
/-- An element's place. -/
theorem idx_map {α : Type} {l : List α} {f : α → List D} {Oo : Nat → Option Obj1} {t j : Nat} {x y : Option AV} {k : IntKind} {n : Int} {i : TI} {te sz : Nat} (d : α) (hx : x = some (.d (.slice (l.map f)))) (hy : y = some (.d (.int k n))) (ht : tb t = some i) (hk : i.k = .slice te sz) (hn : n.toNat = j) (h0 : 0 ≤ n) (h : j < l.length)
    (hsz : (f (l.getD j d)).length = sz) (hK : K3 (some (.d (.addr (f (l.getD j d))))) .none) : idxB tb Oo t x y K3 := by
  subst hx; subst hy; subst hn
  simp only [idxB, idxA, ht, hk]
  exact ⟨h0, _, by simp [List.getElem?_eq_getElem h, List.getD_eq_getElem?_getD], hsz, hK⟩
theorem idx_own {t : Nat} {Oo : Nat → Option Obj1} {x y : Option AV} {k : IntKind} {n : Int} {i : TI} {te te' sz q j : Nat} {fr : Bool} {xs : List (List D)} (hx : x = some (.own q)) (hy : y = some (.d (.int k n))) (ht : tb t = some i) (hk : i.k = .slice te sz) (hO : Oo q = some (.row fr te' sz xs)) (hn : n.toNat = j) (h0 : 0 ≤ n) (h : n < xs.length) (hK : K3 (some (.elt q sz j 0)) .none) : idxB tb Oo t x y K3 := by
  subst hx; subst hy; subst hn
  simp only [idxB, idxA, ht, hk, hO]
  exact ⟨trivial, h0, h, hK⟩
theorem idx_arr {t : Nat} {Oo : Nat → Option Obj1} {x y : Option AV} {k : IntKind} {n : Int} {i : TI} {te sz q j off len : Nat} (hx : x = some (.ref q off)) (hy : y = some (.d (.int k n))) (ht : tb t = some i) (hk : i.k = .arr len te sz) (hn : n.toNat = j) (h0 : 0 ≤ n) (h : n < len) (hK : K3 (some (.ref q (off + j * sz))) .none) : idxB tb Oo t x y K3 := by
  subst hx; subst hy; subst hn
  simp only [idxB, idxA, ht, hk]
  exact ⟨h0, h, hK⟩
theorem idx_arrd {t : Nat} {Oo : Nat → Option Obj1} {x y : Option AV} {k : IntKind} {n : Int} {i : TI} {te sz j len : Nat} {cs : List D} (hx : x = some (.d (.addr cs))) (hy : y = some (.d (.int k n))) (ht : tb t = some i) (hk : i.k = .arr len te sz) (hn : n.toNat = j) (h0 : 0 ≤ n) (h : n < len) (hK : K3 (some (.d (.addr (cs.drop (j * sz))))) .none) : idxB tb Oo t x y K3 := by
  subst hx; subst hy; subst hn
  simp only [idxB, idxA, ht, hk]
  exact ⟨h0, h, hK⟩
/-- A call of a function whose contract is known. -/
theorem call_pure {x : Operand} {as : Array Operand} {ts : Array TypeId} {f : Nat} {fs cs ds : List D} {ks : List Nat} {res : D} (hx : g x = some (.d (.fn f fs cs))) (hd : getAs g O as.toList = some (ds, ks)) (hc : PCon P gl f (fs ++ ds ++ cs) res) (hK : K (.d res) (dropE ks)) : callA P gl tb g O id ⟨.value x, as, ts⟩ K := by
  simp only [callA, hx, hd]
  exact .inl ⟨res, hc, hK⟩
theorem call_row {x : Operand} {as : Array Operand} {ts : Array TypeId} {f : Nat} {fs cs ds : List D} {ks : List Nat} {te : TypeId} {sz : Nat} {xs : List (List D)} (hx : g x = some (.d (.fn f fs cs))) (hd : getAs g O as.toList = some (ds, ks)) (hc : PConR P gl f (fs ++ ds ++ cs) te sz xs) (hK : K (.own id) (newE ks id (.row true te sz xs))) : callA P gl tb g O id ⟨.value x, as, ts⟩ K := by
  simp only [callA, hx, hd]
  exact .inr (.inl ⟨te, sz, xs, hc, hK⟩)
/-- As 'call_pure', where nil is handed in as nil. -/
theorem call_nil {x : Operand} {as : Array Operand} {ts : Array TypeId} {f : Nat} {fs cs ds ds' : List D} {ks : List Nat} {res : D} (hx : g x = some (.d (.fn f fs cs))) (hd : getAs g O as.toList = some (ds, ks)) (hd' : getAR g as.toList = some ds') (hc : PCon P gl f (fs ++ ds' ++ cs) res) (hK : K (.d res) .none) : callA P gl tb g O id ⟨.value x, as, ts⟩ K := by
  simp only [callA, hx, hd]
  exact .inr (.inr (.inl ⟨ds', res, hd', hc, hK⟩))
theorem call_nilR {x : Operand} {as : Array Operand} {ts : Array TypeId} {f : Nat} {fs cs ds ds' : List D} {ks : List Nat} {te : TypeId} {sz : Nat} {xs : List (List D)} (hx : g x = some (.d (.fn f fs cs))) (hd : getAs g O as.toList = some (ds, ks)) (hd' : getAR g as.toList = some ds') (hc : PConR P gl f (fs ++ ds' ++ cs) te sz xs) (hK : K (.own id) (.new (.row true te sz xs))) : callA P gl tb g O id ⟨.value x, as, ts⟩ K := by
  simp only [callA, hx, hd]
  exact .inr (.inr (.inr (.inl ⟨ds', te, sz, xs, hd', hc, hK⟩)))
/-- As 'call_row', where the row stands in a struct. -/
theorem call_rowW {x : Operand} {as : Array Operand} {ts : Array TypeId} {f : Nat} {fs cs ds : List D} {ks : List Nat} {te : TypeId} {sz : Nat} {xs : List (List D)} (hx : g x = some (.d (.fn f fs cs))) (hd : getAs g O as.toList = some (ds, ks)) (hc : PConW P gl f (fs ++ ds ++ cs) te sz xs) (hK : K (.agg [.own id]) (newE ks id (.row true te sz xs))) : callA P gl tb g O id ⟨.value x, as, ts⟩ K := by
  simp only [callA, hx, hd]
  exact .inr (.inr (.inr (.inr (.inl ⟨te, sz, xs, hc, hK⟩))))
/-- A call whose step is known. -/
theorem call_step {x : Operand} {as : Array Operand} {ts : Array TypeId} {f : Nat} {fs cs ds : List D} {ks : List Nat} {E : Nat → Option AV} {v : AV} {e : Eff} (hx : getE gl E x = some (.d (.fn f fs cs))) (hd : getAs (getE gl E) O as.toList = some (ds, ks)) (hst : ∀ o : Oper, o.op = .call ⟨.value x, as, ts⟩ → Step P gl E O o id (some v) e) (hK : K v e) : callA P gl tb (getE gl E) O id ⟨.value x, as, ts⟩ K := by
  simp only [callA, hx, hd]
  exact .inr (.inr (.inr (.inr (.inr ⟨E, rfl, v, e, hK, hst⟩))))
theorem w_callcap {x : Operand} {t : TypeId} : callA P gl tb g O id ⟨.builtin .cap, #[x], #[t]⟩ K = (match tb t, g x with
      | some i, some (.d .nils) => match i.k with
        | .slice _ _ => K (.d (.int .i64 0)) .none
        | _ => False
      | _, _ => False) := (rfl)
theorem w_calllen {x : Operand} {t : TypeId} : callA P gl tb g O id ⟨.builtin .len, #[x], #[t]⟩ K = lenA tb O t (g x) fun n => K (.d (.int .i64 n)) .none := (rfl)
theorem w_callmin {x y : Operand} {ts : Array TypeId} : callA P gl tb g O id ⟨.builtin .min, #[x, y], ts⟩ K = (match g x, g y with
      | some (.d (.int k m)), some (.d (.int _ n)) => K (.d (.int k (min m n))) .none
      | _, _ => False) := (rfl)
theorem w_callmax {x y : Operand} {ts : Array TypeId} : callA P gl tb g O id ⟨.builtin .max, #[x, y], ts⟩ K = (match g x, g y with
      | some (.d (.int k m)), some (.d (.int _ n)) => K (.d (.int k (max m n))) .none
      | _, _ => False) := (rfl)
theorem w_callapp {x y : Operand} {t t' : TypeId} : callA P gl tb g O id ⟨.builtin .append, #[x, y], #[t, t']⟩ K = appA tb O id t t' (g x) (g y) K := (rfl)
end
/-- The numbers' own law. -/
theorem wrap64 {z : Int} (h1 : -9223372036854775808 ≤ z) (h2 : z ≤ 9223372036854775807) : IntKind.i64.wrap z = z := by
  simp only [IntKind.wrap, IntKind.bits, IntKind.signed]
  simp
  omega
section
variable {P : Program} {gl : GL} {tb : Nat → Option TI} {nt : Nat} {Q : AExit → St → Prop} {s : St}
theorem le_iff {E : List (Nat × AV)} {O : List (Nat × Obj1)} {n : Nat} : St.le ⟨E, O, n⟩ s = (envLe s E ∧ ownLe s O ∧ idsEnv n E ∧ idsOwn n O) := propext ⟨fun h => ⟨h.env, h.own, h.ie, h.io⟩, fun h => ⟨h.1, h.2.1, h.2.2.1, h.2.2.2⟩⟩
/-- What a round leaves. -/
def LoopN {α : Type} (st : α → St) (ok : α → Prop) (mu : α → Nat) (a : α) (s' : St) : Prop := ∃ a', ok a' ∧ mu a' < mu a ∧ (st a').le s'
/-- A loop whose states are told by 'st'. -/
theorem AW.loopP {α : Type} (st : α → St) (ok : α → Prop) (mu : α → Nat) (a0 : α) (h0 : ok a0) (hle : (st a0).le s) {x : Code}
    (hr : ∀ a, ok a → AW P gl nt x (thenA (LoopN st ok mu a) Q) (st a)) : AW P gl nt (.loop x) Q s :=
  .loop (fun n s => ∃ a, ok a ∧ mu a = n ∧ (st a).le s) ⟨mu a0, a0, h0, rfl, hle⟩ fun n s ⟨a, h1, h2, h3⟩ => .weaken (st a) h3 ((hr a h1).mono fun e s' hq => by
    cases e <;> first | exact hq | skip
    obtain ⟨a', q1, q2, q3⟩ := hq
    exact ⟨mu a', h2 ▸ q2, a', q1, rfl, q3⟩)
class Lp {α : outParam Type} (st : outParam (α → St)) (ok : outParam (α → Prop)) (mu : outParam (α → Nat)) (a : outParam α) (Q : outParam (AExit → St → Prop)) (Q' : AExit → St → Prop) : Prop where
  n : ∀ s, LoopN st ok mu a s → Q' .normal s
  e : ∀ e s, e.ab → Q e s → Q' e s
theorem AW.loopC {α : Type} (st : α → St) (ok : α → Prop) (mu : α → Nat) (a0 : α) (h0 : ok a0) (hle : (st a0).le s) {x : Code}
    (hr : ∀ a, ok a → ∀ Q', Lp st ok mu a Q Q' → AW P gl nt x Q' (st a)) : AW P gl nt (.loop x) Q s :=
  .loopP st ok mu a0 h0 hle fun a ha => hr a ha _ ⟨fun _ h => h, fun e s he hq => by cases e <;> first | exact he.elim | exact hq⟩
theorem Lp.out {α : Type} {st : α → St} {ok : α → Prop} {mu : α → Nat} {a : α} {Q' : AExit → St → Prop} {e : AExit} (h : Lp st ok mu a Q Q') (he : e.ab) (k : Q e s) : Q' e s := h.e e s he k
instance {α : Type} {st : α → St} {ok : α → Prop} {mu : α → Nat} {a : α} {Q' : AExit → St → Prop} [h : Lp st ok mu a Q Q'] : Hop Q' .ret s (Q .ret s) := ⟨fun k => h.e _ s trivial k⟩
instance {α : Type} {st : α → St} {ok : α → Prop} {mu : α → Nat} {a : α} {Q' : AExit → St → Prop} [h : Lp st ok mu a Q Q'] {k : Nat} : Hop Q' (.exit k) s (Q (.exit k) s) := ⟨fun k => h.e _ s trivial k⟩
instance {α : Type} {st : α → St} {ok : α → Prop} {mu : α → Nat} {a : α} {Q' : AExit → St → Prop} [h : Lp st ok mu a Q Q'] {k : Nat} : Hop Q' (.goto k) s (Q (.goto k) s) := ⟨fun k => h.e _ s trivial k⟩
instance {α : Type} {st : α → St} {ok : α → Prop} {mu : α → Nat} {a : α} {Q' : AExit → St → Prop} [h : Lp st ok mu a Q Q'] {k : D} : Hop Q' (.panic k) s (Q (.panic k) s) := ⟨fun k => h.e _ s trivial k⟩
theorem Lp.next {α : Type} {st : α → St} {ok : α → Prop} {mu : α → Nat} {a : α} {Q' : AExit → St → Prop} (h : Lp st ok mu a Q Q') (a' : α) (h1 : ok a') (h2 : mu a' < mu a) (h3 : (st a').le s) : Q' .normal s := h.n s ⟨a', h1, h2, h3⟩
theorem loopN_of {α : Type} {st : α → St} {ok : α → Prop} {mu : α → Nat} {a : α} {s' : St} (a' : α) (h1 : ok a') (h2 : mu a' < mu a) (h3 : (st a').le s') : LoopN st ok mu a s' := ⟨a', h1, h2, h3⟩

/-- Ways that meet: what is known of each, by 'st'. -/
theorem AW.seqP {α : Type} {x y : Code} (st : α → St) (ok : α → Prop) (h : AW P gl nt x (thenA (fun s' => ∃ a, ok a ∧ (st a).le s') Q) s) (k : ∀ a, ok a → AW P gl nt y Q (st a)) : AW P gl nt (.seq x y) Q s :=
  .seq_cut (fun s' => ∃ a, ok a ∧ (st a).le s') h fun s' ⟨a, h1, h2⟩ => .weaken (st a) h2 (k a h1)

theorem at_map {α : Type} {l : List α} {f : α → List D} {i : Nat} (d : α) (h : i < l.length) : (l.map f)[i]? = some (f (l.getD i d)) := by
  simp [List.getElem?_eq_getElem h, List.getD_eq_getElem?_getD]
end
attribute [go_sem ↓] wx_move wx_assign wx_pick wx_alloc wx_box wx_build wx_buildSlice wx_load wx_store wx_nilCheck wx_binOp wx_unOp wx_convert wx_makeSlice wx_slice wx_fieldAddr wx_field wx_indexAddr wx_index wx_extract wx_makeInterface wx_typeAssert wx_range wx_next wx_makeMap wx_insert wx_lookup wx_mapUpdate wx_makeFunc wx_panic wx_call wx_builtin w_firstA w_firstA0 w_range w_next w_makeMap w_insert w_lookup w_mapUpdate w_makeInterface w_typeAssert w_makeFunc w_getDs0 w_getDs w_binA w_cutB w_lenA w_appA w_move w_assign w_pick w_alloc w_box w_build w_buildSlice w_load w_store w_nilCheck w_binOp w_unOp_not w_unOp_neg w_convert w_makeSlice w_slice w_fieldAddr w_field w_idx w_extract w_call w_cons w_yes w_no w_nil w_dcons w_dyes w_dno w_dnil w_dapp w_dapp0 w_app_c w_app_n w_app1 w_app2 w_app3 w_app4 w_app5 w_app6 w_app7 w_app8 w_app9 w_skip1 w_skip0 w_prune w_look w_look0 w_del w_del0 w_set w_set0 w_pr w_pr0 w_lv w_spl0 w_spls w_then w_thenr w_thene w_theng w_blk w_blkr w_blkg w_blke w_getT w_getI w_getB w_getS w_getNI w_getNF w_getNP w_getNS w_getF w_getG w_getAs0 w_getAs w_dropE0 w_dropE w_getParts0 w_getParts w_callcap w_calllen w_callmin w_callmax w_callapp
attribute [go_sem] toAV w_aget0 w_agets w_agetn findM lookV TK.conc assertV true_or or_true Obj1.ids false_and and_false exists_false or_false false_or Nat.zero_lt_succ Nat.zero_lt_one Bool.not_true Bool.not_false gate argsE sameS same1 aggV nilV delsL intV intC boolV shiftV strV strC srcA le_iff envLe ownLe idsEnv idsOwn AV.ids AV.idsL allBelow readD readA TK.agg AV.cells D.cells AV.isTup D.isTup ownOk ownsOk' allD mkAgg AV.mk dense fillA placeS D.norm D.norm1 asD asC asCL outA outL outsA okEff isEx asP asPs newE List.mem_cons List.not_mem_nil
attribute [go_sem] Option.some.injEq AV.d.injEq D.int.injEq D.bool.injEq D.slice.injEq D.str.injEq D.agg.injEq true_and and_true implies_true forall_const Bool.false_eq_true List.cons_append List.nil_append List.append_nil List.length_cons List.length_nil List.drop_zero List.drop_succ_cons List.take_zero List.take_succ_cons List.map_cons List.map_nil List.getElem?_cons_zero List.getElem?_cons_succ
end Go.Proofs.Ytpibdbjlilpfiaa
/- Loops and joins whose own objects get other numbers. -/
namespace Go.Proofs.Ytpibdbjlilpfiaa
set_option linter.all false
open Go Go.RowKit

def St.swl : List (Nat × Nat) → St → St
  | [], s => s
  | (i, j) :: r, s => St.swl r (s.sw i j)
def swlOk (l : List (Nat × Nat)) (n : Nat) : Bool := l.all fun p => decide (p.1 < n) && decide (p.2 < n)
theorem swl_nxt : ∀ {l : List (Nat × Nat)} {s : St}, (St.swl l s).nxt = s.nxt
  | [], _ => rfl
  | (i, j) :: r, s => by rw [St.swl, swl_nxt]; rfl
section
variable {P : Program} {gl : GL} {tb : Nat → Option TI} {nt : Nat} {Q : AExit → St → Prop} {s : St}
theorem AW.swl {code : Code} : ∀ (l : List (Nat × Nat)) {s : St}, swlOk l s.nxt = true → AW P gl nt code Q (St.swl l s) → AW P gl nt code Q s
  | [], _, _, h => h
  | (i, j) :: r, s, hl, h => by
    simp only [swlOk, List.all_cons, Bool.and_eq_true, decide_eq_true_eq] at hl
    exact .swap i j hl.1.1 hl.1.2 (AW.swl r (s := s.sw i j) hl.2 h)
/-- What a round leaves, but for the numbers. -/
def LoopM {α : Type} (st : α → St) (ok : α → Prop) (mu : α → Nat) (a : α) (s' : St) : Prop := ∃ a', ok a' ∧ mu a' < mu a ∧ ∃ l, swlOk l s'.nxt = true ∧ (st a').le (St.swl l s')
class Lw {α : outParam Type} (st : outParam (α → St)) (ok : outParam (α → Prop)) (mu : outParam (α → Nat)) (a : outParam α) (Q : outParam (AExit → St → Prop)) (Q' : AExit → St → Prop) : Prop where
  n : ∀ s, LoopM st ok mu a s → Q' .normal s
  e : ∀ e s, e.ab → Q e s → Q' e s
theorem AW.loopS {α : Type} (st : α → St) (ok : α → Prop) (mu : α → Nat) (a0 : α) (h0 : ok a0) (l : List (Nat × Nat)) (hl : swlOk l s.nxt = true) (hle : (st a0).le (St.swl l s)) {x : Code}
    (hr : ∀ a, ok a → ∀ Q', Lw st ok mu a Q Q' → AW P gl nt x Q' (st a)) : AW P gl nt (.loop x) Q s :=
  .loop (fun n s => ∃ a, ok a ∧ mu a = n ∧ ∃ l, swlOk l s.nxt = true ∧ (st a).le (St.swl l s)) ⟨mu a0, a0, h0, rfl, l, hl, hle⟩ fun n s ⟨a, h1, h2, l, h3, h4⟩ => .swl l h3 (.weaken (st a) h4 (hr a h1 _ ⟨fun s' ⟨a', q1, q2, q3⟩ => ⟨mu a', h2 ▸ q2, a', q1, rfl, q3⟩, fun e s he hq => by cases e <;> first | exact he.elim | exact hq⟩))
theorem Lw.out {α : Type} {st : α → St} {ok : α → Prop} {mu : α → Nat} {a : α} {Q' : AExit → St → Prop} {e : AExit} (h : Lw st ok mu a Q Q') (he : e.ab) (k : Q e s) : Q' e s := h.e e s he k
instance {α : Type} {st : α → St} {ok : α → Prop} {mu : α → Nat} {a : α} {Q' : AExit → St → Prop} [h : Lw st ok mu a Q Q'] : Hop Q' .ret s (Q .ret s) := ⟨fun k => h.e _ s trivial k⟩
instance {α : Type} {st : α → St} {ok : α → Prop} {mu : α → Nat} {a : α} {Q' : AExit → St → Prop} [h : Lw st ok mu a Q Q'] {k : Nat} : Hop Q' (.exit k) s (Q (.exit k) s) := ⟨fun k => h.e _ s trivial k⟩
instance {α : Type} {st : α → St} {ok : α → Prop} {mu : α → Nat} {a : α} {Q' : AExit → St → Prop} [h : Lw st ok mu a Q Q'] {k : Nat} : Hop Q' (.goto k) s (Q (.goto k) s) := ⟨fun k => h.e _ s trivial k⟩
instance {α : Type} {st : α → St} {ok : α → Prop} {mu : α → Nat} {a : α} {Q' : AExit → St → Prop} [h : Lw st ok mu a Q Q'] {k : D} : Hop Q' (.panic k) s (Q (.panic k) s) := ⟨fun k => h.e _ s trivial k⟩
theorem Lw.next {α : Type} {st : α → St} {ok : α → Prop} {mu : α → Nat} {a : α} {Q' : AExit → St → Prop} (h : Lw st ok mu a Q Q') (a' : α) (l : List (Nat × Nat)) (h1 : ok a') (h2 : mu a' < mu a) (hl : swlOk l s.nxt = true) (h3 : (st a').le (St.swl l s)) : Q' .normal s := h.n s ⟨a', h1, h2, l, hl, h3⟩
/-- What is known behind the first part, but for the numbers. -/
theorem AW.cutW {x y : Code} (st : St) (hx : ∀ Q', (∀ s' l, swlOk l s'.nxt = true → st.le (St.swl l s') → Q' AExit.normal s') → AW P gl nt x Q' s) (hy : AW P gl nt y Q st) : AW P gl nt (.seq x y) Q s :=
  .seq ((hx (fun e s' => e = .normal ∧ ∃ l, swlOk l s'.nxt = true ∧ st.le (St.swl l s')) fun s' l h1 h2 => ⟨rfl, l, h1, h2⟩).mono fun e s' hq => by
    obtain ⟨rfl, l, h1, h2⟩ := hq
    exact .swl l h1 (.weaken st h2 hy))
variable {i j k : Nat} {r : List (Nat × Nat)} {E : List (Nat × AV)} {O : List (Nat × Obj1)} {n t : Nat} {v x : AV} {o : Obj1} {cs : List AV}
theorem z_0 : St.swl [] s = s := (rfl)
theorem z_1 : St.swl ((i, j) :: r) s = St.swl r (s.sw i j) := (rfl)
theorem z_2 : St.sw ⟨E, O, n⟩ i j = ⟨swE i j E, swO i j O, n⟩ := (rfl)
theorem z_3 : swE i j [] = [] := (rfl)
theorem z_4 : swE i j ((t, v) :: E) = (t, v.sw i j) :: swE i j E := (rfl)
theorem z_5 : swO i j [] = [] := (rfl)
theorem z_6 : swO i j ((t, o) :: O) = (sw i j t, o.sw i j) :: swO i j O := (rfl)
theorem z_7 : sw i j k = if k = i then j else if k = j then i else k := (rfl)
theorem z_8 {d : D} : AV.sw i j (.d d) = .d d := (by rw [AV.sw])
theorem z_9 : AV.sw i j (.own k) = .own (sw i j k) := (by rw [AV.sw])
theorem z_a : AV.sw i j (.ref k n) = .ref (sw i j k) n := (by rw [AV.sw])
theorem z_b {a b c : Nat} : AV.sw i j (.elt k a b c) = .elt (sw i j k) a b c := (by rw [AV.sw])
theorem z_c : AV.sw i j (.agg cs) = .agg (AV.swL i j cs) := (by rw [AV.sw])
theorem z_d : AV.sw i j (.tup cs) = .tup (AV.swL i j cs) := (by rw [AV.sw])
theorem z_e : AV.swL i j [] = [] := (by rw [AV.swL])
theorem z_f : AV.swL i j (x :: cs) = x.sw i j :: AV.swL i j cs := (by rw [AV.swL])
theorem z_g {b : Bool} : Obj1.sw i j (.box b cs) = .box b (AV.swL i j cs) := (rfl)
theorem z_h {b : Bool} {a c : Nat} {xs : List (List D)} : Obj1.sw i j (.row b a c xs) = .row b a c xs := (rfl)
end
attribute [go_sem ↓] z_0 z_1 z_2 z_3 z_4 z_5 z_6 z_8 z_9 z_a z_b z_c z_d z_e z_f z_g z_h
attribute [go_sem] z_7
end Go.Proofs.Ytpibdbjlilpfiaa
/- The equations of freezing. -/
namespace Go.Proofs.Ytpibdbjlilpfiaa
set_option linter.all false
open Go Go.RowKit
section
variable {k j t n : Nat} {f : Frz} {xs : List (List D)} {cs : List AV} {ds : List D} {x v : AV} {E : List (Nat × AV)} {O : List (Nat × Obj1)} {o : Obj1}
theorem y_0 : AV.fz k (.row xs) (.own j) = if j = k then .d (.slice xs) else .own j := (by rw [AV.fz])
theorem y_1 : AV.fz k (.box ds) (.own j) = .own j := (by rw [AV.fz]; simp)
theorem y_2 : AV.fz k (.box ds) (.ref j n) = if j = k then .d (.addr (ds.drop n)) else .ref j n := (by rw [AV.fz])
theorem y_3 : AV.fz k (.row xs) (.ref j n) = .ref j n := (by rw [AV.fz]; simp)
theorem y_4 : AV.fz k f (.agg cs) = mkAgg (AV.fzL k f cs) := (by rw [AV.fz])
theorem y_5 : AV.fz k f (.tup cs) = .tup (AV.fzL k f cs) := (by rw [AV.fz])
theorem y_6 {d : D} : AV.fz k f (.d d) = .d d := (by rw [AV.fz])
theorem y_7 {a b c : Nat} : AV.fz k f (.elt a b c n) = .elt a b c n := (by rw [AV.fz])
theorem y_8 : AV.fzL k f [] = [] := (by rw [AV.fzL])
theorem y_9 : AV.fzL k f (x :: cs) = x.fz k f :: AV.fzL k f cs := (by rw [AV.fzL])
theorem y_a {b : Bool} : Obj1.fz k f (.box b cs) = .box b (AV.fzL k f cs) := (rfl)
theorem y_b {b : Bool} {a c : Nat} : Obj1.fz k f (.row b a c xs) = .row b a c xs := (rfl)
theorem y_c : mapE k f [] = [] := (rfl)
theorem y_d : mapE k f ((t, v) :: E) = (t, v.fz k f) :: mapE k f E := (rfl)
theorem y_e : mapO k f [] = [] := (rfl)
theorem y_f : mapO k f ((t, o) :: O) = (t, o.fz k f) :: mapO k f O := (rfl)
theorem y_g : St.fz ⟨E, O, n⟩ k f = ⟨mapE k f E, mapO k f (delL O k), n⟩ := (rfl)
end
attribute [go_sem ↓] y_0 y_1 y_2 y_3 y_4 y_5 y_6 y_7 y_8 y_9 y_a y_b y_c y_d y_e y_f y_g
end Go.Proofs.Ytpibdbjlilpfiaa
/- Scopes with one label to which the run jumps back. -/
namespace Go.Proofs.Ytpibdbjlilpfiaa
set_option linter.all false
open Go Go.RowKit

section
variable {P : Program} {gl : GL} {nt : Nat} {Q : AExit → St → Prop} {s : St}
/-- What follows a pass: as Q; by a jump to the label: again. -/
class Sw {α : outParam Type} (st : outParam (α → St)) (ok : outParam (α → Prop)) (l : outParam Nat) (Q : outParam (AExit → St → Prop)) (Q' : AExit → St → Prop) : Prop where
  g : ∀ s, (∃ a, ok a ∧ ∃ z, swlOk z s.nxt = true ∧ (st a).le (St.swl z s)) → Q' (.goto l) s
  n : ∀ s, Q .normal s → Q' .normal s
  r : ∀ s, Q .ret s → Q' .ret s
  x : ∀ k s, Q (.exit k) s → Q' (.exit k) s
theorem Sw.again {α : Type} {st : α → St} {ok : α → Prop} {l : Nat} {Q' : AExit → St → Prop} (h : Sw st ok l Q Q') (a : α) (z : List (Nat × Nat)) (h1 : ok a) (hz : swlOk z s.nxt = true) (h3 : (st a).le (St.swl z s)) : Q' (.goto l) s := h.g s ⟨a, h1, z, hz, h3⟩
theorem Sw.less {α : Type} {st : α → St} {ok ok' : α → Prop} {l : Nat} {Q' : AExit → St → Prop} (h : Sw st ok l Q Q') : Sw st (fun a => ok a ∧ ok' a) l Q Q' := ⟨fun s ⟨a, h1, z, h2, h3⟩ => h.g s ⟨a, h1.1, z, h2, h3⟩, h.n, h.r, h.x⟩
theorem Sw.go {α : Type} {st : α → St} {ok : α → Prop} {l : Nat} {Q' : AExit → St → Prop} (h : Sw st ok l Q Q') (k : Q .normal s) : Q' .normal s := h.n s k
theorem Sw.ret {α : Type} {st : α → St} {ok : α → Prop} {l : Nat} {Q' : AExit → St → Prop} (h : Sw st ok l Q Q') (k : Q .ret s) : Q' .ret s := h.r s k
theorem Sw.exit {α : Type} {st : α → St} {ok : α → Prop} {l i : Nat} {Q' : AExit → St → Prop} (h : Sw st ok l Q Q') (k : Q (.exit i) s) : Q' (.exit i) s := h.x i s k
instance {α : Type} {st : α → St} {ok : α → Prop} {l : Nat} {Q' : AExit → St → Prop} [h : Sw st ok l Q Q'] : Hop Q' .normal s (Q .normal s) := ⟨h.n s⟩
instance {α : Type} {st : α → St} {ok : α → Prop} {l : Nat} {Q' : AExit → St → Prop} [h : Sw st ok l Q Q'] : Hop Q' .ret s (Q .ret s) := ⟨h.r s⟩
instance {α : Type} {st : α → St} {ok : α → Prop} {l : Nat} {Q' : AExit → St → Prop} [h : Sw st ok l Q Q'] {i : Nat} : Hop Q' (.exit i) s (Q (.exit i) s) := ⟨h.x i s⟩

def scopeQ (l : Nat) (J : St → Prop) (Q : AExit → St → Prop) : AExit → St → Prop
  | .goto l', s => l' = l ∧ J s
  | e, s => Q e s
theorem scope_sw {α : Type} {st : α → St} {ok : α → Prop} {l : Nat} : Sw st ok l Q (scopeQ l (fun s => ∃ a, ok a ∧ ∃ z, swlOk z s.nxt = true ∧ (st a).le (St.swl z s)) Q) :=
  ⟨fun _ h => ⟨rfl, h⟩, fun _ h => h, fun _ h => h, fun _ _ h => h⟩
theorem AW.scopeC {α : Type} {code rest : Code} (l : Nat) (st : α → St) (ok : α → Prop) (mu : α → Nat) (hf : findLabel code l = some (.seq .skip rest))
    (pass : ∀ a, ok a → ∀ Q', Sw st (fun a' => ok a' ∧ mu a' < mu a) l Q Q' → AW P gl nt rest Q' (st a))
    (first : (∀ a, ok a → ∀ Q', Sw st ok l Q Q' → AW P gl nt rest Q' (st a)) → ∀ Q', Sw st ok l Q Q' → AW P gl nt code Q' s) : AW P gl nt (.scope code) Q s := by
  replace first := first fun a h Q' hQ => pass a h Q' hQ.less
  intro c a w σ hgl hp hs b k cs
  have hg : gotoIn l (.inScope code :: k) = some (.code (.seq .skip rest) :: .inScope code :: k) := by simp [gotoIn, hf]
  have key : ∀ n a0, ok a0 → mu a0 = n → ∀ s a w σ, (∃ z, swlOk z s.nxt = true ∧ (st a0).le (St.swl z s)) → SR c nt s a w σ → ∃ e a' w', APost c nt Q e a' w' ∧ Arrives P (lone (b.at a (.code (.seq .skip rest) :: .inScope code :: k)) cs w) b k cs e a' w' := by
    intro n
    induction n using Nat.strongRecOn with
    | _ n ih =>
      intro a0 h0 hn s a w σ ⟨z, hz, hle⟩ hs
      obtain ⟨e, a', w', ⟨ae, s', σ', q1, q2, q3⟩, harr⟩ := AW.swl z hz (.weaken (st a0) hle (AW.seq (AW.skip (pass a0 h0 _ scope_sw)))) c a w σ hgl hp hs b (.inScope code :: k) cs
      cases q3 with
      | normal => exact ⟨_, a', w', ⟨_, _, _, q1, q2, .normal⟩, Steps.trans harr (.one step_inScope)⟩
      | exit id => exact ⟨_, a', w', ⟨_, _, _, q1, q2, .exit id⟩, fun k' hk => harr k' (by simp [exitTo, hk])⟩
      | goto l' =>
        obtain ⟨rfl, a1, ⟨h1, h2⟩, z1, hz1, hle1⟩ := q1
        obtain ⟨e2, a2, w2, r1, r2⟩ := ih _ (by omega) a1 h1 rfl s' a' w' σ' ⟨z1, hz1, hle1⟩ q2
        exact ⟨e2, a2, w2, r1, .of_steps (harr _ hg) r2⟩
      | ret => exact ⟨_, a', w', ⟨_, _, _, q1, q2, .ret⟩, harr⟩
      | panic x v hv => exact ⟨_, a', w', ⟨_, _, _, q1, q2, .panic x v hv⟩, harr⟩
  obtain ⟨e, a', w', ⟨ae, s', σ', q1, q2, q3⟩, harr⟩ := first _ scope_sw c a w σ hgl hp hs b (.inScope code :: k) cs
  cases q3 with
  | normal => exact ⟨_, a', w', ⟨_, _, _, q1, q2, .normal⟩, .head step_scope (Steps.trans harr (.one step_inScope))⟩
  | exit id => exact ⟨_, a', w', ⟨_, _, _, q1, q2, .exit id⟩, fun k' hk => .head step_scope (harr k' (by simp [exitTo, hk]))⟩
  | goto l' =>
    obtain ⟨rfl, a1, h1, z1, hz1, hle1⟩ := q1
    obtain ⟨e2, a2, w2, r1, r2⟩ := key _ a1 h1 rfl s' a' w' σ' ⟨z1, hz1, hle1⟩ q2
    exact ⟨e2, a2, w2, r1, .of_steps (.head step_scope (harr _ hg)) r2⟩
  | ret => exact ⟨_, a', w', ⟨_, _, _, q1, q2, .ret⟩, .of_steps (.one step_scope) harr⟩
  | panic x v hv => exact ⟨_, a', w', ⟨_, _, _, q1, q2, .panic x v hv⟩, .of_steps (.one step_scope) harr⟩
end
attribute [go_sem] Obj1.norm AV.norm1 AV.normE D.norm1 D.norm List.map_cons List.map_nil
end Go.Proofs.Ytpibdbjlilpfiaa

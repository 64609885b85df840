/- One operation as a whole: sound. -/
import Derived.Test.YtopgjmoajkcdnaaAbs14
namespace Go.Proofs.Ytopgjmoajkcdnaa
set_option linter.all false
open Go Go.RowKit

section
variable {P : Program} {E : Nat → Option AV} {O : Nat → Option Obj1} {gl : List (Nat × List D)} {o : Oper} {id : Nat} {tb : Nat → Option TI}

theorem opA_sound (htb : TbOk P tb) {K : Option AV → Eff → Prop} (h : opA P gl tb E O id o.op K) : ∃ v e, K v e ∧ Step P gl E O o id v e := by
  generalize ho : o.op = op at h
  cases op
  case unOp u t x =>
    cases u <;> simp only [opA] at h
    case not =>
      split at h
      · rename_i b hx; exact ⟨_, _, h, st_not ho hx⟩
      · exact h.elim
    case neg =>
      split at h
      · rename_i k n hx; exact ⟨_, _, h, st_neg ho hx⟩
      · exact h.elim
  case slice t x lo hi mx =>
    cases mx with
    | some m => simp only [opA] at h
    | none =>
      simp only [opA] at h
      split at h
      · rename_i i xs hi' hx
        split at h
        · rename_i te sz hk
          obtain ⟨h1, h⟩ := h
          obtain ⟨l, r, hb, hK⟩ := cutB_spec h
          exact ⟨_, _, hK, st_cut (htb _ _ hi') hk ho hx h1 hb⟩
        · exact h.elim
      · rename_i i s hi' hx
        split at h
        · rename_i hk
          obtain ⟨l, r, hb, hK⟩ := cutB_spec h
          exact ⟨_, _, hK, st_cut_str (htb _ _ hi') hk ho hx hb⟩
        · exact h.elim
      · rename_i i k hi' hx
        split at h
        · rename_i te sz fr te' sz' xs hk hO
          obtain ⟨rfl, h⟩ := h
          obtain ⟨l, r, hb, hK⟩ := cutB_spec h
          exact ⟨_, _, hK, st_cut_own (htb _ _ hi') hk ho hx hO hb⟩
        · exact h.elim
      · exact h.elim
  all_goals simp only [opA] at h
  case move x =>
    split at h
    · rename_i v hx; exact ⟨_, _, h, st_move ho hx⟩
    · exact h.elim
  case assign x =>
    split at h
    · rename_i v hx; exact ⟨_, _, h, st_assign ho hx⟩
    · exact h.elim
  case pick cd x y =>
    split at h
    · rename_i b hc
      split at h
      · rename_i hb
        subst hb
        split at h
        · rename_i v hx; exact ⟨_, _, h, st_pick ho hc hx⟩
        · exact h.elim
      · rename_i hb
        have hb' : b = false := by simpa using hb
        subst hb'
        split at h
        · rename_i v hx; exact ⟨_, _, h, st_pick ho hc hx⟩
        · exact h.elim
    · exact h.elim
  case alloc t =>
    split at h
    · rename_i i hi; exact ⟨_, _, h.2, st_alloc (htb _ _ hi) ho h.1⟩
    · exact h.elim
  case box t x =>
    split at h
    · rename_i y hx; exact ⟨_, _, h.2.2, st_box ho hx h.1 (ownOk_spec h.2.1)⟩
    · exact h.elim
  case build t ps =>
    split at h
    · rename_i i ys hi hy
      obtain ⟨h1, h⟩ := h
      split at h
      · rename_i fs zs hk hz
        split at h
        · rename_i out hf; exact ⟨_, _, h, st_build (htb _ _ hi) hk hz ho hy (ownsOk_spec h1) hf⟩
        · exact h.elim
      · rename_i n te sz zs hk hz
        split at h
        · rename_i out hf; exact ⟨_, _, h, st_build_arr (htb _ _ hi) hk hz ho hy (ownsOk_spec h1) hf⟩
        · exact h.elim
      · exact h.elim
    · exact h.elim
  case buildSlice t len ps =>
    split at h
    · rename_i i ys hi hy
      obtain ⟨h1, h⟩ := h
      split at h
      · rename_i te sz hk
        split at h
        · rename_i ie xs hie hf
          obtain ⟨h2, h3, h4, h5, hK⟩ := h
          exact ⟨_, _, hK, st_buildSlice (htb _ _ hi) hk (htb _ _ hie) h2 h3 ho hy (ownsOk_spec h1) hf h4 h5⟩
        · exact h.elim
      · exact h.elim
    · exact h.elim
  case load t x =>
    split at h
    · rename_i i cs hi hx
      split at h
      · rename_i y hy; exact ⟨_, _, h, st_load_addr (htb _ _ hi) ho hx hy⟩
      · exact h.elim
    · rename_i i k off hi hx
      split at h
      · rename_i fr cs hO
        split at h
        · rename_i y hy; exact ⟨_, _, h, (st_load_ref (htb _ _ hi) ho hx hO hy).mk⟩
        · exact h.elim
      · exact h.elim
    · rename_i i k sz j off hi hx
      split at h
      · rename_i fr te sz' xs hO
        obtain ⟨rfl, e, he, h⟩ := h
        split at h
        · rename_i y hy; exact ⟨_, _, h, st_load_elt (htb _ _ hi) ho hx hO he hy⟩
        · exact h.elim
      · exact h.elim
    · exact h.elim
  case store t x v =>
    split at h
    · rename_i i k off y hi hx hv
      split at h
      · rename_i fr cs hO
        obtain ⟨h1, h2, h3, h4, hK⟩ := h
        exact ⟨_, _, hK, st_store_ref (htb _ _ hi) ho hx hO hv h1 (ownOk_spec h2) h3 h4⟩
      · exact h.elim
    · rename_i i k sz j off y hi hx hv
      split at h
      · rename_i fr te sz' xs ds hO hds
        obtain ⟨rfl, h1, h2, h3, e, he, hK⟩ := h
        exact ⟨_, _, hK, st_store_elt (htb _ _ hi) ho hx hO hv h1 hds h2 he h3⟩
      · exact h.elim
    · exact h.elim
  case nilCheck x =>
    split at h
    · rename_i k off hx; exact ⟨_, _, h, st_nilCheck ho hx (.inl ⟨_, _, rfl⟩)⟩
    · rename_i k sz j q hx; exact ⟨_, _, h, st_nilCheck ho hx (.inr (.inl ⟨_, _, _, _, rfl⟩))⟩
    · rename_i cs hx; exact ⟨_, _, h, st_nilCheck ho hx (.inr (.inr ⟨_, rfl⟩))⟩
    · rename_i f fs cs hx; exact ⟨_, _, h, st_nilCheck_fn ho hx⟩
    · exact h.elim
  case binOp op t x y ty =>
    obtain ⟨v, hK, hst⟩ := binA_sound htb ho h
    exact ⟨_, _, hK, hst⟩
  case convert s t x =>
    split at h
    · rename_i i j k n hi hj hx
      split at h
      · rename_i k1 k2 h1 h2; exact ⟨_, _, h, st_conv_int (htb _ _ hj) h2 (htb _ _ hi) ⟨_, h1⟩ ho hx⟩
      · exact h.elim
    · rename_i i j b hi hj hx
      split at h
      · rename_i te sz h1 h2
        obtain ⟨rfl, h3, hK⟩ := h
        exact ⟨_, _, hK, st_bytes (htb _ _ hj) h2 h3 (htb _ _ hi) h1 ho hx⟩
      · exact h.elim
    · rename_i i j xs hi hj hx
      split at h
      · rename_i te sz h1 h2
        obtain ⟨rfl, h3, l, rfl, hK⟩ := h
        exact ⟨_, _, hK, st_strof (htb _ _ hj) h2 (htb _ _ hi) h1 h3 ho hx⟩
      · exact h.elim
    · exact h.elim
  case makeSlice t x y =>
    split at h
    · rename_i i k n k' n' hi hx hy
      split at h
      · rename_i te sz hk
        split at h
        · rename_i ie hie
          obtain ⟨rfl, h1, h2, h3, h4, h5, h6, hK⟩ := h
          exact ⟨_, _, hK, st_makeSlice (htb _ _ hi) hk (htb _ _ hie) h1 h2 h3 ho hx hy h4 h5 h6⟩
        · exact h.elim
      · exact h.elim
    · exact h.elim
  case fieldAddr s x n =>
    split at h
    · rename_i i y hi hx
      split at h
      · rename_i fs hk
        split at h
        · rename_i f hf
          split at h
          · exact ⟨_, _, h, st_fieldAddr_ref (htb _ _ hi) hk hf ho hx⟩
          · exact ⟨_, _, h, st_fieldAddr_elt (htb _ _ hi) hk hf ho hx⟩
          · exact ⟨_, _, h, st_fieldAddr_addr (htb _ _ hi) hk hf ho hx⟩
          · exact h.elim
        · exact h.elim
      · exact h.elim
    · exact h.elim
  case field s x n =>
    split at h
    · rename_i i y hi hx
      split at h
      · rename_i fs hk
        split at h
        · rename_i f hf
          split at h
          · rename_i fi hfi
            obtain ⟨h1, h⟩ := h
            split at h
            · rename_i z hz
              refine ⟨_, _, h, (st_field (htb _ _ hi) hk hf (htb _ _ hfi) ho hx ?_ hz).mk⟩
              split at h1
              · exact .inl ⟨_, rfl⟩
              · exact .inr ⟨_, rfl⟩
              · exact h1.elim
            · exact h.elim
          · exact h.elim
        · exact h.elim
      · exact h.elim
    · exact h.elim
  case indexAddr t x y =>
    obtain ⟨v, hK, hst⟩ := idxA_sound htb ho h
    exact ⟨_, _, hK, hst⟩
  case index t x y =>
    split at h
    · rename_i i s k n hi hx hy
      split at h
      · rename_i hk
        obtain ⟨h0, h1, hK⟩ := h
        exact ⟨_, _, hK, st_index_str (htb _ _ hi) hk ho hx hy h0 h1⟩
      · exact h.elim
    · exact h.elim
  case extract x n =>
    split at h
    · rename_i cs hx
      split at h
      · rename_i y hy; exact ⟨_, _, h, st_extract_d ho hx hy⟩
      · exact h.elim
    · rename_i cs hx
      split at h
      · rename_i y hy; exact ⟨_, _, h, st_extract_a ho hx hy⟩
      · exact h.elim
    · exact h.elim
  case call c =>
    obtain ⟨v, e, hK, hst⟩ := callA_sound htb ho h
    exact ⟨_, _, hK, hst⟩
end
end Go.Proofs.Ytopgjmoajkcdnaa

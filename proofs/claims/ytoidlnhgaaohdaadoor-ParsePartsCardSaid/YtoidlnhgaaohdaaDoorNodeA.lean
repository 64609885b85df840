/- utf8.DecodeRuneInString, strings.Contains: contracts off the shelf. -/
import Derived.Test.YtoidlnhgaaohdaaDoorTab
import Derived.Shelf.Lay
import Derived.Shelf.LaySoft
import Derived.Shelf.Unicode.DecodeAny
import Derived.Shelf.Strings.Search3
import Derived.Lib.LaidU8T
namespace Go.Proofs
open Go.Shelf
shelf_lay Lays.n197 Nm 197 at Tryd as Tryd.lays197
shelf_lay Lays.n144 Nm 144 at Tryd as Tryd.lays144
end Go.Proofs
namespace Go.Proofs.YtoidlnhgaaohdaaDoor
set_option linter.all false
open Go Go.RowKit
open Nat (reduceEqDiff reduceAdd reduceMul reduceSub reduceLeDiff)
open Int (reduceEq reduceLT reduceLE)

/-- The tables of unicode/utf8. -/
def firstL : List D := (List.range 256).map fun c => .int .u8 (Lib.firstT c)
def accL : List D := (List.range 32).map fun j => .int .u8 (if j % 2 = 0 then Lib.accLo (j / 2) else Lib.accHi (j / 2))
def glU : List (Nat × List D) := [(0, firstL), (1, accL)]
theorem addr_cell {w : World} {ok : Nat → Prop} {cs : List D} {g i : Nat} {k : IntKind} {n : Int} (h : Rep w ok (.addr cs) (.pointer (some ⟨g, 0, none⟩))) (hi : cs[i]? = some (.int k n)) : w.cell? ⟨g, i, none⟩ = some (.int k n) := by
  cases h with
  | addr _ b off f hok hc h1 h =>
    have hlt := (List.getElem?_eq_some_iff.1 hi).1
    have h2 := h i _ hi
    have h3 := hc i hlt
    rw [Nat.zero_add] at h3
    rw [h3]
    generalize f i = v at h2
    cases h2
    rfl
theorem tabs_of {w : World} {ok : Nat → Prop} (h : Glob glU w ok) : Lib.Utf8Tabs 0 1 w := by
  have h0 := h 0 firstL rfl
  have h1 := h 1 accL rfl
  refine ⟨fun c hc => addr_cell h0 (by simp [firstL, hc]), fun i hi => ⟨addr_cell h1 ?_, addr_cell h1 ?_⟩⟩
  · have : 2 * i < 32 := by omega
    simp [accL, this]
  · have : 2 * i + 1 < 32 := by omega
    have h2 : (2 * i + 1) / 2 = i := by omega
    have h3 : ¬ (2 * i + 1) % 2 = 0 := by omega
    simp only [accL, List.getElem?_map, List.getElem?_range this, Option.map_some, h2, if_neg h3]
theorem addr_of {w : World} {ok : Nat → Prop} {cs : List D} {g : Nat} (hok : ok g) (n : Nat) (f : Nat → Int) (hcs : cs = (List.range n).map fun i => .int .u8 (f i)) (h : ∀ i, i < n → w.cell? ⟨g, i, none⟩ = some (.int .u8 (f i))) : Rep w ok (.addr cs) (.pointer (some ⟨g, 0, none⟩)) := by
  subst hcs
  refine .addr _ g 0 (fun i => .int .u8 (f i)) hok (fun i hi => ?_) (fun _ => rfl) (fun i c hc => ?_)
  · rw [Nat.zero_add]
    exact h i (by simpa using hi)
  · have hlt : i < n := by simpa using (List.getElem?_eq_some_iff.1 hc).1
    simp [hlt] at hc
    subst hc
    exact .int _ _
theorem glob_of {w : World} {ok : Nat → Prop} (h : Lib.Utf8Tabs 0 1 w) (h0 : ok 0) (h1 : ok 1) : Glob glU w ok := by
  intro g cs hg
  simp only [glU, look] at hg
  split at hg
  · rename_i e
    cases hg
    obtain rfl : g = 0 := e.symm
    exact addr_of h0 256 _ rfl h.1
  · split at hg
    · rename_i e
      cases hg
      obtain rfl : g = 1 := e.symm
      refine addr_of h1 32 _ rfl fun i hi => ?_
      obtain ⟨q1, q2⟩ := h.2 (i / 2) (by omega)
      by_cases hm : i % 2 = 0
      · rw [if_pos hm, ← q1]
        have : 2 * (i / 2) = i := by omega
        rw [this]
      · rw [if_neg hm, ← q2]
        have : 2 * (i / 2) + 1 = i := by omega
        rw [this]
    · cases hg
theorem go1_of_below {w w' : World} (h : Below w.heap.size w w') : Go1 w w' none := ⟨h.os, h.tape, h.output, h.size, fun k hk _ => h.block k hk⟩

/-- Go's decoder. -/
theorem c_decode (s : ByteArray) : PCon Tryd.prog glU 65 [.str s] (.tup [.int .i32 (Lib.decodeGo s).1, .int .i64 (Lib.decodeGo s).2]) := by
  refine ⟨⟨Tryd.f65, by kernel_rfl, by kernel_rfl, rfl⟩, fun w ok vs hok hgl hl h => ?_⟩
  match vs, hl with
  | [v], _ =>
  have hv := h 0 _ _ rfl rfl
  cases hv with
  | str _ hs =>
  refine (Any.utf8_DecodeRuneInString Tryd.lays197 s w (tabs_of hgl)).mono ?_
  rintro e w' ⟨rfl, hb⟩
  exact ⟨_, rfl, go1_of_below hb, tup2 (.int _ _) (.int _ _)⟩

/-- Is one of the bytes this one? -/
theorem idx_byte : ∀ (l : List UInt8) (c : UInt8), decide (0 ≤ Lib.indexByte l c) = l.any (· == c) ∧ -1 ≤ Lib.indexByte l c
  | [], c => by simp [Lib.indexByte]
  | b :: l, c => by
    obtain ⟨h1, h2⟩ := idx_byte l c
    simp only [Lib.indexByte, List.any_cons, ← h1]
    by_cases hb : (b == c) = true
    · simp [hb]
    · simp only [hb]
      by_cases h : (Lib.indexByte l c == -1) = true
      · simp only [h, if_true]
        have : Lib.indexByte l c = -1 := by simpa using h
        simp [this]
      · simp only [h]
        have : Lib.indexByte l c ≠ -1 := by simpa using h
        constructor
        · have q1 : 0 ≤ Lib.indexByte l c := by omega
          have q2 : 0 ≤ Lib.indexByte l c + 1 := by omega
          simp [q1, q2]
        · simp; omega
theorem c_contains {gl} (s : ByteArray) (c : UInt8) : PCon Tryd.prog gl 63 [.str s, .str ⟨#[c]⟩] (.bool (s.data.toList.any (· == c))) := by
  refine ⟨⟨Tryd.f63, by kernel_rfl, by kernel_rfl, rfl⟩, fun w ok vs hok hgl hl h => ?_⟩
  match vs, hl with
  | [v, v'], _ =>
  have hv := h 0 _ _ rfl rfl
  have hv' := h 1 _ _ rfl rfl
  cases hv with
  | str _ hs =>
  cases hv' with
  | str _ hs' =>
  refine (Any.strings_Contains_one Tryd.lays144 s c w).mono ?_
  rintro e w' ⟨rfl, rfl⟩
  refine ⟨_, rfl, .refl _ _, ?_⟩
  rw [(idx_byte _ c).1]
  exact .bool _
end Go.Proofs.YtoidlnhgaaohdaaDoor

/- A file's name: the walks of Name and of the document's; what stands in a table stays. -/
import Derived.Test.YtfeljngmidhajaaDoorLn
import Derived.Test.YtfeljngmidhajaaDoorShelf
import Derived.Shelf.Strconv.Itoa3
import Derived.Lib.ItoaLen
namespace Go.Proofs.YtfeljngmidhajaaDoor
open Go.RowKit Go.Mine

/-- the library's table of powers of ten stands -/
def Tab (w : World) : Prop := ∃ g c T f, Tryd.prog.globalNamed "internal/strconv.uint64pow10" = some g ∧ w.heap[g]? = some (.cells c T f) ∧ c = (Lib.pow10Tab.map fun z => Value.int .u64 z).toArray
theorem Tab.is {w : World} (h : Tab w) : Lib.TabIs Tryd.prog w "internal/strconv.uint64pow10" .u64 Lib.pow10Tab := by
  obtain ⟨g, c, T, f, h1, h2, h3⟩ := h
  unfold Lib.TabIs World.var?
  rw [h1, Option.bind_some, h2, h3]
theorem Tab.of {w : World} (h : Lib.TabIs Tryd.prog w "internal/strconv.uint64pow10" .u64 Lib.pow10Tab) : Tab w := by
  unfold Lib.TabIs World.var? at h
  obtain ⟨g, h1, h2⟩ := Option.bind_eq_some_iff.1 h
  split at h2
  · rename_i cs T f hc
    exact ⟨g, cs, T, f, h1, hc, Option.some.inj h2⟩
  · simp at h2
theorem Tab.turned {w w' : World} (h : Tab w) (ht : Turned (fun _ => False) w w') : Tab w' := by
  obtain ⟨g, c, T, f, h1, h2, h3⟩ := h
  exact ⟨g, c, T, f, h1, (ht.block g (lt_of_block h2) fun q => q).trans h2, h3⟩

theorem turned_drewN (w : World) (k : Nat) : Turned (fun _ => False) w (w.drewN k) := ⟨rfl, rfl, rfl, Nat.le_refl _, fun _ _ _ => rfl⟩
theorem turned_grow (w : World) (os : Array Obj) : Turned (fun _ => False) w (Sort.grow w os) :=
  ⟨rfl, rfl, rfl, by simp [Sort.grow], fun b hb _ => by simp only [Sort.grow]; rw [Array.getElem?_append_left hb]⟩

theorem itoa_any (n : Int) (h : I64 n) (w : World) (ht : Tab w) : Calls Tryd.prog 36 #[.int .i64 n] w fun e w' => e = .returned (.string ⟨(Lib.itoa n).toArray⟩) ∧ Turned (fun _ => False) w w' :=
  (Any.strconv_Itoa Tryd.itoaLays n h.1 h.2 w ht.is).mono fun e w' ⟨he, k, os, hw⟩ => ⟨he, by rw [hw]; exact (turned_drewN w k).trans (turned_grow _ os) fun _ _ q => q⟩

def prefixB : List UInt8 := [103, 114, 97, 112, 104, 45]
def nameS (n : Int) : ByteArray := if numb n = true then ⟨#[103, 114, 97, 112, 104, 45]⟩ ++ ⟨(Lib.itoa n).toArray⟩ else ⟨#[]⟩

set_option maxRecDepth 100000 in
theorem name_any (n : Int) (h : I64 n) (w : World) (ht : Tab w) : Calls Tryd.prog 13 #[.int .i64 n] w fun e w' => e = .returned (.string (nameS n)) ∧ Turned (fun _ => False) w w' := by
  have hnu := numbered_any n w
  have hit := itoa_any n h w ht
  have hsz : (Lib.itoa n).toArray.size ≤ 21 := by have := Lib.itoa_length_le n h.1 h.2; simpa using this
  unfold nameS
  generalize (Lib.itoa n).toArray = a at *
  have hle : ¬ 9223372036854775807 < 6 + a.size := by omega
  cases hb : numb n with
  | true =>
    rw [hb] at hnu
    clear hb h ht hsz
    simp only [if_true]
    go_enter Tryd.func13, Tryd.ntmps13
    go_wp2_with (first
      | (go_at_call 32; (with_reducible refine hnu.mono ?_); rintro e w1 ⟨rfl, rfl⟩)
      | (go_at_call 36; (with_reducible refine hit.mono ?_); rintro e w2 ⟨rfl, ht2⟩))
    go_ret
    exact ⟨rfl, ht2⟩
  | false =>
    rw [hb] at hnu
    clear hb h ht hit
    simp only [Bool.false_eq_true, if_false]
    go_enter Tryd.func13, Tryd.ntmps13
    go_wp2_with (go_at_call 32; (with_reducible refine hnu.mono ?_); rintro e w1 ⟨rfl, rfl⟩)
    go_ret
    exact ⟨rfl, Turned.refl _ _⟩

set_option maxRecDepth 100000 in
theorem rname_any (n : Int) (h : I64 n) (w : World) (ht : Tab w) : Calls Tryd.prog 15 #[.int .i64 n] w fun e w' => e = .returned (.string (nameS n)) ∧ Turned (fun _ => False) w w' := by
  have hit := itoa_any n h w ht
  have hsz : (Lib.itoa n).toArray.size ≤ 21 := by have := Lib.itoa_length_le n h.1 h.2; simpa using this
  unfold nameS numb
  generalize (Lib.itoa n).toArray = a at *
  have hle : ¬ 9223372036854775807 < 6 + a.size := by omega
  clear hsz h ht
  by_cases h0 : n < 0
  · have hd : decide (0 ≤ n) = false := by simp; omega
    have hd2 : decide (n < 0) = true := by simp; omega
    rw [hd]
    simp only [Bool.false_and, Bool.false_eq_true, if_false]
    clear hit
    go_enter Tryd.func15, Tryd.ntmps15
    go_wp2
    go_ret
    exact ⟨rfl, Turned.refl _ _⟩
  · have hd : decide (0 ≤ n) = true := by simp; omega
    have hd2 : decide (n < 0) = false := by simp; omega
    rw [hd]
    by_cases h1 : n ≤ 1073741824
    · have he : decide (n ≤ 1073741824) = true := by simp; omega
      have he2 : decide (1073741824 < n) = false := by simp; omega
      rw [he]
      simp only [Bool.and_self, if_true]
      go_enter Tryd.func15, Tryd.ntmps15
      go_wp2_with (go_at_call 36; (with_reducible refine hit.mono ?_); rintro e w2 ⟨rfl, ht2⟩)
      go_ret
      exact ⟨rfl, ht2⟩
    · have he : decide (n ≤ 1073741824) = false := by simp; omega
      have he2 : decide (1073741824 < n) = true := by simp; omega
      rw [he]
      simp only [Bool.and_false, Bool.false_eq_true, if_false]
      clear hit
      go_enter Tryd.func15, Tryd.ntmps15
      go_wp2
      go_ret
      exact ⟨rfl, Turned.refl _ _⟩

theorem name120 : nameS 120 = ⟨#[103, 114, 97, 112, 104, 45, 49, 50, 48]⟩ := by
  have : Lib.itoa 120 = [49, 50, 48] := by
    unfold Lib.itoa
    rw [if_neg (by omega)]
    simp [Lib.decDigits]
  unfold nameS
  rw [this]
  rfl
end Go.Proofs.YtfeljngmidhajaaDoor

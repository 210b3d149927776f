/- A name's number: the walk of Number, over the library's CutPrefix and Atoi. -/
import Derived.Test.YtfeljngmidhajaaDoorNumP
import Derived.Test.YtfeljngmidhajaaDoorShelfA
import Derived.Test.YtfeljngmidhajaaDoorOpen
import Derived.Shelf.Strconv.AtoiAll
import Derived.Shelf.Strconv.ErrVarAll
import Derived.Lib.ConvBytes
namespace Go.Proofs.YtfeljngmidhajaaDoor
open Go.RowKit Go.Mine

/-- the library's two errors stand -/
def Errs (w : World) : Prop := (∃ tp p, w.var? Tryd.prog "strconv.ErrSyntax" = some #[.iface tp p]) ∧ ∃ tp p, w.var? Tryd.prog "strconv.ErrRange" = some #[.iface tp p]
theorem var_turned {w w' : World} {name : String} {v : Value} (h : w.var? Tryd.prog name = some #[v]) (ht : Turned (fun _ => False) w w') : w'.var? Tryd.prog name = some #[v] := by
  unfold World.var? at h ⊢
  obtain ⟨g, h1, h2⟩ := Option.bind_eq_some_iff.1 h
  rw [h1, Option.bind_some]
  have hg : g < w.heap.size := by
    split at h2
    · rename_i hc; exact lt_of_block hc
    · simp at h2
  rw [ht.block g hg fun q => q]
  exact h2
theorem Errs.turned {w w' : World} (h : Errs w) (ht : Turned (fun _ => False) w w') : Errs w' := by
  obtain ⟨⟨t1, p1, h1⟩, t2, p2, h2⟩ := h
  exact ⟨⟨t1, p1, var_turned h1 ht⟩, t2, p2, var_turned h2 ht⟩

theorem below_turned {w w' : World} (h : Below w.heap.size w w') : Turned (fun _ => False) w w' := ⟨h.os, h.tape, h.output, h.size, fun b hb _ => h.block b hb⟩

/-- Atoi: a number, or an error that is not nil -/
theorem atoi_any (s : ByteArray) (w : World) (he : Errs w) (hs : s.size ≤ 281474976710656) :
    Calls Tryd.prog 38 #[.string s] w fun e w' => Turned (fun _ => False) w w' ∧ ((∃ v, Lib.atoiAll s.data.toList = .ok v ∧ e = .returned (.tuple #[.int .i64 v, .nilIface])) ∨ ((∀ v, Lib.atoiAll s.data.toList ≠ .ok v) ∧ ∃ n t p, e = .returned (.tuple #[.int .i64 n, .iface t p]))) := by
  obtain ⟨⟨t1, p1, h1⟩, t2, p2, h2⟩ := he
  cases h : Lib.atoiAll s.data.toList with
  | ok v =>
    refine (Any.strconv_Atoi_ok Tryd.atoiLays s (by omega) v h w).mono fun e w' ⟨he, hw⟩ => ⟨?_, .inl ⟨v, rfl, he⟩⟩
    rcases hw with rfl | ⟨t, rfl⟩
    · exact Turned.refl _ _
    · exact ⟨rfl, rfl, rfl, by rw [Lib.bytesWorld_size]; omega, fun j hj _ => Lib.bytesWorld_at_old w _ t j hj⟩
  | range =>
    refine (Any.strconv_Atoi_range_var Tryd.atoiLays s hs h t2 p2 w h2).mono fun e w' ⟨N, he, _, _, hb⟩ => ⟨below_turned hb, .inr ⟨fun v q => by simp at q, _, _, _, he⟩⟩
  | _ =>
    refine (Any.strconv_Atoi_syntax_var Tryd.atoiLays s hs h t1 p1 w h1).mono fun e w' ⟨N, he, _, _, hb⟩ => ⟨below_turned hb, .inr ⟨fun v q => by simp at q, _, _, _, he⟩⟩

/-- what CutPrefix answers for the names' front -/
def cutV (x : ByteArray) : Value := if x.extract 0 6 = prefBA then .tuple #[.string (x.extract 6 x.size), .bool true] else .tuple #[.string x, .bool false]

set_option maxRecDepth 100000 in
theorem front_any (x : ByteArray) (w : World) (hs : x.size ≤ 4611686018427387904) : Calls Tryd.prog 47 #[.string x, .string prefBA] w fun e w' => e = .returned (.bool (decide (x.extract 0 6 = prefBA))) ∧ w = w' := by
  by_cases h6 : 6 ≤ x.size
  · have hd : decide ((6 : Int) ≤ (x.size : Int)) = true := by simp; omega
    have hd2 : decide (6 ≤ x.size) = true := by simp; omega
    have hsl : ∀ W, (Instr.slice 9 (.string x) none (some (.int .i64 6)) none).run Tryd.prog W = .ok (.string (x.extract 0 6)) W := fun W => by
      have := run_slice_string_h (P := Tryd.prog) W 9 x Tryd.underlying9 .i64 6 (by omega) (by omega)
      exact this
    unfold prefBA
    generalize x.extract 0 6 = f at *
    by_cases hf : f = ⟨#[103, 114, 97, 112, 104, 45]⟩
    · subst hf
      clear h6 hs
      go_enter Tryd.func47, Tryd.ntmps47
      go_wp2
      go_ret
      exact ⟨by simp, rfl⟩
    · rw [show decide (f = ⟨#[103, 114, 97, 112, 104, 45]⟩) = false by simp [hf]]
      have hne := ba_ne f [103, 114, 97, 112, 104, 45] hf
      have hne2 := ba_ne2 f ⟨#[103, 114, 97, 112, 104, 45]⟩ hf
      clear h6 hs hf
      go_enter Tryd.func47, Tryd.ntmps47
      go_wp2
      go_ret
      exact ⟨rfl, rfl⟩
  · have hd : decide ((6 : Int) ≤ (x.size : Int)) = false := by simp; omega
    have hd2 : decide (6 ≤ x.size) = false := by simp; omega
    have hne : x.extract 0 6 ≠ prefBA := by
      intro q
      have := congrArg ByteArray.size q
      rw [ByteArray.size_extract] at this
      have h2 : prefBA.size = 6 := rfl
      omega
    rw [show decide (x.extract 0 6 = prefBA) = false by simp [hne]]
    unfold prefBA
    clear h6 hs hne
    go_enter Tryd.func47, Tryd.ntmps47
    go_wp2
    go_ret
    exact ⟨rfl, rfl⟩

set_option maxRecDepth 100000 in
theorem cut_any (x : ByteArray) (w : World) (hs : x.size ≤ 4611686018427387904) : Calls Tryd.prog 37 #[.string x, .string prefBA] w fun e w' => e = .returned (cutV x) ∧ w = w' := by
  have hf := front_any x w hs
  have hin : Calls Tryd.prog 54 #[.string x, .string prefBA] w fun e w' => e = .returned (cutV x) ∧ w = w' := by
    unfold cutV
    by_cases h : x.extract 0 6 = prefBA
    · have h6 : 6 ≤ x.size := by
        have := congrArg ByteArray.size h
        rw [ByteArray.size_extract] at this
        have h2 : prefBA.size = 6 := rfl
        omega
      have hsl : ∀ W, (Instr.slice 9 (.string x) (some (.int .i64 6)) none none).run Tryd.prog W = .ok (.string (x.extract 6 x.size)) W := fun W => by
        have := run_slice_string_l (P := Tryd.prog) W 9 x Tryd.underlying9 .i64 6 (by omega) (by omega)
        exact this
      rw [if_pos h]
      rw [show decide (x.extract 0 6 = prefBA) = true by simp [h]] at hf
      generalize x.extract 6 x.size = y at *
      unfold prefBA at hf ⊢
      clear h h6 hs
      go_enter Tryd.func54, Tryd.ntmps54
      go_wp2_with (go_at_call 47; (with_reducible refine hf.mono ?_); rintro e w1 ⟨rfl, rfl⟩)
      go_ret2
      exact ⟨rfl, rfl⟩
    · rw [if_neg h]
      rw [show decide (x.extract 0 6 = prefBA) = false by simp [h]] at hf
      unfold prefBA at hf ⊢
      clear h hs
      go_enter Tryd.func54, Tryd.ntmps54
      go_wp2_with (go_at_call 47; (with_reducible refine hf.mono ?_); rintro e w1 ⟨rfl, rfl⟩)
      go_ret2
      exact ⟨rfl, rfl⟩
  clear hf
  obtain ⟨a, b, hab⟩ : ∃ a b, cutV x = .tuple #[.string a, .bool b] := by
    unfold cutV
    split
    · exact ⟨_, _, rfl⟩
    · exact ⟨_, _, rfl⟩
  rw [hab] at hin ⊢
  unfold prefBA at hin ⊢
  clear hab hs
  go_enter Tryd.func37, Tryd.ntmps37
  go_wp2_with (go_at_call 54; (with_reducible refine hin.mono ?_); rintro e w1 ⟨rfl, rfl⟩)
  go_ret2
  exact ⟨rfl, rfl⟩
end Go.Proofs.YtfeljngmidhajaaDoor

/- The library's tables and errors that the script's code reads; its numbers. -/
import Derived.Test.YteblabpplaaddaaGreatDoorLi
import Derived.Test.YteblabpplaaddaaGreatDoorShelf2
import Derived.Shelf.Strings.CaseAny
import Derived.Shelf.Strconv.AtoiAll
import Derived.Shelf.Strconv.ErrVarAll
import Derived.Shelf.Strconv.Itoa3
import Derived.Lib.ItoaLen
import Derived.Lib.ConvBytes
set_option linter.unusedVariables false
set_option linter.unusedSimpArgs false
namespace Go.Proofs.YteblabpplaaddaaGreatDoor
open Go.RowKit Go.Mine Go.Mine.Sc

/-- what the library's variables hold, by their blocks -/
structure Tables (w : World) : Prop where
  pow : Lib.TabIs Tryz.prog w "internal/strconv.uint64pow10" .u64 Lib.pow10Tab
  syn : ∃ tp p, w.var? Tryz.prog "strconv.ErrSyntax" = some #[.iface tp p]
  rng : ∃ tp p, w.var? Tryz.prog "strconv.ErrRange" = some #[.iface tp p]
  cas : Lib.CaseVar 6 Lib.caseA w
  utf : Lib.Utf8Tabs 1 2 w

/-- w: what has come of w0, its own blocks as they were -/
structure Lw (w0 w : World) : Prop where
  tab : Tables w0
  turn : Turned (fun b => w0.heap.size ≤ b) w0 w
theorem Lw.turned {w0 w w' : World} {S : Nat → Prop} (h : Lw w0 w) (ht : Turned S w w') (hS : ∀ b, S b → w0.heap.size ≤ b) : Lw w0 w' :=
  ⟨h.tab, h.turn.trans ht fun b _ hb => hS b hb⟩
theorem Lw.turned0 {w0 w w' : World} (h : Lw w0 w) (ht : Turned (fun _ => False) w w') : Lw w0 w' := h.turned ht fun _ q => q.elim
theorem Lw.drew {w0 w : World} (h : Lw w0 w) : Lw w0 w.drew := h.turned0 (Turned.drew _ _)
theorem Lw.start {w0 : World} (h : Tables w0) : Lw w0 w0 := ⟨h, Turned.refl _ _⟩
theorem Lw.size {w0 w : World} (h : Lw w0 w) : w0.heap.size ≤ w.heap.size := h.turn.size

theorem var_turned {w w' : World} {name : String} {vs : Array Value} (h : w.var? Tryz.prog name = some vs) (ht : Turned (fun b => w.heap.size ≤ b) w w') : w'.var? Tryz.prog name = some vs := by
  unfold World.var? at h ⊢
  obtain ⟨g, h1, h2⟩ := Option.bind_eq_some_iff.1 h
  rw [h1, Option.bind_some]
  have hg : g < w.heap.size := by
    split at h2
    · rename_i hc; exact lt_of_block hc
    · simp at h2
  rw [ht.block g hg fun q => by omega]
  exact h2
theorem Lw.pow {w0 w : World} (h : Lw w0 w) : Lib.TabIs Tryz.prog w "internal/strconv.uint64pow10" .u64 Lib.pow10Tab := var_turned h.tab.pow h.turn
theorem Lw.syn {w0 w : World} (h : Lw w0 w) : ∃ tp p, w.var? Tryz.prog "strconv.ErrSyntax" = some #[.iface tp p] := let ⟨a, b, c⟩ := h.tab.syn; ⟨a, b, var_turned c h.turn⟩
theorem Lw.rng {w0 w : World} (h : Lw w0 w) : ∃ tp p, w.var? Tryz.prog "strconv.ErrRange" = some #[.iface tp p] := let ⟨a, b, c⟩ := h.tab.rng; ⟨a, b, var_turned c h.turn⟩

theorem cell_lw {w0 w : World} (ht : Turned (fun b => w0.heap.size ≤ b) w0 w) {a : Addr} {v : Value} (h : w0.cell? a = some v) : w.cell? a = some v := by
  have hb := World.block_lt_of_cell? w0 a h
  rw [World.cell?_of_block (w' := w) (ht.block a.block hb (by omega))]
  exact h
theorem Lw.cas {w0 w : World} (h : Lw w0 w) : Lib.CaseVar 6 Lib.caseA w := by
  obtain ⟨R, oR, cap, h1, h2⟩ := h.tab.cas
  refine ⟨R, oR, cap, cell_lw h.turn h1, fun i hi => ?_⟩
  obtain ⟨a, b, c, d, e⟩ := h2 i hi
  exact ⟨cell_lw h.turn a, cell_lw h.turn b, cell_lw h.turn c, cell_lw h.turn d, cell_lw h.turn e⟩
theorem Lw.utf {w0 w : World} (h : Lw w0 w) : Lib.Utf8Tabs 1 2 w :=
  ⟨fun c hc => cell_lw h.turn (h.tab.utf.1 c hc), fun i hi => ⟨cell_lw h.turn (h.tab.utf.2 i hi).1, cell_lw h.turn (h.tab.utf.2 i hi).2⟩⟩

theorem tlX : Builder.Extra Tryz.prog Tryz.tlLays_ren where
  sizeBuilder := by kernel_rfl
  liesBuilder := by kernel_rfl
  t5 := Tryz.underlying5
  a5 := Tryz.isAgg5
  z5 := Tryz.sizeOf5
  v5 := Tryz.zeroValue5
  infoByte := by kernel_rfl
  cellsByte := by kernel_rfl
  sizeByte := by kernel_rfl
  neB5 := by decide

theorem below_turned {w w' : World} (h : Below w.heap.size w w') : Turned (fun _ => False) w w' := ⟨h.os, h.tape, h.output, h.size, fun b hb _ => h.block b hb⟩
theorem turned_drewN (w : World) (k : Nat) : Turned (fun _ => False) w (w.drewN k) := ⟨rfl, rfl, rfl, Nat.le_refl _, fun _ _ _ => rfl⟩
theorem turned_grow (w : World) (os : Array Obj) : Turned (fun _ => False) w (Sort.grow w os) :=
  ⟨rfl, rfl, rfl, by simp [Sort.grow], fun b hb _ => by simp only [Sort.grow]; rw [Array.getElem?_append_left hb]⟩

theorem itoa_any (n : Int) (h : I64 n) (w0 w : World) (ht : Lw w0 w) : Calls Tryz.prog 66 #[.int .i64 n] w fun e w' => e = .returned (.string (bs (Lib.itoa n))) ∧ Turned (fun _ => False) w w' :=
  (Any.strconv_Itoa Tryz.itoaLays n h.1 h.2 w ht.pow).mono fun e w' ⟨he, k, os, hw⟩ => ⟨he, by rw [hw]; exact (turned_drewN w k).trans (turned_grow _ os) fun _ _ q => q⟩

theorem low_any (s : B) (hs : s.length < 35184372088832) (w0 w : World) (hL : Lw w0 w) : Calls Tryz.prog 100 #[.string (bs s)] w fun e w' => e = .returned (.string (bs (Lib.toLowerD s))) ∧ Turned (fun _ => False) w w' := by
  have := Any.strings_ToLower_any Tryz.tlLays tlX (bs s) w (by rw [bs_size]; exact hs) hL.cas hL.utf
  rw [bs_list] at this
  exact this.mono fun e w' ⟨h1, h2⟩ => ⟨h1, below_turned h2⟩

/-- Atoi: a number -/
theorem atoi_ok (s : B) (n : Int) (h : Lib.atoiAll s = .ok n) (hs : s.length ≤ 281474976710656) (w : World) :
    Calls Tryz.prog 85 #[.string (bs s)] w fun e w' => e = .returned (.tuple #[.int .i64 n, .nilIface]) ∧ Turned (fun _ => False) w w' := by
  refine (Any.strconv_Atoi_ok Tryz.atoiLays (bs s) (by rw [bs_size]; omega) n (by rw [bs_list]; exact h) w).mono fun e w' ⟨he, hw⟩ => ⟨he, ?_⟩
  rcases hw with rfl | ⟨t, rfl⟩
  · exact Turned.refl _ _
  · exact ⟨rfl, rfl, rfl, by rw [Lib.bytesWorld_size]; omega, fun j hj _ => Lib.bytesWorld_at_old w _ t j hj⟩
/-- Atoi: an error that is not nil -/
theorem atoi_no (s : B) (h : ∀ n, Lib.atoiAll s ≠ .ok n) (hs : s.length ≤ 281474976710656) (w0 w : World) (hL : Lw w0 w) :
    Calls Tryz.prog 85 #[.string (bs s)] w fun e w' => (∃ n t p, e = .returned (.tuple #[.int .i64 n, .iface t p])) ∧ Turned (fun _ => False) w w' := by
  obtain ⟨t1, p1, h1⟩ := hL.syn
  obtain ⟨t2, p2, h2⟩ := hL.rng
  cases ha : Lib.atoiAll s with
  | ok v => exact absurd ha (h v)
  | range =>
    refine (Any.strconv_Atoi_range_var Tryz.atoiLays (bs s) (by rw [bs_size]; exact hs) (by rw [bs_list]; exact ha) t2 p2 w h2).mono fun e w' ⟨N, he, _, _, hb⟩ => ⟨⟨_, _, _, he⟩, below_turned hb⟩
  | _ =>
    refine (Any.strconv_Atoi_syntax_var Tryz.atoiLays (bs s) (by rw [bs_size]; exact hs) (by rw [bs_list]; exact ha) t1 p1 w h1).mono fun e w' ⟨N, he, _, _, hb⟩ => ⟨⟨_, _, _, he⟩, below_turned hb⟩
end Go.Proofs.YteblabpplaaddaaGreatDoor

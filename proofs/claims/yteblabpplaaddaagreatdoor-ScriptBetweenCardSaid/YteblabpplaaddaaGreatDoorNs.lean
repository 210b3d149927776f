/- A line's numbers: the walk of numbers. -/
import Derived.Test.YteblabpplaaddaaGreatDoorNm
set_option linter.unusedVariables false
set_option linter.unusedSimpArgs false
namespace Go.Proofs.YteblabpplaaddaaGreatDoor
open Go.RowKit Go.Mine Go.Mine.Sc

theorem info3 : (Tryz.prog.info? 3).map (fun i => (i.zero, i.size, i.bytes)) = some (some (.int .i64 0), 1, 8) := by kernel_rfl
def icells (l : List Int) : List Value := l.map fun n => .int .i64 n
theorem icells_length (l : List Int) : (icells l).length = l.length := by simp [icells]
theorem icells_app (a b : List Int) : icells (a ++ b) = icells a ++ icells b := by simp [icells]

/-- what the loop of numbers keeps: pre has been read, r is left -/
def NsR (w0 w : World) (p : Nat) (s : B) (g : Nat) (v : Value) (wr : World) : Prop :=
  ∃ (pre : List Int) (r : B) (S : Nat → Prop), r.length = g ∧ pre.length + r.length ≤ s.length ∧ pNums s = (pNums r).map (pre ++ ·) ∧ LineAt wr p r ∧ Sl wr S 3 1 v (icells pre) pre.length ∧ Turned (· = p) w wr ∧ (∀ b, S b → w.heap.size ≤ b) ∧ Lw w0 wr

/-- numbers, by its plain reading -/
def NumsPost (w : World) (p : Nat) : Option (List Int) → Ending → World → Prop
  | some l, e, w' => (∃ a cap, e = .returned (.slice a l.length cap) ∧ Sl w' (fun b => w.heap.size ≤ b) 3 1 (.slice a l.length cap) (icells l) l.length) ∧ LineAt w' p [] ∧ Turned (· = p) w w'
  | none, e, w' => e = .panicked [wrongE] ∧ Turned (· = p) w w'

theorem pNum_len {s : B} {n : Int} {r : B} (h : pNum s = some (n, r)) : r.length < s.length := pNum_lt h

set_option maxRecDepth 100000 in
set_option maxHeartbeats 1000000 in
theorem numbers_any (w0 : World) (p : Nat) (s : B) (w : World) (hL : Lw w0 w) (hp : w0.heap.size ≤ p) (h : LineAt w p s) (hs : s.length ≤ 1000000) :
    Calls Tryz.prog 56 #[pt p] w (NumsPost w p (pNums s)) := by
  have HP : Hid (w0.heap.size ≤ p ∧ p < w.heap.size ∧ s.length ≤ 1000000) := ⟨hp, lt_of_block h, hs⟩
  have B0 : Hid (NsR w0 w p s s.length (.slice none 0 0) w) := ⟨[], s, fun _ => False, rfl, by simp, by cases pNums s <;> simp, h, Sl.nil _ _ _ _, Turned.refl _ _, fun _ q => q.elim, hL⟩
  clear hL hp h hs
  go_enter Tryz.func56, Tryz.ntmps56
  go_wp2
  go_loopg [3] s.length (fun g v wr => NsR w0 w p s g v wr)
  case atStart => exact B0.out
  case round =>
    obtain ⟨pre, r, S, hg, hlen, hpn, hl, hsl, ht, hap, hlw⟩ := hrel
    have G : Hid (r.length = gk ∧ pre.length + r.length ≤ s.length) := ⟨hg, hlen⟩
    have PN : Hid (pNums s = (pNums r).map (pre ++ ·)) := hpn
    have L : Hid (LineAt wr p r) := hl
    have SL : Hid (Sl wr S 3 1 u3 (icells pre) pre.length) := hsl
    have T : Hid (Turned (· = p) w wr) := ht
    have AP : Hid (∀ b, S b → w.heap.size ≤ b) := hap
    have LW : Hid (Lw w0 wr) := hlw
    obtain ⟨a1, cap1, rfl, -, -⟩ := hsl.value
    clear hg hlen hpn hl hsl ht hap hlw B0
    have hm := more_any p r wr L.out
    by_cases hr : r = []
    · rw [show decide (r ≠ []) = false by simp [hr]] at hm
      have HR : Hid (r = []) := hr
      clear hr
      go_wp2_with (go_at_call 53; (with_reducible refine hm.mono ?_); rintro e w1 ⟨rfl, rfl⟩)
      go_ret
      have hpn := PN.out
      rw [HR.out, pNums_nil, Option.map_some, List.append_nil] at hpn
      rw [hpn]
      exact ⟨⟨a1, cap1, rfl, SL.out.widen fun b q => AP.out b q⟩, by rw [← HR.out]; exact L.out, T.out⟩
    · rw [show decide (r ≠ []) = true by simp [hr]] at hm
      have HR : Hid (r ≠ []) := hr
      clear hr
      have hlr : r.length ≤ 1000000 := by have := G.out.2; have := HP.out.2.2; omega
      cases hq : pNum r with
      | none =>
        have hn := number_none w0 p r wr LW.out HP.out.1 L.out hlr hq
        have NO : Hid (pNums s = none) := by
          have : pNums s = none := by rw [PN.out, pNums_none HR.out hq]; rfl
          exact this
        clear hq hlr
        go_wp2_with (first
          | (go_at_call 53; (with_reducible refine hm.mono ?_); rintro e w1 ⟨rfl, rfl⟩)
          | (go_at_call 52; (with_reducible refine hn.mono ?_); rintro e w2 ⟨rfl, ht2⟩))
        rw [NO.out]
        exact ⟨rfl, rfl, T.out.trans ht2 fun _ _ q => q⟩
      | some q =>
        obtain ⟨n, r2⟩ := q
        have hn := number_some w0 p r wr LW.out HP.out.1 L.out hlr hq
        have GO : Hid (pNums s = (pNums r2).map (pre ++ [n] ++ ·) ∧ r2.length < r.length) := by
          have : pNums s = (pNums r2).map (pre ++ [n] ++ ·) ∧ r2.length < r.length := ⟨by
            rw [PN.out, pNums_some hq]
            cases pNums r2 <;> simp, pNum_lt hq⟩
          exact this
        have m1 : Hid (pre.length + 1 ≤ maxLen ∧ (pre.length + 1) * 8 ≤ 140737488355328) := (by have := G.out.2; have := HP.out.2.2; simp only [maxLen]; omega : pre.length + 1 ≤ maxLen ∧ (pre.length + 1) * 8 ≤ 140737488355328)
        clear hq hlr
        go_wp2_with (first
          | (go_at_call 53; (with_reducible refine hm.mono ?_); rintro e w1 ⟨rfl, rfl⟩)
          | (go_at_call 52; (with_reducible refine hn.mono ?_); rintro e w2 ⟨rfl, hl2, ht2⟩
             have Z2 : Hid (LineAt w2 p r2 ∧ Turned (· = p) w1 w2) := ⟨hl2, ht2⟩
             have A1 : Hid (Sl (w2.alloc (.cells #[.int .i64 n] 3)) S 3 1 (.slice a1 pre.length cap1) (icells pre) pre.length) := (SL.out.turned ht2 (fun b q z => by have := AP.out b q; have := HP.out.2.1; omega)).turned (Turned.alloc (fun _ => False) w2 _) (fun _ _ q => q)
             clear hl2 ht2 hn)
          | (at_builtin; refine wpList_append rfl _ _ 34 34 rfl A1.out Tryz.underlying34 info3 rfl (by decide) rfl (.slice (some ⟨w2.heap.size, 0, none⟩) 1 1) rfl (src_one Tryz.underlying34 (.int .i64 n) rfl w2) m1.out.1 m1.out.2 ?_
             intro x4 w9 q1 t1
             obtain ⟨a3, cap3, hv3, -, -⟩ := q1.value
             subst hv3
             have Q1 : Hid (Sl w9 (More S (w2.alloc (.cells #[.int .i64 n] 3))) 3 1 (.slice a3 (pre.length + 1) cap3) (icells pre ++ [.int .i64 n]) (pre.length + 1) ∧ Turned S (w2.alloc (.cells #[.int .i64 n] 3)) w9) := ⟨q1, t1⟩
             clear q1 t1))
        go_roundg r2.length
        case measure => have := G.out; have := GO.out.2; omega
        case rel =>
          have hap := AP.out
          have tn : Turned S w2 (w2.alloc (.cells #[.int .i64 n] 3)) := Turned.alloc _ _ _
          have sz : (w2.alloc (.cells #[.int .i64 n] 3)).heap.size = w2.heap.size + 1 := by simp
          have t29 : Turned S w2 w9 := tn.trans Q1.out.2 fun _ _ q => q
          have tp : Turned (· = p) w w2 := T.out.trans Z2.out.2 fun _ _ q => q
          refine ⟨pre ++ [n], r2, More S (w2.alloc (.cells #[.int .i64 n] 3)), rfl, ?_, GO.out.1, ?_, ?_, ?_, ?_, ?_⟩
          · have := G.out; have := GO.out.2; simp; omega
          · exact line_turned Z2.out.1 t29 fun q => by have := hap _ q; have := HP.out.2.1; omega
          · rw [icells_app, List.length_append]
            exact Q1.out.1
          · exact tp.comp t29 fun b hb q => q.elim id fun q => by have := hap b q; omega
          · have s1 := T.out.size
            have s2 := Z2.out.2.size
            have s3 := Q1.out.2.size
            rintro b (q | q)
            · have := hap b q; omega
            · omega
          · exact (LW.out.turned Z2.out.2 fun b q => by have := HP.out.1; omega).turned t29 fun b q => by have := hap b q; have := HP.out.1; have := HP.out.2.1; omega
end Go.Proofs.YteblabpplaaddaaGreatDoor

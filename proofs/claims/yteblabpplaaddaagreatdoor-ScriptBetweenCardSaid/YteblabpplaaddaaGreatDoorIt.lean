/- SplitSeq at a byte 10: the iterator hands over the lines. -/
import Derived.Test.YteblabpplaaddaaGreatDoorLi
import Derived.Test.YteblabpplaaddaaGreatDoorRp
import Derived.Test.YteblabpplaaddaaGreatDoorSs
import Derived.Shelf.Strings.Search3
import Derived.OwnWalkIn
import Derived.TacticsInMore
import Derived.LoopIn
set_option linter.unusedVariables false
set_option linter.unusedSimpArgs false
namespace Go.Mine
open Go.RowKit
theorem RoundIn.anyN {n m : Nat} {P : Program} {l : Nat} {f : FuncId} {tmps : Array Value} {assign body : Code} {w : World} {R : Ending → World → Prop}
    (h : RoundIn Fence.wide n P l f tmps assign body w R) : RoundIn Fence.wide m P l f tmps assign body w R := ⟨h.1, fun c cs _ => h.2 c cs (room_wide _)⟩
theorem CallsIn.anyN {n m : Nat} {P : Program} {f : FuncId} {args : Array Value} {w : World} {R : Ending → World → Prop} (h : CallsIn Fence.wide n P f args w R) : CallsIn Fence.wide m P f args w R :=
  ⟨h.1, fun cs _ => h.2 cs (room_wide _)⟩
end Go.Mine
namespace Go.Proofs.YteblabpplaaddaaGreatDoor
open Go.RowKit Go.Mine Go.Mine.Sc

theorem index10 (s : B) : (10 ∈ s ∧ Lib.indexByte s 10 = ((hd10 s).length : Int) ∧ (hd10 s).length < s.length) ∨ (10 ∉ s ∧ Lib.indexByte s 10 = -1) := by
  by_cases h : (10 : UInt8) ∈ s
  · left
    have hc := congrArg List.length (cut10 s h)
    rw [List.length_append, List.length_cons] at hc
    refine ⟨h, ?_, by omega⟩
    clear hc
    induction s with
    | nil => simp at h
    | cons c t ih =>
      by_cases hc : c = 10
      · subst hc; simp [Lib.indexByte, hd10]
      · have ht : (10 : UInt8) ∈ t := by
          rcases List.mem_cons.1 h with q | q
          · exact absurd q.symm hc
          · exact q
        have := ih ht
        have e : hd10 (c :: t) = c :: hd10 t := by simp [hd10, hc]
        rw [e, Lib.indexByte, if_neg (by simpa using hc), this]
        have : ((((hd10 t).length : Int)) == -1) = false := by simp
        rw [this]
        simp
  · right
    refine ⟨h, ?_⟩
    induction s with
    | nil => rfl
    | cons c t ih =>
      simp only [List.mem_cons, not_or] at h
      rw [Lib.indexByte, if_neg (by simpa using fun q => h.1 q.symm), ih h.2]
      rfl
theorem take_hd (s : B) (h : 10 ∈ s) : s.take (hd10 s).length = hd10 s := by
  have h := cut10 s h
  generalize hd10 s = a at *
  generalize tl10 s = b at *
  subst h
  simp
theorem drop_tl (s : B) (h : 10 ∈ s) : s.drop ((hd10 s).length + 1) = tl10 s := by
  have h := cut10 s h
  generalize hd10 s = a at *
  generalize tl10 s = b at *
  subst h
  simp

theorem ix_any (s : B) (w : World) : Calls Tryz.prog 26 #[.string (bs s), .string ⟨#[10]⟩] w fun e w' => e = .returned (.int .i64 (Lib.indexByte s 10)) ∧ w' = w := by
  refine (Any.strings_Index_one Tryz.ixLays (bs s) 10 w).mono ?_
  rintro e w' ⟨rfl, rfl⟩
  rw [bs_list]
  exact ⟨rfl, rfl⟩

abbrev lineV (x : B) : Value := .string (bs x)

/-- how long the text in a block is -/
def leftStr (b : Nat) (w : World) : Nat := match w.heap[b]? with
  | some (.cells c _ _) => (match c.getD 0 undef with | .string x => x.size | _ => 0)
  | _ => 0
theorem leftStr_eq {b : Nat} {w : World} {r : B} (h : w.heap[b]? = some (.cells #[.string (bs r)] 9 (0, 0))) : leftStr b w = r.length := by
  unfold leftStr
  rw [h]
  exact bs_size r

/-- what the iterator's loop keeps: k lines have come, r is left -/
def SplitRel (t : B) (b : Nat) (J : Nat → World → Prop) (k : Nat) (r : B) (wr : World) : Prop :=
  ((∃ pre, parts t = pre ++ parts r ∧ pre.length = k) ∧ r.length ≤ 4611686018427387904) ∧ J k wr ∧ wr.heap[b]? = some (.cells #[.string (bs r)] 9 (0, 0)) ∧ wr.heap[b + 1]? = some (.cells #[.string ⟨#[10]⟩] 9 (0, 0)) ∧ wr.heap[b + 2]? = some (.cells #[.int .i64 0] 3 (0, 0))
theorem SplitRel.at {t : B} {b : Nat} {J : Nat → World → Prop} {k : Nat} {r : B} {wr : World} (h : SplitRel t b J k r wr) (x : B) (xs : List B) (hx : parts r = x :: xs) : ((parts t).map lineV)[k]? = some (.string (bs x)) := by
  obtain ⟨⟨⟨pre, h1, rfl⟩, -⟩, -⟩ := h
  rw [h1, hx]
  simp

set_option maxRecDepth 100000 in
theorem split_iter (n : Nat) (t : B) (b : Nat) (w : World) (hlt : t.length ≤ 4611686018427387904) (h0 : w.heap[b]? = some (.cells #[.string (bs t)] 9 (0, 0))) (h1 : w.heap[b + 1]? = some (.cells #[.string ⟨#[10]⟩] 9 (0, 0))) (h2 : w.heap[b + 2]? = some (.cells #[.int .i64 0] 3 (0, 0))) :
    Iter n Tryz.prog 81 #[pt (b + 1), pt b, pt (b + 2)] ((parts t).map lineV) (fun x => x = b ∨ x = b + 1 ∨ x = b + 2) w := by
  intro l J Px W hW hJ hY hJ0
  have HJ : Hid (∀ k W1 W2, J k W1 → Turned (fun x => x = b ∨ x = b + 1 ∨ x = b + 2) W1 W2 → J k W2) := hJ
  have HY : Hid (∀ (k : Nat) (x : Value) (W1 : World), ((parts t).map lineV)[k]? = some x → J k W1 → YieldAt Fence.wide n Tryz.prog l #[x] W1 fun e W2 =>
      (e = .returned (.bool true) ∧ J (k + 1) W2 ∧ ∀ y, (y = b ∨ y = b + 1 ∨ y = b + 2) → W2.heap[y]? = W1.heap[y]?) ∨ (∃ ch, e = .panicked ch ∧ Px ch W2)) := hY
  have B0 : W.heap[b]? = some (.cells #[.string (bs t)] 9 (0, 0)) := (hW.block b (lt_of_block h0) id).trans h0
  have B1 : W.heap[b + 1]? = some (.cells #[.string ⟨#[10]⟩] 9 (0, 0)) := (hW.block _ (lt_of_block h1) id).trans h1
  have B2 : W.heap[b + 2]? = some (.cells #[.int .i64 0] 3 (0, 0)) := (hW.block _ (lt_of_block h2) id).trans h2
  have H0 : Hid (W.heap[b]? = some (.cells #[.string (bs t)] 9 (0, 0)) ∧ W.heap[b + 1]? = some (.cells #[.string ⟨#[10]⟩] 9 (0, 0)) ∧ W.heap[b + 2]? = some (.cells #[.int .i64 0] 3 (0, 0))) := ⟨B0, B1, B2⟩
  have S0 : Hid (J 0 W) := hJ0
  have HLT : Hid (t.length ≤ 4611686018427387904) := hlt
  clear hlt
  have c1 := cell_of B1 0 _ rfl
  clear hW hJ hY hJ0 h0 h1 h2 B0 B2
  refine callsIn_of_wp Tryz.func81 rfl trivial ?_ rfl
  simp only [Tryz.ntmps81, List.size_toArray, List.length_cons, List.length_nil, Nat.reduceAdd, Nat.reduceSub, Array.replicate_succ, Array.replicate_zero, List.push_toArray, List.append_toArray, List.nil_append, List.cons_append]
  gi_wp2
  gi_loopw [7] (fun _ wr => ∃ k r, SplitRel t b J k r wr) (fun _ wr => leftStr b wr)
  case atStart => exact ⟨0, t, ⟨⟨[], rfl, rfl⟩, HLT.out⟩, S0.out, H0.out⟩
  case round =>
    obtain ⟨k, r, hr⟩ := hrel
    have HR : Hid (SplitRel t b J k r wr) := hr
    obtain ⟨⟨-, hrl⟩, hj, g0, g1, g2⟩ := hr
    have hix := ix_any r wr
    have d0 := cell_of g0 0 _ rfl
    have d1 := cell_of g1 0 _ rfl
    have d2 := cell_of g2 0 _ rfl
    have e0 := free_of g0 0
    have lb := lt_of_block g0
    rcases index10 r with ⟨hm, h2, h3⟩ | ⟨hm, h2⟩
    · rw [h2] at hix
      obtain ⟨fn, tmps, assign, body, hy, hR⟩ := HY.out k (.string (bs (hd10 r))) wr (HR.out.at _ _ (parts_cut r hm)) hj
      have HRR : Hid (RoundIn Fence.wide n Tryz.prog l fn tmps assign body wr fun e W2 =>
        (e = .returned (.bool true) ∧ J (k + 1) W2 ∧ ∀ y, (y = b ∨ y = b + 1 ∨ y = b + 2) → W2.heap[y]? = wr.heap[y]?) ∨ (∃ ch, e = .panicked ch ∧ Px ch W2)) := hR
      have hw : wrap64 ((hd10 r).length : Int) = ((hd10 r).length : Nat) := by simp [wrap64]; omega
      have hw1 : wrap64 (((hd10 r).length : Int) + 1) = (((hd10 r).length + 1 : Nat) : Int) := by simp [wrap64]; omega
      have s1 : ∀ W, (Instr.slice 9 (.string (bs r)) none (some (.int .i64 (wrap64 ((hd10 r).length : Int)))) none).run Tryz.prog W = .ok (.string (bs (hd10 r))) W := fun W => by
        have := sl_to r (hd10 r).length (by omega) W
        rw [take_hd r hm] at this
        rw [hw]; exact this
      have s2 : ∀ W, (Instr.slice 9 (.string (bs r)) (some (.int .i64 (wrap64 (((hd10 r).length : Int) + 1)))) none none).run Tryz.prog W = .ok (.string (bs (tl10 r))) W := fun W => by
        have := sl_from r ((hd10 r).length + 1) (by omega) W
        rw [drop_tl r hm] at this
        rw [hw1]; exact this
      have hd : decide (((hd10 r).length : Int) < 0) = false := by simp
      have HM : Hid (10 ∈ r) := hm
      have HZ : Hid (∀ w3 : World, w3.heap[b]? = some (.cells #[.string (bs (tl10 r))] 9 (0, 0)) → leftStr b w3 < leftStr b wr) := (fun w3 h => by rw [leftStr_eq h, leftStr_eq g0]; exact tl10_lt r hm : ∀ w3 : World, w3.heap[b]? = some (.cells #[.string (bs (tl10 r))] 9 (0, 0)) → leftStr b w3 < leftStr b wr)
      have HS : Hid (∀ w3 : World, J (k + 1) w3 → w3.heap[b]? = some (.cells #[.string (bs (tl10 r))] 9 (0, 0)) → w3.heap[b + 1]? = some (.cells #[.string ⟨#[10]⟩] 9 (0, 0)) → w3.heap[b + 2]? = some (.cells #[.int .i64 0] 3 (0, 0)) → ∃ k r, SplitRel t b J k r w3) :=
        (fun w3 h1 h2 h3 h4 => ⟨k + 1, tl10 r, by
          obtain ⟨⟨⟨pre, q1, q2⟩, q3⟩, -⟩ := HR.out
          exact ⟨⟨pre ++ [hd10 r], by rw [q1, parts_cut r hm]; simp, by simp [q2]⟩, by have := tl10_lt r hm; omega⟩, h1, h2, h3, h4⟩ : ∀ w3 : World, J (k + 1) w3 → w3.heap[b]? = some (.cells #[.string (bs (tl10 r))] 9 (0, 0)) → w3.heap[b + 1]? = some (.cells #[.string ⟨#[10]⟩] 9 (0, 0)) → w3.heap[b + 2]? = some (.cells #[.int .i64 0] 3 (0, 0)) → ∃ k r, SplitRel t b J k r w3)
      have H3 : Hid (wr.heap[b]? = some (.cells #[.string (bs r)] 9 (0, 0)) ∧ wr.heap[b + 1]? = some (.cells #[.string ⟨#[10]⟩] 9 (0, 0)) ∧ wr.heap[b + 2]? = some (.cells #[.int .i64 0] 3 (0, 0))) := ⟨g0, g1, g2⟩
      clear hm h2 h3 hR hj hrl hw hw1 HR HM g0 g1 g2 H0 S0 HY
      generalize bs (hd10 r) = y at *
      generalize bs (tl10 r) = z at *
      generalize (hd10 r).length = m at *
      generalize bs r = x at *
      gi_wp2_with (first
        | (refine ⟨trivial, fun h => (by cases h), (callsIn_wide.2 hix).mono ?_⟩; rintro e w1 ⟨rfl, rfl⟩)
        | (refine ⟨fun h => (by cases h), (Go.Mine.RoundIn.anyN HRR.out).mono ?_⟩; rintro e w2 (⟨rfl, hj2, hb2⟩ | ⟨ch, rfl, hp⟩)
           (have K0 : w2.heap[b]? = some (.cells #[.string x] 9 (0, 0)) := (hb2 b (.inl rfl)).trans H3.out.1
            have K1 : w2.heap[b + 1]? = some (.cells #[.string ⟨#[10]⟩] 9 (0, 0)) := (hb2 _ (.inr (.inl rfl))).trans H3.out.2.1
            have K2 : w2.heap[b + 2]? = some (.cells #[.int .i64 0] 3 (0, 0)) := (hb2 _ (.inr (.inr rfl))).trans H3.out.2.2
            have K : Hid (J (k + 1) w2 ∧ w2.heap[b]? = some (.cells #[.string x] 9 (0, 0)) ∧ w2.heap[b + 1]? = some (.cells #[.string ⟨#[10]⟩] 9 (0, 0)) ∧ w2.heap[b + 2]? = some (.cells #[.int .i64 0] 3 (0, 0))) := ⟨hj2, K0, K1, K2⟩
            have d3 := cell_of K0 0 _ rfl
            have d4 := cell_of K1 0 _ rfl
            have d5 := free_of K0 0
            have d6 := lt_of_block K0
            clear hj2 hb2 K0 K1 K2 d0 d1 d2 e0 lb)))
      · obtain ⟨q1, q2, q3, q4⟩ := K.out
        have t3 : Turned (fun y => y = b ∨ y = b + 1 ∨ y = b + 2) w2 (w2.setCell ⟨b, 0, none⟩ (.string z)) := Turned.setCell (p := ⟨b, 0, none⟩) (.inl rfl) _
        have z0 : (w2.setCell ⟨b, 0, none⟩ (.string z)).heap[b]? = some (.cells #[.string z] 9 (0, 0)) := Go.Mine.heap_setCell_same q2 _
        exact ⟨HS.out _ (HJ.out _ _ _ q1 t3) z0 ((Go.Mine.heap_setCell_ne _ (by simp)).trans q3) ((Go.Mine.heap_setCell_ne _ (by simp)).trans q4), HZ.out _ z0⟩
      · exact ⟨rfl, .inr ⟨ch, rfl, hp⟩⟩
    · rw [h2] at hix
      obtain ⟨fn, tmps, assign, body, hy, hR⟩ := HY.out k (.string (bs r)) wr (HR.out.at _ _ (parts_no r hm)) hj
      have HRR : Hid (RoundIn Fence.wide n Tryz.prog l fn tmps assign body wr fun e W2 =>
        (e = .returned (.bool true) ∧ J (k + 1) W2 ∧ ∀ y, (y = b ∨ y = b + 1 ∨ y = b + 2) → W2.heap[y]? = wr.heap[y]?) ∨ (∃ ch, e = .panicked ch ∧ Px ch W2)) := hR
      have HE : Hid (k + 1 = ((parts t).map lineV).length) := by
        obtain ⟨⟨⟨pre, q1, q2⟩, -⟩, -⟩ := HR.out
        have : k + 1 = ((parts t).map lineV).length := by rw [q1, parts_no r hm]; simp [q2]
        exact this
      clear hm h2 hR hj hrl HR g0 g1 g2 H0 S0 HY
      generalize bs r = x at *
      gi_wp2_with (first
        | (refine ⟨trivial, fun h => (by cases h), (callsIn_wide.2 hix).mono ?_⟩; rintro e w1 ⟨rfl, rfl⟩)
        | (refine ⟨fun h => (by cases h), (Go.Mine.RoundIn.anyN HRR.out).mono ?_⟩; rintro e w2 (⟨rfl, hj2, hb2⟩ | ⟨ch, rfl, hp⟩)))
      · go_end0
        exact .inl ⟨⟨_, rfl⟩, by rw [← HE.out]; exact hj2⟩
      · exact ⟨rfl, .inr ⟨ch, rfl, hp⟩⟩
end Go.Proofs.YteblabpplaaddaaGreatDoor

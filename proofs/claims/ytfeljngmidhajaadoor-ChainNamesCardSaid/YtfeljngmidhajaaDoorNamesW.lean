/- Every number has its name, and every name its number: the walk. -/
import Derived.Test.YtfeljngmidhajaaDoorNumR
import Derived.Test.YtfeljngmidhajaaDoorLinks
namespace Go.Proofs.YtfeljngmidhajaaDoor
open Go.RowKit Go.Mine

theorem nameS_empty (n : Int) (h : numb n = false) : nameS n = ⟨#[]⟩ := nameS_not n h
theorem nameS_full (n : Int) (h : numb n = true) : (nameS n).toList.isEmpty = false ∧ ((nameS n).toList == []) = false := by
  obtain ⟨k, rfl, hk⟩ := numb_nat h
  have hl := nameS_nat k hk
  rw [ByteArray.toList_eq, hl]
  exact ⟨rfl, rfl⟩
theorem nameS_size (n : Int) : (nameS n).size ≤ 16 := by
  cases h : numb n with
  | true =>
    obtain ⟨k, rfl, hk⟩ := numb_nat h
    obtain ⟨h1, -, -, -, -, h2⟩ := name_parts k hk
    omega
  | false => rw [nameS_not n h]; decide

def NmRel (w : World) (b : Nat) (xs : List ByteArray) (g : Nat) (i : Value) (wr : World) : Prop :=
  ∃ k : Nat, k + g = 3 ∧ i = .int .i64 (k : Nat) ∧ (∀ j x, xs[j]? = some x → wr.cell? ⟨b, j, none⟩ = some (.string x)) ∧ Turned (fun _ => False) w wr ∧ b < wr.heap.size

theorem NmRel.three (w W : World) (x y z : ByteArray) (h : Turned (fun _ => False) w W) : NmRel w W.heap.size [x, y, z] 3 (.int .i64 0) (W.alloc (.cells #[.string x, .string y, .string z] 9)) := by
  have hh := heap_alloc_last W (.cells #[.string x, .string y, .string z] 9)
  refine ⟨0, rfl, rfl, fun j u hj => ?_, h.new _, by simp⟩
  rcases j with _ | _ | _ | j
  · obtain rfl : x = u := by simpa using hj
    exact cell_of hh 0 _ rfl
  · obtain rfl : y = u := by simpa using hj
    exact cell_of hh 1 _ rfl
  · obtain rfl : z = u := by simpa using hj
    exact cell_of hh 2 _ rfl
  · simp at hj

set_option maxRecDepth 100000 in
set_option maxHeartbeats 4000000 in
theorem names_any (n : Int) (t : ByteArray) (w : World) (h : I64 n) (ht : Tab w) (he : Errs w) (hs : t.size ≤ 140737488355328) :
    Calls Tryd.prog 5 #[.int .i64 n, .string t] w fun e w' => e = .returned (.bool true) ∧ Turned (fun _ => False) w w' := by
  have hli := links_any w ht
  have HT : Hid (Tab w ∧ Errs w) := ⟨ht, he⟩
  have hz := nameS_size n
  have NM : Hid (∀ W, Turned (fun _ => False) w W → Calls Tryd.prog 13 #[.int .i64 n] W fun e w' => e = .returned (.string (nameS n)) ∧ Turned (fun _ => False) W w') := fun W q => name_any n h W (ht.turned q)
  have RN : Hid (∀ W, Turned (fun _ => False) w W → Calls Tryd.prog 15 #[.int .i64 n] W fun e w' => e = .returned (.string (nameS n)) ∧ Turned (fun _ => False) W w') := fun W q => rname_any n h W (ht.turned q)
  have NU : Hid (∀ x W, x.size ≤ 281474976710656 → Turned (fun _ => False) w W → Calls Tryd.prog 14 #[.string x] W fun e w' => e = .returned (.tuple #[.int .i64 (progN x).1, .bool (progN x).2]) ∧ Turned (fun _ => False) W w') := fun x W hx q => nnumber_any x W (ht.turned q) (he.turned q) hx
  have NR : Hid (∀ x W, x.size ≤ 281474976710656 → Turned (fun _ => False) w W → Calls Tryd.prog 16 #[.string x] W fun e w' => e = .returned (.tuple #[.int .i64 (progN x).1, .bool (progN x).2]) ∧ Turned (fun _ => False) W w') := fun x W hx q => by
    have := rnumber_any x W (ht.turned q) hx
    rw [← num_same] at this
    exact this
  have a1 : ∀ W, (Op.stringOp .add ⟨#[103, 114, 97, 112, 104, 45]⟩ t).run Tryd.prog W = .ok (.string (⟨#[103, 114, 97, 112, 104, 45]⟩ ++ t)) W := fun W => run_string_add_sum W _ _ (by
    have : (⟨#[103, 114, 97, 112, 104, 45]⟩ : ByteArray).size = 6 := rfl
    omega)
  have a2 : ∀ W, (Op.stringOp .add (nameS n) t).run Tryd.prog W = .ok (.string (nameS n ++ t)) W := fun W => run_string_add_sum W _ _ (by omega)
  have SZ : Hid (∀ (j : Nat) (x : ByteArray), [t, ⟨#[103, 114, 97, 112, 104, 45]⟩ ++ t, nameS n ++ t][j]? = some x → x.size ≤ 281474976710656) := by
    have z2 : (⟨#[103, 114, 97, 112, 104, 45]⟩ ++ t : ByteArray).size = 6 + t.size := by rw [ByteArray.size_append]; rfl
    have z3 : (nameS n ++ t : ByteArray).size = (nameS n).size + t.size := by rw [ByteArray.size_append]
    have : ∀ (j : Nat) (x : ByteArray), [t, ⟨#[103, 114, 97, 112, 104, 45]⟩ ++ t, nameS n ++ t][j]? = some x → x.size ≤ 281474976710656 := fun j x hj => by
      rcases j with _ | _ | _ | j
      · obtain rfl : t = x := by simpa using hj
        omega
      · obtain rfl : ⟨#[103, 114, 97, 112, 104, 45]⟩ ++ t = x := by simpa using hj
        omega
      · obtain rfl : nameS n ++ t = x := by simpa using hj
        omega
      · simp at hj
    exact this
  have hpo := progN_of n
  have h14 := fun W (q : Turned (fun _ => False) w W) => NU.out (nameS n) W (by omega) q
  rw [hpo] at h14
  clear hpo hs ht he hz h
  generalize (⟨#[103, 114, 97, 112, 104, 45]⟩ ++ t : ByteArray) = S2 at *
  generalize nameS n ++ t = S3 at *
  cases hb : numb n with
  | true =>
    simp only [hb, if_true] at h14
    obtain ⟨e1, e2⟩ := nameS_full n hb
    have H14 : Hid (∀ W, Turned (fun _ => False) w W → Calls Tryd.prog 14 #[.string (nameS n)] W fun e w' => e = .returned (.tuple #[.int .i64 n, .bool true]) ∧ Turned (fun _ => False) W w') := h14
    clear h14 hb
    generalize nameS n = s at *
    go_enter Tryd.func5, Tryd.ntmps5
    go_wp2_with (first
      | (go_at_call 6; (with_reducible refine hli.mono ?_); rintro e w1 ⟨rfl, ht1⟩; have T1 : Hid (Turned (fun _ => False) w w1) := ht1; have h13 := NM.out w1 ht1; clear ht1)
      | (go_at_call 13; (with_reducible refine h13.mono ?_); rintro e w2 ⟨rfl, ht2⟩; have T2 : Hid (Turned (fun _ => False) w w2) := T1.out.trans ht2 (fun _ _ q => q); have h14 := H14.out w2 T2.out; clear ht2)
      | (go_at_call 14; (with_reducible refine h14.mono ?_); rintro e w3 ⟨rfl, ht3⟩; have T3 : Hid (Turned (fun _ => False) w w3) := T2.out.trans ht3 (fun _ _ q => q); have h15 := RN.out w3 T3.out; clear ht3)
      | (go_at_call 15; (with_reducible refine h15.mono ?_); rintro e w4 ⟨rfl, ht4⟩; have T4 : Hid (Turned (fun _ => False) w w4) := T3.out.trans ht4 (fun _ _ q => q); clear ht4))
    have HS : Hid (NmRel w w4.heap.size [t, S2, S3] 3 (.int .i64 0) (w4.alloc (.cells #[.string t, .string S2, .string S3] 9))) := NmRel.three w w4 t S2 S3 T4.out
    obtain ⟨b, hb⟩ : ∃ b, b = w4.heap.size := ⟨_, rfl⟩
    rw [← hb] at HS
    rw [← hb]
    clear hb
    go_loopg [49] 3 (fun g i wr => NmRel w b [t, S2, S3] g i wr)
    case atStart => exact HS.out
    case round =>
      obtain ⟨k, hkg, rfl, hcl, htx, hbl⟩ := hrel
      have G : Hid (k + gk = 3) := hkg
      have TX : Hid (Turned (fun _ => False) w wr ∧ ∀ (j : Nat) (x : ByteArray), [t, S2, S3][j]? = some x → wr.cell? ⟨b, j, none⟩ = some (.string x)) := ⟨htx, hcl⟩
      clear hkg htx HS
      by_cases hlt : k < 3
      · obtain ⟨x, hx⟩ : ∃ x, [t, S2, S3][k]? = some x := ⟨_, List.getElem?_eq_getElem (by simpa using hlt)⟩
        have c0 := hcl k x hx
        have h14 := NU.out x wr (SZ.out k x hx) TX.out.1
        have R16 : Hid (∀ W, Turned (fun _ => False) w W → Calls Tryd.prog 16 #[.string x] W fun e w' => e = .returned (.tuple #[.int .i64 (progN x).1, .bool (progN x).2]) ∧ Turned (fun _ => False) W w') := fun W q => NR.out x W (SZ.out k x hx) q
        generalize (progN x).1 = p at *
        generalize (progN x).2 = q at *
        clear hcl hx
        go_wp2_with (first
          | (go_at_call 14; (with_reducible refine h14.mono ?_); rintro e w5 ⟨rfl, ht5⟩; have T5 : Hid (Turned (fun _ => False) wr w5) := ht5; have h16 := R16.out w5 (TX.out.1.trans ht5 (fun _ _ q => q)); clear ht5)
          | (go_at_call 16; (with_reducible refine h16.mono ?_); rintro e w6 ⟨rfl, ht6⟩; have T6 : Hid (Turned (fun _ => False) wr w6) := T5.out.trans ht6 (fun _ _ q => q); clear ht6))
        go_roundg (gk - 1)
        case measure => have := G.out; omega
        case rel =>
          have g := G.out
          refine ⟨k + 1, by omega, by simp [wrap64] <;> omega, fun j u hj => ?_, TX.out.1.trans T6.out fun _ _ q => q, by have := T6.out.size; omega⟩
          have c := TX.out.2 j u hj
          rw [← c]
          simp only [World.cell?]
          rw [T6.out.block b hbl fun q => q]
      · have hj : k = 3 := by have := G.out; omega
        subst hj
        clear hcl hlt
        go_wp2
        go_ret
        exact ⟨rfl, TX.out.1⟩
  | false =>
    simp only [hb, Bool.false_eq_true, if_false] at h14
    have e0 := nameS_not n hb
    have H14 : Hid (∀ W, Turned (fun _ => False) w W → Calls Tryd.prog 14 #[.string (nameS n)] W fun e w' => e = .returned (.tuple #[.int .i64 0, .bool false]) ∧ Turned (fun _ => False) W w') := h14
    clear h14 hb
    rw [e0] at NM RN H14 a2
    clear e0
    go_enter Tryd.func5, Tryd.ntmps5
    go_wp2_with (first
      | (go_at_call 6; (with_reducible refine hli.mono ?_); rintro e w1 ⟨rfl, ht1⟩; have T1 : Hid (Turned (fun _ => False) w w1) := ht1; have h13 := NM.out w1 ht1; clear ht1)
      | (go_at_call 13; (with_reducible refine h13.mono ?_); rintro e w2 ⟨rfl, ht2⟩; have T2 : Hid (Turned (fun _ => False) w w2) := T1.out.trans ht2 (fun _ _ q => q); have h14 := H14.out w2 T2.out; clear ht2)
      | (go_at_call 14; (with_reducible refine h14.mono ?_); rintro e w3 ⟨rfl, ht3⟩; have T3 : Hid (Turned (fun _ => False) w w3) := T2.out.trans ht3 (fun _ _ q => q); have h15 := RN.out w3 T3.out; clear ht3)
      | (go_at_call 15; (with_reducible refine h15.mono ?_); rintro e w4 ⟨rfl, ht4⟩; have T4 : Hid (Turned (fun _ => False) w w4) := T3.out.trans ht4 (fun _ _ q => q); clear ht4))
    have HS : Hid (NmRel w w4.heap.size [t, S2, S3] 3 (.int .i64 0) (w4.alloc (.cells #[.string t, .string S2, .string S3] 9))) := NmRel.three w w4 t S2 S3 T4.out
    obtain ⟨b, hb⟩ : ∃ b, b = w4.heap.size := ⟨_, rfl⟩
    rw [← hb] at HS
    rw [← hb]
    clear hb
    go_loopg [49] 3 (fun g i wr => NmRel w b [t, S2, S3] g i wr)
    case atStart => exact HS.out
    case round =>
      obtain ⟨k, hkg, rfl, hcl, htx, hbl⟩ := hrel
      have G : Hid (k + gk = 3) := hkg
      have TX : Hid (Turned (fun _ => False) w wr ∧ ∀ (j : Nat) (x : ByteArray), [t, S2, S3][j]? = some x → wr.cell? ⟨b, j, none⟩ = some (.string x)) := ⟨htx, hcl⟩
      clear hkg htx HS
      by_cases hlt : k < 3
      · obtain ⟨x, hx⟩ : ∃ x, [t, S2, S3][k]? = some x := ⟨_, List.getElem?_eq_getElem (by simpa using hlt)⟩
        have c0 := hcl k x hx
        have h14 := NU.out x wr (SZ.out k x hx) TX.out.1
        have R16 : Hid (∀ W, Turned (fun _ => False) w W → Calls Tryd.prog 16 #[.string x] W fun e w' => e = .returned (.tuple #[.int .i64 (progN x).1, .bool (progN x).2]) ∧ Turned (fun _ => False) W w') := fun W q => NR.out x W (SZ.out k x hx) q
        generalize (progN x).1 = p at *
        generalize (progN x).2 = q at *
        clear hcl hx
        go_wp2_with (first
          | (go_at_call 14; (with_reducible refine h14.mono ?_); rintro e w5 ⟨rfl, ht5⟩; have T5 : Hid (Turned (fun _ => False) wr w5) := ht5; have h16 := R16.out w5 (TX.out.1.trans ht5 (fun _ _ q => q)); clear ht5)
          | (go_at_call 16; (with_reducible refine h16.mono ?_); rintro e w6 ⟨rfl, ht6⟩; have T6 : Hid (Turned (fun _ => False) wr w6) := T5.out.trans ht6 (fun _ _ q => q); clear ht6))
        go_roundg (gk - 1)
        case measure => have := G.out; omega
        case rel =>
          have g := G.out
          refine ⟨k + 1, by omega, by simp [wrap64] <;> omega, fun j u hj => ?_, TX.out.1.trans T6.out fun _ _ q => q, by have := T6.out.size; omega⟩
          have c := TX.out.2 j u hj
          rw [← c]
          simp only [World.cell?]
          rw [T6.out.block b hbl fun q => q]
      · have hj : k = 3 := by have := G.out; omega
        subst hj
        clear hcl hlt
        go_wp2
        go_ret
        exact ⟨rfl, TX.out.1⟩
end Go.Proofs.YtfeljngmidhajaaDoor

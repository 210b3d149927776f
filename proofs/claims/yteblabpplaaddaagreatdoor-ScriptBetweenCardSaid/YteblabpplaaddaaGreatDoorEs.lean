/- What stands behind a backslash: the walk of escape. -/
import Derived.Test.YteblabpplaaddaaGreatDoorPx
import Derived.Test.YteblabpplaaddaaGreatDoorNu
set_option linter.unusedVariables false
set_option linter.unusedSimpArgs false
namespace Go.Proofs.YteblabpplaaddaaGreatDoor
open Go.RowKit Go.Mine Go.Mine.Sc

theorem hp_any (c : UInt8) (s : B) (w : World) : Calls Tryz.prog 86 #[.string (bs s), .string ⟨#[c]⟩] w fun e w' => e = .returned (.bool (decide (s.head? = some c))) ∧ w' = w := by
  refine (Any.strings_HasPrefix Tryz.hpLays (bs s) ⟨#[c]⟩ w).mono ?_
  rintro e w' ⟨rfl, rfl⟩
  refine ⟨?_, rfl⟩
  rw [bs_list]
  have : Lib.hasPrefix s [c] = decide (s.head? = some c) := by
    cases s with
    | nil => rfl
    | cons d t =>
      simp only [Lib.hasPrefix, List.isPrefixOf, Bool.and_true, List.head?_cons, Option.some.injEq]
      by_cases h : c = d
      · subst h; simp
      · have : ¬ d = c := fun q => h q.symm
        simp [h, this]
  rw [← this]

theorem hex_facts : ∀ n : Fin 256, (128 ≤ n.val → hexv (UInt8.ofNat n.val) = none ∧ hexd n.val = none) ∧ (n.val < 128 → Lib.lowerB (UInt8.ofNat n.val) = UInt8.ofNat n.val → hexd n.val = (hexv (UInt8.ofNat n.val)).map (·.toNat)) ∧
    (n.val < 128 → Lib.lowerB (UInt8.ofNat n.val) ≠ UInt8.ofNat n.val → hexv (UInt8.ofNat n.val) = none) ∧ (∀ p ∈ hexv (UInt8.ofNat n.val), p.toNat < 16) := by decide +kernel
theorem hex_at (c : UInt8) : (128 ≤ c.toNat → hexv c = none ∧ hexd c.toNat = none) ∧ (c.toNat < 128 → Lib.lowerB c = c → hexd c.toNat = (hexv c).map (·.toNat)) ∧ (c.toNat < 128 → Lib.lowerB c ≠ c → hexv c = none) ∧ (∀ p ∈ hexv c, p.toNat < 16) := by
  have := hex_facts ⟨c.toNat, c.toNat_lt⟩
  simpa using this

/-- the two digits behind \x: the answers of the library fit the plain reading -/
theorem hex_both (a b : UInt8) : (Lib.toLowerD [a, b] = [a, b] → hexM 0 [a, b] = (match hexv a, hexv b with | some p, some q => some (16 * p + q).toNat | _, _ => none)) ∧
    (Lib.toLowerD [a, b] ≠ [a, b] → (match hexv a, hexv b with | some p, some q => some (16 * p + q) | _, _ => none) = (none : Option UInt8)) := by
  obtain ⟨a1, a2, a3, a4⟩ := hex_at a
  obtain ⟨b1, b2, b3, b4⟩ := hex_at b
  by_cases ha : 128 ≤ a.toNat
  · obtain ⟨h1, h2⟩ := a1 ha
    rw [h1]
    exact ⟨fun _ => by simp [hexM, h2], fun _ => rfl⟩
  · by_cases hb : 128 ≤ b.toNat
    · obtain ⟨h1, h2⟩ := b1 hb
      rw [h1]
      constructor
      · intro _
        have : hexM 0 [a, b] = none := by
          unfold hexM
          cases hexd a.toNat <;> simp [hexM, h2]
        rw [this]
        cases hexv a <;> rfl
      · intro _
        cases hexv a <;> rfl
    · have hlow : Lib.toLowerD [a, b] = [Lib.lowerB a, Lib.lowerB b] := by
        rw [Lib.toLowerD_ascii _ (by intro c hc; simp at hc; rcases hc with rfl | rfl <;> omega)]
        rfl
      rw [hlow]
      constructor
      · intro h
        injection h with h1 h2
        injection h2 with h2 _
        have e1 := a2 (by omega) h1
        have e2 := b2 (by omega) h2
        have h16 : ∀ p q : UInt8, p.toNat < 16 → q.toNat < 16 → (16 * p + q).toNat = 16 * p.toNat + q.toNat := by
          intro p q hp hq
          simp [UInt8.toNat_add, UInt8.toNat_mul]
          omega
        unfold hexM
        rw [e1]
        cases hpa : hexv a with
        | none => rfl
        | some p =>
          simp only [Option.map_some]
          unfold hexM
          rw [e2]
          cases hpb : hexv b with
          | none => rfl
          | some q =>
            simp only [Option.map_some, hexM]
            rw [h16 p q (a4 p (by rw [hpa]; rfl)) (b4 q (by rw [hpb]; rfl))]
            simp
      · intro h
        by_cases h1 : Lib.lowerB a = a
        · have h2 : Lib.lowerB b ≠ b := fun q => h (by rw [h1, q])
          rw [b3 (by omega) h2]
          cases hexv a <;> rfl
        · rw [a3 (by omega) h1]

set_option maxRecDepth 100000 in
theorem pu_ok (t : B) (h2 : t.length = 2) (v : Nat) (h : hexM 0 t = some v) (w : World) :
    Calls Tryz.prog 101 #[.string (bs t), .int .i64 16, .int .i64 8] w fun e w' => e = .returned (.tuple #[.int .u64 (v : Nat), .nilIface]) ∧ Turned (fun _ => False) w w' := by
  have hp := parse16 t h2 w
  rw [h] at hp
  unfold pu16 at hp
  clear h h2
  generalize bs t = x at *
  go_enter Tryz.func101, Tryz.ntmps101
  go_wp2_with (go_at_call 112; (with_reducible refine hp.mono ?_); rintro e w1 ⟨rfl, ht⟩)
  go_ret2
  exact ⟨rfl, ht⟩

set_option maxRecDepth 100000 in
theorem pu_no (t : B) (h2 : t.length = 2) (h : hexM 0 t = none) (w0 w : World) (hL : Lw w0 w) :
    Calls Tryz.prog 101 #[.string (bs t), .int .i64 16, .int .i64 8] w fun e w' => (∃ n ty p, e = .returned (.tuple #[.int .u64 n, .iface ty p])) ∧ Turned (fun _ => False) w w' := by
  have hp := parse16 t h2 w
  rw [h] at hp
  unfold pu16 at hp
  have hte : ∀ W, Turned (fun _ => False) w W → Calls Tryz.prog 98 #[.string ⟨#[80, 97, 114, 115, 101, 85, 105, 110, 116]⟩, .string (bs t), .int .i64 16, .int .i64 8, .iface 142 (.int .i64 2)] W fun e w' => (∃ ty p, e = .returned (.iface ty p)) ∧ Turned (fun _ => False) W w' := fun W hW => by
    obtain ⟨tp, q, hv⟩ := (hL.turned0 hW).syn
    have h0 := World.var?_cell Tryz.atoiLays.m15 hv 0
    have h1 : W.cell? ⟨Tryz.atoiLays_ren.g 15, 0, none⟩ = some (.iface tp q) := by simpa using h0
    exact (Any.strconv_toError_syntax { Tryz.atoiLays with } ⟨#[80, 97, 114, 115, 101, 85, 105, 110, 116]⟩ (bs t) 16 8 (.iface tp q) W (by rw [bs_size, h2]; omega) h1 (.inr ⟨_, _, rfl⟩)).mono fun e w' ⟨N, he, _, _, hb⟩ => ⟨⟨_, _, he⟩, below_turned hb⟩
  have HT : Hid (∀ W, Turned (fun _ => False) w W → Calls Tryz.prog 98 #[.string ⟨#[80, 97, 114, 115, 101, 85, 105, 110, 116]⟩, .string (bs t), .int .i64 16, .int .i64 8, .iface 142 (.int .i64 2)] W fun e w' => (∃ ty p, e = .returned (.iface ty p)) ∧ Turned (fun _ => False) W w') := hte
  clear h h2 hL hte
  generalize bs t = x at *
  go_enter Tryz.func101, Tryz.ntmps101
  go_wp2_with (first
    | (go_at_call 112; (with_reducible refine hp.mono ?_); rintro e w1 ⟨rfl, ht⟩; have T1 : Hid (Turned (fun _ => False) w w1) := ht; have h98 := HT.out w1 ht; clear ht)
    | (go_at_call 98; (with_reducible refine h98.mono ?_); rintro e w2 ⟨⟨ty, p, rfl⟩, ht2⟩))
  go_ret2
  exact ⟨⟨_, _, _, rfl⟩, T1.out.trans ht2 fun _ _ q => q⟩

def EscPost (w : World) : Option (UInt8 × Nat) → Ending → World → Prop
  | some (x, n), e, w' => e = .returned (.tuple #[.int .u8 (x.toNat : Nat), .int .i64 (n : Nat)]) ∧ Turned (fun _ => False) w w'
  | none, e, w' => e = .panicked [wrongE] ∧ Turned (fun _ => False) w w'

theorem ix_str (s : B) (k : Nat) (c : UInt8) (h : s[k]? = some c) (W : World) : (Instr.index 9 (.string (bs s)) (.int .i64 (k : Nat))).run Tryz.prog W = .ok (.int .u8 (c.toNat : Nat)) W := by
  have hk : k < s.length := (List.getElem?_eq_some_iff.1 h).1
  rw [run_index_string (P := Tryz.prog) W 9 (bs s) .i64 _ Tryz.underlying9, dif_pos (by rw [bs_size]; omega)]
  have hb3 : (bs s)[k]'(by rw [bs_size]; exact hk) = c := (Array.getElem?_eq_some_iff.1 (by simpa using h : s.toArray[k]? = some c)).2
  simp only [Int.toNat_natCast, hb3]

theorem sl_mid (c a b : UInt8) (r : B) (W : World) : (Instr.slice 9 (.string (bs (c :: a :: b :: r))) (some (.int .i64 1)) (some (.int .i64 3)) none).run Tryz.prog W = .ok (.string (bs [a, b])) W := by
  have := run_slice_string (P := Tryz.prog) W 9 (bs (c :: a :: b :: r)) .i64 .i64 1 3 Tryz.underlying9 (by omega) (by omega) (by rw [bs_size]; simp; omega)
  have e : (bs (c :: a :: b :: r)).extract 1 3 = bs [a, b] := by
    apply ByteArray.ext
    simp [ByteArray.data_extract]
  rw [show (1 : Int).toNat = 1 from rfl, show (3 : Int).toNat = 3 from rfl, e] at this
  exact this

set_option maxRecDepth 100000 in
set_option maxHeartbeats 1000000 in
theorem escape_any (s : B) (hs : s.length ≤ 1000000) (w0 w : World) (hL : Lw w0 w) : Calls Tryz.prog 87 #[.string (bs s)] w (EscPost w (esc s)) := by
  have h34 := fun W => hp_any 34 s W
  have h92 := fun W => hp_any 92 s W
  by_cases q34 : s.head? = some 34
  · obtain ⟨t, rfl⟩ : ∃ t, s = 34 :: t := by
      cases s with
      | nil => simp at q34
      | cons c t => simp at q34; subst q34; exact ⟨t, rfl⟩
    have he : esc (34 :: t) = some (34, 1) := rfl
    rw [he]
    rw [decide_eq_true q34] at h34
    have hx := ix_str (34 :: t) 0 34 rfl
    show Calls _ _ _ _ fun e w' => e = .returned (.tuple #[.int .u8 34, .int .i64 1]) ∧ Turned (fun _ => False) w w'
    change ∀ W, (Instr.index 9 (.string (bs (34 :: t))) (.int .i64 0)).run Tryz.prog W = .ok (.int .u8 34) W at hx
    clear he q34 h92 hs hL
    generalize bs (34 :: t) = x at *
    go_enter Tryz.func87, Tryz.ntmps87
    go_wp2_with (go_at_call 86; (with_reducible refine (h34 _).mono ?_); rintro e w1 ⟨rfl, rfl⟩)
    go_ret2
    exact ⟨rfl, Turned.refl _ _⟩
  rw [decide_eq_false q34] at h34
  by_cases q92 : s.head? = some 92
  · obtain ⟨t, rfl⟩ : ∃ t, s = 92 :: t := by
      cases s with
      | nil => simp at q92
      | cons c t => simp at q92; subst q92; exact ⟨t, rfl⟩
    have he : esc (92 :: t) = some (92, 1) := rfl
    rw [he]
    rw [decide_eq_true q92] at h92
    have hx := ix_str (92 :: t) 0 92 rfl
    show Calls _ _ _ _ fun e w' => e = .returned (.tuple #[.int .u8 92, .int .i64 1]) ∧ Turned (fun _ => False) w w'
    change ∀ W, (Instr.index 9 (.string (bs (92 :: t))) (.int .i64 0)).run Tryz.prog W = .ok (.int .u8 92) W at hx
    clear he q34 q92 hs hL
    generalize bs (92 :: t) = x at *
    go_enter Tryz.func87, Tryz.ntmps87
    go_wp2_with (first
      | (go_at_call 86; (with_reducible refine (h34 _).mono ?_); rintro e w1 ⟨rfl, rfl⟩)
      | (go_at_call 86; (with_reducible refine (h92 _).mono ?_); rintro e w1 ⟨rfl, rfl⟩))
    go_ret2
    exact ⟨rfl, Turned.refl _ _⟩
  rw [decide_eq_false q92] at h92
  have hsz := bs_size s
  by_cases h3 : s.length < 3
  · have he : esc s = none := by
      match s, h3 with
      | [], _ => rfl
      | [c], _ =>
        have c1 : c ≠ 34 := by simpa using q34
        have c2 : c ≠ 92 := by simpa using q92
        simp [esc, c1, c2]
      | [c, d], _ =>
        have c1 : c ≠ 34 := by simpa using q34
        have c2 : c ≠ 92 := by simpa using q92
        simp [esc, c1, c2]
    rw [he]
    show Calls _ _ _ _ fun e w' => e = .panicked [wrongE] ∧ Turned (fun _ => False) w w'
    have d1 : decide ((3 : Int) ≤ ((bs s).size : Int)) = false := by simp; omega
    have d2 : decide (3 ≤ (bs s).size) = false := by simp; omega
    clear he q34 q92 hs hL hsz h3
    generalize bs s = x at *
    go_enter Tryz.func87, Tryz.ntmps87
    go_wp2_with (first
      | (go_at_call 86; (with_reducible refine (h34 _).mono ?_); rintro e w1 ⟨rfl, rfl⟩)
      | (go_at_call 86; (with_reducible refine (h92 _).mono ?_); rintro e w1 ⟨rfl, rfl⟩))
    go_quiet (fail)
    go_wp2
    exact ⟨rfl, rfl, turned_drewN _ _⟩
  have d1 : decide ((3 : Int) ≤ ((bs s).size : Int)) = true := by simp; omega
  have d2 : decide (3 ≤ (bs s).size) = true := by simp; omega
  obtain ⟨c, a, b, r, rfl⟩ : ∃ c a b r, s = c :: a :: b :: r := by
    match s, h3 with
    | [], h => simp at h
    | [_], h => simp at h
    | [_, _], h => simp at h
    | c :: a :: b :: r, _ => exact ⟨c, a, b, r, rfl⟩
  have hx := ix_str (c :: a :: b :: r) 0 c rfl
  change ∀ W, (Instr.index 9 (.string (bs (c :: a :: b :: r))) (.int .i64 0)).run Tryz.prog W = .ok (.int .u8 (c.toNat : Nat)) W at hx
  have c1 : c ≠ 34 := by simpa using q34
  have c2 : c ≠ 92 := by simpa using q92
  by_cases hc : c = 120
  · subst hc
    change ∀ W, (Instr.index 9 (.string (bs (120 :: a :: b :: r))) (.int .i64 0)).run Tryz.prog W = .ok (.int .u8 120) W at hx
    have he : esc (120 :: a :: b :: r) = (match hexv a, hexv b with | some p, some q => some (16 * p + q, 3) | _, _ => none) := rfl
    rw [he]
    obtain ⟨k1, k2⟩ := hex_both a b
    have hsl := sl_mid 120 a b r
    have hlw : ∀ W, Lw w0 W → Calls Tryz.prog 100 #[.string (bs [a, b])] W fun e w' => e = .returned (.string (bs (Lib.toLowerD [a, b]))) ∧ Turned (fun _ => False) W w' := fun W hW => low_any [a, b] (by simp) w0 W hW
    have HLW : Hid (∀ W, Lw w0 W → Calls Tryz.prog 100 #[.string (bs [a, b])] W fun e w' => e = .returned (.string (bs (Lib.toLowerD [a, b]))) ∧ Turned (fun _ => False) W w') := hlw
    have HL : Hid (Lw w0 w) := hL
    have KS : Hid (∀ W, Turned (fun _ => False) w W → Turned (fun _ => False) w W) := fun _ t => t
    have V0 : Turned (fun _ => False) w w.drew := Turned.drew _ _
    by_cases hl : Lib.toLowerD [a, b] = [a, b]
    · rw [hl] at HLW
      have k1 := k1 hl
      clear hl k2 hlw hL he hs h3 hsz c1 c2 q34 q92
      cases hm : hexM 0 [a, b] with
      | none =>
        rw [hm] at k1
        have hn : (match hexv a, hexv b with | some p, some q => some (16 * p + q, 3) | _, _ => none) = (none : Option (UInt8 × Nat)) := by
          cases hpa : hexv a with
          | none => rfl
          | some p =>
            cases hpb : hexv b with
            | none => rfl
            | some q => rw [hpa, hpb] at k1; simp at k1
        rw [hn]
        show Calls _ _ _ _ fun e w' => e = .panicked [wrongE] ∧ Turned (fun _ => False) w w'
        have hpu : ∀ W, Lw w0 W → Calls Tryz.prog 101 #[.string (bs [a, b]), .int .i64 16, .int .i64 8] W fun e w' => (∃ n ty p, e = .returned (.tuple #[.int .u64 n, .iface ty p])) ∧ Turned (fun _ => False) W w' := fun W hW => pu_no [a, b] rfl hm w0 W hW
        have HPU : Hid (∀ W, Lw w0 W → Calls Tryz.prog 101 #[.string (bs [a, b]), .int .i64 16, .int .i64 8] W fun e w' => (∃ n ty p, e = .returned (.tuple #[.int .u64 n, .iface ty p])) ∧ Turned (fun _ => False) W w') := hpu
        clear hn k1 hm hpu
        generalize bs [a, b] = y at *
        generalize bs (120 :: a :: b :: r) = x at *
        go_enter Tryz.func87, Tryz.ntmps87
        go_wp2_with (first
          | (go_at_call 86; (with_reducible refine (h34 _).mono ?_); rintro e w ⟨rfl, rfl⟩)
          | (go_at_call 86; (with_reducible refine (h92 _).mono ?_); rintro e w ⟨rfl, rfl⟩))
        go_region_held3 (fun W => Turned (fun _ => False) w W)
          (first | (exact KS.out _ (by assumption)) | go_keep)
          (first | (go_at_call 100; (with_reducible refine (HLW.out _ (HL.out.turned0 V0)).mono ?_); rintro e v1 ⟨rfl, hv⟩; have V1 : Turned (fun _ => False) w v1 := V0.trans hv (fun _ _ q => q); clear hv))
        have h101 := HPU.out v1 (HL.out.turned0 V1)
        go_wp2_with (go_at_call 101; (with_reducible refine h101.mono ?_); rintro e w2 ⟨⟨n, ty, p, rfl⟩, ht2⟩)
        exact ⟨rfl, rfl, V1.trans ht2 fun _ _ q => q⟩
      | some v =>
        rw [hm] at k1
        obtain ⟨p, q, hp, hq, hv⟩ : ∃ p q, hexv a = some p ∧ hexv b = some q ∧ v = (16 * p + q).toNat := by
          cases hpa : hexv a with
          | none => rw [hpa] at k1; simp at k1
          | some p =>
            cases hpb : hexv b with
            | none => rw [hpa, hpb] at k1; simp at k1
            | some q => rw [hpa, hpb] at k1; simp at k1; exact ⟨p, q, rfl, rfl, by simpa using k1⟩
        rw [hp, hq]
        show Calls _ _ _ _ fun e w' => e = .returned (.tuple #[.int .u8 ((16 * p + q).toNat : Nat), .int .i64 3]) ∧ Turned (fun _ => False) w w'
        rw [← hv]
        have hv8 : v < 256 := by rw [hv]; exact UInt8.toNat_lt _
        have hwr : IntKind.u8.wrap (v : Int) = (v : Int) := Go.IntWalk.u8_in _ (by omega)
        have hpu : ∀ W, Calls Tryz.prog 101 #[.string (bs [a, b]), .int .i64 16, .int .i64 8] W fun e w' => e = .returned (.tuple #[.int .u64 (v : Nat), .nilIface]) ∧ Turned (fun _ => False) W w' := fun W => pu_ok [a, b] rfl v hm W
        clear k1 hm hv hp hq hv8
        generalize bs [a, b] = y at *
        generalize bs (120 :: a :: b :: r) = x at *
        go_enter Tryz.func87, Tryz.ntmps87
        go_wp2_with (first
          | (go_at_call 86; (with_reducible refine (h34 _).mono ?_); rintro e w ⟨rfl, rfl⟩)
          | (go_at_call 86; (with_reducible refine (h92 _).mono ?_); rintro e w ⟨rfl, rfl⟩))
        go_region_held3 (fun W => Turned (fun _ => False) w W)
          (first | (exact KS.out _ (by assumption)) | go_keep)
          (first | (go_at_call 100; (with_reducible refine (HLW.out _ (HL.out.turned0 V0)).mono ?_); rintro e v1 ⟨rfl, hv⟩; have V1 : Turned (fun _ => False) w v1 := V0.trans hv (fun _ _ q => q); clear hv))
        go_wp2_with (go_at_call 101; (with_reducible refine (hpu _).mono ?_); rintro e w2 ⟨rfl, ht2⟩)
        go_ret2
        exact ⟨rfl, V1.trans ht2 fun _ _ q => q⟩
    · have k2 := k2 hl
      have hn : (match hexv a, hexv b with | some p, some q => some (16 * p + q, 3) | _, _ => none) = (none : Option (UInt8 × Nat)) := by
        cases hpa : hexv a with
        | none => rfl
        | some p =>
          cases hpb : hexv b with
          | none => rfl
          | some q => rw [hpa, hpb] at k2; simp at k2
      rw [hn]
      show Calls _ _ _ _ fun e w' => e = .panicked [wrongE] ∧ Turned (fun _ => False) w w'
      have hne := ba_ne2 (bs [a, b]) (bs (Lib.toLowerD [a, b])) (fun q => hl (bs_inj q).symm)
      clear hl k2 k1 hlw hL he hs h3 hsz c1 c2 q34 q92 hn
      generalize bs (Lib.toLowerD [a, b]) = z at *
      generalize bs [a, b] = y at *
      generalize bs (120 :: a :: b :: r) = x at *
      go_enter Tryz.func87, Tryz.ntmps87
      go_wp2_with (first
        | (go_at_call 86; (with_reducible refine (h34 _).mono ?_); rintro e w ⟨rfl, rfl⟩)
        | (go_at_call 86; (with_reducible refine (h92 _).mono ?_); rintro e w ⟨rfl, rfl⟩))
      go_region_held3 (fun W => Turned (fun _ => False) w W)
        (first | (exact KS.out _ (by assumption)) | go_keep)
        (first | (go_at_call 100; (with_reducible refine (HLW.out _ (HL.out.turned0 V0)).mono ?_); rintro e v1 ⟨rfl, hv⟩; have V1 : Turned (fun _ => False) w v1 := V0.trans hv (fun _ _ q => q); clear hv))
      go_wp2
      exact ⟨rfl, rfl, V1⟩
  · have he : esc (c :: a :: b :: r) = none := by simp [esc, c1, c2, hc]
    rw [he]
    show Calls _ _ _ _ fun e w' => e = .panicked [wrongE] ∧ Turned (fun _ => False) w w'
    have hcn : c.toNat ≠ 120 := fun q => hc (UInt8.toNat_inj.1 q)
    have d3 : ((c.toNat : Int) == 120) = false := by simp; omega
    generalize c.toNat = m at *
    clear he q34 q92 hs hL hsz h3 c1 c2 hc hcn
    generalize bs (c :: a :: b :: r) = x at *
    go_enter Tryz.func87, Tryz.ntmps87
    go_wp2_with (first
      | (go_at_call 86; (with_reducible refine (h34 _).mono ?_); rintro e w1 ⟨rfl, rfl⟩)
      | (go_at_call 86; (with_reducible refine (h92 _).mono ?_); rintro e w1 ⟨rfl, rfl⟩))
    go_quiet (fail)
    go_wp2
    exact ⟨rfl, rfl, turned_drewN _ _⟩
end Go.Proofs.YteblabpplaaddaaGreatDoor

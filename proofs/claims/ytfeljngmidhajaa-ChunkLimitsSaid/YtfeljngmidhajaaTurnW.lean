/- ChunkTurned: the plain law and the walk. -/
import Derived.Test.YtfeljngmidhajaaTurnp
import Derived.Test.YtfeljngmidhajaaParseW
import Derived.Test.YtfeljngmidhajaaHolds
import Derived.Laws.BitsAllLaws
namespace Go.Proofs.Ytfeljngmidhajaa
open Go.RowKit Go.Mine

theorem built_size (l : List Ch) : (built l).size = 10 + 8 * l.length + dataSize l := by
  unfold built
  rw [sealed_size, ba_size]
  have h1 : (sortCh l).length = l.length := sortCh_length l
  have h2 : dataSize (sortCh l) = dataSize l := dataSize_perm (sortCh_perm l)
  simp only [bodyCh, magicC, List.length_append, List.length_cons, List.length_nil, num_length, tableCh_length, dataCh_length]
  omega
theorem built_front (l : List Ch) : (built l).data.toList.take 5 = magicC := by
  unfold built sealed bodyCh
  simp [magicC]

theorem parse_turned (l : List Ch) (hb : buildErr l = 0) (k : Nat) (z : UInt8) (hk : k < (built l).size) (hz : (built l).data.toList[k]? ≠ some z) :
    parseR (setB (built l) k z) = .error (if k < 5 then 3 else 4) := by
  have h3 := ((buildErr_iff l).1 hb).2.2
  have hs := built_size l
  have hss := setB_size (built l) k z
  unfold parseR
  rw [if_neg (by omega), if_neg (by omega)]
  have hf := built_front l
  have hx : ((setB (built l) k z).extract 0 5).data.toList = (magicC).set k z := by
    rw [toList_extract, List.drop_zero, Nat.sub_zero, setB_list, List.take_set, hf]
  by_cases h5 : k < 5
  · rw [if_pos h5, if_pos]
    intro q
    rw [q] at hx
    have h6 : magicC[k]? = some z := by
      have h7 : (magicC.set k z)[k]? = some z := by rw [List.getElem?_set_self (by simpa [magicC] using h5)]
      rw [← hx] at h7
      exact h7
    apply hz
    rw [← h6, ← hf, List.getElem?_take, if_pos h5]
  · rw [if_neg h5, if_neg, if_pos]
    · have hne := turned_not_sealed ⟨(bodyCh (sortCh l)).toArray⟩ k z hk hz
      intro q
      exact hne ((sealed_iff (setB (built l) k z) (by omega)).2 q)
    · simp only [ne_eq, Decidable.not_not]
      apply ext_listT
      rw [hx, List.set_eq_of_length_le (by simp [magicC]; omega)]
      rfl

theorem back_set {w : World} {g cap : Nat} {s : ByteArray} {cur : Array Value} {f : Nat × Nat} (hcur : w.heap[g]? = some (.cells cur 5 f)) (hcell : ∀ (j x : Nat), (nums s)[j]? = some x → w.cell? ⟨g, j, none⟩ = some (.int .u8 (x : Nat))) (k : Nat) (z : UInt8) (hk : k < s.size) :
    (convert 51 9 (.slice (some ⟨g, 0, none⟩) s.size cap)).run Try.prog (w.setCell ⟨g, k, none⟩ (.int .u8 (z.toNat : Nat))) = .ok (.string (setB s k z)) (w.setCell ⟨g, k, none⟩ (.int .u8 (z.toNat : Nat))) := by
  have hl : (s.data.toList.set k z).length = s.size := by simp
  have := run_convert_bytes_back (P := Try.prog) (w.setCell ⟨g, k, none⟩ (.int .u8 (z.toNat : Nat))) 51 9 5 ⟨g, 0, none⟩ cap (s.data.toList.set k z) Try.underlying51 Try.underlying5 Try.underlying9 (fun j hj => by
    rw [Addr.add_lit, Nat.zero_add]
    have hj2 : j < s.size := by rw [hl] at hj; exact hj
    have hb := Go.Mine.heap_setCell_same (o := k) hcur (.int .u8 (z.toNat : Nat))
    refine cell_of hb j _ ?_
    have hn : (nums s)[j]? = some (s.data.toList[j]'(by simpa using hj2)).toNat := by
      unfold nums; rw [List.getElem?_map, List.getElem?_eq_getElem (by simpa using hj2)]; rfl
    have hc := hcell j _ hn
    simp only [World.cell?, hcur] at hc
    have hjc : j < cur.size := by
      have := (Array.getElem?_eq_some_iff.1 hc).1; exact this
    rw [Array.getElem?_setIfInBounds]
    by_cases hkj : k = j
    · subst hkj
      rw [if_pos rfl, if_pos hjc]
      simp
    · have hc2 : cur[j]? = some (.int .u8 ((s.data.toList[j]'(by simpa using hj2)).toNat : Nat)) := hc
      rw [if_neg hkj, hc2]
      simp [List.getElem_set, hkj])
  rw [hl] at this
  exact this

set_option maxRecDepth 100000 in
set_option maxHeartbeats 4000000 in
theorem turned_law (a : Option Addr) (cap : Nat) (l : List Ch) (at_ bit : Nat) (w : World) (h : ChIs w a cap l) (hat : at_ < 65536) (hbit : bit < 256) :
    Calls Try.prog 7 #[.slice a l.length cap, .int .u16 at_, .int .u8 bit] w fun e w' => e = .returned (.bool true) ∧ Turned (fun _ => False) w w' := by
  have hh := holds_any w
  have HC : Hid (ChIs w a cap l) := h
  have hB := fun W (ht : Turned (fun _ => False) w W) => build_any a cap l W (h.turned ht)
  by_cases hbe : buildErr l = 0
  · have hbv : buildV l = .tuple #[.string (built l), .int .i64 0] := by unfold buildV; rw [hbe]; rfl
    rw [hbv] at hB
    have hsz := built_size l
    have hlim := ((buildErr_iff l).1 hbe).2.2
    have hpt := parse_turned l hbe
    generalize built l = s at *
    generalize l.length = L at *
    have FB : Hid (∀ W, Turned (fun _ => False) w W → Calls Try.prog 17 #[.slice a L cap] W fun e w' => e = .returned (.tuple #[.string s, .int .i64 0]) ∧ Turned (fun _ => False) W w') := hB
    obtain ⟨k, hk⟩ : ∃ k, k = at_ % s.size := ⟨_, rfl⟩
    have hkl : k < s.size := by rw [hk]; exact Nat.mod_lt _ (by omega)
    have hmod : (at_ : Int) % (s.size : Int) = (k : Int) := by rw [hk]; simp
    obtain ⟨x, hx⟩ : ∃ x, s.data.toList[k]? = some x := ⟨_, List.getElem?_eq_getElem (by simpa using hkl)⟩
    have HSZ : Hid (10 ≤ s.size ∧ s.size ≤ 4194304) := (by omega : 10 ≤ s.size ∧ s.size ≤ 4194304)
    have HX : Hid (s.data.toList[k]? = some x) := hx
    have HPT : Hid (∀ (k : Nat) (z : UInt8), k < s.size → s.data.toList[k]? ≠ some z → parseR (setB s k z) = .error (if k < 5 then 3 else 4)) := hpt
    have HBT : Hid (bit < 256) := hbit
    clear hB hbv hk hx hpt hsz hlim hbe h hbit
    obtain ⟨y, hy⟩ : ∃ y : Nat, y = 2 ^ (bit % 8) := ⟨_, rfl⟩
    have hy1 : 0 < y := by rw [hy]; exact Nat.pow_pos (by decide)
    have hy2 : y < 256 := by rw [hy]; exact Nat.lt_of_le_of_lt (Nat.pow_le_pow_right (n := 2) (by decide) (show bit % 8 ≤ 7 by omega)) (by decide)
    obtain ⟨z, hz⟩ : ∃ z : UInt8, z = UInt8.ofNat (x.toNat ^^^ y) := ⟨_, rfl⟩
    have hx256 := x.toNat_lt
    have hzn : z.toNat = x.toNat ^^^ y := by
      rw [hz, UInt8.toNat_ofNat']
      exact Nat.mod_eq_of_lt (Nat.xor_lt_two_pow (n := 8) (by omega) (by omega))
    have hzx : x ≠ z := by
      intro q
      rw [← q] at hzn
      have : x.toNat ^^^ (x.toNat ^^^ y) = y := by rw [← Nat.xor_assoc, Nat.xor_self, Nat.zero_xor]
      rw [← hzn, Nat.xor_self] at this
      omega
    have hxor : bits .xor .u8 (x.toNat : Int) ((2 : Int) ^ (bit % 8) % 256) = (z.toNat : Int) := by
      have e1 : (2 : Int) ^ (bit % 8) % 256 = ((y : Nat) : Int) := by
        have : (2 : Int) ^ (bit % 8) = ((y : Nat) : Int) := by rw [hy]; simp
        rw [this]; omega
      rw [e1, u8_xor_nat _ _ (by omega) hy2, hzn]
    have hps : ∀ W, Calls Try.prog 29 #[.string (setB s k z)] W fun e w' => Turned (fun _ => False) W w' ∧ e = .returned (.tuple #[.slice none 0 0, .int .i64 ((if k < 5 then 3 else 4 : Nat) : Nat)]) := fun W => by
      have := parse_any (setB s k z) W (by rw [setB_size]; have := HSZ.out; omega)
      rw [HPT.out k z hkl (by rw [HX.out]; simpa using hzx)] at this
      exact this
    have hpe : ∀ W, Calls Try.prog 29 #[.string (s.extract 0 (at_ % 10))] W fun e w' => Turned (fun _ => False) W w' ∧ e = .returned (.tuple #[.slice none 0 0, .int .i64 2]) := fun W => by
      have hz2 : (s.extract 0 (at_ % 10)).size = at_ % 10 := by rw [ByteArray.size_extract]; have := HSZ.out; omega
      have := parse_any (s.extract 0 (at_ % 10)) W (by omega)
      have hR : parseR (s.extract 0 (at_ % 10)) = .error 2 := by unfold parseR; rw [if_neg (by omega), if_pos (by omega)]
      rw [hR] at this
      exact this
    have hsl : ∀ W, (Instr.slice 9 (.string s) none (some (.int .i64 ((at_ : Int) % 10))) none).run Try.prog W = .ok (.string (s.extract 0 (at_ % 10))) W := fun W => by
      have := run_slice_string_h (P := Try.prog) W 9 s Try.underlying9 .i64 ((at_ % 10 : Nat) : Int) (by omega) (by have := HSZ.out; omega)
      rw [Int.toNat_natCast] at this
      exact this
    generalize s.extract 0 (at_ % 10) = s10 at *
    have HKL : Hid (k < s.size) := hkl
    have HPS : Hid (∀ W, Calls Try.prog 29 #[.string (setB s k z)] W fun e w' => Turned (fun _ => False) W w' ∧ e = .returned (.tuple #[.slice none 0 0, .int .i64 ((if k < 5 then 3 else 4 : Nat) : Nat)])) := hps
    have HPE : Hid (∀ W, Calls Try.prog 29 #[.string s10] W fun e w' => Turned (fun _ => False) W w' ∧ e = .returned (.tuple #[.slice none 0 0, .int .i64 2])) := hpe
    clear hy hy1 hy2 hz hzn hzx hx256 hps hpe
    by_cases hk5 : k < 5
    · have hps := HPS.out
      rw [if_pos hk5] at hps
      have PS : Hid (∀ W, Calls Try.prog 29 #[.string (setB s k z)] W fun e w' => Turned (fun _ => False) W w' ∧ e = .returned (.tuple #[.slice none 0 0, .int .i64 3])) := hps
      have hd5 : decide ((k : Int) < 5) = true := by simp; omega
      have hd6 : decide (k < 5) = true := by simp; omega
      clear hps HPS hk5
      go_enter Try.func7, Try.ntmps7
      go_wp2_with (first
        | (go_at_call 15; (with_reducible refine hh.mono ?_); rintro e w1 ⟨rfl, ht1⟩; have T1 : Hid (Turned (fun _ => False) w w1) := ht1; have h17 := FB.out w1 ht1; clear ht1)
        | (go_at_call 17; (with_reducible refine h17.mono ?_); rintro e w2 ⟨rfl, ht2⟩; obtain ⟨cap3, w3, hconv, ht3, hlt3, hcap3, hcell, hfrz, cur, hcur, hcsz⟩ := bytes_of w2 s; have c0 : w3.cell? ⟨w2.heap.size, k, none⟩ = some (.int .u8 (x.toNat : Nat)) := (hcell k x.toNat (by simp [nums, HX.out])); have f0 := hfrz k hkl; have hback := back_set (cap := cap3) hcur hcell k z HKL.out; have T3 : Hid (Turned (fun _ => False) w (w3.setCell ⟨w2.heap.size, k, none⟩ (.int .u8 (z.toNat : Nat)))) := ((T1.out.trans ht2 (fun _ _ q => q)).trans ht3 (fun _ _ q => q)).comp (Turned.setCell (S := (· = w2.heap.size)) (p := ⟨w2.heap.size, k, none⟩) rfl _) (fun i hi q => q.elim (fun q => q) fun q => by have := T1.out.size; have := ht2.size; omega); have h29 := PS.out (w3.setCell ⟨w2.heap.size, k, none⟩ (.int .u8 (z.toNat : Nat))); clear ht2 ht3 hcell hfrz h17 hcur)
        | (go_at_call 29; (with_reducible refine h29.mono ?_); rintro e w4 ⟨ht4, rfl⟩; have T4 : Hid (Turned (fun _ => False) w w4) := T3.out.trans ht4 (fun _ _ q => q); have h29b := HPE.out w4; clear ht4 h29)
        | (go_at_call 29; (with_reducible refine h29b.mono ?_); rintro e w5 ⟨ht5, rfl⟩))
      go_ret
      exact ⟨rfl, T4.out.trans ht5 fun _ _ q => q⟩
    · have hps := HPS.out
      rw [if_neg hk5] at hps
      have PS : Hid (∀ W, Calls Try.prog 29 #[.string (setB s k z)] W fun e w' => Turned (fun _ => False) W w' ∧ e = .returned (.tuple #[.slice none 0 0, .int .i64 4])) := hps
      have hd5 : decide ((k : Int) < 5) = false := by simp; omega
      have hd6 : decide (k < 5) = false := by simp; omega
      clear hps HPS hk5
      go_enter Try.func7, Try.ntmps7
      go_wp2_with (first
        | (go_at_call 15; (with_reducible refine hh.mono ?_); rintro e w1 ⟨rfl, ht1⟩; have T1 : Hid (Turned (fun _ => False) w w1) := ht1; have h17 := FB.out w1 ht1; clear ht1)
        | (go_at_call 17; (with_reducible refine h17.mono ?_); rintro e w2 ⟨rfl, ht2⟩; obtain ⟨cap3, w3, hconv, ht3, hlt3, hcap3, hcell, hfrz, cur, hcur, hcsz⟩ := bytes_of w2 s; have c0 : w3.cell? ⟨w2.heap.size, k, none⟩ = some (.int .u8 (x.toNat : Nat)) := (hcell k x.toNat (by simp [nums, HX.out])); have f0 := hfrz k hkl; have hback := back_set (cap := cap3) hcur hcell k z HKL.out; have T3 : Hid (Turned (fun _ => False) w (w3.setCell ⟨w2.heap.size, k, none⟩ (.int .u8 (z.toNat : Nat)))) := ((T1.out.trans ht2 (fun _ _ q => q)).trans ht3 (fun _ _ q => q)).comp (Turned.setCell (S := (· = w2.heap.size)) (p := ⟨w2.heap.size, k, none⟩) rfl _) (fun i hi q => q.elim (fun q => q) fun q => by have := T1.out.size; have := ht2.size; omega); have h29 := PS.out (w3.setCell ⟨w2.heap.size, k, none⟩ (.int .u8 (z.toNat : Nat))); clear ht2 ht3 hcell hfrz h17 hcur)
        | (go_at_call 29; (with_reducible refine h29.mono ?_); rintro e w4 ⟨ht4, rfl⟩; have T4 : Hid (Turned (fun _ => False) w w4) := T3.out.trans ht4 (fun _ _ q => q); have h29b := HPE.out w4; clear ht4 h29)
        | (go_at_call 29; (with_reducible refine h29b.mono ?_); rintro e w5 ⟨ht5, rfl⟩))
      go_ret
      exact ⟨rfl, T4.out.trans ht5 fun _ _ q => q⟩
  · have hbv : buildV l = .tuple #[.string ⟨#[]⟩, .int .i64 (buildErr l : Nat)] := by unfold buildV; rw [if_neg hbe]
    rw [hbv] at hB
    generalize buildErr l = be at *
    generalize l.length = L at *
    have FB : Hid (∀ W, Turned (fun _ => False) w W → Calls Try.prog 17 #[.slice a L cap] W fun e w' => e = .returned (.tuple #[.string ⟨#[]⟩, .int .i64 (be : Nat)]) ∧ Turned (fun _ => False) W w') := hB
    have hd5 : ((be : Int) == 0) = false := by simp; omega
    clear hB hbv h hbe
    go_enter Try.func7, Try.ntmps7
    go_wp2_with (first
      | (go_at_call 15; (with_reducible refine hh.mono ?_); rintro e w1 ⟨rfl, ht1⟩; have T1 : Hid (Turned (fun _ => False) w w1) := ht1; have h17 := FB.out w1 ht1; clear ht1)
      | (go_at_call 17; (with_reducible refine h17.mono ?_); rintro e w2 ⟨rfl, ht2⟩))
    go_ret
    exact ⟨rfl, T1.out.trans ht2 fun _ _ q => q⟩
end Go.Proofs.Ytfeljngmidhajaa

/- The document's Build: the walk. -/
import Derived.Test.YtfeljngmidhajaaBuildW
import Derived.Test.YtfeljngmidhajaaSortedW
import Derived.Deep.RegionWith
namespace Go.Proofs.Ytfeljngmidhajaa
open Go.RowKit Go.Mine

def R1 (w : World) (l : List Ch) (g : Nat) (sz i : Value) (wr : World) : Prop :=
  ∃ j : Nat, j + g = l.length ∧ i = .int .i64 j ∧ sz = .int .i64 ((10 + 8 * l.length + dataSize (l.take j) : Nat) : Int) ∧ checkCh [] l = checkCh (l.take j) (l.drop j) ∧ Turned (fun _ => False) w wr
def R2 (w : World) (l : List Ch) (j id : Nat) (g : Nat) (k : Value) (wr : World) : Prop :=
  ∃ t : Nat, t + g = j ∧ k = .int .i64 t ∧ (∀ (q : Nat) (d : Ch), q < t → l[q]? = some d → d.1 ≠ id) ∧ Turned (fun _ => False) w wr
def R3 (w : World) (L : Nat) (pre : List UInt8) (f : Nat → List UInt8) (g : Nat) (s i : Value) (wr : World) : Prop :=
  ∃ j : Nat, j + g = L ∧ i = .int .i64 j ∧ s = .string ⟨(pre ++ f j).toArray⟩ ∧ Turned (fun _ => False) w wr

theorem ba_append (a b : List UInt8) : (⟨a.toArray⟩ : ByteArray) ++ ⟨b.toArray⟩ = ⟨(a ++ b).toArray⟩ := by
  apply ByteArray.ext
  simp
theorem ba_size (a : List UInt8) : (⟨a.toArray⟩ : ByteArray).size = a.length := by simp [ByteArray.size]
/-- two texts put together -/
theorem add_ba (a b : List UInt8) (h : a.length + b.length ≤ 4611686018427387904) (W : World) : (Op.stringOp .add ⟨a.toArray⟩ ⟨b.toArray⟩).run Try.prog W = .ok (.string ⟨(a ++ b).toArray⟩) W := by
  rw [← ba_append]
  exact run_string_add_sum W _ _ (by rw [ba_size, ba_size]; omega)

set_option maxRecDepth 100000 in
set_option maxHeartbeats 4000000 in
theorem rbuild_any (a : Option Addr) (cap : Nat) (l : List Ch) (w : World) (h : ChIs w a cap l) :
    Calls Try.prog 18 #[.slice a l.length cap] w fun e w' => e = .returned (buildV l) ∧ Turned (fun _ => False) w w' := by
  have H : Hid (ChIs w a cap l) := h
  obtain ⟨L, hL⟩ : ∃ L, L = l.length := ⟨_, rfl⟩
  have HL : Hid (L = l.length) := hL
  by_cases h16 : 16 < L
  · have HB : Hid (buildV l = .tuple #[.string ⟨#[]⟩, .int .i64 5]) := by
      have : buildErr l = 5 := by unfold buildErr; rw [if_pos (by omega)]
      show buildV l = _
      unfold buildV
      rw [this]; rfl
    rw [← hL]
    clear h hL
    go_enter Try.func18, Try.ntmps18
    go_wp2
    go_ret2
    exact ⟨by rw [HB.out]; rfl, Turned.refl _ _⟩
  · have hds : ∀ j, dataSize (l.take j) ≤ 16 * 140737488355328 := fun j => by
      have h1 := dataSize_le (l.take j) fun c hc => h.2.2.1 c (List.mem_of_mem_take hc)
      have h2 : (l.take j).length ≤ 16 := by simp; omega
      exact Nat.le_trans h1 (Nat.mul_le_mul_right _ h2)
    have DS : Hid (∀ j, dataSize (l.take j) ≤ 16 * 140737488355328) := hds
    have H16 : Hid (L ≤ 16) := (by omega : L ≤ 16)
    have HS : Hid (R1 w l L (.int .i64 (10 + 8 * (L : Int))) (.int .i64 0) w) := ⟨0, by omega, rfl, by rw [← hL]; simp [dataSize], rfl, Turned.refl _ _⟩
    rw [← hL]
    clear h hL hds
    go_enter Try.func18, Try.ntmps18
    go_wp2
    go_loopg [4, 5] L (fun g sz i wr => R1 w l g sz i wr)
    case atStart => exact HS.out
    case round =>
      obtain ⟨j, hjg, rfl, rfl, hck, ht⟩ := hrel
      have T : Hid (Turned (fun _ => False) w wr) := ht
      have G : Hid (j + gk = l.length) := hjg
      have CK : Hid (checkCh [] l = checkCh (l.take j) (l.drop j)) := hck
      clear hjg hck ht HS
      by_cases hlt : j < L
      · obtain ⟨c, hc⟩ : ∃ c, l[j]? = some c := ⟨_, List.getElem?_eq_getElem (by rw [← HL.out]; exact hlt)⟩
        obtain ⟨b, off, rfl, hbw, c0, c1⟩ := chIs_any (H.out.turned T.out) j c hc
        have hj2 := (List.getElem?_eq_some_iff.1 hc).1
        have hcj : c = l[j] := (List.getElem?_eq_some_iff.1 hc).2.symm
        have hdr : l.drop j = c :: l.drop (j + 1) := by rw [List.drop_eq_getElem_cons hj2, hcj]
        have hckk := CK.out
        rw [hdr, checkCh] at hckk
        have DR : Hid (l[j]? = some c ∧ c ∈ l) := ⟨hc, List.mem_of_getElem? hc⟩
        have hsz := DS.out (j + 1)
        have hds := dataSize_take l j c hc
        clear hc hj2 hcj hdr
        by_cases h0 : c.1 = 0
        · rw [if_pos h0] at hckk
          have HB : Hid (buildV l = .tuple #[.string ⟨#[]⟩, .int .i64 1]) := by
            have : buildErr l = 1 := by
              unfold buildErr
              rw [if_neg (by have := H16.out; have := HL.out; omega), if_pos (by omega), hckk]
            show buildV l = _
            unfold buildV
            rw [this]; rfl
          have hd : ((c.1 : Int) == 0) = true := by simp; omega
          clear hckk h0 hsz hds
          go_wp2
          go_ret2
          exact ⟨by rw [HB.out]; rfl, T.out⟩
        · rw [if_neg h0] at hckk
          have hd : ((c.1 : Int) == 0) = false := by simp; omega
          have HCK : Hid (checkCh [] l = if hasCh (l.take j) c.1 = true then 11 else checkCh (l.take j ++ [c]) (l.drop (j + 1))) := hckk
          have hwz : wrap64 (((10 + 8 * l.length + dataSize (l.take j) : Nat) : Int) + (c.2.size : Int)) = ((10 + 8 * l.length + dataSize (l.take (j + 1)) : Nat) : Int) := by
            have := H16.out; have := HL.out
            rw [hds] at hsz ⊢
            simp only [wrap64]; omega
          have HZ : Hid (wrap64 (((10 + 8 * l.length + dataSize (l.take j) : Nat) : Int) + (c.2.size : Int)) = ((10 + 8 * l.length + dataSize (l.take (j + 1)) : Nat) : Int)) := hwz
          have C01 : Hid (wr.cell? ⟨b, off + j * 2, none⟩ = some (.int .u32 (c.1 : Nat)) ∧ wr.cell? ⟨b, off + j * 2 + 1, none⟩ = some (.string c.2)) := ⟨c0, c1⟩
          clear hckk hwz hsz hds h0
          generalize 10 + 8 * l.length + dataSize (l.take j) = sz at *
          go_wp2
          obtain ⟨wo, rfl⟩ : ∃ x : World, x = wr := ⟨wr, rfl⟩
          clear c0 c1
          go_loopg [6] j (fun g k wr => R2 wo l j c.1 g k wr)
          case atStart => exact ⟨0, Nat.zero_add _, rfl, fun q d hq => by omega, Turned.refl _ _⟩
          case round =>
            obtain ⟨t, htg, rfl, hno, htq⟩ := hrel
            have TQ : Hid (Turned (fun _ => False) wo wr) := htq
            have GT : Hid (t + gk = j) := htg
            have NO : Hid (∀ (q : Nat) (d : Ch), q < t → l[q]? = some d → d.1 ≠ c.1) := hno
            have c0' : wr.cell? ⟨b, off + j * 2, none⟩ = some (.int .u32 (c.1 : Nat)) := by rw [World.cell?_of_block (w' := wr) (TQ.out.block b hbw fun q => q)]; exact C01.out.1
            have c1' : wr.cell? ⟨b, off + j * 2 + 1, none⟩ = some (.string c.2) := by rw [World.cell?_of_block (w' := wr) (TQ.out.block b hbw fun q => q)]; exact C01.out.2
            have hbr : b < wr.heap.size := Nat.lt_of_lt_of_le hbw TQ.out.size
            clear htq htg hno
            by_cases htj : t < j
            · obtain ⟨d, hd2⟩ : ∃ d, l[t]? = some d := ⟨_, List.getElem?_eq_getElem (by rw [← HL.out]; omega)⟩
              obtain ⟨b2, off2, hbb, -, d0, -⟩ := chIs_any ((H.out.turned T.out).turned TQ.out) t d hd2
              injection hbb with hbb
              injection hbb with e1 e2
              subst e1
              subst e2
              have D : Hid (l[t]? = some d) := hd2
              clear hd2
              by_cases hdd : d.1 = c.1
              · have hq : ((d.1 : Int) == (c.1 : Int)) = true := by simp; omega
                have hh : hasCh (l.take j) c.1 = true := by
                  unfold hasCh
                  rw [List.any_eq_true]
                  refine ⟨d, ?_, by simpa using hdd⟩
                  refine List.mem_of_getElem? (i := t) ?_
                  rw [List.getElem?_take, if_pos htj, D.out]
                have HB : Hid (buildV l = .tuple #[.string ⟨#[]⟩, .int .i64 11]) := by
                  have hckk := HCK.out
                  rw [if_pos hh] at hckk
                  have : buildErr l = 11 := by
                    unfold buildErr
                    rw [if_neg (by have := H16.out; have := HL.out; omega), if_pos (by omega), hckk]
                  show buildV l = _
                  unfold buildV
                  rw [this]; rfl
                clear hh hdd
                go_wp2
                go_region
                all_goals go_wp2
                all_goals go_ret2
                all_goals exact ⟨by rw [HB.out]; rfl, (T.out.trans TQ.out fun _ _ q => q).draw⟩
              · have hq : ((d.1 : Int) == (c.1 : Int)) = false := by simp; omega
                have HDD : Hid (d.1 ≠ c.1) := hdd
                clear hdd
                go_wp2
                go_region
                all_goals go_wp2
                all_goals
                  go_roundg (gk - 1)
                  case measure => have := GT.out; omega
                  case rel =>
                    refine ⟨t + 1, by have := GT.out; omega, by simp, fun q e hq he => ?_, TQ.out.draw⟩
                    rcases Nat.lt_or_eq_of_le (Nat.le_of_lt_succ hq) with z | z
                    · exact NO.out q e z he
                    · rw [z, D.out] at he; obtain rfl := Option.some.inj he; exact HDD.out
            · have ht : t = j := by have := GT.out; omega
              have hh : ¬ hasCh (l.take j) c.1 = true := by
                intro q
                unfold hasCh at q
                rw [List.any_eq_true] at q
                obtain ⟨d, hd1, hd2⟩ := q
                obtain ⟨i, hi⟩ := List.getElem?_of_mem hd1
                rw [List.getElem?_take] at hi
                split at hi
                · exact NO.out i d (by omega) hi (by simpa using hd2)
                · simp at hi
              have hck2 : checkCh [] l = checkCh (l.take (j + 1)) (l.drop (j + 1)) := by
                have := HCK.out
                rw [if_neg hh] at this
                rw [this, List.take_add_one, DR.out.1]; rfl
              have CK2 : Hid (checkCh [] l = checkCh (l.take (j + 1)) (l.drop (j + 1))) := hck2
              subst ht
              clear hh hck2
              go_wp2
              go_roundg (l.length - t - 1)
              case measure => have := G.out; have := HL.out; omega
              case rel => exact ⟨t + 1, by have := G.out; have := HL.out; omega, by simp, by rw [HZ.out], CK2.out, T.out.trans TQ.out fun _ _ q => q⟩
      · have hj : j = L := by have := G.out; have := HL.out; omega
        subst hj
        have htl : l.take j = l := List.take_of_length_le (by have := HL.out; omega)
        have hck0 : checkCh [] l = 0 := by rw [CK.out, List.drop_of_length_le (by have := HL.out; omega)]; rfl
        rw [htl]
        obtain ⟨N, hN⟩ : ∃ N, N = 10 + 8 * l.length + dataSize l := ⟨_, rfl⟩
        have HN : Hid (N = 10 + 8 * l.length + dataSize l) := hN
        have HK : Hid (checkCh [] l = 0) := hck0
        rw [← hN]
        clear hN hck0 htl hlt
        by_cases hbig : 4194304 < N
        · have hd : decide ((4194304 : Int) < (N : Int)) = true := by simp; omega
          have hd2 : decide (4194304 < N) = true := by simp; omega
          have HB : Hid (buildV l = .tuple #[.string ⟨#[]⟩, .int .i64 5]) := by
            have : buildErr l = 5 := by
              unfold buildErr
              rw [if_neg (by have := H16.out; have := HL.out; omega), if_neg (by rw [HK.out]; simp), if_pos (by have := HN.out; omega)]
            show buildV l = _
            unfold buildV
            rw [this]; rfl
          clear hbig
          go_wp2
          go_ret2
          exact ⟨by rw [HB.out]; rfl, T.out⟩
        · have hd : decide ((4194304 : Int) < (N : Int)) = false := by simp; omega
          have hd2 : decide (4194304 < N) = false := by simp; omega
          have HB : Hid (buildV l = .tuple #[.string (built l), .int .i64 0]) := by
            have : buildErr l = 0 := by
              unfold buildErr
              rw [if_neg (by have := H16.out; have := HL.out; omega), if_neg (by rw [HK.out]; simp), if_neg (by have := HN.out; omega)]
            show buildV l = _
            unfold buildV
            rw [this]; rfl
          have HD : Hid (dataSize l ≤ 4194304) := (by have := HN.out; omega : dataSize l ≤ 4194304)
          clear hbig
          have hcl := sorted_any a cap l wr (H.out.turned T.out) (by have := H16.out; have := HL.out; omega)
          rw [← HL.out] at hcl
          have hm5 : ((j : Nat) : Int) % 18446744073709551616 = (j : Int) := by have := H16.out; omega
          have hn0 : ∀ W, Calls Try.prog 50 #[.int .u64 (j : Nat), .int .i64 1] W fun e w' => e = .returned (.string ⟨(num j 1).toArray⟩) ∧ Turned (fun _ => False) W w' := fun W => number_any j 1 W (by have := H16.out; omega) (by omega)
          have hadd0 : ∀ W, (Op.stringOp .add ⟨#[80, 68, 71, 67, 1]⟩ ⟨(num j 1).toArray⟩).run Try.prog W = .ok (.string ⟨(magicC ++ num j 1).toArray⟩) W := fun W => add_ba magicC (num j 1) (by simp [magicC, num_length]) W
          have HE : Hid (dataSize (sortCh l) = dataSize l ∧ (sortCh l).length = j) := ⟨dataSize_perm (sortCh_perm l), (sortCh_length l).trans HL.out.symm⟩
          have SUP : Hid (∀ (i : Nat) (c : Ch), (sortCh l)[i]? = some c → c.1 < 4294967296 ∧ c.2.size ≤ 4194304) := fun i c hc => by
            have hm : c ∈ l := (sortCh_perm l).mem_iff.1 (List.mem_of_getElem? hc)
            exact ⟨(H.out.2.2.1 c hm).1, Nat.le_trans (size_le_data l c hm) HD.out⟩
          generalize hp0 : magicC ++ num j 1 = p0 at *
          have P0 : Hid (magicC ++ num j 1 = p0) := hp0
          clear hp0
          go_wp2_with (first
            | (go_at_call 49; (with_reducible refine hcl.mono ?_); rintro e w1 ⟨v, rfl, hsl, ht1⟩; obtain ⟨sa, scap, hv, hsc1, hsc2⟩ := hsl.value; subst hv; have T1 : Hid (Turned (fun _ => False) w w1) := T.out.trans ht1 fun _ _ q => q; have SL1 : Hid (Sl w1 _ 31 2 (.slice sa j scap) (ccells (sortCh l)) j) := sl_bound hsl; clear hsl ht1)
            | (go_at_call 50; (with_reducible refine (hn0 _).mono ?_); rintro e w2 ⟨rfl, ht2⟩; have T2 : Hid (Turned (fun _ => False) w1 w2) := ht2; clear ht2))
          have HS2 : Hid (R3 w2 j p0 (fun k => tableCh ((sortCh l).take k)) j (.string ⟨p0.toArray⟩) (.int .i64 0) w2) := ⟨0, by omega, rfl, by simp [tableCh], Turned.refl _ _⟩
          have CELL : Hid (∀ (i : Nat) (c : Ch) (wq : World), (sortCh l)[i]? = some c → Turned (fun _ => False) w2 wq → ∃ g off, sa = some ⟨g, off, none⟩ ∧ g < wq.heap.size ∧ wq.cell? ⟨g, off + i * 2, none⟩ = some (.int .u32 (c.1 : Nat)) ∧ wq.cell? ⟨g, off + i * 2 + 1, none⟩ = some (.string c.2)) := fun i c wq hc ht => by
            have hi := (List.getElem?_eq_some_iff.1 hc).1
            have hln := HE.out.2
            obtain ⟨g, off, cap2, hv, -, -, -, hcl, -, hgl⟩ := ((SL1.out.turned T2.out fun _ _ q => q).turned ht fun _ _ q => q).opens (by omega)
            injection hv with e1 e2 e3
            exact ⟨g, off, e1, hgl, (hcl (i * 2) (by omega)).trans (ccells_get _ i c hc).1, (hcl (i * 2 + 1) (by omega)).trans (ccells_get _ i c hc).2⟩
          have PL : Hid (p0.length = 6) := by
            have : p0.length = 6 := by rw [← P0.out]; simp [magicC, num_length]
            exact this
          clear hcl hd hd2 hm5 hn0 hadd0
          obtain ⟨wo, rfl⟩ : ∃ x : World, x = wr := ⟨wr, rfl⟩
          go_loopg [7, 8] j (fun g s i wr => R3 w2 j p0 (fun k => tableCh ((sortCh l).take k)) g s i wr)
          case atStart => exact HS2.out
          case round =>
            obtain ⟨i, hig, rfl, rfl, htq⟩ := hrel
            have TQ : Hid (Turned (fun _ => False) w2 wr) := htq
            have GI : Hid (i + gk = j) := hig
            clear htq hig HS2
            by_cases hlt : i < j
            · obtain ⟨c, hc⟩ : ∃ c, (sortCh l)[i]? = some c := ⟨_, List.getElem?_eq_getElem (by rw [HE.out.2]; exact hlt)⟩
              obtain ⟨g, off, rfl, hgl, c0, c1⟩ := CELL.out i c wr hc TQ.out
              obtain ⟨s1, s2⟩ := SUP.out i c hc
              have hlen : (p0 ++ tableCh ((sortCh l).take i)).length ≤ 1000 := by
                simp [PL.out, tableCh_length]
                have := H16.out
                omega
              have hm1 : IntKind.u64.wrap ((c.1 : Nat) : Int) = (c.1 : Int) := by simp [IntKind.wrap, IntKind.bits, IntKind.signed]; omega
              have hm2 : IntKind.u64.wrap ((c.2.size : Nat) : Int) = (c.2.size : Int) := by simp [IntKind.wrap, IntKind.bits, IntKind.signed]; omega
              have hn1 : ∀ W, Calls Try.prog 50 #[.int .u64 (IntKind.u64.wrap (c.1 : Nat)), .int .i64 4] W fun e w' => e = .returned (.string ⟨(num c.1 4).toArray⟩) ∧ Turned (fun _ => False) W w' := fun W => by rw [hm1]; exact number_any c.1 4 W (by omega) (by omega)
              have hn2 : ∀ W, Calls Try.prog 50 #[.int .u64 (IntKind.u64.wrap (c.2.size : Nat)), .int .i64 4] W fun e w' => e = .returned (.string ⟨(num c.2.size 4).toArray⟩) ∧ Turned (fun _ => False) W w' := fun W => by rw [hm2]; exact number_any c.2.size 4 W (by omega) (by omega)
              have hadd1 := add_ba (p0 ++ tableCh ((sortCh l).take i)) (num c.1 4) (by rw [num_length]; omega)
              have hadd2 := add_ba (p0 ++ tableCh ((sortCh l).take i) ++ num c.1 4) (num c.2.size 4) (by rw [List.length_append, num_length, num_length]; omega)
              have e1 : p0 ++ tableCh ((sortCh l).take i) ++ num c.1 4 ++ num c.2.size 4 = p0 ++ tableCh ((sortCh l).take (i + 1)) := by
                rw [List.take_add_one, hc, tableCh_append]
                simp [tableCh]
              have E1 : Hid (p0 ++ tableCh ((sortCh l).take i) ++ num c.1 4 ++ num c.2.size 4 = p0 ++ tableCh ((sortCh l).take (i + 1))) := e1
              have CT : Hid (∀ w3, Turned (fun _ => False) wr.drew w3 → w3.cell? ⟨g, off + i * 2, none⟩ = some (.int .u32 (c.1 : Nat)) ∧ w3.cell? ⟨g, off + i * 2 + 1, none⟩ = some (.string c.2) ∧ g < w3.heap.size) := fun w3 t3 => by
                have hb : wr.heap.size ≤ w3.heap.size := t3.size
                refine ⟨?_, ?_, by omega⟩
                · rw [World.cell?_of_block (w := wr.drew) (w' := w3) (t3.block g hgl fun q => q)]; exact c0
                · rw [World.cell?_of_block (w := wr.drew) (w' := w3) (t3.block g hgl fun q => q)]; exact c1
              clear hc hlen s1 s2 e1 hm1 hm2
              generalize (⟨(p0 ++ tableCh ((sortCh l).take i)).toArray⟩ : ByteArray) = q0 at *
              generalize (⟨(p0 ++ tableCh ((sortCh l).take i) ++ num c.1 4).toArray⟩ : ByteArray) = q1 at *
              generalize hq2 : (⟨(p0 ++ tableCh ((sortCh l).take i) ++ num c.1 4 ++ num c.2.size 4).toArray⟩ : ByteArray) = q2 at *
              have HQ2 : Hid ((⟨(p0 ++ tableCh ((sortCh l).take i) ++ num c.1 4 ++ num c.2.size 4).toArray⟩ : ByteArray) = q2) := hq2
              clear hq2
              generalize (⟨(num c.1 4).toArray⟩ : ByteArray) = n1 at *
              generalize (⟨(num c.2.size 4).toArray⟩ : ByteArray) = n2 at *
              go_wp2
              go_region_with (first
                | (go_at_call 50; (with_reducible refine (hn1 _).mono ?_); rintro e wA ⟨rfl, htA⟩; obtain ⟨f0, f1, f2⟩ := CT.out wA htA)
                | (go_at_call 50; (with_reducible refine (hn2 _).mono ?_); rintro e wB ⟨rfl, htB⟩))
              all_goals go_wp2
              all_goals
                go_roundg (gk - 1)
                case measure => have := GI.out; omega
                case rel => exact ⟨i + 1, by have := GI.out; omega, by simp, by rw [← HQ2.out, E1.out], (TQ.out.draw.trans htA fun _ _ q => q).trans htB fun _ _ q => q⟩
            · have hi : i = j := by have := GI.out; omega
              subst hi
              have htk : (sortCh l).take i = sortCh l := List.take_of_length_le (by rw [HE.out.2]; exact Nat.le_refl _)
              generalize hq0 : (⟨(p0 ++ tableCh ((sortCh l).take i)).toArray⟩ : ByteArray) = q0
              rw [htk] at hq0
              have HS3 : Hid (R3 w2 i (p0 ++ tableCh (sortCh l)) (fun k => dataCh ((sortCh l).take k)) i (.string q0) (.int .i64 0) wr) := ⟨0, by omega, rfl, by rw [← hq0]; simp [dataCh], TQ.out⟩
              clear htk hlt TQ hq0
              generalize hp1 : p0 ++ tableCh (sortCh l) = p1 at *
              have P1 : Hid (p0 ++ tableCh (sortCh l) = p1) := hp1
              clear hp1
              go_wp2
              obtain ⟨wo2, rfl⟩ : ∃ x : World, x = wr := ⟨wr, rfl⟩
              go_loopg [7, 9] i (fun g s k wr => R3 w2 i p1 (fun k => dataCh ((sortCh l).take k)) g s k wr)
              case atStart => exact HS3.out
              case round =>
                obtain ⟨k, hkg, rfl, rfl, htq⟩ := hrel
                have TQ : Hid (Turned (fun _ => False) w2 wr) := htq
                have GK : Hid (k + gk = i) := hkg
                clear htq hkg HS3
                have hlen : (p1 ++ dataCh ((sortCh l).take k)).length ≤ 4200000 := by
                  have h1 := H16.out
                  have h2 := HE.out.2
                  have h3 : dataSize ((sortCh l).take k) ≤ 4194304 := by
                    have h4 := HE.out.1
                    have h5 : dataSize (sortCh l) = dataSize ((sortCh l).take k) + dataSize ((sortCh l).drop k) := by rw [← dataSize_append, List.take_append_drop]
                    have := HD.out
                    omega
                  rw [← P1.out]
                  simp only [List.length_append, tableCh_length, dataCh_length, PL.out]
                  omega
                by_cases hlt : k < i
                · obtain ⟨c, hc⟩ : ∃ c, (sortCh l)[k]? = some c := ⟨_, List.getElem?_eq_getElem (by rw [HE.out.2]; exact hlt)⟩
                  obtain ⟨g, off, rfl, hgl, c0, c1⟩ := CELL.out k c wr hc TQ.out
                  have hadd : ∀ W, (Op.stringOp .add ⟨(p1 ++ dataCh ((sortCh l).take k)).toArray⟩ c.2).run Try.prog W = .ok (.string ⟨(p1 ++ dataCh ((sortCh l).take (k + 1))).toArray⟩) W := by
                    have h2 := (SUP.out k c hc).2
                    have := add_ba (p1 ++ dataCh ((sortCh l).take k)) c.2.data.toList (by rw [show c.2.data.toList.length = c.2.size by simp]; omega)
                    have e1 : p1 ++ dataCh ((sortCh l).take (k + 1)) = p1 ++ dataCh ((sortCh l).take k) ++ c.2.data.toList := by
                      rw [List.take_add_one, hc, dataCh_append]
                      simp [dataCh]
                    rw [e1]
                    simpa using this
                  clear hc hlen
                  generalize (⟨(p1 ++ dataCh ((sortCh l).take k)).toArray⟩ : ByteArray) = q0 at *
                  generalize hq2 : (⟨(p1 ++ dataCh ((sortCh l).take (k + 1))).toArray⟩ : ByteArray) = q2 at *
                  have HQ2 : Hid ((⟨(p1 ++ dataCh ((sortCh l).take (k + 1))).toArray⟩ : ByteArray) = q2) := hq2
                  clear hq2
                  go_wp2
                  go_roundg (gk - 1)
                  case measure => have := GK.out; omega
                  case rel => exact ⟨k + 1, by have := GK.out; omega, by simp, by rw [← HQ2.out], TQ.out⟩
                · have hk : k = i := by have := GK.out; omega
                  subst hk
                  have htk : (sortCh l).take k = sortCh l := List.take_of_length_le (by rw [HE.out.2]; exact Nat.le_refl _)
                  rw [htk] at hlen
                  generalize hq0 : (⟨(p1 ++ dataCh ((sortCh l).take k)).toArray⟩ : ByteArray) = q0
                  rw [htk] at hq0
                  have hse := sealed_any q0 wr (by rw [← hq0, ba_size]; omega)
                  have HBS : Hid (built l = sealed q0) := by
                    show built l = _
                    unfold built bodyCh
                    rw [← hq0, ← P1.out, ← P0.out, HE.out.2]
                  clear htk hlen hlt hq0
                  go_wp2_with (go_at_call 31; (with_reducible refine hse.mono ?_); rintro e w4 ⟨rfl, ht4⟩)
                  go_ret2
                  exact ⟨by rw [HB.out, HBS.out]; rfl, ((T1.out.trans T2.out fun _ _ q => q).trans TQ.out fun _ _ q => q).trans ht4 fun _ _ q => q⟩
end Go.Proofs.Ytfeljngmidhajaa

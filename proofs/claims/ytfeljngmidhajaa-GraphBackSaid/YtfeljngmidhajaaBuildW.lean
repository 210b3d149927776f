/- Build: the walk. -/
import Derived.Test.YtfeljngmidhajaaUp
namespace Go.Proofs.Ytfeljngmidhajaa
open Go.RowKit Go.Mine

def B1 (w : World) (l : List Ch) (g : Nat) (sz i : Value) (wr : World) : Prop :=
  ∃ j : Nat, j + g = l.length ∧ i = .int .i64 j ∧ sz = .int .i64 ((10 + 8 * l.length + dataSize (l.take j) : Nat) : Int) ∧ checkCh [] l = checkCh (l.take j) (l.drop j) ∧ Turned (fun _ => False) w wr

theorem dataSize_take (l : List Ch) (j : Nat) (c : Ch) (h : l[j]? = some c) : dataSize (l.take (j + 1)) = dataSize (l.take j) + c.2.size := by
  rw [List.take_add_one, h, dataSize_append]
  simp [dataSize]
theorem dataSize_le (l : List Ch) (h : Small l) : dataSize l ≤ l.length * 140737488355328 := by
  induction l with
  | nil => simp [dataSize]
  | cons c l ih =>
    have h1 := (h c (by simp)).2
    have h2 := ih fun d hd => h d (List.mem_cons_of_mem _ hd)
    simp only [dataSize, List.length_cons, Nat.add_mul]
    omega

theorem size_le_data (l : List Ch) (c : Ch) (h : c ∈ l) : c.2.size ≤ dataSize l := by
  induction l with
  | nil => simp at h
  | cons d l ih =>
    rw [dataSize]
    rcases List.mem_cons.1 h with rfl | h
    · omega
    · have := ih h; omega

theorem wr_bound {w : World} {S : Nat → Prop} {p : Nat} {bs : List UInt8} (h : Wr w S p bs) : Wr w (fun b => S b ∧ b < w.heap.size) p bs := by
  obtain ⟨h1, v, R, h2, h3, h4, h5⟩ := h
  exact ⟨⟨h1, lt_of_block h2⟩, v, fun b => R b ∧ b < w.heap.size, h2, sl_bound h3, fun q => h4 q.1, fun b q => ⟨h5 b q.1, q.2⟩⟩

theorem sealed_bytes (bs : List UInt8) : sealed ⟨bs.toArray⟩ = ⟨(bs ++ num (Crc.sum (nums ⟨bs.toArray⟩)) 4).toArray⟩ := by
  unfold sealed
  apply ByteArray.ext
  simp

def B2 (w2 : World) (L : Nat) (pre : List UInt8) (f : Nat → List UInt8) (g : Nat) (i : Value) (wr : World) : Prop :=
  ∃ j : Nat, j + g = L ∧ i = .int .i64 j ∧ Wr wr (fun b => w2.heap.size ≤ b) w2.heap.size (pre ++ f j) ∧ Turned (fun b => w2.heap.size ≤ b) w2 wr

set_option maxRecDepth 100000 in
set_option maxHeartbeats 4000000 in
theorem build_any (a : Option Addr) (cap : Nat) (l : List Ch) (w : World) (h : ChIs w a cap l) :
    Calls Try.prog 17 #[.slice a l.length cap] w fun e w' => e = .returned (buildV l) ∧ Turned (fun _ => False) w w' := by
  have H : Hid (ChIs w a cap l) := h
  obtain ⟨L, hL⟩ : ∃ L, L = l.length := ⟨_, rfl⟩
  have HL : Hid (L = l.length) := hL
  by_cases h16 : 16 < L
  · have HB : Hid (buildV l = .tuple #[.string ⟨#[]⟩, .int .i64 5]) := by
      have : buildErr l = 5 := by unfold buildErr; rw [if_pos (by omega)]
      show buildV l = _
      unfold buildV
      rw [this]; rfl
    rw [← hL]
    clear h hL
    go_enter Try.func17, Try.ntmps17
    go_wp2
    go_ret2
    exact ⟨by rw [HB.out]; rfl, Turned.refl _ _⟩
  · have hds : ∀ j, dataSize (l.take j) ≤ 16 * 140737488355328 := fun j => by
      have h1 := dataSize_le (l.take j) fun c hc => h.2.2.1 c (List.mem_of_mem_take hc)
      have h2 : (l.take j).length ≤ 16 := by simp; omega
      exact Nat.le_trans h1 (Nat.mul_le_mul_right _ h2)
    have DS : Hid (∀ j, dataSize (l.take j) ≤ 16 * 140737488355328) := hds
    have H16 : Hid (L ≤ 16) := (by omega : L ≤ 16)
    have hsl : ∀ j W, j ≤ L → (Instr.slice 22 (.slice a L cap) none (some (.int .i64 (j : Nat))) none).run Try.prog W = .ok (.slice a j cap) W := fun j W hj => by
      have := chs_to h j (by omega) W
      rw [← hL] at this
      exact this
    have HSL : Hid (∀ j W, j ≤ L → (Instr.slice 22 (.slice a L cap) none (some (.int .i64 (j : Nat))) none).run Try.prog W = .ok (.slice a j cap) W) := hsl
    have HS : Hid (B1 w l L (.int .i64 (10 + 8 * (L : Int))) (.int .i64 0) w) := ⟨0, by omega, rfl, by rw [← hL]; simp [dataSize], rfl, Turned.refl _ _⟩
    rw [← hL]
    clear h hL hds hsl
    go_enter Try.func17, Try.ntmps17
    go_wp2
    go_loopg [4, 22] L (fun g sz i wr => B1 w l g sz i wr)
    case atStart => exact HS.out
    case round =>
      obtain ⟨j, hjg, rfl, rfl, hck, ht⟩ := hrel
      have T : Hid (Turned (fun _ => False) w wr) := ht
      have G : Hid (j + gk = l.length) := hjg
      have CK : Hid (checkCh [] l = checkCh (l.take j) (l.drop j)) := hck
      clear hjg hck ht HS
      by_cases hlt : j < L
      · obtain ⟨c, hc⟩ : ∃ c, l[j]? = some c := ⟨_, List.getElem?_eq_getElem (by rw [← HL.out]; exact hlt)⟩
        obtain ⟨b, off, rfl, hbw, c0, c1⟩ := chIs_any (H.out.turned T.out) j c hc
        have hj2 := (List.getElem?_eq_some_iff.1 hc).1
        have hcj : c = l[j] := (List.getElem?_eq_some_iff.1 hc).2.symm
        have hdr : l.drop j = c :: l.drop (j + 1) := by rw [List.drop_eq_getElem_cons hj2, hcj]
        have hckk := CK.out
        rw [hdr, checkCh] at hckk
        have DR : Hid (l[j]? = some c ∧ c ∈ l) := ⟨hc, List.mem_of_getElem? hc⟩
        have hs1 := HSL.out j (wr.alloc (.cells #[.int .u32 (c.1 : Nat), .string c.2] 31)) (by omega)
        have hsz := DS.out (j + 1)
        have hds := dataSize_take l j c hc
        clear hc hj2 hcj hdr
        by_cases h0 : c.1 = 0
        · rw [if_pos h0] at hckk
          have HB : Hid (buildV l = .tuple #[.string ⟨#[]⟩, .int .i64 1]) := by
            have : buildErr l = 1 := by
              unfold buildErr
              rw [if_neg (by have := H16.out; have := HL.out; omega), if_pos (by omega), hckk]
            show buildV l = _
            unfold buildV
            rw [this]; rfl
          have hd : ((c.1 : Int) == 0) = true := by simp; omega
          clear hckk h0 hsz hds hs1
          go_wp2
          go_ret2
          exact ⟨by rw [HB.out]; rfl, T.out.new _⟩
        · rw [if_neg h0] at hckk
          have hd : ((c.1 : Int) == 0) = false := by simp; omega
          have hcon : Calls Try.prog 37 #[.slice (some ⟨b, off, none⟩) j cap, .func (.func 38) #[] #[pt wr.heap.size]] (wr.alloc (.cells #[.int .u32 (c.1 : Nat), .string c.2] 31)) fun e w' => e = .returned (.bool (hasCh (l.take j) c.1)) ∧ Turned (fun _ => False) (wr.alloc (.cells #[.int .u32 (c.1 : Nat), .string c.2] 31)) w' := by
            have := containsFunc_any (some ⟨b, off, none⟩) cap wr.heap.size (l.take j) c (wr.alloc (.cells #[.int .u32 (c.1 : Nat), .string c.2] 31)) (((H.out.take j (by have := HL.out; omega)).turned T.out).turned (Turned.alloc _ _ _)) (cell_of (heap_alloc_last wr _) 0 _ rfl)
            rw [List.length_take, Nat.min_eq_left (by have := HL.out; omega)] at this
            exact this
          by_cases hh : hasCh (l.take j) c.1 = true
          · rw [if_pos hh] at hckk
            rw [hh] at hcon
            have HB : Hid (buildV l = .tuple #[.string ⟨#[]⟩, .int .i64 11]) := by
              have : buildErr l = 11 := by
                unfold buildErr
                rw [if_neg (by have := H16.out; have := HL.out; omega), if_pos (by omega), hckk]
              show buildV l = _
              unfold buildV
              rw [this]; rfl
            clear hckk h0 hsz hds hh
            go_wp2_with (go_at_call 37; (with_reducible refine hcon.mono ?_); rintro e w2 ⟨rfl, ht2⟩)
            go_ret2
            exact ⟨by rw [HB.out]; rfl, (T.out.new _).trans ht2 fun _ _ q => q⟩
          · have hh2 : hasCh (l.take j) c.1 = false := by simpa using hh
            rw [if_neg hh] at hckk
            rw [hh2] at hcon
            have hck2 : checkCh [] l = checkCh (l.take (j + 1)) (l.drop (j + 1)) := by
              rw [hckk, List.take_add_one, DR.out.1]; rfl
            have CK2 : Hid (checkCh [] l = checkCh (l.take (j + 1)) (l.drop (j + 1))) := hck2
            have hwz : wrap64 (((10 + 8 * l.length + dataSize (l.take j) : Nat) : Int) + (c.2.size : Int)) = ((10 + 8 * l.length + dataSize (l.take (j + 1)) : Nat) : Int) := by
              have := H16.out; have := HL.out
              rw [hds] at hsz ⊢
              simp only [wrap64]; omega
            have HZ : Hid (wrap64 (((10 + 8 * l.length + dataSize (l.take j) : Nat) : Int) + (c.2.size : Int)) = ((10 + 8 * l.length + dataSize (l.take (j + 1)) : Nat) : Int)) := hwz
            have HW : Hid (wrap64 ((j : Int) + 1) = ((j + 1 : Nat) : Int)) := (by have := H16.out; simp [wrap64]; omega : wrap64 ((j : Int) + 1) = ((j + 1 : Nat) : Int))
            have hcell : ∀ w2, Turned (fun _ => False) (wr.alloc (.cells #[.int .u32 (c.1 : Nat), .string c.2] 31)) w2 → w2.cell? ⟨wr.heap.size, 1, none⟩ = some (.string c.2) ∧ wr.heap.size < w2.heap.size := fun w2 t2 => by
              have hz : (wr.alloc (.cells #[.int .u32 (c.1 : Nat), .string c.2] 31)).heap.size = wr.heap.size + 1 := by simp
              refine ⟨?_, by have := t2.size; omega⟩
              rw [World.cell?_of_block (w' := w2) (t2.block wr.heap.size (by omega) fun q => q)]
              exact cell_of (heap_alloc_last wr _) 1 _ rfl
            have HC : Hid (∀ w2, Turned (fun _ => False) (wr.alloc (.cells #[.int .u32 (c.1 : Nat), .string c.2] 31)) w2 → w2.cell? ⟨wr.heap.size, 1, none⟩ = some (.string c.2) ∧ wr.heap.size < w2.heap.size) := hcell
            clear hckk h0 hsz hds hh hh2 hck2 hwz hcell
            generalize 10 + 8 * l.length + dataSize (l.take j) = sz at *
            go_wp2_with (go_at_call 37; (with_reducible refine hcon.mono ?_); rintro e w2 ⟨rfl, ht2⟩; obtain ⟨hc2, hlt2⟩ := HC.out w2 ht2)
            go_roundg (gk - 1)
            case measure => have := G.out; have := HL.out; omega
            case rel => exact ⟨j + 1, by have := G.out; have := HL.out; omega, by first | rw [HW.out] | simp, by rw [HZ.out], CK2.out, (T.out.new _).trans ht2 fun _ _ q => q⟩
      · have hj : j = L := by have := G.out; have := HL.out; omega
        subst hj
        have htl : l.take j = l := List.take_of_length_le (by have := HL.out; omega)
        have hck0 : checkCh [] l = 0 := by rw [CK.out, List.drop_of_length_le (by have := HL.out; omega)]; rfl
        rw [htl]
        obtain ⟨N, hN⟩ : ∃ N, N = 10 + 8 * l.length + dataSize l := ⟨_, rfl⟩
        have HN : Hid (N = 10 + 8 * l.length + dataSize l) := hN
        have HK : Hid (checkCh [] l = 0) := hck0
        rw [← hN]
        clear hN hck0 htl hlt
        by_cases hbig : 4194304 < N
        · have hd : decide ((4194304 : Int) < (N : Int)) = true := by simp; omega
          have hd2 : decide (4194304 < N) = true := by simp; omega
          have HB : Hid (buildV l = .tuple #[.string ⟨#[]⟩, .int .i64 5]) := by
            have : buildErr l = 5 := by
              unfold buildErr
              rw [if_neg (by have := H16.out; have := HL.out; omega), if_neg (by rw [HK.out]; simp), if_pos (by have := HN.out; omega)]
            show buildV l = _
            unfold buildV
            rw [this]; rfl
          clear hbig
          go_wp2
          go_ret2
          exact ⟨by rw [HB.out]; rfl, T.out⟩
        · have hd : decide ((4194304 : Int) < (N : Int)) = false := by simp; omega
          have hd2 : decide (4194304 < N) = false := by simp; omega
          have HB : Hid (buildV l = .tuple #[.string (built l), .int .i64 0]) := by
            have : buildErr l = 0 := by
              unfold buildErr
              rw [if_neg (by have := H16.out; have := HL.out; omega), if_neg (by rw [HK.out]; simp), if_neg (by have := HN.out; omega)]
            show buildV l = _
            unfold buildV
            rw [this]; rfl
          have HD : Hid (dataSize l ≤ 4194304) := (by have := HN.out; omega : dataSize l ≤ 4194304)
          clear hbig
          have hcl := clone_all a cap l wr (H.out.turned T.out) (by have := H16.out; have := HL.out; omega)
          rw [← HL.out] at hcl
          have HND : Hid ((l.map (·.1)).Nodup) := (checkCh_ok l [] HK.out (by simp)).1
          have hm5 : ((j : Nat) : Int) % 256 = (j : Int) := by have := H16.out; omega
          go_wp2_with (first
            | (go_at_call 39; (with_reducible refine hcl.mono ?_); rintro e w1 ⟨v, rfl, hsl, ht1⟩; obtain ⟨sa, scap, hv, hsc1, hsc2⟩ := hsl.value; subst hv; have T1 : Hid (Turned (fun _ => False) w w1) := T.out.trans ht1 fun _ _ q => q; have hsort := sortf_any l (v := .slice sa j scap) (by rw [← HL.out]; exact sl_bound hsl) HND.out (by have := H16.out; have := HL.out; omega); clear hsl ht1)
            | (go_at_call 40; (with_reducible refine hsort.mono ?_); rintro e w2 ⟨rfl, hsl2, ht2⟩; have T2 : Hid (Turned (fun b => wr.heap.size ≤ b ∧ b < w1.heap.size) w1 w2) := ht2; have SL2 : Hid (Sl w2 (fun b => wr.heap.size ≤ b ∧ b < w1.heap.size) 31 2 (.slice sa j scap) (ccells (sortCh l)) l.length) := hsl2; have nw := newWriter_any w2; clear hsort hsl2 ht2)
            | (go_at_call 43; (with_reducible refine nw.mono ?_); rintro e w3 ⟨rfl, hwr, ht3, hsz3⟩; have hraw := raw_up ⟨#[80, 68, 71, 67, 1]⟩ w3 hwr (by omega) (by simp [ByteArray.size]); have Z3 : Hid (w3.heap.size = w2.heap.size + 1 ∧ Turned (fun _ => False) w2 w3) := ⟨hsz3, ht3⟩; clear nw hwr hsz3 ht3)
            | (go_at_call 44; (with_reducible refine hraw.mono ?_); rintro e w4 ⟨rfl, hwr4, ht4⟩; have hu8 := u8_up j w4 hwr4 (by have := ht4.size; have := Z3.out.1; omega) (by have := H16.out; omega) (by simp); have Z4 : Hid (Turned (fun b => w2.heap.size ≤ b) w2 w4) := (Z3.out.2.mono fun _ _ q => q.elim).trans ht4 fun _ _ q => q; clear hraw hwr4 ht4)
            | (go_at_call 45; (with_reducible refine hu8.mono ?_); rintro e w5 ⟨rfl, hwr5, ht5⟩; have Z5 : Hid (Wr w5 (fun b => w2.heap.size ≤ b) w2.heap.size (magicC ++ num j 1) ∧ Turned (fun b => w2.heap.size ≤ b) w2 w5) := ⟨hwr5, Z4.out.trans ht5 fun _ _ q => q⟩; clear hu8 hwr5 ht5))
          have HS2 : Hid (B2 w2 j (magicC ++ num j 1) (fun k => tableCh ((sortCh l).take k)) j (.int .i64 0) w5) := ⟨0, by omega, rfl, by simpa [tableCh] using Z5.out.1, Z5.out.2⟩
          have hsl2 : (sortCh l).length = l.length := sortCh_length l
          have HLS : Hid ((sortCh l).length = j) := (hsl2.trans HL.out.symm)
          clear hsl2
          clear hcl hd hd2 hm5
          obtain ⟨wo, rfl⟩ : ∃ x : World, x = wr := ⟨wr, rfl⟩
          have SUP : Hid (∀ (i : Nat) (c : Ch), (sortCh l)[i]? = some c → c.1 < 4294967296 ∧ c.2.size ≤ 4194304) := fun i c hc => by
            have hm : c ∈ l := (sortCh_perm l).mem_iff.1 (List.mem_of_getElem? hc)
            refine ⟨(H.out.2.2.1 c hm).1, ?_⟩
            exact Nat.le_trans (size_le_data l c hm) HD.out
          have CELL : Hid (∀ (i : Nat) (c : Ch) (wq : World), (sortCh l)[i]? = some c → Turned (fun b => w2.heap.size ≤ b) w2 wq → ∃ g off, sa = some ⟨g, off, none⟩ ∧ g < wq.heap.size ∧ wq.cell? ⟨g, off + i * 2, none⟩ = some (.int .u32 (c.1 : Nat)) ∧ wq.cell? ⟨g, off + i * 2 + 1, none⟩ = some (.string c.2)) := fun i c wq hc ht => by
            have hi := (List.getElem?_eq_some_iff.1 hc).1
            have hln := sortCh_length l
            obtain ⟨g, off, cap2, hv, -, -, -, hcl, -, hgl⟩ := (SL2.out.turned ht fun b q z => by have := T2.out.size; omega).opens (by omega)
            injection hv with e1 e2 e3
            exact ⟨g, off, e1, hgl, (hcl (i * 2) (by omega)).trans (ccells_get _ i c hc).1, (hcl (i * 2 + 1) (by omega)).trans (ccells_get _ i c hc).2⟩
          go_loopg [59] j (fun g i wr => B2 w2 j (magicC ++ num j 1) (fun k => tableCh ((sortCh l).take k)) g i wr)
          case atStart => exact HS2.out
          case round =>
            obtain ⟨i, hig, rfl, hwq, htq⟩ := hrel
            have W : Hid (Wr wr (fun b => w2.heap.size ≤ b) w2.heap.size (magicC ++ num j 1 ++ tableCh ((sortCh l).take i))) := hwq
            have TQ : Hid (Turned (fun b => w2.heap.size ≤ b) w2 wr) := htq
            have GI : Hid (i + gk = j) := hig
            clear hwq htq hig HS2
            by_cases hlt : i < j
            · obtain ⟨c, hc⟩ : ∃ c, (sortCh l)[i]? = some c := ⟨_, List.getElem?_eq_getElem (by rw [HLS.out]; exact hlt)⟩
              obtain ⟨g, off, rfl, hgl, c0, c1⟩ := CELL.out i c wr hc TQ.out
              obtain ⟨s1, s2⟩ := SUP.out i c hc
              have hlen : (magicC ++ num j 1 ++ tableCh ((sortCh l).take i)).length ≤ 1000 := by
                simp [magicC, num_length, tableCh_length]
                have := H16.out
                omega
              have hA := u32_any c.1 (wr.alloc (.cells #[.int .u32 (c.1 : Nat), .string c.2] 31)) ((wr_bound W.out).turned (Turned.alloc (fun _ => False) wr _) fun _ _ q => q) s1 (by omega)
              have hcell : ∀ w4, Turned (fun b => w2.heap.size ≤ b ∧ b < wr.heap.size) (wr.alloc (.cells #[.int .u32 (c.1 : Nat), .string c.2] 31)) w4 → w4.cell? ⟨wr.heap.size, 1, none⟩ = some (.string c.2) ∧ wr.heap.size < w4.heap.size := fun w4 t4 => by
                have hz : (wr.alloc (.cells #[.int .u32 (c.1 : Nat), .string c.2] 31)).heap.size = wr.heap.size + 1 := by simp
                refine ⟨?_, by have := t4.size; omega⟩
                rw [World.cell?_of_block (w' := w4) (t4.block wr.heap.size (by omega) fun q => by omega)]
                exact cell_of (heap_alloc_last wr _) 1 _ rfl
              have HC : Hid (∀ w4, Turned (fun b => w2.heap.size ≤ b ∧ b < wr.heap.size) (wr.alloc (.cells #[.int .u32 (c.1 : Nat), .string c.2] 31)) w4 → w4.cell? ⟨wr.heap.size, 1, none⟩ = some (.string c.2) ∧ wr.heap.size < w4.heap.size) := hcell
              have HLN : Hid ((magicC ++ num j 1 ++ tableCh ((sortCh l).take i)).length ≤ 1000 ∧ c.2.size ≤ 4194304 ∧ (sortCh l)[i]? = some c) := ⟨hlen, s2, hc⟩
              have hm : ((c.2.size : Nat) : Int) % 4294967296 = (c.2.size : Int) := by omega
              clear hc hcell hlen s1 s2
              go_wp2_with (first
                | (go_at_call 46; (with_reducible refine hA.mono ?_); rintro e w4 ⟨rfl, hwr4, ht4⟩; obtain ⟨hc4, hl4⟩ := HC.out w4 ht4; have hB := u32_up c.2.size w4 (hwr4.widen fun b q => (q.elim (fun q => q.1) fun q => by have := TQ.out.size; have h1 : (wr.alloc (.cells #[.int .u32 (c.1 : Nat), .string c.2] 31)).heap.size = wr.heap.size + 1 := (by simp); omega : w2.heap.size ≤ b)) (by have := TQ.out.size; omega) (by have := HLN.out.2.1; omega) (by have := HLN.out.1; simp only [List.length_append, num_length] at this ⊢; omega); have T4 : Hid (Turned (fun b => w2.heap.size ≤ b ∧ b < wr.heap.size) (wr.alloc (.cells #[.int .u32 (c.1 : Nat), .string c.2] 31)) w4) := ht4; clear hwr4 ht4)
                | (go_at_call 46; (with_reducible refine hB.mono ?_); rintro e w6 ⟨rfl, hwr6, ht6⟩))
              go_roundg (gk - 1)
              case measure => have := GI.out; omega
              case rel =>
                refine ⟨i + 1, by have := GI.out; omega, by simp, ?_, ((TQ.out.new _).trans (T4.out.mono fun b hb q => q.1) fun _ _ q => q).trans ht6 fun _ _ q => q⟩
                have e1 : tableCh ((sortCh l).take (i + 1)) = tableCh ((sortCh l).take i) ++ (num c.1 4 ++ num c.2.size 4) := by
                  rw [List.take_add_one, HLN.out.2.2, tableCh_append]
                  simp [tableCh]
                show Wr w6 _ _ (magicC ++ num j 1 ++ tableCh ((sortCh l).take (i + 1)))
                rw [e1]
                simpa [List.append_assoc] using hwr6
            · have hi : i = j := by have := GI.out; omega
              subst hi
              have htk : (sortCh l).take i = sortCh l := List.take_of_length_le (by rw [HLS.out]; exact Nat.le_refl _)
              have hw0 := W.out
              rw [htk] at hw0
              have HS3 : Hid (B2 w2 i (magicC ++ num i 1 ++ tableCh (sortCh l)) (fun k => dataCh ((sortCh l).take k)) i (.int .i64 0) wr) := ⟨0, by omega, rfl, by simpa [dataCh] using hw0, TQ.out⟩
              clear hw0 htk hlt W TQ
              go_wp2
              obtain ⟨wo2, rfl⟩ : ∃ x : World, x = wr := ⟨wr, rfl⟩
              go_loopg [76] i (fun g k wr => B2 w2 i (magicC ++ num i 1 ++ tableCh (sortCh l)) (fun k => dataCh ((sortCh l).take k)) g k wr)
              case atStart => exact HS3.out
              case round =>
                obtain ⟨k, hkg, rfl, hwq, htq⟩ := hrel
                have W : Hid (Wr wr (fun b => w2.heap.size ≤ b) w2.heap.size (magicC ++ num i 1 ++ tableCh (sortCh l) ++ dataCh ((sortCh l).take k))) := hwq
                have TQ : Hid (Turned (fun b => w2.heap.size ≤ b) w2 wr) := htq
                have GK : Hid (k + gk = i) := hkg
                clear hwq htq hkg HS3
                have hlen : (magicC ++ num i 1 ++ tableCh (sortCh l) ++ dataCh ((sortCh l).take k)).length ≤ 4200000 := by
                  have h1 := H16.out
                  have h2 := HLS.out
                  have h3 : dataSize ((sortCh l).take k) ≤ 4194304 := by
                    have h4 : dataSize (sortCh l) = dataSize l := dataSize_perm (sortCh_perm l)
                    have h5 : dataSize (sortCh l) = dataSize ((sortCh l).take k) + dataSize ((sortCh l).drop k) := by rw [← dataSize_append, List.take_append_drop]
                    have := HD.out
                    omega
                  simp only [List.length_append, num_length, tableCh_length, dataCh_length, magicC, List.length_cons, List.length_nil]
                  omega
                by_cases hlt : k < i
                · obtain ⟨c, hc⟩ : ∃ c, (sortCh l)[k]? = some c := ⟨_, List.getElem?_eq_getElem (by rw [HLS.out]; exact hlt)⟩
                  obtain ⟨g, off, rfl, hgl, c0, c1⟩ := CELL.out k c wr hc TQ.out
                  obtain ⟨s1, s2⟩ := SUP.out k c hc
                  have hA := raw_up c.2 (wr.alloc (.cells #[.int .u32 (c.1 : Nat), .string c.2] 31)) (W.out.turned (Turned.alloc (fun _ => False) wr _) fun _ _ q => q) (by have := TQ.out.size; have h1 : (wr.alloc (.cells #[.int .u32 (c.1 : Nat), .string c.2] 31)).heap.size = wr.heap.size + 1 := (by simp); omega) (by omega)
                  have HC : Hid ((sortCh l)[k]? = some c) := hc
                  clear hc hlen s1 s2
                  go_wp2_with (go_at_call 44; (with_reducible refine hA.mono ?_); rintro e w4 ⟨rfl, hwr4, ht4⟩)
                  go_roundg (gk - 1)
                  case measure => have := GK.out; omega
                  case rel =>
                    refine ⟨k + 1, by have := GK.out; omega, by simp, ?_, (TQ.out.new _).trans ht4 fun _ _ q => q⟩
                    have e1 : dataCh ((sortCh l).take (k + 1)) = dataCh ((sortCh l).take k) ++ c.2.data.toList := by
                      rw [List.take_add_one, HC.out, dataCh_append]
                      simp [dataCh]
                    show Wr w4 _ _ (magicC ++ num i 1 ++ tableCh (sortCh l) ++ dataCh ((sortCh l).take (k + 1)))
                    rw [e1]
                    simpa [List.append_assoc] using hwr4
                · have hk : k = i := by have := GK.out; omega
                  subst hk
                  have htk : (sortCh l).take k = sortCh l := List.take_of_length_le (by rw [HLS.out]; exact Nat.le_refl _)
                  rw [htk] at hlen
                  have hw0 := W.out
                  rw [htk] at hw0
                  obtain ⟨bs, hbs⟩ : ∃ bs, bs = magicC ++ num k 1 ++ tableCh (sortCh l) ++ dataCh (sortCh l) := ⟨_, rfl⟩
                  rw [← hbs] at hw0 hlen
                  have HBS : Hid (built l = ⟨(bs ++ num (Crc.sum (nums ⟨bs.toArray⟩)) 4).toArray⟩) := by
                    show built l = _
                    have hb : bodyCh (sortCh l) = bs := by rw [hbs, bodyCh, HLS.out]
                    unfold built
                    rw [hb, sealed_bytes]
                  have WB : Hid (Wr wr (fun b => w2.heap.size ≤ b) w2.heap.size bs) := hw0
                  have hcrc := crcsum_lt ⟨bs.toArray⟩
                  have hby := bytes_any wr hw0
                  have hsum := sum_one wr.heap.size 0 1 ⟨bs.toArray⟩ (wr.alloc (.cells #[.string ⟨bs.toArray⟩] 9)) (cell_of (heap_alloc_last wr _) 0 _ rfl) (by simp) (by simp [ByteArray.size]; omega)
                  have HLEN : Hid (bs.length ≤ 4200000 ∧ Crc.sum (nums ⟨bs.toArray⟩) < 4294967296) := ⟨hlen, hcrc⟩
                  clear hw0 htk hbs hlen hcrc W hlt
                  go_wp2_with (first
                    | (go_at_call 48; (with_reducible refine hby.mono ?_); rintro e w4 ⟨rfl, rfl⟩)
                    | (go_at_call 47; (with_reducible refine hsum.mono ?_); rintro e w5 ⟨rfl, ht5⟩; have T5 : Hid (Turned (fun _ => False) wr w5) := (Turned.alloc (fun _ => False) wr _).trans ht5 (fun _ _ q => q); have hA := u32_up (Crc.sum (nums ⟨bs.toArray⟩)) w5 (WB.out.turned T5.out fun _ _ q => q) (by have := TQ.out.size; have := T5.out.size; omega) HLEN.out.2 (by have := HLEN.out.1; omega); clear hsum ht5)
                    | (go_at_call 46; (with_reducible refine hA.mono ?_); rintro e w6 ⟨rfl, hwr6, ht6⟩; have hby2 := bytes_any w6 hwr6)
                    | (go_at_call 48; (with_reducible refine hby2.mono ?_); rintro e w7 ⟨rfl, rfl⟩))
                  go_ret2
                  refine ⟨by rw [HB.out, HBS.out]; rfl, ?_⟩
                  have q1 : Turned (fun b => w2.heap.size ≤ b) w2 w6 := (TQ.out.trans (T5.out.mono fun _ _ q => q.elim) fun _ _ q => q).trans ht6 fun _ _ q => q
                  have q2 : Turned (fun _ => False) w w2 := T1.out.comp T2.out fun i hi q => q.elim id fun q => by have := T.out.size; omega
                  exact q2.comp q1 fun i hi q => q.elim id fun q => by have := q2.size; omega
end Go.Proofs.Ytfeljngmidhajaa

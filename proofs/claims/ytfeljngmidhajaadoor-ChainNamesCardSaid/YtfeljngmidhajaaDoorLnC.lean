/- Check of a chain: the walk. -/
import Derived.Test.YtfeljngmidhajaaDoorLn
namespace Go.Proofs.YtfeljngmidhajaaDoor
open Go.RowKit Go.Mine

theorem info43 : (Tryd.prog.info? 43).map (fun i => (i.zero, i.size, i.bytes)) = some (some (.agg #[.int .i64 0, .int .i64 0, .int .u32 0]), 3, 24) := by kernel_rfl

def badLn (x : Ln) : Bool := !numb x.1 || decide (x.2.1 < 1) || decide (65536 < x.2.1)
/-- the first fault of the links: 0: none -/
def chkLn : List Ln → List Ln → Nat
  | _, [] => 0
  | pre, x :: r => if badLn x = true then 1 else if hasLn pre x.1 = true then 11 else if 65536 < totLn (pre ++ [x]) then 1 else chkLn (pre ++ [x]) r
def lnErr (l : List Ln) : Nat := if 8 < l.length then 5 else chkLn [] l

theorem tot_bound (l : List Ln) (h : ∀ x ∈ l, 1 ≤ x.2.1 ∧ x.2.1 ≤ 65536) : 0 ≤ totLn l ∧ totLn l ≤ 65536 * l.length := by
  induction l with
  | nil => simp [totLn]
  | cons x l ih =>
    have h1 := h x (by simp)
    have h2 := ih fun y hy => h y (List.mem_cons_of_mem _ hy)
    simp only [totLn, List.length_cons]
    omega

theorem lns_to {w : World} {a : Option Addr} {cap : Nat} {l : List Ln} (h : LnIs w a cap l) (j : Nat) (hj : j ≤ l.length) (W : World) :
    (Instr.slice 25 (.slice a l.length cap) none (some (.int .i64 j)) none).run Tryd.prog W = .ok (.slice a j cap) W := by
  obtain ⟨i, hi, hz0, hz1, hz2⟩ := info_parts info43
  have hjc : j ≤ cap := by have := h.1; omega
  simp [Instr.slice, Instr.sliceBounds, Instr.sliceBound, asIntOf, run_underlying Tryd.underlying25, sizeOf, typeInfo, hi, hjc, Result.andThen]
  intro _
  cases a with
  | none => rfl
  | some ad => simp [Addr.add]

theorem LnIs.take {w : World} {a : Option Addr} {cap : Nat} {l : List Ln} (h : LnIs w a cap l) (j : Nat) (hj : j ≤ l.length) : LnIs w a cap (l.take j) := by
  refine ⟨by have := h.1; simp; omega, h.2.1, fun c hc => h.2.2.1 c (List.mem_of_mem_take hc), fun h0 => ?_⟩
  obtain ⟨b, off, h1, h2, h3⟩ := h.2.2.2 (by simp at h0; omega)
  refine ⟨b, off, h1, h2, fun i c hc => h3 i c ?_⟩
  rw [List.getElem?_take] at hc
  split at hc
  · exact hc
  · simp at hc

def CkRel (w : World) (l : List Ln) (g : Nat) (i : Value) (wr : World) : Prop :=
  ∃ j : Nat, j + g = l.length ∧ i = .int .i64 j ∧ chkLn [] l = chkLn (l.take j) (l.drop j) ∧ (∀ x ∈ l.take j, 1 ≤ x.2.1 ∧ x.2.1 ≤ 65536) ∧ Turned (fun _ => False) w wr

set_option maxRecDepth 100000 in
set_option maxHeartbeats 4000000 in
theorem check_any (a : Option Addr) (cap : Nat) (l : List Ln) (w : World) (h : LnIs w a cap l) :
    Calls Tryd.prog 12 #[.slice a l.length cap] w fun e w' => e = .returned (.int .i64 (lnErr l : Nat)) ∧ Turned (fun _ => False) w w' := by
  have H : Hid (LnIs w a cap l) := h
  obtain ⟨L, hL⟩ : ∃ L, L = l.length := ⟨_, rfl⟩
  have HL : Hid (L = l.length) := hL
  by_cases h8 : 8 < L
  · have HE : Hid (lnErr l = 5) := by
      have : lnErr l = 5 := by unfold lnErr; rw [if_pos (by omega)]
      exact this
    rw [← hL, HE.out]
    clear h hL
    go_enter Tryd.func12, Tryd.ntmps12
    go_wp2
    go_ret
    exact ⟨rfl, Turned.refl _ _⟩
  · have HE : Hid (lnErr l = chkLn [] l) := by
      have : lnErr l = chkLn [] l := by unfold lnErr; rw [if_neg (by omega)]
      exact this
    have H8 : Hid (L ≤ 8) := (by omega : L ≤ 8)
    have HSL : Hid (∀ j W, j ≤ L → (Instr.slice 25 (.slice a L cap) none (some (.int .i64 (j : Nat))) none).run Tryd.prog W = .ok (.slice a j cap) W) := fun j W hj => by
      have := lns_to h j (by omega) W
      rw [← hL] at this
      exact this
    rw [← hL, HE.out]
    have HS : Hid (CkRel w l L (.int .i64 0) w) := ⟨0, by omega, rfl, rfl, fun x hx => by simp at hx, Turned.refl _ _⟩
    clear h hL
    go_enter Tryd.func12, Tryd.ntmps12
    go_wp2
    go_loopg [10] L (fun g i wr => CkRel w l g i wr)
    case atStart => exact HS.out
    case round =>
      obtain ⟨j, hjg, rfl, hck, hcn, ht⟩ := hrel
      have T : Hid (Turned (fun _ => False) w wr) := ht
      have G : Hid (j + gk = l.length) := hjg
      have CK : Hid (chkLn [] l = chkLn (l.take j) (l.drop j)) := hck
      have CN : Hid (∀ x ∈ l.take j, 1 ≤ x.2.1 ∧ x.2.1 ≤ 65536) := hcn
      clear hjg hck hcn ht HS
      by_cases hlt : j < L
      · obtain ⟨c, hc⟩ : ∃ c, l[j]? = some c := ⟨_, List.getElem?_eq_getElem (by rw [← HL.out]; exact hlt)⟩
        obtain ⟨b, off, rfl, hbw, c0, c1, c2⟩ := lnIs_any (H.out.turned T.out) j c hc
        have hj2 := (List.getElem?_eq_some_iff.1 hc).1
        have hcj : c = l[j] := (List.getElem?_eq_some_iff.1 hc).2.symm
        have hdr : l.drop j = c :: l.drop (j + 1) := by rw [List.drop_eq_getElem_cons hj2, hcj]
        have hckk := CK.out
        rw [hdr, chkLn] at hckk
        have DR : Hid (l[j]? = some c ∧ c ∈ l) := ⟨hc, List.mem_of_getElem? hc⟩
        have hs1 := HSL.out j (wr.alloc (.cells #[.int .i64 c.1, .int .i64 c.2.1, .int .u32 (c.2.2 : Nat)] 43)) (by omega)
        have hnu := fun W => numbered_any c.1 W
        have hcon : Calls Tryd.prog 33 #[.slice (some ⟨b, off, none⟩) j cap, .func (.func 34) #[] #[pt wr.heap.size]] (wr.alloc (.cells #[.int .i64 c.1, .int .i64 c.2.1, .int .u32 (c.2.2 : Nat)] 43)) fun e w' => e = .returned (.bool (hasLn (l.take j) c.1)) ∧ Turned (fun _ => False) (wr.alloc (.cells #[.int .i64 c.1, .int .i64 c.2.1, .int .u32 (c.2.2 : Nat)] 43)) w' := by
          have := lcontains_any (some ⟨b, off, none⟩) cap wr.heap.size (l.take j) c (wr.alloc (.cells #[.int .i64 c.1, .int .i64 c.2.1, .int .u32 (c.2.2 : Nat)] 43)) (((H.out.take j (by have := HL.out; omega)).turned T.out).turned (Turned.alloc _ _ _)) (cell_of (heap_alloc_last wr _) 0 _ rfl)
          rw [List.length_take, Nat.min_eq_left (by have := HL.out; omega)] at this
          exact this
        clear hc hj2 hcj hdr
        have hcase : (numb c.1 = false ∧ badLn c = true) ∨ (numb c.1 = true ∧ decide (c.2.1 < 1) = true ∧ badLn c = true) ∨ (numb c.1 = true ∧ decide (c.2.1 < 1) = false ∧ decide (65536 < c.2.1) = true ∧ badLn c = true) ∨ (numb c.1 = true ∧ decide (c.2.1 < 1) = false ∧ decide (65536 < c.2.1) = false ∧ badLn c = false) := by
          unfold badLn
          cases numb c.1 <;> cases decide (c.2.1 < 1) <;> cases decide (65536 < c.2.1) <;> simp
        rcases hcase with ⟨hn, hb⟩ | ⟨hn, hd1, hb⟩ | ⟨hn, hd1, hd2, hb⟩ | ⟨hn, hd1, hd2, hb⟩
        · rw [if_pos hb] at hckk
          have HR : Hid (chkLn [] l = 1) := hckk
          rw [hn] at hnu
          clear hckk hb hcon hs1
          go_wp2_with (go_at_call 32; (with_reducible refine (hnu _).mono ?_); rintro e w2 ⟨rfl, rfl⟩)
          go_ret
          exact ⟨by rw [HR.out]; rfl, T.out.new _⟩
        · rw [if_pos hb] at hckk
          have HR : Hid (chkLn [] l = 1) := hckk
          rw [hn] at hnu
          clear hckk hb hcon hs1
          go_wp2_with (go_at_call 32; (with_reducible refine (hnu _).mono ?_); rintro e w2 ⟨rfl, rfl⟩)
          go_ret
          exact ⟨by rw [HR.out]; rfl, T.out.new _⟩
        · rw [if_pos hb] at hckk
          have HR : Hid (chkLn [] l = 1) := hckk
          rw [hn] at hnu
          clear hckk hb hcon hs1
          go_wp2_with (go_at_call 32; (with_reducible refine (hnu _).mono ?_); rintro e w2 ⟨rfl, rfl⟩)
          go_ret
          exact ⟨by rw [HR.out]; rfl, T.out.new _⟩
        · rw [if_neg (by rw [hb]; simp)] at hckk
          rw [hn] at hnu
          have hcb : 1 ≤ c.2.1 ∧ c.2.1 ≤ 65536 := by
            have h1 : ¬ c.2.1 < 1 := by simpa using hd1
            have h2 : ¬ 65536 < c.2.1 := by simpa using hd2
            omega
          by_cases hh : hasLn (l.take j) c.1 = true
          · rw [if_pos hh] at hckk
            have HR : Hid (chkLn [] l = 11) := hckk
            rw [hh] at hcon
            clear hckk hb hh hcb
            go_wp2_with (first
              | (go_at_call 32; (with_reducible refine (hnu _).mono ?_); rintro e w2 ⟨rfl, rfl⟩)
              | (go_at_call 33; (with_reducible refine hcon.mono ?_); rintro e w3 ⟨rfl, ht3⟩))
            go_ret
            exact ⟨by rw [HR.out]; rfl, (T.out.new _).trans ht3 fun _ _ q => q⟩
          · have hh2 : hasLn (l.take j) c.1 = false := by simpa using hh
            rw [if_neg hh] at hckk
            rw [hh2] at hcon
            have htk : l.take (j + 1) = l.take j ++ [c] := by rw [List.take_add_one, DR.out.1]; rfl
            have hcn2 : ∀ x ∈ l.take (j + 1), 1 ≤ x.2.1 ∧ x.2.1 ≤ 65536 := by
              intro x hx
              rw [htk] at hx
              rcases List.mem_append.1 hx with q | q
              · exact CN.out x q
              · rw [List.mem_singleton] at q; subst q; exact hcb
            have hlj : (l.take (j + 1)).length = j + 1 := by rw [List.length_take]; have := HL.out; omega
            have htot := fun W (ht2 : Turned (fun _ => False) w W) => total_any (some ⟨b, off, none⟩) cap (l.take (j + 1)) W ((H.out.take (j + 1) (by have := HL.out; omega)).turned ht2) (fun i => by
              have := tot_bound ((l.take (j + 1)).take i) fun x hx => hcn2 x (List.mem_of_mem_take hx)
              have h3 : ((l.take (j + 1)).take i).length ≤ 8 := by have := H8.out; rw [List.length_take, hlj]; omega
              unfold I64; omega) (by have := H8.out; omega)
            rw [hlj] at htot
            have hs2 : ∀ W, (Instr.slice 25 (.slice (some ⟨b, off, none⟩) L cap) none (some (.int .i64 ((j : Int) + 1))) none).run Tryd.prog W = .ok (.slice (some ⟨b, off, none⟩) (j + 1) cap) W := fun W => HSL.out (j + 1) W (by omega)
            rw [← htk] at hckk
            have HT : Hid (∀ W, Turned (fun _ => False) w W → Calls Tryd.prog 35 #[.slice (some ⟨b, off, none⟩) (j + 1) cap] W fun e w' => e = .returned (.int .i64 (totLn (l.take (j + 1)))) ∧ Turned (fun _ => False) W w') := htot
            have CN2 : Hid (∀ x ∈ l.take (j + 1), 1 ≤ x.2.1 ∧ x.2.1 ≤ 65536) := hcn2
            have HCK : Hid (chkLn [] l = if 65536 < totLn (l.take (j + 1)) then 1 else chkLn (l.take (j + 1)) (l.drop (j + 1))) := hckk
            clear htot hcn2 hlj htk hh hh2 hckk hb hcb
            generalize htt : totLn (l.take (j + 1)) = tt at HT HCK
            clear htt
            by_cases hbig : 65536 < tt
            · have hd5 : decide (65536 < tt) = true := by simp; omega
              have HR : Hid (chkLn [] l = 1) := by have := HCK.out; rw [if_pos hbig] at this; exact this
              clear hbig HCK
              go_wp2_with (first
                | (go_at_call 32; (with_reducible refine (hnu _).mono ?_); rintro e w2 ⟨rfl, rfl⟩)
                | (go_at_call 33; (with_reducible refine hcon.mono ?_); rintro e w3 ⟨rfl, ht3⟩; have T3 : Hid (Turned (fun _ => False) w w3) := (T.out.new _).trans ht3 (fun _ _ q => q); have h35 := HT.out w3 T3.out; clear ht3)
                | (go_at_call 35; (with_reducible refine h35.mono ?_); rintro e w4 ⟨rfl, ht4⟩))
              go_ret
              exact ⟨by rw [HR.out]; rfl, T3.out.trans ht4 fun _ _ q => q⟩
            · have hd5 : decide (65536 < tt) = false := by simp; omega
              have HR : Hid (chkLn [] l = chkLn (l.take (j + 1)) (l.drop (j + 1))) := by have := HCK.out; rw [if_neg hbig] at this; exact this
              clear hbig HCK
              go_wp2_with (first
                | (go_at_call 32; (with_reducible refine (hnu _).mono ?_); rintro e w2 ⟨rfl, rfl⟩)
                | (go_at_call 33; (with_reducible refine hcon.mono ?_); rintro e w3 ⟨rfl, ht3⟩; have T3 : Hid (Turned (fun _ => False) w w3) := (T.out.new _).trans ht3 (fun _ _ q => q); have h35 := HT.out w3 T3.out; clear ht3)
                | (go_at_call 35; (with_reducible refine h35.mono ?_); rintro e w4 ⟨rfl, ht4⟩))
              go_roundg (gk - 1)
              case measure => have := G.out; have := HL.out; omega
              case rel => exact ⟨j + 1, by have := G.out; have := HL.out; omega, by simp, HR.out, CN2.out, T3.out.trans ht4 fun _ _ q => q⟩
      · have hj : j = L := by have := G.out; have := HL.out; omega
        subst hj
        have HR : Hid (chkLn [] l = 0) := by
          have := CK.out
          rw [List.drop_of_length_le (by have := HL.out; omega)] at this
          exact this
        go_wp2
        go_ret
        exact ⟨by rw [HR.out]; rfl, T.out⟩
end Go.Proofs.YtfeljngmidhajaaDoor

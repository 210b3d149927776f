/- parsed, reads, the law ScriptParses -/
import Derived.Test.YteblabpplaaddaaGreatDoorMx
import Derived.Test.YteblabpplaaddaaGreatDoorMp
import Derived.Test.YteblabpplaaddaaGreatDoorPd
set_option linter.unusedVariables false
set_option linter.unusedSimpArgs false
namespace Go.Proofs.YteblabpplaaddaaGreatDoor
open Go.RowKit Go.Mine Go.Mine.Sc

theorem treeOf_le : ∀ (l : List Int) (m : List B) (t : List (B × Int)), treeOf l m = some t → t.length ≤ l.length
  | [], m, t, h => by
    have e : treeOf [] m = some [] := by cases m <;> simp [treeOf]
    rw [e] at h
    rw [← Option.some.inj h]; simp
  | n :: l, [], t, h => by
    simp [treeOf] at h
  | n :: l, x :: m, t, h => by
    simp only [treeOf] at h
    split at h
    · obtain ⟨t', h1, rfl⟩ := Option.map_eq_some_iff.1 h
      have := treeOf_le l m t' h1
      simp; omega
    · simp at h
def Fine (c : Cmd) : Prop := c.nums.length ≤ 1000000 ∧ c.tree.length ≤ 1000000 ∧ c.ask.ids.length ≤ 1000000
theorem cmdOf_fine {k : Int} {ns : List Int} {xs : List B} {c : Cmd} (h : cmdOf k ns xs = some c) (hb : ns.length + xs.length ≤ 1000000) : Fine c := by
  unfold cmdOf at h
  split at h
  · simp at h
  · split at h
    · have e := Option.some.inj h
      subst e
      unfold askedOf
      split <;> exact ⟨by simp, by simp, by simp; try omega⟩
    · split at h
      · split at h
        · rw [← Option.some.inj h]; exact ⟨by simp; omega, by simp, by simp⟩
        · simp at h
      · split at h
        · obtain ⟨t, h1, rfl⟩ := Option.map_eq_some_iff.1 h
          have := treeOf_le _ _ _ h1
          exact ⟨by simp, by simp; omega, by simp⟩
        · split at h
          · rw [← Option.some.inj h]; exact ⟨by simp; omega, by simp, by simp⟩
          · split at h
            · rw [← Option.some.inj h]; exact ⟨by simp; omega, by simp, by simp⟩
            · rw [← Option.some.inj h]; exact ⟨by simp; omega, by simp, by simp⟩
theorem pLine_fine {s : B} {c : Cmd} (h : pLine s = some c) (hs : s.length ≤ 1000000) : Fine c := by
  rw [← line_same] at h
  unfold rLine at h
  split at h
  · simp at h
  · rename_i q hq
    have := words_bound _ _ _ _ q (Nat.le_refl _) hq
    have := aft_le s
    exact cmdOf_fine h (by omega)
theorem pLines_fine : ∀ (ls : List B) (l : List Cmd), pLines ls = some l → (∀ x ∈ ls, x.length ≤ 1000000) → l.length ≤ ls.length ∧ ∀ c ∈ l, Fine c
  | [], l, h, _ => by
    rw [pLines] at h
    rw [← Option.some.inj h]; exact ⟨Nat.le_refl _, by simp⟩
  | x :: ls, l, h, hx => by
    rw [pLines] at h
    split at h
    · split at h
      · simp at h
      · rename_i c hc
        obtain ⟨l', h1, rfl⟩ := Option.map_eq_some_iff.1 h
        obtain ⟨i1, i2⟩ := pLines_fine ls l' h1 fun y hy => hx y (List.mem_cons_of_mem _ hy)
        refine ⟨by simp; omega, fun d hd => ?_⟩
        rcases List.mem_cons.1 hd with rfl | hd
        · exact pLine_fine hc (hx x (List.mem_cons_self ..))
        · exact i2 d hd
    · obtain ⟨i1, i2⟩ := pLines_fine ls l h fun y hy => hx y (List.mem_cons_of_mem _ hy)
      exact ⟨by simp; omega, i2⟩
theorem parseS_small (t : B) : Small (parseS 5 14 t).1 := by
  rw [← rParse_same]
  unfold rParse
  split
  · exact ⟨by simp, by simp⟩
  · rename_i h
    split
    · exact ⟨by simp, by simp⟩
    · rename_i l hl
      obtain ⟨i1, i2⟩ := pLines_fine _ _ hl fun x hx => by have := dLines_le t x hx; omega
      exact ⟨by simp only []; omega, i2⟩

theorem CmdsAt.bound {w : World} {S : Nat → Prop} {e : TypeId} {v : Value} {l : List Cmd} (h : CmdsAt w S e v l) : CmdsAt w (fun b => S b ∧ b < w.heap.size) e v l := by
  obtain ⟨xs, R, h1, h2, h3⟩ := h.opens
  exact ⟨xs, R, h1, h2, h3.widen fun b q => ⟨⟨q.1, q.2.2⟩, q.2.1⟩⟩

set_option maxRecDepth 100000 in
set_option maxHeartbeats 4000000 in
theorem parsed_any (w0 w : World) (t : B) (hL : Lw w0 w) (hs : t.length ≤ 4611686018427387904) : Calls Tryz.prog 9 #[.string (bs t)] w fun e w' => e = .returned (.bool true) ∧ Turned (fun _ => False) w w' := by
  have SM : Hid (Small (parseS 5 14 t).1) := parseS_small t
  have P1 : Hid (∀ W, Turned (fun _ => False) w W → Calls Tryz.prog 12 #[.string (bs t)] W (ParsePost W (parseS 5 14 t))) := fun W tw => parse_any w0 W t (hL.turned tw fun _ q => q.elim) hs
  have P2 : Hid (∀ W, Calls Tryz.prog 22 #[.string (bs t)] W (ParseDPost W (parseS 5 14 t))) := fun W => parse_doc t W
  generalize parseS 5 14 t = lr at *
  obtain ⟨l, r⟩ := lr
  have SL : Hid (l.length ≤ 1024) := SM.out.1
  generalize bs t = x at *
  clear hL hs
  go_enter Tryz.func9, Tryz.ntmps9
  go_wp2_with (first
    | (go_at_call 12; (with_reducible refine (P1.out _ (Turned.refl _ _)).mono ?_); rintro e w1 ⟨⟨v1, rfl, c1⟩, t1⟩
       obtain ⟨a1, k1, rfl⟩ := c1.value
       have X1 : Hid (CmdsAt w1 (fun b => w.heap.size ≤ b) 39 (.slice a1 l.length k1) l ∧ Turned (fun _ => False) w w1) := ⟨c1, t1⟩
       clear c1 t1)
    | (go_at_call 22; (with_reducible refine (P2.out _).mono ?_); rintro e w2 ⟨⟨v2, rfl, c2⟩, t2⟩
       obtain ⟨a2, k2, rfl⟩ := c2.value
       have X2 : Hid (CmdsAt w2 (fun b => w1.heap.size ≤ b) 40 (.slice a2 l.length k2) l ∧ Turned (fun _ => False) w1 w2) := ⟨c2, t2⟩
       clear c2 t2)
    | (go_at_call 14; (with_reducible refine (same_any _ _ _ _ _ l (X1.out.1.turned X2.out.2 fun _ _ q => q).r X2.out.1.r (Nat.le_trans SL.out (by decide))).mono ?_); rintro e w3 ⟨rfl, t3⟩
       have X3 : Hid (CmdsAt w3 (fun b => w.heap.size ≤ b ∧ b < w1.heap.size) 39 (.slice a1 l.length k1) l ∧ Turned (fun _ => False) w2 w3) := ⟨(X1.out.1.bound.turned X2.out.2 fun _ _ q => q).turned t3 fun _ _ q => q, t3⟩
       clear t3)
    | (go_at_call 23; (with_reducible refine (spoilt_any w3 _ _ l X3.out.1 SM.out).mono ?_); rintro e w4 ⟨rfl, t4⟩
       have X4 : Hid (CmdsAt w4 (fun b => w1.heap.size ≤ b) 40 (.slice a2 l.length k2) l ∧ Turned (fun _ => False) w w4) :=
         ⟨(X2.out.1.turned X3.out.2 fun _ _ q => q).turned t4.turn fun b q z => by omega, (((X1.out.2.trans X2.out.2 fun _ _ q => q).trans X3.out.2 fun _ _ q => q).comp t4.turn fun b hb q => q.elim id fun q => by omega)⟩
       clear t4)
    | (go_at_call 12; (with_reducible refine (P1.out _ X4.out.2).mono ?_); rintro e w5 ⟨⟨v5, rfl, c5⟩, t5⟩
       obtain ⟨a5, k5, rfl⟩ := c5.value
       have X5 : Hid (CmdsAt w5 (fun b => w4.heap.size ≤ b) 39 (.slice a5 l.length k5) l ∧ CmdsAt w5 (fun b => w1.heap.size ≤ b) 40 (.slice a2 l.length k2) l ∧ Turned (fun _ => False) w w5) := ⟨c5, X4.out.1.turned t5 fun _ _ q => q, X4.out.2.trans t5 fun _ _ q => q⟩
       clear c5 t5)
    | (go_at_call 14; (with_reducible refine (same_any _ _ _ _ _ l X5.out.1.r X5.out.2.1.r (Nat.le_trans SL.out (by decide))).mono ?_); rintro e w6 ⟨rfl, t6⟩
       have X6 : Hid (Turned (fun _ => False) w w6) := X5.out.2.2.trans t6 fun _ _ q => q
       clear t6))
  go_ret
  exact ⟨rfl, X6.out⟩
end Go.Proofs.YteblabpplaaddaaGreatDoor

namespace Go.Proofs.YteblabpplaaddaaGreatDoor
open Go.RowKit Go.Mine Go.Mine.Sc

def exText : B := [116, 114, 101, 101, 32, 34, 97, 34, 32, 49, 32, 34, 34, 32, 50, 10, 35, 32, 110, 111, 10, 10, 99, 111, 109, 109, 105, 116, 32, 48, 32, 51, 32, 52]
def exList : List Cmd := [{ kind := 2, tree := [([97], 1), ([], 2)] }, { kind := 3, nums := [0, 3, 4] }]
theorem can0 : canon [48] = some 0 := by decide +kernel
theorem can1 : canon [49] = some 1 := by decide +kernel
theorem can2 : canon [50] = some 2 := by decide +kernel
theorem can3 : canon [51] = some 3 := by decide +kernel
theorem can4 : canon [52] = some 4 := by decide +kernel
theorem ex_h1 : pLine [116, 114, 101, 101, 32, 34, 97, 34, 32, 49, 32, 34, 34, 32, 50] = some { kind := 2, tree := [([97], 1), ([], 2)] } := by
  have a1 : pText [32, 34, 97, 34, 32, 49, 32, 34, 34, 32, 50] = some ([97], [32, 49, 32, 34, 34, 32, 50]) := by simp [pText, qf]
  have a2 : pSmall [32, 49, 32, 34, 34, 32, 50] = some (1, [32, 34, 34, 32, 50]) := by simp [pSmall, pNum, tok, aft, can1, List.takeWhile, List.dropWhile]
  have a3 : pText [32, 34, 34, 32, 50] = some ([], [32, 50]) := by simp [pText, qf]
  have a4 : pSmall [32, 50] = some (2, []) := by simp [pSmall, pNum, tok, aft, can2, List.takeWhile, List.dropWhile]
  have k : kindIn cnames [116, 114, 101, 101] = 2 := by decide +kernel
  have t : tok [116, 114, 101, 101, 32, 34, 97, 34, 32, 49, 32, 34, 34, 32, 50] = [116, 114, 101, 101] := by decide
  have u : aft [116, 114, 101, 101, 32, 34, 97, 34, 32, 49, 32, 34, 34, 32, 50] = [32, 34, 97, 34, 32, 49, 32, 34, 34, 32, 50] := by decide
  unfold pLine
  rw [t, u, k]
  simp [pBody, ends, pTree_some a1 a2, pTree_some a3 a4, pTree_nil]
theorem ex_h2 : pLine [99, 111, 109, 109, 105, 116, 32, 48, 32, 51, 32, 52] = some { kind := 3, nums := [0, 3, 4] } := by
  have a1 : pNum [32, 48, 32, 51, 32, 52] = some (0, [32, 51, 32, 52]) := by simp [pNum, tok, aft, can0, List.takeWhile, List.dropWhile]
  have a2 : pNum [32, 51, 32, 52] = some (3, [32, 52]) := by simp [pNum, tok, aft, can3, List.takeWhile, List.dropWhile]
  have a3 : pNum [32, 52] = some (4, []) := by simp [pNum, tok, aft, can4, List.takeWhile, List.dropWhile]
  have k : kindIn cnames [99, 111, 109, 109, 105, 116] = 3 := by decide +kernel
  have t : tok [99, 111, 109, 109, 105, 116, 32, 48, 32, 51, 32, 52] = [99, 111, 109, 109, 105, 116] := by decide
  have u : aft [99, 111, 109, 109, 105, 116, 32, 48, 32, 51, 32, 52] = [32, 48, 32, 51, 32, 52] := by decide
  unfold pLine
  rw [t, u, k]
  simp [pBody, ends, a1, pNums_some a2, pNums_some a3, pNums_nil]
theorem ex_reads : parseS 5 14 exText = (exList, 0) := by
  unfold parseS
  rw [if_neg (by decide)]
  have h : parts exText = [[116, 114, 101, 101, 32, 34, 97, 34, 32, 49, 32, 34, 34, 32, 50], [35, 32, 110, 111], [], [99, 111, 109, 109, 105, 116, 32, 48, 32, 51, 32, 52]] := by simp [exText, parts]
  rw [h]
  have h1 : pLine [116, 114, 101, 101, 32, 34, 97, 34, 32, 49, 32, 34, 34, 32, 50] = some { kind := 2, tree := [([97], 1), ([], 2)] } := ex_h1
  have h2 : pLine [99, 111, 109, 109, 105, 116, 32, 48, 32, 51, 32, 52] = some { kind := 3, nums := [0, 3, 4] } := ex_h2
  simp [pLines, says, h1, h2, exList]
end Go.Proofs.YteblabpplaaddaaGreatDoor

namespace Go.Proofs.YteblabpplaaddaaGreatDoor
open Go.RowKit Go.Mine Go.Mine.Sc

theorem sl_at3 {W : World} {S : Nat → Prop} {e : TypeId} {k : Nat} {a : Option Addr} {n cap : Nat} {xs : List Value} (h : Sl W S e k (.slice a n cap) xs n) (h0 : 0 < n) : ∃ g off, a = some ⟨g, off, none⟩ ∧ g < W.heap.size ∧ ∀ j, j < n * k → W.cell? ⟨g, off + j, none⟩ = xs[j]? := by
  obtain ⟨g, off, cap', hv, -, -, -, hc, -, hlt⟩ := h.opens h0
  injection hv with hv
  exact ⟨g, off, hv, hlt, fun j hj => hc j hj⟩

set_option maxRecDepth 100000 in
set_option maxHeartbeats 4000000 in
theorem reads_any (w0 w : World) (hL : Lw w0 w) : Calls Tryz.prog 8 #[] w fun e w' => e = .returned (.bool true) ∧ Turned (fun _ => False) w w' := by
  have P1 : Calls Tryz.prog 12 #[.string ⟨#[116, 114, 101, 101, 32, 34, 97, 34, 32, 49, 32, 34, 34, 32, 50, 10, 35, 32, 110, 111, 10, 10, 99, 111, 109, 109, 105, 116, 32, 48, 32, 51, 32, 52]⟩] w (ParsePost w (exList, 0)) := by
    have := parse_any w0 w exText hL (by decide)
    rw [ex_reads] at this
    exact this
  clear hL
  go_enter Tryz.func8, Tryz.ntmps8
  go_upto_region 2 with (go_at_call 12; (with_reducible refine P1.mono ?_); rintro e w1 ⟨⟨v1, rfl, c1⟩, t1⟩; obtain ⟨a1, k1, rfl⟩ := c1.value; have X1 : Hid (CmdsAt w1 (fun b => w.heap.size ≤ b) 39 (.slice a1 exList.length k1) exList ∧ Turned (fun _ => False) w w1) := ⟨c1, t1⟩; clear c1 t1)
  clear P1
  obtain ⟨g, off, cs, rfl, -, l1, ⟨b1, n1, b4, n4, b9, n9, rfl, -, s4, -⟩, e1⟩ := X1.out.1.elem (j := 0) (c := { kind := 2, tree := [([97], 1), ([], 2)] }) rfl
  obtain ⟨g', off', ds, hv, -, -, ⟨d1, m1, d4, m4, d9, m9, rfl, r1, -, -⟩, e2⟩ := X1.out.1.elem (j := 1) (c := { kind := 3, nums := [0, 3, 4] }) rfl
  injection hv with hv
  injection hv with h1 h2
  subst h1; subst h2
  obtain ⟨ga, oa, hva, la, ca⟩ := sl_at3 s4 (by decide)
  obtain ⟨gb, ob, hvb, lb, cb⟩ := sl_at3 r1 (by decide)
  subst hva; subst hvb
  have p4 := e1 4 (by decide)
  have q0 := e2 0 (by decide)
  have q1 := e2 1 (by decide)
  have c2 : w1.cell? ⟨ga, oa + 2, none⟩ = some (.string ⟨#[]⟩) := ca 2 (by decide)
  have c3 : w1.cell? ⟨ga, oa + 2 + 1, none⟩ = some (.int .u32 2) := ca 3 (by decide)
  have z2 : w1.cell? ⟨gb, ob + 2, none⟩ = some (.int .i64 4) := cb 2 (by decide)
  simp only [List.getElem?_toArray, List.getElem?_cons_zero, List.getElem?_cons_succ, Nat.add_zero, Nat.zero_mul, Nat.one_mul, List.length_cons, List.length_nil, Nat.zero_add, Nat.reduceAdd] at p4 q0 q1
  clear e1 e2 ca cb s4 r1
  have hE : exList.length = 2 := rfl
  rw [hE]
  clear hE
  go_wp2
  go_ret
  exact ⟨rfl, X1.out.2⟩
end Go.Proofs.YteblabpplaaddaaGreatDoor

namespace Go.Proofs.YteblabpplaaddaaGreatDoor
open Go.RowKit Go.Mine Go.Mine.Sc

def PaR (w : World) (n g : Nat) (v : Value) (wr : World) : Prop := ∃ k : Nat, v = .int .i64 (k : Nat) ∧ k + g = n ∧ Turned (fun _ => False) w wr

set_option maxRecDepth 100000 in
set_option maxHeartbeats 4000000 in
theorem parses_law (w0 w : World) (s : B) (hL : Lw w0 w) (hs : s.length ≤ 4611686018427387904) : Calls Tryz.prog 3 #[.string (bs s)] w fun e w' => e = .returned (.bool true) ∧ Turned (fun _ => False) w w' := by
  have P : Hid (∀ (t : B) W, t.length ≤ s.length → Turned (fun _ => False) w W → Calls Tryz.prog 9 #[.string (bs t)] W fun e w' => e = .returned (.bool true) ∧ Turned (fun _ => False) W w') := fun t W ht tw => parsed_any w0 W t (hL.turned0 tw) (by omega)
  have R : Calls Tryz.prog 8 #[] w fun e w' => e = .returned (.bool true) ∧ Turned (fun _ => False) w w' := reads_any w0 w hL
  have HSZ : Hid ((bs s).size = s.length) := bs_size s
  have HS : Hid (s.length ≤ 4611686018427387904) := hs
  have ST : Hid (∀ k, k ≤ s.length → ∀ W, (Instr.slice 9 (.string (bs s)) none (some (.int .i64 (k : Nat))) none).run Tryz.prog W = .ok (.string (bs (s.take k))) W) := fun k h W => sl_to s k h W
  have PS : Hid (∀ W, Turned (fun _ => False) w W → Calls Tryz.prog 9 #[.string (bs s)] W fun e w' => e = .returned (.bool true) ∧ Turned (fun _ => False) W w') := fun W tw => P.out s W (Nat.le_refl _) tw
  generalize bs s = x at *
  obtain ⟨m, hm⟩ : ∃ m : Nat, m = min s.length 100 := ⟨_, rfl⟩
  have HM : Hid (m = min s.length 100) := hm
  have hmn : min (x.size : Int) 100 = (m : Int) := by rw [HSZ.out, hm]; omega
  have hmw : wrap64 ((m : Int) + 1) = ((m + 1 : Nat) : Int) := w64_in _ (by omega)
  clear hL hs hm
  go_enter Tryz.func3, Tryz.ntmps3
  go_upto_region 4 with (go_at_call 8; (with_reducible refine R.mono ?_); rintro e w1 ⟨rfl, t1⟩; have T1 : Hid (Turned (fun _ => False) w w1) := t1; clear t1)
  clear R hmn
  obtain ⟨n, hn⟩ : ∃ n : Nat, n = m + 1 := ⟨_, rfl⟩
  have HN : Hid (n = m + 1) := hn
  have hc : ((m : Int) + 1) = (n : Int) := by omega
  try rw [hc]
  try rw [← hn]
  have B0 : Hid (PaR w n n (.int .i64 0) w1) := ⟨0, rfl, by omega, T1.out⟩
  clear hn hmw hc
  go_loopg [10] n (fun g v wr => PaR w n g v wr)
  case atStart => exact B0.out
  case round =>
    obtain ⟨k, rfl, hkg, ht⟩ := hrel
    have G : Hid (k + gk = n ∧ Turned (fun _ => False) w wr) := ⟨hkg, ht⟩
    clear hkg ht B0
    by_cases hlt : k < n
    · have hd1 : decide ((k : Int) < (n : Int)) = true := by simp; omega
      have hd2 : decide (k < n) = true := by simp; omega
      have HK : Hid (k ≤ s.length ∧ n ≤ 101) := hidD (by have := HN.out; have := HM.out; omega)
      have st := ST.out k HK.out.1
      have p9 : Calls Tryz.prog 9 #[.string (bs (s.take k))] wr fun e w' => e = .returned (.bool true) ∧ Turned (fun _ => False) wr w' := P.out (s.take k) wr (by simp; omega) G.out.2
      have HW : Hid (wrap64 ((k : Int) + 1) = ((k + 1 : Nat) : Int)) := hidD (w64_in _ (by have := HK.out; omega))
      generalize bs (s.take k) = y at *
      go_wp2_with (go_at_call 9; (with_reducible refine p9.mono ?_); rintro e w2 ⟨rfl, t2⟩; have T2 : Hid (Turned (fun _ => False) wr w2) := t2; clear t2)
      go_roundg (gk - 1)
      case measure => have := G.out; omega
      case rel => exact ⟨k + 1, by rw [HW.out], by have := G.out; omega, G.out.2.trans T2.out fun _ _ q => q⟩
    · have hd1 : decide ((k : Int) < (n : Int)) = false := by simp; omega
      have hd2 : decide (k < n) = false := by simp; omega
      have p9 := PS.out wr G.out.2
      go_wp2_with (go_at_call 9; (with_reducible refine p9.mono ?_); rintro e w2 ⟨rfl, t2⟩; have T2 : Hid (Turned (fun _ => False) wr w2) := t2; clear t2)
      go_ret
      exact ⟨rfl, G.out.2.trans T2.out fun _ _ q => q⟩
end Go.Proofs.YteblabpplaaddaaGreatDoor

/- The law ScriptQuotes: its walk. -/
import Derived.Test.YteblabpplaaddaaDoorQp
import Derived.Test.YteblabpplaaddaaDoorQw
set_option linter.unusedVariables false
set_option linter.unusedSimpArgs false
namespace Go.Proofs.YteblabpplaaddaaDoor
open Go.RowKit Go.Mine Go.Mine.Sc

theorem CmdsV.at {w : World} {S : Nat → Prop} : ∀ {l : List Cmd} {xs : List Value}, CmdsV w S l xs → ∀ j c, l[j]? = some c → ∃ cs : Array Value, CmdV w S c cs ∧ ∀ i, i < 11 → xs[j * 11 + i]? = cs[i]?
  | [], _, _, j, c, h => by simp at h
  | c0 :: l, _, ⟨cs, rest, e, h1, h2⟩, j, c, h => by
    subst e
    have hs : cs.toList.length = 11 := by rw [Array.length_toList]; exact h1.size
    cases j with
    | zero =>
      simp only [List.getElem?_cons_zero, Option.some.injEq] at h
      subst h
      exact ⟨cs, h1, fun i hi => by rw [Nat.zero_mul, Nat.zero_add, List.getElem?_append_left (by omega), Array.getElem?_toList]⟩
    | succ j =>
      obtain ⟨cs', h3, h4⟩ := h2.at j c (by simpa using h)
      exact ⟨cs', h3, fun i hi => by rw [← h4 i hi, List.getElem?_append_right (by omega)]; congr 1; omega⟩

/-- an element's cells in its row -/
theorem CmdsAt.elem {w : World} {S : Nat → Prop} {e : TypeId} {a : Option Addr} {n cap : Nat} {l : List Cmd} (h : CmdsAt w S e (.slice a n cap) l) {j : Nat} {c : Cmd} (hc : l[j]? = some c) :
    ∃ g off cs, a = some ⟨g, off, none⟩ ∧ S g ∧ g < w.heap.size ∧ CmdV w (fun b => S b ∧ b ≠ g) c cs ∧ ∀ i, i < 11 → w.cell? ⟨g, off + j * 11 + i, none⟩ = cs[i]? := by
  obtain ⟨xs, R, h1, h2, h3⟩ := h
  have hj : j < l.length := (List.getElem?_eq_some_iff.1 hc).1
  obtain ⟨g, off, cap', hv, hR, -, -, hcl, -, hlt⟩ := h2.opens (by omega)
  injection hv with e1 e2 e3
  obtain ⟨cs, hcs, hx⟩ := h3.at j c hc
  have hm : (j + 1) * 11 ≤ l.length * 11 := Nat.mul_le_mul_right _ hj
  refine ⟨g, off, cs, e1, h1 g hR, hlt, hcs.widen fun b q => ⟨q.1, fun z => q.2 (z ▸ hR)⟩, fun i hi => ?_⟩
  rw [Nat.add_assoc, hcl (j * 11 + i) (by omega), hx i hi]

theorem bs_append (a b : B) : bs a ++ bs b = bs (a ++ b) := by
  apply ByteArray.ext
  simp [ByteArray.data_append]
def exText : B := [116, 114, 101, 101, 32, 34, 97, 34, 32, 49, 32, 34, 34, 32, 50, 10, 35, 32, 110, 111, 10, 10, 99, 111, 109, 109, 105, 116, 32, 48, 32, 51, 32, 52]
def exList : List Cmd := [{ kind := 2, tree := [([97], 1), ([], 2)] }, { kind := 3, nums := [0, 3, 4] }]
theorem can0 : canon [48] = some 0 := by decide +kernel
theorem can1 : canon [49] = some 1 := by decide +kernel
theorem can2 : canon [50] = some 2 := by decide +kernel
theorem can3 : canon [51] = some 3 := by decide +kernel
theorem can4 : canon [52] = some 4 := by decide +kernel
theorem ex_h1 : pLine [116, 114, 101, 101, 32, 34, 97, 34, 32, 49, 32, 34, 34, 32, 50] = some { kind := 2, tree := [([97], 1), ([], 2)] } := by
  have a1 : pText [32, 34, 97, 34, 32, 49, 32, 34, 34, 32, 50] = some ([97], [32, 49, 32, 34, 34, 32, 50]) := by simp [pText, qf]
  have a2 : pSmall [32, 49, 32, 34, 34, 32, 50] = some (1, [32, 34, 34, 32, 50]) := by simp [pSmall, pNum, tok, aft, can1, List.takeWhile, List.dropWhile]
  have a3 : pText [32, 34, 34, 32, 50] = some ([], [32, 50]) := by simp [pText, qf]
  have a4 : pSmall [32, 50] = some (2, []) := by simp [pSmall, pNum, tok, aft, can2, List.takeWhile, List.dropWhile]
  have k : kindIn cnames [116, 114, 101, 101] = 2 := by decide +kernel
  have t : tok [116, 114, 101, 101, 32, 34, 97, 34, 32, 49, 32, 34, 34, 32, 50] = [116, 114, 101, 101] := by decide
  have u : aft [116, 114, 101, 101, 32, 34, 97, 34, 32, 49, 32, 34, 34, 32, 50] = [32, 34, 97, 34, 32, 49, 32, 34, 34, 32, 50] := by decide
  unfold pLine
  rw [t, u, k]
  simp [pBody, ends, pTree_some a1 a2, pTree_some a3 a4, pTree_nil]
theorem ex_h2 : pLine [99, 111, 109, 109, 105, 116, 32, 48, 32, 51, 32, 52] = some { kind := 3, nums := [0, 3, 4] } := by
  have a1 : pNum [32, 48, 32, 51, 32, 52] = some (0, [32, 51, 32, 52]) := by simp [pNum, tok, aft, can0, List.takeWhile, List.dropWhile]
  have a2 : pNum [32, 51, 32, 52] = some (3, [32, 52]) := by simp [pNum, tok, aft, can3, List.takeWhile, List.dropWhile]
  have a3 : pNum [32, 52] = some (4, []) := by simp [pNum, tok, aft, can4, List.takeWhile, List.dropWhile]
  have k : kindIn cnames [99, 111, 109, 109, 105, 116] = 3 := by decide +kernel
  have t : tok [99, 111, 109, 109, 105, 116, 32, 48, 32, 51, 32, 52] = [99, 111, 109, 109, 105, 116] := by decide
  have u : aft [99, 111, 109, 109, 105, 116, 32, 48, 32, 51, 32, 52] = [32, 48, 32, 51, 32, 52] := by decide
  unfold pLine
  rw [t, u, k]
  simp [pBody, ends, a1, pNums_some a2, pNums_some a3, pNums_nil]
theorem ex_reads : parseS 5 14 exText = (exList, 0) := by
  unfold parseS
  rw [if_neg (by decide)]
  have h : parts exText = [[116, 114, 101, 101, 32, 34, 97, 34, 32, 49, 32, 34, 34, 32, 50], [35, 32, 110, 111], [], [99, 111, 109, 109, 105, 116, 32, 48, 32, 51, 32, 52]] := by simp [exText, parts]
  rw [h]
  have h1 : pLine [116, 114, 101, 101, 32, 34, 97, 34, 32, 49, 32, 34, 34, 32, 50] = some { kind := 2, tree := [([97], 1), ([], 2)] } := ex_h1
  have h2 : pLine [99, 111, 109, 109, 105, 116, 32, 48, 32, 51, 32, 52] = some { kind := 3, nums := [0, 3, 4] } := ex_h2
  simp [pLines, says, h1, h2, exList]
end Go.Proofs.YteblabpplaaddaaDoor

namespace Go.Proofs.YteblabpplaaddaaDoor
open Go.RowKit Go.Mine Go.Mine.Sc

theorem sl_at3 {W : World} {S : Nat → Prop} {e : TypeId} {k : Nat} {a : Option Addr} {n cap : Nat} {xs : List Value} (h : Sl W S e k (.slice a n cap) xs n) (h0 : 0 < n) : ∃ g off, a = some ⟨g, off, none⟩ ∧ g < W.heap.size ∧ ∀ j, j < n * k → W.cell? ⟨g, off + j, none⟩ = xs[j]? := by
  obtain ⟨g, off, cap', hv, -, -, -, hc, -, hlt⟩ := h.opens h0
  injection hv with hv
  exact ⟨g, off, hv, hlt, fun j hj => hc j hj⟩

set_option maxRecDepth 100000 in
set_option maxHeartbeats 4000000 in
theorem reads_any (w0 w : World) (hL : Lw w0 w) : Calls Tryd.prog 4 #[] w fun e w' => e = .returned (.bool true) ∧ Turned (fun _ => False) w w' := by
  have P1 : Calls Tryd.prog 6 #[.string ⟨#[116, 114, 101, 101, 32, 34, 97, 34, 32, 49, 32, 34, 34, 32, 50, 10, 35, 32, 110, 111, 10, 10, 99, 111, 109, 109, 105, 116, 32, 48, 32, 51, 32, 52]⟩] w (ParsePost w (exList, 0)) := by
    have := parse_any w0 w exText hL (by decide)
    rw [ex_reads] at this
    exact this
  clear hL
  go_enter Tryd.func4, Tryd.ntmps4
  go_upto_region 2 with (go_at_call 6; (with_reducible refine P1.mono ?_); rintro e w1 ⟨⟨v1, rfl, c1⟩, t1⟩; obtain ⟨a1, k1, rfl⟩ := c1.value; have X1 : Hid (CmdsAt w1 (fun b => w.heap.size ≤ b) 34 (.slice a1 exList.length k1) exList ∧ Turned (fun _ => False) w w1) := ⟨c1, t1⟩; clear c1 t1)
  clear P1
  obtain ⟨g, off, cs, rfl, -, l1, ⟨b1, n1, b4, n4, b9, n9, rfl, -, s4, -⟩, e1⟩ := X1.out.1.elem (j := 0) (c := { kind := 2, tree := [([97], 1), ([], 2)] }) rfl
  obtain ⟨g', off', ds, hv, -, -, ⟨d1, m1, d4, m4, d9, m9, rfl, r1, -, -⟩, e2⟩ := X1.out.1.elem (j := 1) (c := { kind := 3, nums := [0, 3, 4] }) rfl
  injection hv with hv
  injection hv with h1 h2
  subst h1; subst h2
  obtain ⟨ga, oa, hva, la, ca⟩ := sl_at3 s4 (by decide)
  obtain ⟨gb, ob, hvb, lb, cb⟩ := sl_at3 r1 (by decide)
  subst hva; subst hvb
  have p4 := e1 4 (by decide)
  have q0 := e2 0 (by decide)
  have q1 := e2 1 (by decide)
  have c2 : w1.cell? ⟨ga, oa + 2, none⟩ = some (.string ⟨#[]⟩) := ca 2 (by decide)
  have c3 : w1.cell? ⟨ga, oa + 2 + 1, none⟩ = some (.int .u32 2) := ca 3 (by decide)
  have z2 : w1.cell? ⟨gb, ob + 2, none⟩ = some (.int .i64 4) := cb 2 (by decide)
  simp only [List.getElem?_toArray, List.getElem?_cons_zero, List.getElem?_cons_succ, Nat.add_zero, Nat.zero_mul, Nat.one_mul, List.length_cons, List.length_nil, Nat.zero_add, Nat.reduceAdd] at p4 q0 q1
  clear e1 e2 ca cb s4 r1
  have hE : exList.length = 2 := rfl
  rw [hE]
  clear hE
  go_wp2
  go_ret
  exact ⟨rfl, X1.out.2⟩

end Go.Proofs.YteblabpplaaddaaDoor

namespace Go.Proofs.YteblabpplaaddaaDoor
open Go.RowKit Go.Mine Go.Mine.Sc

theorem ba_ne_list {a b : ByteArray} (h : ¬ a = b) : (a.toList == b.toList) = false := by
  rw [ByteArray.toList_eq, ByteArray.toList_eq, beq_eq_false_iff_ne]
  exact fun q => h (ByteArray.ext (Array.toList_inj.1 q))
/-- the walk's loop over the bytes -/
def QlR (W : World) (n g : Nat) (v : Value) (wr : World) : Prop := ∃ i : Nat, v = .int .i64 (i : Nat) ∧ i + g = n ∧ wr = W

set_option maxRecDepth 100000 in
set_option maxHeartbeats 8000000 in
theorem quotes_law (w0 w : World) (hL : Lw w0 w) (s t : B) (hs : s.length ≤ 4611686018427387904) (ht : t.length ≤ 4611686018427387904) :
    Calls Tryd.prog 3 #[.string (bs s), .string (bs t)] w fun e w' => e = .returned (.bool true) ∧ Turned (fun _ => False) w w' := by
  have R : Calls Tryd.prog 4 #[] w fun e w' => e = .returned (.bool true) ∧ Turned (fun _ => False) w w' := reads_any w0 w hL
  obtain ⟨m1, hm1⟩ : ∃ m : Nat, m = min s.length 5000 := ⟨_, rfl⟩
  obtain ⟨m2, hm2⟩ : ∃ m : Nat, m = min t.length 5000 := ⟨_, rfl⟩
  have hmn1 : min ((bs s).size : Int) 5000 = (m1 : Int) := by rw [bs_size, hm1]; omega
  have hmn2 : min ((bs t).size : Int) 5000 = (m2 : Int) := by rw [bs_size, hm2]; omega
  have st1 : ∀ W, (Instr.slice 9 (.string (bs s)) none (some (.int .i64 (m1 : Nat))) none).run Tryd.prog W = .ok (.string (bs (s.take m1))) W := fun W => sl_to s m1 (by omega) W
  have st2 : ∀ W, (Instr.slice 9 (.string (bs t)) none (some (.int .i64 (m2 : Nat))) none).run Tryd.prog W = .ok (.string (bs (t.take m2))) W := fun W => sl_to t m2 (by omega) W
  have l1 : (s.take m1).length ≤ 5000 := by simp; omega
  have l2 : (t.take m2).length ≤ 5000 := by simp; omega
  generalize s.take m1 = x at *
  generalize t.take m2 = y at *
  generalize bs s = zs at *
  generalize bs t = zt at *
  have QX : Hid (∀ W, Calls Tryd.prog 5 #[.string (bs x)] W fun e w' => e = .returned (.string (bs (quote x))) ∧ Turned (fun _ => False) W w') := hidS fun W => quote_any x W (by omega)
  have QY : Hid (∀ W, Calls Tryd.prog 5 #[.string (bs y)] W fun e w' => e = .returned (.string (bs (quote y))) ∧ Turned (fun _ => False) W w') := hidS fun W => quote_any y W (by omega)
  have PA : Hid (∀ W, Turned (fun _ => False) w W → Calls Tryd.prog 6 #[.string (bs (quText x y))] W (ParsePost W ([quC1 x y, quC2 x], 0))) := hidS fun W tw => by
    have := parse_any w0 W (quText x y) (hL.turned0 tw) (by have := (quote_len x).2; have := (quote_len y).2; simp [quText]; omega)
    rw [qu_parse x y l1 l2] at this
    exact this
  have EQ : Hid (x = y ↔ quote x = quote y) := hidS ⟨fun h => by rw [h], quote_inj⟩
  obtain ⟨n, hn⟩ : ∃ n, n = (quote x).length := ⟨_, rfl⟩
  have HN : Hid (n = (quote x).length ∧ n ≤ 20002 ∧ (quote y).length ≤ 20002) := hidS ⟨hn, by have := (quote_len x).2; omega, by have := (quote_len y).2; omega⟩
  have CV : Hid (∀ W : World, (convert 9 24 (.string (bs (quote x)))).run Tryd.prog W = .ok (.slice (some ⟨W.heap.size, 0, none⟩) n (Go.grownCap W n 0 5)) (Lib.bytesWorld W 5 (bs (quote x)))) := hidS fun W => by
    have := Lib.run_convert_string_bytes (P := Tryd.prog) W 9 24 5 (bs (quote x)) Tryd.underlying9 Tryd.underlying24 Tryd.underlying5
    rw [bs_size, ← hn] at this
    exact this
  have QF : Hid (∀ j, j < n → ∃ c : UInt8, (quote x)[j]? = some c ∧ 32 ≤ c.toNat ∧ c.toNat ≤ 126) := hidS fun j hj => by
    obtain ⟨c, hc⟩ : ∃ c, (quote x)[j]? = some c := ⟨_, List.getElem?_eq_getElem (by omega)⟩
    have := quote_fit x c (List.mem_of_getElem? hc)
    exact ⟨c, hc, this.1, this.2⟩
  have TX : Hid (bs (quText x y) = ((((((⟨#[100, 97, 109, 97, 103, 101, 32]⟩ : ByteArray) ++ bs (quote x)) ++ ⟨#[32, 55, 32]⟩) ++ bs (quote y)) ++ ⟨#[10, 116, 114, 101, 101, 32]⟩) ++ bs (quote x)) ++ ⟨#[32, 49]⟩) := hidS (by
    unfold quText
    simp only [← bs_append])
  clear hL hs ht hm1 hm2 l1 l2 hn
  go_enter Tryd.func3, Tryd.ntmps3
  go_upto_region 3 with (go_at_call 4; (with_reducible refine R.mono ?_); rintro e w1 ⟨rfl, t1⟩; have T1 : Hid (Turned (fun _ => False) w w1) := t1; clear t1 R)
  go_region
  go_upto_region 5 with (go_at_call 5; (with_reducible refine (QX.out _).mono ?_); rintro e w2 ⟨rfl, t2⟩; have T2 : Hid (Turned (fun _ => False) w w2) := T1.out.draw.trans t2 fun _ _ q => q; clear t2)
  have hcv := CV.out w2
  obtain ⟨W3, hW3⟩ : ∃ W3, W3 = Lib.bytesWorld w2 5 (bs (quote x)) := ⟨_, rfl⟩
  have HC3 : Hid (∀ j c, (quote x)[j]? = some c → W3.cell? ⟨w2.heap.size, j, none⟩ = some (.int .u8 (c.toNat : Nat))) := hidS fun j c hc => by
    have hj := (List.getElem?_eq_some_iff.1 hc).1
    have := Lib.bytesWorld_cell w2 5 (bs (quote x)) j (by rw [bs_size]; exact hj)
    rw [hW3, this]
    simp [hc]
  have T3 : Hid (Turned (fun _ => False) w W3) := hidS (T2.out.trans (by rw [hW3]; exact bytes_turned _ _ _) fun _ _ q => q)
  rw [← hW3] at hcv
  clear hW3 hmn1 hmn2 st1 st2
  obtain ⟨zq, hzq⟩ : ∃ zq, zq = bs (quote x) := ⟨_, rfl⟩
  obtain ⟨zr, hzr⟩ : ∃ zr, zr = bs (quote y) := ⟨_, rfl⟩
  obtain ⟨zx, hzx⟩ : ∃ zx, zx = bs x := ⟨_, rfl⟩
  obtain ⟨zy, hzy⟩ : ∃ zy, zy = bs y := ⟨_, rfl⟩
  have HZ : Hid (zq = bs (quote x) ∧ zr = bs (quote y) ∧ zx = bs x ∧ zy = bs y) := hidS ⟨hzq, hzr, hzx, hzy⟩
  rw [← hzx, ← hzy, ← hzq]
  rw [← hzq] at hcv
  clear hzq hzr hzx hzy
  generalize Go.grownCap w2 n 0 5 = cap at *
  have B1 : Hid (QlR W3 n n (.int .i64 0) W3) := ⟨0, rfl, by omega, rfl⟩
  go_wp2
  go_loopg [27] n (fun g v wr => QlR W3 n g v wr)
  case atStart => exact B1.out
  case round =>
    obtain ⟨i, rfl, hig, rfl⟩ := hrel
    have G : Hid (i + gk = n) := hig
    clear hig B1 hcv
    by_cases hlt : i < n
    · obtain ⟨c, hc, c1, c2⟩ := QF.out i hlt
      have hcell := HC3.out i c hc
      have HLT : Hid (i < n) := hlt
      have hd1 : decide ((i : Int) < (n : Int)) = true := by simp; omega
      have hd2 : decide (i < n) = true := by simp; omega
      have e1 : decide ((c.toNat : Int) < 32) = false := by simp; omega
      have e2 : decide (c.toNat < 32) = false := by simp; omega
      have e3 : decide ((126 : Int) < (c.toNat : Int)) = false := by simp; omega
      have e4 : decide (126 < c.toNat) = false := by simp; omega
      have HW : Hid (wrap64 ((i : Int) + 1) = ((i + 1 : Nat) : Int)) := hidS (w64_in _ (by have := HLT.out; have := HN.out; omega))
      clear hc c1 c2
      go_wp2
      go_roundg (gk - 1)
      case measure => have := G.out; have := HLT.out; omega
      case rel => exact ⟨i + 1, by rw [HW.out], by have := G.out; have := HLT.out; omega, rfl⟩
    · have hd1 : decide ((i : Int) < (n : Int)) = false := by simp; omega
      have hd2 : decide (i < n) = false := by simp; omega
      clear hlt
      go_upto_region 11 with (fail)
      have q5 : Calls Tryd.prog 5 #[.string zy] wr fun e w' => e = .returned (.string zr) ∧ Turned (fun _ => False) wr w' := by rw [HZ.out.2.2.2, HZ.out.2.1]; exact QY.out wr
      have z1 : zq.size = n := by rw [HZ.out.1, bs_size]; exact HN.out.1.symm
      have z2 : zr.size ≤ 20002 := by rw [HZ.out.2.1, bs_size]; exact HN.out.2.2
      have z3 : n ≤ 20002 := HN.out.2.1
      have k1 : (⟨#[100, 97, 109, 97, 103, 101, 32]⟩ : ByteArray).size = 7 := rfl
      have c1 : ¬ 9223372036854775807 < (⟨#[100, 97, 109, 97, 103, 101, 32]⟩ : ByteArray).size + zq.size := by omega
      have c0 : ¬ 9223372036854775807 < 7 + zq.size := by omega
      have c2 : ¬ 9223372036854775807 < 7 + zq.size + 3 := by omega
      have c3 : ¬ 9223372036854775807 < 7 + zq.size + 3 + zr.size := by omega
      have c4 : ¬ 9223372036854775807 < 7 + zq.size + 3 + zr.size + 6 := by omega
      have c5 : ¬ 9223372036854775807 < 7 + zq.size + 3 + zr.size + 6 + zq.size := by omega
      have c6 : ¬ 9223372036854775807 < 7 + zq.size + 3 + zr.size + 6 + zq.size + 2 := by omega
      have TXZ : Hid (bs (quText x y) = ((((((⟨#[100, 97, 109, 97, 103, 101, 32]⟩ : ByteArray) ++ zq) ++ ⟨#[32, 55, 32]⟩) ++ zr) ++ ⟨#[10, 116, 114, 101, 101, 32]⟩) ++ zq) ++ ⟨#[32, 49]⟩) := hidS (by rw [HZ.out.1, HZ.out.2.1]; exact TX.out)
      clear z1 z2 z3 k1 TX HC3 QF CV
      go_upto_region 12 with (first
        | (go_at_call 5; (with_reducible refine q5.mono ?_); rintro e w4 ⟨rfl, t4⟩
           have T4 : Hid (Turned (fun _ => False) w w4) := T3.out.trans t4 fun _ _ q => q
           have p6 := PA.out w4 T4.out
           rw [TXZ.out] at p6
           clear t4)
        | (go_at_call 6; (with_reducible refine p6.mono ?_); rintro e w5 ⟨⟨v5, rfl, c5⟩, t5⟩; obtain ⟨a5, k5, rfl⟩ := c5.value
           have X5 : Hid (CmdsAt w5 (fun b => w4.heap.size ≤ b) 34 (.slice a5 [quC1 x y, quC2 x].length k5) [quC1 x y, quC2 x] ∧ Turned (fun _ => False) w w5) := ⟨c5, T4.out.trans t5 fun _ _ q => q⟩
           clear c5 t5))
      obtain ⟨g, off, cs, rfl, -, l1, ⟨b1, n1, b4, n4, b9, n9, rfl, -, -, -⟩, e1⟩ := X5.out.1.elem (j := 0) (c := quC1 x y) rfl
      obtain ⟨g', off', ds, hv, -, -, ⟨d1, m1, d4, m4, d9, m9, rfl, -, r4, -⟩, e2⟩ := X5.out.1.elem (j := 1) (c := quC2 x) rfl
      injection hv with hv
      injection hv with h1 h2
      subst h1; subst h2
      obtain ⟨gb, ob, hvb, lb, cb⟩ := sl_at3 r4 (by simp [quC2])
      subst hvb
      have p2 := e1 2 (by decide)
      have p3 := e1 3 (by decide)
      have q4 := e2 4 (by decide)
      have y0 : w5.cell? ⟨gb, ob, none⟩ = some (.string zx) := by rw [HZ.out.2.2.1]; exact cb 0 (by simp [quC2])
      have p2' : w5.cell? ⟨g, off + 2, none⟩ = some (.string zx) := by rw [HZ.out.2.2.1]; simpa [quC1] using p2
      have p3' : w5.cell? ⟨g, off + 3, none⟩ = some (.string zy) := by rw [HZ.out.2.2.2]; simpa [quC1] using p3
      simp only [List.getElem?_toArray, List.getElem?_cons_zero, List.getElem?_cons_succ, Nat.add_zero, Nat.zero_mul, Nat.one_mul, List.length_cons, List.length_nil, Nat.zero_add, Nat.reduceAdd] at q4
      have q5b : Calls Tryd.prog 5 #[.string zy] w5 fun e w' => e = .returned (.string zr) ∧ Turned (fun _ => False) w5 w' := by rw [HZ.out.2.2.2, HZ.out.2.1]; exact QY.out w5
      clear e1 e2 cb r4 p2 p3 c0 c1 c2 c3 c4 c5 c6 q5
      have hE : (quC2 x).tree.length = 1 := rfl
      rw [hE] at q4
      clear hE
      by_cases hxy : x = y
      · have HZE : Hid (zy = zx ∧ zr = zq) := hidS ⟨by rw [HZ.out.2.2.1, HZ.out.2.2.2, hxy], by rw [HZ.out.1, HZ.out.2.1, hxy]⟩
        clear hxy
        go_upto_region 14 with (fail)
        rw [HZE.out.1, HZE.out.2] at q5b
        rw [HZE.out.1]
        clear p2' p3' y0 q4
        go_wp2_with (go_at_call 5; (with_reducible refine q5b.mono ?_); rintro e w6 ⟨rfl, t6⟩; have X6 : Hid (Turned (fun _ => False) w w6) := X5.out.2.trans t6 fun _ _ q => q; clear t6)
        go_ret
        exact ⟨rfl, X6.out⟩
      · have hn1 : ¬ zq = zr := fun q => hxy (EQ.out.2 (bs_inj (by rw [← HZ.out.1, ← HZ.out.2.1, q])))
        have hn2 : ¬ zx = zy := fun q => hxy (bs_inj (by rw [← HZ.out.2.2.1, ← HZ.out.2.2.2, q]))
        have HNE : Hid (¬ zq = zr ∧ ¬ zx = zy) := hidS ⟨hn1, hn2⟩
        have n1 : (zq.toList == zr.toList) = false := ba_ne_list hn1
        have n2 : (zx.toList == zy.toList) = false := ba_ne_list hn2
        clear hxy hn1 hn2
        go_upto_region 14 with (fail)
        clear p2' p3' y0 q4
        go_wp2_with (go_at_call 5; (with_reducible refine q5b.mono ?_); rintro e w6 ⟨rfl, t6⟩; have X6 : Hid (Turned (fun _ => False) w w6) := X5.out.2.trans t6 fun _ _ q => q; clear t6)
        go_ret
        exact ⟨rfl, X6.out⟩
end Go.Proofs.YteblabpplaaddaaDoor

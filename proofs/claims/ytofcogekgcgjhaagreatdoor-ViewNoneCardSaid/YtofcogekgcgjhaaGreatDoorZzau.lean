/- Packed. -/
import Derived.Test.YtofcogekgcgjhaaGreatDoorZzat
set_option linter.unusedVariables false
set_option linter.unusedSimpArgs false
set_option maxRecDepth 100000
namespace Go.Proofs.YtofcogekgcgjhaaGreatDoor.Ch
open Go.RowKit Go.Mine
def magicM : List UInt8 := [80, 68, 71, 77, 1]
def rowLn (x : Ln) : List UInt8 := num x.1.toNat 4 ++ num x.2.1.toNat 4 ++ num x.2.2 4
def rowsLn : List Ln → List UInt8
 | [] => []
 | x :: l => rowLn x ++ rowsLn l
def bodyLn (l : List Ln) : List UInt8 := magicM ++ num l.length 1 ++ rowsLn l
def toldLn (l : List Ln) : ByteArray := sealed ⟨(bodyLn l).toArray⟩
def encV (l : List Ln) : Value :=
 if lnErr l = 0 then .tuple #[.string (toldLn l), .int .i64 0] else .tuple #[.string ⟨#[]⟩, .int .i64 (lnErr l : Nat)]
theorem rowsLn_append (a b : List Ln) : rowsLn (a ++ b) = rowsLn a ++ rowsLn b := by
 induction a with
 | nil => rfl
 | cons x a ih => simp [rowsLn, ih]
theorem rowsLn_length (l : List Ln) : (rowsLn l).length = 12 * l.length := by
 induction l with
 | nil => rfl
 | cons x l ih => simp [rowsLn, rowLn, ih, num_length]; omega
theorem chkLn_ok (l : List Ln) : ∀ pre, chkLn pre l = 0 → ∀ x ∈ l, 0 ≤ x.1 ∧ x.1 ≤ 1073741824 ∧ 1 ≤ x.2.1 ∧ x.2.1 ≤ 65536 := by
 induction l with
 | nil => intro pre _ x hx; simp at hx
 | cons y l ih =>
  intro pre h x hx
  unfold chkLn at h
  split at h
  ·omega
  ·rename_i hb
   split at h
   ·omega
   ·split at h
    ·omega
    ·rcases List.mem_cons.1 hx with rfl | hx
     ·unfold badLn numb at hb
      simp at hb
      omega
     ·exact ih _ h x hx
theorem lnErr_ok (l : List Ln) (h : lnErr l = 0) : l.length ≤ 8 ∧ chkLn [] l = 0 ∧ ∀ x ∈ l, 0 ≤ x.1 ∧ x.1 ≤ 1073741824 ∧ 1 ≤ x.2.1 ∧ x.2.1 ≤ 65536 := by
 unfold lnErr at h
 split at h
 ·omega
 ·exact ⟨by omega, h, chkLn_ok l [] h⟩
def E2 (w2 : World) (l : List Ln) (g : Nat) (i : Value) (wr : World) : Prop :=
 ∃ j : Nat, j + g = l.length ∧ i = .int .i64 j ∧ Wr wr (fun b => w2.heap.size ≤ b) w2.heap.size (magicM ++ num l.length 1 ++ rowsLn (l.take j)) ∧ Turned (fun b => w2.heap.size ≤ b) w2 wr
set_option maxHeartbeats 4000000 in
theorem encode_any (a : Option Addr) (cap : Nat) (l : List Ln) (w : World) (h : LnIs w a cap l) :
  Calls Tryz.prog 135 #[.slice a l.length cap] w fun e w' => e = .returned (encV l) ∧ Turned (fun _ => False) w w' := by
 have H : Hid (LnIs w a cap l) := h
 have hck := check_any a cap l w h
 by_cases he : lnErr l = 0
 ·have HV : Hid (encV l = .tuple #[.string (toldLn l), .int .i64 0]) := by
   have : encV l = .tuple #[.string (toldLn l), .int .i64 0] := by unfold encV; rw [if_pos he]
   exact this
  obtain ⟨h8, -, hgood⟩ := lnErr_ok l he
  rw [he] at hck
  rw [HV.out]
  obtain ⟨L, hL⟩ : ∃ L, L = l.length := ⟨_, rfl⟩
  rw [← hL] at hck h8 ⊢
  have HL : Hid (L = l.length) := hL
  have H8 : Hid (L ≤ 8) := h8
  have HG : Hid (∀ x ∈ l, 0 ≤ x.1 ∧ x.1 ≤ 1073741824 ∧ 1 ≤ x.2.1 ∧ x.2.1 ≤ 65536) := hgood
  have hm5 : ((L : Nat) : Int) % 256 = (L : Int) := by omega
  clear h hL h8 hgood he
  go_enter Tryz.func135, Tryz.ntmps135
  go_wp2_with (first
   | (go_at_call 127; (with_reducible refine hck.mono ?_); rintro e w2 ⟨rfl, ht2⟩; have T2 : Hid (Turned (fun _ => False) w w2) := ht2; have nw := newWriter_any w2; clear hck ht2)
   | (go_at_call 145; (with_reducible refine nw.mono ?_); rintro e w3 ⟨rfl, hwr, ht3, hsz3⟩; have hraw := raw_up ⟨#[80, 68, 71, 77, 1]⟩ w3 hwr (by omega) (by simp [ByteArray.size]); have Z3 : Hid (w3.heap.size = w2.heap.size + 1 ∧ Turned (fun _ => False) w2 w3) := ⟨hsz3, ht3⟩; clear nw hwr hsz3 ht3)
   | (go_at_call 149; (with_reducible refine hraw.mono ?_); rintro e w4 ⟨rfl, hwr4, ht4⟩; have hu8 := u8_up L w4 hwr4 (by have := ht4.size; have := Z3.out.1; omega) (by have := H8.out; omega) (by simp); have Z4 : Hid (Turned (fun b => w2.heap.size ≤ b) w2 w4) := (Z3.out.2.mono fun _ _ q => q.elim).trans ht4 fun _ _ q => q; clear hraw hwr4 ht4)
   | (go_at_call 148; (with_reducible refine hu8.mono ?_); rintro e w5 ⟨rfl, hwr5, ht5⟩; have Z5 : Hid (Wr w5 (fun b => w2.heap.size ≤ b) w2.heap.size (magicM ++ num L 1) ∧ Turned (fun b => w2.heap.size ≤ b) w2 w5) := ⟨hwr5, Z4.out.trans ht5 fun _ _ q => q⟩; clear hu8 hwr5 ht5))
  have HS2 : Hid (E2 w2 l L (.int .i64 0) w5) := ⟨0, by have := HL.out; omega, rfl, by rw [← HL.out]; simpa [rowsLn] using Z5.out.1, Z5.out.2⟩
  go_loopg [23] L (fun g i wr => E2 w2 l g i wr)
  case atStart => exact HS2.out
  case round =>
   obtain ⟨i, hig, rfl, hwq, htq⟩ := hrel
   rw [← HL.out] at hwq hig
   have W : Hid (Wr wr (fun b => w2.heap.size ≤ b) w2.heap.size (magicM ++ num L 1 ++ rowsLn (l.take i))) := hwq
   have TQ : Hid (Turned (fun b => w2.heap.size ≤ b) w2 wr) := htq
   have GI : Hid (i + gk = L) := hig
   clear hwq htq hig HS2 hm5
   have hT0 : Turned (fun _ => False) w wr := T2.out.comp TQ.out fun i hi q => q.elim (fun q => q) fun q => by have := T2.out.size; omega
   have T0 : Hid (Turned (fun _ => False) w wr) := hT0
   clear hT0
   by_cases hlt : i < L
   ·obtain ⟨c, hc⟩ : ∃ c, l[i]? = some c := ⟨_, List.getElem?_eq_getElem (by rw [← HL.out]; exact hlt)⟩
    obtain ⟨b, off, rfl, hbw, c0, c1, c2⟩ := lnIs_any (H.out.turned T0.out) i c hc
    have hg := HG.out c (List.mem_of_getElem? hc)
    have hu := (H.out.2.2.1 c (List.mem_of_getElem? hc)).2.2
    have HC0 : Hid (l[i]? = some c) := hc
    obtain ⟨cn, cc, cs⟩ := c
    simp only at hg hu c0 c1 c2
    obtain ⟨n, rfl⟩ : ∃ n : Nat, cn = (n : Int) := ⟨cn.toNat, by omega⟩
    obtain ⟨m, rfl⟩ : ∃ m : Nat, cc = (m : Int) := ⟨cc.toNat, by omega⟩
    have hlen : (magicM ++ num L 1 ++ rowsLn (l.take i)).length ≤ 1000 := by
     simp only [magicM, List.length_append, List.length_cons, List.length_nil, num_length, rowsLn_length, List.length_take]
     have := H8.out
     omega
    have hA := u32_any n (wr.alloc (.cells #[.int .i64 (n : Int), .int .i64 (m : Int), .int .u32 (cs : Nat)] 120)) ((wr_bound W.out).turned (Turned.alloc (fun _ => False) wr _) fun _ _ q => q) (by omega) (by omega)
    have hz : (wr.alloc (.cells #[.int .i64 (n : Int), .int .i64 (m : Int), .int .u32 (cs : Nat)] 120)).heap.size = wr.heap.size + 1 := by simp
    have hcell : ∀ (S : Nat → Prop) w4, ¬ S wr.heap.size → Turned S (wr.alloc (.cells #[.int .i64 (n : Int), .int .i64 (m : Int), .int .u32 (cs : Nat)] 120)) w4 → w4.cell? ⟨wr.heap.size, 1, none⟩ = some (.int .i64 (m : Int)) ∧ w4.cell? ⟨wr.heap.size, 2, none⟩ = some (.int .u32 (cs : Nat)) ∧ wr.heap.size < w4.heap.size := fun S w4 hS t4 => by
     have hb := fun o => World.cell?_of_block (w' := w4) (a := ⟨wr.heap.size, o, none⟩) (t4.block wr.heap.size (by omega) hS)
     refine ⟨?_, ?_, by have := t4.size; omega⟩
     ·rw [hb]; exact cell_of (heap_alloc_last wr _) 1 _ rfl
     ·rw [hb]; exact cell_of (heap_alloc_last wr _) 2 _ rfl
    have HC : Hid (∀ (S : Nat → Prop) w4, ¬ S wr.heap.size → Turned S (wr.alloc (.cells #[.int .i64 (n : Int), .int .i64 (m : Int), .int .u32 (cs : Nat)] 120)) w4 → w4.cell? ⟨wr.heap.size, 1, none⟩ = some (.int .i64 (m : Int)) ∧ w4.cell? ⟨wr.heap.size, 2, none⟩ = some (.int .u32 (cs : Nat)) ∧ wr.heap.size < w4.heap.size) := hcell
    have HLN : Hid ((magicM ++ num L 1 ++ rowsLn (l.take i)).length ≤ 1000 ∧ n < 4294967296 ∧ m < 4294967296 ∧ cs < 4294967296 ∧ (wr.alloc (.cells #[.int .i64 (n : Int), .int .i64 (m : Int), .int .u32 (cs : Nat)] 120)).heap.size = wr.heap.size + 1) := ⟨hlen, by omega, by omega, hu, hz⟩
    have hm1 : (n : Int) % 4294967296 = (n : Int) := by omega
    have hm2 : (m : Int) % 4294967296 = (m : Int) := by omega
    clear hc hcell hlen hg hu hz
    go_wp2_with (first
     | (go_at_call 150; (with_reducible refine hA.mono ?_); rintro e w4 ⟨rfl, hwr4, ht4⟩; obtain ⟨f1, f2, f3⟩ := HC.out _ w4 (fun q => by have := q.2; omega) ht4; have hB := u32_any m w4 hwr4 HLN.out.2.2.1 (by have := HLN.out.1; simp only [List.length_append, num_length] at this ⊢; omega); have Z6 : Hid (Turned (fun b => w2.heap.size ≤ b ∧ b < wr.heap.size) (wr.alloc (.cells #[.int .i64 (n : Int), .int .i64 (m : Int), .int .u32 (cs : Nat)] 120)) w4) := ht4; clear hwr4 ht4 hA)
     | (go_at_call 150; (with_reducible refine hB.mono ?_); rintro e w6 ⟨rfl, hwr6, ht6⟩; have Z7 : Hid (Turned (fun b => w2.heap.size ≤ b ∧ b ≠ wr.heap.size) (wr.alloc (.cells #[.int .i64 (n : Int), .int .i64 (m : Int), .int .u32 (cs : Nat)] 120)) w6) := (Z6.out.mono fun b hb q => ⟨q.1, by omega⟩).trans ht6 (fun b hb q => q.elim (fun q => ⟨q.1, by omega⟩) (fun q => by have := HLN.out.2.2.2.2; have := TQ.out.size; exact ⟨by omega, by omega⟩)); obtain ⟨g1, g2, g3⟩ := HC.out _ w6 (fun q => q.2 rfl) Z7.out; have hD := u32_up cs w6 (B := w2.heap.size) (hwr6.widen fun b q => by have z1 := HLN.out.2.2.2.2; have z2 := TQ.out.size; have z3 := Z6.out.size; rcases q with (q | q) | q <;> omega) (by have := TQ.out.size; have := Z7.out.size; have := HLN.out.2.2.2.2; omega) HLN.out.2.2.2.1 (by have := HLN.out.1; simp only [List.length_append, num_length] at this ⊢; omega); clear hwr6 ht6 hB)
     | (go_at_call 150; (with_reducible refine hD.mono ?_); rintro e w7 ⟨rfl, hwr7, ht7⟩))
    go_roundg (gk - 1)
    case measure => have := GI.out; omega
    case rel =>
     refine ⟨i + 1, by have := GI.out; have := HL.out; omega, by have := H8.out; simp [wrap64]; omega, ?_, ((TQ.out.new _).trans (Z7.out.mono fun b hb q => q.1) fun _ _ q => q).trans ht7 fun _ _ q => q⟩
     have e1 : rowsLn (l.take (i + 1)) = rowsLn (l.take i) ++ (num n 4 ++ num m 4 ++ num cs 4) := by
      rw [List.take_add_one, HC0.out, rowsLn_append]
      simp [rowsLn, rowLn]
     rw [e1, ← HL.out]
     simpa [List.append_assoc] using hwr7
   ·have hi : i = L := by have := GI.out; omega
    subst hi
    have htk : l.take i = l := List.take_of_length_le (by have := HL.out; omega)
    have hw0 := W.out
    rw [htk] at hw0
    obtain ⟨bs, hbs⟩ : ∃ bs, bs = magicM ++ num i 1 ++ rowsLn l := ⟨_, rfl⟩
    have hlen : bs.length ≤ 1000 := by
     rw [hbs]
     simp only [magicM, List.length_append, List.length_cons, List.length_nil, num_length, rowsLn_length]
     have := H8.out; have := HL.out
     omega
    rw [← hbs] at hw0
    have HBS : Hid (toldLn l = ⟨(bs ++ num (Crc.sum (nums ⟨bs.toArray⟩)) 4).toArray⟩) := by
     have hb : bodyLn l = bs := by rw [hbs, bodyLn, HL.out]
     show toldLn l = _
     unfold toldLn
     rw [hb, sealed_bytes]
    have WB : Hid (Wr wr (fun b => w2.heap.size ≤ b) w2.heap.size bs) := hw0
    have hcrc := crcsum_lt ⟨bs.toArray⟩
    have hby := bytes_any wr hw0
    have hsum := sum_one wr.heap.size 0 1 ⟨bs.toArray⟩ (wr.alloc (.cells #[.string ⟨bs.toArray⟩] 9)) (cell_of (heap_alloc_last wr _) 0 _ rfl) (by simp) (by rw [ba_size]; omega)
    have HLEN : Hid (bs.length ≤ 1000 ∧ Crc.sum (nums ⟨bs.toArray⟩) < 4294967296) := ⟨hlen, hcrc⟩
    clear hw0 htk hbs hlen hcrc W hlt
    go_wp2_with (first
     | (go_at_call 151; (with_reducible refine hby.mono ?_); rintro e w4 ⟨rfl, rfl⟩)
     | (go_at_call 124; (with_reducible refine hsum.mono ?_); rintro e w5 ⟨rfl, ht5⟩; have T5 : Hid (Turned (fun _ => False) wr w5) := (Turned.alloc (fun _ => False) wr _).trans ht5 (fun _ _ q => q); have hA := u32_up (Crc.sum (nums ⟨bs.toArray⟩)) w5 (WB.out.turned T5.out fun _ _ q => q) (by have := TQ.out.size; have := T5.out.size; omega) HLEN.out.2 (by have := HLEN.out.1; omega); clear hsum ht5)
     | (go_at_call 150; (with_reducible refine hA.mono ?_); rintro e w6 ⟨rfl, hwr6, ht6⟩; have hby2 := bytes_any w6 hwr6)
     | (go_at_call 151; (with_reducible refine hby2.mono ?_); rintro e w7 ⟨rfl, rfl⟩))
    go_ret2
    refine ⟨by rw [HBS.out]; rfl, ?_⟩
    have q1 : Turned (fun b => w2.heap.size ≤ b) w2 w6 := (TQ.out.trans (T5.out.mono fun _ _ q => q.elim) fun _ _ q => q).trans ht6 fun _ _ q => q
    exact T2.out.comp q1 fun i hi q => q.elim (fun q => q) fun q => by have := T2.out.size; omega
 ·have HV : Hid (encV l = .tuple #[.string ⟨#[]⟩, .int .i64 (lnErr l : Nat)]) := by
   have : encV l = .tuple #[.string ⟨#[]⟩, .int .i64 (lnErr l : Nat)] := by unfold encV; rw [if_neg he]
   exact this
  rw [HV.out]
  have hd5 : ((lnErr l : Int) == 0) = false := by simp; omega
  generalize lnErr l = k at *
  generalize l.length = L at *
  clear h he
  go_enter Tryz.func135, Tryz.ntmps135
  go_wp2_with (go_at_call 127; (with_reducible refine hck.mono ?_); rintro e w2 ⟨rfl, ht2⟩)
  go_ret2
  exact ⟨rfl, ht2⟩
def lnK (s : ByteArray) (st : Nat × Nat) : Nat → List Ln × (Nat × Nat)
 | 0 => ([], st)
 | k + 1 => ((lnK s st k).1 ++ [(((rdNum s (lnK s st k).2 4).1 : Int), ((rdNum s (rdNum s (lnK s st k).2 4).2 4).1 : Int), (rdNum s (rdNum s (rdNum s (lnK s st k).2 4).2 4).2 4).1)],
   (rdNum s (rdNum s (rdNum s (lnK s st k).2 4).2 4).2 4).2)
theorem lnK_length (s : ByteArray) (st : Nat × Nat) (k : Nat) : (lnK s st k).1.length = k := by
 induction k with
 | zero => rfl
 | succ k ih => simp [lnK, ih]
theorem rdNum_at (s : ByteArray) (st : Nat × Nat) (n : Nat) (h : st.1 ≤ s.size) : (rdNum s st n).2.1 ≤ s.size := rdRaw_at s st n h
theorem lnK_at (s : ByteArray) (st : Nat × Nat) (k : Nat) (h : st.1 ≤ s.size) : (lnK s st k).2.1 ≤ s.size := by
 induction k with
 | zero => exact h
 | succ k ih => exact rdNum_at _ _ _ (rdNum_at _ _ _ (rdNum_at _ _ _ ih))
theorem lnK_lt (s : ByteArray) (st : Nat × Nat) (k : Nat) : ∀ x ∈ (lnK s st k).1, I64 x.1 ∧ I64 x.2.1 ∧ x.2.2 < 4294967296 := by
 induction k with
 | zero => intro e h; simp [lnK] at h
 | succ k ih =>
  intro e h
  rw [lnK, List.mem_append] at h
  rcases h with h | h
  ·exact ih e h
  ·rw [List.mem_singleton] at h
   subst h
   have h1 := rdNum_lt s (lnK s st k).2 4
   have h2 := rdNum_lt s (rdNum s (lnK s st k).2 4).2 4
   have h3 := rdNum_lt s (rdNum s (rdNum s (lnK s st k).2 4).2 4).2 4
   unfold I64
   refine ⟨⟨by simp only; omega, by simp only; omega⟩, ⟨by simp only; omega, by simp only; omega⟩, h3⟩
def lcells : List Ln → List Value
 | [] => []
 | x :: l => .int .i64 x.1 :: .int .i64 x.2.1 :: .int .u32 (x.2.2 : Nat) :: lcells l
theorem lcells_append (a b : List Ln) : lcells (a ++ b) = lcells a ++ lcells b := by
 induction a with
 | nil => rfl
 | cons c a ih => simp [lcells, ih]
theorem lcells_get : ∀ (l : List Ln) (i : Nat) (x : Ln), l[i]? = some x → (lcells l)[i * 3]? = some (.int .i64 x.1) ∧ (lcells l)[i * 3 + 1]? = some (.int .i64 x.2.1) ∧ (lcells l)[i * 3 + 2]? = some (.int .u32 (x.2.2 : Nat))
 | [], i, c, h => by simp at h
 | d :: l, 0, c, h => by simp at h; subst h; simp [lcells]
 | d :: l, i + 1, c, h => by
  have := lcells_get l i c (by simpa using h)
  have e1 : (i + 1) * 3 = i * 3 + 1 + 1 + 1 := by omega
  have e2 : (i + 1) * 3 + 1 = i * 3 + 1 + 1 + 1 + 1 := by omega
  have e3 : (i + 1) * 3 + 2 = i * 3 + 2 + 1 + 1 + 1 := by omega
  rw [e3, e2, e1]
  simp only [lcells, List.getElem?_cons_succ]
  exact this
theorem lcells_one (l : List Ln) : ∀ u ∈ lcells l, u.oneCell' = true := by
 induction l with
 | nil => intro u hu; simp [lcells] at hu
 | cons x l ih =>
  intro u hu
  simp only [lcells, List.mem_cons] at hu
  rcases hu with rfl | rfl | rfl | hu
  ·rfl
  ·rfl
  ·rfl
  ·exact ih u hu
theorem src_ln (x : Ln) (w : World) : Src Tryz.prog 3 113 (.slice (some ⟨w.heap.size, 0, none⟩) 1 1) 1 (lcells [x]) (w.alloc (.cells #[.int .i64 x.1, .int .i64 x.2.1, .int .u32 (x.2.2 : Nat)] 120)) := by
 refine Src.ofSlice _ Tryz.underlying113 _ 1 1 _ rfl (fun j u hj => ?_) (lcells_one _)
 rw [Addr.add_lit, Nat.zero_add]
 refine cell_of (heap_alloc_last w _) j u ?_
 rcases j with _ | _ | _ | j
 ·simpa [lcells] using hj
 ·simpa [lcells] using hj
 ·simpa [lcells] using hj
 ·simp [lcells] at hj
def LnOk (l : List Ln) : Prop := ∀ x ∈ l, I64 x.1 ∧ I64 x.2.1 ∧ x.2.2 < 4294967296
theorem sl_lnIs {w : World} {S : Nat → Prop} {v : Value} {l : List Ln} (h : Sl w S 120 3 v (lcells l) l.length) (hs : LnOk l) : ∃ a cap, v = .slice a l.length cap ∧ LnIs w a cap l := by
 obtain ⟨a, cap, rfl, h1, h2⟩ := h.value
 refine ⟨a, cap, rfl, h1, h2, hs, fun h0 => ?_⟩
 obtain ⟨g, off, cp, hv, -, -, -, hcl, -, hgl⟩ := h.opens h0
 injection hv with e1 _ e3
 refine ⟨g, off, e1, hgl, fun i x hi => ?_⟩
 have hl := (List.getElem?_eq_some_iff.1 hi).1
 obtain ⟨g1, g2, g3⟩ := lcells_get l i x hi
 refine ⟨(hcl (i * 3) (by omega)).trans g1, ?_, ?_⟩
 ·rw [Nat.add_assoc]; exact (hcl (i * 3 + 1) (by omega)).trans g2
 ·rw [Nat.add_assoc]; exact (hcl (i * 3 + 2) (by omega)).trans g3
def DecPost (w : World) (r : Except Nat (List Ln)) (e : Ending) (w' : World) : Prop :=
 Turned (fun _ => False) w w' ∧ match r with
  | .error k => e = .returned (.tuple #[.slice none 0 0, .int .i64 (k : Nat)])
  | .ok l => ∃ v, e = .returned (.tuple #[v, .int .i64 0]) ∧ Sl w' (fun b => w.heap.size ≤ b) 120 3 v (lcells l) l.length
def D1 (w : World) (p : Nat) (s : ByteArray) (st : Nat × Nat) (c : Nat) (g : Nat) (lv i : Value) (wr : World) : Prop :=
 ∃ (k : Nat) (S1 : Nat → Prop), k + g = c ∧ i = .int .u8 k ∧ Sl wr S1 120 3 lv (lcells (lnK s st k).1) k ∧ RdIs wr p s (lnK s st k).2 ∧ Turned (· = p) w wr ∧ (∀ b, S1 b → w.heap.size ≤ b ∧ b < wr.heap.size)
end Go.Proofs.YtofcogekgcgjhaaGreatDoor.Ch
namespace Go.Mine
theorem Sl.bound {w : World} {S : Nat → Prop} {e : TypeId} {size : Nat} {v : Value} {xs : List Value} {n : Nat} (h : Sl w S e size v xs n) : Sl w (fun b => S b ∧ b < w.heap.size) e size v xs n := by
 refine ⟨h.1, ?_⟩
 rcases h.2 with h | ⟨g, off, cap, cur, h1, h2, h3, h4⟩
 ·exact .inl h
 ·exact .inr ⟨g, off, cap, cur, h1, ⟨h2, lt_of_block h3⟩, h3, h4⟩
theorem Sl.set {w : World} {S : Nat → Prop} {e : TypeId} {size : Nat} {g off cap : Nat} {xs : List Value} {n : Nat} (h : Sl w S e size (.slice (some ⟨g, off, none⟩) n cap) xs n) (j : Nat) (hj : j < n * size) (u : Value) :
  Sl (w.setCell ⟨g, off + j, none⟩ u) S e size (.slice (some ⟨g, off, none⟩) n cap) (xs.set j u) n ∧ Turned S w (w.setCell ⟨g, off + j, none⟩ u) ∧ (w.setCell ⟨g, off + j, none⟩ u).heap.size = w.heap.size := by
 rcases h.2 with ⟨hv, -⟩ | ⟨g2, off2, cap2, cur, hv, hS, hg, hnc, hcm, hcs, ht⟩
 ·simp at hv
 ·injection hv with e1 e2 e3
  injection e1 with e1
  injection e1 with e4 e5 e6
  subst e4; subst e5; subst e3
  have hmul : n * size ≤ cap * size := Nat.mul_le_mul_right _ hnc
  refine ⟨⟨by simpa using h.1, .inr ⟨g, off, cap, _, rfl, hS, Go.Mine.heap_setCell_same hg u, hnc, hcm, by simpa using hcs, ?_⟩⟩, Turned.setCell hS u, Go.Mine.setCell_size _ _ _⟩
  rw [Array.toList_setIfInBounds, ← ht]
  apply List.ext_getElem?
  intro k
  rw [List.getElem?_take, List.getElem?_drop, List.getElem?_set, List.getElem?_set, List.getElem?_take, List.getElem?_drop]
  have hlen : (List.take (n * size) (List.drop off cur.toList)).length = n * size := by rw [ht]; exact h.1
  by_cases hk : k < n * size
  ·rw [if_pos hk, if_pos hk]
   by_cases hkj : j = k
   ·subst hkj
    rw [if_pos rfl, if_pos rfl, if_pos (by simp; omega), if_pos (by rw [hlen]; exact hk)]
   ·rw [if_neg (by omega), if_neg hkj]
  ·rw [if_neg hk, if_neg hk, if_neg (by omega)]
end Go.Mine

/- A text's one form: the walk of Quote. -/
import Derived.Test.YteblabpplaaddaaDoorPd
import Derived.Test.YteblabpplaaddaaDoorPp
import Derived.Test.YteblabpplaaddaaDoorRow
import Derived.Lib.ConvBytes
set_option linter.unusedVariables false
set_option linter.unusedSimpArgs false
namespace Go.Proofs.YteblabpplaaddaaDoor
open Go.RowKit Go.Mine Go.Mine.Sc

theorem hidS {p : Prop} (h : p) : Hid p := h
theorem w64_in (n : Int) (h : -9223372036854775808 ≤ n ∧ n ≤ 9223372036854775807) : wrap64 n = n := by simp [wrap64]; omega
theorem hid_two {p q : Prop} (h : p) (k : q) : Hid (p ∧ q) := ⟨h, k⟩
/-- bytes that a call has laid, of blocks of T or newer than w1 -/
def Byt (T : Nat → Prop) (w1 : World) (v : Value) (l : B) (wr : World) : Prop := (∃ S, Sl wr S 5 1 v (bcells l) l.length ∧ ∀ b, S b → T b ∨ w1.heap.size ≤ b) ∧ Turned T w1 wr
theorem Byt.app {T : Nat → Prop} {w1 wr w9 : World} {S : Nat → Prop} {l x : B} {v' : Value} {o : Obj} (hS : ∀ b, S b → T b ∨ w1.heap.size ≤ b) (ht : Turned T w1 wr)
    (q1 : Sl w9 (More S (wr.alloc o)) 5 1 v' (bcells l ++ bcells x) (l.length + x.length)) (t1 : Turned S (wr.alloc o) w9) : Byt T w1 v' (l ++ x) w9 := by
  have s1 := ht.size
  have s2 : (wr.alloc o).heap.size = wr.heap.size + 1 := by simp
  refine ⟨⟨_, by rw [bcells_app, List.length_append]; exact q1, ?_⟩, ht.comp ((Turned.alloc S wr o).trans t1 fun _ _ q => q) fun b hb q => ?_⟩
  · rintro b (q | q)
    · exact hS b q
    · exact .inr (by omega)
  · rcases q with q | q
    · exact q
    · exact (hS b q).resolve_right (by omega)
theorem src_row {te tx : TypeId} (hk : Tryd.prog.underlying tx = some (.slice te)) (us : List Value) (h1 : ∀ u ∈ us, u.oneCell' = true) (w : World) : Src Tryd.prog 1 tx (.slice (some ⟨w.heap.size, 0, none⟩) us.length us.length) us.length us (w.alloc (.cells us.toArray te)) :=
  Src.ofSlice _ hk _ us.length us.length us (by simp) (fun j u hu => by
    rw [Addr.add_lit, World.cell?_alloc_at _ _ _ _ rfl]
    simpa using hu) h1

theorem bytes_turned (w : World) (e : TypeId) (s : ByteArray) : Turned (fun _ => False) w (Lib.bytesWorld w e s) := by
  refine ⟨rfl, rfl, rfl, by rw [Lib.bytesWorld_size]; omega, fun b hb _ => Lib.bytesWorld_at_old w e s b hb⟩

def QuR (w2 : World) (g0 : Nat) (s : B) (g : Nat) (v vi : Value) (wr : World) : Prop := ∃ i : Nat, i + g = s.length ∧ vi = .int .i64 (i : Nat) ∧ Byt (· = g0) w2 v (34 :: qbody (s.take i)) wr

theorem qbody_succ (s : B) (i : Nat) (c : UInt8) (h : s[i]? = some c) : qbody (s.take (i + 1)) = qbody (s.take i) ++ qch c := by
  rw [List.take_add_one, h]
  simp [qbody]
theorem qch_2 {c : UInt8} (h : c = 34 ∨ c = 92) : qch c = [92, c] := by unfold qch; rw [if_pos h]
theorem qch_4 {c : UInt8} (h : ¬ (c = 34 ∨ c = 92)) (h2 : c < 32 ∨ 126 < c) : qch c = [92, 120, hexc (c / 16), hexc (c % 16)] := by unfold qch; rw [if_neg h, if_pos h2]
theorem qch_1 {c : UInt8} (h : ¬ (c = 34 ∨ c = 92)) (h2 : ¬ (c < 32 ∨ 126 < c)) : qch c = [c] := by unfold qch; rw [if_neg h, if_neg h2]

def hexs : ByteArray := ⟨#[48, 49, 50, 51, 52, 53, 54, 55, 56, 57, 97, 98, 99, 100, 101, 102]⟩
theorem hex_ix_fin : ∀ n : Fin 16, hexs.data[n.val]? = some (hexc (UInt8.ofNat n.val)) := by decide +kernel

theorem QuR.next {W2 wr w9 : World} {g0 i gk L k : Nat} {s : B} {S : Nat → Prop} {us : List Value} {o : Obj} {c : UInt8} {v' vi : Value} (hg : i + gk = s.length) (hlt : i < s.length) (hc : s[i]? = some c)
    (hS : ∀ b, S b → b = g0 ∨ W2.heap.size ≤ b) (ht : Turned (· = g0) W2 wr) (hL : L = (34 :: qbody (s.take i)).length) (q1 : Sl w9 (More S (wr.alloc o)) 5 1 v' (bcells (34 :: qbody (s.take i)) ++ us) (L + k)) (t1 : Turned S (wr.alloc o) w9)
    (hu : us = bcells (qch c)) (hk : k = (qch c).length) (hv : vi = .int .i64 ((i + 1 : Nat) : Int)) : QuR W2 g0 s (gk - 1) v' vi w9 := by
  subst hL hu hk
  have := Byt.app (T := (· = g0)) hS ht q1 t1
  exact ⟨i + 1, by omega, hv, by rw [qbody_succ s i c hc, ← List.cons_append]; exact this⟩

theorem ix_hex (k : Nat) (c : UInt8) (hk : k < 16) (h : c = hexc (UInt8.ofNat k)) (W : World) : (Instr.index 9 (.string ⟨#[48, 49, 50, 51, 52, 53, 54, 55, 56, 57, 97, 98, 99, 100, 101, 102]⟩) (.int .u8 (k : Nat))).run Tryd.prog W = .ok (.int .u8 (c.toNat : Nat)) W := by
  have := hex_ix_fin ⟨k, hk⟩
  rw [← h] at this
  obtain ⟨h1, h2⟩ := Array.getElem?_eq_some_iff.1 this
  rw [run_index_string (P := Tryd.prog) W 9 _ .u8 _ Tryd.underlying9, dif_pos (by simp [ByteArray.size]; omega)]
  have h3 : (⟨#[48, 49, 50, 51, 52, 53, 54, 55, 56, 57, 97, 98, 99, 100, 101, 102]⟩ : ByteArray)[k]'(by simp [ByteArray.size]; omega) = c := h2
  simp only [Int.toNat_natCast, h3]
theorem bits_and15 : ∀ n : Fin 256, bits .and .u8 (n.val : Int) 15 = ((n.val % 16 : Nat) : Int) := by decide +kernel
theorem hex_hi (c : UInt8) (W : World) : (Instr.index 9 (.string ⟨#[48, 49, 50, 51, 52, 53, 54, 55, 56, 57, 97, 98, 99, 100, 101, 102]⟩) (.int .u8 ((c.toNat : Int) / 16))).run Tryd.prog W = .ok (.int .u8 ((hexc (c / 16)).toNat : Nat)) W := by
  have h := c.toNat_lt
  have e : (c.toNat : Int) / 16 = ((c.toNat / 16 : Nat) : Int) := by omega
  rw [e]
  refine ix_hex (c.toNat / 16) _ (by omega) ?_ W
  congr 1
  apply UInt8.toNat_inj.1
  simp
  omega
theorem hex_lo (c : UInt8) (W : World) : (Instr.index 9 (.string ⟨#[48, 49, 50, 51, 52, 53, 54, 55, 56, 57, 97, 98, 99, 100, 101, 102]⟩) (.int .u8 (bits .and .u8 (c.toNat : Int) 15))).run Tryd.prog W = .ok (.int .u8 ((hexc (c % 16)).toNat : Nat)) W := by
  have h := c.toNat_lt
  rw [bits_and15 ⟨c.toNat, h⟩]
  refine ix_hex (c.toNat % 16) _ (by omega) ?_ W
  congr 1
  apply UInt8.toNat_inj.1
  simp
  omega

theorem quote_back {w9 : World} {R : Nat → Prop} {a3 : Option Addr} {cap3 L i : Nat} {s : B} (q1 : Sl w9 R 5 1 (.slice a3 (L + 1) cap3) (bcells (34 :: qbody (s.take i)) ++ [.int .u8 34]) (L + 1)) (hL : L = (34 :: qbody (s.take i)).length) (hE : s.take i = s) :
    (convert 24 9 (.slice a3 (L + 1) cap3)).run Tryd.prog w9 = .ok (.string (bs (quote s))) w9 := by
  rw [hE] at hL q1
  subst hL
  refine sl_back (l := quote s) (R := R) ?_
  have e1 : bcells (34 :: qbody s) ++ [.int .u8 34] = bcells (quote s) := (bcells_app (34 :: qbody s) [34]).symm
  have e2 : (34 :: qbody s).length + 1 = (quote s).length := by simp [quote]
  rw [e1, e2] at q1
  rw [e2]
  exact q1

set_option maxRecDepth 100000 in
set_option maxHeartbeats 4000000 in
theorem quote_any (s : B) (w : World) (hs : s.length ≤ 4000000) : Calls Tryd.prog 5 #[.string (bs s)] w fun e w' => e = .returned (.string (bs (quote s))) ∧ Turned (fun _ => False) w w' := by
  have hcv := Lib.run_convert_string_bytes (w.alloc (.cells #[.int .u8 34] 5)) 9 24 5 (bs s) Tryd.underlying9 Tryd.underlying24 Tryd.underlying5
  obtain ⟨W2, hW2⟩ : ∃ W2, W2 = Lib.bytesWorld (w.alloc (.cells #[.int .u8 34] 5)) 5 (bs s) := ⟨_, rfl⟩
  have t2 : Turned (fun _ => False) (w.alloc (.cells #[.int .u8 34] 5)) W2 := by rw [hW2]; exact bytes_turned _ _ _
  have hz : (w.alloc (.cells #[.int .u8 34] 5)).heap.size = w.heap.size + 1 := by simp
  have HC : Hid (∀ j c, s[j]? = some c → W2.cell? ⟨w.heap.size + 1, j, none⟩ = some (.int .u8 (c.toNat : Nat))) := fun j c hc => by
    have hj := (List.getElem?_eq_some_iff.1 hc).1
    have := Lib.bytesWorld_cell (w.alloc (.cells #[.int .u8 34] 5)) 5 (bs s) j (by rw [bs_size]; exact hj)
    rw [← hW2, hz] at this
    rw [this]
    simp [hc]
  have S2 : Sl W2 (· = w.heap.size) 5 1 (.slice (some ⟨w.heap.size, 0, none⟩) 1 1) (bcells [34]) 1 :=
    ⟨rfl, .inr ⟨w.heap.size, 0, 1, _, rfl, rfl, (t2.block _ (by omega) id).trans (heap_alloc_new w _), Nat.le_refl _, by simp [maxLen], by simp, rfl⟩⟩
  have SZ : Hid (W2.heap.size = w.heap.size + 2) := hidS (by rw [hW2, Lib.bytesWorld_size, hz])
  have T2 : Hid (Turned (fun _ => False) w W2) := (Turned.alloc (fun _ => False) w _).trans t2 fun _ _ q => q
  have B0 : Hid (QuR W2 w.heap.size s s.length (.slice (some ⟨w.heap.size, 0, none⟩) 1 1) (.int .i64 0) W2) := ⟨0, by omega, rfl, ⟨_, by simpa [qbody] using S2, fun b q => .inl q⟩, Turned.refl _ _⟩
  rw [bs_size, ← hW2, hz] at hcv
  have HS : Hid (s.length ≤ 4000000) := hs
  generalize bs s = x at *
  generalize Go.grownCap (w.alloc (.cells #[.int .u8 34] 5)) s.length 0 5 = cap at *
  clear t2 hz S2 hW2 hs
  go_enter Tryd.func5, Tryd.ntmps5
  go_wp2
  go_loopg [3, 10] s.length (fun g v vi wr => QuR W2 w.heap.size s g v vi wr)
  case atStart => exact B0.out
  case round =>
    obtain ⟨i, hig, rfl, ⟨S, hsl, hS⟩, ht⟩ := hrel
    obtain ⟨a1, cap1, rfl, -, -⟩ := hsl.value
    have G : Hid (i + gk = s.length) := hig
    have SL : Hid (Sl wr S 5 1 (.slice a1 (34 :: qbody (s.take i)).length cap1) (bcells (34 :: qbody (s.take i))) (34 :: qbody (s.take i)).length) := hsl
    have AP : Hid (∀ b, S b → b = w.heap.size ∨ W2.heap.size ≤ b) := hS
    have T : Hid (Turned (· = w.heap.size) W2 wr) := ht
    obtain ⟨L, hL⟩ : ∃ L, L = (34 :: qbody (s.take i)).length := ⟨_, rfl⟩
    have HL : Hid (L = (34 :: qbody (s.take i)).length) := hL
    rw [← hL]
    have hLb : L ≤ 16000001 := by
      have := (qbody_len (s.take i)).2
      have := HS.out
      have : (s.take i).length ≤ s.length := by simp; omega
      rw [hL, List.length_cons]; omega
    have M : ∀ k, k ≤ 4 → Hid (L + k ≤ maxLen ∧ (L + k) * 1 ≤ 140737488355328) := fun k hk => hidS ⟨by simp only [maxLen]; omega, by omega⟩
    clear hig hsl hS ht B0 hL hLb
    by_cases hlt : i < s.length
    · obtain ⟨c, hc⟩ : ∃ c, s[i]? = some c := ⟨_, List.getElem?_eq_getElem hlt⟩
      have HCI : Hid (s[i]? = some c) := hc
      have HLT : Hid (i < s.length) := hlt
      have hcell : wr.cell? ⟨w.heap.size + 1, i, none⟩ = some (.int .u8 (c.toNat : Nat)) := by
        rw [← HC.out i c hc]
        simp only [World.cell?, T.out.block (w.heap.size + 1) (by rw [SZ.out]; omega) (by simp)]
      have hd1 : decide ((i : Int) < (s.length : Int)) = true := by simp; omega
      have hd2 : decide (i < s.length) = true := by simp; omega
      have HW : Hid (wrap64 ((i : Int) + 1) = ((i + 1 : Nat) : Int)) := hidS (w64_in _ (by have := HS.out; omega))
      clear hc
      by_cases q34 : c = 34
      · subst q34
        change wr.cell? ⟨w.heap.size + 1, i, none⟩ = some (.int .u8 34) at hcell
        have A1 : Hid (Sl (wr.alloc (.cells #[.int .u8 92, .int .u8 34] 5)) S 5 1 (.slice a1 L cap1) (bcells (34 :: qbody (s.take i))) L) := hidS ((HL.out ▸ SL.out).turned (Turned.alloc (fun _ => False) wr _) (fun _ _ q => q))
        have SC : Hid (Src Tryd.prog 1 24 (.slice (some ⟨wr.heap.size, 0, none⟩) 2 2) 2 [.int .u8 92, .int .u8 34] (wr.alloc (.cells #[.int .u8 92, .int .u8 34] 5))) := src_row Tryd.underlying24 [.int .u8 92, .int .u8 34] (by intro u hu; simp at hu; (repeat' rcases hu with rfl | hu) <;> (try subst hu) <;> rfl) wr
        go_wp2_with (at_builtin; refine wpList_append rfl _ _ 24 24 rfl A1.out Tryd.underlying24 info5 rfl (by decide) rfl (.slice (some ⟨wr.heap.size, 0, none⟩) 2 2) rfl SC.out (M 2 (by decide)).out.1 (M 2 (by decide)).out.2 ?_; intro x4 w9 q1 t1; obtain ⟨a3, cap3, hv3, -, -⟩ := q1.value; subst hv3; have Q1 := hid_two q1 t1; clear q1 t1)
        go_roundg (gk - 1)
        case measure => have := G.out; have := HLT.out; omega
        case rel => exact QuR.next G.out HLT.out HCI.out AP.out T.out HL.out Q1.out.1 Q1.out.2 rfl rfl (by rw [HW.out])
      by_cases q92 : c = 92
      · subst q92
        change wr.cell? ⟨w.heap.size + 1, i, none⟩ = some (.int .u8 92) at hcell
        have A1 : Hid (Sl (wr.alloc (.cells #[.int .u8 92, .int .u8 92] 5)) S 5 1 (.slice a1 L cap1) (bcells (34 :: qbody (s.take i))) L) := hidS ((HL.out ▸ SL.out).turned (Turned.alloc (fun _ => False) wr _) (fun _ _ q => q))
        have SC : Hid (Src Tryd.prog 1 24 (.slice (some ⟨wr.heap.size, 0, none⟩) 2 2) 2 [.int .u8 92, .int .u8 92] (wr.alloc (.cells #[.int .u8 92, .int .u8 92] 5))) := src_row Tryd.underlying24 [.int .u8 92, .int .u8 92] (by intro u hu; simp at hu; (repeat' rcases hu with rfl | hu) <;> (try subst hu) <;> rfl) wr
        go_wp2_with (at_builtin; refine wpList_append rfl _ _ 24 24 rfl A1.out Tryd.underlying24 info5 rfl (by decide) rfl (.slice (some ⟨wr.heap.size, 0, none⟩) 2 2) rfl SC.out (M 2 (by decide)).out.1 (M 2 (by decide)).out.2 ?_; intro x4 w9 q1 t1; obtain ⟨a3, cap3, hv3, -, -⟩ := q1.value; subst hv3; have Q1 := hid_two q1 t1; clear q1 t1)
        go_roundg (gk - 1)
        case measure => have := G.out; have := HLT.out; omega
        case rel => exact QuR.next G.out HLT.out HCI.out AP.out T.out HL.out Q1.out.1 Q1.out.2 rfl rfl (by rw [HW.out])
      have n34 : ((c.toNat : Int) == 34) = false := by
        have : c.toNat ≠ 34 := fun q => q34 (UInt8.toNat_inj.1 q)
        simp; omega
      have n92 : ((c.toNat : Int) == 92) = false := by
        have : c.toNat ≠ 92 := fun q => q92 (UInt8.toNat_inj.1 q)
        simp; omega
      have qn : ¬ (c = 34 ∨ c = 92) := fun q => q.elim q34 q92
      clear q34 q92
      by_cases qb : c < 32 ∨ 126 < c
      · have hbad : c.toNat < 32 ∨ 126 < c.toNat := qb
        have HQ : Hid (qch c = [92, 120, hexc (c / 16), hexc (c % 16)]) := qch_4 qn qb
        have hl := c.toNat_lt
        have A4 : Hid (∀ x y, Sl ((wr.alloc (.cells #[.int .u8 92, .int .u8 120, x, y] 5)).drew) S 5 1 (.slice a1 L cap1) (bcells (34 :: qbody (s.take i))) L) := hidS fun x y => ((HL.out ▸ SL.out).turned (Turned.alloc (fun _ => False) wr _) (fun _ _ q => q)).drew
        have SC4 : Hid (∀ p q : Nat, Src Tryd.prog 1 24 (.slice (some ⟨wr.heap.size, 0, none⟩) 4 4) 4 [.int .u8 92, .int .u8 120, .int .u8 p, .int .u8 q] ((wr.alloc (.cells #[.int .u8 92, .int .u8 120, .int .u8 p, .int .u8 q] 5)).drew)) := hidS fun p q => src_row (w := wr.drew) Tryd.underlying24 [.int .u8 92, .int .u8 120, .int .u8 p, .int .u8 q] (by intro u hu; simp at hu; (repeat' rcases hu with rfl | hu) <;> (try subst hu) <;> rfl)
        have hx1 := hex_hi c
        have hx2 := hex_lo c
        clear qn qb
        by_cases hb1 : c.toNat < 32
        · have e1 : decide ((c.toNat : Int) < 32) = true := by simp; omega
          have e2 : decide (c.toNat < 32) = true := by simp; omega
          clear hbad hb1 hlt
          go_wp2
          go_region_law ((refine step_append (by rfl) _ _ 24 24 (by rfl) (A4.out _ _) Tryd.underlying24 info5 rfl (by decide) (by rfl) (.slice (some ⟨wr.heap.size, 0, none⟩) 4 4) (by rfl) (SC4.out _ _) (M 4 (by decide)).out.1 (M 4 (by decide)).out.2 ?_; intro x4 w9 q1 t1; obtain ⟨a3, cap3, hv3, -, -⟩ := q1.value; subst hv3; have Q1 := hid_two q1 t1; clear q1 t1))
          all_goals go_wp2
          all_goals
            go_roundg (gk - 1)
            case measure => have := G.out; have := HLT.out; omega
            case rel => exact QuR.next (o := .cells #[.int .u8 92, .int .u8 120, .int .u8 ((hexc (c / 16)).toNat : Nat), .int .u8 ((hexc (c % 16)).toNat : Nat)] 5) G.out HLT.out HCI.out AP.out T.out HL.out Q1.out.1 ((Turned.drew S _).trans Q1.out.2 fun _ _ q => q) (by rw [HQ.out]; rfl) (by rw [HQ.out]; rfl) (by rw [HW.out])
        · have e1 : decide ((c.toNat : Int) < 32) = false := by simp; omega
          have e2 : decide (c.toNat < 32) = false := by simp; omega
          have e3 : decide ((126 : Int) < (c.toNat : Int)) = true := by simp; omega
          have e4 : decide (126 < c.toNat) = true := by simp; omega
          clear hbad hb1 hlt
          go_wp2
          go_region_law ((refine step_append (by rfl) _ _ 24 24 (by rfl) (A4.out _ _) Tryd.underlying24 info5 rfl (by decide) (by rfl) (.slice (some ⟨wr.heap.size, 0, none⟩) 4 4) (by rfl) (SC4.out _ _) (M 4 (by decide)).out.1 (M 4 (by decide)).out.2 ?_; intro x4 w9 q1 t1; obtain ⟨a3, cap3, hv3, -, -⟩ := q1.value; subst hv3; have Q1 := hid_two q1 t1; clear q1 t1))
          all_goals go_wp2
          all_goals
            go_roundg (gk - 1)
            case measure => have := G.out; have := HLT.out; omega
            case rel => exact QuR.next (o := .cells #[.int .u8 92, .int .u8 120, .int .u8 ((hexc (c / 16)).toNat : Nat), .int .u8 ((hexc (c % 16)).toNat : Nat)] 5) G.out HLT.out HCI.out AP.out T.out HL.out Q1.out.1 ((Turned.drew S _).trans Q1.out.2 fun _ _ q => q) (by rw [HQ.out]; rfl) (by rw [HQ.out]; rfl) (by rw [HW.out])
      · have hgood : 32 ≤ c.toNat ∧ c.toNat ≤ 126 := by
          have h1 : ¬ c.toNat < 32 := fun q => qb (.inl q)
          have h2 : ¬ 126 < c.toNat := fun q => qb (.inr q)
          omega
        have HQ : Hid (qch c = [c]) := qch_1 qn qb
        have e1 : decide ((c.toNat : Int) < 32) = false := by simp; omega
        have e2 : decide (c.toNat < 32) = false := by simp; omega
        have e3 : decide ((126 : Int) < (c.toNat : Int)) = false := by simp; omega
        have e4 : decide (126 < c.toNat) = false := by simp; omega
        clear qn qb hgood
        have A1 : Hid (Sl (wr.alloc (.cells #[.int .u8 (c.toNat : Nat)] 5)) S 5 1 (.slice a1 L cap1) (bcells (34 :: qbody (s.take i))) L) := hidS ((HL.out ▸ SL.out).turned (Turned.alloc (fun _ => False) wr _) (fun _ _ q => q))
        have SC : Hid (Src Tryd.prog 1 24 (.slice (some ⟨wr.heap.size, 0, none⟩) 1 1) 1 [.int .u8 (c.toNat : Nat)] (wr.alloc (.cells #[.int .u8 (c.toNat : Nat)] 5))) := src_row Tryd.underlying24 [.int .u8 (c.toNat : Nat)] (by intro u hu; simp at hu; (repeat' rcases hu with rfl | hu) <;> (try subst hu) <;> rfl) wr
        go_wp2_with (at_builtin; refine wpList_append rfl _ _ 24 24 rfl A1.out Tryd.underlying24 info5 rfl (by decide) rfl (.slice (some ⟨wr.heap.size, 0, none⟩) 1 1) rfl SC.out (M 1 (by decide)).out.1 (M 1 (by decide)).out.2 ?_; intro x4 w9 q1 t1; obtain ⟨a3, cap3, hv3, -, -⟩ := q1.value; subst hv3; have Q1 := hid_two q1 t1; clear q1 t1)
        go_roundg (gk - 1)
        case measure => have := G.out; have := HLT.out; omega
        case rel => exact QuR.next G.out HLT.out HCI.out AP.out T.out HL.out Q1.out.1 Q1.out.2 (by rw [HQ.out]; rfl) (by rw [HQ.out]; rfl) (by rw [HW.out])
    · have hd1 : decide ((i : Int) < (s.length : Int)) = false := by simp; omega
      have hd2 : decide (i < s.length) = false := by simp; omega
      have HE : Hid (s.take i = s) := hidS (List.take_of_length_le (by omega))
      clear hlt
      have A1 : Hid (Sl (wr.alloc (.cells #[.int .u8 34] 5)) S 5 1 (.slice a1 L cap1) (bcells (34 :: qbody (s.take i))) L) := hidS ((HL.out ▸ SL.out).turned (Turned.alloc (fun _ => False) wr _) (fun _ _ q => q))
      have SC : Hid (Src Tryd.prog 1 24 (.slice (some ⟨wr.heap.size, 0, none⟩) 1 1) 1 [.int .u8 34] (wr.alloc (.cells #[.int .u8 34] 5))) := src_row Tryd.underlying24 [.int .u8 34] (by intro u hu; simp at hu; (repeat' rcases hu with rfl | hu) <;> (try subst hu) <;> rfl) wr
      go_wp2_with (at_builtin; refine wpList_append rfl _ _ 24 24 rfl A1.out Tryd.underlying24 info5 rfl (by decide) rfl (.slice (some ⟨wr.heap.size, 0, none⟩) 1 1) rfl SC.out (M 1 (by decide)).out.1 (M 1 (by decide)).out.2 ?_; intro x4 w9 q1 t1; obtain ⟨a3, cap3, hv3, -, -⟩ := q1.value; subst hv3; have Q1 := hid_two q1 t1; have hb := quote_back q1 HL.out HE.out; clear q1 t1)
      go_ret
      exact ⟨rfl, (T2.out.trans (T.out.comp ((Turned.alloc S wr _).trans Q1.out.2 fun _ _ q => q) (T := (· = w.heap.size)) fun b hb q => q.elim id fun q => (AP.out b q).resolve_right (by omega)) (S' := (· = w.heap.size)) fun b hb q => by omega)⟩
end Go.Proofs.YteblabpplaaddaaDoor

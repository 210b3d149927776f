/- Graph files read: numbers, parents, rows, what is given up -/
import Derived.Test.YtfeljngmidhajaaMe
import Derived.Test.YtfeljngmidhajaaMp
import Derived.Laws.BitsAllLaws
import Derived.Defers
import Derived.Recover
import Derived.Laws.Pointers
namespace Go.Proofs.Ytfeljngmidhajaa
open Go.RowKit Go.Mine

/-- what is given up with -/
abbrev formE : PanicEntry := { v := .iface 94 (.agg #[]), recovered := false }

set_option maxRecDepth 100000 in
theorem must32_ok (v : Nat) (w : World) : Calls Try.prog 92 #[.int .u32 (v : Nat), .int .i64 0] w fun e w' => e = .returned (.int .u32 (v : Nat)) ∧ w = w' := by
  go_enter Try.func92, Try.ntmps92
  go_wp2
  go_ret
  exact ⟨rfl, rfl⟩
set_option maxRecDepth 100000 in
theorem must32_no (v : Nat) (k : Nat) (hk : k ≠ 0) (w : World) : Calls Try.prog 92 #[.int .u32 (v : Nat), .int .i64 (k : Nat)] w fun e w' => e = .panicked [formE] ∧ w = w' := by
  have hd := int_neb (k : Int) 0 (by omega)
  have hd2 := int_bne2 (k : Int) 0 (by omega)
  clear hk
  go_enter Try.func92, Try.ntmps92
  go_wp2
  exact ⟨rfl, rfl, rfl⟩
set_option maxRecDepth 100000 in
theorem must8_ok (v : Nat) (w : World) : Calls Try.prog 93 #[.int .u8 (v : Nat), .int .i64 0] w fun e w' => e = .returned (.int .u8 (v : Nat)) ∧ w = w' := by
  go_enter Try.func93, Try.ntmps93
  go_wp2
  go_ret
  exact ⟨rfl, rfl⟩
set_option maxRecDepth 100000 in
theorem must8_no (v : Nat) (k : Nat) (hk : k ≠ 0) (w : World) : Calls Try.prog 93 #[.int .u8 (v : Nat), .int .i64 (k : Nat)] w fun e w' => e = .panicked [formE] ∧ w = w' := by
  have hd := int_neb (k : Int) 0 (by omega)
  have hd2 := int_bne2 (k : Int) 0 (by omega)
  clear hk
  go_enter Try.func93, Try.ntmps93
  go_wp2
  exact ⟨rfl, rfl, rfl⟩
set_option maxRecDepth 100000 in
theorem must16_ok (v : Nat) (w : World) : Calls Try.prog 94 #[.int .u16 (v : Nat), .int .i64 0] w fun e w' => e = .returned (.int .u16 (v : Nat)) ∧ w = w' := by
  go_enter Try.func94, Try.ntmps94
  go_wp2
  go_ret
  exact ⟨rfl, rfl⟩
set_option maxRecDepth 100000 in
theorem must16_no (v : Nat) (k : Nat) (hk : k ≠ 0) (w : World) : Calls Try.prog 94 #[.int .u16 (v : Nat), .int .i64 (k : Nat)] w fun e w' => e = .panicked [formE] ∧ w = w' := by
  have hd := int_neb (k : Int) 0 (by omega)
  have hd2 := int_bne2 (k : Int) 0 (by omega)
  clear hk
  go_enter Try.func94, Try.ntmps94
  go_wp2
  exact ⟨rfl, rfl, rfl⟩
set_option maxRecDepth 100000 in
theorem mustS_ok (v : ByteArray) (w : World) : Calls Try.prog 97 #[.string v, .int .i64 0] w fun e w' => e = .returned (.string v) ∧ w = w' := by
  go_enter Try.func97, Try.ntmps97
  go_wp2
  go_ret
  exact ⟨rfl, rfl⟩
set_option maxRecDepth 100000 in
theorem mustS_no (v : ByteArray) (k : Nat) (hk : k ≠ 0) (w : World) : Calls Try.prog 97 #[.string v, .int .i64 (k : Nat)] w fun e w' => e = .panicked [formE] ∧ w = w' := by
  have hd := int_neb (k : Int) 0 (by omega)
  have hd2 := int_bne2 (k : Int) 0 (by omega)
  clear hk
  go_enter Try.func97, Try.ntmps97
  go_wp2
  exact ⟨rfl, rfl, rfl⟩

set_option maxRecDepth 100000 in
theorem u16_r {w : World} {p : Nat} {s : ByteArray} {st : Nat × Nat} (h : RdIs w p s st) (hat : st.1 ≤ s.size) (hs : s.size ≤ 4611686018427387904) : Calls Try.prog 95 #[pt p] w (NumPost w p s st 2 .u16) := by
  have hr : Calls Try.prog 81 #[pt p, .int .i64 2] w (NumPost w p s st 2 .u64) := fixed_r 2 h hat hs (by omega)
  have hlt := rdNum_lt s st 2
  unfold NumPost at hr ⊢
  generalize rdNum s st 2 = q at *
  have hw : IntKind.u16.wrap (q.1 : Int) = (q.1 : Int) := by simp [IntKind.wrap, IntKind.bits, IntKind.signed]; omega
  have HW : Hid (IntKind.u16.wrap (q.1 : Int) = (q.1 : Int)) := hw
  clear h hat hs hlt hw
  go_enter Try.func95, Try.ntmps95
  go_wp2_with (go_at_call 81; (with_reducible refine hr.mono ?_); rintro e w1 ⟨rfl, hrd, ht⟩)
  go_ret2
  exact ⟨by rw [HW.out]; rfl, hrd, ht⟩

/-- a chunk's data, nothing where there is none -/
def datC (l : List Ch) (id : Nat) : ByteArray := match findCh l id with | some c => c.2 | none => ⟨#[]⟩

set_option maxRecDepth 100000 in
theorem data_any (a : Option Addr) (cap : Nat) (l : List Ch) (id : Nat) (w : World) (h : ChIs w a cap l) :
    Calls Try.prog 91 #[.slice a l.length cap, .int .u32 (id : Nat)] w fun e w' => ∃ p, e = .returned (pt p) ∧ w.heap.size ≤ p ∧ RdIs w' p (datC l id) (0, 0) ∧ Turned (fun _ => False) w w' := by
  have hf := find_any a cap l id w h
  have hn := fun W => newReader_any (datC l id) W
  obtain ⟨s, b, hV, hs⟩ : ∃ s b, foundV (findCh l id) = .tuple #[.string s, .bool b] ∧ s = datC l id := ⟨_, _, rfl, rfl⟩
  rw [hV] at hf
  rw [← hs] at hn ⊢
  generalize l.length = L at *
  clear h hV hs
  go_enter Try.func91, Try.ntmps91
  go_wp2_with (first
    | (go_at_call 20; (with_reducible refine hf.mono ?_); rintro e w1 ⟨rfl, ht1⟩; have T1 : Hid (Turned (fun _ => False) w w1) := ht1; clear ht1)
    | (go_at_call 59; (with_reducible refine (hn _).mono ?_); rintro e w2 ⟨rfl, hr, ht2, -⟩; have T2 : Hid (RdIs w2 w1.heap.size s (0, 0) ∧ Turned (fun _ => False) w1 w2) := ⟨hr, ht2⟩; clear hr ht2))
  go_ret
  exact ⟨_, rfl, T1.out.size, T2.out.1, T1.out.trans T2.out.2 fun _ _ q => q⟩
end Go.Proofs.Ytfeljngmidhajaa

namespace Go.Proofs.Ytfeljngmidhajaa
open Go.RowKit Go.Mine

def parLoop (s : ByteArray) : Nat → List Int → Nat × Nat → Option (List Int)
  | 0, _, _ => none
  | k + 1, l, st => if (rdNum s st 4).2.2 ≠ 0 then none else if 2147483648 ≤ (rdNum s st 4).1 then some (l ++ [(((rdNum s st 4).1 % 2147483648 : Nat) : Int)]) else parLoop s k (l ++ [(((rdNum s st 4).1 % 2147483648 : Nat) : Int)]) (rdNum s st 4).2
def progPar (first second : Nat) (edges : ByteArray) : Option (List Int) :=
  if second = 4294967295 then some (if first = 4294967295 then [] else [(first : Int)])
  else if second < 2147483648 then some ((if first = 4294967295 then [] else [(first : Int)]) ++ [(second : Int)])
  else if edges.size < 4 * (second - 2147483648) then none
  else parLoop (edges.extract (4 * (second - 2147483648)) edges.size) (17 - (if first = 4294967295 then ([] : List Int) else [(first : Int)]).length) (if first = 4294967295 then [] else [(first : Int)]) (0, 0)

theorem andnot_mark (p : Nat) (hp : p < 4294967296) : bits .andNot .u32 (p : Int) 2147483648 = ((p % 2147483648 : Nat) : Int) := by
  have := u32_andNot_nat p 2147483648 hp (by decide)
  rw [show (4294967295 - 2147483648 : Nat) = 2 ^ 31 - 1 by decide, Nat.and_two_pow_sub_one_eq_mod] at this
  exact this

def ParPost (o : Option (List Int)) (w : World) (e : Ending) (w' : World) : Prop :=
  Turned (fun _ => False) w w' ∧ ((o = none ∧ e = .panicked [formE]) ∨ ∃ l a c, o = some l ∧ e = .returned (.slice a l.length c) ∧ Sl w' (fun b => w.heap.size ≤ b) 3 1 (.slice a l.length c) (ncells l) l.length)

def PrRel (sub : ByteArray) (w : World) (p : Nat) (o : Option (List Int)) (g : Nat) (v : Value) (wr : World) : Prop :=
  ∃ (l : List Int) (st : Nat × Nat) (R : Nat → Prop), l.length + g = 17 ∧ Sl wr R 3 1 v (ncells l) l.length ∧ (∀ b, R b → w.heap.size ≤ b ∧ b ≠ p ∧ b < wr.heap.size) ∧ RdIs wr p sub st ∧ st.1 ≤ sub.size ∧ o = parLoop sub g l st ∧ (∀ x ∈ l, I64 x) ∧ Turned (fun _ => False) w wr

theorem ncells_snoc (l : List Int) (x : Int) : ncells (l ++ [x]) = ncells l ++ [.int .i64 x] := by simp [ncells]

set_option maxRecDepth 100000 in
set_option maxHeartbeats 4000000 in
theorem parents_any (first second : Nat) (edges : ByteArray) (w : World) (hf : first < 4294967296) (hs : second < 4294967296) (hz : edges.size ≤ 4611686018427387904) :
    Calls Try.prog 96 #[.int .u32 (first : Nat), .int .u32 (second : Nat), .string edges] w (ParPost (progPar first second edges) w) := by
  by_cases h1 : first = 4294967295
  · subst h1
    by_cases h2 : second = 4294967295
    · subst h2
      have HR : Hid (progPar 4294967295 4294967295 edges = some []) := by
        have q : progPar 4294967295 4294967295 edges = some [] := by unfold progPar; rw [if_pos rfl, if_pos rfl]
        exact q
      clear hf hs hz
      go_enter Try.func96, Try.ntmps96
      go_wp2
      go_ret
      exact ⟨(Turned.refl (fun _ => False) w), .inr ⟨[], _, _, HR.out, rfl, (Sl.nil w (fun b => w.heap.size ≤ b ∧ b < w.heap.size) 3 1).widen fun b q => q.1⟩⟩
    · have y1 : ((second : Int) == 4294967295) = false := int_neb _ _ (by omega)
      by_cases h3 : second < 2147483648
      · have d3 : decide ((second : Int) < 2147483648) = true := decide_eq_true (by omega)
        have d3n : decide (second < 2147483648) = true := decide_eq_true (by omega)
        have HR : Hid (progPar 4294967295 second edges = some ([] ++ [(second : Int)])) := by
          have q : progPar 4294967295 second edges = some ([] ++ [(second : Int)]) := by unfold progPar; rw [if_neg h2, if_pos h3, if_pos rfl]
          exact q
        clear hz h2 h3
        go_enter Try.func96, Try.ntmps96
        go_wp2_with (first
          | (at_builtin; refine wpList_append rfl (.tmp 23) (.tmp 26) 57 57 rfl ((Sl.nil w (fun b => w.heap.size ≤ b ∧ b < w.heap.size) 3 1).turned (Turned.alloc (fun _ => False) _ _) fun _ _ q => q) Try.underlying57 info3i rfl (by decide) rfl (.slice (some ⟨w.heap.size, 0, none⟩) 1 1) rfl (src_one Try.underlying57 (.int .i64 (second : Nat)) rfl w) (by simp [maxLen]) (by decide) ?_; intro v2 w2 q2 t2; obtain ⟨a2, c2, rfl, -, -⟩ := q2.value; have A2 : Hid (Sl w2 (fun b => w.heap.size ≤ b) 3 1 (.slice a2 1 c2) (ncells ([] ++ [(second : Int)])) 1 ∧ Turned (fun _ => False) w w2) := ⟨q2.widen (fun b q => q.elim (fun q => q.1) fun q => by have := (Turned.refl (fun _ => False) w).size; simp at q; omega), ((Turned.refl (fun _ => False) w).trans (Turned.alloc _ _ _) fun _ _ q => q).comp t2 fun b hb q => q.elim id fun q => by omega⟩; clear q2 t2))
        go_ret
        exact ⟨A2.out.2, .inr ⟨[] ++ [(second : Int)], a2, c2, HR.out, rfl, A2.out.1⟩⟩
      · have d3 : decide ((second : Int) < 2147483648) = false := decide_eq_false (by omega)
        have d3n : decide (second < 2147483648) = false := decide_eq_false (by omega)
        obtain ⟨d, hd⟩ : ∃ d, d = second - 2147483648 := ⟨_, rfl⟩
        have e1 : ((second : Int) - 2147483648) % 4294967296 = (d : Int) := by omega
        obtain ⟨at_, hat⟩ : ∃ at_, at_ = 4 * d := ⟨_, rfl⟩
        have e2 : 4 * (d : Int) = (at_ : Int) := by omega
        have hdb : d < 2147483648 := by omega
        have HDB : Hid (d < 2147483648 ∧ second < 4294967296 ∧ 4294967295 < 4294967296) := ⟨hdb, hs, hf⟩
        by_cases h4 : edges.size < at_
        · have d4 : decide ((edges.size : Int) < (at_ : Int)) = true := decide_eq_true (by omega)
          have d4n : decide (edges.size < at_) = true := decide_eq_true (by omega)
          have HR : Hid (progPar 4294967295 second edges = none) := by
            have q : progPar 4294967295 second edges = none := by unfold progPar; rw [if_neg h2, if_neg h3, if_pos (by rw [← hd, ← hat]; exact h4)]
            exact q
          clear hz h2 h3 h4 hd hat hdb hs hf
          go_enter Try.func96, Try.ntmps96
          go_wp2
          exact ⟨rfl, (Turned.refl (fun _ => False) w), .inl ⟨HR.out, rfl⟩⟩
        · have d4 : decide ((edges.size : Int) < (at_ : Int)) = false := decide_eq_false (by omega)
          have d4n : decide (edges.size < at_) = false := decide_eq_false (by omega)
          have hsl : ∀ W, (Instr.slice 9 (.string edges) (some (.int .i64 (at_ : Nat))) none none).run Try.prog W = .ok (.string (edges.extract at_ edges.size)) W := fun W => by
            have := run_slice_string_l (P := Try.prog) W 9 edges Try.underlying9 .i64 (at_ : Int) (by omega) (by omega)
            exact this
          obtain ⟨o, ho⟩ : ∃ o, o = parLoop (edges.extract at_ edges.size) (17 - 0) [] (0, 0) := ⟨_, rfl⟩
          have HR : Hid (progPar 4294967295 second edges = o) := by
            have q : progPar 4294967295 second edges = o := by unfold progPar; rw [if_neg h2, if_neg h3, if_neg (by rw [← hd, ← hat]; exact h4), ← hd, ← hat, if_pos rfl, ho]; rfl
            exact q
          rw [HR.out]
          have hnr := fun W => newReader_any (edges.extract at_ edges.size) W
          have SZ : Hid ((edges.extract at_ edges.size).size ≤ 4611686018427387904) := by
            have q : (edges.extract at_ edges.size).size ≤ 4611686018427387904 := by rw [ByteArray.size_extract]; omega
            exact q
          generalize edges.extract at_ edges.size = sub at *
          have HO : Hid (o = parLoop sub (17 - 0) [] (0, 0)) := ho
          have FB : Hid (∀ x ∈ ([] : List Int), I64 x) := by
            have q : ∀ x ∈ ([] : List Int), I64 x := by simp [I64]
            exact q
          clear hz h2 h3 h4 hd hat hdb hs hf ho HR
          go_enter Try.func96, Try.ntmps96
          go_wp2_with (first
            | (go_at_call 59; (with_reducible refine (hnr _).mono ?_); rintro e w3 ⟨rfl, hr, ht, -⟩; have A3 : Hid (RdIs w3 w.heap.size sub (0, 0) ∧ Turned (fun _ => False) w w3) := ⟨hr, ht⟩; clear hr ht))
          have HS : Hid (PrRel sub w w.heap.size o (17 - 0) (.slice none 0 0) w3) := ⟨[], (0, 0), fun b => w.heap.size ≤ b ∧ b < w.heap.size, rfl, ((Sl.nil w (fun b => w.heap.size ≤ b ∧ b < w.heap.size) 3 1).turned A3.out.2 fun _ _ q => q), fun b q => ⟨q.1, by omega, by have := A3.out.2.size; omega⟩, A3.out.1, Nat.zero_le _, HO.out, FB.out, (Turned.refl (fun _ => False) w).trans A3.out.2 fun _ _ q => q⟩
          obtain ⟨p, hpe⟩ : ∃ p, p = w.heap.size := ⟨_, rfl⟩
          have HPW : Hid (w.heap.size ≤ p) := (by rw [hpe]; exact (Turned.refl (fun _ => False) w).size : w.heap.size ≤ p)
          rw [← hpe] at HS ⊢
          clear hpe A3
          go_loopg [7] (17 - 0) (fun g v wr => PrRel sub w p o g v wr)
          case atStart => exact HS.out
          case round =>
            obtain ⟨l, st, R, hlg, hsl, hR, hrd, hat, ho, hlb, htr⟩ := hrel
            obtain ⟨a, c, rfl, -, -⟩ := hsl.value
            obtain ⟨n, hn⟩ : ∃ n, n = l.length := ⟨_, rfl⟩
            rw [← hn]
            have SLH : Hid (Sl wr R 3 1 (.slice a n c) (ncells l) n) := by
              have q : Sl wr R 3 1 (.slice a n c) (ncells l) n := by rw [hn]; exact hsl
              exact q
            have G : Hid (n + gk = 17 ∧ n = l.length) := ⟨by rw [hn]; exact hlg, hn⟩
            have RR : Hid (∀ b, R b → w.heap.size ≤ b ∧ b ≠ p ∧ b < wr.heap.size) := hR
            have RD : Hid (RdIs wr p sub st ∧ st.1 ≤ sub.size) := ⟨hrd, hat⟩
            have T : Hid (Turned (fun _ => False) w wr ∧ ∀ x ∈ l, I64 x) := ⟨htr, hlb⟩
            have h60 := u32_r hrd hat SZ.out
            unfold NumPost at h60
            have hpl := lt_of_block hrd
            have HPL : Hid (p < wr.heap.size) := hpl
            clear hlg hsl hR hrd hat hlb htr hn hpl HS
            by_cases hg : gk = 0
            · have d5 : decide ((n : Int) ≤ 16) = false := decide_eq_false (by have := G.out; omega)
              have d5n : decide (n ≤ 16) = false := decide_eq_false (by have := G.out; omega)
              subst hg
              have HN : Hid (o = none) := ho
              clear ho h60
              go_wp2
              exact ⟨rfl, T.out.1, .inl ⟨HN.out, rfl⟩⟩
            · have d5 : decide ((n : Int) ≤ 16) = true := decide_eq_true (by have := G.out; omega)
              have d5n : decide (n ≤ 16) = true := decide_eq_true (by have := G.out; omega)
              obtain ⟨g2, rfl⟩ : ∃ g2, gk = g2 + 1 := ⟨gk - 1, by omega⟩
              rw [parLoop] at ho
              have hq4 : (rdNum sub st 4).1 < 4294967296 := rdNum_lt sub st 4
              have hqat : (rdNum sub st 4).2.1 ≤ sub.size := rdRaw_at sub st 4 RD.out.2
              generalize rdNum sub st 4 = q at *
              obtain ⟨x, st2, k⟩ := q
              simp only at h60 ho hq4 hqat
              by_cases hk : k = 0
              · subst hk
                rw [if_neg (by simp)] at ho
                have HX : Hid (x < 4294967296 ∧ st2 ≤ sub.size) := ⟨hq4, hqat⟩
                have hm := must32_ok x
                have hand := andnot_mark x hq4
                obtain ⟨y, hy⟩ : ∃ y, y = x % 2147483648 := ⟨_, rfl⟩
                rw [← hy] at hand ho
                have hyb : y < 2147483648 := by omega
                have HY : Hid (y < 2147483648) := hyb
                have m1 : Hid (n + 1 ≤ maxLen ∧ (n + 1) * 8 ≤ 140737488355328) := (by have := G.out; simp only [maxLen]; omega : n + 1 ≤ maxLen ∧ (n + 1) * 8 ≤ 140737488355328)
                have YB : Hid (∀ z ∈ l ++ [(y : Int)], I64 z) := by
                  have q : ∀ z ∈ l ++ [(y : Int)], I64 z := fun z hz => by
                    rcases List.mem_append.1 hz with hz | hz
                    · exact T.out.2 z hz
                    · rw [List.mem_singleton] at hz; subst hz; unfold I64; have := HY.out; omega
                  exact q
                clear hqat hy hg hq4
                by_cases hx : 2147483648 ≤ x
                · have d6 : decide ((2147483648 : Int) ≤ (x : Int)) = true := decide_eq_true (by omega)
                  have d6n : decide (2147483648 ≤ x) = true := decide_eq_true hx
                  rw [if_pos hx] at ho
                  have HO2 : Hid (o = some (l ++ [(y : Int)])) := ho
                  clear ho hx
                  go_wp2_with (first
                    | (go_at_call 60; (with_reducible refine h60.mono ?_); rintro e w2 ⟨rfl, hr2, ht2⟩; have B2 : Hid (RdIs w2 p sub (st2, 0) ∧ Turned (· = p) wr w2) := ⟨hr2, ht2⟩; clear hr2 ht2)
                    | (go_at_call 92; (with_reducible refine (hm _).mono ?_); rintro e w3 ⟨rfl, rfl⟩)
                    | (at_builtin; refine wpList_append rfl (.tmp 50) (.tmp 54) 57 57 rfl ((SLH.out.turned B2.out.2 fun b q z => (RR.out b q).2.1 z).turned (Turned.alloc (fun _ => False) _ _) fun _ _ q => q) Try.underlying57 info3i rfl (by decide) rfl (.slice (some ⟨w2.heap.size, 0, none⟩) 1 1) rfl (src_one Try.underlying57 (.int .i64 (y : Nat)) rfl w2) m1.out.1 m1.out.2 ?_; intro v4 w4 q4 t4; obtain ⟨a4, c4, rfl, -, -⟩ := q4.value; have B4 : Hid (Sl w4 (fun b => w.heap.size ≤ b ∧ b ≠ p ∧ b < w4.heap.size) 3 1 (.slice a4 (n + 1) c4) (ncells l ++ [.int .i64 (y : Nat)]) (n + 1) ∧ RdIs w4 p sub (st2, 0) ∧ Turned (fun _ => False) w w4) := ⟨(sl_bound q4).widen (fun b q => ⟨q.1.elim (fun q => (RR.out b q).1) (fun q => by have h1 := T.out.1.size; have h2 := B2.out.2.size; simp at q; omega), q.1.elim (fun q => (RR.out b q).2.1) (fun q => by have h1 := HPL.out; have h2 := B2.out.2.size; simp at q; omega), q.2⟩), (B2.out.1.turned (Turned.alloc (fun _ => False) _ _) (fun q => q)).turned t4 (fun q => (RR.out p q).2.1 rfl), ((T.out.1.comp B2.out.2 (T := fun _ => False) (fun b hb q => q.elim id fun q => by have := HPW.out; omega)).new _).comp t4 (fun b hb q => q.elim id fun q => by have := (RR.out b q).1; omega)⟩; clear q4 t4))
                  go_ret
                  have e : (l ++ [(y : Int)]).length = n + 1 := by rw [List.length_append, ← G.out.2]; rfl
                  refine ⟨B4.out.2.2, .inr ⟨l ++ [(y : Int)], a4, c4, HO2.out, by rw [e]; rfl, ?_⟩⟩
                  rw [e, ncells_snoc]
                  exact B4.out.1.widen fun b q => q.1
                · have d6 : decide ((2147483648 : Int) ≤ (x : Int)) = false := decide_eq_false (by omega)
                  have d6n : decide (2147483648 ≤ x) = false := decide_eq_false hx
                  rw [if_neg hx] at ho
                  have HO2 : Hid (o = parLoop sub g2 (l ++ [(y : Int)]) (st2, 0)) := ho
                  clear ho hx
                  go_wp2_with (first
                    | (go_at_call 60; (with_reducible refine h60.mono ?_); rintro e w2 ⟨rfl, hr2, ht2⟩; have B2 : Hid (RdIs w2 p sub (st2, 0) ∧ Turned (· = p) wr w2) := ⟨hr2, ht2⟩; clear hr2 ht2)
                    | (go_at_call 92; (with_reducible refine (hm _).mono ?_); rintro e w3 ⟨rfl, rfl⟩)
                    | (at_builtin; refine wpList_append rfl (.tmp 50) (.tmp 54) 57 57 rfl ((SLH.out.turned B2.out.2 fun b q z => (RR.out b q).2.1 z).turned (Turned.alloc (fun _ => False) _ _) fun _ _ q => q) Try.underlying57 info3i rfl (by decide) rfl (.slice (some ⟨w2.heap.size, 0, none⟩) 1 1) rfl (src_one Try.underlying57 (.int .i64 (y : Nat)) rfl w2) m1.out.1 m1.out.2 ?_; intro v4 w4 q4 t4; obtain ⟨a4, c4, rfl, -, -⟩ := q4.value; have B4 : Hid (Sl w4 (fun b => w.heap.size ≤ b ∧ b ≠ p ∧ b < w4.heap.size) 3 1 (.slice a4 (n + 1) c4) (ncells l ++ [.int .i64 (y : Nat)]) (n + 1) ∧ RdIs w4 p sub (st2, 0) ∧ Turned (fun _ => False) w w4) := ⟨(sl_bound q4).widen (fun b q => ⟨q.1.elim (fun q => (RR.out b q).1) (fun q => by have h1 := T.out.1.size; have h2 := B2.out.2.size; simp at q; omega), q.1.elim (fun q => (RR.out b q).2.1) (fun q => by have h1 := HPL.out; have h2 := B2.out.2.size; simp at q; omega), q.2⟩), (B2.out.1.turned (Turned.alloc (fun _ => False) _ _) (fun q => q)).turned t4 (fun q => (RR.out p q).2.1 rfl), ((T.out.1.comp B2.out.2 (T := fun _ => False) (fun b hb q => q.elim id fun q => by have := HPW.out; omega)).new _).comp t4 (fun b hb q => q.elim id fun q => by have := (RR.out b q).1; omega)⟩; clear q4 t4))
                  go_roundg g2
                  case measure => omega
                  case rel =>
                    have e : (l ++ [(y : Int)]).length = n + 1 := by rw [List.length_append, ← G.out.2]; rfl
                    refine ⟨l ++ [(y : Int)], (st2, 0), fun b => w.heap.size ≤ b ∧ b ≠ p ∧ b < w4.heap.size, by have := G.out; omega, ?_, fun b q => q, B4.out.2.1, HX.out.2, HO2.out, YB.out, B4.out.2.2⟩
                    rw [e, ncells_snoc]; exact B4.out.1
              · have hm := must32_no x k hk
                rw [if_pos (by simpa using hk)] at ho
                have HN : Hid (o = none) := ho
                clear ho hk hqat hg
                go_wp2_with (first
                  | (go_at_call 60; (with_reducible refine h60.mono ?_); rintro e w2 ⟨rfl, hr2, ht2⟩; have B2 : Hid (Turned (fun _ => False) w w2) := T.out.1.comp ht2 (fun b hb q => q.elim id fun q => by have := HPW.out; omega); clear hr2 ht2)
                  | (go_at_call 92; (with_reducible refine (hm _).mono ?_); rintro e w3 ⟨rfl, rfl⟩))
                exact ⟨rfl, B2.out, .inl ⟨HN.out, rfl⟩⟩
  · have x1 : ((first : Int) == 4294967295) = false := int_neb _ _ (by omega)
    have x2 : ((first : Int) != 4294967295) = true := int_bne2 _ _ (by omega)
    by_cases h2 : second = 4294967295
    · subst h2
      have HR : Hid (progPar first 4294967295 edges = some [(first : Int)]) := by
        have q : progPar first 4294967295 edges = some [(first : Int)] := by unfold progPar; rw [if_pos rfl, if_neg h1]
        exact q
      clear hs hz h1
      go_enter Try.func96, Try.ntmps96
      go_wp2_with (first
      | (at_builtin; refine wpList_append rfl (.tmp 13) (.tmp 16) 57 57 rfl (Sl.nil _ (fun _ => False) 3 1) Try.underlying57 info3i rfl (by decide) rfl (.slice (some ⟨w.heap.size, 0, none⟩) 1 1) rfl (src_one Try.underlying57 (.int .i64 (first : Nat)) rfl w) (by simp [maxLen]) (by decide) ?_; intro v1 w1 q1 t1; obtain ⟨a1, c1, rfl, -, -⟩ := q1.value; have A1 : Hid (Sl w1 (fun b => w.heap.size ≤ b ∧ b < w1.heap.size) 3 1 (.slice a1 1 c1) (ncells [(first : Int)]) 1 ∧ Turned (fun _ => False) w w1) := ⟨(sl_bound q1).widen (fun b q => ⟨q.1.elim (fun q => q.elim) (fun q => by simp at q; omega), q.2⟩), (Turned.alloc _ _ _).trans t1 fun _ _ q => q⟩; clear q1 t1))
      go_ret
      exact ⟨A1.out.2, .inr ⟨[(first : Int)], _, _, HR.out, rfl, A1.out.1.widen fun b q => q.1⟩⟩
    · have y1 : ((second : Int) == 4294967295) = false := int_neb _ _ (by omega)
      by_cases h3 : second < 2147483648
      · have d3 : decide ((second : Int) < 2147483648) = true := decide_eq_true (by omega)
        have d3n : decide (second < 2147483648) = true := decide_eq_true (by omega)
        have HR : Hid (progPar first second edges = some ([(first : Int)] ++ [(second : Int)])) := by
          have q : progPar first second edges = some ([(first : Int)] ++ [(second : Int)]) := by unfold progPar; rw [if_neg h2, if_pos h3, if_neg h1]
          exact q
        clear hz h1 h2 h3
        go_enter Try.func96, Try.ntmps96
        go_wp2_with (first
          | (at_builtin; refine wpList_append rfl (.tmp 13) (.tmp 16) 57 57 rfl (Sl.nil _ (fun _ => False) 3 1) Try.underlying57 info3i rfl (by decide) rfl (.slice (some ⟨w.heap.size, 0, none⟩) 1 1) rfl (src_one Try.underlying57 (.int .i64 (first : Nat)) rfl w) (by simp [maxLen]) (by decide) ?_; intro v1 w1 q1 t1; obtain ⟨a1, c1, rfl, -, -⟩ := q1.value; have A1 : Hid (Sl w1 (fun b => w.heap.size ≤ b ∧ b < w1.heap.size) 3 1 (.slice a1 1 c1) (ncells [(first : Int)]) 1 ∧ Turned (fun _ => False) w w1) := ⟨(sl_bound q1).widen (fun b q => ⟨q.1.elim (fun q => q.elim) (fun q => by simp at q; omega), q.2⟩), (Turned.alloc _ _ _).trans t1 fun _ _ q => q⟩; clear q1 t1)
          | (at_builtin; refine wpList_append rfl (.tmp 23) (.tmp 26) 57 57 rfl (A1.out.1.turned (Turned.alloc (fun _ => False) _ _) fun _ _ q => q) Try.underlying57 info3i rfl (by decide) rfl (.slice (some ⟨w1.heap.size, 0, none⟩) 1 1) rfl (src_one Try.underlying57 (.int .i64 (second : Nat)) rfl w1) (by simp [maxLen]) (by decide) ?_; intro v2 w2 q2 t2; obtain ⟨a2, c2, rfl, -, -⟩ := q2.value; have A2 : Hid (Sl w2 (fun b => w.heap.size ≤ b) 3 1 (.slice a2 2 c2) (ncells ([(first : Int)] ++ [(second : Int)])) 2 ∧ Turned (fun _ => False) w w2) := ⟨q2.widen (fun b q => q.elim (fun q => q.1) fun q => by have := A1.out.2.size; simp at q; omega), (A1.out.2.trans (Turned.alloc _ _ _) fun _ _ q => q).comp t2 fun b hb q => q.elim id fun q => by omega⟩; clear q2 t2))
        go_ret
        exact ⟨A2.out.2, .inr ⟨[(first : Int)] ++ [(second : Int)], a2, c2, HR.out, rfl, A2.out.1⟩⟩
      · have d3 : decide ((second : Int) < 2147483648) = false := decide_eq_false (by omega)
        have d3n : decide (second < 2147483648) = false := decide_eq_false (by omega)
        obtain ⟨d, hd⟩ : ∃ d, d = second - 2147483648 := ⟨_, rfl⟩
        have e1 : ((second : Int) - 2147483648) % 4294967296 = (d : Int) := by omega
        obtain ⟨at_, hat⟩ : ∃ at_, at_ = 4 * d := ⟨_, rfl⟩
        have e2 : 4 * (d : Int) = (at_ : Int) := by omega
        have hdb : d < 2147483648 := by omega
        have HDB : Hid (d < 2147483648 ∧ second < 4294967296 ∧ first < 4294967296) := ⟨hdb, hs, hf⟩
        by_cases h4 : edges.size < at_
        · have d4 : decide ((edges.size : Int) < (at_ : Int)) = true := decide_eq_true (by omega)
          have d4n : decide (edges.size < at_) = true := decide_eq_true (by omega)
          have HR : Hid (progPar first second edges = none) := by
            have q : progPar first second edges = none := by unfold progPar; rw [if_neg h2, if_neg h3, if_pos (by rw [← hd, ← hat]; exact h4)]
            exact q
          clear hz h1 h2 h3 h4 hd hat hdb hs
          go_enter Try.func96, Try.ntmps96
          go_wp2_with (first
            | (at_builtin; refine wpList_append rfl (.tmp 13) (.tmp 16) 57 57 rfl (Sl.nil _ (fun _ => False) 3 1) Try.underlying57 info3i rfl (by decide) rfl (.slice (some ⟨w.heap.size, 0, none⟩) 1 1) rfl (src_one Try.underlying57 (.int .i64 (first : Nat)) rfl w) (by simp [maxLen]) (by decide) ?_; intro v1 w1 q1 t1; obtain ⟨a1, c1, rfl, -, -⟩ := q1.value; have A1 : Hid (Sl w1 (fun b => w.heap.size ≤ b ∧ b < w1.heap.size) 3 1 (.slice a1 1 c1) (ncells [(first : Int)]) 1 ∧ Turned (fun _ => False) w w1) := ⟨(sl_bound q1).widen (fun b q => ⟨q.1.elim (fun q => q.elim) (fun q => by simp at q; omega), q.2⟩), (Turned.alloc _ _ _).trans t1 fun _ _ q => q⟩; clear q1 t1))
          exact ⟨rfl, A1.out.2, .inl ⟨HR.out, rfl⟩⟩
        · have d4 : decide ((edges.size : Int) < (at_ : Int)) = false := decide_eq_false (by omega)
          have d4n : decide (edges.size < at_) = false := decide_eq_false (by omega)
          have hsl : ∀ W, (Instr.slice 9 (.string edges) (some (.int .i64 (at_ : Nat))) none none).run Try.prog W = .ok (.string (edges.extract at_ edges.size)) W := fun W => by
            have := run_slice_string_l (P := Try.prog) W 9 edges Try.underlying9 .i64 (at_ : Int) (by omega) (by omega)
            exact this
          obtain ⟨o, ho⟩ : ∃ o, o = parLoop (edges.extract at_ edges.size) (17 - 1) [(first : Int)] (0, 0) := ⟨_, rfl⟩
          have HR : Hid (progPar first second edges = o) := by
            have q : progPar first second edges = o := by unfold progPar; rw [if_neg h2, if_neg h3, if_neg (by rw [← hd, ← hat]; exact h4), ← hd, ← hat, if_neg h1, ho]; rfl
            exact q
          rw [HR.out]
          have hnr := fun W => newReader_any (edges.extract at_ edges.size) W
          have SZ : Hid ((edges.extract at_ edges.size).size ≤ 4611686018427387904) := by
            have q : (edges.extract at_ edges.size).size ≤ 4611686018427387904 := by rw [ByteArray.size_extract]; omega
            exact q
          generalize edges.extract at_ edges.size = sub at *
          have HO : Hid (o = parLoop sub (17 - 1) [(first : Int)] (0, 0)) := ho
          have FB : Hid (∀ x ∈ ([(first : Int)] : List Int), I64 x) := by
            have q : ∀ x ∈ ([(first : Int)] : List Int), I64 x := by simp [I64]; omega
            exact q
          clear hz h1 h2 h3 h4 hd hat hdb hs ho HR
          go_enter Try.func96, Try.ntmps96
          go_wp2_with (first
            | (at_builtin; refine wpList_append rfl (.tmp 13) (.tmp 16) 57 57 rfl (Sl.nil _ (fun _ => False) 3 1) Try.underlying57 info3i rfl (by decide) rfl (.slice (some ⟨w.heap.size, 0, none⟩) 1 1) rfl (src_one Try.underlying57 (.int .i64 (first : Nat)) rfl w) (by simp [maxLen]) (by decide) ?_; intro v1 w1 q1 t1; obtain ⟨a1, c1, rfl, -, -⟩ := q1.value; have A1 : Hid (Sl w1 (fun b => w.heap.size ≤ b ∧ b < w1.heap.size) 3 1 (.slice a1 1 c1) (ncells [(first : Int)]) 1 ∧ Turned (fun _ => False) w w1) := ⟨(sl_bound q1).widen (fun b q => ⟨q.1.elim (fun q => q.elim) (fun q => by simp at q; omega), q.2⟩), (Turned.alloc _ _ _).trans t1 fun _ _ q => q⟩; clear q1 t1)
            | (go_at_call 59; (with_reducible refine (hnr _).mono ?_); rintro e w3 ⟨rfl, hr, ht, -⟩; have A3 : Hid (RdIs w3 w1.heap.size sub (0, 0) ∧ Turned (fun _ => False) w1 w3) := ⟨hr, ht⟩; clear hr ht))
          have HS : Hid (PrRel sub w w1.heap.size o (17 - 1) (.slice a1 1 c1) w3) := ⟨[(first : Int)], (0, 0), fun b => w.heap.size ≤ b ∧ b < w1.heap.size, rfl, (A1.out.1.turned A3.out.2 fun _ _ q => q), fun b q => ⟨q.1, by omega, by have := A3.out.2.size; omega⟩, A3.out.1, Nat.zero_le _, HO.out, FB.out, A1.out.2.trans A3.out.2 fun _ _ q => q⟩
          obtain ⟨p, hpe⟩ : ∃ p, p = w1.heap.size := ⟨_, rfl⟩
          have HPW : Hid (w.heap.size ≤ p) := (by rw [hpe]; exact A1.out.2.size : w.heap.size ≤ p)
          rw [← hpe] at HS ⊢
          clear hpe A3
          go_loopg [7] (17 - 1) (fun g v wr => PrRel sub w p o g v wr)
          case atStart => exact HS.out
          case round =>
            obtain ⟨l, st, R, hlg, hsl, hR, hrd, hat, ho, hlb, htr⟩ := hrel
            obtain ⟨a, c, rfl, -, -⟩ := hsl.value
            obtain ⟨n, hn⟩ : ∃ n, n = l.length := ⟨_, rfl⟩
            rw [← hn]
            have SLH : Hid (Sl wr R 3 1 (.slice a n c) (ncells l) n) := by
              have q : Sl wr R 3 1 (.slice a n c) (ncells l) n := by rw [hn]; exact hsl
              exact q
            have G : Hid (n + gk = 17 ∧ n = l.length) := ⟨by rw [hn]; exact hlg, hn⟩
            have RR : Hid (∀ b, R b → w.heap.size ≤ b ∧ b ≠ p ∧ b < wr.heap.size) := hR
            have RD : Hid (RdIs wr p sub st ∧ st.1 ≤ sub.size) := ⟨hrd, hat⟩
            have T : Hid (Turned (fun _ => False) w wr ∧ ∀ x ∈ l, I64 x) := ⟨htr, hlb⟩
            have h60 := u32_r hrd hat SZ.out
            unfold NumPost at h60
            have hpl := lt_of_block hrd
            have HPL : Hid (p < wr.heap.size) := hpl
            clear hlg hsl hR hrd hat hlb htr hn hpl HS
            by_cases hg : gk = 0
            · have d5 : decide ((n : Int) ≤ 16) = false := decide_eq_false (by have := G.out; omega)
              have d5n : decide (n ≤ 16) = false := decide_eq_false (by have := G.out; omega)
              subst hg
              have HN : Hid (o = none) := ho
              clear ho h60
              go_wp2
              exact ⟨rfl, T.out.1, .inl ⟨HN.out, rfl⟩⟩
            · have d5 : decide ((n : Int) ≤ 16) = true := decide_eq_true (by have := G.out; omega)
              have d5n : decide (n ≤ 16) = true := decide_eq_true (by have := G.out; omega)
              obtain ⟨g2, rfl⟩ : ∃ g2, gk = g2 + 1 := ⟨gk - 1, by omega⟩
              rw [parLoop] at ho
              have hq4 : (rdNum sub st 4).1 < 4294967296 := rdNum_lt sub st 4
              have hqat : (rdNum sub st 4).2.1 ≤ sub.size := rdRaw_at sub st 4 RD.out.2
              generalize rdNum sub st 4 = q at *
              obtain ⟨x, st2, k⟩ := q
              simp only at h60 ho hq4 hqat
              by_cases hk : k = 0
              · subst hk
                rw [if_neg (by simp)] at ho
                have HX : Hid (x < 4294967296 ∧ st2 ≤ sub.size) := ⟨hq4, hqat⟩
                have hm := must32_ok x
                have hand := andnot_mark x hq4
                obtain ⟨y, hy⟩ : ∃ y, y = x % 2147483648 := ⟨_, rfl⟩
                rw [← hy] at hand ho
                have hyb : y < 2147483648 := by omega
                have HY : Hid (y < 2147483648) := hyb
                have m1 : Hid (n + 1 ≤ maxLen ∧ (n + 1) * 8 ≤ 140737488355328) := (by have := G.out; simp only [maxLen]; omega : n + 1 ≤ maxLen ∧ (n + 1) * 8 ≤ 140737488355328)
                have YB : Hid (∀ z ∈ l ++ [(y : Int)], I64 z) := by
                  have q : ∀ z ∈ l ++ [(y : Int)], I64 z := fun z hz => by
                    rcases List.mem_append.1 hz with hz | hz
                    · exact T.out.2 z hz
                    · rw [List.mem_singleton] at hz; subst hz; unfold I64; have := HY.out; omega
                  exact q
                clear hqat hy hg hq4
                by_cases hx : 2147483648 ≤ x
                · have d6 : decide ((2147483648 : Int) ≤ (x : Int)) = true := decide_eq_true (by omega)
                  have d6n : decide (2147483648 ≤ x) = true := decide_eq_true hx
                  rw [if_pos hx] at ho
                  have HO2 : Hid (o = some (l ++ [(y : Int)])) := ho
                  clear ho hx
                  go_wp2_with (first
                    | (go_at_call 60; (with_reducible refine h60.mono ?_); rintro e w2 ⟨rfl, hr2, ht2⟩; have B2 : Hid (RdIs w2 p sub (st2, 0) ∧ Turned (· = p) wr w2) := ⟨hr2, ht2⟩; clear hr2 ht2)
                    | (go_at_call 92; (with_reducible refine (hm _).mono ?_); rintro e w3 ⟨rfl, rfl⟩)
                    | (at_builtin; refine wpList_append rfl (.tmp 50) (.tmp 54) 57 57 rfl ((SLH.out.turned B2.out.2 fun b q z => (RR.out b q).2.1 z).turned (Turned.alloc (fun _ => False) _ _) fun _ _ q => q) Try.underlying57 info3i rfl (by decide) rfl (.slice (some ⟨w2.heap.size, 0, none⟩) 1 1) rfl (src_one Try.underlying57 (.int .i64 (y : Nat)) rfl w2) m1.out.1 m1.out.2 ?_; intro v4 w4 q4 t4; obtain ⟨a4, c4, rfl, -, -⟩ := q4.value; have B4 : Hid (Sl w4 (fun b => w.heap.size ≤ b ∧ b ≠ p ∧ b < w4.heap.size) 3 1 (.slice a4 (n + 1) c4) (ncells l ++ [.int .i64 (y : Nat)]) (n + 1) ∧ RdIs w4 p sub (st2, 0) ∧ Turned (fun _ => False) w w4) := ⟨(sl_bound q4).widen (fun b q => ⟨q.1.elim (fun q => (RR.out b q).1) (fun q => by have h1 := T.out.1.size; have h2 := B2.out.2.size; simp at q; omega), q.1.elim (fun q => (RR.out b q).2.1) (fun q => by have h1 := HPL.out; have h2 := B2.out.2.size; simp at q; omega), q.2⟩), (B2.out.1.turned (Turned.alloc (fun _ => False) _ _) (fun q => q)).turned t4 (fun q => (RR.out p q).2.1 rfl), ((T.out.1.comp B2.out.2 (T := fun _ => False) (fun b hb q => q.elim id fun q => by have := HPW.out; omega)).new _).comp t4 (fun b hb q => q.elim id fun q => by have := (RR.out b q).1; omega)⟩; clear q4 t4))
                  go_ret
                  have e : (l ++ [(y : Int)]).length = n + 1 := by rw [List.length_append, ← G.out.2]; rfl
                  refine ⟨B4.out.2.2, .inr ⟨l ++ [(y : Int)], a4, c4, HO2.out, by rw [e]; rfl, ?_⟩⟩
                  rw [e, ncells_snoc]
                  exact B4.out.1.widen fun b q => q.1
                · have d6 : decide ((2147483648 : Int) ≤ (x : Int)) = false := decide_eq_false (by omega)
                  have d6n : decide (2147483648 ≤ x) = false := decide_eq_false hx
                  rw [if_neg hx] at ho
                  have HO2 : Hid (o = parLoop sub g2 (l ++ [(y : Int)]) (st2, 0)) := ho
                  clear ho hx
                  go_wp2_with (first
                    | (go_at_call 60; (with_reducible refine h60.mono ?_); rintro e w2 ⟨rfl, hr2, ht2⟩; have B2 : Hid (RdIs w2 p sub (st2, 0) ∧ Turned (· = p) wr w2) := ⟨hr2, ht2⟩; clear hr2 ht2)
                    | (go_at_call 92; (with_reducible refine (hm _).mono ?_); rintro e w3 ⟨rfl, rfl⟩)
                    | (at_builtin; refine wpList_append rfl (.tmp 50) (.tmp 54) 57 57 rfl ((SLH.out.turned B2.out.2 fun b q z => (RR.out b q).2.1 z).turned (Turned.alloc (fun _ => False) _ _) fun _ _ q => q) Try.underlying57 info3i rfl (by decide) rfl (.slice (some ⟨w2.heap.size, 0, none⟩) 1 1) rfl (src_one Try.underlying57 (.int .i64 (y : Nat)) rfl w2) m1.out.1 m1.out.2 ?_; intro v4 w4 q4 t4; obtain ⟨a4, c4, rfl, -, -⟩ := q4.value; have B4 : Hid (Sl w4 (fun b => w.heap.size ≤ b ∧ b ≠ p ∧ b < w4.heap.size) 3 1 (.slice a4 (n + 1) c4) (ncells l ++ [.int .i64 (y : Nat)]) (n + 1) ∧ RdIs w4 p sub (st2, 0) ∧ Turned (fun _ => False) w w4) := ⟨(sl_bound q4).widen (fun b q => ⟨q.1.elim (fun q => (RR.out b q).1) (fun q => by have h1 := T.out.1.size; have h2 := B2.out.2.size; simp at q; omega), q.1.elim (fun q => (RR.out b q).2.1) (fun q => by have h1 := HPL.out; have h2 := B2.out.2.size; simp at q; omega), q.2⟩), (B2.out.1.turned (Turned.alloc (fun _ => False) _ _) (fun q => q)).turned t4 (fun q => (RR.out p q).2.1 rfl), ((T.out.1.comp B2.out.2 (T := fun _ => False) (fun b hb q => q.elim id fun q => by have := HPW.out; omega)).new _).comp t4 (fun b hb q => q.elim id fun q => by have := (RR.out b q).1; omega)⟩; clear q4 t4))
                  go_roundg g2
                  case measure => omega
                  case rel =>
                    have e : (l ++ [(y : Int)]).length = n + 1 := by rw [List.length_append, ← G.out.2]; rfl
                    refine ⟨l ++ [(y : Int)], (st2, 0), fun b => w.heap.size ≤ b ∧ b ≠ p ∧ b < w4.heap.size, by have := G.out; omega, ?_, fun b q => q, B4.out.2.1, HX.out.2, HO2.out, YB.out, B4.out.2.2⟩
                    rw [e, ncells_snoc]; exact B4.out.1
              · have hm := must32_no x k hk
                rw [if_pos (by simpa using hk)] at ho
                have HN : Hid (o = none) := ho
                clear ho hk hqat hg
                go_wp2_with (first
                  | (go_at_call 60; (with_reducible refine h60.mono ?_); rintro e w2 ⟨rfl, hr2, ht2⟩; have B2 : Hid (Turned (fun _ => False) w w2) := T.out.1.comp ht2 (fun b hb q => q.elim id fun q => by have := HPW.out; omega); clear hr2 ht2)
                  | (go_at_call 92; (with_reducible refine (hm _).mono ?_); rintro e w3 ⟨rfl, rfl⟩))
                exact ⟨rfl, B2.out, .inl ⟨HN.out, rfl⟩⟩
end Go.Proofs.Ytfeljngmidhajaa

namespace Go.Proofs.Ytfeljngmidhajaa
open Go.RowKit Go.Mine

/-- the number of n bytes at p -/
def fld (s : ByteArray) (p n : Nat) : Nat := unnum (s.extract p (p + n)).data.toList
theorem fld_lt (s : ByteArray) (p n : Nat) (h : p + n ≤ s.size) : fld s p n < 256 ^ n := by
  have := rdNum_lt s (p, 0) n
  unfold rdNum at this
  rw [rdRaw_good s p n h] at this
  exact this
theorem rdNum_fld (s : ByteArray) (p n : Nat) (h : p + n ≤ s.size) : rdNum s (p, 0) n = (fld s p n, (p + n, 0)) := by
  unfold rdNum
  rw [rdRaw_good s p n h]
  rfl
theorem rdNum_short (s : ByteArray) (p n : Nat) (h : s.size < p + n) : rdNum s (p, 0) n = (0, (p, 2)) := by
  unfold rdNum
  rw [rdRaw_short s p n h]
  rfl

def progRow (cA cE cN cB : ByteArray) (j last : Nat) : Option (Rw × Nat) :=
  if cA.size < 15 * j + 15 then none else
  match progPar (fld cA (15 * j + 4) 4) (fld cA (15 * j + 8) 4) cE with
  | none => none
  | some par =>
    if cN.size < 4 * j + 4 then none else if fld cN (4 * j) 4 < last then none else if cB.size < fld cN (4 * j) 4 then none else
    some (⟨par, fld cA (15 * j) 4, fld cA (15 * j + 12) 2, fld cA (15 * j + 14) 1, cB.extract last (fld cN (4 * j) 4)⟩, fld cN (4 * j) 4)
def progRows (cA cE cN cB : ByteArray) : Nat → Nat → Nat → List Rw → Option (List Rw)
  | 0, _, _, l => some l
  | k + 1, j, last, l => match progRow cA cE cN cB j last with
    | none => none
    | some (r, nx) => progRows cA cE cN cB k (j + 1) nx (l ++ [r])
def progR (l : List Ch) : Option Gr :=
  if (datC l 1).size < 16 then none else
  (progRows (datC l 2) (datC l 3) (datC l 4) (datC l 5) (fld (datC l 1) 4 4) 0 0 []).map fun rows => ⟨fld (datC l 1) 0 4, fld (datC l 1) 8 1, fld (datC l 1) 9 1, fld (datC l 1) 10 2, fld (datC l 1) 12 4, rows⟩

theorem numOk {w : World} {p : Nat} {s : ByteArray} {a n : Nat} {k : IntKind} {F : Nat} (v a2 : Nat) (h : Calls Try.prog F #[pt p] w (NumPost w p s (a, 0) n k)) (hle : a + n ≤ s.size) (hv : v = fld s a n) (ha : a2 = a + n) :
    Calls Try.prog F #[pt p] w fun e w' => e = .returned (.tuple #[.int k (v : Nat), .int .i64 0]) ∧ RdIs w' p s (a2, 0) ∧ Turned (· = p) w w' := by
  subst hv
  subst ha
  refine h.mono ?_
  rintro e w' ⟨h1, h2, h3⟩
  rw [rdNum_fld s a n hle] at h1 h2
  exact ⟨h1, h2, h3⟩
theorem numNo {w : World} {p : Nat} {s : ByteArray} {a n : Nat} {k : IntKind} {F : Nat} (h : Calls Try.prog F #[pt p] w (NumPost w p s (a, 0) n k)) (hlt : s.size < a + n) :
    Calls Try.prog F #[pt p] w fun e w' => e = .returned (.tuple #[.int k 0, .int .i64 2]) ∧ Turned (· = p) w w' := by
  refine h.mono ?_
  rintro e w' ⟨h1, -, h3⟩
  rw [rdNum_short s a n hlt] at h1
  exact ⟨h1, h3⟩

theorem rawOk {w : World} {p : Nat} {s : ByteArray} {a : Nat} (n : Nat) (b : ByteArray) (h : RdIs w p s (a, 0)) (hle : a + n ≤ s.size) (hs : s.size ≤ 4611686018427387904) (hb : b = s.extract a (a + n)) :
    Calls Try.prog 83 #[pt p, .int .i64 (n : Nat)] w fun e w' => e = .returned (.tuple #[.string b, .int .i64 0]) ∧ RdIs w' p s (a + n, 0) ∧ Turned (· = p) w w' := by
  subst hb
  refine (raw_r n h (by simp only; omega) hs (by omega)).mono ?_
  rintro e w' ⟨h1, h2, h3⟩
  rw [rdRaw_good s a n hle] at h1 h2
  exact ⟨h1, h2, h3⟩
theorem rawNo {w : World} {p : Nat} {s : ByteArray} {a : Nat} (n : Nat) (h : RdIs w p s (a, 0)) (ha : a ≤ s.size) (hlt : s.size < a + n) (hs : s.size ≤ 4611686018427387904) (hn : n ≤ 4611686018427387904) :
    Calls Try.prog 83 #[pt p, .int .i64 (n : Nat)] w fun e w' => e = .returned (.tuple #[.string ⟨#[]⟩, .int .i64 2]) ∧ Turned (· = p) w w' := by
  refine (raw_r n h ha hs hn).mono ?_
  rintro e w' ⟨h1, -, h3⟩
  rw [rdRaw_short s a n hlt] at h1
  exact ⟨h1, h3⟩

set_option maxRecDepth 100000 in
set_option maxHeartbeats 1000000 in
theorem rawNeg {w : World} {p : Nat} {s : ByteArray} {a : Nat} (n : Int) (hn : n < 0) (h : RdIs w p s (a, 0)) :
    Calls Try.prog 83 #[pt p, .int .i64 n] w fun e w' => e = .returned (.tuple #[.string ⟨#[]⟩, .int .i64 1]) ∧ Turned (· = p) w w' := by
  have c0 := cell_of h 0 _ rfl
  have c1 := cell_of h 1 _ rfl
  have c2 := cell_of h 2 _ rfl
  have hlt := lt_of_block h
  have hf := fail_r (w := w) (p := p) (s := s) (a := a) (k := 1)
  have hf2 : Calls Try.prog 112 #[pt p, .int .i64 1] w fun x w' => x = .returned (.int .i64 1) ∧ RdIs w' p s (a, 1) ∧ Turned (· = p) w w' := hf h
  simp only [List.getElem_toArray, List.getElem_cons_zero, List.getElem_cons_succ] at c0 c1 c2
  have hd : decide (n < 0) = true := decide_eq_true hn
  clear hf h hn
  go_enter Try.func83, Try.ntmps83
  go_wp2_with (go_at_call 112; (with_reducible refine hf2.mono ?_); rintro e w' ⟨rfl, hr, ht⟩)
  go_ret2
  exact ⟨rfl, ht⟩
end Go.Proofs.Ytfeljngmidhajaa

namespace Go.Proofs.Ytfeljngmidhajaa
open Go.RowKit Go.Mine

/-- the cells of rows whose lists are the values vs -/
def rowCs : List Rw → List Value → List Value
  | r :: l, v :: vs => [v, .int .i64 r.tree, .int .i64 r.gen, .int .i64 r.state, .string r.bits] ++ rowCs l vs
  | _, _ => []
theorem rowCs_snoc : ∀ (l : List Rw) (vs : List Value) (r : Rw) (v : Value), vs.length = l.length → rowCs (l ++ [r]) (vs ++ [v]) = rowCs l vs ++ [v, .int .i64 r.tree, .int .i64 r.gen, .int .i64 r.state, .string r.bits]
  | [], [], _, _, _ => rfl
  | x :: l, y :: vs, r, v, h => by
    simp only [List.cons_append, rowCs, List.append_assoc]
    rw [rowCs_snoc l vs r v (by simpa using h)]
/-- rows that a call has made: the slice v of blocks of R, each list of blocks of Q -/
def NewRows (w : World) (R Q : Nat → Prop) (v : Value) (l : List Rw) : Prop :=
  ∃ vs : List Value, vs.length = l.length ∧ Sl w R 61 5 v (rowCs l vs) l.length ∧ ∀ (i : Nat) (r : Rw) (u : Value), l[i]? = some r → vs[i]? = some u → Sl w Q 3 1 u (ncells r.par) r.par.length

def ReadPost (o : Option Gr) (w : World) (e : Ending) (w' : World) : Prop :=
  Turned (fun _ => False) w w' ∧ ((o = none ∧ e = .panicked [formE]) ∨ ∃ g a c, o = some g ∧ e = .returned (grv a c g) ∧ NewRows w' (fun b => w.heap.size ≤ b) (fun b => w.heap.size ≤ b) (.slice a g.rows.length c) g.rows)

def RdgRel (w : World) (cA cE cN cB : ByteArray) (pA pN pB N : Nat) (o : Option (List Rw)) (v0 v1 v2 v3 v4 : Value) (g : Nat) (last i : Value) (wr : World) : Prop :=
  ∃ (j la : Nat) (l : List Rw) (rv : Value) (R Q : Nat → Prop), (j + g = N ∧ i = .int .u32 (j : Nat) ∧ last = .int .i64 (la : Nat) ∧ l.length = j) ∧ (la ≤ cB.size ∧ 15 * j ≤ cA.size ∧ 4 * j ≤ cN.size) ∧ o = progRows cA cE cN cB g j la l ∧
    wr.heap[w.heap.size]? = some (.cells #[.int .i64 0, .int .i64 0, .int .i64 0, .int .i64 0, .int .u32 0, .slice none 0 0] 40 (0, 0)) ∧ wr.heap[w.heap.size + 1]? = some (.cells #[v0, v1, v2, v3, v4, rv] 40 (0, 0)) ∧ RdIs wr pA cA (15 * j, 0) ∧ RdIs wr pN cN (4 * j, 0) ∧ RdIs wr pB cB (la, 0) ∧
    NewRows wr R Q rv l ∧ (∀ b, R b ∨ Q b → w.heap.size + 2 ≤ b ∧ b < wr.heap.size ∧ b ≠ pA ∧ b ≠ pN ∧ b ≠ pB) ∧ (∀ b, R b → ¬ Q b) ∧ Turned (fun _ => False) w wr

set_option maxRecDepth 100000 in
set_option maxHeartbeats 8000000 in
theorem read_any (a : Option Addr) (cap : Nat) (l : List Ch) (w : World) (h : ChIs w a cap l) (hz : ∀ id, (datC l id).size ≤ 4194304) :
    Calls Try.prog 69 #[.slice a l.length cap] w (ReadPost (progR l) w) := by
  obtain ⟨o, ho⟩ : ∃ o, o = progR l := ⟨_, rfl⟩
  rw [← ho]
  unfold progR at ho
  have hd : ∀ (id : Nat) (W : World), Turned (fun _ => False) w W → Calls Try.prog 91 #[.slice a l.length cap, .int .u32 (id : Nat)] W fun e w' => ∃ p, e = .returned (pt p) ∧ W.heap.size ≤ p ∧ RdIs w' p (datC l id) (0, 0) ∧ Turned (fun _ => False) W w' := fun id W t => data_any a cap l id W (h.turned t)
  have hd1 : ∀ (W : World), Turned (fun _ => False) w W → Calls Try.prog 91 #[.slice a l.length cap, .int .u32 1] W fun e w' => ∃ p, e = .returned (pt p) ∧ W.heap.size ≤ p ∧ RdIs w' p (datC l 1) (0, 0) ∧ Turned (fun _ => False) W w' := hd 1
  have hd2 : ∀ (W : World), Turned (fun _ => False) w W → Calls Try.prog 91 #[.slice a l.length cap, .int .u32 2] W fun e w' => ∃ p, e = .returned (pt p) ∧ W.heap.size ≤ p ∧ RdIs w' p (datC l 2) (0, 0) ∧ Turned (fun _ => False) W w' := hd 2
  have hd4 : ∀ (W : World), Turned (fun _ => False) w W → Calls Try.prog 91 #[.slice a l.length cap, .int .u32 4] W fun e w' => ∃ p, e = .returned (pt p) ∧ W.heap.size ≤ p ∧ RdIs w' p (datC l 4) (0, 0) ∧ Turned (fun _ => False) W w' := hd 4
  have hd5 : ∀ (W : World), Turned (fun _ => False) w W → Calls Try.prog 91 #[.slice a l.length cap, .int .u32 5] W fun e w' => ∃ p, e = .returned (pt p) ∧ W.heap.size ≤ p ∧ RdIs w' p (datC l 5) (0, 0) ∧ Turned (fun _ => False) W w' := hd 5
  have hf : ∀ (W : World), Turned (fun _ => False) w W → Calls Try.prog 20 #[.slice a l.length cap, .int .u32 3] W fun e w' => e = .returned (.tuple #[.string (datC l 3), .bool (findCh l 3).isSome]) ∧ Turned (fun _ => False) W w' := fun W t => find_any a cap l 3 W (h.turned t)
  have SZ : Hid ((datC l 1).size ≤ 4194304 ∧ (datC l 2).size ≤ 4194304 ∧ (datC l 3).size ≤ 4194304 ∧ (datC l 4).size ≤ 4194304 ∧ (datC l 5).size ≤ 4194304) := ⟨hz 1, hz 2, hz 3, hz 4, hz 5⟩
  clear hd hz h
  generalize datC l 1 = cH at *
  generalize datC l 2 = cA at *
  generalize datC l 3 = cE at *
  generalize datC l 4 = cN at *
  generalize datC l 5 = cB at *
  generalize (findCh l 3).isSome = fb at *
  generalize l.length = L at *
  clear l
  have HO : Hid (o = (if cH.size < 16 then none else (progRows cA cE cN cB (fld cH 4 4) 0 0 []).map fun rows => ⟨fld cH 0 4, fld cH 8 1, fld cH 9 1, fld cH 10 2, fld cH 12 4, rows⟩)) := ho
  clear ho
  go_enter Try.func69, Try.ntmps69
  go_wp2_with (first
    | (go_at_call 91; (with_reducible refine (hd1 _ (((Turned.refl (fun _ => False) w).new _).new _)).mono ?_); rintro e w1 ⟨pH, rfl, hp1, hr1, ht1⟩; have A1 : Hid (w.heap.size + 2 ≤ pH ∧ RdIs w1 pH cH (0, 0) ∧ Turned (fun _ => False) w w1 ∧ w1.heap[w.heap.size]? = some (.cells #[.int .i64 0, .int .i64 0, .int .i64 0, .int .i64 0, .int .u32 0, .slice none 0 0] 40 (0, 0)) ∧ w1.heap[w.heap.size + 1]? = some (.cells #[.int .i64 0, .int .i64 0, .int .i64 0, .int .i64 0, .int .u32 0, .slice none 0 0] 40 (0, 0))) := ⟨by simpa using hp1, hr1, (((Turned.refl (fun _ => False) w).new _).new _).trans ht1 (fun _ _ q => q), (ht1.block _ (by simp; omega) id).trans (Go.Mine.heap_alloc_old (heap_alloc_last w _)), (ht1.block _ (by simp) id).trans (by simpa using heap_alloc_last (w.alloc _) _)⟩; clear hp1 hr1 ht1)
    | (go_at_call 91; (with_reducible refine (hd2 _ A1.out.2.2.1).mono ?_); rintro e w2 ⟨pA, rfl, hp2, hr2, ht2⟩; have A2 : Hid (w1.heap.size ≤ pA ∧ RdIs w2 pA cA (0, 0) ∧ Turned (fun _ => False) w1 w2 ∧ Turned (fun _ => False) w w2) := ⟨hp2, hr2, ht2, A1.out.2.2.1.trans ht2 fun _ _ q => q⟩; clear hp2 hr2 ht2)
    | (go_at_call 91; (with_reducible refine (hd4 _ A2.out.2.2.2).mono ?_); rintro e w3 ⟨pN, rfl, hp3, hr3, ht3⟩; have A3 : Hid (w2.heap.size ≤ pN ∧ RdIs w3 pN cN (0, 0) ∧ Turned (fun _ => False) w2 w3 ∧ Turned (fun _ => False) w w3) := ⟨hp3, hr3, ht3, A2.out.2.2.2.trans ht3 fun _ _ q => q⟩; clear hp3 hr3 ht3)
    | (go_at_call 91; (with_reducible refine (hd5 _ A3.out.2.2.2).mono ?_); rintro e w4 ⟨pB, rfl, hp4, hr4, ht4⟩; have A4 : Hid (w3.heap.size ≤ pB ∧ RdIs w4 pB cB (0, 0) ∧ Turned (fun _ => False) w3 w4 ∧ Turned (fun _ => False) w w4) := ⟨hp4, hr4, ht4, A3.out.2.2.2.trans ht4 fun _ _ q => q⟩; clear hp4 hr4 ht4)
    | (go_at_call 20; (with_reducible refine (hf _ A4.out.2.2.2).mono ?_); rintro e w5 ⟨rfl, ht5⟩; have A5 : Hid (Turned (fun _ => False) w4 w5) := ht5; clear ht5))
  have B5 : Hid (RdIs w5 pH cH (0, 0) ∧ RdIs w5 pA cA (0, 0) ∧ RdIs w5 pN cN (0, 0) ∧ RdIs w5 pB cB (0, 0) ∧ w5.heap[w.heap.size]? = some (.cells #[.int .i64 0, .int .i64 0, .int .i64 0, .int .i64 0, .int .u32 0, .slice none 0 0] 40 (0, 0)) ∧ w5.heap[w.heap.size + 1]? = some (.cells #[.int .i64 0, .int .i64 0, .int .i64 0, .int .i64 0, .int .u32 0, .slice none 0 0] 40 (0, 0)) ∧ Turned (fun _ => False) w w5) := by
    have t5 := A5.out
    have t4 := A4.out.2.2.1.trans t5 fun _ _ q => q
    have t3 := A3.out.2.2.1.trans t4 fun _ _ q => q
    have t2 := A2.out.2.2.1.trans t3 fun _ _ q => q
    have k1 := A1.out
    exact ⟨k1.2.1.turned t2 id, A2.out.2.1.turned t3 id, A3.out.2.1.turned t4 id, A4.out.2.1.turned t5 id, (t2.block _ (lt_of_block k1.2.2.2.1) id).trans k1.2.2.2.1, (t2.block _ (lt_of_block k1.2.2.2.2) id).trans k1.2.2.2.2, k1.2.2.1.trans t2 fun _ _ q => q⟩
  have ORD : Hid (w.heap.size + 2 ≤ pH ∧ pH < pA ∧ pA < pN ∧ pN < pB ∧ pB < w5.heap.size) := by
    have l1 := lt_of_block A1.out.2.1
    have l2 := lt_of_block A2.out.2.1
    have l3 := lt_of_block A3.out.2.1
    have l4 := lt_of_block A4.out.2.1
    have s5 := A5.out.size
    have q : w.heap.size + 2 ≤ pH ∧ pH < pA ∧ pA < pN ∧ pN < pB ∧ pB < w5.heap.size := ⟨A1.out.1, by have := A2.out.1; omega, by have := A3.out.1; omega, by have := A4.out.1; omega, by omega⟩
    exact q
  clear A1 A2 A3 A4 A5 hd1 hd2 hd4 hd5 hf
  obtain ⟨v0, hv0⟩ : ∃ v, v = fld cH 0 4 := ⟨_, rfl⟩
  obtain ⟨v1, hv1⟩ : ∃ v, v = fld cH 4 4 := ⟨_, rfl⟩
  obtain ⟨v2, hv2⟩ : ∃ v, v = fld cH 8 1 := ⟨_, rfl⟩
  obtain ⟨v3, hv3⟩ : ∃ v, v = fld cH 9 1 := ⟨_, rfl⟩
  obtain ⟨v4, hv4⟩ : ∃ v, v = fld cH 10 2 := ⟨_, rfl⟩
  obtain ⟨v5, hv5⟩ : ∃ v, v = fld cH 12 4 := ⟨_, rfl⟩
  have HV : Hid (v0 = fld cH 0 4 ∧ v1 = fld cH 4 4 ∧ v2 = fld cH 8 1 ∧ v3 = fld cH 9 1 ∧ v4 = fld cH 10 2 ∧ v5 = fld cH 12 4) := ⟨hv0, hv1, hv2, hv3, hv4, hv5⟩
  by_cases g0 : cH.size < 4
  · have HN : Hid (o = none) := by rw [HO.out, if_pos (by omega)]; exact rfl
    have HS : Hid (cH.size < 4) := g0
    have HC : Hid (0 ≤ cH.size) := (by omega : 0 ≤ cH.size)
    have m0 : ∀ W, Calls Try.prog 92 #[.int .u32 0, .int .i64 2] W _ := fun W => must32_no 0 2 (by decide) W
    clear g0 hv0 hv1 hv2 hv3 hv4 hv5
    have h0 : Calls Try.prog 60 #[pt pH] w5 _ := numNo (u32_r B5.out.1 (by have := HC.out; simp only; omega) (by have := SZ.out; omega)) (by have := HS.out; omega)
    go_wp2_with (first
      | (go_at_call 60; (with_reducible refine h0.mono ?_); rintro e x0 ⟨rfl, ht⟩; have E : Hid (Turned (fun b => b = pH ∨ b = w.heap.size + 1) w5 x0) := (Turned.refl (fun b => b = pH ∨ b = w.heap.size + 1) w5).trans ht (fun _ _ q => .inl q); clear ht)
      | (go_at_call 92; (with_reducible refine (m0 _).mono ?_); rintro e wm ⟨rfl, rfl⟩))
    exact ⟨rfl, B5.out.2.2.2.2.2.2.comp E.out (fun b hb q => q.elim id fun q => by have := ORD.out; omega), .inl ⟨HN.out, rfl⟩⟩
  by_cases g1 : cH.size < 8
  · have HN : Hid (o = none) := by rw [HO.out, if_pos (by omega)]; exact rfl
    have HS : Hid (cH.size < 8) := g1
    have HC : Hid (4 ≤ cH.size) := (by omega : 4 ≤ cH.size)
    have b0 : v0 < 4294967296 := by rw [hv0]; exact fld_lt cH 0 4 (by omega)
    have m0 := fun W => must32_ok v0 W
    have m1 : ∀ W, Calls Try.prog 92 #[.int .u32 0, .int .i64 2] W _ := fun W => must32_no 0 2 (by decide) W
    clear g0 g1 hv0 hv1 hv2 hv3 hv4 hv5
    have h0 : Calls Try.prog 60 #[pt pH] w5 _ := numOk v0 4 (u32_r B5.out.1 (by have := HC.out; simp only; omega) (by have := SZ.out; omega)) (by have := HC.out; omega) HV.out.1 rfl
    go_wp2_with (first
      | (go_at_call 60; (with_reducible refine h0.mono ?_); rintro e x0 ⟨rfl, hr, ht⟩; have S0 : Hid (RdIs x0 pH cH (4, 0) ∧ x0.heap[w.heap.size + 1]? = some (.cells #[.int .i64 0, .int .i64 0, .int .i64 0, .int .i64 0, .int .u32 0, .slice none 0 0] 40 (0, 0)) ∧ Turned (fun b => b = pH ∨ b = w.heap.size + 1) w5 x0) := ⟨hr, (ht.block _ (lt_of_block B5.out.2.2.2.2.2.1) (fun q => by have := ORD.out; omega)).trans B5.out.2.2.2.2.2.1, (Turned.refl (fun b => b = pH ∨ b = w.heap.size + 1) w5).trans ht (fun _ _ q => .inl q)⟩; clear hr ht; have f0 := free_of S0.out.2.1 0; have c0 := cell_of S0.out.2.1 0 _ rfl; have y0 := lt_of_block S0.out.2.1; have h1 : Calls Try.prog 60 #[pt pH] (x0.setCell ⟨w.heap.size + 1, 0, none⟩ (.int .i64 (v0 : Nat))) _ := numNo (u32_r (S0.out.1.turned (Turned.setCell (S := (· = w.heap.size + 1)) (p := ⟨w.heap.size + 1, 0, none⟩) rfl _) (fun q => by have := ORD.out; omega)) (by have := HC.out; simp only; omega) (by have := SZ.out; omega)) (by have := HS.out; omega))
      | (go_at_call 92; (with_reducible refine (m0 _).mono ?_); rintro e wm ⟨rfl, rfl⟩)
      | (go_at_call 60; (with_reducible refine h1.mono ?_); rintro e x1 ⟨rfl, ht⟩; have E : Hid (Turned (fun b => b = pH ∨ b = w.heap.size + 1) w5 x1) := (S0.out.2.2.set (p := ⟨w.heap.size + 1, 0, none⟩) (.inr rfl) _).trans ht (fun _ _ q => .inl q); clear ht)
      | (go_at_call 92; (with_reducible refine (m1 _).mono ?_); rintro e wm ⟨rfl, rfl⟩))
    exact ⟨rfl, B5.out.2.2.2.2.2.2.comp E.out (fun b hb q => q.elim id fun q => by have := ORD.out; omega), .inl ⟨HN.out, rfl⟩⟩
  by_cases g2 : cH.size < 9
  · have HN : Hid (o = none) := by rw [HO.out, if_pos (by omega)]; exact rfl
    have HS : Hid (cH.size < 9) := g2
    have HC : Hid (8 ≤ cH.size) := (by omega : 8 ≤ cH.size)
    have b0 : v0 < 4294967296 := by rw [hv0]; exact fld_lt cH 0 4 (by omega)
    have m0 := fun W => must32_ok v0 W
    have b1 : v1 < 4294967296 := by rw [hv1]; exact fld_lt cH 4 4 (by omega)
    have m1 := fun W => must32_ok v1 W
    have m2 : ∀ W, Calls Try.prog 93 #[.int .u8 0, .int .i64 2] W _ := fun W => must8_no 0 2 (by decide) W
    clear g0 g1 g2 hv0 hv1 hv2 hv3 hv4 hv5
    have h0 : Calls Try.prog 60 #[pt pH] w5 _ := numOk v0 4 (u32_r B5.out.1 (by have := HC.out; simp only; omega) (by have := SZ.out; omega)) (by have := HC.out; omega) HV.out.1 rfl
    go_wp2_with (first
      | (go_at_call 60; (with_reducible refine h0.mono ?_); rintro e x0 ⟨rfl, hr, ht⟩; have S0 : Hid (RdIs x0 pH cH (4, 0) ∧ x0.heap[w.heap.size + 1]? = some (.cells #[.int .i64 0, .int .i64 0, .int .i64 0, .int .i64 0, .int .u32 0, .slice none 0 0] 40 (0, 0)) ∧ Turned (fun b => b = pH ∨ b = w.heap.size + 1) w5 x0) := ⟨hr, (ht.block _ (lt_of_block B5.out.2.2.2.2.2.1) (fun q => by have := ORD.out; omega)).trans B5.out.2.2.2.2.2.1, (Turned.refl (fun b => b = pH ∨ b = w.heap.size + 1) w5).trans ht (fun _ _ q => .inl q)⟩; clear hr ht; have f0 := free_of S0.out.2.1 0; have c0 := cell_of S0.out.2.1 0 _ rfl; have y0 := lt_of_block S0.out.2.1; have h1 : Calls Try.prog 60 #[pt pH] (x0.setCell ⟨w.heap.size + 1, 0, none⟩ (.int .i64 (v0 : Nat))) _ := numOk v1 8 (u32_r (S0.out.1.turned (Turned.setCell (S := (· = w.heap.size + 1)) (p := ⟨w.heap.size + 1, 0, none⟩) rfl _) (fun q => by have := ORD.out; omega)) (by have := HC.out; simp only; omega) (by have := SZ.out; omega)) (by have := HC.out; omega) HV.out.2.1 rfl)
      | (go_at_call 92; (with_reducible refine (m0 _).mono ?_); rintro e wm ⟨rfl, rfl⟩)
      | (go_at_call 60; (with_reducible refine h1.mono ?_); rintro e x1 ⟨rfl, hr, ht⟩; have S1 : Hid (RdIs x1 pH cH (8, 0) ∧ x1.heap[w.heap.size + 1]? = some (.cells #[.int .i64 (v0 : Nat), .int .i64 0, .int .i64 0, .int .i64 0, .int .u32 0, .slice none 0 0] 40 (0, 0)) ∧ Turned (fun b => b = pH ∨ b = w.heap.size + 1) w5 x1) := ⟨hr, (ht.block _ (lt_of_block (Go.Mine.heap_setCell_same S0.out.2.1 _)) (fun q => by have := ORD.out; omega)).trans (Go.Mine.heap_setCell_same S0.out.2.1 _), (S0.out.2.2.set (p := ⟨w.heap.size + 1, 0, none⟩) (.inr rfl) _).trans ht (fun _ _ q => .inl q)⟩; clear hr ht; have h2 : Calls Try.prog 82 #[pt pH] x1 _ := numNo (u8_r S1.out.1 (by have := HC.out; simp only; omega) (by have := SZ.out; omega)) (by have := HS.out; omega))
      | (go_at_call 92; (with_reducible refine (m1 _).mono ?_); rintro e wm ⟨rfl, rfl⟩)
      | (go_at_call 82; (with_reducible refine h2.mono ?_); rintro e x2 ⟨rfl, ht⟩; have E : Hid (Turned (fun b => b = pH ∨ b = w.heap.size + 1) w5 x2) := S1.out.2.2.trans ht (fun _ _ q => .inl q); clear ht)
      | (go_at_call 93; (with_reducible refine (m2 _).mono ?_); rintro e wm ⟨rfl, rfl⟩))
    exact ⟨rfl, B5.out.2.2.2.2.2.2.comp E.out (fun b hb q => q.elim id fun q => by have := ORD.out; omega), .inl ⟨HN.out, rfl⟩⟩
  by_cases g3 : cH.size < 10
  · have HN : Hid (o = none) := by rw [HO.out, if_pos (by omega)]; exact rfl
    have HS : Hid (cH.size < 10) := g3
    have HC : Hid (9 ≤ cH.size) := (by omega : 9 ≤ cH.size)
    have b0 : v0 < 4294967296 := by rw [hv0]; exact fld_lt cH 0 4 (by omega)
    have m0 := fun W => must32_ok v0 W
    have b1 : v1 < 4294967296 := by rw [hv1]; exact fld_lt cH 4 4 (by omega)
    have m1 := fun W => must32_ok v1 W
    have b2 : v2 < 256 := by rw [hv2]; exact fld_lt cH 8 1 (by omega)
    have m2 := fun W => must8_ok v2 W
    have m3 : ∀ W, Calls Try.prog 93 #[.int .u8 0, .int .i64 2] W _ := fun W => must8_no 0 2 (by decide) W
    clear g0 g1 g2 g3 hv0 hv1 hv2 hv3 hv4 hv5
    have h0 : Calls Try.prog 60 #[pt pH] w5 _ := numOk v0 4 (u32_r B5.out.1 (by have := HC.out; simp only; omega) (by have := SZ.out; omega)) (by have := HC.out; omega) HV.out.1 rfl
    go_wp2_with (first
      | (go_at_call 60; (with_reducible refine h0.mono ?_); rintro e x0 ⟨rfl, hr, ht⟩; have S0 : Hid (RdIs x0 pH cH (4, 0) ∧ x0.heap[w.heap.size + 1]? = some (.cells #[.int .i64 0, .int .i64 0, .int .i64 0, .int .i64 0, .int .u32 0, .slice none 0 0] 40 (0, 0)) ∧ Turned (fun b => b = pH ∨ b = w.heap.size + 1) w5 x0) := ⟨hr, (ht.block _ (lt_of_block B5.out.2.2.2.2.2.1) (fun q => by have := ORD.out; omega)).trans B5.out.2.2.2.2.2.1, (Turned.refl (fun b => b = pH ∨ b = w.heap.size + 1) w5).trans ht (fun _ _ q => .inl q)⟩; clear hr ht; have f0 := free_of S0.out.2.1 0; have c0 := cell_of S0.out.2.1 0 _ rfl; have y0 := lt_of_block S0.out.2.1; have h1 : Calls Try.prog 60 #[pt pH] (x0.setCell ⟨w.heap.size + 1, 0, none⟩ (.int .i64 (v0 : Nat))) _ := numOk v1 8 (u32_r (S0.out.1.turned (Turned.setCell (S := (· = w.heap.size + 1)) (p := ⟨w.heap.size + 1, 0, none⟩) rfl _) (fun q => by have := ORD.out; omega)) (by have := HC.out; simp only; omega) (by have := SZ.out; omega)) (by have := HC.out; omega) HV.out.2.1 rfl)
      | (go_at_call 92; (with_reducible refine (m0 _).mono ?_); rintro e wm ⟨rfl, rfl⟩)
      | (go_at_call 60; (with_reducible refine h1.mono ?_); rintro e x1 ⟨rfl, hr, ht⟩; have S1 : Hid (RdIs x1 pH cH (8, 0) ∧ x1.heap[w.heap.size + 1]? = some (.cells #[.int .i64 (v0 : Nat), .int .i64 0, .int .i64 0, .int .i64 0, .int .u32 0, .slice none 0 0] 40 (0, 0)) ∧ Turned (fun b => b = pH ∨ b = w.heap.size + 1) w5 x1) := ⟨hr, (ht.block _ (lt_of_block (Go.Mine.heap_setCell_same S0.out.2.1 _)) (fun q => by have := ORD.out; omega)).trans (Go.Mine.heap_setCell_same S0.out.2.1 _), (S0.out.2.2.set (p := ⟨w.heap.size + 1, 0, none⟩) (.inr rfl) _).trans ht (fun _ _ q => .inl q)⟩; clear hr ht; have h2 : Calls Try.prog 82 #[pt pH] x1 _ := numOk v2 9 (u8_r S1.out.1 (by have := HC.out; simp only; omega) (by have := SZ.out; omega)) (by have := HC.out; omega) HV.out.2.2.1 rfl)
      | (go_at_call 92; (with_reducible refine (m1 _).mono ?_); rintro e wm ⟨rfl, rfl⟩)
      | (go_at_call 82; (with_reducible refine h2.mono ?_); rintro e x2 ⟨rfl, hr, ht⟩; have S2 : Hid (RdIs x2 pH cH (9, 0) ∧ x2.heap[w.heap.size + 1]? = some (.cells #[.int .i64 (v0 : Nat), .int .i64 0, .int .i64 0, .int .i64 0, .int .u32 0, .slice none 0 0] 40 (0, 0)) ∧ Turned (fun b => b = pH ∨ b = w.heap.size + 1) w5 x2) := ⟨hr, (ht.block _ (lt_of_block S1.out.2.1) (fun q => by have := ORD.out; omega)).trans S1.out.2.1, S1.out.2.2.trans ht (fun _ _ q => .inl q)⟩; clear hr ht; have f2 := free_of S2.out.2.1 1; have c2 := cell_of S2.out.2.1 1 _ rfl; have y2 := lt_of_block S2.out.2.1; have h3 : Calls Try.prog 82 #[pt pH] (x2.setCell ⟨w.heap.size + 1, 1, none⟩ (.int .i64 (v2 : Nat))) _ := numNo (u8_r (S2.out.1.turned (Turned.setCell (S := (· = w.heap.size + 1)) (p := ⟨w.heap.size + 1, 1, none⟩) rfl _) (fun q => by have := ORD.out; omega)) (by have := HC.out; simp only; omega) (by have := SZ.out; omega)) (by have := HS.out; omega))
      | (go_at_call 93; (with_reducible refine (m2 _).mono ?_); rintro e wm ⟨rfl, rfl⟩)
      | (go_at_call 82; (with_reducible refine h3.mono ?_); rintro e x3 ⟨rfl, ht⟩; have E : Hid (Turned (fun b => b = pH ∨ b = w.heap.size + 1) w5 x3) := (S2.out.2.2.set (p := ⟨w.heap.size + 1, 1, none⟩) (.inr rfl) _).trans ht (fun _ _ q => .inl q); clear ht)
      | (go_at_call 93; (with_reducible refine (m3 _).mono ?_); rintro e wm ⟨rfl, rfl⟩))
    exact ⟨rfl, B5.out.2.2.2.2.2.2.comp E.out (fun b hb q => q.elim id fun q => by have := ORD.out; omega), .inl ⟨HN.out, rfl⟩⟩
  by_cases g4 : cH.size < 12
  · have HN : Hid (o = none) := by rw [HO.out, if_pos (by omega)]; exact rfl
    have HS : Hid (cH.size < 12) := g4
    have HC : Hid (10 ≤ cH.size) := (by omega : 10 ≤ cH.size)
    have b0 : v0 < 4294967296 := by rw [hv0]; exact fld_lt cH 0 4 (by omega)
    have m0 := fun W => must32_ok v0 W
    have b1 : v1 < 4294967296 := by rw [hv1]; exact fld_lt cH 4 4 (by omega)
    have m1 := fun W => must32_ok v1 W
    have b2 : v2 < 256 := by rw [hv2]; exact fld_lt cH 8 1 (by omega)
    have m2 := fun W => must8_ok v2 W
    have b3 : v3 < 256 := by rw [hv3]; exact fld_lt cH 9 1 (by omega)
    have m3 := fun W => must8_ok v3 W
    have m4 : ∀ W, Calls Try.prog 94 #[.int .u16 0, .int .i64 2] W _ := fun W => must16_no 0 2 (by decide) W
    clear g0 g1 g2 g3 g4 hv0 hv1 hv2 hv3 hv4 hv5
    have h0 : Calls Try.prog 60 #[pt pH] w5 _ := numOk v0 4 (u32_r B5.out.1 (by have := HC.out; simp only; omega) (by have := SZ.out; omega)) (by have := HC.out; omega) HV.out.1 rfl
    go_wp2_with (first
      | (go_at_call 60; (with_reducible refine h0.mono ?_); rintro e x0 ⟨rfl, hr, ht⟩; have S0 : Hid (RdIs x0 pH cH (4, 0) ∧ x0.heap[w.heap.size + 1]? = some (.cells #[.int .i64 0, .int .i64 0, .int .i64 0, .int .i64 0, .int .u32 0, .slice none 0 0] 40 (0, 0)) ∧ Turned (fun b => b = pH ∨ b = w.heap.size + 1) w5 x0) := ⟨hr, (ht.block _ (lt_of_block B5.out.2.2.2.2.2.1) (fun q => by have := ORD.out; omega)).trans B5.out.2.2.2.2.2.1, (Turned.refl (fun b => b = pH ∨ b = w.heap.size + 1) w5).trans ht (fun _ _ q => .inl q)⟩; clear hr ht; have f0 := free_of S0.out.2.1 0; have c0 := cell_of S0.out.2.1 0 _ rfl; have y0 := lt_of_block S0.out.2.1; have h1 : Calls Try.prog 60 #[pt pH] (x0.setCell ⟨w.heap.size + 1, 0, none⟩ (.int .i64 (v0 : Nat))) _ := numOk v1 8 (u32_r (S0.out.1.turned (Turned.setCell (S := (· = w.heap.size + 1)) (p := ⟨w.heap.size + 1, 0, none⟩) rfl _) (fun q => by have := ORD.out; omega)) (by have := HC.out; simp only; omega) (by have := SZ.out; omega)) (by have := HC.out; omega) HV.out.2.1 rfl)
      | (go_at_call 92; (with_reducible refine (m0 _).mono ?_); rintro e wm ⟨rfl, rfl⟩)
      | (go_at_call 60; (with_reducible refine h1.mono ?_); rintro e x1 ⟨rfl, hr, ht⟩; have S1 : Hid (RdIs x1 pH cH (8, 0) ∧ x1.heap[w.heap.size + 1]? = some (.cells #[.int .i64 (v0 : Nat), .int .i64 0, .int .i64 0, .int .i64 0, .int .u32 0, .slice none 0 0] 40 (0, 0)) ∧ Turned (fun b => b = pH ∨ b = w.heap.size + 1) w5 x1) := ⟨hr, (ht.block _ (lt_of_block (Go.Mine.heap_setCell_same S0.out.2.1 _)) (fun q => by have := ORD.out; omega)).trans (Go.Mine.heap_setCell_same S0.out.2.1 _), (S0.out.2.2.set (p := ⟨w.heap.size + 1, 0, none⟩) (.inr rfl) _).trans ht (fun _ _ q => .inl q)⟩; clear hr ht; have h2 : Calls Try.prog 82 #[pt pH] x1 _ := numOk v2 9 (u8_r S1.out.1 (by have := HC.out; simp only; omega) (by have := SZ.out; omega)) (by have := HC.out; omega) HV.out.2.2.1 rfl)
      | (go_at_call 92; (with_reducible refine (m1 _).mono ?_); rintro e wm ⟨rfl, rfl⟩)
      | (go_at_call 82; (with_reducible refine h2.mono ?_); rintro e x2 ⟨rfl, hr, ht⟩; have S2 : Hid (RdIs x2 pH cH (9, 0) ∧ x2.heap[w.heap.size + 1]? = some (.cells #[.int .i64 (v0 : Nat), .int .i64 0, .int .i64 0, .int .i64 0, .int .u32 0, .slice none 0 0] 40 (0, 0)) ∧ Turned (fun b => b = pH ∨ b = w.heap.size + 1) w5 x2) := ⟨hr, (ht.block _ (lt_of_block S1.out.2.1) (fun q => by have := ORD.out; omega)).trans S1.out.2.1, S1.out.2.2.trans ht (fun _ _ q => .inl q)⟩; clear hr ht; have f2 := free_of S2.out.2.1 1; have c2 := cell_of S2.out.2.1 1 _ rfl; have y2 := lt_of_block S2.out.2.1; have h3 : Calls Try.prog 82 #[pt pH] (x2.setCell ⟨w.heap.size + 1, 1, none⟩ (.int .i64 (v2 : Nat))) _ := numOk v3 10 (u8_r (S2.out.1.turned (Turned.setCell (S := (· = w.heap.size + 1)) (p := ⟨w.heap.size + 1, 1, none⟩) rfl _) (fun q => by have := ORD.out; omega)) (by have := HC.out; simp only; omega) (by have := SZ.out; omega)) (by have := HC.out; omega) HV.out.2.2.2.1 rfl)
      | (go_at_call 93; (with_reducible refine (m2 _).mono ?_); rintro e wm ⟨rfl, rfl⟩)
      | (go_at_call 82; (with_reducible refine h3.mono ?_); rintro e x3 ⟨rfl, hr, ht⟩; have S3 : Hid (RdIs x3 pH cH (10, 0) ∧ x3.heap[w.heap.size + 1]? = some (.cells #[.int .i64 (v0 : Nat), .int .i64 (v2 : Nat), .int .i64 0, .int .i64 0, .int .u32 0, .slice none 0 0] 40 (0, 0)) ∧ Turned (fun b => b = pH ∨ b = w.heap.size + 1) w5 x3) := ⟨hr, (ht.block _ (lt_of_block (Go.Mine.heap_setCell_same S2.out.2.1 _)) (fun q => by have := ORD.out; omega)).trans (Go.Mine.heap_setCell_same S2.out.2.1 _), (S2.out.2.2.set (p := ⟨w.heap.size + 1, 1, none⟩) (.inr rfl) _).trans ht (fun _ _ q => .inl q)⟩; clear hr ht; have f3 := free_of S3.out.2.1 2; have c3 := cell_of S3.out.2.1 2 _ rfl; have y3 := lt_of_block S3.out.2.1; have h4 : Calls Try.prog 95 #[pt pH] (x3.setCell ⟨w.heap.size + 1, 2, none⟩ (.int .i64 (v3 : Nat))) _ := numNo (u16_r (S3.out.1.turned (Turned.setCell (S := (· = w.heap.size + 1)) (p := ⟨w.heap.size + 1, 2, none⟩) rfl _) (fun q => by have := ORD.out; omega)) (by have := HC.out; simp only; omega) (by have := SZ.out; omega)) (by have := HS.out; omega))
      | (go_at_call 93; (with_reducible refine (m3 _).mono ?_); rintro e wm ⟨rfl, rfl⟩)
      | (go_at_call 95; (with_reducible refine h4.mono ?_); rintro e x4 ⟨rfl, ht⟩; have E : Hid (Turned (fun b => b = pH ∨ b = w.heap.size + 1) w5 x4) := (S3.out.2.2.set (p := ⟨w.heap.size + 1, 2, none⟩) (.inr rfl) _).trans ht (fun _ _ q => .inl q); clear ht)
      | (go_at_call 94; (with_reducible refine (m4 _).mono ?_); rintro e wm ⟨rfl, rfl⟩))
    exact ⟨rfl, B5.out.2.2.2.2.2.2.comp E.out (fun b hb q => q.elim id fun q => by have := ORD.out; omega), .inl ⟨HN.out, rfl⟩⟩
  by_cases g5 : cH.size < 16
  · have HN : Hid (o = none) := by rw [HO.out, if_pos (by omega)]; exact rfl
    have HS : Hid (cH.size < 16) := g5
    have HC : Hid (12 ≤ cH.size) := (by omega : 12 ≤ cH.size)
    have b0 : v0 < 4294967296 := by rw [hv0]; exact fld_lt cH 0 4 (by omega)
    have m0 := fun W => must32_ok v0 W
    have b1 : v1 < 4294967296 := by rw [hv1]; exact fld_lt cH 4 4 (by omega)
    have m1 := fun W => must32_ok v1 W
    have b2 : v2 < 256 := by rw [hv2]; exact fld_lt cH 8 1 (by omega)
    have m2 := fun W => must8_ok v2 W
    have b3 : v3 < 256 := by rw [hv3]; exact fld_lt cH 9 1 (by omega)
    have m3 := fun W => must8_ok v3 W
    have b4 : v4 < 65536 := by rw [hv4]; exact fld_lt cH 10 2 (by omega)
    have m4 := fun W => must16_ok v4 W
    have m5 : ∀ W, Calls Try.prog 92 #[.int .u32 0, .int .i64 2] W _ := fun W => must32_no 0 2 (by decide) W
    clear g0 g1 g2 g3 g4 g5 hv0 hv1 hv2 hv3 hv4 hv5
    have h0 : Calls Try.prog 60 #[pt pH] w5 _ := numOk v0 4 (u32_r B5.out.1 (by have := HC.out; simp only; omega) (by have := SZ.out; omega)) (by have := HC.out; omega) HV.out.1 rfl
    go_wp2_with (first
      | (go_at_call 60; (with_reducible refine h0.mono ?_); rintro e x0 ⟨rfl, hr, ht⟩; have S0 : Hid (RdIs x0 pH cH (4, 0) ∧ x0.heap[w.heap.size + 1]? = some (.cells #[.int .i64 0, .int .i64 0, .int .i64 0, .int .i64 0, .int .u32 0, .slice none 0 0] 40 (0, 0)) ∧ Turned (fun b => b = pH ∨ b = w.heap.size + 1) w5 x0) := ⟨hr, (ht.block _ (lt_of_block B5.out.2.2.2.2.2.1) (fun q => by have := ORD.out; omega)).trans B5.out.2.2.2.2.2.1, (Turned.refl (fun b => b = pH ∨ b = w.heap.size + 1) w5).trans ht (fun _ _ q => .inl q)⟩; clear hr ht; have f0 := free_of S0.out.2.1 0; have c0 := cell_of S0.out.2.1 0 _ rfl; have y0 := lt_of_block S0.out.2.1; have h1 : Calls Try.prog 60 #[pt pH] (x0.setCell ⟨w.heap.size + 1, 0, none⟩ (.int .i64 (v0 : Nat))) _ := numOk v1 8 (u32_r (S0.out.1.turned (Turned.setCell (S := (· = w.heap.size + 1)) (p := ⟨w.heap.size + 1, 0, none⟩) rfl _) (fun q => by have := ORD.out; omega)) (by have := HC.out; simp only; omega) (by have := SZ.out; omega)) (by have := HC.out; omega) HV.out.2.1 rfl)
      | (go_at_call 92; (with_reducible refine (m0 _).mono ?_); rintro e wm ⟨rfl, rfl⟩)
      | (go_at_call 60; (with_reducible refine h1.mono ?_); rintro e x1 ⟨rfl, hr, ht⟩; have S1 : Hid (RdIs x1 pH cH (8, 0) ∧ x1.heap[w.heap.size + 1]? = some (.cells #[.int .i64 (v0 : Nat), .int .i64 0, .int .i64 0, .int .i64 0, .int .u32 0, .slice none 0 0] 40 (0, 0)) ∧ Turned (fun b => b = pH ∨ b = w.heap.size + 1) w5 x1) := ⟨hr, (ht.block _ (lt_of_block (Go.Mine.heap_setCell_same S0.out.2.1 _)) (fun q => by have := ORD.out; omega)).trans (Go.Mine.heap_setCell_same S0.out.2.1 _), (S0.out.2.2.set (p := ⟨w.heap.size + 1, 0, none⟩) (.inr rfl) _).trans ht (fun _ _ q => .inl q)⟩; clear hr ht; have h2 : Calls Try.prog 82 #[pt pH] x1 _ := numOk v2 9 (u8_r S1.out.1 (by have := HC.out; simp only; omega) (by have := SZ.out; omega)) (by have := HC.out; omega) HV.out.2.2.1 rfl)
      | (go_at_call 92; (with_reducible refine (m1 _).mono ?_); rintro e wm ⟨rfl, rfl⟩)
      | (go_at_call 82; (with_reducible refine h2.mono ?_); rintro e x2 ⟨rfl, hr, ht⟩; have S2 : Hid (RdIs x2 pH cH (9, 0) ∧ x2.heap[w.heap.size + 1]? = some (.cells #[.int .i64 (v0 : Nat), .int .i64 0, .int .i64 0, .int .i64 0, .int .u32 0, .slice none 0 0] 40 (0, 0)) ∧ Turned (fun b => b = pH ∨ b = w.heap.size + 1) w5 x2) := ⟨hr, (ht.block _ (lt_of_block S1.out.2.1) (fun q => by have := ORD.out; omega)).trans S1.out.2.1, S1.out.2.2.trans ht (fun _ _ q => .inl q)⟩; clear hr ht; have f2 := free_of S2.out.2.1 1; have c2 := cell_of S2.out.2.1 1 _ rfl; have y2 := lt_of_block S2.out.2.1; have h3 : Calls Try.prog 82 #[pt pH] (x2.setCell ⟨w.heap.size + 1, 1, none⟩ (.int .i64 (v2 : Nat))) _ := numOk v3 10 (u8_r (S2.out.1.turned (Turned.setCell (S := (· = w.heap.size + 1)) (p := ⟨w.heap.size + 1, 1, none⟩) rfl _) (fun q => by have := ORD.out; omega)) (by have := HC.out; simp only; omega) (by have := SZ.out; omega)) (by have := HC.out; omega) HV.out.2.2.2.1 rfl)
      | (go_at_call 93; (with_reducible refine (m2 _).mono ?_); rintro e wm ⟨rfl, rfl⟩)
      | (go_at_call 82; (with_reducible refine h3.mono ?_); rintro e x3 ⟨rfl, hr, ht⟩; have S3 : Hid (RdIs x3 pH cH (10, 0) ∧ x3.heap[w.heap.size + 1]? = some (.cells #[.int .i64 (v0 : Nat), .int .i64 (v2 : Nat), .int .i64 0, .int .i64 0, .int .u32 0, .slice none 0 0] 40 (0, 0)) ∧ Turned (fun b => b = pH ∨ b = w.heap.size + 1) w5 x3) := ⟨hr, (ht.block _ (lt_of_block (Go.Mine.heap_setCell_same S2.out.2.1 _)) (fun q => by have := ORD.out; omega)).trans (Go.Mine.heap_setCell_same S2.out.2.1 _), (S2.out.2.2.set (p := ⟨w.heap.size + 1, 1, none⟩) (.inr rfl) _).trans ht (fun _ _ q => .inl q)⟩; clear hr ht; have f3 := free_of S3.out.2.1 2; have c3 := cell_of S3.out.2.1 2 _ rfl; have y3 := lt_of_block S3.out.2.1; have h4 : Calls Try.prog 95 #[pt pH] (x3.setCell ⟨w.heap.size + 1, 2, none⟩ (.int .i64 (v3 : Nat))) _ := numOk v4 12 (u16_r (S3.out.1.turned (Turned.setCell (S := (· = w.heap.size + 1)) (p := ⟨w.heap.size + 1, 2, none⟩) rfl _) (fun q => by have := ORD.out; omega)) (by have := HC.out; simp only; omega) (by have := SZ.out; omega)) (by have := HC.out; omega) HV.out.2.2.2.2.1 rfl)
      | (go_at_call 93; (with_reducible refine (m3 _).mono ?_); rintro e wm ⟨rfl, rfl⟩)
      | (go_at_call 95; (with_reducible refine h4.mono ?_); rintro e x4 ⟨rfl, hr, ht⟩; have S4 : Hid (RdIs x4 pH cH (12, 0) ∧ x4.heap[w.heap.size + 1]? = some (.cells #[.int .i64 (v0 : Nat), .int .i64 (v2 : Nat), .int .i64 (v3 : Nat), .int .i64 0, .int .u32 0, .slice none 0 0] 40 (0, 0)) ∧ Turned (fun b => b = pH ∨ b = w.heap.size + 1) w5 x4) := ⟨hr, (ht.block _ (lt_of_block (Go.Mine.heap_setCell_same S3.out.2.1 _)) (fun q => by have := ORD.out; omega)).trans (Go.Mine.heap_setCell_same S3.out.2.1 _), (S3.out.2.2.set (p := ⟨w.heap.size + 1, 2, none⟩) (.inr rfl) _).trans ht (fun _ _ q => .inl q)⟩; clear hr ht; have f4 := free_of S4.out.2.1 3; have c4 := cell_of S4.out.2.1 3 _ rfl; have y4 := lt_of_block S4.out.2.1; have h5 : Calls Try.prog 60 #[pt pH] (x4.setCell ⟨w.heap.size + 1, 3, none⟩ (.int .i64 (v4 : Nat))) _ := numNo (u32_r (S4.out.1.turned (Turned.setCell (S := (· = w.heap.size + 1)) (p := ⟨w.heap.size + 1, 3, none⟩) rfl _) (fun q => by have := ORD.out; omega)) (by have := HC.out; simp only; omega) (by have := SZ.out; omega)) (by have := HS.out; omega))
      | (go_at_call 94; (with_reducible refine (m4 _).mono ?_); rintro e wm ⟨rfl, rfl⟩)
      | (go_at_call 60; (with_reducible refine h5.mono ?_); rintro e x5 ⟨rfl, ht⟩; have E : Hid (Turned (fun b => b = pH ∨ b = w.heap.size + 1) w5 x5) := (S4.out.2.2.set (p := ⟨w.heap.size + 1, 3, none⟩) (.inr rfl) _).trans ht (fun _ _ q => .inl q); clear ht)
      | (go_at_call 92; (with_reducible refine (m5 _).mono ?_); rintro e wm ⟨rfl, rfl⟩))
    exact ⟨rfl, B5.out.2.2.2.2.2.2.comp E.out (fun b hb q => q.elim id fun q => by have := ORD.out; omega), .inl ⟨HN.out, rfl⟩⟩
  obtain ⟨o2, ho2⟩ : ∃ o2, o2 = progRows cA cE cN cB v1 0 0 [] := ⟨_, rfl⟩
  have HR : Hid (o = o2.map fun rows => ⟨v0, v2, v3, v4, v5, rows⟩) := by
    have q : o = o2.map fun rows => ⟨v0, v2, v3, v4, v5, rows⟩ := by rw [HO.out, if_neg (by omega), ho2, hv0, hv1, hv2, hv3, hv4, hv5]
    exact q
  have HO2 : Hid (o2 = progRows cA cE cN cB v1 0 0 []) := ho2
  have HC : Hid (16 ≤ cH.size) := (by omega : 16 ≤ cH.size)
  have b0 : v0 < 4294967296 := by rw [hv0]; exact fld_lt cH 0 4 (by omega)
  have m0 := fun W => must32_ok v0 W
  have b1 : v1 < 4294967296 := by rw [hv1]; exact fld_lt cH 4 4 (by omega)
  have m1 := fun W => must32_ok v1 W
  have b2 : v2 < 256 := by rw [hv2]; exact fld_lt cH 8 1 (by omega)
  have m2 := fun W => must8_ok v2 W
  have b3 : v3 < 256 := by rw [hv3]; exact fld_lt cH 9 1 (by omega)
  have m3 := fun W => must8_ok v3 W
  have b4 : v4 < 65536 := by rw [hv4]; exact fld_lt cH 10 2 (by omega)
  have m4 := fun W => must16_ok v4 W
  have b5 : v5 < 4294967296 := by rw [hv5]; exact fld_lt cH 12 4 (by omega)
  have m5 := fun W => must32_ok v5 W
  clear g0 g1 g2 g3 g4 g5 hv0 hv1 hv2 hv3 hv4 hv5 ho2
  have h0 : Calls Try.prog 60 #[pt pH] w5 _ := numOk v0 4 (u32_r B5.out.1 (by have := HC.out; simp only; omega) (by have := SZ.out; omega)) (by have := HC.out; omega) HV.out.1 rfl
  go_wp2_with (first
    | (go_at_call 60; (with_reducible refine h0.mono ?_); rintro e x0 ⟨rfl, hr, ht⟩; have S0 : Hid (RdIs x0 pH cH (4, 0) ∧ x0.heap[w.heap.size + 1]? = some (.cells #[.int .i64 0, .int .i64 0, .int .i64 0, .int .i64 0, .int .u32 0, .slice none 0 0] 40 (0, 0)) ∧ Turned (fun b => b = pH ∨ b = w.heap.size + 1) w5 x0) := ⟨hr, (ht.block _ (lt_of_block B5.out.2.2.2.2.2.1) (fun q => by have := ORD.out; omega)).trans B5.out.2.2.2.2.2.1, (Turned.refl (fun b => b = pH ∨ b = w.heap.size + 1) w5).trans ht (fun _ _ q => .inl q)⟩; clear hr ht; have f0 := free_of S0.out.2.1 0; have c0 := cell_of S0.out.2.1 0 _ rfl; have y0 := lt_of_block S0.out.2.1; have h1 : Calls Try.prog 60 #[pt pH] (x0.setCell ⟨w.heap.size + 1, 0, none⟩ (.int .i64 (v0 : Nat))) _ := numOk v1 8 (u32_r (S0.out.1.turned (Turned.setCell (S := (· = w.heap.size + 1)) (p := ⟨w.heap.size + 1, 0, none⟩) rfl _) (fun q => by have := ORD.out; omega)) (by have := HC.out; simp only; omega) (by have := SZ.out; omega)) (by have := HC.out; omega) HV.out.2.1 rfl)
    | (go_at_call 92; (with_reducible refine (m0 _).mono ?_); rintro e wm ⟨rfl, rfl⟩)
    | (go_at_call 60; (with_reducible refine h1.mono ?_); rintro e x1 ⟨rfl, hr, ht⟩; have S1 : Hid (RdIs x1 pH cH (8, 0) ∧ x1.heap[w.heap.size + 1]? = some (.cells #[.int .i64 (v0 : Nat), .int .i64 0, .int .i64 0, .int .i64 0, .int .u32 0, .slice none 0 0] 40 (0, 0)) ∧ Turned (fun b => b = pH ∨ b = w.heap.size + 1) w5 x1) := ⟨hr, (ht.block _ (lt_of_block (Go.Mine.heap_setCell_same S0.out.2.1 _)) (fun q => by have := ORD.out; omega)).trans (Go.Mine.heap_setCell_same S0.out.2.1 _), (S0.out.2.2.set (p := ⟨w.heap.size + 1, 0, none⟩) (.inr rfl) _).trans ht (fun _ _ q => .inl q)⟩; clear hr ht; have h2 : Calls Try.prog 82 #[pt pH] x1 _ := numOk v2 9 (u8_r S1.out.1 (by have := HC.out; simp only; omega) (by have := SZ.out; omega)) (by have := HC.out; omega) HV.out.2.2.1 rfl)
    | (go_at_call 92; (with_reducible refine (m1 _).mono ?_); rintro e wm ⟨rfl, rfl⟩)
    | (go_at_call 82; (with_reducible refine h2.mono ?_); rintro e x2 ⟨rfl, hr, ht⟩; have S2 : Hid (RdIs x2 pH cH (9, 0) ∧ x2.heap[w.heap.size + 1]? = some (.cells #[.int .i64 (v0 : Nat), .int .i64 0, .int .i64 0, .int .i64 0, .int .u32 0, .slice none 0 0] 40 (0, 0)) ∧ Turned (fun b => b = pH ∨ b = w.heap.size + 1) w5 x2) := ⟨hr, (ht.block _ (lt_of_block S1.out.2.1) (fun q => by have := ORD.out; omega)).trans S1.out.2.1, S1.out.2.2.trans ht (fun _ _ q => .inl q)⟩; clear hr ht; have f2 := free_of S2.out.2.1 1; have c2 := cell_of S2.out.2.1 1 _ rfl; have y2 := lt_of_block S2.out.2.1; have h3 : Calls Try.prog 82 #[pt pH] (x2.setCell ⟨w.heap.size + 1, 1, none⟩ (.int .i64 (v2 : Nat))) _ := numOk v3 10 (u8_r (S2.out.1.turned (Turned.setCell (S := (· = w.heap.size + 1)) (p := ⟨w.heap.size + 1, 1, none⟩) rfl _) (fun q => by have := ORD.out; omega)) (by have := HC.out; simp only; omega) (by have := SZ.out; omega)) (by have := HC.out; omega) HV.out.2.2.2.1 rfl)
    | (go_at_call 93; (with_reducible refine (m2 _).mono ?_); rintro e wm ⟨rfl, rfl⟩)
    | (go_at_call 82; (with_reducible refine h3.mono ?_); rintro e x3 ⟨rfl, hr, ht⟩; have S3 : Hid (RdIs x3 pH cH (10, 0) ∧ x3.heap[w.heap.size + 1]? = some (.cells #[.int .i64 (v0 : Nat), .int .i64 (v2 : Nat), .int .i64 0, .int .i64 0, .int .u32 0, .slice none 0 0] 40 (0, 0)) ∧ Turned (fun b => b = pH ∨ b = w.heap.size + 1) w5 x3) := ⟨hr, (ht.block _ (lt_of_block (Go.Mine.heap_setCell_same S2.out.2.1 _)) (fun q => by have := ORD.out; omega)).trans (Go.Mine.heap_setCell_same S2.out.2.1 _), (S2.out.2.2.set (p := ⟨w.heap.size + 1, 1, none⟩) (.inr rfl) _).trans ht (fun _ _ q => .inl q)⟩; clear hr ht; have f3 := free_of S3.out.2.1 2; have c3 := cell_of S3.out.2.1 2 _ rfl; have y3 := lt_of_block S3.out.2.1; have h4 : Calls Try.prog 95 #[pt pH] (x3.setCell ⟨w.heap.size + 1, 2, none⟩ (.int .i64 (v3 : Nat))) _ := numOk v4 12 (u16_r (S3.out.1.turned (Turned.setCell (S := (· = w.heap.size + 1)) (p := ⟨w.heap.size + 1, 2, none⟩) rfl _) (fun q => by have := ORD.out; omega)) (by have := HC.out; simp only; omega) (by have := SZ.out; omega)) (by have := HC.out; omega) HV.out.2.2.2.2.1 rfl)
    | (go_at_call 93; (with_reducible refine (m3 _).mono ?_); rintro e wm ⟨rfl, rfl⟩)
    | (go_at_call 95; (with_reducible refine h4.mono ?_); rintro e x4 ⟨rfl, hr, ht⟩; have S4 : Hid (RdIs x4 pH cH (12, 0) ∧ x4.heap[w.heap.size + 1]? = some (.cells #[.int .i64 (v0 : Nat), .int .i64 (v2 : Nat), .int .i64 (v3 : Nat), .int .i64 0, .int .u32 0, .slice none 0 0] 40 (0, 0)) ∧ Turned (fun b => b = pH ∨ b = w.heap.size + 1) w5 x4) := ⟨hr, (ht.block _ (lt_of_block (Go.Mine.heap_setCell_same S3.out.2.1 _)) (fun q => by have := ORD.out; omega)).trans (Go.Mine.heap_setCell_same S3.out.2.1 _), (S3.out.2.2.set (p := ⟨w.heap.size + 1, 2, none⟩) (.inr rfl) _).trans ht (fun _ _ q => .inl q)⟩; clear hr ht; have f4 := free_of S4.out.2.1 3; have c4 := cell_of S4.out.2.1 3 _ rfl; have y4 := lt_of_block S4.out.2.1; have h5 : Calls Try.prog 60 #[pt pH] (x4.setCell ⟨w.heap.size + 1, 3, none⟩ (.int .i64 (v4 : Nat))) _ := numOk v5 16 (u32_r (S4.out.1.turned (Turned.setCell (S := (· = w.heap.size + 1)) (p := ⟨w.heap.size + 1, 3, none⟩) rfl _) (fun q => by have := ORD.out; omega)) (by have := HC.out; simp only; omega) (by have := SZ.out; omega)) (by have := HC.out; omega) HV.out.2.2.2.2.2 rfl)
    | (go_at_call 94; (with_reducible refine (m4 _).mono ?_); rintro e wm ⟨rfl, rfl⟩)
    | (go_at_call 60; (with_reducible refine h5.mono ?_); rintro e x5 ⟨rfl, hr, ht⟩; have S5 : Hid (RdIs x5 pH cH (16, 0) ∧ x5.heap[w.heap.size + 1]? = some (.cells #[.int .i64 (v0 : Nat), .int .i64 (v2 : Nat), .int .i64 (v3 : Nat), .int .i64 (v4 : Nat), .int .u32 0, .slice none 0 0] 40 (0, 0)) ∧ Turned (fun b => b = pH ∨ b = w.heap.size + 1) w5 x5) := ⟨hr, (ht.block _ (lt_of_block (Go.Mine.heap_setCell_same S4.out.2.1 _)) (fun q => by have := ORD.out; omega)).trans (Go.Mine.heap_setCell_same S4.out.2.1 _), (S4.out.2.2.set (p := ⟨w.heap.size + 1, 3, none⟩) (.inr rfl) _).trans ht (fun _ _ q => .inl q)⟩; clear hr ht; have f5 := free_of S5.out.2.1 4; have c5 := cell_of S5.out.2.1 4 _ rfl; have y5 := lt_of_block S5.out.2.1)
    | (go_at_call 92; (with_reducible refine (m5 _).mono ?_); rintro e wm ⟨rfl, rfl⟩))
  have HS : Hid (RdgRel w cA cE cN cB pA pN pB v1 o2 (.int .i64 (v0 : Nat)) (.int .i64 (v2 : Nat)) (.int .i64 (v3 : Nat)) (.int .i64 (v4 : Nat)) (.int .u32 (v5 : Nat)) v1 (.int .i64 0) (.int .u32 0) (x5.setCell ⟨w.heap.size + 1, 4, none⟩ (.int .u32 (v5 : Nat)))) := by
    have tt := S5.out.2.2.set (p := ⟨w.heap.size + 1, 4, none⟩) (.inr rfl) (.int .u32 (v5 : Nat))
    have hb := B5.out
    have od := ORD.out
    have sz := hb.2.2.2.2.2.2.size
    have nn : ∀ b, b ≠ pH → b ≠ w.heap.size + 1 → ¬ (b = pH ∨ b = w.heap.size + 1) := fun b h1 h2 h3 => h3.elim h1 h2
    exact ⟨0, 0, [], .slice none 0 0, fun _ => False, fun _ => False, ⟨Nat.zero_add _, rfl, rfl, rfl⟩, ⟨Nat.zero_le _, Nat.zero_le _, Nat.zero_le _⟩, HO2.out, (tt.block _ (lt_of_block hb.2.2.2.2.1) (nn _ (by omega) (by omega))).trans hb.2.2.2.2.1, Go.Mine.heap_setCell_same S5.out.2.1 _,
      hb.2.1.turned tt (nn _ (by omega) (by omega)), hb.2.2.1.turned tt (nn _ (by omega) (by omega)), hb.2.2.2.1.turned tt (nn _ (by omega) (by omega)), ⟨[], rfl, Sl.nil _ _ _ _, fun i r u hr => by simp at hr⟩, fun b q => q.elim (fun q => q.elim) (fun q => q.elim), fun b q => q.elim,
      hb.2.2.2.2.2.2.comp tt fun b hb q => q.elim id fun q => by omega⟩
  have HM : Hid (v0 < 4294967296 ∧ v2 < 256 ∧ v3 < 256 ∧ v4 < 65536 ∧ v5 < 4294967296) := ⟨b0, b2, b3, b4, b5⟩
  clear b0 b2 b3 b4 b5 m0 m1 m2 m3 m4 m5 S0 S1 S2 S3 S4 S5 f0 f2 f3 f4 f5 c0 c2 c3 c4 c5 y0 y2 y3 y4 y5
  generalize (x5.setCell ⟨w.heap.size + 1, 4, none⟩ (.int .u32 (v5 : Nat))) = wS at *
  go_loopg [11, 71] v1 (fun g la i wr => RdgRel w cA cE cN cB pA pN pB v1 o2 (.int .i64 (v0 : Nat)) (.int .i64 (v2 : Nat)) (.int .i64 (v3 : Nat)) (.int .i64 (v4 : Nat)) (.int .u32 (v5 : Nat)) g la i wr)
  case atStart => exact HS.out
  case round =>
    obtain ⟨j, la, l, rv, R, Q, ⟨hjg, rfl, rfl, hlj⟩, ⟨hla, hjA, hjN⟩, ho2, hb0, hb1, hrA, hrN, hrB, hnew, hRQ, hdis, htr⟩ := hrel
    obtain ⟨vs, hvs, hsl, hlists⟩ := hnew
    rw [hlj] at hsl
    obtain ⟨ra, rc, rfl, -, -⟩ := hsl.value
    have G : Hid (j + gk = v1 ∧ l.length = j) := ⟨hjg, hlj⟩
    have LA : Hid (la ≤ cB.size ∧ 15 * j ≤ cA.size ∧ 4 * j ≤ cN.size) := ⟨hla, hjA, hjN⟩
    have BB : Hid (wr.heap[w.heap.size]? = some (.cells #[.int .i64 0, .int .i64 0, .int .i64 0, .int .i64 0, .int .u32 0, .slice none 0 0] 40 (0, 0)) ∧ wr.heap[w.heap.size + 1]? = some (.cells #[.int .i64 (v0 : Nat), .int .i64 (v2 : Nat), .int .i64 (v3 : Nat), .int .i64 (v4 : Nat), .int .u32 (v5 : Nat), .slice ra j rc] 40 (0, 0))) := ⟨hb0, hb1⟩
    have RD : Hid (RdIs wr pA cA (15 * j, 0) ∧ RdIs wr pN cN (4 * j, 0) ∧ RdIs wr pB cB (la, 0)) := ⟨hrA, hrN, hrB⟩
    have SL : Hid (vs.length = l.length ∧ Sl wr R 61 5 (.slice ra j rc) (rowCs l vs) j ∧ ∀ (i : Nat) (r : Rw) (u : Value), l[i]? = some r → vs[i]? = some u → Sl wr Q 3 1 u (ncells r.par) r.par.length) := ⟨hvs, hsl, hlists⟩
    have RQ : Hid ((∀ b, R b ∨ Q b → w.heap.size + 2 ≤ b ∧ b < wr.heap.size ∧ b ≠ pA ∧ b ≠ pN ∧ b ≠ pB) ∧ (∀ b, R b → ¬ Q b)) := ⟨hRQ, hdis⟩
    have TR : Hid (Turned (fun _ => False) w wr) := htr
    have hsw := htr.size
    have hlA := lt_of_block hrA
    have hlN := lt_of_block hrN
    have hlB := lt_of_block hrB
    have hl1 := lt_of_block hb1
    have LT : Hid (w.heap.size + 2 ≤ wr.heap.size ∧ pA < wr.heap.size ∧ pN < wr.heap.size ∧ pB < wr.heap.size ∧ w.heap.size + 2 ≤ pA ∧ pA < pN ∧ pN < pB) := (by have := ORD.out; omega : w.heap.size + 2 ≤ wr.heap.size ∧ pA < wr.heap.size ∧ pN < wr.heap.size ∧ pB < wr.heap.size ∧ w.heap.size + 2 ≤ pA ∧ pA < pN ∧ pN < pB)
    clear hvs hsl hlists hRQ hdis htr hrA hrN hrB hb0 hb1 hsw hlA hlN hlB hl1 hla hjA hjN HS hjg hlj
    by_cases hg : gk = 0
    · have hjv : decide ((j : Int) < (v1 : Int)) = false := decide_eq_false (by have := G.out; omega)
      have hjvn : decide (j < v1) = false := decide_eq_false (by have := G.out; omega)
      have HO3 : Hid (o2 = some l) := by rw [ho2, hg, progRows]; exact rfl
      have d0 := cell_of BB.out.2 0 _ rfl
      have d1 := cell_of BB.out.2 1 _ rfl
      have d2 := cell_of BB.out.2 2 _ rfl
      have d3 := cell_of BB.out.2 3 _ rfl
      have d4 := cell_of BB.out.2 4 _ rfl
      have d5 := cell_of BB.out.2 5 _ rfl
      have q0 := cell_of BB.out.1 0 _ rfl
      have q1 := cell_of BB.out.1 1 _ rfl
      have q2 := cell_of BB.out.1 2 _ rfl
      have q3 := cell_of BB.out.1 3 _ rfl
      have q4 := cell_of BB.out.1 4 _ rfl
      have q5 := cell_of BB.out.1 5 _ rfl
      have g0 := free_of BB.out.1 0
      have g1 := free_of BB.out.1 1
      have g2 := free_of BB.out.1 2
      have g3 := free_of BB.out.1 3
      have g4 := free_of BB.out.1 4
      have g5 := free_of BB.out.1 5
      have hl0 := lt_of_block BB.out.1
      have hl1 := lt_of_block BB.out.2
      clear ho2 hg
      go_wp2
      have TE : Turned (· = w.heap.size) wr ((((((wr.setCell ⟨w.heap.size, 0, none⟩ (.int .i64 (v0 : Nat))).setCell ⟨w.heap.size, 1, none⟩ (.int .i64 (v2 : Nat))).setCell ⟨w.heap.size, 2, none⟩ (.int .i64 (v3 : Nat))).setCell ⟨w.heap.size, 3, none⟩ (.int .i64 (v4 : Nat))).setCell ⟨w.heap.size, 4, none⟩ (.int .u32 (v5 : Nat))).setCell ⟨w.heap.size, 5, none⟩ (.slice ra j rc)) := (((((((Turned.refl (· = w.heap.size) wr).set (p := ⟨w.heap.size, 0, none⟩) rfl _).set (p := ⟨w.heap.size, 1, none⟩) rfl _).set (p := ⟨w.heap.size, 2, none⟩) rfl _).set (p := ⟨w.heap.size, 3, none⟩) rfl _).set (p := ⟨w.heap.size, 4, none⟩) rfl _).set (p := ⟨w.heap.size, 5, none⟩) rfl _)
      refine bodyPost_ret (v := .agg #[.int .i64 (v0 : Nat), .int .i64 (v2 : Nat), .int .i64 (v3 : Nat), .int .i64 (v4 : Nat), .int .u32 (v5 : Nat), .slice ra j rc]) (by simp [results, Try.results69, go_sem, q0, q1, q2, q3, q4, q5]) rfl ?_
      refine ⟨TR.out.comp TE fun b hb q => q.elim id fun q => by omega, .inr ⟨⟨v0, v2, v3, v4, v5, l⟩, ra, rc, by rw [HR.out, HO3.out]; rfl, by rw [← G.out.2], vs, SL.out.1, ?_, fun i r u hr hu => ?_⟩⟩
      · show Sl _ _ 61 5 (.slice ra l.length rc) (rowCs l vs) l.length
        rw [G.out.2]
        exact (SL.out.2.1.turned TE fun b q z => by have := RQ.out.1 b (.inl q); omega).widen fun b q => by have := RQ.out.1 b (.inl q); omega
      · exact ((SL.out.2.2 i r u hr hu).turned TE fun b q z => by have := RQ.out.1 b (.inr q); omega).widen fun b q => by have := RQ.out.1 b (.inr q); omega
    · have hjv : decide ((j : Int) < (v1 : Int)) = true := decide_eq_true (by have := G.out; omega)
      have hjvn : decide (j < v1) = true := decide_eq_true (by have := G.out; omega)
      obtain ⟨g2, rfl⟩ : ∃ g2, gk = g2 + 1 := ⟨gk - 1, by omega⟩
      rw [progRows] at ho2
      obtain ⟨u0, hu0⟩ : ∃ u, u = fld cA (15 * j) 4 := ⟨_, rfl⟩
      obtain ⟨u1, hu1⟩ : ∃ u, u = fld cA (15 * j + 4) 4 := ⟨_, rfl⟩
      obtain ⟨u2, hu2⟩ : ∃ u, u = fld cA (15 * j + 8) 4 := ⟨_, rfl⟩
      obtain ⟨u4, hu4⟩ : ∃ u, u = fld cA (15 * j + 12) 2 := ⟨_, rfl⟩
      obtain ⟨u5, hu5⟩ : ∃ u, u = fld cA (15 * j + 14) 1 := ⟨_, rfl⟩
      obtain ⟨nx, hnx⟩ : ∃ u, u = fld cN (4 * j) 4 := ⟨_, rfl⟩
      have HU : Hid (u0 = fld cA (15 * j) 4 ∧ u1 = fld cA (15 * j + 4) 4 ∧ u2 = fld cA (15 * j + 8) 4 ∧ u4 = fld cA (15 * j + 12) 2 ∧ u5 = fld cA (15 * j + 14) 1 ∧ nx = fld cN (4 * j) 4) := ⟨hu0, hu1, hu2, hu4, hu5, hnx⟩
      clear hg
      by_cases e0 : cA.size < 15 * j + 4
      · have HS : Hid (cA.size < 15 * j + 4) := e0
        have HC : Hid (15 * j ≤ cA.size) := (by have := LA.out; omega : 15 * j ≤ cA.size)
        have HN : Hid (o = none) := by
          have q : progRow cA cE cN cB j la = none := by
            unfold progRow
            rw [if_pos (by omega)]
          rw [HR.out, ho2, q]; exact rfl
        have m0 : ∀ W, Calls Try.prog 92 #[.int .u32 0, .int .i64 2] W _ := fun W => must32_no 0 2 (by decide) W
        clear e0 hu0 hu1 hu2 hu4 hu5 hnx ho2
        have h0 : Calls Try.prog 60 #[pt pA] (wr.alloc (.cells #[.slice none 0 0, .int .i64 0, .int .i64 0, .int .i64 0, .string ⟨#[]⟩] 61)) _ := numNo (u32_r (RD.out.1.turned (Turned.alloc (fun _ => False) wr _) id) (by have := HC.out; simp only; omega) (by have := SZ.out; omega)) (by have := HS.out; omega)
        go_wp2_with (first
          | (go_at_call 60; (with_reducible refine h0.mono ?_); rintro e x0 ⟨rfl, ht⟩; have E : Hid (Turned (fun b => b = pA ∨ b = pN ∨ b = pB ∨ b = wr.heap.size) wr x0) := (Turned.alloc (fun b => b = pA ∨ b = wr.heap.size) wr _).comp ht (fun b hb q => q.elim (fun q => q.elim .inl fun q => .inr (.inr (.inr q))) .inl); clear ht)
          | (go_at_call 92; (with_reducible refine (m0 _).mono ?_); rintro e wm ⟨rfl, rfl⟩))
        exact ⟨rfl, TR.out.comp E.out (fun b hb q => q.elim id fun q => by have := LT.out; omega), .inl ⟨HN.out, rfl⟩⟩
      by_cases e1 : cA.size < 15 * j + 8
      · have HS : Hid (cA.size < 15 * j + 8) := e1
        have HC : Hid (15 * j + 4 ≤ cA.size) := (by have := LA.out; omega : 15 * j + 4 ≤ cA.size)
        have HN : Hid (o = none) := by
          have q : progRow cA cE cN cB j la = none := by
            unfold progRow
            rw [if_pos (by omega)]
          rw [HR.out, ho2, q]; exact rfl
        have bu0 : u0 < 4294967296 := by rw [hu0]; exact fld_lt cA (15 * j) 4 (by omega)
        have m0 := fun W => must32_ok u0 W
        have m1 : ∀ W, Calls Try.prog 92 #[.int .u32 0, .int .i64 2] W _ := fun W => must32_no 0 2 (by decide) W
        clear e0 e1 hu0 hu1 hu2 hu4 hu5 hnx ho2
        have h0 : Calls Try.prog 60 #[pt pA] (wr.alloc (.cells #[.slice none 0 0, .int .i64 0, .int .i64 0, .int .i64 0, .string ⟨#[]⟩] 61)) _ := numOk u0 (15 * j + 4) (u32_r (RD.out.1.turned (Turned.alloc (fun _ => False) wr _) id) (by have := HC.out; simp only; omega) (by have := SZ.out; omega)) (by have := HC.out; omega) HU.out.1 (by omega)
        go_wp2_with (first
          | (go_at_call 60; (with_reducible refine h0.mono ?_); rintro e x0 ⟨rfl, hr, ht⟩; have S0 : Hid (RdIs x0 pA cA (15 * j + 4, 0) ∧ x0.heap[wr.heap.size]? = some (.cells #[.slice none 0 0, .int .i64 0, .int .i64 0, .int .i64 0, .string ⟨#[]⟩] 61 (0, 0)) ∧ Turned (fun b => b = pA ∨ b = wr.heap.size) wr x0) := ⟨hr, (ht.block _ (lt_of_block (heap_alloc_last wr _)) (fun q => by have := LT.out; omega)).trans (heap_alloc_last wr _), (Turned.alloc (fun b => b = pA ∨ b = wr.heap.size) wr _).trans ht (fun _ _ q => .inl q)⟩; clear hr ht; have f0 := free_of S0.out.2.1 1; have q0 := cell_of S0.out.2.1 1 _ rfl; have y0 := lt_of_block S0.out.2.1; have h1 : Calls Try.prog 60 #[pt pA] (x0.setCell ⟨wr.heap.size, 1, none⟩ (.int .i64 (u0 : Nat))) _ := numNo (u32_r (S0.out.1.turned (Turned.setCell (S := (· = wr.heap.size)) (p := ⟨wr.heap.size, 1, none⟩) rfl _) (fun q => by have := LT.out; omega)) (by have := HC.out; simp only; omega) (by have := SZ.out; omega)) (by have := HS.out; omega))
          | (go_at_call 92; (with_reducible refine (m0 _).mono ?_); rintro e wm ⟨rfl, rfl⟩)
          | (go_at_call 60; (with_reducible refine h1.mono ?_); rintro e x1 ⟨rfl, ht⟩; have E : Hid (Turned (fun b => b = pA ∨ b = pN ∨ b = pB ∨ b = wr.heap.size) wr x1) := (S0.out.2.2.set (p := ⟨wr.heap.size, 1, none⟩) (.inr rfl) _).comp ht (fun b hb q => q.elim (fun q => q.elim .inl fun q => .inr (.inr (.inr q))) .inl); clear ht)
          | (go_at_call 92; (with_reducible refine (m1 _).mono ?_); rintro e wm ⟨rfl, rfl⟩))
        exact ⟨rfl, TR.out.comp E.out (fun b hb q => q.elim id fun q => by have := LT.out; omega), .inl ⟨HN.out, rfl⟩⟩
      by_cases e2 : cA.size < 15 * j + 12
      · have HS : Hid (cA.size < 15 * j + 12) := e2
        have HC : Hid (15 * j + 8 ≤ cA.size) := (by have := LA.out; omega : 15 * j + 8 ≤ cA.size)
        have HN : Hid (o = none) := by
          have q : progRow cA cE cN cB j la = none := by
            unfold progRow
            rw [if_pos (by omega)]
          rw [HR.out, ho2, q]; exact rfl
        have bu0 : u0 < 4294967296 := by rw [hu0]; exact fld_lt cA (15 * j) 4 (by omega)
        have m0 := fun W => must32_ok u0 W
        have bu1 : u1 < 4294967296 := by rw [hu1]; exact fld_lt cA (15 * j + 4) 4 (by omega)
        have m1 := fun W => must32_ok u1 W
        have m2 : ∀ W, Calls Try.prog 92 #[.int .u32 0, .int .i64 2] W _ := fun W => must32_no 0 2 (by decide) W
        clear e0 e1 e2 hu0 hu1 hu2 hu4 hu5 hnx ho2
        have h0 : Calls Try.prog 60 #[pt pA] (wr.alloc (.cells #[.slice none 0 0, .int .i64 0, .int .i64 0, .int .i64 0, .string ⟨#[]⟩] 61)) _ := numOk u0 (15 * j + 4) (u32_r (RD.out.1.turned (Turned.alloc (fun _ => False) wr _) id) (by have := HC.out; simp only; omega) (by have := SZ.out; omega)) (by have := HC.out; omega) HU.out.1 (by omega)
        go_wp2_with (first
          | (go_at_call 60; (with_reducible refine h0.mono ?_); rintro e x0 ⟨rfl, hr, ht⟩; have S0 : Hid (RdIs x0 pA cA (15 * j + 4, 0) ∧ x0.heap[wr.heap.size]? = some (.cells #[.slice none 0 0, .int .i64 0, .int .i64 0, .int .i64 0, .string ⟨#[]⟩] 61 (0, 0)) ∧ Turned (fun b => b = pA ∨ b = wr.heap.size) wr x0) := ⟨hr, (ht.block _ (lt_of_block (heap_alloc_last wr _)) (fun q => by have := LT.out; omega)).trans (heap_alloc_last wr _), (Turned.alloc (fun b => b = pA ∨ b = wr.heap.size) wr _).trans ht (fun _ _ q => .inl q)⟩; clear hr ht; have f0 := free_of S0.out.2.1 1; have q0 := cell_of S0.out.2.1 1 _ rfl; have y0 := lt_of_block S0.out.2.1; have h1 : Calls Try.prog 60 #[pt pA] (x0.setCell ⟨wr.heap.size, 1, none⟩ (.int .i64 (u0 : Nat))) _ := numOk u1 (15 * j + 8) (u32_r (S0.out.1.turned (Turned.setCell (S := (· = wr.heap.size)) (p := ⟨wr.heap.size, 1, none⟩) rfl _) (fun q => by have := LT.out; omega)) (by have := HC.out; simp only; omega) (by have := SZ.out; omega)) (by have := HC.out; omega) HU.out.2.1 (by omega))
          | (go_at_call 92; (with_reducible refine (m0 _).mono ?_); rintro e wm ⟨rfl, rfl⟩)
          | (go_at_call 60; (with_reducible refine h1.mono ?_); rintro e x1 ⟨rfl, hr, ht⟩; have S1 : Hid (RdIs x1 pA cA (15 * j + 8, 0) ∧ x1.heap[wr.heap.size]? = some (.cells #[.slice none 0 0, .int .i64 (u0 : Nat), .int .i64 0, .int .i64 0, .string ⟨#[]⟩] 61 (0, 0)) ∧ Turned (fun b => b = pA ∨ b = wr.heap.size) wr x1) := ⟨hr, (ht.block _ (lt_of_block (Go.Mine.heap_setCell_same S0.out.2.1 _)) (fun q => by have := LT.out; omega)).trans (Go.Mine.heap_setCell_same S0.out.2.1 _), (S0.out.2.2.set (p := ⟨wr.heap.size, 1, none⟩) (.inr rfl) _).trans ht (fun _ _ q => .inl q)⟩; clear hr ht; have h2 : Calls Try.prog 60 #[pt pA] x1 _ := numNo (u32_r S1.out.1 (by have := HC.out; simp only; omega) (by have := SZ.out; omega)) (by have := HS.out; omega))
          | (go_at_call 92; (with_reducible refine (m1 _).mono ?_); rintro e wm ⟨rfl, rfl⟩)
          | (go_at_call 60; (with_reducible refine h2.mono ?_); rintro e x2 ⟨rfl, ht⟩; have E : Hid (Turned (fun b => b = pA ∨ b = pN ∨ b = pB ∨ b = wr.heap.size) wr x2) := S1.out.2.2.comp ht (fun b hb q => q.elim (fun q => q.elim .inl fun q => .inr (.inr (.inr q))) .inl); clear ht)
          | (go_at_call 92; (with_reducible refine (m2 _).mono ?_); rintro e wm ⟨rfl, rfl⟩))
        exact ⟨rfl, TR.out.comp E.out (fun b hb q => q.elim id fun q => by have := LT.out; omega), .inl ⟨HN.out, rfl⟩⟩
      cases hpp : progPar u1 u2 cE with
      | none =>
        have HC : Hid (15 * j + 12 ≤ cA.size) := (by omega : 15 * j + 12 ≤ cA.size)
        have HN : Hid (o = none) := by
          have q : progRow cA cE cN cB j la = none := by
            unfold progRow
            rw [← hu1, ← hu2, hpp]
            split <;> rfl
          rw [HR.out, ho2, q]; exact rfl
        have hP : ∀ W, Calls Try.prog 96 #[.int .u32 (u1 : Nat), .int .u32 (u2 : Nat), .string cE] W fun e w' => e = .panicked [formE] ∧ Turned (fun _ => False) W w' := fun W => by
          have q := parents_any u1 u2 cE W (by rw [hu1]; exact fld_lt cA _ 4 (by omega)) (by rw [hu2]; exact fld_lt cA _ 4 (by omega)) (by have := SZ.out; omega)
          rw [hpp] at q
          refine q.mono ?_
          rintro e w' ⟨h1, ⟨-, h2⟩ | ⟨_, _, _, h2, _⟩⟩
          · exact ⟨h2, h1⟩
          · simp at h2
        have bu0 : u0 < 4294967296 := by rw [hu0]; exact fld_lt cA (15 * j) 4 (by omega)
        have m0 := fun W => must32_ok u0 W
        have bu1 : u1 < 4294967296 := by rw [hu1]; exact fld_lt cA (15 * j + 4) 4 (by omega)
        have m1 := fun W => must32_ok u1 W
        have bu2 : u2 < 4294967296 := by rw [hu2]; exact fld_lt cA (15 * j + 8) 4 (by omega)
        have m2 := fun W => must32_ok u2 W
        clear e0 e1 e2 hpp hu0 hu1 hu2 hu4 hu5 hnx ho2
        have h0 : Calls Try.prog 60 #[pt pA] (wr.alloc (.cells #[.slice none 0 0, .int .i64 0, .int .i64 0, .int .i64 0, .string ⟨#[]⟩] 61)) _ := numOk u0 (15 * j + 4) (u32_r (RD.out.1.turned (Turned.alloc (fun _ => False) wr _) id) (by have := HC.out; simp only; omega) (by have := SZ.out; omega)) (by have := HC.out; omega) HU.out.1 (by omega)
        go_wp2_with (first
          | (go_at_call 60; (with_reducible refine h0.mono ?_); rintro e x0 ⟨rfl, hr, ht⟩; have S0 : Hid (RdIs x0 pA cA (15 * j + 4, 0) ∧ x0.heap[wr.heap.size]? = some (.cells #[.slice none 0 0, .int .i64 0, .int .i64 0, .int .i64 0, .string ⟨#[]⟩] 61 (0, 0)) ∧ Turned (fun b => b = pA ∨ b = wr.heap.size) wr x0) := ⟨hr, (ht.block _ (lt_of_block (heap_alloc_last wr _)) (fun q => by have := LT.out; omega)).trans (heap_alloc_last wr _), (Turned.alloc (fun b => b = pA ∨ b = wr.heap.size) wr _).trans ht (fun _ _ q => .inl q)⟩; clear hr ht; have f0 := free_of S0.out.2.1 1; have q0 := cell_of S0.out.2.1 1 _ rfl; have y0 := lt_of_block S0.out.2.1; have h1 : Calls Try.prog 60 #[pt pA] (x0.setCell ⟨wr.heap.size, 1, none⟩ (.int .i64 (u0 : Nat))) _ := numOk u1 (15 * j + 8) (u32_r (S0.out.1.turned (Turned.setCell (S := (· = wr.heap.size)) (p := ⟨wr.heap.size, 1, none⟩) rfl _) (fun q => by have := LT.out; omega)) (by have := HC.out; simp only; omega) (by have := SZ.out; omega)) (by have := HC.out; omega) HU.out.2.1 (by omega))
          | (go_at_call 92; (with_reducible refine (m0 _).mono ?_); rintro e wm ⟨rfl, rfl⟩)
          | (go_at_call 60; (with_reducible refine h1.mono ?_); rintro e x1 ⟨rfl, hr, ht⟩; have S1 : Hid (RdIs x1 pA cA (15 * j + 8, 0) ∧ x1.heap[wr.heap.size]? = some (.cells #[.slice none 0 0, .int .i64 (u0 : Nat), .int .i64 0, .int .i64 0, .string ⟨#[]⟩] 61 (0, 0)) ∧ Turned (fun b => b = pA ∨ b = wr.heap.size) wr x1) := ⟨hr, (ht.block _ (lt_of_block (Go.Mine.heap_setCell_same S0.out.2.1 _)) (fun q => by have := LT.out; omega)).trans (Go.Mine.heap_setCell_same S0.out.2.1 _), (S0.out.2.2.set (p := ⟨wr.heap.size, 1, none⟩) (.inr rfl) _).trans ht (fun _ _ q => .inl q)⟩; clear hr ht; have h2 : Calls Try.prog 60 #[pt pA] x1 _ := numOk u2 (15 * j + 12) (u32_r S1.out.1 (by have := HC.out; simp only; omega) (by have := SZ.out; omega)) (by have := HC.out; omega) HU.out.2.2.1 (by omega))
          | (go_at_call 92; (with_reducible refine (m1 _).mono ?_); rintro e wm ⟨rfl, rfl⟩)
          | (go_at_call 60; (with_reducible refine h2.mono ?_); rintro e x2 ⟨rfl, hr, ht⟩; have S2 : Hid (RdIs x2 pA cA (15 * j + 12, 0) ∧ x2.heap[wr.heap.size]? = some (.cells #[.slice none 0 0, .int .i64 (u0 : Nat), .int .i64 0, .int .i64 0, .string ⟨#[]⟩] 61 (0, 0)) ∧ Turned (fun b => b = pA ∨ b = wr.heap.size) wr x2) := ⟨hr, (ht.block _ (lt_of_block S1.out.2.1) (fun q => by have := LT.out; omega)).trans S1.out.2.1, S1.out.2.2.trans ht (fun _ _ q => .inl q)⟩; clear hr ht)
          | (go_at_call 92; (with_reducible refine (m2 _).mono ?_); rintro e wm ⟨rfl, rfl⟩)
          | (go_at_call 96; (with_reducible refine (hP _).mono ?_); rintro e x3 ⟨rfl, ht⟩; have E : Hid (Turned (fun b => b = pA ∨ b = pN ∨ b = pB ∨ b = wr.heap.size) wr x3) := S2.out.2.2.comp ht (fun b hb q => q.elim (fun q => q.elim .inl fun q => .inr (.inr (.inr q))) fun q => q.elim); clear ht))
        exact ⟨rfl, TR.out.comp E.out (fun b hb q => q.elim id fun q => by have := LT.out; omega), .inl ⟨HN.out, rfl⟩⟩
      | some par =>
        obtain ⟨np, hnp⟩ : ∃ n, n = par.length := ⟨_, rfl⟩
        have HNP : Hid (np = par.length) := hnp
        have hP : ∀ W, Calls Try.prog 96 #[.int .u32 (u1 : Nat), .int .u32 (u2 : Nat), .string cE] W fun e w' => ∃ pa pc, e = .returned (.slice pa np pc) ∧ Sl w' (fun b => W.heap.size ≤ b) 3 1 (.slice pa np pc) (ncells par) np ∧ Turned (fun _ => False) W w' := fun W => by
          have q := parents_any u1 u2 cE W (by rw [hu1]; exact fld_lt cA _ 4 (by omega)) (by rw [hu2]; exact fld_lt cA _ 4 (by omega)) (by have := SZ.out; omega)
          rw [hpp] at q
          refine q.mono ?_
          rintro e w' ⟨h1, ⟨h2, -⟩ | ⟨l', pa, pc, h2, h3, h4⟩⟩
          · simp at h2
          · obtain rfl := Option.some.inj h2
            rw [hnp]
            exact ⟨pa, pc, h3, h4, h1⟩
        rw [hu1, hu2] at hpp
        by_cases e4 : cA.size < 15 * j + 14
        · have HS : Hid (cA.size < 15 * j + 14) := e4
          have HC : Hid (15 * j + 12 ≤ cA.size) := (by omega : 15 * j + 12 ≤ cA.size)
          have HN : Hid (o = none) := by
            have q : progRow cA cE cN cB j la = none := by
              unfold progRow
              rw [if_pos (by omega)]
            rw [HR.out, ho2, q]; exact rfl
          have bu0 : u0 < 4294967296 := by rw [hu0]; exact fld_lt cA (15 * j) 4 (by omega)
          have m0 := fun W => must32_ok u0 W
          have bu1 : u1 < 4294967296 := by rw [hu1]; exact fld_lt cA (15 * j + 4) 4 (by omega)
          have m1 := fun W => must32_ok u1 W
          have bu2 : u2 < 4294967296 := by rw [hu2]; exact fld_lt cA (15 * j + 8) 4 (by omega)
          have m2 := fun W => must32_ok u2 W
          have m4 : ∀ W, Calls Try.prog 94 #[.int .u16 0, .int .i64 2] W _ := fun W => must16_no 0 2 (by decide) W
          clear e0 e1 e2 hpp hnp e4 hu0 hu1 hu2 hu4 hu5 hnx ho2
          have h0 : Calls Try.prog 60 #[pt pA] (wr.alloc (.cells #[.slice none 0 0, .int .i64 0, .int .i64 0, .int .i64 0, .string ⟨#[]⟩] 61)) _ := numOk u0 (15 * j + 4) (u32_r (RD.out.1.turned (Turned.alloc (fun _ => False) wr _) id) (by have := HC.out; simp only; omega) (by have := SZ.out; omega)) (by have := HC.out; omega) HU.out.1 (by omega)
          go_wp2_with (first
          | (go_at_call 60; (with_reducible refine h0.mono ?_); rintro e x0 ⟨rfl, hr, ht⟩; have S0 : Hid (RdIs x0 pA cA (15 * j + 4, 0) ∧ x0.heap[wr.heap.size]? = some (.cells #[.slice none 0 0, .int .i64 0, .int .i64 0, .int .i64 0, .string ⟨#[]⟩] 61 (0, 0)) ∧ Turned (fun b => b = pA ∨ b = wr.heap.size) wr x0) := ⟨hr, (ht.block _ (lt_of_block (heap_alloc_last wr _)) (fun q => by have := LT.out; omega)).trans (heap_alloc_last wr _), (Turned.alloc (fun b => b = pA ∨ b = wr.heap.size) wr _).trans ht (fun _ _ q => .inl q)⟩; clear hr ht; have f0 := free_of S0.out.2.1 1; have q0 := cell_of S0.out.2.1 1 _ rfl; have y0 := lt_of_block S0.out.2.1; have h1 : Calls Try.prog 60 #[pt pA] (x0.setCell ⟨wr.heap.size, 1, none⟩ (.int .i64 (u0 : Nat))) _ := numOk u1 (15 * j + 8) (u32_r (S0.out.1.turned (Turned.setCell (S := (· = wr.heap.size)) (p := ⟨wr.heap.size, 1, none⟩) rfl _) (fun q => by have := LT.out; omega)) (by have := HC.out; simp only; omega) (by have := SZ.out; omega)) (by have := HC.out; omega) HU.out.2.1 (by omega))
          | (go_at_call 92; (with_reducible refine (m0 _).mono ?_); rintro e wm ⟨rfl, rfl⟩)
          | (go_at_call 60; (with_reducible refine h1.mono ?_); rintro e x1 ⟨rfl, hr, ht⟩; have S1 : Hid (RdIs x1 pA cA (15 * j + 8, 0) ∧ x1.heap[wr.heap.size]? = some (.cells #[.slice none 0 0, .int .i64 (u0 : Nat), .int .i64 0, .int .i64 0, .string ⟨#[]⟩] 61 (0, 0)) ∧ Turned (fun b => b = pA ∨ b = wr.heap.size) wr x1) := ⟨hr, (ht.block _ (lt_of_block (Go.Mine.heap_setCell_same S0.out.2.1 _)) (fun q => by have := LT.out; omega)).trans (Go.Mine.heap_setCell_same S0.out.2.1 _), (S0.out.2.2.set (p := ⟨wr.heap.size, 1, none⟩) (.inr rfl) _).trans ht (fun _ _ q => .inl q)⟩; clear hr ht; have h2 : Calls Try.prog 60 #[pt pA] x1 _ := numOk u2 (15 * j + 12) (u32_r S1.out.1 (by have := HC.out; simp only; omega) (by have := SZ.out; omega)) (by have := HC.out; omega) HU.out.2.2.1 (by omega))
          | (go_at_call 92; (with_reducible refine (m1 _).mono ?_); rintro e wm ⟨rfl, rfl⟩)
          | (go_at_call 60; (with_reducible refine h2.mono ?_); rintro e x2 ⟨rfl, hr, ht⟩; have S2 : Hid (RdIs x2 pA cA (15 * j + 12, 0) ∧ x2.heap[wr.heap.size]? = some (.cells #[.slice none 0 0, .int .i64 (u0 : Nat), .int .i64 0, .int .i64 0, .string ⟨#[]⟩] 61 (0, 0)) ∧ Turned (fun b => b = pA ∨ b = wr.heap.size) wr x2) := ⟨hr, (ht.block _ (lt_of_block S1.out.2.1) (fun q => by have := LT.out; omega)).trans S1.out.2.1, S1.out.2.2.trans ht (fun _ _ q => .inl q)⟩; clear hr ht)
          | (go_at_call 92; (with_reducible refine (m2 _).mono ?_); rintro e wm ⟨rfl, rfl⟩)
          | (go_at_call 96; (with_reducible refine (hP _).mono ?_); rintro e x3 ⟨pa, pc, rfl, hs3, ht⟩; have S3 : Hid (RdIs x3 pA cA (15 * j + 12, 0) ∧ x3.heap[wr.heap.size]? = some (.cells #[.slice none 0 0, .int .i64 (u0 : Nat), .int .i64 0, .int .i64 0, .string ⟨#[]⟩] 61 (0, 0)) ∧ Turned (fun b => b = pA ∨ b = wr.heap.size) wr x3 ∧ Sl x3 (fun b => wr.heap.size + 1 ≤ b ∧ b < x3.heap.size) 3 1 (.slice pa np pc) (ncells par) np) := ⟨S2.out.1.turned ht id, (ht.block _ (lt_of_block S2.out.2.1) id).trans S2.out.2.1, S2.out.2.2.trans ht (fun _ _ q => q.elim), (sl_bound hs3).widen fun b q => ⟨by have h1 := lt_of_block S2.out.2.1; have h2 := q.1; omega, q.2⟩⟩; clear hs3 ht; have f3 := free_of S3.out.2.1 0; have q3 := cell_of S3.out.2.1 0 _ rfl; have y3 := lt_of_block S3.out.2.1; have h4 : Calls Try.prog 95 #[pt pA] (x3.setCell ⟨wr.heap.size, 0, none⟩ (.slice pa np pc)) _ := numNo (u16_r (S3.out.1.turned (Turned.setCell (S := (· = wr.heap.size)) (p := ⟨wr.heap.size, 0, none⟩) rfl _) (fun q => by have := LT.out; omega)) (by have := HC.out; simp only; omega) (by have := SZ.out; omega)) (by have := HS.out; omega))
          | (go_at_call 95; (with_reducible refine h4.mono ?_); rintro e x4 ⟨rfl, ht⟩; have E : Hid (Turned (fun b => b = pA ∨ b = pN ∨ b = pB ∨ b = wr.heap.size) wr x4) := (S3.out.2.2.1.set (p := ⟨wr.heap.size, 0, none⟩) (.inr rfl) _).comp ht (fun b hb q => q.elim (fun q => q.elim .inl fun q => .inr (.inr (.inr q))) .inl); clear ht)
          | (go_at_call 94; (with_reducible refine (m4 _).mono ?_); rintro e wm ⟨rfl, rfl⟩))
          exact ⟨rfl, TR.out.comp E.out (fun b hb q => q.elim id fun q => by have := LT.out; omega), .inl ⟨HN.out, rfl⟩⟩
        by_cases e5 : cA.size < 15 * j + 15
        · have HS : Hid (cA.size < 15 * j + 15) := e5
          have HC : Hid (15 * j + 14 ≤ cA.size) := (by omega : 15 * j + 14 ≤ cA.size)
          have HN : Hid (o = none) := by
            have q : progRow cA cE cN cB j la = none := by
              unfold progRow
              rw [if_pos (by omega)]
            rw [HR.out, ho2, q]; exact rfl
          have bu0 : u0 < 4294967296 := by rw [hu0]; exact fld_lt cA (15 * j) 4 (by omega)
          have m0 := fun W => must32_ok u0 W
          have bu1 : u1 < 4294967296 := by rw [hu1]; exact fld_lt cA (15 * j + 4) 4 (by omega)
          have m1 := fun W => must32_ok u1 W
          have bu2 : u2 < 4294967296 := by rw [hu2]; exact fld_lt cA (15 * j + 8) 4 (by omega)
          have m2 := fun W => must32_ok u2 W
          have bu4 : u4 < 65536 := by rw [hu4]; exact fld_lt cA (15 * j + 12) 2 (by omega)
          have m4 := fun W => must16_ok u4 W
          have m5 : ∀ W, Calls Try.prog 93 #[.int .u8 0, .int .i64 2] W _ := fun W => must8_no 0 2 (by decide) W
          clear e0 e1 e2 hpp hnp e4 e5 hu0 hu1 hu2 hu4 hu5 hnx ho2
          have h0 : Calls Try.prog 60 #[pt pA] (wr.alloc (.cells #[.slice none 0 0, .int .i64 0, .int .i64 0, .int .i64 0, .string ⟨#[]⟩] 61)) _ := numOk u0 (15 * j + 4) (u32_r (RD.out.1.turned (Turned.alloc (fun _ => False) wr _) id) (by have := HC.out; simp only; omega) (by have := SZ.out; omega)) (by have := HC.out; omega) HU.out.1 (by omega)
          go_wp2_with (first
          | (go_at_call 60; (with_reducible refine h0.mono ?_); rintro e x0 ⟨rfl, hr, ht⟩; have S0 : Hid (RdIs x0 pA cA (15 * j + 4, 0) ∧ x0.heap[wr.heap.size]? = some (.cells #[.slice none 0 0, .int .i64 0, .int .i64 0, .int .i64 0, .string ⟨#[]⟩] 61 (0, 0)) ∧ Turned (fun b => b = pA ∨ b = wr.heap.size) wr x0) := ⟨hr, (ht.block _ (lt_of_block (heap_alloc_last wr _)) (fun q => by have := LT.out; omega)).trans (heap_alloc_last wr _), (Turned.alloc (fun b => b = pA ∨ b = wr.heap.size) wr _).trans ht (fun _ _ q => .inl q)⟩; clear hr ht; have f0 := free_of S0.out.2.1 1; have q0 := cell_of S0.out.2.1 1 _ rfl; have y0 := lt_of_block S0.out.2.1; have h1 : Calls Try.prog 60 #[pt pA] (x0.setCell ⟨wr.heap.size, 1, none⟩ (.int .i64 (u0 : Nat))) _ := numOk u1 (15 * j + 8) (u32_r (S0.out.1.turned (Turned.setCell (S := (· = wr.heap.size)) (p := ⟨wr.heap.size, 1, none⟩) rfl _) (fun q => by have := LT.out; omega)) (by have := HC.out; simp only; omega) (by have := SZ.out; omega)) (by have := HC.out; omega) HU.out.2.1 (by omega))
          | (go_at_call 92; (with_reducible refine (m0 _).mono ?_); rintro e wm ⟨rfl, rfl⟩)
          | (go_at_call 60; (with_reducible refine h1.mono ?_); rintro e x1 ⟨rfl, hr, ht⟩; have S1 : Hid (RdIs x1 pA cA (15 * j + 8, 0) ∧ x1.heap[wr.heap.size]? = some (.cells #[.slice none 0 0, .int .i64 (u0 : Nat), .int .i64 0, .int .i64 0, .string ⟨#[]⟩] 61 (0, 0)) ∧ Turned (fun b => b = pA ∨ b = wr.heap.size) wr x1) := ⟨hr, (ht.block _ (lt_of_block (Go.Mine.heap_setCell_same S0.out.2.1 _)) (fun q => by have := LT.out; omega)).trans (Go.Mine.heap_setCell_same S0.out.2.1 _), (S0.out.2.2.set (p := ⟨wr.heap.size, 1, none⟩) (.inr rfl) _).trans ht (fun _ _ q => .inl q)⟩; clear hr ht; have h2 : Calls Try.prog 60 #[pt pA] x1 _ := numOk u2 (15 * j + 12) (u32_r S1.out.1 (by have := HC.out; simp only; omega) (by have := SZ.out; omega)) (by have := HC.out; omega) HU.out.2.2.1 (by omega))
          | (go_at_call 92; (with_reducible refine (m1 _).mono ?_); rintro e wm ⟨rfl, rfl⟩)
          | (go_at_call 60; (with_reducible refine h2.mono ?_); rintro e x2 ⟨rfl, hr, ht⟩; have S2 : Hid (RdIs x2 pA cA (15 * j + 12, 0) ∧ x2.heap[wr.heap.size]? = some (.cells #[.slice none 0 0, .int .i64 (u0 : Nat), .int .i64 0, .int .i64 0, .string ⟨#[]⟩] 61 (0, 0)) ∧ Turned (fun b => b = pA ∨ b = wr.heap.size) wr x2) := ⟨hr, (ht.block _ (lt_of_block S1.out.2.1) (fun q => by have := LT.out; omega)).trans S1.out.2.1, S1.out.2.2.trans ht (fun _ _ q => .inl q)⟩; clear hr ht)
          | (go_at_call 92; (with_reducible refine (m2 _).mono ?_); rintro e wm ⟨rfl, rfl⟩)
          | (go_at_call 96; (with_reducible refine (hP _).mono ?_); rintro e x3 ⟨pa, pc, rfl, hs3, ht⟩; have S3 : Hid (RdIs x3 pA cA (15 * j + 12, 0) ∧ x3.heap[wr.heap.size]? = some (.cells #[.slice none 0 0, .int .i64 (u0 : Nat), .int .i64 0, .int .i64 0, .string ⟨#[]⟩] 61 (0, 0)) ∧ Turned (fun b => b = pA ∨ b = wr.heap.size) wr x3 ∧ Sl x3 (fun b => wr.heap.size + 1 ≤ b ∧ b < x3.heap.size) 3 1 (.slice pa np pc) (ncells par) np) := ⟨S2.out.1.turned ht id, (ht.block _ (lt_of_block S2.out.2.1) id).trans S2.out.2.1, S2.out.2.2.trans ht (fun _ _ q => q.elim), (sl_bound hs3).widen fun b q => ⟨by have h1 := lt_of_block S2.out.2.1; have h2 := q.1; omega, q.2⟩⟩; clear hs3 ht; have f3 := free_of S3.out.2.1 0; have q3 := cell_of S3.out.2.1 0 _ rfl; have y3 := lt_of_block S3.out.2.1; have h4 : Calls Try.prog 95 #[pt pA] (x3.setCell ⟨wr.heap.size, 0, none⟩ (.slice pa np pc)) _ := numOk u4 (15 * j + 14) (u16_r (S3.out.1.turned (Turned.setCell (S := (· = wr.heap.size)) (p := ⟨wr.heap.size, 0, none⟩) rfl _) (fun q => by have := LT.out; omega)) (by have := HC.out; simp only; omega) (by have := SZ.out; omega)) (by have := HC.out; omega) HU.out.2.2.2.1 (by omega))
          | (go_at_call 95; (with_reducible refine h4.mono ?_); rintro e x4 ⟨rfl, hr, ht⟩; have S4 : Hid (RdIs x4 pA cA (15 * j + 14, 0) ∧ x4.heap[wr.heap.size]? = some (.cells #[.slice pa np pc, .int .i64 (u0 : Nat), .int .i64 0, .int .i64 0, .string ⟨#[]⟩] 61 (0, 0)) ∧ Turned (fun b => b = pA ∨ b = wr.heap.size) wr x4 ∧ Turned (fun b => b = pA ∨ b = wr.heap.size) x3 x4) := ⟨hr, (ht.block _ (lt_of_block (Go.Mine.heap_setCell_same S3.out.2.1 _)) (fun q => by have := LT.out; omega)).trans (Go.Mine.heap_setCell_same S3.out.2.1 _), (S3.out.2.2.1.set (p := ⟨wr.heap.size, 0, none⟩) (.inr rfl) _).trans ht (fun _ _ q => .inl q), ((Turned.refl (fun b => b = pA ∨ b = wr.heap.size) x3).set (p := ⟨wr.heap.size, 0, none⟩) (.inr rfl) _).trans ht (fun _ _ q => .inl q)⟩; clear hr ht; have f4 := free_of S4.out.2.1 2; have q4 := cell_of S4.out.2.1 2 _ rfl; have y4 := lt_of_block S4.out.2.1; have h5 : Calls Try.prog 82 #[pt pA] (x4.setCell ⟨wr.heap.size, 2, none⟩ (.int .i64 (u4 : Nat))) _ := numNo (u8_r (S4.out.1.turned (Turned.setCell (S := (· = wr.heap.size)) (p := ⟨wr.heap.size, 2, none⟩) rfl _) (fun q => by have := LT.out; omega)) (by have := HC.out; simp only; omega) (by have := SZ.out; omega)) (by have := HS.out; omega))
          | (go_at_call 94; (with_reducible refine (m4 _).mono ?_); rintro e wm ⟨rfl, rfl⟩)
          | (go_at_call 82; (with_reducible refine h5.mono ?_); rintro e x5 ⟨rfl, ht⟩; have E : Hid (Turned (fun b => b = pA ∨ b = pN ∨ b = pB ∨ b = wr.heap.size) wr x5) := (S4.out.2.2.1.set (p := ⟨wr.heap.size, 2, none⟩) (.inr rfl) _).comp ht (fun b hb q => q.elim (fun q => q.elim .inl fun q => .inr (.inr (.inr q))) .inl); clear ht)
          | (go_at_call 93; (with_reducible refine (m5 _).mono ?_); rintro e wm ⟨rfl, rfl⟩))
          exact ⟨rfl, TR.out.comp E.out (fun b hb q => q.elim id fun q => by have := LT.out; omega), .inl ⟨HN.out, rfl⟩⟩
        have HC : Hid (15 * j + 15 ≤ cA.size) := (by omega : 15 * j + 15 ≤ cA.size)
        by_cases e6 : cN.size < 4 * j + 4
        · have HS : Hid (cN.size < 4 * j + 4) := e6
          have HN : Hid (o = none) := by
            have q : progRow cA cE cN cB j la = none := by
              unfold progRow
              rw [if_neg (by omega), hpp]
              dsimp only
              rw [if_pos e6]
            rw [HR.out, ho2, q]; exact rfl
          have m6 : ∀ W, Calls Try.prog 92 #[.int .u32 0, .int .i64 2] W _ := fun W => must32_no 0 2 (by decide) W
          have bu0 : u0 < 4294967296 := by rw [hu0]; exact fld_lt cA (15 * j) 4 (by omega)
          have m0 := fun W => must32_ok u0 W
          have bu1 : u1 < 4294967296 := by rw [hu1]; exact fld_lt cA (15 * j + 4) 4 (by omega)
          have m1 := fun W => must32_ok u1 W
          have bu2 : u2 < 4294967296 := by rw [hu2]; exact fld_lt cA (15 * j + 8) 4 (by omega)
          have m2 := fun W => must32_ok u2 W
          have bu4 : u4 < 65536 := by rw [hu4]; exact fld_lt cA (15 * j + 12) 2 (by omega)
          have m4 := fun W => must16_ok u4 W
          have bu5 : u5 < 256 := by rw [hu5]; exact fld_lt cA (15 * j + 14) 1 (by omega)
          have m5 := fun W => must8_ok u5 W
          clear e0 e1 e2 e4 e5 hpp hnp e6 hu0 hu1 hu2 hu4 hu5 hnx ho2
          have h0 : Calls Try.prog 60 #[pt pA] (wr.alloc (.cells #[.slice none 0 0, .int .i64 0, .int .i64 0, .int .i64 0, .string ⟨#[]⟩] 61)) _ := numOk u0 (15 * j + 4) (u32_r (RD.out.1.turned (Turned.alloc (fun _ => False) wr _) id) (by have := HC.out; simp only; omega) (by have := SZ.out; omega)) (by have := HC.out; omega) HU.out.1 (by omega)
          go_wp2_with (first
          | (go_at_call 60; (with_reducible refine h0.mono ?_); rintro e x0 ⟨rfl, hr, ht⟩; have S0 : Hid (RdIs x0 pA cA (15 * j + 4, 0) ∧ x0.heap[wr.heap.size]? = some (.cells #[.slice none 0 0, .int .i64 0, .int .i64 0, .int .i64 0, .string ⟨#[]⟩] 61 (0, 0)) ∧ Turned (fun b => b = pA ∨ b = wr.heap.size) wr x0) := ⟨hr, (ht.block _ (lt_of_block (heap_alloc_last wr _)) (fun q => by have := LT.out; omega)).trans (heap_alloc_last wr _), (Turned.alloc (fun b => b = pA ∨ b = wr.heap.size) wr _).trans ht (fun _ _ q => .inl q)⟩; clear hr ht; have f0 := free_of S0.out.2.1 1; have q0 := cell_of S0.out.2.1 1 _ rfl; have y0 := lt_of_block S0.out.2.1; have h1 : Calls Try.prog 60 #[pt pA] (x0.setCell ⟨wr.heap.size, 1, none⟩ (.int .i64 (u0 : Nat))) _ := numOk u1 (15 * j + 8) (u32_r (S0.out.1.turned (Turned.setCell (S := (· = wr.heap.size)) (p := ⟨wr.heap.size, 1, none⟩) rfl _) (fun q => by have := LT.out; omega)) (by have := HC.out; simp only; omega) (by have := SZ.out; omega)) (by have := HC.out; omega) HU.out.2.1 (by omega))
          | (go_at_call 92; (with_reducible refine (m0 _).mono ?_); rintro e wm ⟨rfl, rfl⟩)
          | (go_at_call 60; (with_reducible refine h1.mono ?_); rintro e x1 ⟨rfl, hr, ht⟩; have S1 : Hid (RdIs x1 pA cA (15 * j + 8, 0) ∧ x1.heap[wr.heap.size]? = some (.cells #[.slice none 0 0, .int .i64 (u0 : Nat), .int .i64 0, .int .i64 0, .string ⟨#[]⟩] 61 (0, 0)) ∧ Turned (fun b => b = pA ∨ b = wr.heap.size) wr x1) := ⟨hr, (ht.block _ (lt_of_block (Go.Mine.heap_setCell_same S0.out.2.1 _)) (fun q => by have := LT.out; omega)).trans (Go.Mine.heap_setCell_same S0.out.2.1 _), (S0.out.2.2.set (p := ⟨wr.heap.size, 1, none⟩) (.inr rfl) _).trans ht (fun _ _ q => .inl q)⟩; clear hr ht; have h2 : Calls Try.prog 60 #[pt pA] x1 _ := numOk u2 (15 * j + 12) (u32_r S1.out.1 (by have := HC.out; simp only; omega) (by have := SZ.out; omega)) (by have := HC.out; omega) HU.out.2.2.1 (by omega))
          | (go_at_call 92; (with_reducible refine (m1 _).mono ?_); rintro e wm ⟨rfl, rfl⟩)
          | (go_at_call 60; (with_reducible refine h2.mono ?_); rintro e x2 ⟨rfl, hr, ht⟩; have S2 : Hid (RdIs x2 pA cA (15 * j + 12, 0) ∧ x2.heap[wr.heap.size]? = some (.cells #[.slice none 0 0, .int .i64 (u0 : Nat), .int .i64 0, .int .i64 0, .string ⟨#[]⟩] 61 (0, 0)) ∧ Turned (fun b => b = pA ∨ b = wr.heap.size) wr x2) := ⟨hr, (ht.block _ (lt_of_block S1.out.2.1) (fun q => by have := LT.out; omega)).trans S1.out.2.1, S1.out.2.2.trans ht (fun _ _ q => .inl q)⟩; clear hr ht)
          | (go_at_call 92; (with_reducible refine (m2 _).mono ?_); rintro e wm ⟨rfl, rfl⟩)
          | (go_at_call 96; (with_reducible refine (hP _).mono ?_); rintro e x3 ⟨pa, pc, rfl, hs3, ht⟩; have S3 : Hid (RdIs x3 pA cA (15 * j + 12, 0) ∧ x3.heap[wr.heap.size]? = some (.cells #[.slice none 0 0, .int .i64 (u0 : Nat), .int .i64 0, .int .i64 0, .string ⟨#[]⟩] 61 (0, 0)) ∧ Turned (fun b => b = pA ∨ b = wr.heap.size) wr x3 ∧ Sl x3 (fun b => wr.heap.size + 1 ≤ b ∧ b < x3.heap.size) 3 1 (.slice pa np pc) (ncells par) np) := ⟨S2.out.1.turned ht id, (ht.block _ (lt_of_block S2.out.2.1) id).trans S2.out.2.1, S2.out.2.2.trans ht (fun _ _ q => q.elim), (sl_bound hs3).widen fun b q => ⟨by have h1 := lt_of_block S2.out.2.1; have h2 := q.1; omega, q.2⟩⟩; clear hs3 ht; have f3 := free_of S3.out.2.1 0; have q3 := cell_of S3.out.2.1 0 _ rfl; have y3 := lt_of_block S3.out.2.1; have h4 : Calls Try.prog 95 #[pt pA] (x3.setCell ⟨wr.heap.size, 0, none⟩ (.slice pa np pc)) _ := numOk u4 (15 * j + 14) (u16_r (S3.out.1.turned (Turned.setCell (S := (· = wr.heap.size)) (p := ⟨wr.heap.size, 0, none⟩) rfl _) (fun q => by have := LT.out; omega)) (by have := HC.out; simp only; omega) (by have := SZ.out; omega)) (by have := HC.out; omega) HU.out.2.2.2.1 (by omega))
          | (go_at_call 95; (with_reducible refine h4.mono ?_); rintro e x4 ⟨rfl, hr, ht⟩; have S4 : Hid (RdIs x4 pA cA (15 * j + 14, 0) ∧ x4.heap[wr.heap.size]? = some (.cells #[.slice pa np pc, .int .i64 (u0 : Nat), .int .i64 0, .int .i64 0, .string ⟨#[]⟩] 61 (0, 0)) ∧ Turned (fun b => b = pA ∨ b = wr.heap.size) wr x4 ∧ Turned (fun b => b = pA ∨ b = wr.heap.size) x3 x4) := ⟨hr, (ht.block _ (lt_of_block (Go.Mine.heap_setCell_same S3.out.2.1 _)) (fun q => by have := LT.out; omega)).trans (Go.Mine.heap_setCell_same S3.out.2.1 _), (S3.out.2.2.1.set (p := ⟨wr.heap.size, 0, none⟩) (.inr rfl) _).trans ht (fun _ _ q => .inl q), ((Turned.refl (fun b => b = pA ∨ b = wr.heap.size) x3).set (p := ⟨wr.heap.size, 0, none⟩) (.inr rfl) _).trans ht (fun _ _ q => .inl q)⟩; clear hr ht; have f4 := free_of S4.out.2.1 2; have q4 := cell_of S4.out.2.1 2 _ rfl; have y4 := lt_of_block S4.out.2.1; have h5 : Calls Try.prog 82 #[pt pA] (x4.setCell ⟨wr.heap.size, 2, none⟩ (.int .i64 (u4 : Nat))) _ := numOk u5 (15 * j + 15) (u8_r (S4.out.1.turned (Turned.setCell (S := (· = wr.heap.size)) (p := ⟨wr.heap.size, 2, none⟩) rfl _) (fun q => by have := LT.out; omega)) (by have := HC.out; simp only; omega) (by have := SZ.out; omega)) (by have := HC.out; omega) HU.out.2.2.2.2.1 (by omega))
          | (go_at_call 94; (with_reducible refine (m4 _).mono ?_); rintro e wm ⟨rfl, rfl⟩)
          | (go_at_call 82; (with_reducible refine h5.mono ?_); rintro e x5 ⟨rfl, hr, ht⟩; have S5 : Hid (RdIs x5 pA cA (15 * j + 15, 0) ∧ x5.heap[wr.heap.size]? = some (.cells #[.slice pa np pc, .int .i64 (u0 : Nat), .int .i64 (u4 : Nat), .int .i64 0, .string ⟨#[]⟩] 61 (0, 0)) ∧ Turned (fun b => b = pA ∨ b = wr.heap.size) wr x5 ∧ Turned (fun b => b = pA ∨ b = wr.heap.size) x3 x5) := ⟨hr, (ht.block _ (lt_of_block (Go.Mine.heap_setCell_same S4.out.2.1 _)) (fun q => by have := LT.out; omega)).trans (Go.Mine.heap_setCell_same S4.out.2.1 _), (S4.out.2.2.1.set (p := ⟨wr.heap.size, 2, none⟩) (.inr rfl) _).trans ht (fun _ _ q => .inl q), (S4.out.2.2.2.set (p := ⟨wr.heap.size, 2, none⟩) (.inr rfl) _).trans ht (fun _ _ q => .inl q)⟩; clear hr ht; have f5 := free_of S5.out.2.1 3; have q5 := cell_of S5.out.2.1 3 _ rfl; have y5 := lt_of_block S5.out.2.1; have h6 : Calls Try.prog 60 #[pt pN] (x5.setCell ⟨wr.heap.size, 3, none⟩ (.int .i64 (u5 : Nat))) _ := numNo (u32_r (RD.out.2.1.turned (S5.out.2.2.1.set (p := ⟨wr.heap.size, 3, none⟩) (.inr rfl) _) (fun q => by have := LT.out; omega)) (by have := LA.out; simp only; omega) (by have := SZ.out; omega)) (by have := HS.out; omega))
          | (go_at_call 93; (with_reducible refine (m5 _).mono ?_); rintro e wm ⟨rfl, rfl⟩)
          | (go_at_call 60; (with_reducible refine h6.mono ?_); rintro e x6 ⟨rfl, ht⟩; have E : Hid (Turned (fun b => b = pA ∨ b = pN ∨ b = pB ∨ b = wr.heap.size) wr x6) := (S5.out.2.2.1.set (p := ⟨wr.heap.size, 3, none⟩) (.inr rfl) _).comp ht (fun b hb q => q.elim (fun q => q.elim .inl fun q => .inr (.inr (.inr q))) fun q => .inr (.inl q)); clear ht)
          | (go_at_call 92; (with_reducible refine (m6 _).mono ?_); rintro e wm ⟨rfl, rfl⟩))
          exact ⟨rfl, TR.out.comp E.out (fun b hb q => q.elim id fun q => by have := LT.out; omega), .inl ⟨HN.out, rfl⟩⟩
        have HC2 : Hid (4 * j + 4 ≤ cN.size) := (by omega : 4 * j + 4 ≤ cN.size)
        have bnx : nx < 4294967296 := by rw [hnx]; exact fld_lt cN _ 4 (by omega)
        have m6 := fun W => must32_ok nx W
        have bla : la ≤ 4194304 := by have h1 := LA.out; have h2 := SZ.out; omega
        by_cases e7 : nx < la
        · obtain ⟨mm, hmm⟩ : ∃ m : Int, m = (nx : Int) - (la : Int) := ⟨_, rfl⟩
          have HMM : Hid (mm < 0) := (by omega : mm < 0)
          have hmm2 : (nx : Int) - (la : Int) = mm := hmm.symm
          have HN : Hid (o = none) := by
            have q : progRow cA cE cN cB j la = none := by
              unfold progRow
              rw [if_neg (by omega), hpp]
              dsimp only
              rw [if_neg e6, if_pos (by rw [← hnx]; exact e7)]
            rw [HR.out, ho2, q]; exact rfl
          have m7 : ∀ W, Calls Try.prog 97 #[.string ⟨#[]⟩, .int .i64 1] W _ := fun W => mustS_no ⟨#[]⟩ 1 (by decide) W
          have bu0 : u0 < 4294967296 := by rw [hu0]; exact fld_lt cA (15 * j) 4 (by omega)
          have m0 := fun W => must32_ok u0 W
          have bu1 : u1 < 4294967296 := by rw [hu1]; exact fld_lt cA (15 * j + 4) 4 (by omega)
          have m1 := fun W => must32_ok u1 W
          have bu2 : u2 < 4294967296 := by rw [hu2]; exact fld_lt cA (15 * j + 8) 4 (by omega)
          have m2 := fun W => must32_ok u2 W
          have bu4 : u4 < 65536 := by rw [hu4]; exact fld_lt cA (15 * j + 12) 2 (by omega)
          have m4 := fun W => must16_ok u4 W
          have bu5 : u5 < 256 := by rw [hu5]; exact fld_lt cA (15 * j + 14) 1 (by omega)
          have m5 := fun W => must8_ok u5 W
          clear e0 e1 e2 e4 e5 hpp hnp e6 e7 hmm hu0 hu1 hu2 hu4 hu5 hnx ho2
          have h0 : Calls Try.prog 60 #[pt pA] (wr.alloc (.cells #[.slice none 0 0, .int .i64 0, .int .i64 0, .int .i64 0, .string ⟨#[]⟩] 61)) _ := numOk u0 (15 * j + 4) (u32_r (RD.out.1.turned (Turned.alloc (fun _ => False) wr _) id) (by have := HC.out; simp only; omega) (by have := SZ.out; omega)) (by have := HC.out; omega) HU.out.1 (by omega)
          go_wp2_with (first
          | (go_at_call 60; (with_reducible refine h0.mono ?_); rintro e x0 ⟨rfl, hr, ht⟩; have S0 : Hid (RdIs x0 pA cA (15 * j + 4, 0) ∧ x0.heap[wr.heap.size]? = some (.cells #[.slice none 0 0, .int .i64 0, .int .i64 0, .int .i64 0, .string ⟨#[]⟩] 61 (0, 0)) ∧ Turned (fun b => b = pA ∨ b = wr.heap.size) wr x0) := ⟨hr, (ht.block _ (lt_of_block (heap_alloc_last wr _)) (fun q => by have := LT.out; omega)).trans (heap_alloc_last wr _), (Turned.alloc (fun b => b = pA ∨ b = wr.heap.size) wr _).trans ht (fun _ _ q => .inl q)⟩; clear hr ht; have f0 := free_of S0.out.2.1 1; have q0 := cell_of S0.out.2.1 1 _ rfl; have y0 := lt_of_block S0.out.2.1; have h1 : Calls Try.prog 60 #[pt pA] (x0.setCell ⟨wr.heap.size, 1, none⟩ (.int .i64 (u0 : Nat))) _ := numOk u1 (15 * j + 8) (u32_r (S0.out.1.turned (Turned.setCell (S := (· = wr.heap.size)) (p := ⟨wr.heap.size, 1, none⟩) rfl _) (fun q => by have := LT.out; omega)) (by have := HC.out; simp only; omega) (by have := SZ.out; omega)) (by have := HC.out; omega) HU.out.2.1 (by omega))
          | (go_at_call 92; (with_reducible refine (m0 _).mono ?_); rintro e wm ⟨rfl, rfl⟩)
          | (go_at_call 60; (with_reducible refine h1.mono ?_); rintro e x1 ⟨rfl, hr, ht⟩; have S1 : Hid (RdIs x1 pA cA (15 * j + 8, 0) ∧ x1.heap[wr.heap.size]? = some (.cells #[.slice none 0 0, .int .i64 (u0 : Nat), .int .i64 0, .int .i64 0, .string ⟨#[]⟩] 61 (0, 0)) ∧ Turned (fun b => b = pA ∨ b = wr.heap.size) wr x1) := ⟨hr, (ht.block _ (lt_of_block (Go.Mine.heap_setCell_same S0.out.2.1 _)) (fun q => by have := LT.out; omega)).trans (Go.Mine.heap_setCell_same S0.out.2.1 _), (S0.out.2.2.set (p := ⟨wr.heap.size, 1, none⟩) (.inr rfl) _).trans ht (fun _ _ q => .inl q)⟩; clear hr ht; have h2 : Calls Try.prog 60 #[pt pA] x1 _ := numOk u2 (15 * j + 12) (u32_r S1.out.1 (by have := HC.out; simp only; omega) (by have := SZ.out; omega)) (by have := HC.out; omega) HU.out.2.2.1 (by omega))
          | (go_at_call 92; (with_reducible refine (m1 _).mono ?_); rintro e wm ⟨rfl, rfl⟩)
          | (go_at_call 60; (with_reducible refine h2.mono ?_); rintro e x2 ⟨rfl, hr, ht⟩; have S2 : Hid (RdIs x2 pA cA (15 * j + 12, 0) ∧ x2.heap[wr.heap.size]? = some (.cells #[.slice none 0 0, .int .i64 (u0 : Nat), .int .i64 0, .int .i64 0, .string ⟨#[]⟩] 61 (0, 0)) ∧ Turned (fun b => b = pA ∨ b = wr.heap.size) wr x2) := ⟨hr, (ht.block _ (lt_of_block S1.out.2.1) (fun q => by have := LT.out; omega)).trans S1.out.2.1, S1.out.2.2.trans ht (fun _ _ q => .inl q)⟩; clear hr ht)
          | (go_at_call 92; (with_reducible refine (m2 _).mono ?_); rintro e wm ⟨rfl, rfl⟩)
          | (go_at_call 96; (with_reducible refine (hP _).mono ?_); rintro e x3 ⟨pa, pc, rfl, hs3, ht⟩; have S3 : Hid (RdIs x3 pA cA (15 * j + 12, 0) ∧ x3.heap[wr.heap.size]? = some (.cells #[.slice none 0 0, .int .i64 (u0 : Nat), .int .i64 0, .int .i64 0, .string ⟨#[]⟩] 61 (0, 0)) ∧ Turned (fun b => b = pA ∨ b = wr.heap.size) wr x3 ∧ Sl x3 (fun b => wr.heap.size + 1 ≤ b ∧ b < x3.heap.size) 3 1 (.slice pa np pc) (ncells par) np) := ⟨S2.out.1.turned ht id, (ht.block _ (lt_of_block S2.out.2.1) id).trans S2.out.2.1, S2.out.2.2.trans ht (fun _ _ q => q.elim), (sl_bound hs3).widen fun b q => ⟨by have h1 := lt_of_block S2.out.2.1; have h2 := q.1; omega, q.2⟩⟩; clear hs3 ht; have f3 := free_of S3.out.2.1 0; have q3 := cell_of S3.out.2.1 0 _ rfl; have y3 := lt_of_block S3.out.2.1; have h4 : Calls Try.prog 95 #[pt pA] (x3.setCell ⟨wr.heap.size, 0, none⟩ (.slice pa np pc)) _ := numOk u4 (15 * j + 14) (u16_r (S3.out.1.turned (Turned.setCell (S := (· = wr.heap.size)) (p := ⟨wr.heap.size, 0, none⟩) rfl _) (fun q => by have := LT.out; omega)) (by have := HC.out; simp only; omega) (by have := SZ.out; omega)) (by have := HC.out; omega) HU.out.2.2.2.1 (by omega))
          | (go_at_call 95; (with_reducible refine h4.mono ?_); rintro e x4 ⟨rfl, hr, ht⟩; have S4 : Hid (RdIs x4 pA cA (15 * j + 14, 0) ∧ x4.heap[wr.heap.size]? = some (.cells #[.slice pa np pc, .int .i64 (u0 : Nat), .int .i64 0, .int .i64 0, .string ⟨#[]⟩] 61 (0, 0)) ∧ Turned (fun b => b = pA ∨ b = wr.heap.size) wr x4 ∧ Turned (fun b => b = pA ∨ b = wr.heap.size) x3 x4) := ⟨hr, (ht.block _ (lt_of_block (Go.Mine.heap_setCell_same S3.out.2.1 _)) (fun q => by have := LT.out; omega)).trans (Go.Mine.heap_setCell_same S3.out.2.1 _), (S3.out.2.2.1.set (p := ⟨wr.heap.size, 0, none⟩) (.inr rfl) _).trans ht (fun _ _ q => .inl q), ((Turned.refl (fun b => b = pA ∨ b = wr.heap.size) x3).set (p := ⟨wr.heap.size, 0, none⟩) (.inr rfl) _).trans ht (fun _ _ q => .inl q)⟩; clear hr ht; have f4 := free_of S4.out.2.1 2; have q4 := cell_of S4.out.2.1 2 _ rfl; have y4 := lt_of_block S4.out.2.1; have h5 : Calls Try.prog 82 #[pt pA] (x4.setCell ⟨wr.heap.size, 2, none⟩ (.int .i64 (u4 : Nat))) _ := numOk u5 (15 * j + 15) (u8_r (S4.out.1.turned (Turned.setCell (S := (· = wr.heap.size)) (p := ⟨wr.heap.size, 2, none⟩) rfl _) (fun q => by have := LT.out; omega)) (by have := HC.out; simp only; omega) (by have := SZ.out; omega)) (by have := HC.out; omega) HU.out.2.2.2.2.1 (by omega))
          | (go_at_call 94; (with_reducible refine (m4 _).mono ?_); rintro e wm ⟨rfl, rfl⟩)
          | (go_at_call 82; (with_reducible refine h5.mono ?_); rintro e x5 ⟨rfl, hr, ht⟩; have S5 : Hid (RdIs x5 pA cA (15 * j + 15, 0) ∧ x5.heap[wr.heap.size]? = some (.cells #[.slice pa np pc, .int .i64 (u0 : Nat), .int .i64 (u4 : Nat), .int .i64 0, .string ⟨#[]⟩] 61 (0, 0)) ∧ Turned (fun b => b = pA ∨ b = wr.heap.size) wr x5 ∧ Turned (fun b => b = pA ∨ b = wr.heap.size) x3 x5) := ⟨hr, (ht.block _ (lt_of_block (Go.Mine.heap_setCell_same S4.out.2.1 _)) (fun q => by have := LT.out; omega)).trans (Go.Mine.heap_setCell_same S4.out.2.1 _), (S4.out.2.2.1.set (p := ⟨wr.heap.size, 2, none⟩) (.inr rfl) _).trans ht (fun _ _ q => .inl q), (S4.out.2.2.2.set (p := ⟨wr.heap.size, 2, none⟩) (.inr rfl) _).trans ht (fun _ _ q => .inl q)⟩; clear hr ht; have f5 := free_of S5.out.2.1 3; have q5 := cell_of S5.out.2.1 3 _ rfl; have y5 := lt_of_block S5.out.2.1; have h6 : Calls Try.prog 60 #[pt pN] (x5.setCell ⟨wr.heap.size, 3, none⟩ (.int .i64 (u5 : Nat))) _ := numOk nx (4 * j + 4) (u32_r (RD.out.2.1.turned (S5.out.2.2.1.set (p := ⟨wr.heap.size, 3, none⟩) (.inr rfl) _) (fun q => by have := LT.out; omega)) (by have := LA.out; simp only; omega) (by have := SZ.out; omega)) (by have := HC2.out; omega) HU.out.2.2.2.2.2 (by omega))
          | (go_at_call 93; (with_reducible refine (m5 _).mono ?_); rintro e wm ⟨rfl, rfl⟩)
          | (go_at_call 60; (with_reducible refine h6.mono ?_); rintro e x6 ⟨rfl, hr, ht⟩; have S6 : Hid ((RdIs x6 pA cA (15 * j + 15, 0) ∧ RdIs x6 pN cN (4 * j + 4, 0)) ∧ x6.heap[wr.heap.size]? = some (.cells #[.slice pa np pc, .int .i64 (u0 : Nat), .int .i64 (u4 : Nat), .int .i64 (u5 : Nat), .string ⟨#[]⟩] 61 (0, 0)) ∧ Turned (fun b => b = pA ∨ b = pN ∨ b = wr.heap.size) wr x6 ∧ Turned (fun b => b = pA ∨ b = pN ∨ b = wr.heap.size) x3 x6) := ⟨⟨(S5.out.1.turned (Turned.setCell (S := (· = wr.heap.size)) (p := ⟨wr.heap.size, 3, none⟩) rfl _) (fun q => by have := LT.out; omega)).turned ht (fun q => by have := LT.out; omega), hr⟩, (ht.block _ (lt_of_block (Go.Mine.heap_setCell_same S5.out.2.1 _)) (fun q => by have := LT.out; omega)).trans (Go.Mine.heap_setCell_same S5.out.2.1 _), (S5.out.2.2.1.set (p := ⟨wr.heap.size, 3, none⟩) (.inr rfl) _).comp ht (fun b hb q => q.elim (fun q => q.elim .inl fun q => .inr (.inr q)) fun q => .inr (.inl q)), (S5.out.2.2.2.set (p := ⟨wr.heap.size, 3, none⟩) (.inr rfl) _).comp ht (fun b hb q => q.elim (fun q => q.elim .inl fun q => .inr (.inr q)) fun q => .inr (.inl q))⟩; clear hr ht; have h7 : Calls Try.prog 83 #[pt pB, .int .i64 mm] x6 _ := rawNeg mm HMM.out (RD.out.2.2.turned S6.out.2.2.1 (fun q => by have := LT.out; omega)))
          | (go_at_call 92; (with_reducible refine (m6 _).mono ?_); rintro e wm ⟨rfl, rfl⟩)
          | (go_at_call 83; (with_reducible refine h7.mono ?_); rintro e x7 ⟨rfl, ht⟩; have E : Hid (Turned (fun b => b = pA ∨ b = pN ∨ b = pB ∨ b = wr.heap.size) wr x7) := S6.out.2.2.1.comp ht (fun b hb q => q.elim (fun q => q.elim .inl fun q => q.elim (fun q => .inr (.inl q)) fun q => .inr (.inr (.inr q))) fun q => .inr (.inr (.inl q))); clear ht)
          | (go_at_call 97; (with_reducible refine (m7 _).mono ?_); rintro e wm ⟨rfl, rfl⟩))
          exact ⟨rfl, TR.out.comp E.out (fun b hb q => q.elim id fun q => by have := LT.out; omega), .inl ⟨HN.out, rfl⟩⟩
        obtain ⟨dd, hdd⟩ : ∃ d, d = nx - la := ⟨_, rfl⟩
        have hdd2 : (nx : Int) - (la : Int) = (dd : Int) := by omega
        by_cases e8 : cB.size < nx
        · have HDD : Hid (la + dd = nx ∧ cB.size < nx ∧ nx < 4294967296) := (by omega : la + dd = nx ∧ cB.size < nx ∧ nx < 4294967296)
          have HN : Hid (o = none) := by
            have q : progRow cA cE cN cB j la = none := by
              unfold progRow
              rw [if_neg (by omega), hpp]
              dsimp only
              rw [if_neg e6, if_neg (by rw [← hnx]; exact e7), if_pos (by rw [← hnx]; exact e8)]
            rw [HR.out, ho2, q]; exact rfl
          have m7 : ∀ W, Calls Try.prog 97 #[.string ⟨#[]⟩, .int .i64 2] W _ := fun W => mustS_no ⟨#[]⟩ 2 (by decide) W
          have bu0 : u0 < 4294967296 := by rw [hu0]; exact fld_lt cA (15 * j) 4 (by omega)
          have m0 := fun W => must32_ok u0 W
          have bu1 : u1 < 4294967296 := by rw [hu1]; exact fld_lt cA (15 * j + 4) 4 (by omega)
          have m1 := fun W => must32_ok u1 W
          have bu2 : u2 < 4294967296 := by rw [hu2]; exact fld_lt cA (15 * j + 8) 4 (by omega)
          have m2 := fun W => must32_ok u2 W
          have bu4 : u4 < 65536 := by rw [hu4]; exact fld_lt cA (15 * j + 12) 2 (by omega)
          have m4 := fun W => must16_ok u4 W
          have bu5 : u5 < 256 := by rw [hu5]; exact fld_lt cA (15 * j + 14) 1 (by omega)
          have m5 := fun W => must8_ok u5 W
          clear e0 e1 e2 e4 e5 hpp hnp e6 e7 e8 hdd hu0 hu1 hu2 hu4 hu5 hnx ho2
          have h0 : Calls Try.prog 60 #[pt pA] (wr.alloc (.cells #[.slice none 0 0, .int .i64 0, .int .i64 0, .int .i64 0, .string ⟨#[]⟩] 61)) _ := numOk u0 (15 * j + 4) (u32_r (RD.out.1.turned (Turned.alloc (fun _ => False) wr _) id) (by have := HC.out; simp only; omega) (by have := SZ.out; omega)) (by have := HC.out; omega) HU.out.1 (by omega)
          go_wp2_with (first
          | (go_at_call 60; (with_reducible refine h0.mono ?_); rintro e x0 ⟨rfl, hr, ht⟩; have S0 : Hid (RdIs x0 pA cA (15 * j + 4, 0) ∧ x0.heap[wr.heap.size]? = some (.cells #[.slice none 0 0, .int .i64 0, .int .i64 0, .int .i64 0, .string ⟨#[]⟩] 61 (0, 0)) ∧ Turned (fun b => b = pA ∨ b = wr.heap.size) wr x0) := ⟨hr, (ht.block _ (lt_of_block (heap_alloc_last wr _)) (fun q => by have := LT.out; omega)).trans (heap_alloc_last wr _), (Turned.alloc (fun b => b = pA ∨ b = wr.heap.size) wr _).trans ht (fun _ _ q => .inl q)⟩; clear hr ht; have f0 := free_of S0.out.2.1 1; have q0 := cell_of S0.out.2.1 1 _ rfl; have y0 := lt_of_block S0.out.2.1; have h1 : Calls Try.prog 60 #[pt pA] (x0.setCell ⟨wr.heap.size, 1, none⟩ (.int .i64 (u0 : Nat))) _ := numOk u1 (15 * j + 8) (u32_r (S0.out.1.turned (Turned.setCell (S := (· = wr.heap.size)) (p := ⟨wr.heap.size, 1, none⟩) rfl _) (fun q => by have := LT.out; omega)) (by have := HC.out; simp only; omega) (by have := SZ.out; omega)) (by have := HC.out; omega) HU.out.2.1 (by omega))
          | (go_at_call 92; (with_reducible refine (m0 _).mono ?_); rintro e wm ⟨rfl, rfl⟩)
          | (go_at_call 60; (with_reducible refine h1.mono ?_); rintro e x1 ⟨rfl, hr, ht⟩; have S1 : Hid (RdIs x1 pA cA (15 * j + 8, 0) ∧ x1.heap[wr.heap.size]? = some (.cells #[.slice none 0 0, .int .i64 (u0 : Nat), .int .i64 0, .int .i64 0, .string ⟨#[]⟩] 61 (0, 0)) ∧ Turned (fun b => b = pA ∨ b = wr.heap.size) wr x1) := ⟨hr, (ht.block _ (lt_of_block (Go.Mine.heap_setCell_same S0.out.2.1 _)) (fun q => by have := LT.out; omega)).trans (Go.Mine.heap_setCell_same S0.out.2.1 _), (S0.out.2.2.set (p := ⟨wr.heap.size, 1, none⟩) (.inr rfl) _).trans ht (fun _ _ q => .inl q)⟩; clear hr ht; have h2 : Calls Try.prog 60 #[pt pA] x1 _ := numOk u2 (15 * j + 12) (u32_r S1.out.1 (by have := HC.out; simp only; omega) (by have := SZ.out; omega)) (by have := HC.out; omega) HU.out.2.2.1 (by omega))
          | (go_at_call 92; (with_reducible refine (m1 _).mono ?_); rintro e wm ⟨rfl, rfl⟩)
          | (go_at_call 60; (with_reducible refine h2.mono ?_); rintro e x2 ⟨rfl, hr, ht⟩; have S2 : Hid (RdIs x2 pA cA (15 * j + 12, 0) ∧ x2.heap[wr.heap.size]? = some (.cells #[.slice none 0 0, .int .i64 (u0 : Nat), .int .i64 0, .int .i64 0, .string ⟨#[]⟩] 61 (0, 0)) ∧ Turned (fun b => b = pA ∨ b = wr.heap.size) wr x2) := ⟨hr, (ht.block _ (lt_of_block S1.out.2.1) (fun q => by have := LT.out; omega)).trans S1.out.2.1, S1.out.2.2.trans ht (fun _ _ q => .inl q)⟩; clear hr ht)
          | (go_at_call 92; (with_reducible refine (m2 _).mono ?_); rintro e wm ⟨rfl, rfl⟩)
          | (go_at_call 96; (with_reducible refine (hP _).mono ?_); rintro e x3 ⟨pa, pc, rfl, hs3, ht⟩; have S3 : Hid (RdIs x3 pA cA (15 * j + 12, 0) ∧ x3.heap[wr.heap.size]? = some (.cells #[.slice none 0 0, .int .i64 (u0 : Nat), .int .i64 0, .int .i64 0, .string ⟨#[]⟩] 61 (0, 0)) ∧ Turned (fun b => b = pA ∨ b = wr.heap.size) wr x3 ∧ Sl x3 (fun b => wr.heap.size + 1 ≤ b ∧ b < x3.heap.size) 3 1 (.slice pa np pc) (ncells par) np) := ⟨S2.out.1.turned ht id, (ht.block _ (lt_of_block S2.out.2.1) id).trans S2.out.2.1, S2.out.2.2.trans ht (fun _ _ q => q.elim), (sl_bound hs3).widen fun b q => ⟨by have h1 := lt_of_block S2.out.2.1; have h2 := q.1; omega, q.2⟩⟩; clear hs3 ht; have f3 := free_of S3.out.2.1 0; have q3 := cell_of S3.out.2.1 0 _ rfl; have y3 := lt_of_block S3.out.2.1; have h4 : Calls Try.prog 95 #[pt pA] (x3.setCell ⟨wr.heap.size, 0, none⟩ (.slice pa np pc)) _ := numOk u4 (15 * j + 14) (u16_r (S3.out.1.turned (Turned.setCell (S := (· = wr.heap.size)) (p := ⟨wr.heap.size, 0, none⟩) rfl _) (fun q => by have := LT.out; omega)) (by have := HC.out; simp only; omega) (by have := SZ.out; omega)) (by have := HC.out; omega) HU.out.2.2.2.1 (by omega))
          | (go_at_call 95; (with_reducible refine h4.mono ?_); rintro e x4 ⟨rfl, hr, ht⟩; have S4 : Hid (RdIs x4 pA cA (15 * j + 14, 0) ∧ x4.heap[wr.heap.size]? = some (.cells #[.slice pa np pc, .int .i64 (u0 : Nat), .int .i64 0, .int .i64 0, .string ⟨#[]⟩] 61 (0, 0)) ∧ Turned (fun b => b = pA ∨ b = wr.heap.size) wr x4 ∧ Turned (fun b => b = pA ∨ b = wr.heap.size) x3 x4) := ⟨hr, (ht.block _ (lt_of_block (Go.Mine.heap_setCell_same S3.out.2.1 _)) (fun q => by have := LT.out; omega)).trans (Go.Mine.heap_setCell_same S3.out.2.1 _), (S3.out.2.2.1.set (p := ⟨wr.heap.size, 0, none⟩) (.inr rfl) _).trans ht (fun _ _ q => .inl q), ((Turned.refl (fun b => b = pA ∨ b = wr.heap.size) x3).set (p := ⟨wr.heap.size, 0, none⟩) (.inr rfl) _).trans ht (fun _ _ q => .inl q)⟩; clear hr ht; have f4 := free_of S4.out.2.1 2; have q4 := cell_of S4.out.2.1 2 _ rfl; have y4 := lt_of_block S4.out.2.1; have h5 : Calls Try.prog 82 #[pt pA] (x4.setCell ⟨wr.heap.size, 2, none⟩ (.int .i64 (u4 : Nat))) _ := numOk u5 (15 * j + 15) (u8_r (S4.out.1.turned (Turned.setCell (S := (· = wr.heap.size)) (p := ⟨wr.heap.size, 2, none⟩) rfl _) (fun q => by have := LT.out; omega)) (by have := HC.out; simp only; omega) (by have := SZ.out; omega)) (by have := HC.out; omega) HU.out.2.2.2.2.1 (by omega))
          | (go_at_call 94; (with_reducible refine (m4 _).mono ?_); rintro e wm ⟨rfl, rfl⟩)
          | (go_at_call 82; (with_reducible refine h5.mono ?_); rintro e x5 ⟨rfl, hr, ht⟩; have S5 : Hid (RdIs x5 pA cA (15 * j + 15, 0) ∧ x5.heap[wr.heap.size]? = some (.cells #[.slice pa np pc, .int .i64 (u0 : Nat), .int .i64 (u4 : Nat), .int .i64 0, .string ⟨#[]⟩] 61 (0, 0)) ∧ Turned (fun b => b = pA ∨ b = wr.heap.size) wr x5 ∧ Turned (fun b => b = pA ∨ b = wr.heap.size) x3 x5) := ⟨hr, (ht.block _ (lt_of_block (Go.Mine.heap_setCell_same S4.out.2.1 _)) (fun q => by have := LT.out; omega)).trans (Go.Mine.heap_setCell_same S4.out.2.1 _), (S4.out.2.2.1.set (p := ⟨wr.heap.size, 2, none⟩) (.inr rfl) _).trans ht (fun _ _ q => .inl q), (S4.out.2.2.2.set (p := ⟨wr.heap.size, 2, none⟩) (.inr rfl) _).trans ht (fun _ _ q => .inl q)⟩; clear hr ht; have f5 := free_of S5.out.2.1 3; have q5 := cell_of S5.out.2.1 3 _ rfl; have y5 := lt_of_block S5.out.2.1; have h6 : Calls Try.prog 60 #[pt pN] (x5.setCell ⟨wr.heap.size, 3, none⟩ (.int .i64 (u5 : Nat))) _ := numOk nx (4 * j + 4) (u32_r (RD.out.2.1.turned (S5.out.2.2.1.set (p := ⟨wr.heap.size, 3, none⟩) (.inr rfl) _) (fun q => by have := LT.out; omega)) (by have := LA.out; simp only; omega) (by have := SZ.out; omega)) (by have := HC2.out; omega) HU.out.2.2.2.2.2 (by omega))
          | (go_at_call 93; (with_reducible refine (m5 _).mono ?_); rintro e wm ⟨rfl, rfl⟩)
          | (go_at_call 60; (with_reducible refine h6.mono ?_); rintro e x6 ⟨rfl, hr, ht⟩; have S6 : Hid ((RdIs x6 pA cA (15 * j + 15, 0) ∧ RdIs x6 pN cN (4 * j + 4, 0)) ∧ x6.heap[wr.heap.size]? = some (.cells #[.slice pa np pc, .int .i64 (u0 : Nat), .int .i64 (u4 : Nat), .int .i64 (u5 : Nat), .string ⟨#[]⟩] 61 (0, 0)) ∧ Turned (fun b => b = pA ∨ b = pN ∨ b = wr.heap.size) wr x6 ∧ Turned (fun b => b = pA ∨ b = pN ∨ b = wr.heap.size) x3 x6) := ⟨⟨(S5.out.1.turned (Turned.setCell (S := (· = wr.heap.size)) (p := ⟨wr.heap.size, 3, none⟩) rfl _) (fun q => by have := LT.out; omega)).turned ht (fun q => by have := LT.out; omega), hr⟩, (ht.block _ (lt_of_block (Go.Mine.heap_setCell_same S5.out.2.1 _)) (fun q => by have := LT.out; omega)).trans (Go.Mine.heap_setCell_same S5.out.2.1 _), (S5.out.2.2.1.set (p := ⟨wr.heap.size, 3, none⟩) (.inr rfl) _).comp ht (fun b hb q => q.elim (fun q => q.elim .inl fun q => .inr (.inr q)) fun q => .inr (.inl q)), (S5.out.2.2.2.set (p := ⟨wr.heap.size, 3, none⟩) (.inr rfl) _).comp ht (fun b hb q => q.elim (fun q => q.elim .inl fun q => .inr (.inr q)) fun q => .inr (.inl q))⟩; clear hr ht; have h7 : Calls Try.prog 83 #[pt pB, .int .i64 (dd : Nat)] x6 _ := rawNo dd (RD.out.2.2.turned S6.out.2.2.1 (fun q => by have := LT.out; omega)) LA.out.1 (by have := HDD.out; omega) (by have := SZ.out; omega) (by have := HDD.out; omega))
          | (go_at_call 92; (with_reducible refine (m6 _).mono ?_); rintro e wm ⟨rfl, rfl⟩)
          | (go_at_call 83; (with_reducible refine h7.mono ?_); rintro e x7 ⟨rfl, ht⟩; have E : Hid (Turned (fun b => b = pA ∨ b = pN ∨ b = pB ∨ b = wr.heap.size) wr x7) := S6.out.2.2.1.comp ht (fun b hb q => q.elim (fun q => q.elim .inl fun q => q.elim (fun q => .inr (.inl q)) fun q => .inr (.inr (.inr q))) fun q => .inr (.inr (.inl q))); clear ht)
          | (go_at_call 97; (with_reducible refine (m7 _).mono ?_); rintro e wm ⟨rfl, rfl⟩))
          exact ⟨rfl, TR.out.comp E.out (fun b hb q => q.elim id fun q => by have := LT.out; omega), .inl ⟨HN.out, rfl⟩⟩
        have HDD : Hid (la + dd = nx ∧ nx ≤ cB.size) := (by omega : la + dd = nx ∧ nx ≤ cB.size)
        obtain ⟨bt, hbt⟩ : ∃ b, b = cB.extract la (la + dd) := ⟨_, rfl⟩
        have HBT : Hid (bt = cB.extract la (la + dd)) := hbt
        have HO4 : Hid (o2 = progRows cA cE cN cB g2 (j + 1) nx (l ++ [⟨par, u0, u4, u5, bt⟩])) := by
          have q : progRow cA cE cN cB j la = some (⟨par, u0, u4, u5, bt⟩, nx) := by
            unfold progRow
            rw [if_neg (by omega), hpp]
            dsimp only
            rw [if_neg e6, if_neg (by rw [← hnx]; exact e7), if_neg (by rw [← hnx]; exact e8), ← hnx, hbt, HDD.out.1, hu0, hu4, hu5]
          rw [ho2, q]; exact rfl
        have m7 := fun W => mustS_ok bt W
        have M1 : Hid (j + 1 ≤ maxLen ∧ (j + 1) * 64 ≤ 140737488355328) := (by have h1 := HC.out; have h2 := SZ.out; simp only [maxLen]; omega : j + 1 ≤ maxLen ∧ (j + 1) * 64 ≤ 140737488355328)
        have JJ : Hid (j + 1 < 4294967296) := (by have h1 := HC.out; have h2 := SZ.out; omega : j + 1 < 4294967296)
        have hne1 : w.heap.size + 1 ≠ wr.heap.size := by have := LT.out; omega
        have bu0 : u0 < 4294967296 := by rw [hu0]; exact fld_lt cA (15 * j) 4 (by omega)
        have m0 := fun W => must32_ok u0 W
        have bu1 : u1 < 4294967296 := by rw [hu1]; exact fld_lt cA (15 * j + 4) 4 (by omega)
        have m1 := fun W => must32_ok u1 W
        have bu2 : u2 < 4294967296 := by rw [hu2]; exact fld_lt cA (15 * j + 8) 4 (by omega)
        have m2 := fun W => must32_ok u2 W
        have bu4 : u4 < 65536 := by rw [hu4]; exact fld_lt cA (15 * j + 12) 2 (by omega)
        have m4 := fun W => must16_ok u4 W
        have bu5 : u5 < 256 := by rw [hu5]; exact fld_lt cA (15 * j + 14) 1 (by omega)
        have m5 := fun W => must8_ok u5 W
        clear e0 e1 e2 e4 e5 hpp hnp e6 e7 e8 hdd hbt hu0 hu1 hu2 hu4 hu5 hnx ho2
        have h0 : Calls Try.prog 60 #[pt pA] (wr.alloc (.cells #[.slice none 0 0, .int .i64 0, .int .i64 0, .int .i64 0, .string ⟨#[]⟩] 61)) _ := numOk u0 (15 * j + 4) (u32_r (RD.out.1.turned (Turned.alloc (fun _ => False) wr _) id) (by have := HC.out; simp only; omega) (by have := SZ.out; omega)) (by have := HC.out; omega) HU.out.1 (by omega)
        go_wp2_with (first
          | (go_at_call 60; (with_reducible refine h0.mono ?_); rintro e x0 ⟨rfl, hr, ht⟩; have S0 : Hid (RdIs x0 pA cA (15 * j + 4, 0) ∧ x0.heap[wr.heap.size]? = some (.cells #[.slice none 0 0, .int .i64 0, .int .i64 0, .int .i64 0, .string ⟨#[]⟩] 61 (0, 0)) ∧ Turned (fun b => b = pA ∨ b = wr.heap.size) wr x0) := ⟨hr, (ht.block _ (lt_of_block (heap_alloc_last wr _)) (fun q => by have := LT.out; omega)).trans (heap_alloc_last wr _), (Turned.alloc (fun b => b = pA ∨ b = wr.heap.size) wr _).trans ht (fun _ _ q => .inl q)⟩; clear hr ht; have f0 := free_of S0.out.2.1 1; have q0 := cell_of S0.out.2.1 1 _ rfl; have y0 := lt_of_block S0.out.2.1; have h1 : Calls Try.prog 60 #[pt pA] (x0.setCell ⟨wr.heap.size, 1, none⟩ (.int .i64 (u0 : Nat))) _ := numOk u1 (15 * j + 8) (u32_r (S0.out.1.turned (Turned.setCell (S := (· = wr.heap.size)) (p := ⟨wr.heap.size, 1, none⟩) rfl _) (fun q => by have := LT.out; omega)) (by have := HC.out; simp only; omega) (by have := SZ.out; omega)) (by have := HC.out; omega) HU.out.2.1 (by omega))
          | (go_at_call 92; (with_reducible refine (m0 _).mono ?_); rintro e wm ⟨rfl, rfl⟩)
          | (go_at_call 60; (with_reducible refine h1.mono ?_); rintro e x1 ⟨rfl, hr, ht⟩; have S1 : Hid (RdIs x1 pA cA (15 * j + 8, 0) ∧ x1.heap[wr.heap.size]? = some (.cells #[.slice none 0 0, .int .i64 (u0 : Nat), .int .i64 0, .int .i64 0, .string ⟨#[]⟩] 61 (0, 0)) ∧ Turned (fun b => b = pA ∨ b = wr.heap.size) wr x1) := ⟨hr, (ht.block _ (lt_of_block (Go.Mine.heap_setCell_same S0.out.2.1 _)) (fun q => by have := LT.out; omega)).trans (Go.Mine.heap_setCell_same S0.out.2.1 _), (S0.out.2.2.set (p := ⟨wr.heap.size, 1, none⟩) (.inr rfl) _).trans ht (fun _ _ q => .inl q)⟩; clear hr ht; have h2 : Calls Try.prog 60 #[pt pA] x1 _ := numOk u2 (15 * j + 12) (u32_r S1.out.1 (by have := HC.out; simp only; omega) (by have := SZ.out; omega)) (by have := HC.out; omega) HU.out.2.2.1 (by omega))
          | (go_at_call 92; (with_reducible refine (m1 _).mono ?_); rintro e wm ⟨rfl, rfl⟩)
          | (go_at_call 60; (with_reducible refine h2.mono ?_); rintro e x2 ⟨rfl, hr, ht⟩; have S2 : Hid (RdIs x2 pA cA (15 * j + 12, 0) ∧ x2.heap[wr.heap.size]? = some (.cells #[.slice none 0 0, .int .i64 (u0 : Nat), .int .i64 0, .int .i64 0, .string ⟨#[]⟩] 61 (0, 0)) ∧ Turned (fun b => b = pA ∨ b = wr.heap.size) wr x2) := ⟨hr, (ht.block _ (lt_of_block S1.out.2.1) (fun q => by have := LT.out; omega)).trans S1.out.2.1, S1.out.2.2.trans ht (fun _ _ q => .inl q)⟩; clear hr ht)
          | (go_at_call 92; (with_reducible refine (m2 _).mono ?_); rintro e wm ⟨rfl, rfl⟩)
          | (go_at_call 96; (with_reducible refine (hP _).mono ?_); rintro e x3 ⟨pa, pc, rfl, hs3, ht⟩; have S3 : Hid (RdIs x3 pA cA (15 * j + 12, 0) ∧ x3.heap[wr.heap.size]? = some (.cells #[.slice none 0 0, .int .i64 (u0 : Nat), .int .i64 0, .int .i64 0, .string ⟨#[]⟩] 61 (0, 0)) ∧ Turned (fun b => b = pA ∨ b = wr.heap.size) wr x3 ∧ Sl x3 (fun b => wr.heap.size + 1 ≤ b ∧ b < x3.heap.size) 3 1 (.slice pa np pc) (ncells par) np) := ⟨S2.out.1.turned ht id, (ht.block _ (lt_of_block S2.out.2.1) id).trans S2.out.2.1, S2.out.2.2.trans ht (fun _ _ q => q.elim), (sl_bound hs3).widen fun b q => ⟨by have h1 := lt_of_block S2.out.2.1; have h2 := q.1; omega, q.2⟩⟩; clear hs3 ht; have f3 := free_of S3.out.2.1 0; have q3 := cell_of S3.out.2.1 0 _ rfl; have y3 := lt_of_block S3.out.2.1; have h4 : Calls Try.prog 95 #[pt pA] (x3.setCell ⟨wr.heap.size, 0, none⟩ (.slice pa np pc)) _ := numOk u4 (15 * j + 14) (u16_r (S3.out.1.turned (Turned.setCell (S := (· = wr.heap.size)) (p := ⟨wr.heap.size, 0, none⟩) rfl _) (fun q => by have := LT.out; omega)) (by have := HC.out; simp only; omega) (by have := SZ.out; omega)) (by have := HC.out; omega) HU.out.2.2.2.1 (by omega))
          | (go_at_call 95; (with_reducible refine h4.mono ?_); rintro e x4 ⟨rfl, hr, ht⟩; have S4 : Hid (RdIs x4 pA cA (15 * j + 14, 0) ∧ x4.heap[wr.heap.size]? = some (.cells #[.slice pa np pc, .int .i64 (u0 : Nat), .int .i64 0, .int .i64 0, .string ⟨#[]⟩] 61 (0, 0)) ∧ Turned (fun b => b = pA ∨ b = wr.heap.size) wr x4 ∧ Turned (fun b => b = pA ∨ b = wr.heap.size) x3 x4) := ⟨hr, (ht.block _ (lt_of_block (Go.Mine.heap_setCell_same S3.out.2.1 _)) (fun q => by have := LT.out; omega)).trans (Go.Mine.heap_setCell_same S3.out.2.1 _), (S3.out.2.2.1.set (p := ⟨wr.heap.size, 0, none⟩) (.inr rfl) _).trans ht (fun _ _ q => .inl q), ((Turned.refl (fun b => b = pA ∨ b = wr.heap.size) x3).set (p := ⟨wr.heap.size, 0, none⟩) (.inr rfl) _).trans ht (fun _ _ q => .inl q)⟩; clear hr ht; have f4 := free_of S4.out.2.1 2; have q4 := cell_of S4.out.2.1 2 _ rfl; have y4 := lt_of_block S4.out.2.1; have h5 : Calls Try.prog 82 #[pt pA] (x4.setCell ⟨wr.heap.size, 2, none⟩ (.int .i64 (u4 : Nat))) _ := numOk u5 (15 * j + 15) (u8_r (S4.out.1.turned (Turned.setCell (S := (· = wr.heap.size)) (p := ⟨wr.heap.size, 2, none⟩) rfl _) (fun q => by have := LT.out; omega)) (by have := HC.out; simp only; omega) (by have := SZ.out; omega)) (by have := HC.out; omega) HU.out.2.2.2.2.1 (by omega))
          | (go_at_call 94; (with_reducible refine (m4 _).mono ?_); rintro e wm ⟨rfl, rfl⟩)
          | (go_at_call 82; (with_reducible refine h5.mono ?_); rintro e x5 ⟨rfl, hr, ht⟩; have S5 : Hid (RdIs x5 pA cA (15 * j + 15, 0) ∧ x5.heap[wr.heap.size]? = some (.cells #[.slice pa np pc, .int .i64 (u0 : Nat), .int .i64 (u4 : Nat), .int .i64 0, .string ⟨#[]⟩] 61 (0, 0)) ∧ Turned (fun b => b = pA ∨ b = wr.heap.size) wr x5 ∧ Turned (fun b => b = pA ∨ b = wr.heap.size) x3 x5) := ⟨hr, (ht.block _ (lt_of_block (Go.Mine.heap_setCell_same S4.out.2.1 _)) (fun q => by have := LT.out; omega)).trans (Go.Mine.heap_setCell_same S4.out.2.1 _), (S4.out.2.2.1.set (p := ⟨wr.heap.size, 2, none⟩) (.inr rfl) _).trans ht (fun _ _ q => .inl q), (S4.out.2.2.2.set (p := ⟨wr.heap.size, 2, none⟩) (.inr rfl) _).trans ht (fun _ _ q => .inl q)⟩; clear hr ht; have f5 := free_of S5.out.2.1 3; have q5 := cell_of S5.out.2.1 3 _ rfl; have y5 := lt_of_block S5.out.2.1; have h6 : Calls Try.prog 60 #[pt pN] (x5.setCell ⟨wr.heap.size, 3, none⟩ (.int .i64 (u5 : Nat))) _ := numOk nx (4 * j + 4) (u32_r (RD.out.2.1.turned (S5.out.2.2.1.set (p := ⟨wr.heap.size, 3, none⟩) (.inr rfl) _) (fun q => by have := LT.out; omega)) (by have := LA.out; simp only; omega) (by have := SZ.out; omega)) (by have := HC2.out; omega) HU.out.2.2.2.2.2 (by omega))
          | (go_at_call 93; (with_reducible refine (m5 _).mono ?_); rintro e wm ⟨rfl, rfl⟩)
          | (go_at_call 60; (with_reducible refine h6.mono ?_); rintro e x6 ⟨rfl, hr, ht⟩; have S6 : Hid ((RdIs x6 pA cA (15 * j + 15, 0) ∧ RdIs x6 pN cN (4 * j + 4, 0)) ∧ x6.heap[wr.heap.size]? = some (.cells #[.slice pa np pc, .int .i64 (u0 : Nat), .int .i64 (u4 : Nat), .int .i64 (u5 : Nat), .string ⟨#[]⟩] 61 (0, 0)) ∧ Turned (fun b => b = pA ∨ b = pN ∨ b = wr.heap.size) wr x6 ∧ Turned (fun b => b = pA ∨ b = pN ∨ b = wr.heap.size) x3 x6) := ⟨⟨(S5.out.1.turned (Turned.setCell (S := (· = wr.heap.size)) (p := ⟨wr.heap.size, 3, none⟩) rfl _) (fun q => by have := LT.out; omega)).turned ht (fun q => by have := LT.out; omega), hr⟩, (ht.block _ (lt_of_block (Go.Mine.heap_setCell_same S5.out.2.1 _)) (fun q => by have := LT.out; omega)).trans (Go.Mine.heap_setCell_same S5.out.2.1 _), (S5.out.2.2.1.set (p := ⟨wr.heap.size, 3, none⟩) (.inr rfl) _).comp ht (fun b hb q => q.elim (fun q => q.elim .inl fun q => .inr (.inr q)) fun q => .inr (.inl q)), (S5.out.2.2.2.set (p := ⟨wr.heap.size, 3, none⟩) (.inr rfl) _).comp ht (fun b hb q => q.elim (fun q => q.elim .inl fun q => .inr (.inr q)) fun q => .inr (.inl q))⟩; clear hr ht; have h7 : Calls Try.prog 83 #[pt pB, .int .i64 (dd : Nat)] x6 _ := rawOk dd bt (RD.out.2.2.turned S6.out.2.2.1 (fun q => by have := LT.out; omega)) (by have := HDD.out; omega) (by have := SZ.out; omega) HBT.out)
          | (go_at_call 92; (with_reducible refine (m6 _).mono ?_); rintro e wm ⟨rfl, rfl⟩)
          | (go_at_call 83; (with_reducible refine h7.mono ?_); rintro e x7 ⟨rfl, hr, ht⟩; have S7 : Hid ((RdIs x7 pA cA (15 * j + 15, 0) ∧ RdIs x7 pN cN (4 * j + 4, 0) ∧ RdIs x7 pB cB (la + dd, 0)) ∧ x7.heap[wr.heap.size]? = some (.cells #[.slice pa np pc, .int .i64 (u0 : Nat), .int .i64 (u4 : Nat), .int .i64 (u5 : Nat), .string ⟨#[]⟩] 61 (0, 0)) ∧ Turned (fun b => b = pA ∨ b = pN ∨ b = pB ∨ b = wr.heap.size) wr x7 ∧ Turned (fun b => b = pA ∨ b = pN ∨ b = pB ∨ b = wr.heap.size) x3 x7 ∧ x7.heap[w.heap.size + 1]? = some (.cells #[.int .i64 (v0 : Nat), .int .i64 (v2 : Nat), .int .i64 (v3 : Nat), .int .i64 (v4 : Nat), .int .u32 (v5 : Nat), .slice ra j rc] 40 (0, 0))) := (by have tt := S6.out.2.2.1.comp ht (T := (fun b => b = pA ∨ b = pN ∨ b = pB ∨ b = wr.heap.size)) (fun b hb q => q.elim (fun q => q.elim .inl fun q => q.elim (fun q => .inr (.inl q)) fun q => .inr (.inr (.inr q))) fun q => .inr (.inr (.inl q))); exact ⟨⟨S6.out.1.1.turned ht (fun q => by have := LT.out; omega), S6.out.1.2.turned ht (fun q => by have := LT.out; omega), hr⟩, (ht.block _ (lt_of_block S6.out.2.1) (fun q => by have := LT.out; omega)).trans S6.out.2.1, tt, S6.out.2.2.2.comp ht (fun b hb q => q.elim (fun q => q.elim .inl fun q => q.elim (fun q => .inr (.inl q)) fun q => .inr (.inr (.inr q))) fun q => .inr (.inr (.inl q))), (tt.block _ (lt_of_block BB.out.2) (fun q => by have := LT.out; omega)).trans BB.out.2⟩); clear hr ht; have d0 := cell_of S7.out.2.1 0 _ rfl; have d1 := cell_of S7.out.2.1 1 _ rfl; have d2 := cell_of S7.out.2.1 2 _ rfl; have d3 := cell_of S7.out.2.1 3 _ rfl; have d4 := cell_of S7.out.2.1 4 _ rfl; have g4 := free_of S7.out.2.1 4; have y7 := lt_of_block S7.out.2.1; have e5 := cell_of S7.out.2.2.2.2 5 _ rfl; have k5 := free_of S7.out.2.2.2.2 5; have z7 := lt_of_block S7.out.2.2.2.2; have SRC : Hid (Src Try.prog 5 38 (.slice (some ⟨x7.heap.size, 0, none⟩) 1 1) 1 [.slice pa np pc, .int .i64 (u0 : Nat), .int .i64 (u4 : Nat), .int .i64 (u5 : Nat), .string bt] ((x7.setCell ⟨wr.heap.size, 4, none⟩ (.string bt)).alloc (.cells #[.slice pa np pc, .int .i64 (u0 : Nat), .int .i64 (u4 : Nat), .int .i64 (u5 : Nat), .string bt] 61))) := (by have q := src_row (x7.setCell ⟨wr.heap.size, 4, none⟩ (.string bt)) (.slice pa np pc) (u0 : Nat) (u4 : Nat) (u5 : Nat) bt rfl; rw [setCell_size] at q; exact q))
          | (go_at_call 97; (with_reducible refine (m7 _).mono ?_); rintro e wm ⟨rfl, rfl⟩)
          | (at_builtin; refine wpList_append rfl (.tmp 126) (.tmp 128) 38 38 rfl (((SL.out.2.1.turned S7.out.2.2.1 (fun b q z => by have h1 := RQ.out.1 b (.inl q); omega)).turned (Turned.setCell (S := (· = wr.heap.size)) (p := ⟨wr.heap.size, 4, none⟩) rfl (.string bt)) (fun b q z => by have h1 := RQ.out.1 b (.inl q); omega)).turned (Turned.alloc (fun _ => False) _ (.cells #[.slice pa np pc, .int .i64 (u0 : Nat), .int .i64 (u4 : Nat), .int .i64 (u5 : Nat), .string bt] 61)) (fun _ _ q => q)) Try.underlying38 info61 rfl (by decide) rfl (.slice (some ⟨x7.heap.size, 0, none⟩) 1 1) rfl SRC.out M1.out.1 M1.out.2 ?_; intro w9 x9 q9 t9; obtain ⟨ra9, rc9, rfl, -, -⟩ := q9.value; have A9 : Hid (Sl x9 (fun b => (R b ∨ x7.heap.size ≤ b) ∧ b < x9.heap.size) 61 5 (.slice ra9 (j + 1) rc9) (rowCs l vs ++ [.slice pa np pc, .int .i64 (u0 : Nat), .int .i64 (u4 : Nat), .int .i64 (u5 : Nat), .string bt]) (j + 1) ∧ Turned (fun b => R b ∨ b = wr.heap.size) x7 x9 ∧ x9.heap[w.heap.size + 1]? = some (.cells #[.int .i64 (v0 : Nat), .int .i64 (v2 : Nat), .int .i64 (v3 : Nat), .int .i64 (v4 : Nat), .int .u32 (v5 : Nat), .slice ra j rc] 40 (0, 0))) := (by have tt := (((Turned.refl (fun b => R b ∨ b = wr.heap.size) x7).set (p := ⟨wr.heap.size, 4, none⟩) (.inr rfl) (.string bt)).new (.cells #[.slice pa np pc, .int .i64 (u0 : Nat), .int .i64 (u4 : Nat), .int .i64 (u5 : Nat), .string bt] 61)).trans t9 (fun _ _ q => .inl q); exact ⟨(sl_bound q9).widen fun b q => ⟨q.1.elim .inl fun q => .inr (by simp at q; omega), q.2⟩, tt, (tt.block _ (lt_of_block S7.out.2.2.2.2) (fun q => by have h1 := LT.out; have h2 := RQ.out.1 (w.heap.size + 1); rcases q with q | q; have h3 := h2 (.inl q); omega; omega)).trans S7.out.2.2.2.2⟩); clear q9 t9; have k9 := free_of A9.out.2.2 5; have c9 := cell_of A9.out.2.2 5 _ rfl; have z9 := lt_of_block A9.out.2.2))
        go_roundg g2
        case measure => omega
        case rel =>
          have od := LT.out
          have l3 := lt_of_block S3.out.2.1
          have s37 := S7.out.2.2.2.1.size
          have s79 := A9.out.2.1.size
          have TE7 : Turned (fun b => R b ∨ b = wr.heap.size ∨ b = w.heap.size + 1) x7 (x9.setCell ⟨w.heap.size + 1, 5, none⟩ (.slice ra9 (j + 1) rc9)) := (A9.out.2.1.mono fun b _ q => q.elim .inl fun q => .inr (.inl q)).set (p := ⟨w.heap.size + 1, 5, none⟩) (.inr (.inr rfl)) _
          have put : ∀ b, (b = pA ∨ b = pN ∨ b = pB ∨ b = wr.heap.size) ∨ (R b ∨ b = wr.heap.size ∨ b = w.heap.size + 1) → (R b ∨ b = w.heap.size + 1 ∨ b = pA ∨ b = pN ∨ b = pB ∨ b = wr.heap.size) := fun b q => by
            rcases q with (q | q | q | q) | (q | q | q) <;> first | exact .inl q | exact .inr (.inl q) | exact .inr (.inr (.inl q)) | exact .inr (.inr (.inr (.inl q))) | exact .inr (.inr (.inr (.inr (.inl q)))) | exact .inr (.inr (.inr (.inr (.inr q))))
          have TE : Turned (fun b => R b ∨ b = w.heap.size + 1 ∨ b = pA ∨ b = pN ∨ b = pB ∨ b = wr.heap.size) wr (x9.setCell ⟨w.heap.size + 1, 5, none⟩ (.slice ra9 (j + 1) rc9)) := S7.out.2.2.1.comp TE7 fun b _ q => put b q
          have T3E : Turned (fun b => R b ∨ b = w.heap.size + 1 ∨ b = pA ∨ b = pN ∨ b = pB ∨ b = wr.heap.size) x3 (x9.setCell ⟨w.heap.size + 1, 5, none⟩ (.slice ra9 (j + 1) rc9)) := S7.out.2.2.2.1.comp TE7 fun b _ q => put b q
          have nR : ∀ b, R b → w.heap.size + 2 ≤ b ∧ b < wr.heap.size ∧ b ≠ pA ∧ b ≠ pN ∧ b ≠ pB := fun b q => RQ.out.1 b (.inl q)
          have nQ : ∀ b, Q b → w.heap.size + 2 ≤ b ∧ b < wr.heap.size ∧ b ≠ pA ∧ b ≠ pN ∧ b ≠ pB := fun b q => RQ.out.1 b (.inr q)
          have nS : ∀ b, ¬ R b → b ≠ w.heap.size + 1 → b ≠ pA → b ≠ pN → b ≠ pB → b ≠ wr.heap.size → ¬ (R b ∨ b = w.heap.size + 1 ∨ b = pA ∨ b = pN ∨ b = pB ∨ b = wr.heap.size) := fun b h1 h2 h3 h4 h5 h6 q => by
            rcases q with q | q | q | q | q | q
            · exact h1 q
            · exact h2 q
            · exact h3 q
            · exact h4 q
            · exact h5 q
            · exact h6 q
          have n7 : ∀ b, ¬ R b → b ≠ wr.heap.size → b ≠ w.heap.size + 1 → ¬ (R b ∨ b = wr.heap.size ∨ b = w.heap.size + 1) := fun b h1 h2 h3 q => by
            rcases q with q | q | q
            · exact h1 q
            · exact h2 q
            · exact h3 q
          have hlen : (l ++ [(⟨par, u0, u4, u5, bt⟩ : Rw)]).length = j + 1 := by rw [List.length_append, G.out.2]; rfl
          refine ⟨j + 1, nx, l ++ [⟨par, u0, u4, u5, bt⟩], .slice ra9 (j + 1) rc9, fun b => (R b ∨ x7.heap.size ≤ b) ∧ b < x9.heap.size, fun b => Q b ∨ (wr.heap.size + 1 ≤ b ∧ b < x3.heap.size), ⟨by have := G.out; omega, ?_, rfl, hlen⟩, ⟨HDD.out.2, by have := HC.out; omega, by have := HC2.out; omega⟩, HO4.out, ?_, Go.Mine.heap_setCell_same A9.out.2.2 _, ?_, ?_, ?_, ⟨vs ++ [.slice pa np pc], by rw [List.length_append, List.length_append, SL.out.1]; rfl, ?_, ?_⟩, ?_, ?_, ?_⟩
          · have := JJ.out
            first
              | rfl
              | (congr 1; omega)
              | (simp [IntKind.wrap, IntKind.bits, IntKind.signed] <;> omega)
          · exact (TE.block _ (lt_of_block BB.out.1) (nS _ (fun q => by have := nR _ q; omega) (by omega) (by omega) (by omega) (by omega) (by omega))).trans BB.out.1
          · have q := S7.out.1.1.turned TE7 (n7 _ (fun q => by have := nR _ q; omega) (by omega) (by omega))
            rw [show 15 * (j + 1) = 15 * j + 15 by omega]; exact q
          · have q := S7.out.1.2.1.turned TE7 (n7 _ (fun q => by have := nR _ q; omega) (by omega) (by omega))
            rw [show 4 * (j + 1) = 4 * j + 4 by omega]; exact q
          · have q := S7.out.1.2.2.turned TE7 (n7 _ (fun q => by have := nR _ q; omega) (by omega) (by omega))
            rw [HDD.out.1] at q; exact q
          · rw [rowCs_snoc l vs _ _ SL.out.1, hlen]
            exact A9.out.1.turned (Turned.setCell (S := (· = w.heap.size + 1)) (p := ⟨w.heap.size + 1, 5, none⟩) rfl _) (fun b q z => by
              rcases q.1 with q1 | q1
              · have := nR b q1; omega
              · omega)
          · intro i r u hr hu
            by_cases hi : i < l.length
            · rw [List.getElem?_append_left hi] at hr
              rw [List.getElem?_append_left (by rw [SL.out.1]; exact hi)] at hu
              exact ((SL.out.2.2 i r u hr hu).turned TE (fun b q => nS b (fun z => RQ.out.2 b z q) (by have := nQ b q; omega) (by have := nQ b q; omega) (by have := nQ b q; omega) (by have := nQ b q; omega) (by have := nQ b q; omega))).widen fun b q => .inl q
            · have hi2 := (List.getElem?_eq_some_iff.1 hr).1
              rw [hlen, ← G.out.2] at hi2
              obtain rfl : i = l.length := by omega
              rw [List.getElem?_append_right (Nat.le_refl _), Nat.sub_self] at hr
              rw [List.getElem?_append_right (by rw [SL.out.1]; exact Nat.le_refl _), SL.out.1, Nat.sub_self] at hu
              obtain rfl := Option.some.inj hr
              obtain rfl := Option.some.inj hu
              show Sl _ _ 3 1 (.slice pa np pc) (ncells par) par.length
              rw [← HNP.out]
              exact (S3.out.2.2.2.turned T3E (fun b q => nS b (fun z => by have := nR b z; omega) (by omega) (by omega) (by omega) (by omega) (by omega))).widen fun b q => .inr q
          · intro b q
            have e9 : (x9.setCell ⟨w.heap.size + 1, 5, none⟩ (.slice ra9 (j + 1) rc9)).heap.size = x9.heap.size := setCell_size _ _ _
            rw [e9]
            rcases q with ⟨q | q, q2⟩ | q | q
            · have := nR b q; omega
            · omega
            · have := nQ b q; omega
            · omega
          · intro b q z
            rcases q with ⟨q | q, q2⟩
            · rcases z with z | z
              · exact RQ.out.2 b q z
              · have := nR b q; omega
            · rcases z with z | z
              · have := nQ b z; omega
              · omega
          · exact TR.out.comp TE fun b hb q => q.elim id fun q => by
              rcases q with q | q | q | q | q | q
              · have := nR b q; omega
              all_goals omega
end Go.Proofs.Ytfeljngmidhajaa

namespace Go.Proofs.Ytfeljngmidhajaa
open Go.RowKit Go.Mine

def ParOk (l : List Int) : Prop := (∀ x ∈ l, I64 x) ∧ l.length ≤ 17
def RdOk (r : Rw) : Prop := RwOk r ∧ ParOk r.par

theorem parLoop_ok (s : ByteArray) : ∀ (k : Nat) (l : List Int) (st : Nat × Nat) (l' : List Int), parLoop s k l st = some l' → (∀ x ∈ l, I64 x) → l.length + k ≤ 17 → ParOk l'
  | 0, _, _, _, h, _, _ => by simp [parLoop] at h
  | k + 1, l, st, l', h, hl, hk => by
    have hq := rdNum_lt s st 4
    have hn : ∀ x ∈ l ++ [(((rdNum s st 4).1 % 2147483648 : Nat) : Int)], I64 x := fun x hx => by
      rcases List.mem_append.1 hx with hx | hx
      · exact hl x hx
      · rw [List.mem_singleton] at hx
        subst hx
        unfold I64
        omega
    have hlen : (l ++ [(((rdNum s st 4).1 % 2147483648 : Nat) : Int)]).length = l.length + 1 := by rw [List.length_append]; rfl
    rw [parLoop] at h
    split at h
    · simp at h
    · split at h
      · obtain rfl := Option.some.inj h
        exact ⟨hn, by omega⟩
      · exact parLoop_ok s k _ _ l' h hn (by omega)

theorem progPar_ok (f s : Nat) (E : ByteArray) (l : List Int) (hf : f < 4294967296) (h : progPar f s E = some l) : ParOk l := by
  unfold progPar at h
  have h0 : ∀ x ∈ (if f = 4294967295 then ([] : List Int) else [(f : Int)]), I64 x := fun x hx => by
    split at hx
    · simp at hx
    · rw [List.mem_singleton] at hx; subst hx; unfold I64; omega
  have h1 : (if f = 4294967295 then ([] : List Int) else [(f : Int)]).length ≤ 1 := by split <;> simp
  generalize (if f = 4294967295 then ([] : List Int) else [(f : Int)]) = p at *
  split at h
  · obtain rfl := Option.some.inj h
    exact ⟨h0, by omega⟩
  · split at h
    · obtain rfl := Option.some.inj h
      refine ⟨fun x hx => ?_, by rw [List.length_append]; simp; omega⟩
      rcases List.mem_append.1 hx with hx | hx
      · exact h0 x hx
      · rw [List.mem_singleton] at hx; subst hx; unfold I64; omega
    · split at h
      · simp at h
      · exact parLoop_ok _ _ _ _ _ h h0 (by omega)

theorem progRow_ok (cA cE cN cB : ByteArray) (j la : Nat) (r : Rw) (nx : Nat) (hB : cB.size ≤ 4194304) (h : progRow cA cE cN cB j la = some (r, nx)) : RdOk r ∧ 15 * j + 15 ≤ cA.size := by
  unfold progRow at h
  split at h
  · simp at h
  · rename_i hA
    have k0 := fld_lt cA (15 * j) 4 (by omega)
    have k1 := fld_lt cA (15 * j + 4) 4 (by omega)
    have k2 := fld_lt cA (15 * j + 12) 2 (by omega)
    have k3 := fld_lt cA (15 * j + 14) 1 (by omega)
    split at h
    · simp at h
    · rename_i par hp
      have hpo := progPar_ok _ _ _ _ k1 hp
      split at h
      · simp at h
      · split at h
        · simp at h
        · split at h
          · simp at h
          · obtain ⟨rfl, rfl⟩ := Prod.mk.inj (Option.some.inj h)
            refine ⟨⟨⟨?_, ?_, ?_, ?_⟩, hpo⟩, by omega⟩
            · simp only [I64]; omega
            · simp only [I64]; omega
            · simp only [I64]; omega
            · simp only [ByteArray.size_extract]; omega

theorem progRows_ok (cA cE cN cB : ByteArray) (hB : cB.size ≤ 4194304) : ∀ (k j la : Nat) (l l' : List Rw), progRows cA cE cN cB k j la l = some l' → (∀ r ∈ l, RdOk r) → l.length = j → 15 * j ≤ cA.size → (∀ r ∈ l', RdOk r) ∧ 15 * l'.length ≤ cA.size
  | 0, j, la, l, l', h, hl, hj, hA => by
    rw [progRows] at h
    obtain rfl := Option.some.inj h
    exact ⟨hl, by omega⟩
  | k + 1, j, la, l, l', h, hl, hj, hA => by
    rw [progRows] at h
    split at h
    · simp at h
    · rename_i r nx hr
      obtain ⟨h1, h2⟩ := progRow_ok cA cE cN cB j la r nx hB hr
      refine progRows_ok cA cE cN cB hB k (j + 1) nx (l ++ [r]) l' h (fun x hx => ?_) (by rw [List.length_append, hj]; rfl) (by omega)
      rcases List.mem_append.1 hx with hx | hx
      · exact hl x hx
      · rw [List.mem_singleton] at hx; subst hx; exact h1

theorem progR_ok (l : List Ch) (g : Gr) (hz : ∀ id, (datC l id).size ≤ 4194304) (h : progR l = some g) : GrOk g ∧ (∀ r ∈ g.rows, RdOk r) ∧ g.rows.length ≤ 279620 := by
  unfold progR at h
  split at h
  · simp at h
  · obtain ⟨rows, hr, rfl⟩ := Option.map_eq_some_iff.1 h
    have k0 := fld_lt (datC l 1) 0 4 (by omega)
    have k2 := fld_lt (datC l 1) 8 1 (by omega)
    have k3 := fld_lt (datC l 1) 9 1 (by omega)
    have k4 := fld_lt (datC l 1) 10 2 (by omega)
    have k5 := fld_lt (datC l 1) 12 4 (by omega)
    have hq := progRows_ok _ _ _ _ (hz 5) _ _ _ _ _ hr (by simp) rfl (Nat.zero_le _)
    have h2 := hz 2
    refine ⟨⟨?_, ?_, ?_, ?_, k5⟩, hq.1, by have := hq.2; simp only; omega⟩
    all_goals (simp only [I64]; omega)

theorem ints_of_sl {w : World} {Q : Nat → Prop} {v : Value} {l : List Int} (h : Sl w Q 3 1 v (ncells l) l.length) (hl : ∀ x ∈ l, I64 x) : ∃ a c, v = .slice a l.length c ∧ Ints w Q a c l := by
  obtain ⟨a, c, hv, h1, h2⟩ := h.value
  refine ⟨a, c, hv, h1, h2, hl, fun hn => ?_⟩
  obtain ⟨g, off, cap, hv2, hg, h3, h4, hc, -, hlt⟩ := h.opens hn
  rw [hv] at hv2
  injection hv2 with e1 e2 e3
  refine ⟨g, off, e1, hg, hlt, fun i x hx => ?_⟩
  have hi := (List.getElem?_eq_some_iff.1 hx).1
  rw [hc i (by omega)]
  simp [ncells, hx]

theorem rowCs_get : ∀ (l : List Rw) (vs : List Value) (i : Nat) (r : Rw) (v : Value), vs.length = l.length → l[i]? = some r → vs[i]? = some v →
    (rowCs l vs)[i * 5]? = some v ∧ (rowCs l vs)[i * 5 + 1]? = some (.int .i64 r.tree) ∧ (rowCs l vs)[i * 5 + 2]? = some (.int .i64 r.gen) ∧ (rowCs l vs)[i * 5 + 3]? = some (.int .i64 r.state) ∧ (rowCs l vs)[i * 5 + 4]? = some (.string r.bits)
  | [], _, _, _, _, _, h, _ => by simp at h
  | x :: l, y :: vs, 0, r, v, h, h1, h2 => by
    obtain rfl := Option.some.inj h1
    obtain rfl := Option.some.inj h2
    simp [rowCs]
  | x :: l, y :: vs, i + 1, r, v, h, h1, h2 => by
    have ih := rowCs_get l vs i r v (by simpa using h) (by simpa using h1) (by simpa using h2)
    have e : ∀ k, (rowCs (x :: l) (y :: vs))[(i + 1) * 5 + k]? = (rowCs l vs)[i * 5 + k]? := fun k => by
      rw [show (i + 1) * 5 + k = i * 5 + k + 5 by omega]
      simp [rowCs]
    refine ⟨?_, ?_, ?_, ?_, ?_⟩
    · have := e 0; rw [Nat.add_zero, Nat.add_zero] at this; rw [this]; exact ih.1
    · rw [e 1]; exact ih.2.1
    · rw [e 2]; exact ih.2.2.1
    · rw [e 3]; exact ih.2.2.2.1
    · rw [e 4]; exact ih.2.2.2.2

theorem NewRows.rows {w : World} {S : Nat → Prop} {a : Option Addr} {c : Nat} {l : List Rw} (h : NewRows w S S (.slice a l.length c) l) (hok : ∀ r ∈ l, RdOk r) : RwIs w S a c l := by
  obtain ⟨vs, hvs, hs, hl⟩ := h
  obtain ⟨a2, c2, hv, h1, h2⟩ := hs.value
  injection hv with e1 e2 e3
  subst e1
  subst e3
  refine ⟨h1, h2, fun r hr => (hok r hr).1, fun hn => ?_⟩
  obtain ⟨g, off, cap, hv2, hg, h3, h4, hc, -, hlt⟩ := hs.opens hn
  injection hv2 with e1 e2 e3
  refine ⟨g, off, e1, hg, hlt, fun i r hr => ?_⟩
  have hi := (List.getElem?_eq_some_iff.1 hr).1
  obtain ⟨v, hvi⟩ : ∃ v, vs[i]? = some v := ⟨_, List.getElem?_eq_getElem (by omega)⟩
  obtain ⟨k0, k1, k2, k3, k4⟩ := rowCs_get l vs i r v hvs hr hvi
  obtain ⟨pa, pc, rfl, hints⟩ := ints_of_sl (hl i r v hr hvi) (hok r (List.mem_of_getElem? hr)).2.1
  have at_ : ∀ k, k < 5 → w.cell? ⟨g, off + i * 5 + k, none⟩ = (rowCs l vs)[i * 5 + k]? := fun k hk => by
    rw [← hc (i * 5 + k) (by omega), Nat.add_assoc]
  exact ⟨pa, pc, hints, by have := at_ 0 (by decide); rw [Nat.add_zero, Nat.add_zero] at this; rw [this]; exact k0, (at_ 1 (by decide)).trans k1, (at_ 2 (by decide)).trans k2, (at_ 3 (by decide)).trans k3, (at_ 4 (by decide)).trans k4⟩
end Go.Proofs.Ytfeljngmidhajaa

namespace Go.Proofs.Ytfeljngmidhajaa
open Go.RowKit Go.Mine

abbrev zeroG : Array Value := #[.int .i64 0, .int .i64 0, .int .i64 0, .int .i64 0, .int .u32 0, .slice none 0 0]

set_option maxRecDepth 100000 in
theorem catch_idle (p q : Nat) (w : World) :
    CallsD Try.prog 68 #[pt p, pt q] .returning w fun e u' w' => e = .returned (.tuple #[]) ∧ u' = .returning ∧ w' = w := by
  refine callsD_of_wpS Try.func68 rfl fun c₀ cs hu => ?_
  apply wpS_seq
  apply wpS_region
  simp [wpOpsS, go_sem, recoverD, hu, Try.ntmps68, Exit.thenS]
  apply wpS_seq
  apply wpS_region
  simp [wpOpsS, go_sem, Exit.thenS]
  refine wpS_cond (t := false) (by simp [Act.eval, Array.replicate]) ?_
  simp only [Bool.false_eq_true, if_false]
  refine wpS_of_wp (wp_skip ?_)
  cases c₀
  simp_all [bodyPostS, results, Try.results68]

set_option maxRecDepth 100000 in
theorem catch_form (p q : Nat) (x0 x1 x2 x3 x4 x5 x : Value) (older : List PanicEntry) (w : World) (hp : w.heap[p]? = some (.cells #[x0, x1, x2, x3, x4, x5] 40 (0, 0))) (hq : w.heap[q]? = some (.cells #[x] 25 (0, 0))) (hne : p ≠ q) :
    CallsD Try.prog 68 #[pt p, pt q] (.panicking (formE :: older)) w fun e u' w' =>
      e = .returned (.tuple #[]) ∧ u' = .panicking ({ v := .iface 94 (.agg #[]), recovered := true } :: older) ∧ w'.heap[p]? = some (.cells zeroG 40 (0, 0)) ∧ w'.heap[q]? = some (.cells #[.int .i64 3] 25 (0, 0)) ∧ Turned (fun b => b = p ∨ b = q) w w' := by
  refine callsD_of_wpS Try.func68 rfl fun c₀ cs hu => ?_
  apply wpS_seq
  apply wpS_region
  simp [wpOpsS, go_sem, recoverD, hu, Try.ntmps68, Exit.thenS]
  apply wpS_seq
  apply wpS_region
  simp [wpOpsS, go_sem, Exit.thenS]
  refine wpS_cond (t := true) (by simp [Act.eval, Array.replicate]) ?_
  simp only [if_true]
  have hta : ∀ W, (Instr.typeAssert (.iface 94 (.agg #[])) 20 94 true).run Try.prog W = .ok (.tuple #[.agg #[], .bool true]) W := fun W => by kernel_rfl
  have c0 := cell_of hp 0 _ rfl
  have c1 := cell_of hp 1 _ rfl
  have c2 := cell_of hp 2 _ rfl
  have c3 := cell_of hp 3 _ rfl
  have c4 := cell_of hp 4 _ rfl
  have c5 := cell_of hp 5 _ rfl
  have f0 := free_of hp 0
  have f1 := free_of hp 1
  have f2 := free_of hp 2
  have f3 := free_of hp 3
  have f4 := free_of hp 4
  have f5 := free_of hp 5
  have d0 := cell_of hq 0 _ rfl
  have g0 := free_of hq 0
  have HP : Hid (w.heap[p]? = some (.cells #[x0, x1, x2, x3, x4, x5] 40 (0, 0)) ∧ w.heap[q]? = some (.cells #[x] 25 (0, 0))) := ⟨hp, hq⟩
  have hlp := lt_of_block hp
  have hlq := lt_of_block hq
  refine wpS_of_wp ?_
  clear hp hq
  simp only [Array.replicate, List.replicate, List.setIfInBounds_toArray, List.append_toArray, List.set_cons_succ, List.set_cons_zero, List.cons_append, List.nil_append]
  go_wp2
  have key : (((((((((w.setCell ⟨p, 0, none⟩ (.int .i64 0)).setCell ⟨p, 1, none⟩ (.int .i64 0)).setCell ⟨p, 2, none⟩ (.int .i64 0)).setCell ⟨p, 3, none⟩ (.int .i64 0)).setCell ⟨p, 4, none⟩ (.int .u32 0)).setCell ⟨p, 5, none⟩ (.slice none 0 0)).setCell ⟨q, 0, none⟩ (.int .i64 3)).alloc (.cells #[] 94))).heap[p]? = some (.cells zeroG 40 (0, 0)) ∧ (((((((((w.setCell ⟨p, 0, none⟩ (.int .i64 0)).setCell ⟨p, 1, none⟩ (.int .i64 0)).setCell ⟨p, 2, none⟩ (.int .i64 0)).setCell ⟨p, 3, none⟩ (.int .i64 0)).setCell ⟨p, 4, none⟩ (.int .u32 0)).setCell ⟨p, 5, none⟩ (.slice none 0 0)).setCell ⟨q, 0, none⟩ (.int .i64 3)).alloc (.cells #[] 94))).heap[q]? = some (.cells #[.int .i64 3] 25 (0, 0)) ∧ Turned (fun b => b = p ∨ b = q) w ((((((((w.setCell ⟨p, 0, none⟩ (.int .i64 0)).setCell ⟨p, 1, none⟩ (.int .i64 0)).setCell ⟨p, 2, none⟩ (.int .i64 0)).setCell ⟨p, 3, none⟩ (.int .i64 0)).setCell ⟨p, 4, none⟩ (.int .u32 0)).setCell ⟨p, 5, none⟩ (.slice none 0 0)).setCell ⟨q, 0, none⟩ (.int .i64 3)).alloc (.cells #[] 94)) := ⟨Go.Mine.heap_alloc_old ((Go.Mine.heap_setCell_ne _ hne).trans (Go.Mine.heap_setCell_same (Go.Mine.heap_setCell_same (Go.Mine.heap_setCell_same (Go.Mine.heap_setCell_same (Go.Mine.heap_setCell_same (Go.Mine.heap_setCell_same HP.out.1 _) _) _) _) _) _)), Go.Mine.heap_alloc_old (Go.Mine.heap_setCell_same ((Go.Mine.heap_setCell_ne _ (fun z => hne z.symm)).trans ((Go.Mine.heap_setCell_ne _ (fun z => hne z.symm)).trans ((Go.Mine.heap_setCell_ne _ (fun z => hne z.symm)).trans ((Go.Mine.heap_setCell_ne _ (fun z => hne z.symm)).trans ((Go.Mine.heap_setCell_ne _ (fun z => hne z.symm)).trans ((Go.Mine.heap_setCell_ne _ (fun z => hne z.symm)).trans HP.out.2)))))) _), ((((((((Turned.refl (fun b => b = p ∨ b = q) w).set (p := ⟨p, 0, none⟩) (.inl rfl) _).set (p := ⟨p, 1, none⟩) (.inl rfl) _).set (p := ⟨p, 2, none⟩) (.inl rfl) _).set (p := ⟨p, 3, none⟩) (.inl rfl) _).set (p := ⟨p, 4, none⟩) (.inl rfl) _).set (p := ⟨p, 5, none⟩) (.inl rfl) _).set (p := ⟨q, 0, none⟩) (.inr rfl) _).new _⟩
  generalize ((((((((w.setCell ⟨p, 0, none⟩ (.int .i64 0)).setCell ⟨p, 1, none⟩ (.int .i64 0)).setCell ⟨p, 2, none⟩ (.int .i64 0)).setCell ⟨p, 3, none⟩ (.int .i64 0)).setCell ⟨p, 4, none⟩ (.int .u32 0)).setCell ⟨p, 5, none⟩ (.slice none 0 0)).setCell ⟨q, 0, none⟩ (.int .i64 3)).alloc (.cells #[] 94)) = wE at *
  simpa [bodyPostS, results, Try.results68] using key
end Go.Proofs.Ytfeljngmidhajaa

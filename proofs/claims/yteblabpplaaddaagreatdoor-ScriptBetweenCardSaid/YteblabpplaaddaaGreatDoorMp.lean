/- The document's reading: lines, Parse -/
import Derived.Test.YteblabpplaaddaaGreatDoorMt
set_option linter.unusedVariables false
set_option linter.unusedSimpArgs false
namespace Go.Proofs.YteblabpplaaddaaGreatDoor
open Go.RowKit Go.Mine Go.Mine.Sc

theorem sl_part (s : B) (i k : Nat) (h1 : i ≤ k) (h2 : k ≤ s.length) (W : World) : (Instr.slice 9 (.string (bs s)) (some (.int .i64 (i : Nat))) (some (.int .i64 (k : Nat))) none).run Tryz.prog W = .ok (.string (bs ((s.take k).drop i))) W := by
  have := run_slice_string (P := Tryz.prog) W 9 (bs s) .i64 .i64 (i : Nat) (k : Nat) Tryz.underlying9 (by omega) (by omega) (by rw [bs_size]; omega)
  have e : (bs s).extract i k = bs ((s.take k).drop i) := by
    apply ByteArray.ext
    simp only [ByteArray.data_extract, List.extract_toArray, List.extract_eq_take_drop, List.drop_take]
  rw [Int.toNat_natCast, Int.toNat_natCast, e] at this
  exact this

/-- lines, by the document's cutting -/
def LinesPost (w : World) (s : B) (e : Ending) (w' : World) : Prop :=
  (∃ a n c ok, e = .returned (.tuple #[.slice a n c, .bool ok]) ∧ (ok = true → s.length ≤ 65536 ∧ n = (dLines s).length ∧ n ≤ 1024 ∧ Sl w' (fun b => w.heap.size ≤ b) 9 1 (.slice a n c) (scells (dLines s)) n) ∧ (ok = false → 65536 < s.length ∨ 1024 < (dLines s).length)) ∧ Turned (fun _ => False) w w'

/-- what the loop of lines keeps -/
def LnR (w : World) (s : B) (g : Nat) (v4 v5 v6 : Value) (wr : World) : Prop :=
  ∃ (k p : Nat) (S : Nat → Prop), v6 = .int .i64 (k : Nat) ∧ v5 = .int .i64 (p : Nat) ∧ k + g = s.length ∧ p ≤ k ∧ (s.take k).drop p = pOp (s.take k) ∧ (pIn (s.take k)).length ≤ k ∧
    Sl wr S 9 1 v4 (scells (pIn (s.take k))) (pIn (s.take k)).length ∧ (∀ b, S b → w.heap.size ≤ b) ∧ Turned (fun _ => False) w wr

theorem take_succ' {s : B} {k : Nat} {c : UInt8} (h : s[k]? = some c) : s.take (k + 1) = s.take k ++ [c] := by
  rw [List.take_add_one, h]; rfl

theorem ln_same {w wr : World} {s : B} {g k p : Nat} {v4 v5 v6 : Value} {S : Nat → Prop} {c : UInt8} (hc : s[k]? = some c) (h10 : c ≠ 10) (e6 : v6 = .int .i64 ((k + 1 : Nat) : Int)) (e5 : v5 = .int .i64 (p : Nat)) (hg : k + 1 + g = s.length) (hp : p ≤ k)
    (ho : (s.take k).drop p = pOp (s.take k)) (hl : (pIn (s.take k)).length ≤ k) (h : Sl wr S 9 1 v4 (scells (pIn (s.take k))) (pIn (s.take k)).length) (hS : ∀ b, S b → w.heap.size ≤ b) (ht : Turned (fun _ => False) w wr) : LnR w s g v4 v5 v6 wr := by
  have hk : k < s.length := (List.getElem?_eq_some_iff.1 hc).1
  obtain ⟨h1, h2⟩ := pIn_c (s.take k) c h10
  refine ⟨k + 1, p, S, e6, e5, hg, by omega, ?_, ?_, ?_, hS, ht⟩
  · rw [take_succ' hc, h2, ← ho, List.drop_append_of_le_length (by simp; omega)]
  · rw [take_succ' hc, h1]; omega
  · rw [take_succ' hc, h1]; exact h

theorem ln_next {w wr w9 : World} {s x : B} {g k : Nat} {v4 v5 v6 : Value} {S : Nat → Prop} (hc : s[k]? = some 10) (hx : x = pOp (s.take k)) (e6 : v6 = .int .i64 ((k + 1 : Nat) : Int)) (e5 : v5 = .int .i64 ((k + 1 : Nat) : Int)) (hg : k + 1 + g = s.length)
    (hl : (pIn (s.take k)).length ≤ k) (hS : ∀ b, S b → w.heap.size ≤ b) (ht : Turned (fun _ => False) w wr)
    (q : Sl w9 (More S (wr.alloc (.cells #[.string (bs x)] 9))) 9 1 v4 (scells (pIn (s.take k)) ++ [.string (bs x)]) ((pIn (s.take k)).length + 1)) (t9 : Turned S (wr.alloc (.cells #[.string (bs x)] 9)) w9) : LnR w s g v4 v5 v6 w9 := by
  have hk : k < s.length := (List.getElem?_eq_some_iff.1 hc).1
  obtain ⟨h1, h2⟩ := pIn_10 (s.take k)
  have sz : (wr.alloc (.cells #[.string (bs x)] 9)).heap.size = wr.heap.size + 1 := by simp
  have s4 := ht.size
  refine ⟨k + 1, k + 1, More S (wr.alloc (.cells #[.string (bs x)] 9)), e6, e5, hg, by omega, ?_, ?_, ?_, ?_, ?_⟩
  · rw [take_succ' hc, h2]; simp; omega
  · rw [take_succ' hc, h1]; simp; omega
  · rw [take_succ' hc, h1, scells_app, List.length_append, ← hx]; exact q
  · rintro b (q | q)
    · exact hS b q
    · omega
  · exact ht.comp ((Turned.alloc S wr _).trans t9 fun _ _ q => q) fun b hb q => q.elim id fun q => by have := hS b q; omega

set_option maxRecDepth 100000 in
set_option maxHeartbeats 4000000 in
theorem lines_any (s : B) (w : World) : Calls Tryz.prog 45 #[.string (bs s)] w (LinesPost w s) := by
  have HSZ : Hid ((bs s).size = s.length) := bs_size s
  have IX : Hid (∀ (k : Nat) (c : UInt8), s[k]? = some c → ∀ W, (Instr.index 9 (.string (bs s)) (.int .i64 (k : Nat))).run Tryz.prog W = .ok (.int .u8 (c.toNat : Nat)) W) := fun k c h W => ix_str s k c h W
  have SP : Hid (∀ i k, i ≤ k → k ≤ s.length → ∀ W, (Instr.slice 9 (.string (bs s)) (some (.int .i64 (i : Nat))) (some (.int .i64 (k : Nat))) none).run Tryz.prog W = .ok (.string (bs ((s.take k).drop i))) W) := fun i k h1 h2 W => sl_part s i k h1 h2 W
  have SF : Hid (∀ k, k ≤ s.length → ∀ W, (Instr.slice 9 (.string (bs s)) (some (.int .i64 (k : Nat))) none none).run Tryz.prog W = .ok (.string (bs (s.drop k))) W) := fun k h W => sl_from s k h W
  have B0 : Hid (LnR w s s.length (.slice none 0 0) (.int .i64 0) (.int .i64 0) w) := ⟨0, 0, fun _ => False, rfl, rfl, by omega, by omega, by rfl, by simp [pIn, parts], Sl.nil _ _ _ _, fun _ q => q.elim, Turned.refl _ _⟩
  generalize bs s = x at *
  by_cases hbig : 65536 < s.length
  · have hd1 : decide ((65536 : Int) < (x.size : Int)) = true := by rw [HSZ.out]; simp; omega
    have HB : Hid (65536 < s.length) := hbig
    clear hbig
    go_enter Tryz.func45, Tryz.ntmps45
    go_wp2
    go_ret2
    exact ⟨⟨_, _, _, _, rfl, (fun h => by cases h), fun _ => .inl HB.out⟩, Turned.refl _ _⟩
  · have hd1 : decide ((65536 : Int) < (x.size : Int)) = false := by rw [HSZ.out]; simp; omega
    have HB : Hid (s.length ≤ 65536) := hidD (by omega)
    clear hbig
    go_enter Tryz.func45, Tryz.ntmps45
    go_wp2
    go_loopg [4, 5, 6] s.length (fun g v4 v5 v6 wr => LnR w s g v4 v5 v6 wr)
    case atStart => exact B0.out
    case round =>
      obtain ⟨k, p, S, rfl, rfl, hkg, hpk, ho, hl, h1, hS, ht⟩ := hrel
      have G : Hid (k + gk = s.length ∧ p ≤ k ∧ (pIn (s.take k)).length ≤ k ∧ s.length ≤ 65536) := ⟨hkg, hpk, hl, HB.out⟩
      have D : Hid ((s.take k).drop p = pOp (s.take k) ∧ Sl wr S 9 1 u4 (scells (pIn (s.take k))) (pIn (s.take k)).length ∧ (∀ b, S b → w.heap.size ≤ b) ∧ Turned (fun _ => False) w wr) := ⟨ho, h1, hS, ht⟩
      obtain ⟨a1, cap1, rfl, -, -⟩ := h1.value
      clear hkg hpk ho hl h1 hS ht B0
      have c9 : Hid ((pIn (s.take k)).length + 1 ≤ maxLen ∧ ((pIn (s.take k)).length + 1) * 16 ≤ 140737488355328) := hidD (by have := G.out; simp only [maxLen]; omega)
      have HW : Hid (wrap64 ((k : Int) + 1) = ((k + 1 : Nat) : Int)) := hidD (w64_in _ (by have := G.out; omega))
      have HLE : Hid (k ≤ s.length) := hidD (by have := G.out; omega)
      have sp := SP.out p k G.out.2.1 HLE.out
      have SD : Hid ((s.take k).drop p = pOp (s.take k)) := D.out.1
      by_cases hlt : k < s.length
      · obtain ⟨c, hc⟩ : ∃ c, s[k]? = some c := ⟨_, List.getElem?_eq_getElem hlt⟩
        have hix := IX.out k c hc
        have hd2 : decide ((k : Int) < (x.size : Int)) = true := by rw [HSZ.out]; simp; omega
        have hd3 : decide (k < x.size) = true := by rw [HSZ.out]; simp; omega
        by_cases hc10 : c = 10
        · have e10 : ((c.toNat : Int) == 10) = true := by rw [hc10]; rfl
          have HC : Hid (s[k]? = some 10 ∧ k < s.length) := ⟨by rw [hc, hc10], hlt⟩
          rw [SD.out] at sp
          obtain ⟨y, hy⟩ : ∃ y, y = pOp (s.take k) := ⟨_, rfl⟩
          rw [← hy] at sp
          have HY : Hid (y = pOp (s.take k)) := hy
          clear hc hc10 hlt hy
          clear SD
          go_wp2_with (at_builtin; refine wpList_append rfl _ _ 24 24 rfl (D.out.2.1.turned (Turned.alloc (fun _ => False) wr _) fun _ _ q => q) Tryz.underlying24 info9 rfl (by decide) rfl (.slice (some ⟨wr.heap.size, 0, none⟩) 1 1) rfl (src_one Tryz.underlying24 _ rfl wr) c9.out.1 c9.out.2 ?_; intro x4 w9 q1 t1; obtain ⟨a3, cap3, hv3, -, -⟩ := q1.value; subst hv3; have Q1 := hid_two q1 t1; clear q1 t1)
          all_goals
            go_roundg (gk - 1)
            case measure => have := G.out.1; have := HC.out.2; omega
            case rel => exact ln_next HC.out.1 HY.out (by rw [HW.out]) (by rw [HW.out]) (by have := G.out.1; have := HC.out.2; omega) G.out.2.2.1 D.out.2.2.1 D.out.2.2.2 (by exact Q1.out.1) (by exact Q1.out.2)
        · have e10 : ((c.toNat : Int) == 10) = false := by
            have : c.toNat ≠ 10 := fun q => hc10 (UInt8.toNat_inj.1 q)
            simp; omega
          have HC : Hid (s[k]? = some c ∧ c ≠ 10 ∧ k < s.length) := ⟨hc, hc10, hlt⟩
          clear hc hc10 hlt
          go_wp2
          go_roundg (gk - 1)
          case measure => have := G.out.1; have := HC.out.2.2; omega
          case rel => exact ln_same HC.out.1 HC.out.2.1 (by rw [HW.out]) rfl (by have := G.out.1; have := HC.out.2.2; omega) G.out.2.1 D.out.1 G.out.2.2.1 D.out.2.1 D.out.2.2.1 D.out.2.2.2
      · have HK : Hid (k = s.length) := hidD (by have := G.out.1; omega)
        have hd2 : decide ((k : Int) < (x.size : Int)) = false := by rw [HSZ.out]; simp; omega
        have hd3 : decide (k < x.size) = false := by rw [HSZ.out]; simp; omega
        have TK : Hid (s.take k = s) := hidD (List.take_of_length_le (by have := HK.out; omega))
        clear hlt
        by_cases hp : p < s.length
        · have hd4 : decide ((p : Int) < (x.size : Int)) = true := by rw [HSZ.out]; simp; omega
          have hd5 : decide (p < x.size) = true := by rw [HSZ.out]; simp; omega
          have sf := SF.out p (by omega)
          have HP : Hid (s.drop p = pOp s ∧ pOp s ≠ [] ∧ dLines s = pIn s ++ [pOp s]) := by
            have h1 : s.drop p = pOp s := by have := SD.out; rwa [TK.out] at this
            have h2 : pOp s ≠ [] := by rw [← h1]; intro q; have := congrArg List.length q; simp at this; omega
            exact ⟨h1, h2, by unfold dLines; rw [if_neg h2]⟩
          rw [HP.out.1] at sf
          obtain ⟨y, hy⟩ : ∃ y, y = pOp s := ⟨_, rfl⟩
          rw [← hy] at sf
          have HY : Hid (y = pOp s) := hy
          clear hp hy
          have hd6 : decide ((((pIn (s.take k)).length + 1 : Nat) : Int) ≤ 1024) = decide ((dLines s).length ≤ 1024) := by
            rw [HP.out.2.2, TK.out, List.length_append, List.length_singleton]; simp only [decide_eq_decide]; omega
          obtain ⟨ok, hok⟩ : ∃ ok, ok = decide ((dLines s).length ≤ 1024) := ⟨_, rfl⟩
          rw [← hok] at hd6
          have HOK : Hid (ok = decide ((dLines s).length ≤ 1024)) := hok
          clear hok
          clear SD
          go_wp2_with (at_builtin; refine wpList_append rfl _ _ 24 24 rfl (D.out.2.1.turned (Turned.alloc (fun _ => False) wr _) fun _ _ q => q) Tryz.underlying24 info9 rfl (by decide) rfl (.slice (some ⟨wr.heap.size, 0, none⟩) 1 1) rfl (src_one Tryz.underlying24 _ rfl wr) c9.out.1 c9.out.2 ?_; intro x4 w9 q1 t1; obtain ⟨a3, cap3, hv3, -, -⟩ := q1.value; subst hv3; have Q1 := hid_two q1 t1; clear q1 t1)
          all_goals
            go_ret2
            have e1 : (pIn (s.take k)).length + 1 = (dLines s).length := by rw [HP.out.2.2, TK.out]; simp
            refine ⟨⟨_, _, _, _, rfl, fun h => ⟨HB.out, e1, ?_, ?_⟩, fun h => .inr ?_⟩, ?_⟩
            · first | (rw [HOK.out] at h; rw [e1]; simpa using h) | (simp at h; omega)
            · have e2 : scells (dLines s) = scells (pIn (s.take k)) ++ [.string (bs y)] := by rw [HP.out.2.2, TK.out, HY.out, scells_app]; rfl
              rw [e2]
              have q := Q1.out.1
              exact q.widen fun b z => z.elim (fun z => D.out.2.2.1 b z) fun z => by have := D.out.2.2.2.size; simp at z; omega
            · first | (rw [HOK.out] at h; simpa using h) | (simp at h; omega)
            · exact D.out.2.2.2.comp ((Turned.alloc S wr _).trans Q1.out.2 fun _ _ q => q) fun b hb q => q.elim id fun q => by have := D.out.2.2.1 b q; omega
        · have hd4 : decide ((p : Int) < (x.size : Int)) = false := by rw [HSZ.out]; simp; omega
          have hd5 : decide (p < x.size) = false := by rw [HSZ.out]; simp; omega
          have HP : Hid (pOp s = [] ∧ dLines s = pIn s) := by
            have h1 : s.drop p = pOp s := by have := SD.out; rwa [TK.out] at this
            have h2 : pOp s = [] := by rw [← h1]; exact List.drop_of_length_le (by omega)
            exact ⟨h2, by unfold dLines; rw [if_pos h2]⟩
          clear hp SD
          have hd6 : decide ((((pIn (s.take k)).length : Nat) : Int) ≤ 1024) = decide ((dLines s).length ≤ 1024) := by
            rw [HP.out.2, TK.out]; simp only [decide_eq_decide]; omega
          obtain ⟨ok, hok⟩ : ∃ ok, ok = decide ((dLines s).length ≤ 1024) := ⟨_, rfl⟩
          rw [← hok] at hd6
          have HOK : Hid (ok = decide ((dLines s).length ≤ 1024)) := hok
          clear hok
          go_wp2
          go_ret2
          have e1 : (pIn (s.take k)).length = (dLines s).length := by rw [HP.out.2, TK.out]
          refine ⟨⟨_, _, _, _, rfl, fun h => ⟨HB.out, e1, ?_, ?_⟩, fun h => .inr ?_⟩, D.out.2.2.2⟩
          · rw [HOK.out] at h; rw [e1]; simpa using h
          · have e2 : scells (dLines s) = scells (pIn (s.take k)) := by rw [HP.out.2, TK.out]
            rw [e2]
            exact D.out.2.1.widen fun b z => D.out.2.2.1 b z
          · rw [HOK.out] at h; simpa using h
end Go.Proofs.YteblabpplaaddaaGreatDoor

namespace Go.Proofs.YteblabpplaaddaaGreatDoor
open Go.RowKit Go.Mine Go.Mine.Sc

def ParseDPost (w : World) (r : List Cmd × Nat) (e : Ending) (w' : World) : Prop :=
  (∃ v, e = .returned (.tuple #[v, .int .i64 (r.2 : Nat)]) ∧ CmdsAt w' (fun b => w.heap.size ≤ b) 40 v r.1) ∧ Turned (fun _ => False) w w'

theorem dLines_le (s : B) : ∀ l ∈ dLines s, l.length ≤ s.length := by
  intro l hl
  refine parts_le s l ?_
  rw [pIn_pOp s]
  unfold dLines at hl
  split at hl
  · exact List.mem_append_left _ hl
  · exact hl

theorem info40' : (Tryz.prog.info? 40).map (fun i => (i.zero, i.size, i.bytes)) = some (some (.agg zero11), 11, 160) := by kernel_rfl
/-- what the loop of Parse keeps -/
def PdR (W1 : World) (ls : List B) (g : Nat) (v6 v7 : Value) (wr : World) : Prop :=
  ∃ (k : Nat) (l : List Cmd), v7 = .int .i64 (k : Nat) ∧ k + g = ls.length ∧ l.length ≤ k ∧ pLines (ls.take k) = some l ∧ CmdsAt wr (fun b => W1.heap.size ≤ b) 40 v6 l ∧ Turned (fun _ => False) W1 wr

theorem CmdsAt.opens {w : World} {S : Nat → Prop} {e : TypeId} {v : Value} {l : List Cmd} (h : CmdsAt w S e v l) : ∃ (xs : List Value) (R : Nat → Prop), (∀ b, R b → S b ∧ b < w.heap.size) ∧ Sl w R e 11 v xs l.length ∧ CmdsV w (fun b => S b ∧ ¬ R b ∧ b < w.heap.size) l xs := by
  obtain ⟨xs, R, h1, h2, h3⟩ := h
  exact ⟨xs, fun b => R b ∧ b < w.heap.size, fun b q => ⟨h1 b q.1, q.2⟩, h2.bound, h3.bound.widen fun b q => ⟨q.1.1, fun z => q.1.2 z.1, q.2⟩⟩

theorem pd_skip {W1 wr : World} {ls : List B} {g k : Nat} {l : List Cmd} {x : B} {v6 v7 : Value} (hx : ls[k]? = some x) (hs : ¬ says x) (e7 : v7 = .int .i64 ((k + 1 : Nat) : Int)) (hg : k + 1 + g = ls.length) (hl : l.length ≤ k) (hp : pLines (ls.take k) = some l) (hc : CmdsAt wr (fun b => W1.heap.size ≤ b) 40 v6 l) (ht : Turned (fun _ => False) W1 wr) : PdR W1 ls g v6 v7 wr := by
  refine ⟨k + 1, l, e7, hg, by omega, ?_, hc, ht⟩
  rw [List.take_add_one, hx, pLines_app, hp]
  simp [pLines, if_neg hs]
theorem pd_take {ls : List B} {k : Nat} {l : List Cmd} {x : B} (hx : ls[k]? = some x) (hs : says x) (hp : pLines (ls.take k) = some l) : pLines (ls.take (k + 1)) = match pLine x with | none => none | some c => some (l ++ [c]) := by
  rw [List.take_add_one, hx, pLines_app, hp]
  simp only [Option.toList, pLines, if_pos hs]
  cases pLine x <;> rfl

theorem src_cmd40 (w4 : World) {S : Nat → Prop} {w0 : World} {c : Cmd} (cs : Array Value) (hc : CmdV w0 S c cs) : Src Tryz.prog 11 33 (.slice (some ⟨w4.heap.size, 0, none⟩) 1 1) 1 cs.toList (w4.alloc (.cells cs 40)) := by
  have hs : cs.toList.length = 11 := by rw [Array.length_toList]; exact hc.size
  have : Sl (w4.alloc (.cells cs 40)) (fun _ => True) 40 11 (.slice (some ⟨w4.heap.size, 0, none⟩) 1 1) cs.toList 1 :=
    ⟨by omega, .inr ⟨w4.heap.size, 0, 1, cs, rfl, trivial, heap_alloc_new w4 _, Nat.le_refl _, by simp [maxLen], by have := hc.size; omega, by simp only [List.drop_zero, Nat.one_mul]; exact List.take_of_length_le (by omega)⟩⟩
  exact this.src Tryz.underlying33 hc.one

/-- one command more -/
theorem pd_next {W1 wr w4 w5 w9 : World} {ls : List B} {g k : Nat} {l : List Cmd} {x : B} {c : Cmd} {cs : Array Value} {xs : List Value} {R : Nat → Prop} {v6 v7 : Value} (hx : ls[k]? = some x) (hs : says x) (hpl : pLine x = some c) (e7 : v7 = .int .i64 ((k + 1 : Nat) : Int)) (hg : k + 1 + g = ls.length) (hl : l.length ≤ k) (hp : pLines (ls.take k) = some l)
    (hR : ∀ b, R b → W1.heap.size ≤ b ∧ b < wr.heap.size) (hc : CmdsV wr (fun b => W1.heap.size ≤ b ∧ ¬ R b ∧ b < wr.heap.size) l xs) (ht : Turned (fun _ => False) W1 wr)
    (hv : CmdV w4 (fun b => wr.heap.size ≤ b) c cs) (t4 : Turned (fun _ => False) wr w4) (t45 : Turned (fun _ => False) w4 w5)
    (q : Sl w9 (More R (w5.alloc (.cells cs 40))) 40 11 v6 (xs ++ cs.toList) (l.length + 1)) (t9 : Turned R (w5.alloc (.cells cs 40)) w9) : PdR W1 ls g v6 v7 w9 := by
  have s1 := ht.size
  have s4 := t4.size
  have s5 := t45.size
  have sb : (w5.alloc (.cells cs 40)).heap.size = w5.heap.size + 1 := by simp
  have t59 : Turned R w5 w9 := (Turned.alloc R w5 _).trans t9 fun _ _ q => q
  have t49 : Turned R w4 w9 := t45.comp t59 fun b _ q => q.elim False.elim id
  have tr9 : Turned R wr w9 := t4.comp t49 fun b _ q => q.elim False.elim id
  refine ⟨k + 1, l ++ [c], e7, hg, by simp; omega, by rw [pd_take hx hs hp, hpl], ⟨xs ++ cs.toList, More R (w5.alloc (.cells cs 40)), ?_, by simpa using q, ?_⟩, ht.comp tr9 fun b hb q => q.elim id fun q => by have := (hR b q).1; omega⟩
  · rintro b (q | q)
    · exact (hR b q).1
    · omega
  · have y1 : CmdsV w9 (fun b => W1.heap.size ≤ b ∧ ¬ More R (w5.alloc (.cells cs 40)) b) l xs :=
      (hc.turned tr9 fun b q z => q.2.1 z).widen fun b q => ⟨q.1, fun z => z.elim q.2.1 fun z => by omega⟩
    have y2 : CmdV w9 (fun b => W1.heap.size ≤ b ∧ ¬ More R (w5.alloc (.cells cs 40)) b) c cs :=
      (hv.bound.turned t49 fun b q z => by have := (hR b z).2; omega).widen fun b q => ⟨by omega, fun z => z.elim (fun z => by have := (hR b z).2; omega) fun z => by omega⟩
    exact y1.snoc y2

set_option maxRecDepth 100000 in
set_option maxHeartbeats 4000000 in
theorem parse_doc (s : B) (w : World) : Calls Tryz.prog 22 #[.string (bs s)] w (ParseDPost w (parseS 5 14 s)) := by
  rw [← rParse_same]
  have h45 : Calls Tryz.prog 45 #[.string (bs s)] w (LinesPost w s) := lines_any s w
  obtain ⟨RP, hRP⟩ : ∃ RP, RP = rParse 5 14 s := ⟨_, rfl⟩
  have HRP : Hid (RP = rParse 5 14 s) := hRP
  rw [← hRP]
  clear hRP
  generalize bs s = x at *
  go_enter Tryz.func22, Tryz.ntmps22
  go_upto_region 2 with (go_at_call 45; (with_reducible refine h45.mono ?_); rintro e w1 ⟨⟨a, n, cap, ok, rfl, hy, hn⟩, ht1⟩; have T1 : Hid (Turned (fun _ => False) w w1) := ht1; clear ht1)
  cases ok with
  | false =>
    have HN : Hid (RP = ([], 5)) := hidD (by rw [HRP.out]; unfold rParse; rw [if_pos (hn rfl)])
    clear hy hn
    go_wp2
    go_ret2
    rw [HN.out]
    exact ⟨⟨_, rfl, CmdsAt.nil _ _ _⟩, T1.out⟩
  | true =>
    obtain ⟨y1, y2, y3, y4⟩ := hy rfl
    have HY : Hid (s.length ≤ 65536 ∧ n = (dLines s).length ∧ n ≤ 1024 ∧ Sl w1 (fun b => w.heap.size ≤ b) 9 1 (.slice a n cap) (scells (dLines s)) n) := ⟨y1, y2, y3, y4⟩
    have HP : Hid (rParse 5 14 s = match pLines (dLines s) with | none => ([], 14) | some l => (l, 0)) := hidD (by unfold rParse; rw [if_neg (by omega)]; rfl)
    have B0 : Hid (PdR w1 (dLines s) n (.slice none 0 0) (.int .i64 0) w1) := ⟨0, [], rfl, by omega, Nat.le_refl _, rfl, CmdsAt.nil _ _ _, Turned.refl _ _⟩
    have LE : Hid (∀ l ∈ dLines s, l.length ≤ 1000000) := fun l hl => Nat.le_trans (dLines_le s l hl) (by omega)
    clear hy hn y1 y2 y3 y4 h45
    generalize dLines s = ls at *
    go_wp2
    go_loopg [6, 7] n (fun g v6 v7 wr => PdR w1 ls g v6 v7 wr)
    case atStart => exact B0.out
    case round =>
      obtain ⟨k, l, rfl, hkg, hl, hp, hc, ht⟩ := hrel
      obtain ⟨a6, cap6, hv6⟩ := hc.value
      subst hv6
      obtain ⟨xs, R, hR, hSl, hCs⟩ := hc.opens
      have G : Hid (k + gk = ls.length ∧ l.length ≤ k ∧ pLines (ls.take k) = some l ∧ n = ls.length ∧ n ≤ 1024) := ⟨hkg, hl, hp, HY.out.2.1, HY.out.2.2.1⟩
      have D : Hid (CmdsAt wr (fun b => w1.heap.size ≤ b) 40 (.slice a6 l.length cap6) l ∧ Turned (fun _ => False) w1 wr) := ⟨hc, ht⟩
      have DR : Hid ((∀ b, R b → w1.heap.size ≤ b ∧ b < wr.heap.size) ∧ Sl wr R 40 11 (.slice a6 l.length cap6) xs l.length ∧ CmdsV wr (fun b => w1.heap.size ≤ b ∧ ¬ R b ∧ b < wr.heap.size) l xs) := ⟨hR, hSl, hCs⟩
      have c6 : Hid (l.length + 1 ≤ maxLen ∧ (l.length + 1) * 160 ≤ 140737488355328) := hidD (by have := G.out; simp only [maxLen]; omega)
      have HW : Hid (wrap64 ((k : Int) + 1) = ((k + 1 : Nat) : Int)) := hidD (w64_in _ (by have := G.out; omega))
      clear hkg hl hp hc ht B0 hR hSl hCs
      by_cases hlt : k < n
      · obtain ⟨y, hy⟩ : ∃ y, ls[k]? = some y := ⟨_, List.getElem?_eq_getElem (by have := G.out; omega)⟩
        obtain ⟨g, off, ha, -, hlt9, hcs⟩ := sl_at2 (HY.out.2.2.2.turned D.out.2 fun _ _ q => q) (by omega)
        subst ha
        have hk9 : wr.cell? ⟨g, off + k, none⟩ = some (.string (bs y)) := by have q := hcs k hlt; rw [scells, List.getElem?_map, hy] at q; exact q
        have LY : Hid (ls[k]? = some y ∧ k < n ∧ y.length ≤ 1000000) := ⟨hy, hlt, LE.out y (List.mem_of_getElem? hy)⟩
        have hd2 : decide ((k : Int) < (n : Int)) = true := by simp; omega
        have hd3 : decide (k < n) = true := by simp; omega
        clear hcs hy
        have zE : Hid (y = [] → (bs y).toList.isEmpty = true ∧ ((bs y).toList == []) = true) := fun q => by rw [q, ByteArray.toList_eq, bs_list]; exact ⟨rfl, rfl⟩
        have zN : Hid (y ≠ [] → (bs y).toList.isEmpty = false ∧ ((bs y).toList == []) = false) := fun q => by
          rw [ByteArray.toList_eq, bs_list]; cases y with
          | nil => exact absurd rfl q
          | cons c r => exact ⟨rfl, rfl⟩
        have Y0 : Hid (∀ d v, y = d :: v → ∀ W, (Instr.index 9 (.string (bs y)) (.int .i64 0)).run Tryz.prog W = .ok (.int .u8 (d.toNat : Nat)) W) := fun d v q W => by subst q; exact ix_str (d :: v) 0 d rfl W
        by_cases hs : says y
        · have HSA : Hid (says y) := hs
          have zz := zN.out hs.1
          obtain ⟨c, r, hyc⟩ : ∃ c r, y = c :: r := by
            cases y with
            | nil => exact absurd rfl hs.1
            | cons c r => exact ⟨c, r, rfl⟩
          have i0 := Y0.out c r hyc
          have e35 : ((c.toNat : Int) == 35) = false := by
            have : c.toNat ≠ 35 := fun q => hs.2 (by rw [hyc]; simp; exact UInt8.toNat_inj.1 q)
            simp; omega
          have h46 : ∀ W, Calls Tryz.prog 46 #[.string (bs y)] W (LinePost W (pLine y)) := fun W => by rw [← line_same]; exact line_any y LY.out.2.2 W
          generalize bs y = z at *
          clear hyc hs zE zN Y0
          cases hpl : pLine y with
          | none =>
            rw [hpl] at h46
            replace h46 : ∀ W, Calls Tryz.prog 46 #[.string z] W fun e w' => (∃ k a1 n1 c1 t1 t2 a4 n4 c4 q1 q2 q3 q4 a9 n9 c9 t3, e = .returned (.tuple #[.agg #[.int .i64 k, .slice a1 n1 c1, .string t1, .string t2, .slice a4 n4 c4, .int .i64 q1, .int .i64 q2, .int .i64 q3, .int .i64 q4, .slice a9 n9 c9, .string t3], .bool false])) ∧ Turned (fun _ => False) W w' := h46
            have HN : Hid (RP = ([], 14)) := hidD (by
              rw [HRP.out, HP.out, pLines_none_take (k + 1) (by rw [pd_take LY.out.1 HSA.out G.out.2.2.1, hpl])])
            clear hpl
            go_upto_region 10 with (go_at_call 46; (with_reducible refine (h46 _).mono ?_); rintro e w4 ⟨⟨k0, a1, n1, c1, t1, t2, a4, n4, c4, q1, q2, q3, q4, a9, n9, c9, t3, rfl⟩, ht4⟩; have T4 : Hid (Turned (fun _ => False) wr w4) := ht4; clear ht4 h46)
            go_wp2
            go_ret2
            rw [HN.out]
            have T4w := T1.out.trans (D.out.2.trans T4.out fun _ _ q => q) fun _ _ q => q
            exact ⟨⟨_, rfl, CmdsAt.nil _ _ _⟩, T4w.new _⟩
          | some c0 =>
            rw [hpl] at h46
            have HPL : Hid (pLine y = some c0) := hpl
            clear hpl
            replace h46 : ∀ W, Calls Tryz.prog 46 #[.string z] W fun e w' => (∃ cs, e = .returned (.tuple #[.agg cs, .bool true]) ∧ CmdV w' (fun b => W.heap.size ≤ b) c0 cs) ∧ Turned (fun _ => False) W w' := h46
            go_upto_region 10 with (go_at_call 46; (with_reducible refine (h46 _).mono ?_); rintro e w4 ⟨⟨cs, rfl, b1, n1, b4, n4, b9, n9, rfl, s1, s2, s3⟩, ht4⟩; have D4 : Hid (CmdV w4 (fun b => wr.heap.size ≤ b) c0 #[.int .i64 c0.kind, .slice b1 c0.nums.length n1, .string (bs c0.text), .string (bs c0.more), .slice b4 c0.tree.length n4, .int .i64 c0.ask.kind, .int .i64 c0.ask.a, .int .i64 c0.ask.b, .int .i64 c0.ask.limit, .slice b9 c0.ask.ids.length n9, .string (bs c0.ask.path)] ∧ Turned (fun _ => False) wr w4) := ⟨⟨b1, n1, b4, n4, b9, n9, rfl, s1, s2, s3⟩, ht4⟩; clear s1 s2 s3 ht4 h46)
            have z1 : (w4.alloc (.cells #[.int .i64 c0.kind, .slice b1 c0.nums.length n1, .string (bs c0.text), .string (bs c0.more), .slice b4 c0.tree.length n4, .int .i64 c0.ask.kind, .int .i64 c0.ask.a, .int .i64 c0.ask.b, .int .i64 c0.ask.limit, .slice b9 c0.ask.ids.length n9, .string (bs c0.ask.path)] 40)).heap[w4.heap.size]? = _ := heap_alloc_new w4 _
            have z2 : Turned (fun _ => False) w4 (w4.alloc (.cells #[.int .i64 c0.kind, .slice b1 c0.nums.length n1, .string (bs c0.text), .string (bs c0.more), .slice b4 c0.tree.length n4, .int .i64 c0.ask.kind, .int .i64 c0.ask.a, .int .i64 c0.ask.b, .int .i64 c0.ask.limit, .slice b9 c0.ask.ids.length n9, .string (bs c0.ask.path)] 40)) := Turned.alloc _ w4 _
            generalize (w4.alloc (.cells #[.int .i64 c0.kind, .slice b1 c0.nums.length n1, .string (bs c0.text), .string (bs c0.more), .slice b4 c0.tree.length n4, .int .i64 c0.ask.kind, .int .i64 c0.ask.a, .int .i64 c0.ask.b, .int .i64 c0.ask.limit, .slice b9 c0.ask.ids.length n9, .string (bs c0.ask.path)] 40)) = w5 at *
            have Z : Hid (Turned (fun _ => False) w4 w5) := z2
            have EL := Ele.of z1
            have k0 := EL.c0; have k1 := EL.c1; have k2 := EL.c2; have k3 := EL.c3; have k4 := EL.c4; have k5 := EL.c5; have k6 := EL.c6; have k7 := EL.c7; have k8 := EL.c8; have k9 := EL.c9; have k10 := EL.c10; have j0 := EL.lt
            clear EL z1 z2
            have ZT : Hid (Turned (fun _ => False) wr w5) := hidD (D4.out.2.trans Z.out fun _ _ q => q)
            have S6 : Hid (∀ o, Sl (w5.alloc o) R 40 11 (.slice a6 l.length cap6) xs l.length) := fun o => (DR.out.2.1.turned ZT.out fun _ _ q => q).turned (Turned.alloc (fun _ => False) w5 o) fun _ _ q => q
            go_wp2_with (at_builtin; refine wpList_append rfl _ _ 33 33 rfl (S6.out _) Tryz.underlying33 info40' rfl (by decide) rfl (.slice (some ⟨w5.heap.size, 0, none⟩) 1 1) rfl (src_cmd40 w5 _ D4.out.1) c6.out.1 c6.out.2 ?_; intro x9 w9 q9 t9; obtain ⟨a5, cap5, hv5, -, -⟩ := q9.value; subst hv5; have Q9 := hid_two q9 t9; clear q9 t9)
            go_roundg (gk - 1)
            case measure => have := G.out; have := LY.out; omega
            case rel => exact pd_next LY.out.1 HSA.out HPL.out (by rw [HW.out]) (by have := G.out; have := LY.out; omega) G.out.2.1 G.out.2.2.1 DR.out.1 DR.out.2.2 D.out.2 D4.out.1 D4.out.2 Z.out Q9.out.1 Q9.out.2
        · have HSA : Hid (¬ says y) := hs
          by_cases hy0 : y = []
          · have zz := zE.out hy0
            generalize bs y = z at *
            clear hs zE zN Y0 hy0
            go_wp2
            go_roundg (gk - 1)
            case measure => have := G.out; have := LY.out; omega
            case rel => exact pd_skip LY.out.1 HSA.out (by rw [HW.out]) (by have := G.out; have := LY.out; omega) G.out.2.1 G.out.2.2.1 D.out.1 D.out.2
          · have zz := zN.out hy0
            obtain ⟨r, hyc⟩ : ∃ r, y = 35 :: r := by
              cases y with
              | nil => exact absurd rfl hy0
              | cons c r =>
                by_cases hc : c = 35
                · exact ⟨r, by rw [hc]⟩
                · exact absurd ⟨by simp, by simpa using hc⟩ hs
            have i0 : ∀ W, (Instr.index 9 (.string (bs y)) (.int .i64 0)).run Tryz.prog W = .ok (.int .u8 35) W := Y0.out 35 r hyc
            generalize bs y = z at *
            clear hs zE zN Y0 hy0 hyc
            go_wp2
            go_roundg (gk - 1)
            case measure => have := G.out; have := LY.out; omega
            case rel => exact pd_skip LY.out.1 HSA.out (by rw [HW.out]) (by have := G.out; have := LY.out; omega) G.out.2.1 G.out.2.2.1 D.out.1 D.out.2
      · have HK : Hid (k = n) := hidD (by have := G.out; omega)
        have hd2 : decide ((k : Int) < (n : Int)) = false := by simp; omega
        have hd3 : decide (k < n) = false := by simp; omega
        have HN : Hid (RP = (l, 0)) := hidD (by
          have h1 := G.out.2.2.1
          rw [List.take_of_length_le (by have := HK.out; have := G.out; omega)] at h1
          rw [HRP.out, HP.out, h1])
        clear hlt
        go_wp2
        go_ret2
        rw [HN.out]
        exact ⟨⟨_, rfl, D.out.1.widen fun b q => by have := T1.out.size; omega⟩, T1.out.trans D.out.2 fun _ _ q => q⟩
end Go.Proofs.YteblabpplaaddaaGreatDoor

/- Packed. -/
import Derived.Test.YtofcogekgcgjhaaGreatDoorZzaf
import Derived.Lib.ConvBytes
set_option linter.unusedVariables false
set_option linter.unusedSimpArgs false
set_option maxRecDepth 100000
namespace Go.Proofs.YtofcogekgcgjhaaGreatDoor
open Go.RowKit Go.Mine Go.Mine.Ac
def badC (c : UInt8) : Bool := !(decide (33 ≤ c) && decide (c ≤ 126))
theorem named1_no (c : UInt8) (w : World) (h : badC c = false) : Calls Tryz.prog 179 #[.int .u8 (c.toNat : Nat)] w fun e w' => e = .returned (.bool false) ∧ w = w' := by
 have hb : 33 ≤ c.toNat ∧ c.toNat ≤ 126 := by
  simp [badC, UInt8.le_iff_toNat_le] at h
  exact h
 have e1 : decide ((c.toNat : Int) < 33) = false := by simp; omega
 have e2 : decide (c.toNat < 33) = false := by simp; omega
 have e3 : decide ((126 : Int) < (c.toNat : Int)) = false := by simp; omega
 have e4 : decide (126 < c.toNat) = false := by simp; omega
 clear h hb
 generalize c.toNat = n at *
 go_enter Tryz.func179, Tryz.ntmps179
 go_wp2
 go_ret
 exact ⟨rfl, rfl⟩
theorem named1_yes (c : UInt8) (w : World) (h : badC c = true) : Calls Tryz.prog 179 #[.int .u8 (c.toNat : Nat)] w fun e w' => e = .returned (.bool true) ∧ w = w' := by
 have hb : c.toNat < 33 ∨ 126 < c.toNat := by
  simp [badC, UInt8.le_iff_toNat_le] at h
  omega
 by_cases h1 : c.toNat < 33
 ·have e1 : decide ((c.toNat : Int) < 33) = true := by simp; omega
  have e2 : decide (c.toNat < 33) = true := by simp; omega
  clear h hb h1
  generalize c.toNat = n at *
  go_enter Tryz.func179, Tryz.ntmps179
  go_wp2
  go_ret
  exact ⟨rfl, rfl⟩
 ·have e1 : decide ((c.toNat : Int) < 33) = false := by simp; omega
  have e2 : decide (c.toNat < 33) = false := by simp; omega
  have e3 : decide ((126 : Int) < (c.toNat : Int)) = true := by simp; omega
  have e4 : decide (126 < c.toNat) = true := by simp; omega
  clear h hb h1
  generalize c.toNat = n at *
  go_enter Tryz.func179, Tryz.ntmps179
  go_wp2
  go_ret
  exact ⟨rfl, rfl⟩
def NxRel (w : World) (l : List UInt8) (g : Nat) (v : Value) (wr : World) : Prop := ∃ i : Nat, v = .int .i64 (i : Nat) ∧ i + g = l.length ∧ (∀ (j : Nat) c, j < i → l[j]? = some c → badC c = false) ∧ wr = w
def NxPost (w : World) (l : List UInt8) (e : Ending) (w' : World) : Prop := w = w' ∧ ((l.all (fun c => !badC c) = true ∧ e = .returned (.int .i64 (-1))) ∨ (l.all (fun c => !badC c) = false ∧ ∃ i : Nat, i < l.length ∧ e = .returned (.int .i64 (i : Nat))))
theorem nindex_any {g cap : Nat} (l : List UInt8) (w : World) (h : ∀ (i : Nat) c, l[i]? = some c → w.cell? ⟨g, i, none⟩ = some (.int .u8 (c.toNat : Nat))) (hl : l.length ≤ 100000) :
  Calls Tryz.prog 252 #[.slice (some ⟨g, 0, none⟩) l.length cap, .func (.func 179) #[] #[]] w (NxPost w l) := by
 obtain ⟨D, hD⟩ : ∃ D, D = NxPost w l := ⟨_, rfl⟩
 have HD : Hid (D = NxPost w l) := hD
 rw [← hD]
 obtain ⟨n, hn⟩ : ∃ n, n = l.length := ⟨_, rfl⟩
 have HN : Hid (n = l.length ∧ n ≤ 100000) := hidS ⟨hn, by omega⟩
 have HS : Hid (∀ (i : Nat) c, l[i]? = some c → w.cell? ⟨g, i, none⟩ = some (.int .u8 (c.toNat : Nat))) := h
 have B0 : Hid (NxRel w l n (.int .i64 0) w) := ⟨0, rfl, by omega, fun j c hj => absurd hj (Nat.not_lt_zero _), rfl⟩
 rw [← hn]
 clear hD hn h hl
 go_enter Tryz.func252, Tryz.ntmps252
 go_wp2
 go_loopg [8] n (fun g v wr => NxRel w l g v wr)
 case atStart => exact B0.out
 case round =>
  obtain ⟨i, rfl, hig, hno, rfl⟩ := hrel
  have G : Hid (i + gk = l.length ∧ (∀ (j : Nat) c, j < i → l[j]? = some c → badC c = false)) := ⟨hig, hno⟩
  clear hig hno B0
  by_cases hlt : i < n
  ·obtain ⟨c, hc⟩ : ∃ c, l[i]? = some c := ⟨_, List.getElem?_eq_getElem (by have := HN.out.1; omega)⟩
   have hcell := HS.out i c hc
   have HC : Hid (l[i]? = some c) := hc
   have HLT : Hid (i < n) := hlt
   have hd1 : decide ((i : Int) < (n : Int)) = true := by simp; omega
   have hd2 : decide (i < n) = true := by simp; omega
   have HW : Hid (wrap64 ((i : Int) + 1) = ((i + 1 : Nat) : Int)) := hidS (by have := HLT.out; have := HN.out.2; simp [wrap64]; omega)
   clear hc
   cases hb : badC c with
   | false =>
    have HB : Hid (badC c = false) := hb
    have h1 := named1_no c wr hb
    clear hb
    go_wp2_with (go_at_call 179; (with_reducible refine h1.mono ?_); rintro e w' ⟨rfl, rfl⟩)
    go_roundg (gk - 1)
    case measure => have := G.out; have := HLT.out; have := HN.out; omega
    case rel => exact ⟨i + 1, by rw [HW.out], by have := G.out; have := HLT.out; have := HN.out; omega, fun j d hj hd => by
     by_cases q : j = i
     ·subst q
      rw [HC.out] at hd
      rw [← Option.some.inj hd]; exact HB.out
     ·exact G.out.2 j d (by omega) hd, rfl⟩
   | true =>
    have HB : Hid (badC c = true) := hb
    have h1 := named1_yes c wr hb
    clear hb
    go_wp2_with (go_at_call 179; (with_reducible refine h1.mono ?_); rintro e w' ⟨rfl, rfl⟩)
    rw [HD.out]
    refine ⟨rfl, .inr ⟨?_, i, by have := HLT.out; have := HN.out; omega, rfl⟩⟩
    rw [List.all_eq_false]
    exact ⟨c, List.mem_of_getElem? HC.out, by rw [HB.out]; decide⟩
  ·have hd1 : decide ((i : Int) < (n : Int)) = false := by simp; omega
   have hd2 : decide (i < n) = false := by simp; omega
   have HLT : Hid (n ≤ i) := hidS (by omega)
   clear hlt
   go_wp2
   rw [HD.out]
   refine ⟨rfl, .inl ⟨?_, rfl⟩⟩
   rw [List.all_eq_true]
   intro c hc
   obtain ⟨j, hj⟩ := List.getElem?_of_mem hc
   rw [G.out.2 j c (by have := (List.getElem?_eq_some_iff.1 hj).1; have := HN.out; have := HLT.out; omega) hj]
   rfl
def allGood (l : List UInt8) : Bool := l.all fun c => !badC c
theorem ncontains_any {g cap : Nat} (l : List UInt8) (w : World) (h : ∀ (i : Nat) c, l[i]? = some c → w.cell? ⟨g, i, none⟩ = some (.int .u8 (c.toNat : Nat))) (hl : l.length ≤ 100000) :
  Calls Tryz.prog 178 #[.slice (some ⟨g, 0, none⟩) l.length cap, .func (.func 179) #[] #[]] w fun e w' => e = .returned (.bool (!allGood l)) ∧ w = w' := by
 have hi := nindex_any (cap := cap) l w h hl
 obtain ⟨n, hn⟩ : ∃ n, n = l.length := ⟨_, rfl⟩
 rw [← hn] at hi ⊢
 clear h hl
 cases hg : allGood l with
 | true =>
  replace hi : Calls Tryz.prog 252 #[.slice (some ⟨g, 0, none⟩) n cap, .func (.func 179) #[] #[]] w fun e w' => e = .returned (.int .i64 (-1)) ∧ w = w' := hi.mono fun e w' ⟨h1, h2⟩ => h2.elim (fun q => ⟨q.2, h1⟩) fun q => by have := q.1; unfold allGood at hg; rw [hg] at this; simp at this
  clear hn hg
  go_enter Tryz.func178, Tryz.ntmps178
  go_wp2_with (go_at_call 252; (with_reducible refine hi.mono ?_); rintro e w' ⟨rfl, rfl⟩)
  go_ret
  exact ⟨rfl, rfl⟩
 | false =>
  replace hi : Calls Tryz.prog 252 #[.slice (some ⟨g, 0, none⟩) n cap, .func (.func 179) #[] #[]] w fun e w' => (∃ i : Nat, e = .returned (.int .i64 (i : Nat))) ∧ w = w' := hi.mono fun e w' ⟨h1, h2⟩ => h2.elim (fun q => by have := q.1; unfold allGood at hg; rw [hg] at this; simp at this) fun q => ⟨⟨q.2.choose, q.2.choose_spec.2⟩, h1⟩
  clear hn hg
  go_enter Tryz.func178, Tryz.ntmps178
  go_wp2_with (go_at_call 252; (with_reducible refine hi.mono ?_); rintro e w' ⟨⟨i, rfl⟩, rfl⟩; have hd1 : decide ((0 : Int) ≤ (i : Int)) = true := by simp)
  go_ret
  exact ⟨rfl, rfl⟩
theorem goodName_all (s : ByteArray) : goodName s = (decide (1 ≤ s.size) && decide (s.size ≤ 32) && allGood s.data.toList) := by
 unfold goodName allGood badC
 congr 1
 congr 1
 funext c
 simp
theorem bytes_turned (w : World) (e : TypeId) (s : ByteArray) : Turned (fun _ => False) w (Lib.bytesWorld w e s) :=
 ⟨rfl, rfl, rfl, by rw [Lib.bytesWorld_size]; omega, fun b hb _ => Lib.bytesWorld_at_old w e s b hb⟩
theorem list_size (s : ByteArray) : s.data.toList.length = s.size := by rw [Array.length_toList]; rfl
theorem fnamed_any (s : ByteArray) (w : World) : Calls Tryz.prog 94 #[.string s] w fun e w' => e = .returned (.bool (goodName s)) ∧ Turned (fun _ => False) w w' := by
 rw [goodName_all]
 have hl := list_size s
 by_cases h0 : s.size = 0
 ·have he : s.toList.isEmpty = true := by
   rw [ByteArray.toList_eq, List.isEmpty_iff_length_eq_zero, hl, h0]
  have he2 : (s.toList == []) = true := by simpa using he
  have hd : decide (1 ≤ s.size) = false := by rw [h0]; rfl
  rw [hd]
  clear hl h0 hd
  go_enter Tryz.func94, Tryz.ntmps94
  go_wp2
  go_ret
  exact ⟨rfl, Turned.refl _ _⟩
 ·have he : s.toList.isEmpty = false := by
   rw [ByteArray.toList_eq]
   cases hq : s.data.toList with
   | nil => rw [hq] at hl; simp at hl; omega
   | cons a b => rfl
  have he2 : (s.toList == []) = false := by simpa using he
  have hd : decide (1 ≤ s.size) = true := by simp; omega
  rw [hd]
  by_cases h32 : s.size ≤ 32
  ·have hd3 : decide ((s.size : Int) ≤ 32) = true := by simp; omega
   have hd4 : decide (s.size ≤ 32) = true := by simp; omega
   rw [hd4]
   have hcv := Lib.run_convert_string_bytes (P := Tryz.prog) w 9 83 5 s Tryz.underlying9 Tryz.underlying83 Tryz.underlying5
   have SB : ∀ (i : Nat) c, s.data.toList[i]? = some c → (Lib.bytesWorld w 5 s).cell? ⟨w.heap.size, i, none⟩ = some (.int .u8 (c.toNat : Nat)) := fun i c hi => by
    have hj := (List.getElem?_eq_some_iff.1 hi).1
    rw [Lib.bytesWorld_cell w 5 s i (by omega)]
    simp [List.getD, hi]
   have hc := ncontains_any (cap := Go.grownCap w s.size 0 5) s.data.toList (Lib.bytesWorld w 5 s) SB (by omega)
   have T2 : Hid (Turned (fun _ => False) w (Lib.bytesWorld w 5 s)) := bytes_turned w 5 s
   rw [hl] at hc
   clear SB hl h0 h32 hd hd4
   generalize Lib.bytesWorld w 5 s = W at *
   generalize Go.grownCap w s.size 0 5 = cap at *
   go_enter Tryz.func94, Tryz.ntmps94
   go_wp2_with (go_at_call 178; (with_reducible refine hc.mono ?_); rintro e w' ⟨rfl, rfl⟩)
   go_ret
   exact ⟨by simp, T2.out⟩
  ·have hd3 : decide ((s.size : Int) ≤ 32) = false := by simp; omega
   have hd4 : decide (s.size ≤ 32) = false := by simp; omega
   rw [hd4]
   clear hl h0 h32 hd hd4
   go_enter Tryz.func94, Tryz.ntmps94
   go_wp2
   go_ret
   exact ⟨rfl, Turned.refl _ _⟩
theorem FsAt.put {w w' : World} {rl : Nat → Nat} {d ms mf : Nat} {pv : Value} {F : Nat → Nat} {D D' : Dk} (h : FsAt w rl d ms mf pv F D) (ht : Turned (· = d) w w')
  (hb : Blk w' d #[.int .i64 (D'.quota : Nat), .int .i64 (D'.files.length : Nat), .map (some ms), .map (some mf), pv, .int .i64 (D'.falls : Nat), .bool D'.off] 148)
  (hs : D'.seen = D.seen) (hf : D'.safe = D.safe) (hp : D'.pend = D.pend) (hl : D'.files = D.files) : FsAt w' rl d ms mf pv F D' := by
 have r1 := h.r1
 have k2 : ms ≠ d := fun q => by have := h.r2; rw [q, r1] at this; omega
 have k3 : mf ≠ d := fun q => by have := h.r3; rw [q, r1] at this; omega
 refine ⟨h.r1, h.r2, h.r3, hb, ?_, ?_, ?_, ?_, fun b hb => Nat.lt_of_lt_of_le (h.bnd b hb) ht.size, h.bs.congr (ht.block _ h.seen.lt k2), h.bf.congr (ht.block _ h.safe.lt k3)⟩
 ·rw [hs]; exact h.seen.congr (ht.block _ h.seen.lt fun q => by have := h.r2; rw [q, r1] at this; omega) fun _ => rfl
 ·rw [hf]; exact h.safe.congr (ht.block _ h.safe.lt fun q => by have := h.r3; rw [q, r1] at this; omega) fun _ => rfl
 ·rw [hp]; exact h.pend.turned ht fun b hb q => by rw [q, r1] at hb; omega
 ·intro k hk
  have hk' : Live D k := by unfold Live at *; rw [hs, hf, hp] at hk; exact hk
  obtain ⟨x, h1, h2⟩ := h.file k hk'
  exact ⟨x, by rw [hl]; exact h1, h2.turned ht fun b hb q => by rw [q, r1] at hb; omega⟩
theorem step_dies {w : World} {rl : Nat → Nat} {d ms mf : Nat} {pv : Value} {F : Nat → Nat} {D : Dk} (h : FsAt w rl d ms mf pv F D) (h1 : D.falls = 1) (fv : Value) :
  Calls Tryz.prog 95 #[pt d, fv] w fun e w' => e = .returned (.int .i64 8) ∧ FsAt w' rl d ms mf pv F D.step.1 ∧ Turned (· = d) w w' := by
 have f5 := free_of h.blk 5
 have f6 := free_of h.blk 6
 have c6 := cell_of h.blk 6 _ rfl
 have c5 : w.cell? ⟨d, 5, none⟩ = some (.int .i64 1) := by rw [cell_of h.blk 5 _ rfl]; simp [h1]
 have hlt := lt_of_block h.blk
 have key : Hid (FsAt ((w.setCell ⟨d, 5, none⟩ (.int .i64 0)).setCell ⟨d, 6, none⟩ (.bool true)) rl d ms mf pv F D.step.1 ∧ Turned (· = d) w ((w.setCell ⟨d, 5, none⟩ (.int .i64 0)).setCell ⟨d, 6, none⟩ (.bool true))) := hidS (by
  have t : Turned (· = d) w ((w.setCell ⟨d, 5, none⟩ (.int .i64 0)).setCell ⟨d, 6, none⟩ (.bool true)) := ((Turned.refl (· = d) w).set (p := ⟨d, 5, none⟩) rfl _).set (p := ⟨d, 6, none⟩) rfl _
  have hst : D.step.1 = { D with falls := 0, off := true } := by simp [Dk.step, h1]
  rw [hst]
  refine ⟨h.put t ?_ rfl rfl rfl rfl, t⟩
  have a1 := Go.Mine.heap_setCell_same h.blk (o := 5) (.int .i64 0)
  have a2 := Go.Mine.heap_setCell_same a1 (o := 6) (.bool true)
  simpa [Blk] using a2)
 clear h h1
 go_enter Tryz.func95, Tryz.ntmps95
 go_wp2
 go_ret
 exact ⟨rfl, key.out⟩
def newR (rl : Nat → Nat) (w w' : World) (k b : Nat) : Nat := if b < w.heap.size then rl b else if b < w'.heap.size then k else 0
theorem newR_old {rl : Nat → Nat} {w w' : World} {k b : Nat} (h : b < w.heap.size) : newR rl w w' k b = rl b := by unfold newR; rw [if_pos h]
theorem newR_new {rl : Nat → Nat} {w w' : World} {k b : Nat} (h : w.heap.size ≤ b) (h2 : b < w'.heap.size) : newR rl w w' k b = k := by unfold newR; rw [if_neg (by omega), if_pos h2]
theorem newR_bnd {rl : Nat → Nat} {w w' : World} {k b : Nat} (h : newR rl w w' k b ≠ 0) (hs : w.heap.size ≤ w'.heap.size) : b < w'.heap.size := by
 unfold newR at h
 split at h
 ·omega
 ·split at h
  ·assumption
  ·exact absurd rfl h
section
variable {w w' : World} {rl : Nat → Nat} {d ms mf n : Nat} {pv pv' : Value} {F : Nat → Nat} {D : Dk}
theorem FsC.keepR (h : FsC w rl d ms mf pv F D n) (w' : World) (k : Nat) : ∀ b, rl b ≠ 0 → newR rl w w' k b = rl b := fun b hb => newR_old (h.bnd b hb)
theorem FileAt.roles {rl' : Nat → Nat} {k : Nat} {x : Fl} (h : FileAt w rl F k x) (h1 : ∀ b, rl b ≠ 0 → rl' b = rl b) : FileAt w rl' F k x := by
 obtain ⟨a2, bv, a3, a4⟩ := h
 exact ⟨(h1 _ (by omega)).trans a2, bv, a3, a4.widen fun b hb => (h1 b (by omega)).trans hb⟩
theorem Live.change {D : Dk} {c : Chg} {k : Nat} (h : Live (D.change c) k) : Live D k ∨ (c.come ≠ emp ∧ c.file = k) := by
 rcases h with ⟨x, hx, e⟩ | ⟨x, hx, e⟩ | ⟨x, hx, e⟩
 ·rcases changed_mem hx with q | ⟨q, rfl⟩
  ·exact .inl (.inl ⟨x, q.1, e⟩)
  ·exact .inr ⟨q, e⟩
 ·exact .inl (.inr (.inl ⟨x, hx, e⟩))
 ·rcases List.mem_append.1 hx with q | q
  ·exact .inl (.inr (.inr ⟨x, q, e⟩))
  ·rw [List.mem_singleton] at q
   subst q
   exact .inr e
theorem pcells_app (F : Nat → Nat) (l : List Chg) (c : Chg) : pcells F (l ++ [c]) = pcells F l ++ pcell F c := by simp [pcells]
theorem FsC.changeAt (h : FsC w rl d ms mf pv F D n) (c : Chg) (hc : c.come ≠ emp → ∃ x, D.files[c.file]? = some x ∧ FileAt w rl F c.file x) (ht : Turned (fun b => b = d ∨ b = ms ∨ rl b = 4) w w')
  (hb : Blk w' d #[.int .i64 (D.quota : Nat), .int .i64 (n : Nat), .map (some ms), .map (some mf), pv', .int .i64 (D.falls : Nat), .bool D.off] 148)
  (hm : MapIs KStr w' ms (mapN F (changed D.seen c)) (changed D.seen c).length) (hmB : Births w' ms)
  (hp : Sl w' (fun b => newR rl w w' 4 b = 4) 159 3 pv' (pcells F D.pend ++ pcell F c) (D.pend.length + 1)) : FsC w' (newR rl w w' 4) d ms mf pv' F (D.change c) n := by
 have K := h.keepR w' 4
 have r1 := h.r1
 have r2 := h.r2
 have r3 := h.r3
 refine ⟨(K _ (by omega)).trans r1, (K _ (by omega)).trans r2, (K _ (by omega)).trans r3, hb, hm, ?_, ?_, ?_, fun b hb => newR_bnd hb ht.size, hmB, h.bf.congr (ht.block _ h.safe.lt fun q => by rcases q with q | q | q <;> (first | (rw [q, r1] at r3; omega) | (rw [q, r2] at r3; omega) | omega))⟩
 ·exact h.safe.congr (ht.block _ h.safe.lt fun q => by rcases q with q | q | q <;> (first | (rw [q, r1] at r3; omega) | (rw [q, r2] at r3; omega) | omega)) fun _ => rfl
 ·show Sl w' _ 159 3 pv' (pcells F (D.pend ++ [c])) (D.pend ++ [c]).length
  rw [pcells_app, List.length_append]
  exact hp
 ·intro k hk
  have : ∃ x, D.files[k]? = some x ∧ FileAt w rl F k x := by
   rcases Live.change hk with q | ⟨q, rfl⟩
   ·exact h.file k q
   ·exact hc q
  obtain ⟨x, h1, h2⟩ := this
  exact ⟨x, h1, (h2.turned ht fun b hb q => by rcases q with q | q | q <;> (first | (rw [q, r1] at hb; omega) | (rw [q, r2] at hb; omega) | omega)).roles K⟩
theorem FsAt.setAt (h : FsAt w rl d ms mf pv F D) {k : Nat} {x y : Fl} (hk : D.files[k]? = some x) (hf : FileAt w rl F k x) {bv : Value} (ht : Turned (fun b => b = F k ∨ rl b = 6 + 2 * k) w w')
  (hb : Blk w' (F k) #[.int .i64 (k : Nat), bv, .int .i64 (y.safe : Nat)] 157) (hs : Sl w' (fun b => newR rl w w' (6 + 2 * k) b = 6 + 2 * k) 5 1 bv (bcells y.bytes.data.toList) y.bytes.size) :
  FsAt w' (newR rl w w' (6 + 2 * k)) d ms mf pv F (D.setF k y) := by
 have K := h.keepR w' (6 + 2 * k)
 have r1 := h.r1
 have r2 := h.r2
 have r3 := h.r3
 have rF := hf.1
 have hlt := (List.getElem?_eq_some_iff.1 hk).1
 have hn : ∀ b, rl b ≠ 0 → rl b ≠ 5 + 2 * k → rl b ≠ 6 + 2 * k → ¬ (b = F k ∨ rl b = 6 + 2 * k) := fun b h1 h2 h3 q => by rcases q with q | q <;> (first | (rw [q, rF] at h2; omega) | omega)
 refine ⟨(K _ (by omega)).trans r1, (K _ (by omega)).trans r2, (K _ (by omega)).trans r3, ?_, ?_, ?_, ?_, ?_, fun b hb => newR_bnd hb ht.size, h.bs.congr (ht.block _ h.seen.lt (hn _ (by omega) (by omega) (by omega))), h.bf.congr (ht.block _ h.safe.lt (hn _ (by omega) (by omega) (by omega)))⟩
 ·have := (ht.block _ (lt_of_block h.blk) (hn _ (by omega) (by omega) (by omega))).trans h.blk
  simpa [Dk.setF, Blk] using this
 ·exact h.seen.congr (ht.block _ h.seen.lt (hn _ (by omega) (by omega) (by omega))) fun _ => rfl
 ·exact h.safe.congr (ht.block _ h.safe.lt (hn _ (by omega) (by omega) (by omega))) fun _ => rfl
 ·exact (h.pend.turned ht fun b hb => hn b (by omega) (by omega) (by omega)).widen fun b hb => (K b (by omega)).trans hb
 ·intro j hj
  by_cases hjk : j = k
  ·subst hjk
   exact ⟨y, by simp [Dk.setF, hlt], (K _ (by omega)).trans rF, bv, hb, hs⟩
  ·obtain ⟨z, h1, h2⟩ := h.file j hj
   refine ⟨z, ?_, (h2.turned ht fun b hb => hn b (by omega) (by omega) (by omega)).roles K⟩
   show (D.files.set k y)[j]? = some z
   rw [List.getElem?_set_ne (fun q => hjk q.symm)]
   exact h1
theorem FsC.moreAt (h : FsAt w rl d ms mf pv F D) (ht : Turned (fun _ => False) w w') {f : Nat} (hf : w.heap.size ≤ f) (hb : Blk w' f #[.int .i64 (D.files.length : Nat), .slice none 0 0, .int .i64 0] 157) :
  FsC w' (fun b => if b = f then 5 + 2 * D.files.length else rl b) d ms mf pv (fun k => if k = D.files.length then f else F k) { D with files := D.files ++ [⟨emp, 0⟩] } D.files.length ∧
  FileAt w' (fun b => if b = f then 5 + 2 * D.files.length else rl b) (fun k => if k = D.files.length then f else F k) D.files.length ⟨emp, 0⟩ := by
 have K : ∀ b, rl b ≠ 0 → (if b = f then 5 + 2 * D.files.length else rl b) = rl b := fun b hb => by rw [if_neg]; intro q; have := h.bnd b hb; omega
 have r1 := h.r1
 have r2 := h.r2
 have r3 := h.r3
 have hlive : ∀ k, Live D k → k ≠ D.files.length := fun k hk q => by
  obtain ⟨x, h1, -⟩ := h.file k hk
  have := (List.getElem?_eq_some_iff.1 h1).1
  omega
 have hmapN : ∀ l : Nms, (∀ x ∈ l, x.2 ≠ D.files.length) → ∀ v, mapN (fun k => if k = D.files.length then f else F k) l v = mapN F l v := by
  intro l hl v
  cases v with
  | string s =>
   simp only [mapN]
   cases hs : findN l s with
   | none => rfl
   | some k =>
    have := hl _ (findN_mem hs)
    simp only [Option.map_some]
    rw [if_neg this]
  | _ => rfl
 have hpc : pcells (fun k => if k = D.files.length then f else F k) D.pend = pcells F D.pend := by
  unfold pcells
  have : ∀ c ∈ D.pend, pcell (fun k => if k = D.files.length then f else F k) c = pcell F c := by
   intro c hc
   unfold pcell
   by_cases he : c.come = emp
   ·simp [he]
   ·have := hlive c.file (.inr (.inr ⟨c, hc, he, rfl⟩))
    simp [he, this]
  have gen : ∀ l : List Chg, (∀ c ∈ l, pcell (fun k => if k = D.files.length then f else F k) c = pcell F c) → l.flatMap (pcell fun k => if k = D.files.length then f else F k) = l.flatMap (pcell F) := by
   intro l
   induction l with
   | nil => intro _; rfl
   | cons c l ih => intro q; rw [List.flatMap_cons, List.flatMap_cons, q c (List.mem_cons_self ..), ih fun c hc => q c (List.mem_cons_of_mem _ hc)]
  exact gen _ this
 have hfile : FileAt w' (fun b => if b = f then 5 + 2 * D.files.length else rl b) (fun k => if k = D.files.length then f else F k) D.files.length ⟨emp, 0⟩ := by
  refine ⟨by simp, .slice none 0 0, by simpa using hb, ?_⟩
  exact Sl.nil _ _ _ _
 refine ⟨⟨(K _ (by omega)).trans r1, (K _ (by omega)).trans r2, (K _ (by omega)).trans r3, ?_, ?_, ?_, ?_, ?_, ?_, h.bs.congr (ht.block _ h.seen.lt id), h.bf.congr (ht.block _ h.safe.lt id)⟩, hfile⟩
 ·exact (ht.block _ (lt_of_block h.blk) id).trans h.blk
 ·exact h.seen.congr (ht.block _ h.seen.lt id) fun v => hmapN _ (fun x hx => hlive _ (.inl ⟨x, hx, rfl⟩)) v
 ·exact h.safe.congr (ht.block _ h.safe.lt id) fun v => hmapN _ (fun x hx => hlive _ (.inr (.inl ⟨x, hx, rfl⟩))) v
 ·rw [hpc]
  exact (h.pend.turned ht fun _ _ q => q).widen fun b hb => (K b (by omega)).trans hb
 ·intro k hk
  have hk' : Live D k := hk
  have hne := hlive k hk'
  obtain ⟨x, h1, h2⟩ := h.file k hk'
  have hlt := (List.getElem?_eq_some_iff.1 h1).1
  refine ⟨x, by rw [List.getElem?_append_left hlt]; exact h1, ?_⟩
  obtain ⟨a1, bv, a2, a3⟩ := (h2.turned ht fun _ _ q => q).roles K
  exact ⟨by simpa [hne] using a1, bv, by simpa [hne] using a2, a3⟩
 ·intro b hb'
  by_cases hbf : b = f
  ·subst hbf; exact lt_of_block hb
  ·simp only [hbf, if_false] at hb'
   exact Nat.lt_of_lt_of_le (h.bnd b hb') ht.size
end
end Go.Proofs.YtofcogekgcgjhaaGreatDoor
namespace Go.Proofs.YtofcogekgcgjhaaGreatDoor
open Go.RowKit Go.Mine Go.Mine.Ac
def fcellsR (l : List Fl) : List Value := l.flatMap fun x => [.string x.bytes, .int .i64 (x.safe : Nat)]
def ncellsR (l : Nms) : List Value := l.flatMap fun x => [.string x.1, .int .i64 (x.2 : Nat)]
def ccellsR (l : List Chg) : List Value := l.flatMap fun c => [.string c.gone, .string c.come, .int .i64 (c.file : Nat)]
theorem fcellsR_get : ∀ {l : List Fl} {i : Nat} {x : Fl}, l[i]? = some x → (fcellsR l)[2 * i]? = some (.string x.bytes) ∧ (fcellsR l)[2 * i + 1]? = some (.int .i64 (x.safe : Nat))
  | [], _, _, h => by simp at h
  | y :: l, 0, x, h => by simp at h; subst h; simp [fcellsR]
  | y :: l, i + 1, x, h => by
    have := fcellsR_get (l := l) (i := i) (by simpa using h)
    simpa [fcellsR, Nat.mul_add, Nat.add_right_comm] using this
theorem ncellsR_get : ∀ {l : Nms} {i : Nat} {x : ByteArray × Nat}, l[i]? = some x → (ncellsR l)[2 * i]? = some (.string x.1) ∧ (ncellsR l)[2 * i + 1]? = some (.int .i64 (x.2 : Nat))
  | [], _, _, h => by simp at h
  | y :: l, 0, x, h => by simp at h; subst h; simp [ncellsR]
  | y :: l, i + 1, x, h => by
    have := ncellsR_get (l := l) (i := i) (by simpa using h)
    simpa [ncellsR, Nat.mul_add, Nat.add_right_comm] using this
theorem fcellsR_app (l m : List Fl) : fcellsR (l ++ m) = fcellsR l ++ fcellsR m := by simp [fcellsR]
theorem ncellsR_app (l m : Nms) : ncellsR (l ++ m) = ncellsR l ++ ncellsR m := by simp [ncellsR]
theorem ccellsR_app (l m : List Chg) : ccellsR (l ++ m) = ccellsR l ++ ccellsR m := by simp [ccellsR]
structure RkAt (w : World) (rl : Nat → Nat) (r : Nat) (fv sv av pv : Value) (D : Dk) : Prop where
  r1 : rl r = 1
  blk : Blk w r #[.int .i64 (D.quota : Nat), fv, sv, av, pv, .int .i64 (D.falls : Nat), .bool D.off] 200
  files : Sl w (fun b => rl b = 2) 244 2 fv (fcellsR D.files) D.files.length
  seen : Sl w (fun b => rl b = 3) 242 2 sv (ncellsR D.seen) D.seen.length
  safe : Sl w (fun b => rl b = 4) 242 2 av (ncellsR D.safe) D.safe.length
  pend : Sl w (fun b => rl b = 5) 240 3 pv (ccellsR D.pend) D.pend.length
  bnd : ∀ b, rl b ≠ 0 → b < w.heap.size
section
variable {w w' : World} {rl : Nat → Nat} {r : Nat} {fv sv av pv : Value} {D : Dk}
theorem RkAt.turned {T : Nat → Prop} (h : RkAt w rl r fv sv av pv D) (ht : Turned T w w') (hT : ∀ b, rl b ≠ 0 → ¬ T b) : RkAt w' rl r fv sv av pv D :=
  ⟨h.r1, (ht.block _ (lt_of_block h.blk) (hT _ (by rw [h.r1]; decide))).trans h.blk, h.files.turned ht fun b hb => hT b (by omega), h.seen.turned ht fun b hb => hT b (by omega), h.safe.turned ht fun b hb => hT b (by omega),
    h.pend.turned ht fun b hb => hT b (by omega), fun b hb => Nat.lt_of_lt_of_le (h.bnd b hb) ht.size⟩
theorem RkAt.roles {rl' : Nat → Nat} (h : RkAt w rl r fv sv av pv D) (h1 : ∀ b, rl b ≠ 0 → rl' b = rl b) (h2 : ∀ b, rl' b ≠ 0 → b < w.heap.size) : RkAt w rl' r fv sv av pv D :=
  ⟨(h1 _ (by rw [h.r1]; decide)).trans h.r1, h.blk, h.files.widen fun b hb => (h1 b (by omega)).trans hb, h.seen.widen fun b hb => (h1 b (by omega)).trans hb, h.safe.widen fun b hb => (h1 b (by omega)).trans hb,
    h.pend.widen fun b hb => (h1 b (by omega)).trans hb, h2⟩
theorem RkAt.put {D' : Dk} {rl' : Nat → Nat} {fv' sv' av' pv' : Value} (h : RkAt w rl r fv sv av pv D) (hr : rl' r = 1)
    (hb : Blk w' r #[.int .i64 (D'.quota : Nat), fv', sv', av', pv', .int .i64 (D'.falls : Nat), .bool D'.off] 200)
    (h1 : Sl w' (fun b => rl' b = 2) 244 2 fv' (fcellsR D'.files) D'.files.length) (h2 : Sl w' (fun b => rl' b = 3) 242 2 sv' (ncellsR D'.seen) D'.seen.length)
    (h3 : Sl w' (fun b => rl' b = 4) 242 2 av' (ncellsR D'.safe) D'.safe.length) (h4 : Sl w' (fun b => rl' b = 5) 240 3 pv' (ccellsR D'.pend) D'.pend.length) (hn : ∀ b, rl' b ≠ 0 → b < w'.heap.size) :
    RkAt w' rl' r fv' sv' av' pv' D' := ⟨hr, hb, h1, h2, h3, h4, hn⟩
end
def RkIs (w : World) (S : Nat → Prop) (r : Nat) (D : Dk) : Prop := ∃ rl fv sv av pv, RkAt w rl r fv sv av pv D ∧ ∀ b, rl b ≠ 0 → S b
theorem RkIs.turned {w w' : World} {S T : Nat → Prop} {r : Nat} {D : Dk} (h : RkIs w S r D) (ht : Turned T w w') (hT : ∀ b, S b → ¬ T b) : RkIs w' S r D := by
  obtain ⟨rl, fv, sv, av, pv, h1, h2⟩ := h
  exact ⟨rl, fv, sv, av, pv, h1.turned ht fun b hb => hT b (h2 b hb), h2⟩
theorem RkIs.widen {w : World} {S T : Nat → Prop} {r : Nat} {D : Dk} (h : RkIs w S r D) (hT : ∀ b, b < w.heap.size → S b → T b) : RkIs w T r D := by
  obtain ⟨rl, fv, sv, av, pv, h1, h2⟩ := h
  exact ⟨rl, fv, sv, av, pv, h1, fun b hb => hT b (h1.bnd b hb) (h2 b hb)⟩
end Go.Proofs.YtofcogekgcgjhaaGreatDoor
namespace Go.Proofs.YtofcogekgcgjhaaGreatDoor
open Go.RowKit Go.Mine Go.Mine.Ac
theorem perm_sum {l m : List Nat} (h : l.Perm m) : l.sum = m.sum := by
  induction h with
  | nil => rfl
  | cons x _ ih => rw [List.sum_cons, List.sum_cons, ih]
  | swap x y r => rw [List.sum_cons, List.sum_cons, List.sum_cons, List.sum_cons]; omega
  | trans _ _ h1 h2 => exact h1.trans h2
theorem mapN_keys {w : World} {b n : Nat} {F : Nat → Nat} {l : Nms} (h : MapIs KStr w b (mapN F l) n) (hn : (l.map (·.1)).Nodup) {es : Array MapEntry} {clock : Nat} (hb : w.heap[b]? = some (.map es clock)) :
    (es.toList.map (·.key)).Perm ((l.map (·.1)).map Value.string) ∧ ∀ e ∈ es.toList, ∃ s k, e.key = .string s ∧ findN l s = some k ∧ e.val = pt (F k) := by
  obtain ⟨es', clock', h1, h2, h3, h4, h5, h6⟩ := h
  rw [hb] at h1
  simp only [Option.some.injEq, Obj.map.injEq] at h1
  obtain ⟨rfl, rfl⟩ := h1
  have he : ∀ e ∈ es.toList, ∃ s k, e.key = .string s ∧ findN l s = some k ∧ e.val = pt (F k) := by
    intro e he
    have := h3 e he
    cases hke : e.key with
    | string s =>
      rw [hke] at this
      obtain ⟨j, hj, q⟩ := Option.map_eq_some_iff.1 this
      exact ⟨s, j, rfl, hj, q.symm⟩
    | _ => rw [hke] at this; simp [mapN] at this
  refine ⟨?_, he⟩
  have n1 : (es.toList.map (·.key)).Nodup := by
    rw [List.nodup_iff_pairwise_ne, List.pairwise_map]
    exact h5
  have n2 : ((l.map (·.1)).map Value.string).Nodup := nodup_map _ (fun a b q => by injection q) hn
  rw [List.perm_ext_iff_of_nodup n1 n2]
  intro k
  constructor
  · intro hk
    obtain ⟨e, he1, rfl⟩ := List.mem_map.1 hk
    obtain ⟨s, j, e1, e2, e3⟩ := he e he1
    rw [e1]
    exact List.mem_map.2 ⟨s, List.mem_map.2 ⟨_, findN_mem e2, rfl⟩, rfl⟩
  · intro hk
    obtain ⟨s, hs, rfl⟩ := List.mem_map.1 hk
    obtain ⟨x, hx, rfl⟩ := List.mem_map.1 hs
    have := findN_of_mem hn (show (x.1, x.2) ∈ l from hx)
    obtain ⟨e, he, hk⟩ := h4 (.string x.1) (pt (F x.2)) (by simp [mapN, this])
    exact List.mem_map.2 ⟨e, he, hk⟩
def szK (D : Dk) : Value → Nat
  | .string s => match findN D.seen s with | some k => (D.at k).bytes.size | none => 0
  | _ => 0
theorem used_es {D : Dk} {es : List MapEntry} (hn : (D.seen.map (·.1)).Nodup) (h : (es.map (·.key)).Perm ((D.seen.map (·.1)).map Value.string)) : (es.map fun e => szK D e.key).sum = D.used := by
  have h1 : (es.map fun e => szK D e.key) = (es.map (·.key)).map (szK D) := by rw [List.map_map]; rfl
  rw [h1, perm_sum (h.map (szK D)), List.map_map, List.map_map]
  unfold Dk.used
  congr 1
  apply List.map_congr_left
  intro x hx
  simp only [Function.comp, szK, findN_of_mem hn (show (x.1, x.2) ∈ D.seen from hx)]
def UsRel (D : Dk) (es : Array MapEntry) (clock ms r : Nat) (w1 : World) (g : Nat) (nv : Value) (wr : World) : Prop :=
  ∃ (seen : Array Nat) (vis : List MapEntry) (c0 : Nat), (leftOf es seen).size = g ∧ nv = .int .i64 (((vis.map fun e => szK D e.key).sum : Nat) : Int) ∧ Visit es seen vis ∧
    wr.heap[r]? = some (.mapIter (some ms) clock seen c0) ∧ clock ≤ c0 ∧ wr.heap[ms]? = some (.map es clock) ∧ Turned (· = r) w1 wr
theorem fused_any {w : World} {rl : Nat → Nat} {d ms mf : Nat} {pv : Value} {F : Nat → Nat} {D : Dk} (h : FsAt w rl d ms mf pv F D) (hok : D.Ok) :
    Calls Tryz.prog 35 #[pt d] w fun e w' => e = .returned (.int .i64 (D.used : Nat)) ∧ Turned (fun _ => False) w w' := by
  obtain ⟨es, clock, hes, hbo, hbn⟩ := h.bs
  obtain ⟨hk, hent⟩ := mapN_keys h.seen hok.seenOk.nodup hes
  have hus := used_es hok.seenOk.nodup hk
  have husm := used_small hok
  have hrg : (Instr.range 145 (.map (some ms))).run Tryz.prog w = .ok (.pointer (some ⟨w.heap.size, 0, none⟩)) (w.alloc (.mapIter (some ms) clock #[] clock)) := run_range_map w 145 9 153 ms _ _ Tryz.underlying145 hes
  have c2 := cell_of h.blk 2 _ rfl
  have hlt := lt_of_block h.blk
  have msl := h.seen.lt
  obtain ⟨r, hr⟩ : ∃ r, r = w.heap.size := ⟨_, rfl⟩
  obtain ⟨w1, hw1⟩ : ∃ w1, w1 = w.alloc (.mapIter (some ms) clock #[] clock) := ⟨_, rfl⟩
  have T1 : Turned (fun _ => False) w w1 := by rw [hw1]; exact Turned.alloc _ _ _
  have B0 : Hid (UsRel D es clock ms r w1 (leftOf es #[]).size (.int .i64 0) w1) :=
    ⟨#[], [], clock, rfl, rfl, Visit.start es, by rw [hw1, hr]; exact heap_alloc_new _ _, Nat.le_refl _, by rw [hw1]; exact (alloc_old _ msl).trans hes, Turned.refl _ _⟩
  have HC : Hid (∀ e ∈ es.toList, ∃ b, e.val = pt b ∧ ∀ wr, Turned (· = r) w1 wr → ∃ a cap, wr.cell? ⟨b, 1, none⟩ = some (.slice a (szK D e.key) cap)) := hidS fun e he => by
    obtain ⟨s, k, e1, e2, e3⟩ := hent e he
    obtain ⟨x, f1, f2⟩ := h.file k (.inl ⟨_, findN_mem e2, rfl⟩)
    obtain ⟨fr, bv, f3, f4⟩ := f2
    obtain ⟨a, cap, hbv, -, -⟩ := f4.value
    refine ⟨F k, e3, fun wr ht => ⟨a, cap, ?_⟩⟩
    have hl := lt_of_block f3
    have f5 := (ht.block (F k) (Nat.lt_of_lt_of_le hl T1.size) (by omega)).trans ((T1.block (F k) hl id).trans f3)
    have : szK D e.key = x.bytes.size := by rw [e1]; simp [szK, e2, Dk.at, f1]
    rw [this, ← hbv]
    exact cell_of f5 1 _ rfl
  have HB : Hid (∀ x ∈ es.toList, x.born < clock) := hbo
  have HN : Hid ((es.toList.map (·.born)).Nodup) := hbn
  have HU : Hid ((es.toList.map fun e => szK D e.key).sum = D.used ∧ D.used ≤ 64 * 16777216) := ⟨hus, husm⟩
  have HT1 : Hid (Turned (fun _ => False) w w1) := T1
  have HR : Hid (r = w.heap.size) := hr
  have hwr : w.heap.size = r := hr.symm
  rw [hwr, ← hw1] at hrg
  clear hes hbo hbn hk hent hus husm T1 hw1 h hok hr hwr msl
  go_enter Tryz.func35, Tryz.ntmps35
  go_wp2
  go_loopg [3] (leftOf es #[]).size (fun g nv wr => UsRel D es clock ms r w1 g nv wr)
  case atStart => exact B0.out
  case round =>
    obtain ⟨seen, vis, c0, hg, rfl, hvis, hr, hc, hb, ht⟩ := hrel
    have HG : Hid ((leftOf es seen).size = gk) := hg
    have HV : Hid (Visit es seen vis) := hvis
    have HT : Hid (Turned (· = r) w1 wr) := ht
    have HS : Hid ((vis.map fun e => szK D e.key).sum = (vis.map fun e => szK D e.key).sum) := rfl
    obtain ⟨n, hn⟩ : ∃ n, n = (vis.map fun e => szK D e.key).sum := ⟨_, rfl⟩
    have HNN : Hid (n = (vis.map fun e => szK D e.key).sum) := hn
    rw [← hn]
    clear HS hn B0 hvis
    go_wp2_with (at_next; refine wpList_next_es wr rfl _ rfl r ms clock c0 seen es rfl hr hb HB.out HN.out hc ?_ ?_
                 (intro h0; have H0 : Hid ((leftOf es seen).size = 0) := h0; clear h0 hg hr hc hb ht)
                 rotate_left
                 intro e w3 hem hel hen hr3 hb3 ht3 hz3 hlt
                 have HL : Hid ((leftOf es (seen.push e.born)).size < gk) := (by rw [← hg]; exact hlt : (leftOf es (seen.push e.born)).size < gk)
                 have R3 : Hid (w3.heap[r]? = some (.mapIter (some ms) clock (seen.push e.born) clock)) := hr3
                 have B3 : Hid (w3.heap[ms]? = some (.map es clock)) := hb3
                 have T3 : Hid (Turned (· = r) w1 w3) := ht.trans ht3 fun _ _ q => q
                 have V3 : Hid (Visit es (seen.push e.born) (vis ++ [e])) := HV.out.step HN.out hel
                 obtain ⟨b, hval, hcell⟩ := HC.out e hem
                 obtain ⟨a, cap, k1⟩ := hcell w3 T3.out
                 have HW : Hid (n + szK D e.key ≤ 1073741824 ∧ wrap64 ((n : Int) + (szK D e.key : Nat)) = ((n + szK D e.key : Nat) : Int)) := by
                   have h1 := (V3.out).length_eq
                   have h2 : ((vis ++ [e] ++ (leftOf es (seen.push e.born)).toList).map fun e => szK D e.key).sum = D.used := (perm_sum ((V3.out).map _)).trans HU.out.1
                   rw [List.map_append, List.map_append, List.sum_append, List.sum_append, List.map_cons, List.map_nil, List.sum_cons, List.sum_nil, ← HNN.out] at h2
                   have h3 := HU.out.2
                   exact ⟨by omega, by simp only [wrap64]; omega⟩
                 rw [hval] at hen ⊢
                 clear hem hel hr3 hb3 ht3 hz3 hlt hg hr hc hb ht hval hcell
                 obtain ⟨sz, hsz⟩ : ∃ sz, sz = szK D e.key := ⟨_, rfl⟩
                 have HSZ : Hid (sz = szK D e.key) := hsz
                 rw [← hsz] at k1 HW
                 obtain ⟨kk, hkk⟩ : ∃ kk, kk = e.key := ⟨_, rfl⟩
                 rw [← hkk] at hen ⊢
                 clear hsz hkk)
    all_goals first
      | (go_ret
         exact ⟨by rw [HNN.out, perm_sum (((HV.out).done H0.out).map _), HU.out.1]; rfl, HT1.out.comp HT.out fun i hi q => q.elim id fun q => by have := HR.out; omega⟩)
      | (go_roundg ((leftOf es (seen.push e.born)).size)
         case measure => exact HL.out
         case rel => exact ⟨seen.push e.born, vis ++ [e], clock, rfl, by rw [HW.out.2, List.map_append, List.sum_append, ← HNN.out, HSZ.out]; simp, V3.out, R3.out, Nat.le_refl _, B3.out, T3.out⟩)
end Go.Proofs.YtofcogekgcgjhaaGreatDoor

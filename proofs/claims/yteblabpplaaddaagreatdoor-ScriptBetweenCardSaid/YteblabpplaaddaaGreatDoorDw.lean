/- The document's reading: the words behind a name: the walk of words (printed by gen_dw.py). -/
import Derived.Test.YteblabpplaaddaaGreatDoorDk
import Derived.Test.YteblabpplaaddaaGreatDoorPb
set_option linter.unusedVariables false
set_option linter.unusedSimpArgs false
namespace Go.Proofs.YteblabpplaaddaaGreatDoor
open Go.RowKit Go.Mine Go.Mine.Sc

def scells (l : List B) : List Value := l.map fun x => .string (bs x)
theorem scells_app (a b : List B) : scells (a ++ b) = scells a ++ scells b := by simp [scells]
theorem info9 : (Tryz.prog.info? 9).map (fun i => (i.zero, i.size, i.bytes)) = some (some (.string ⟨#[]⟩), 1, 16) := by kernel_rfl

def WordsPost (w : World) : Option (List Int × List B) → Ending → World → Prop
  | some (ns, xs), e, w' => (∃ a c b d, e = .returned (.tuple #[.slice a ns.length c, .slice b xs.length d, .bool true]) ∧ Sl w' (fun b => w.heap.size ≤ b) 3 1 (.slice a ns.length c) (icells ns) ns.length ∧ Sl w' (fun b => w.heap.size ≤ b) 9 1 (.slice b xs.length d) (scells xs) xs.length) ∧ Turned (fun _ => False) w w'
  | none, e, w' => e = .returned (.tuple #[.slice none 0 0, .slice none 0 0, .bool false]) ∧ Turned (fun _ => False) w w'

theorem num_drop {t : B} {n : Int} {r : B} (h : rNum t = some (n, r)) : numV t = (n, t.length - r.length) ∧ t.drop (t.length - r.length) = r ∧ 0 < t.length - r.length ∧ t.length - r.length ≤ t.length := by
  have e : numV t = (n, t.length - r.length) := by unfold numV; rw [h]
  obtain ⟨h1, -, -⟩ := rNum_some h
  have hp : 0 < (Lib.itoa n).length := by
    rcases Nat.eq_zero_or_pos (Lib.itoa n).length with q | q
    · have q := List.eq_nil_of_length_eq_zero q
      unfold Lib.itoa at q
      split at q
      · simp at q
      · exact absurd q (decDigits_ne' _)
    · exact q
  refine ⟨e, ?_, ?_, by omega⟩
  · rw [h1, List.length_append, Nat.add_sub_cancel]; simp
  · rw [h1, List.length_append]; omega
theorem num_no {t : B} (h : rNum t = none) : numV t = (0, 0) := by unfold numV; rw [h]
theorem qf_suffix : ∀ (k : Nat) (acc s x r : B), s.length ≤ k → qf acc s = some (x, r) → ∃ l, s = l ++ r
  | 0, acc, s, x, r, hk, h => by
    have : s = [] := List.eq_nil_of_length_eq_zero (by omega)
    subst this; rw [qf_nil] at h; simp at h
  | k + 1, acc, [], x, r, hk, h => by rw [qf_nil] at h; simp at h
  | k + 1, acc, c :: t, x, r, hk, h => by
    simp only [List.length_cons] at hk
    rw [qf] at h
    split at h
    · simp only [Option.some.injEq, Prod.mk.injEq] at h; obtain ⟨-, rfl⟩ := h; exact ⟨[c], rfl⟩
    · split at h
      · simp at h
      · split at h
        · split at h
          · simp at h
          · rename_i n hn
            obtain ⟨l, hl⟩ := qf_suffix k _ _ _ _ (by simp; omega) h
            exact ⟨c :: t.take n ++ l, by rw [List.cons_append, List.cons_append, List.append_assoc, ← hl, List.take_append_drop]⟩
        · obtain ⟨l, hl⟩ := qf_suffix k _ _ _ _ (by omega) h
          exact ⟨c :: l, by rw [hl]; rfl⟩
theorem quo_drop {t x r : B} (h : rText t = some (x, r)) : quoV t = (x, t.length - r.length) ∧ t.drop (t.length - r.length) = r ∧ 0 < t.length - r.length ∧ t.length - r.length ≤ t.length := by
  have e := quoV_some h
  cases t with
  | nil => simp [rText] at h
  | cons d t =>
    simp only [rText] at h
    split at h
    · obtain ⟨l, hl⟩ := qf_suffix _ _ _ _ _ (Nat.le_refl _) h
      refine ⟨e, ?_, ?_, by omega⟩
      · rw [hl]; simp
        rw [show l.length + r.length + 1 - r.length = l.length + 1 from by omega]
        simp
      · rw [hl]; simp; omega
    · simp at h

theorem bs_append (a b : B) : bs a ++ bs b = bs (a ++ b) := by
  apply ByteArray.ext
  simp [ByteArray.data_append]

/-- behind a star there is none -/
def Inv (rem ag : B) : Prop := (∀ c ∈ ag, c ≠ 42) ∧ ∀ a b : B, rem = a ++ 42 :: b → ∀ c ∈ b, c ≠ 42
theorem Inv.tail {c : UInt8} {ps ag : B} (h : Inv (c :: ps) ag) : Inv ps ag := ⟨h.1, fun a b q => h.2 (c :: a) b (by rw [q]; rfl)⟩
theorem Inv.again {ag : B} (h : ∀ c ∈ ag, c ≠ 42) : Inv ag ag := ⟨h, fun a b q => absurd rfl (h 42 (by rw [q]; simp))⟩
theorem Inv.star {rest ag : B} (h : Inv (42 :: rest) ag) : ∀ c ∈ rest, c ≠ 42 := h.2 [] rest rfl

/-- what the loop of words keeps -/
def WordR (w : World) (s pt : B) (g : Nat) (v0 v1 v7 v8 v9 v10 : Value) (wr : World) : Prop :=
  ∃ (pre rem ag u : B) (ns : List Int) (xs : List B) (S1 S2 : Nat → Prop), v0 = .string (bs u) ∧ v1 = .string (bs (pre ++ rem)) ∧ v9 = .string (bs ag) ∧ v10 = .int .i64 (pre.length : Nat) ∧ u.length = g ∧ (pre.length ≤ ns.length + xs.length ∧ ns.length + xs.length + u.length ≤ s.length ∧ rem.length ≤ 10 ∧ ag.length ≤ 10 ∧ Inv rem ag) ∧
    rwords pt [] s = (rwords rem ag u).map (fun q => (ns ++ q.1, xs ++ q.2)) ∧ Sl wr S1 3 1 v7 (icells ns) ns.length ∧ Sl wr S2 9 1 v8 (scells xs) xs.length ∧ (∀ b, S1 b → ¬ S2 b) ∧
    (∀ b, S1 b → w.heap.size ≤ b ∧ b < wr.heap.size) ∧ (∀ b, S2 b → w.heap.size ≤ b ∧ b < wr.heap.size) ∧ Turned (fun _ => False) w wr

theorem word_num {w wr w4 w9 : World} {s pt pre ag u v r ps : B} {c : UInt8} {ns : List Int} {xs : List B} {S1 S2 : Nat → Prop} {v8 v' x0 x1 x9 x10 : Value} {n : Int} {g : Nat}
    (hrw : rwords pt [] s = (rwords (c :: ps) ag u).map (fun q => (ns ++ q.1, xs ++ q.2))) (hc : c = 110) (hu : u = 32 :: v) (hn : rNum v = some (n, r)) (hlen : pre.length ≤ ns.length + xs.length ∧ ns.length + xs.length + u.length ≤ s.length ∧ ps.length ≤ 10 ∧ ag.length ≤ 10 ∧ Inv ps ag)
    (h2 : Sl wr S2 9 1 v8 (scells xs) xs.length) (hd : ∀ b, S1 b → ¬ S2 b) (b1 : ∀ b, S1 b → w.heap.size ≤ b ∧ b < wr.heap.size) (b2 : ∀ b, S2 b → w.heap.size ≤ b ∧ b < wr.heap.size) (ht : Turned (fun _ => False) w wr)
    (t4 : Turned (fun _ => False) wr w4) (q : Sl w9 (More S1 (w4.alloc (.cells #[.int .i64 n] 3))) 3 1 v' (icells ns ++ [.int .i64 n]) (ns.length + 1)) (t9 : Turned S1 (w4.alloc (.cells #[.int .i64 n] 3)) w9)
    (e0 : x0 = .string (bs r)) (e1 : x1 = .string (bs (pre ++ [c] ++ ps))) (e9 : x9 = .string (bs ag)) (e10 : x10 = .int .i64 ((pre.length + 1 : Nat) : Int)) (hg : r.length = g) : WordR w s pt g x0 x1 v' v8 x9 x10 w9 := by
  subst hc; subst hu
  have hrl := rNum_lt hn
  have sz : (w4.alloc (.cells #[.int .i64 n] 3)).heap.size = w4.heap.size + 1 := by simp
  have s4 := t4.size
  have tt : Turned S1 wr w9 := (t4.comp ((Turned.alloc S1 w4 _).trans t9 fun _ _ q => q) fun b _ q => q.elim False.elim id)
  have sw := ht.size
  refine ⟨pre ++ [110], ps, ag, r, ns ++ [n], xs, fun b => (More S1 (w4.alloc (.cells #[.int .i64 n] 3))) b ∧ b < w9.heap.size, S2, e0, e1, e9, by rw [e10]; simp, hg, ?_, ?_, ?_, h2.turned tt fun b q z => hd b z q, ?_, ?_, fun b q => ⟨(b2 b q).1, Nat.lt_of_lt_of_le (b2 b q).2 tt.size⟩, ht.comp tt fun b hb q => q.elim id fun q => by have := (b1 b q).1; omega⟩
  · obtain ⟨l1, l2, l3, l4, l5⟩ := hlen
    simp at l2
    exact ⟨by simp; omega, by simp; omega, l3, l4, l5⟩
  · rw [hrw, rw_cons]
    rw [show nextW (110 :: ps) ag = (110 :: ps, ag) from by simp [nextW]]
    simp only [List.cons_ne_nil, if_false, if_true]
    rw [hn]
    simp only []
    cases rwords ps ag r <;> simp
  · rw [icells_app, List.length_append]; exact q.bound
  · rintro b ⟨q | q, -⟩ z
    · exact hd b q z
    · have := (b2 b z).2; omega
  · rintro b ⟨q | q, z⟩
    · exact ⟨(b1 b q).1, z⟩
    · exact ⟨by omega, z⟩
theorem word_quo {w wr w4 w9 : World} {s pt pre ag u v r ps x : B} {c : UInt8} {ns : List Int} {xs : List B} {S1 S2 : Nat → Prop} {v7 v' x0 x1 x9 x10 : Value} {g : Nat}
    (hrw : rwords pt [] s = (rwords (c :: ps) ag u).map (fun q => (ns ++ q.1, xs ++ q.2))) (hc : c ≠ 110) (h42 : c ≠ 42) (hu : u = 32 :: v) (hn : rText v = some (x, r)) (hlen : pre.length ≤ ns.length + xs.length ∧ ns.length + xs.length + u.length ≤ s.length ∧ ps.length ≤ 10 ∧ ag.length ≤ 10 ∧ Inv ps ag)
    (h1 : Sl wr S1 3 1 v7 (icells ns) ns.length) (hd : ∀ b, S1 b → ¬ S2 b) (b1 : ∀ b, S1 b → w.heap.size ≤ b ∧ b < wr.heap.size) (b2 : ∀ b, S2 b → w.heap.size ≤ b ∧ b < wr.heap.size) (ht : Turned (fun _ => False) w wr)
    (t4 : Turned (fun _ => False) wr w4) (q : Sl w9 (More S2 (w4.alloc (.cells #[.string (bs x)] 9))) 9 1 v' (scells xs ++ [.string (bs x)]) (xs.length + 1)) (t9 : Turned S2 (w4.alloc (.cells #[.string (bs x)] 9)) w9)
    (e0 : x0 = .string (bs r)) (e1 : x1 = .string (bs (pre ++ [c] ++ ps))) (e9 : x9 = .string (bs ag)) (e10 : x10 = .int .i64 ((pre.length + 1 : Nat) : Int)) (hg : r.length = g) : WordR w s pt g x0 x1 v7 v' x9 x10 w9 := by
  subst hu
  have hrl := rText_lt hn
  have sz : (w4.alloc (.cells #[.string (bs x)] 9)).heap.size = w4.heap.size + 1 := by simp
  have s4 := t4.size
  have tt : Turned S2 wr w9 := (t4.comp ((Turned.alloc S2 w4 _).trans t9 fun _ _ q => q) fun b _ q => q.elim False.elim id)
  have sw := ht.size
  refine ⟨pre ++ [c], ps, ag, r, ns, xs ++ [x], S1, fun b => (More S2 (w4.alloc (.cells #[.string (bs x)] 9))) b ∧ b < w9.heap.size, e0, e1, e9, by rw [e10]; simp, hg, ?_, ?_, h1.turned tt fun b q z => hd b q z, ?_, ?_, fun b q => ⟨(b1 b q).1, Nat.lt_of_lt_of_le (b1 b q).2 tt.size⟩, ?_, ht.comp tt fun b hb q => q.elim id fun q => by have := (b2 b q).1; omega⟩
  · obtain ⟨l1, l2, l3, l4, l5⟩ := hlen
    simp at l2
    exact ⟨by simp; omega, by simp; omega, l3, l4, l5⟩
  · rw [hrw, rw_cons]
    rw [show nextW (c :: ps) ag = (c :: ps, ag) from by simp [nextW, h42]]
    simp only [List.cons_ne_nil, if_false, if_true, if_neg hc]
    rw [hn]
    simp only []
    cases rwords ps ag r <;> simp
  · rw [scells_app, List.length_append]; exact q.bound
  · rintro b z ⟨q | q, -⟩
    · exact hd b z q
    · have := (b1 b z).2; omega
  · rintro b ⟨q | q, z⟩
    · exact ⟨(b2 b q).1, z⟩
    · exact ⟨by omega, z⟩


set_option maxRecDepth 100000 in
set_option maxHeartbeats 16000000 in
theorem words_any (s pt : B) (hs : s.length ≤ 1000000) (hp : pt.length ≤ 10) (hst : Inv pt []) (w : World) : Calls Tryz.prog 74 #[.string (bs s), .string (bs pt)] w (WordsPost w (rwords pt [] s)) := by
  have HS : Hid (s.length ≤ 1000000) := hs
  have B0 : Hid (WordR w s pt s.length (.string (bs s)) (.string (bs pt)) (.slice none 0 0) (.slice none 0 0) (.string ⟨#[]⟩) (.int .i64 0) w) :=
    ⟨[], pt, [], s, [], [], fun _ => False, fun _ => False, rfl, rfl, rfl, rfl, rfl, ⟨by simp, by simp, hp, by simp, hst⟩, by cases rwords pt [] s <;> simp, Sl.nil _ _ _ _, Sl.nil _ _ _ _, fun _ q => q.elim, fun _ q => q.elim, fun _ q => q.elim, Turned.refl _ _⟩
  obtain ⟨RW, hRW⟩ : ∃ RW, RW = rwords pt [] s := ⟨_, rfl⟩
  have HRW : Hid (RW = rwords pt [] s) := hRW
  rw [← hRW]
  clear hs hp hst hRW
  go_enter Tryz.func74, Tryz.ntmps74
  go_wp2
  go_loopg [0, 1, 7, 8, 9, 10] s.length (fun g v0 v1 v7 v8 v9 v10 wr => WordR w s pt g v0 v1 v7 v8 v9 v10 wr)
  case atStart => exact B0.out
  case round =>
    obtain ⟨pre, rem, ag, u, ns, xs, S1, S2, rfl, rfl, rfl, rfl, hg, hlen, hrw, h1, h2, hd, hb1, hb2, ht⟩ := hrel
    have G : Hid (u.length = gk ∧ (pre.length ≤ ns.length + xs.length ∧ ns.length + xs.length + u.length ≤ s.length ∧ rem.length ≤ 10 ∧ ag.length ≤ 10 ∧ Inv rem ag) ∧ s.length ≤ 1000000) := ⟨hg, hlen, HS.out⟩
    have RR : Hid (rwords pt [] s = (rwords rem ag u).map (fun q => (ns ++ q.1, xs ++ q.2))) := hrw
    have D : Hid (Sl wr S1 3 1 u7 (icells ns) ns.length ∧ Sl wr S2 9 1 u8 (scells xs) xs.length ∧ (∀ b, S1 b → ¬ S2 b) ∧ (∀ b, S1 b → w.heap.size ≤ b ∧ b < wr.heap.size) ∧ (∀ b, S2 b → w.heap.size ≤ b ∧ b < wr.heap.size) ∧ Turned (fun _ => False) w wr) := ⟨h1, h2, hd, hb1, hb2, ht⟩
    obtain ⟨a1, cap1, rfl, -, -⟩ := h1.value
    obtain ⟨a2, cap2, rfl, -, -⟩ := h2.value
    clear hg hlen hrw h1 h2 hd hb1 hb2 ht B0
    have c3 : Hid (ns.length + 1 ≤ maxLen ∧ (ns.length + 1) * 8 ≤ 140737488355328) := hidD (by have := G.out; simp only [maxLen]; omega)
    have c9 : Hid (xs.length + 1 ≤ maxLen ∧ (xs.length + 1) * 16 ≤ 140737488355328) := hidD (by have := G.out; simp only [maxLen]; omega)
    have HPW : Hid (wrap64 ((pre.length : Int) + 1) = ((pre.length + 1 : Nat) : Int)) := hidD (w64_in _ (by have := G.out; omega))
    have SF : Hid (∀ (t : B) (k : Nat), k ≤ t.length → ∀ W, (Instr.slice 9 (.string (bs t)) (some (.int .i64 (k : Nat))) none none).run Tryz.prog W = .ok (.string (bs (t.drop k))) W) := fun t k h W => sl_from t k h W
    have zE : Hid (u = [] → (bs u).toList.isEmpty = true ∧ ((bs u).toList == []) = true) := fun q => by rw [q, ByteArray.toList_eq, bs_list]; exact ⟨rfl, rfl⟩
    have zN : Hid (u ≠ [] → (bs u).toList.isEmpty = false ∧ ((bs u).toList == []) = false) := fun q => by
      rw [ByteArray.toList_eq, bs_list]; cases u with
      | nil => exact absurd rfl q
      | cons c r => exact ⟨rfl, rfl⟩
    have U0 : Hid (∀ d v, u = d :: v → ∀ W, (Instr.index 9 (.string (bs u)) (.int .i64 0)).run Tryz.prog W = .ok (.int .u8 (d.toNat : Nat)) W) := fun d v q W => by subst q; exact ix_str (d :: v) 0 d rfl W
    have U1 : Hid (∀ d v, u = d :: v → ∀ W, (Instr.slice 9 (.string (bs u)) (some (.int .i64 1)) none none).run Tryz.prog W = .ok (.string (bs v)) W) := fun d v q W => by subst q; exact sl_from (d :: v) 1 (by simp) W
    cases hrem : rem with
    | nil =>
      rw [hrem] at G RR
      have f1 : decide ((pre.length : Int) < ((bs pre).size : Int)) = false := by rw [bs_size]; simp
      have f2 : decide (((bs pre).size : Int) ≤ (pre.length : Int)) = true := by rw [bs_size]; simp
      rw [List.append_nil]
      obtain ⟨agg, hagg⟩ : ∃ agg, agg = ag := ⟨_, rfl⟩
      rw [← hagg]
      have HAG : Hid (agg = ag) := hagg
      clear hagg hrem
      have RE : Hid (rwords pt [] s = (rwords [] agg u).map (fun q => (ns ++ q.1, xs ++ q.2)) ∧ (∀ c ∈ agg, c ≠ 42) ∧ agg.length ≤ 10) := hidD (by rw [HAG.out]; exact ⟨RR.out, G.out.2.1.2.2.2.2.1, G.out.2.1.2.2.2.1⟩)
      have YE : Hid (agg = [] → (bs agg).toList.isEmpty = true ∧ ((bs agg).toList == []) = true) := fun q => by rw [q, ByteArray.toList_eq, bs_list]; exact ⟨rfl, rfl⟩
      have YN : Hid (agg ≠ [] → (bs agg).toList.isEmpty = false ∧ ((bs agg).toList == []) = false) := fun q => by
        rw [ByteArray.toList_eq, bs_list]; cases agg with
        | nil => exact absurd rfl q
        | cons c r => exact ⟨rfl, rfl⟩
      have HPY : Hid (bs pre ++ bs agg = bs (pre ++ agg)) := bs_append _ _
      have IXY : Hid (∀ c ps, agg = c :: ps → ∀ W, (Instr.index 9 (.string (bs pre ++ bs agg)) (.int .i64 (pre.length : Nat))).run Tryz.prog W = .ok (.int .u8 (c.toNat : Nat)) W) := fun c ps h => by
        rw [bs_append]; exact ix_str _ _ _ (by rw [h]; simp)
      have HPS : (bs pre).size = pre.length := bs_size pre
      have s1 : ¬ 9223372036854775807 < (bs pre).size + (bs agg).size := by
        rw [bs_size, bs_size]; have := G.out; have := RE.out.2.2; omega
      have f6 : decide ((bs pre).size ≤ pre.length) = true := by rw [bs_size]; simp
      generalize bs pre = xp at *
      generalize hy : bs agg = y at *
      have HY : Hid (y = bs agg) := hy.symm
      clear hy
      have f5 : ((pre.length : Int) == (xp.size : Int)) = true := by rw [HPS]; simp
      clear HPS
      by_cases hu : u = []
      · have zz := zE.out hu
        have HN : Hid (RW = some (ns, xs)) := hidD (by rw [HRW.out, RE.out.1, hu, rw_end]; simp)
        generalize bs u = z at *
        by_cases hag : agg = []
        · have yz := YE.out hag
          clear hu hag 
          go_wp2
          go_ret3
          rw [HN.out]
          exact ⟨⟨a1, cap1, a2, cap2, rfl, D.out.1.widen fun b q => (D.out.2.2.2.1 b q).1, D.out.2.1.widen fun b q => (D.out.2.2.2.2.1 b q).1⟩, D.out.2.2.2.2.2⟩
        · have yz := YN.out hag
          clear hu hag 
          go_wp2
          go_ret3
          rw [HN.out]
          exact ⟨⟨a1, cap1, a2, cap2, rfl, D.out.1.widen fun b q => (D.out.2.2.2.1 b q).1, D.out.2.1.widen fun b q => (D.out.2.2.2.2.1 b q).1⟩, D.out.2.2.2.2.2⟩
      · by_cases hag : agg = []
        · have zz := zN.out hu
          have HN : Hid (RW = none) := hidD (by rw [HRW.out, RE.out.1, hag, rw_over u hu]; rfl)
          have yz := YE.out hag
          clear hu hag 
          generalize bs u = z at *
          go_wp2
          go_ret3
          rw [HN.out]
          exact ⟨rfl, D.out.2.2.2.2.2⟩
        · have yz := YN.out hag
          obtain ⟨c, ps, hcp⟩ : ∃ c ps, agg = c :: ps := by
            cases agg with
            | nil => exact absurd rfl hag
            | cons c ps => exact ⟨c, ps, rfl⟩
          have HU0 : Hid (u ≠ []) := hu
          have HP : Hid (xp ++ y = bs (pre ++ c :: ps)) := hidD (by rw [HPY.out, hcp])
          have ixp := IXY.out c ps hcp
          clear hu hag
          have RC : Hid (rwords pt [] s = (rwords (c :: ps) agg u).map (fun q => (ns ++ q.1, xs ++ q.2))) := hidD (by have q := RE.out.1; rw [rw_again _ _ HU0.out (by rw [hcp]; simp) (by rw [hcp]; simpa using RE.out.2.1 c (by rw [hcp]; simp))] at q; rw [q]; rw [← hcp])
          have IV : Hid (Inv (c :: ps) agg ∧ c ≠ 42 ∧ ps.length ≤ 10 ∧ agg.length ≤ 10) := hidD (by have q := Inv.again RE.out.2.1; refine ⟨by rw [← hcp]; exact q, RE.out.2.1 c (by rw [hcp]; simp), ?_, RE.out.2.2⟩; have := RE.out.2.2; rw [hcp] at this; simp at this; omega)
          cases hu : u with
          | nil => exact absurd hu HU0.out
          | cons d v =>
            have zz := zN.out (by rw [hu]; simp)
            have i0 := U0.out d v hu
            have i1 := U1.out d v hu
            rw [hu] at zz i0 i1
            have HU : Hid (u = d :: v) := hu
            clear hu  hcp
            generalize bs (d :: v) = z at *
            by_cases h32 : d = 32
            · subst h32
              change ∀ W, (Instr.index 9 (.string z) (.int .i64 0)).run Tryz.prog W = .ok (.int .u8 32) W at i0
              by_cases h110 : c = 110
              · have e110 : ((c.toNat : Int) == 110) = true := by rw [h110]; rfl
                have h91 : ∀ W, Calls Tryz.prog 91 #[.string (bs v)] W fun e w' => e = .returned (.tuple #[.int .i64 (numV v).1, .int .i64 ((numV v).2 : Nat)]) ∧ W = w' := fun W => (number_doc v (by have := G.out; rw [HU.out] at this; simp at this; omega) W).mono fun e w' h => ⟨h.1, h.2.symm⟩
                cases hn : rNum v with
                | none =>
                  rw [num_no hn] at h91
                  have HN : Hid (RW = none) := hidD (by
                    rw [HRW.out, RC.out, HU.out, rw_cons, show nextW (c :: ps) agg = (c :: ps, agg) from by simp [nextW, IV.out.2.1]]
                    simp [h110, hn])
                  clear hn h110
                  go_wp2_with (first | (go_at_call 91; (with_reducible refine (h91 _).mono ?_); rintro e w4 ⟨rfl, rfl⟩) | (at_builtin; refine wpList_append rfl _ _ 34 34 rfl (D.out.1.turned (Turned.alloc (fun _ => False) wr _) fun _ _ q => q) Tryz.underlying34 info3 rfl (by decide) rfl (.slice (some ⟨wr.heap.size, 0, none⟩) 1 1) rfl (src_one Tryz.underlying34 _ rfl wr) c3.out.1 c3.out.2 ?_; intro x4 w9 q1 t1; obtain ⟨a3, cap3, hv3, -, -⟩ := q1.value; subst hv3; have Q1 := hid_two q1 t1; clear q1 t1))
                  go_ret3
                  rw [HN.out]
                  exact ⟨rfl, D.out.2.2.2.2.2.comp ((Turned.alloc S1 wr _).trans Q1.out.2 fun _ _ q => q) fun b hb q => q.elim id fun q => by have := (D.out.2.2.2.1 b q).1; omega⟩
                | some q =>
                  obtain ⟨n, r⟩ := q
                  obtain ⟨e1, e2, e3, e4⟩ := num_drop hn
                  rw [e1] at h91
                  have sl := SF.out v _ e4
                  rw [e2] at sl
                  generalize v.length - r.length = m at *
                  have m0 : ((m : Int) == 0) = false := by simp; omega
                  have HN : Hid (rNum v = some (n, r) ∧ c = 110) := ⟨hn, h110⟩
                  clear hn e1 e2 e3 e4 h110
                  go_wp2_with (first | (go_at_call 91; (with_reducible refine (h91 _).mono ?_); rintro e w4 ⟨rfl, rfl⟩) | (at_builtin; refine wpList_append rfl _ _ 34 34 rfl (D.out.1.turned (Turned.alloc (fun _ => False) wr _) fun _ _ q => q) Tryz.underlying34 info3 rfl (by decide) rfl (.slice (some ⟨wr.heap.size, 0, none⟩) 1 1) rfl (src_one Tryz.underlying34 _ rfl wr) c3.out.1 c3.out.2 ?_; intro x4 w9 q1 t1; obtain ⟨a3, cap3, hv3, -, -⟩ := q1.value; subst hv3; have Q1 := hid_two q1 t1; clear q1 t1))
                  go_roundg r.length
                  case measure => have := G.out.1; have := rNum_lt HN.out.1; rw [HU.out] at *; simp at *; omega
                  case rel => exact word_num RC.out HN.out.2 HU.out HN.out.1 ⟨G.out.2.1.1, G.out.2.1.2.1, IV.out.2.2.1, IV.out.2.2.2, IV.out.1.tail⟩ D.out.2.1 D.out.2.2.1 D.out.2.2.2.1 D.out.2.2.2.2.1 D.out.2.2.2.2.2 (Turned.refl _ wr) Q1.out.1 Q1.out.2 rfl (by first | rfl | simp [HP.out]) (by first | rfl | rw [HY.out]) (by rw [HPW.out]) rfl
              · have e110 : ((c.toNat : Int) == 110) = false := by
                  have : c.toNat ≠ 110 := fun q => h110 (UInt8.toNat_inj.1 q)
                  simp; omega
                have h92 : ∀ W, Calls Tryz.prog 92 #[.string (bs v)] W (QuoPost W (quoV v)) := fun W => quoted_any v (by have := G.out; rw [HU.out] at this; simp at this; omega) W
                cases hn : rText v with
                | none =>
                  rw [quoV_none hn] at h92
                  have h92 : ∀ W, Calls Tryz.prog 92 #[.string (bs v)] W fun e w' => e = .returned (.tuple #[.string (bs []), .int .i64 0]) ∧ Turned (fun _ => False) W w' := h92
                  have HN : Hid (RW = none) := hidD (by
                    rw [HRW.out, RC.out, HU.out, rw_cons, show nextW (c :: ps) agg = (c :: ps, agg) from by simp [nextW, IV.out.2.1]]
                    simp [h110, hn])
                  clear hn h110
                  generalize bs [] = zn at *
                  go_wp2_with (first | (go_at_call 92; (with_reducible refine (h92 _).mono ?_); rintro e w4 ⟨rfl, ht4⟩; have T4 : Hid (Turned (fun _ => False) wr w4) := ht4; clear ht4 h92) | (at_builtin; refine wpList_append rfl _ _ 24 24 rfl ((D.out.2.1.turned T4.out fun _ _ q => q).turned (Turned.alloc (fun _ => False) w4 _) fun _ _ q => q) Tryz.underlying24 info9 rfl (by decide) rfl (.slice (some ⟨w4.heap.size, 0, none⟩) 1 1) rfl (src_one Tryz.underlying24 _ rfl w4) c9.out.1 c9.out.2 ?_; intro x4 w9 q1 t1; obtain ⟨a3, cap3, hv3, -, -⟩ := q1.value; subst hv3; have Q1 := hid_two q1 t1; clear q1 t1))
                  go_ret3
                  rw [HN.out]
                  exact ⟨rfl, (D.out.2.2.2.2.2.trans T4.out fun _ _ q => q).comp ((Turned.alloc S2 w4 _).trans Q1.out.2 fun _ _ q => q) fun b hb q => q.elim id fun q => by have := (D.out.2.2.2.2.1 b q).1; omega⟩
                | some q =>
                  obtain ⟨x, r⟩ := q
                  obtain ⟨e1, e2, e3, e4⟩ := quo_drop hn
                  rw [e1] at h92
                  have h92 : ∀ W, Calls Tryz.prog 92 #[.string (bs v)] W fun e w' => e = .returned (.tuple #[.string (bs x), .int .i64 ((v.length - r.length : Nat) : Int)]) ∧ Turned (fun _ => False) W w' := h92
                  have sl := SF.out v _ e4
                  rw [e2] at sl
                  generalize v.length - r.length = m at *
                  have m0 : ((m : Int) == 0) = false := by simp; omega
                  have HN : Hid (rText v = some (x, r) ∧ c ≠ 110) := ⟨hn, h110⟩
                  clear hn e1 e2 e3 e4 h110
                  go_wp2_with (first | (go_at_call 92; (with_reducible refine (h92 _).mono ?_); rintro e w4 ⟨rfl, ht4⟩; have T4 : Hid (Turned (fun _ => False) wr w4) := ht4; clear ht4 h92) | (at_builtin; refine wpList_append rfl _ _ 24 24 rfl ((D.out.2.1.turned T4.out fun _ _ q => q).turned (Turned.alloc (fun _ => False) w4 _) fun _ _ q => q) Tryz.underlying24 info9 rfl (by decide) rfl (.slice (some ⟨w4.heap.size, 0, none⟩) 1 1) rfl (src_one Tryz.underlying24 _ rfl w4) c9.out.1 c9.out.2 ?_; intro x4 w9 q1 t1; obtain ⟨a3, cap3, hv3, -, -⟩ := q1.value; subst hv3; have Q1 := hid_two q1 t1; clear q1 t1))
                  go_roundg r.length
                  case measure => have := G.out.1; have := rText_lt HN.out.1; rw [HU.out] at *; simp at *; omega
                  case rel => exact word_quo RC.out HN.out.2 IV.out.2.1 HU.out HN.out.1 ⟨G.out.2.1.1, G.out.2.1.2.1, IV.out.2.2.1, IV.out.2.2.2, IV.out.1.tail⟩ D.out.1 D.out.2.2.1 D.out.2.2.2.1 D.out.2.2.2.2.1 D.out.2.2.2.2.2 T4.out Q1.out.1 Q1.out.2 rfl (by first | rfl | simp [HP.out]) (by first | rfl | rw [HY.out]) (by rw [HPW.out]) rfl
            · have n32 : ((d.toNat : Int) != 32) = true := by
                have : d.toNat ≠ 32 := fun q => h32 (UInt8.toNat_inj.1 q)
                simp; omega
              have HN : Hid (RW = none) := hidD (by rw [HRW.out, RC.out, HU.out, rw_stuck _ _ _ (by simp) (by simpa using h32)]; rfl)
              clear h32
              go_wp2
              go_ret3
              rw [HN.out]
              exact ⟨rfl, D.out.2.2.2.2.2⟩
    | cons c ps =>
      rw [hrem] at G RR
      have f1 : decide ((pre.length : Int) < ((bs (pre ++ c :: ps)).size : Int)) = true := by rw [bs_size]; simp; omega
      have f1n : decide (pre.length < (bs (pre ++ c :: ps)).size) = true := by rw [bs_size]; simp
      have ixp : ∀ W, (Instr.index 9 (.string (bs (pre ++ c :: ps))) (.int .i64 (pre.length : Nat))).run Tryz.prog W = .ok (.int .u8 (c.toNat : Nat)) W := ix_str _ _ _ (by simp)
      by_cases h42 : c = 42
      · subst h42
        change ∀ W, (Instr.index 9 (.string (bs (pre ++ 42 :: ps))) (.int .i64 (pre.length : Nat))).run Tryz.prog W = .ok (.int .u8 42) W at ixp
        have HPW' := HPW.out
        have sa : ∀ W, (Instr.slice 9 (.string (bs (pre ++ 42 :: ps))) (some (.int .i64 (wrap64 ((pre.length : Int) + 1)))) none none).run Tryz.prog W = .ok (.string (bs ps)) W := fun W => by
          have q := SF.out (pre ++ 42 :: ps) (pre.length + 1) (by simp) W
          rw [show (pre ++ 42 :: ps).drop (pre.length + 1) = ps from by rw [← List.drop_drop]; simp] at q
          rw [HPW.out]; exact q
        have sb : ∀ W, (Instr.slice 9 (.string (bs (pre ++ 42 :: ps))) none (some (.int .i64 (pre.length : Nat))) none).run Tryz.prog W = .ok (.string (bs pre)) W := fun W => by
          have q := sl_to (pre ++ 42 :: ps) pre.length (by simp) W
          rwa [show (pre ++ 42 :: ps).take pre.length = pre from by simp] at q
        have ex : (bs (pre ++ 42 :: ps)).extract (wrap64 ((pre.length : Int) + 1)).toNat (bs (pre ++ 42 :: ps)).size = bs ps := by
          rw [HPW.out, Int.toNat_natCast, ex_drop, show (pre ++ 42 :: ps).drop (pre.length + 1) = ps from by rw [← List.drop_drop]; simp]
        have f3 : decide (((bs pre).size : Int) ≤ (pre.length : Int)) = true := by rw [bs_size]; simp
        have f4 : decide ((bs pre).size ≤ pre.length) = true := by rw [bs_size]; simp
        generalize bs (pre ++ 42 :: ps) = x at *
        obtain ⟨agg, hagg⟩ : ∃ agg, agg = ps := ⟨_, rfl⟩
        rw [← hagg] at sa ex
        have HAG : Hid (agg = ps) := hagg
        clear hagg hrem HPW'
        have RE : Hid (rwords pt [] s = (rwords [] agg u).map (fun q => (ns ++ q.1, xs ++ q.2)) ∧ (∀ c ∈ agg, c ≠ 42) ∧ agg.length ≤ 10) := hidD (by rw [HAG.out]; exact ⟨RR.out.trans (by rw [rw_star]), Inv.star G.out.2.1.2.2.2.2, by have := G.out.2.1.2.2.1; simp at this; omega⟩)
        have YE : Hid (agg = [] → (bs agg).toList.isEmpty = true ∧ ((bs agg).toList == []) = true) := fun q => by rw [q, ByteArray.toList_eq, bs_list]; exact ⟨rfl, rfl⟩
        have YN : Hid (agg ≠ [] → (bs agg).toList.isEmpty = false ∧ ((bs agg).toList == []) = false) := fun q => by
          rw [ByteArray.toList_eq, bs_list]; cases agg with
          | nil => exact absurd rfl q
          | cons c r => exact ⟨rfl, rfl⟩
        have HPY : Hid (bs pre ++ bs agg = bs (pre ++ agg)) := bs_append _ _
        have IXY : Hid (∀ c ps, agg = c :: ps → ∀ W, (Instr.index 9 (.string (bs pre ++ bs agg)) (.int .i64 (pre.length : Nat))).run Tryz.prog W = .ok (.int .u8 (c.toNat : Nat)) W) := fun c ps h => by
          rw [bs_append]; exact ix_str _ _ _ (by rw [h]; simp)
        have HPS : (bs pre).size = pre.length := bs_size pre
        have s1 : ¬ 9223372036854775807 < (bs pre).size + (bs agg).size := by
          rw [bs_size, bs_size]; have := G.out; have := RE.out.2.2; omega
        have f6 : decide ((bs pre).size ≤ pre.length) = true := by rw [bs_size]; simp
        generalize bs pre = xp at *
        generalize hy : bs agg = y at *
        have HY : Hid (y = bs agg) := hy.symm
        clear hy
        have f5 : ((pre.length : Int) == (xp.size : Int)) = true := by rw [HPS]; simp
        clear HPS
        by_cases hu : u = []
        · have zz := zE.out hu
          have HN : Hid (RW = some (ns, xs)) := hidD (by rw [HRW.out, RE.out.1, hu, rw_end]; simp)
          generalize bs u = z at *
          by_cases hag : agg = []
          · have yz := YE.out hag
            clear hu hag 
            go_wp2
            go_ret3
            rw [HN.out]
            exact ⟨⟨a1, cap1, a2, cap2, rfl, D.out.1.widen fun b q => (D.out.2.2.2.1 b q).1, D.out.2.1.widen fun b q => (D.out.2.2.2.2.1 b q).1⟩, D.out.2.2.2.2.2⟩
          · have yz := YN.out hag
            clear hu hag 
            go_wp2
            go_ret3
            rw [HN.out]
            exact ⟨⟨a1, cap1, a2, cap2, rfl, D.out.1.widen fun b q => (D.out.2.2.2.1 b q).1, D.out.2.1.widen fun b q => (D.out.2.2.2.2.1 b q).1⟩, D.out.2.2.2.2.2⟩
        · by_cases hag : agg = []
          · have zz := zN.out hu
            have HN : Hid (RW = none) := hidD (by rw [HRW.out, RE.out.1, hag, rw_over u hu]; rfl)
            have yz := YE.out hag
            clear hu hag 
            generalize bs u = z at *
            go_wp2
            go_ret3
            rw [HN.out]
            exact ⟨rfl, D.out.2.2.2.2.2⟩
          · have yz := YN.out hag
            obtain ⟨c, ps, hcp⟩ : ∃ c ps, agg = c :: ps := by
              cases agg with
              | nil => exact absurd rfl hag
              | cons c ps => exact ⟨c, ps, rfl⟩
            have HU0 : Hid (u ≠ []) := hu
            have HP : Hid (xp ++ y = bs (pre ++ c :: ps)) := hidD (by rw [HPY.out, hcp])
            have ixp := IXY.out c ps hcp
            clear hu hag
            have RC : Hid (rwords pt [] s = (rwords (c :: ps) agg u).map (fun q => (ns ++ q.1, xs ++ q.2))) := hidD (by have q := RE.out.1; rw [rw_again _ _ HU0.out (by rw [hcp]; simp) (by rw [hcp]; simpa using RE.out.2.1 c (by rw [hcp]; simp))] at q; rw [q]; rw [← hcp])
            have IV : Hid (Inv (c :: ps) agg ∧ c ≠ 42 ∧ ps.length ≤ 10 ∧ agg.length ≤ 10) := hidD (by have q := Inv.again RE.out.2.1; refine ⟨by rw [← hcp]; exact q, RE.out.2.1 c (by rw [hcp]; simp), ?_, RE.out.2.2⟩; have := RE.out.2.2; rw [hcp] at this; simp at this; omega)
            cases hu : u with
            | nil => exact absurd hu HU0.out
            | cons d v =>
              have zz := zN.out (by rw [hu]; simp)
              have i0 := U0.out d v hu
              have i1 := U1.out d v hu
              rw [hu] at zz i0 i1
              have HU : Hid (u = d :: v) := hu
              clear hu  hcp
              generalize bs (d :: v) = z at *
              by_cases h32 : d = 32
              · subst h32
                change ∀ W, (Instr.index 9 (.string z) (.int .i64 0)).run Tryz.prog W = .ok (.int .u8 32) W at i0
                by_cases h110 : c = 110
                · have e110 : ((c.toNat : Int) == 110) = true := by rw [h110]; rfl
                  have h91 : ∀ W, Calls Tryz.prog 91 #[.string (bs v)] W fun e w' => e = .returned (.tuple #[.int .i64 (numV v).1, .int .i64 ((numV v).2 : Nat)]) ∧ W = w' := fun W => (number_doc v (by have := G.out; rw [HU.out] at this; simp at this; omega) W).mono fun e w' h => ⟨h.1, h.2.symm⟩
                  cases hn : rNum v with
                  | none =>
                    rw [num_no hn] at h91
                    have HN : Hid (RW = none) := hidD (by
                      rw [HRW.out, RC.out, HU.out, rw_cons, show nextW (c :: ps) agg = (c :: ps, agg) from by simp [nextW, IV.out.2.1]]
                      simp [h110, hn])
                    clear hn h110
                    go_wp2_with (first | (go_at_call 91; (with_reducible refine (h91 _).mono ?_); rintro e w4 ⟨rfl, rfl⟩) | (at_builtin; refine wpList_append rfl _ _ 34 34 rfl (D.out.1.turned (Turned.alloc (fun _ => False) wr _) fun _ _ q => q) Tryz.underlying34 info3 rfl (by decide) rfl (.slice (some ⟨wr.heap.size, 0, none⟩) 1 1) rfl (src_one Tryz.underlying34 _ rfl wr) c3.out.1 c3.out.2 ?_; intro x4 w9 q1 t1; obtain ⟨a3, cap3, hv3, -, -⟩ := q1.value; subst hv3; have Q1 := hid_two q1 t1; clear q1 t1))
                    go_ret3
                    rw [HN.out]
                    exact ⟨rfl, D.out.2.2.2.2.2.comp ((Turned.alloc S1 wr _).trans Q1.out.2 fun _ _ q => q) fun b hb q => q.elim id fun q => by have := (D.out.2.2.2.1 b q).1; omega⟩
                  | some q =>
                    obtain ⟨n, r⟩ := q
                    obtain ⟨e1, e2, e3, e4⟩ := num_drop hn
                    rw [e1] at h91
                    have sl := SF.out v _ e4
                    rw [e2] at sl
                    generalize v.length - r.length = m at *
                    have m0 : ((m : Int) == 0) = false := by simp; omega
                    have HN : Hid (rNum v = some (n, r) ∧ c = 110) := ⟨hn, h110⟩
                    clear hn e1 e2 e3 e4 h110
                    go_wp2_with (first | (go_at_call 91; (with_reducible refine (h91 _).mono ?_); rintro e w4 ⟨rfl, rfl⟩) | (at_builtin; refine wpList_append rfl _ _ 34 34 rfl (D.out.1.turned (Turned.alloc (fun _ => False) wr _) fun _ _ q => q) Tryz.underlying34 info3 rfl (by decide) rfl (.slice (some ⟨wr.heap.size, 0, none⟩) 1 1) rfl (src_one Tryz.underlying34 _ rfl wr) c3.out.1 c3.out.2 ?_; intro x4 w9 q1 t1; obtain ⟨a3, cap3, hv3, -, -⟩ := q1.value; subst hv3; have Q1 := hid_two q1 t1; clear q1 t1))
                    go_roundg r.length
                    case measure => have := G.out.1; have := rNum_lt HN.out.1; rw [HU.out] at *; simp at *; omega
                    case rel => exact word_num RC.out HN.out.2 HU.out HN.out.1 ⟨G.out.2.1.1, G.out.2.1.2.1, IV.out.2.2.1, IV.out.2.2.2, IV.out.1.tail⟩ D.out.2.1 D.out.2.2.1 D.out.2.2.2.1 D.out.2.2.2.2.1 D.out.2.2.2.2.2 (Turned.refl _ wr) Q1.out.1 Q1.out.2 rfl (by first | rfl | simp [HP.out]) (by first | rfl | rw [HY.out]) (by rw [HPW.out]) rfl
                · have e110 : ((c.toNat : Int) == 110) = false := by
                    have : c.toNat ≠ 110 := fun q => h110 (UInt8.toNat_inj.1 q)
                    simp; omega
                  have h92 : ∀ W, Calls Tryz.prog 92 #[.string (bs v)] W (QuoPost W (quoV v)) := fun W => quoted_any v (by have := G.out; rw [HU.out] at this; simp at this; omega) W
                  cases hn : rText v with
                  | none =>
                    rw [quoV_none hn] at h92
                    have h92 : ∀ W, Calls Tryz.prog 92 #[.string (bs v)] W fun e w' => e = .returned (.tuple #[.string (bs []), .int .i64 0]) ∧ Turned (fun _ => False) W w' := h92
                    have HN : Hid (RW = none) := hidD (by
                      rw [HRW.out, RC.out, HU.out, rw_cons, show nextW (c :: ps) agg = (c :: ps, agg) from by simp [nextW, IV.out.2.1]]
                      simp [h110, hn])
                    clear hn h110
                    generalize bs [] = zn at *
                    go_wp2_with (first | (go_at_call 92; (with_reducible refine (h92 _).mono ?_); rintro e w4 ⟨rfl, ht4⟩; have T4 : Hid (Turned (fun _ => False) wr w4) := ht4; clear ht4 h92) | (at_builtin; refine wpList_append rfl _ _ 24 24 rfl ((D.out.2.1.turned T4.out fun _ _ q => q).turned (Turned.alloc (fun _ => False) w4 _) fun _ _ q => q) Tryz.underlying24 info9 rfl (by decide) rfl (.slice (some ⟨w4.heap.size, 0, none⟩) 1 1) rfl (src_one Tryz.underlying24 _ rfl w4) c9.out.1 c9.out.2 ?_; intro x4 w9 q1 t1; obtain ⟨a3, cap3, hv3, -, -⟩ := q1.value; subst hv3; have Q1 := hid_two q1 t1; clear q1 t1))
                    go_ret3
                    rw [HN.out]
                    exact ⟨rfl, (D.out.2.2.2.2.2.trans T4.out fun _ _ q => q).comp ((Turned.alloc S2 w4 _).trans Q1.out.2 fun _ _ q => q) fun b hb q => q.elim id fun q => by have := (D.out.2.2.2.2.1 b q).1; omega⟩
                  | some q =>
                    obtain ⟨x, r⟩ := q
                    obtain ⟨e1, e2, e3, e4⟩ := quo_drop hn
                    rw [e1] at h92
                    have h92 : ∀ W, Calls Tryz.prog 92 #[.string (bs v)] W fun e w' => e = .returned (.tuple #[.string (bs x), .int .i64 ((v.length - r.length : Nat) : Int)]) ∧ Turned (fun _ => False) W w' := h92
                    have sl := SF.out v _ e4
                    rw [e2] at sl
                    generalize v.length - r.length = m at *
                    have m0 : ((m : Int) == 0) = false := by simp; omega
                    have HN : Hid (rText v = some (x, r) ∧ c ≠ 110) := ⟨hn, h110⟩
                    clear hn e1 e2 e3 e4 h110
                    go_wp2_with (first | (go_at_call 92; (with_reducible refine (h92 _).mono ?_); rintro e w4 ⟨rfl, ht4⟩; have T4 : Hid (Turned (fun _ => False) wr w4) := ht4; clear ht4 h92) | (at_builtin; refine wpList_append rfl _ _ 24 24 rfl ((D.out.2.1.turned T4.out fun _ _ q => q).turned (Turned.alloc (fun _ => False) w4 _) fun _ _ q => q) Tryz.underlying24 info9 rfl (by decide) rfl (.slice (some ⟨w4.heap.size, 0, none⟩) 1 1) rfl (src_one Tryz.underlying24 _ rfl w4) c9.out.1 c9.out.2 ?_; intro x4 w9 q1 t1; obtain ⟨a3, cap3, hv3, -, -⟩ := q1.value; subst hv3; have Q1 := hid_two q1 t1; clear q1 t1))
                    go_roundg r.length
                    case measure => have := G.out.1; have := rText_lt HN.out.1; rw [HU.out] at *; simp at *; omega
                    case rel => exact word_quo RC.out HN.out.2 IV.out.2.1 HU.out HN.out.1 ⟨G.out.2.1.1, G.out.2.1.2.1, IV.out.2.2.1, IV.out.2.2.2, IV.out.1.tail⟩ D.out.1 D.out.2.2.1 D.out.2.2.2.1 D.out.2.2.2.2.1 D.out.2.2.2.2.2 T4.out Q1.out.1 Q1.out.2 rfl (by first | rfl | simp [HP.out]) (by first | rfl | rw [HY.out]) (by rw [HPW.out]) rfl
              · have n32 : ((d.toNat : Int) != 32) = true := by
                  have : d.toNat ≠ 32 := fun q => h32 (UInt8.toNat_inj.1 q)
                  simp; omega
                have HN : Hid (RW = none) := hidD (by rw [HRW.out, RC.out, HU.out, rw_stuck _ _ _ (by simp) (by simpa using h32)]; rfl)
                clear h32
                go_wp2
                go_ret3
                rw [HN.out]
                exact ⟨rfl, D.out.2.2.2.2.2⟩
      · have n42 : ((c.toNat : Int) == 42) = false := by
          have : c.toNat ≠ 42 := fun q => h42 (UInt8.toNat_inj.1 q)
          simp; omega
        have f2 : decide (((bs (pre ++ c :: ps)).size : Int) ≤ (pre.length : Int)) = false := by rw [bs_size]; simp; omega
        have f2n : decide ((bs (pre ++ c :: ps)).size ≤ pre.length) = false := by rw [bs_size]; simp
        obtain ⟨agg, hagg⟩ : ∃ agg, agg = ag := ⟨_, rfl⟩
        rw [← hagg]
        have HAG : Hid (agg = ag) := hagg
        have HP : Hid (bs (pre ++ c :: ps) = bs (pre ++ c :: ps)) := rfl
        generalize hx : bs (pre ++ c :: ps) = x at *
        have HX : Hid (x = bs (pre ++ c :: ps)) := hx.symm
        clear hagg hx HP
        have RC : Hid (rwords pt [] s = (rwords (c :: ps) agg u).map (fun q => (ns ++ q.1, xs ++ q.2))) := hidD (by rw [HAG.out]; exact RR.out)
        have IV : Hid (Inv (c :: ps) agg ∧ c ≠ 42 ∧ ps.length ≤ 10 ∧ agg.length ≤ 10) := hidD (by rw [HAG.out]; exact ⟨G.out.2.1.2.2.2.2, h42, by have := G.out.2.1.2.2.1; simp at this; omega, G.out.2.1.2.2.2.1⟩)
        cases hu : u with
        | nil =>
          have zz := zE.out hu
          have HN : Hid (RW = none) := hidD (by rw [HRW.out, RC.out, hu, rw_short _ _ _ IV.out.2.1]; rfl)
          rw [hu] at zz
          clear hu h42 hrem
          generalize bs [] = z at *
          go_wp2
          go_ret3
          rw [HN.out]
          exact ⟨rfl, D.out.2.2.2.2.2⟩
        | cons d v =>
          have zz := zN.out (by rw [hu]; simp)
          have i0 := U0.out d v hu
          have i1 := U1.out d v hu
          rw [hu] at zz i0 i1
          have HU : Hid (u = d :: v) := hu
          clear hu h42 hrem
          generalize bs (d :: v) = z at *
          by_cases h32 : d = 32
          · subst h32
            change ∀ W, (Instr.index 9 (.string z) (.int .i64 0)).run Tryz.prog W = .ok (.int .u8 32) W at i0
            by_cases h110 : c = 110
            · have e110 : ((c.toNat : Int) == 110) = true := by rw [h110]; rfl
              have h91 : ∀ W, Calls Tryz.prog 91 #[.string (bs v)] W fun e w' => e = .returned (.tuple #[.int .i64 (numV v).1, .int .i64 ((numV v).2 : Nat)]) ∧ W = w' := fun W => (number_doc v (by have := G.out; rw [HU.out] at this; simp at this; omega) W).mono fun e w' h => ⟨h.1, h.2.symm⟩
              cases hn : rNum v with
              | none =>
                rw [num_no hn] at h91
                have HN : Hid (RW = none) := hidD (by
                  rw [HRW.out, RC.out, HU.out, rw_cons, show nextW (c :: ps) agg = (c :: ps, agg) from by simp [nextW, IV.out.2.1]]
                  simp [h110, hn])
                clear hn h110
                go_wp2_with (first | (go_at_call 91; (with_reducible refine (h91 _).mono ?_); rintro e w4 ⟨rfl, rfl⟩) | (at_builtin; refine wpList_append rfl _ _ 34 34 rfl (D.out.1.turned (Turned.alloc (fun _ => False) wr _) fun _ _ q => q) Tryz.underlying34 info3 rfl (by decide) rfl (.slice (some ⟨wr.heap.size, 0, none⟩) 1 1) rfl (src_one Tryz.underlying34 _ rfl wr) c3.out.1 c3.out.2 ?_; intro x4 w9 q1 t1; obtain ⟨a3, cap3, hv3, -, -⟩ := q1.value; subst hv3; have Q1 := hid_two q1 t1; clear q1 t1))
                go_ret3
                rw [HN.out]
                exact ⟨rfl, D.out.2.2.2.2.2.comp ((Turned.alloc S1 wr _).trans Q1.out.2 fun _ _ q => q) fun b hb q => q.elim id fun q => by have := (D.out.2.2.2.1 b q).1; omega⟩
              | some q =>
                obtain ⟨n, r⟩ := q
                obtain ⟨e1, e2, e3, e4⟩ := num_drop hn
                rw [e1] at h91
                have sl := SF.out v _ e4
                rw [e2] at sl
                generalize v.length - r.length = m at *
                have m0 : ((m : Int) == 0) = false := by simp; omega
                have HN : Hid (rNum v = some (n, r) ∧ c = 110) := ⟨hn, h110⟩
                clear hn e1 e2 e3 e4 h110
                go_wp2_with (first | (go_at_call 91; (with_reducible refine (h91 _).mono ?_); rintro e w4 ⟨rfl, rfl⟩) | (at_builtin; refine wpList_append rfl _ _ 34 34 rfl (D.out.1.turned (Turned.alloc (fun _ => False) wr _) fun _ _ q => q) Tryz.underlying34 info3 rfl (by decide) rfl (.slice (some ⟨wr.heap.size, 0, none⟩) 1 1) rfl (src_one Tryz.underlying34 _ rfl wr) c3.out.1 c3.out.2 ?_; intro x4 w9 q1 t1; obtain ⟨a3, cap3, hv3, -, -⟩ := q1.value; subst hv3; have Q1 := hid_two q1 t1; clear q1 t1))
                go_roundg r.length
                case measure => have := G.out.1; have := rNum_lt HN.out.1; rw [HU.out] at *; simp at *; omega
                case rel => exact word_num RC.out HN.out.2 HU.out HN.out.1 ⟨G.out.2.1.1, G.out.2.1.2.1, IV.out.2.2.1, IV.out.2.2.2, IV.out.1.tail⟩ D.out.2.1 D.out.2.2.1 D.out.2.2.2.1 D.out.2.2.2.2.1 D.out.2.2.2.2.2 (Turned.refl _ wr) Q1.out.1 Q1.out.2 rfl (by first | rfl | simp [HX.out]) (by first | rfl | rw [HY.out]) (by rw [HPW.out]) rfl
            · have e110 : ((c.toNat : Int) == 110) = false := by
                have : c.toNat ≠ 110 := fun q => h110 (UInt8.toNat_inj.1 q)
                simp; omega
              have h92 : ∀ W, Calls Tryz.prog 92 #[.string (bs v)] W (QuoPost W (quoV v)) := fun W => quoted_any v (by have := G.out; rw [HU.out] at this; simp at this; omega) W
              cases hn : rText v with
              | none =>
                rw [quoV_none hn] at h92
                have h92 : ∀ W, Calls Tryz.prog 92 #[.string (bs v)] W fun e w' => e = .returned (.tuple #[.string (bs []), .int .i64 0]) ∧ Turned (fun _ => False) W w' := h92
                have HN : Hid (RW = none) := hidD (by
                  rw [HRW.out, RC.out, HU.out, rw_cons, show nextW (c :: ps) agg = (c :: ps, agg) from by simp [nextW, IV.out.2.1]]
                  simp [h110, hn])
                clear hn h110
                generalize bs [] = zn at *
                go_wp2_with (first | (go_at_call 92; (with_reducible refine (h92 _).mono ?_); rintro e w4 ⟨rfl, ht4⟩; have T4 : Hid (Turned (fun _ => False) wr w4) := ht4; clear ht4 h92) | (at_builtin; refine wpList_append rfl _ _ 24 24 rfl ((D.out.2.1.turned T4.out fun _ _ q => q).turned (Turned.alloc (fun _ => False) w4 _) fun _ _ q => q) Tryz.underlying24 info9 rfl (by decide) rfl (.slice (some ⟨w4.heap.size, 0, none⟩) 1 1) rfl (src_one Tryz.underlying24 _ rfl w4) c9.out.1 c9.out.2 ?_; intro x4 w9 q1 t1; obtain ⟨a3, cap3, hv3, -, -⟩ := q1.value; subst hv3; have Q1 := hid_two q1 t1; clear q1 t1))
                go_ret3
                rw [HN.out]
                exact ⟨rfl, (D.out.2.2.2.2.2.trans T4.out fun _ _ q => q).comp ((Turned.alloc S2 w4 _).trans Q1.out.2 fun _ _ q => q) fun b hb q => q.elim id fun q => by have := (D.out.2.2.2.2.1 b q).1; omega⟩
              | some q =>
                obtain ⟨x, r⟩ := q
                obtain ⟨e1, e2, e3, e4⟩ := quo_drop hn
                rw [e1] at h92
                have h92 : ∀ W, Calls Tryz.prog 92 #[.string (bs v)] W fun e w' => e = .returned (.tuple #[.string (bs x), .int .i64 ((v.length - r.length : Nat) : Int)]) ∧ Turned (fun _ => False) W w' := h92
                have sl := SF.out v _ e4
                rw [e2] at sl
                generalize v.length - r.length = m at *
                have m0 : ((m : Int) == 0) = false := by simp; omega
                have HN : Hid (rText v = some (x, r) ∧ c ≠ 110) := ⟨hn, h110⟩
                clear hn e1 e2 e3 e4 h110
                go_wp2_with (first | (go_at_call 92; (with_reducible refine (h92 _).mono ?_); rintro e w4 ⟨rfl, ht4⟩; have T4 : Hid (Turned (fun _ => False) wr w4) := ht4; clear ht4 h92) | (at_builtin; refine wpList_append rfl _ _ 24 24 rfl ((D.out.2.1.turned T4.out fun _ _ q => q).turned (Turned.alloc (fun _ => False) w4 _) fun _ _ q => q) Tryz.underlying24 info9 rfl (by decide) rfl (.slice (some ⟨w4.heap.size, 0, none⟩) 1 1) rfl (src_one Tryz.underlying24 _ rfl w4) c9.out.1 c9.out.2 ?_; intro x4 w9 q1 t1; obtain ⟨a3, cap3, hv3, -, -⟩ := q1.value; subst hv3; have Q1 := hid_two q1 t1; clear q1 t1))
                go_roundg r.length
                case measure => have := G.out.1; have := rText_lt HN.out.1; rw [HU.out] at *; simp at *; omega
                case rel => exact word_quo RC.out HN.out.2 IV.out.2.1 HU.out HN.out.1 ⟨G.out.2.1.1, G.out.2.1.2.1, IV.out.2.2.1, IV.out.2.2.2, IV.out.1.tail⟩ D.out.1 D.out.2.2.1 D.out.2.2.2.1 D.out.2.2.2.2.1 D.out.2.2.2.2.2 T4.out Q1.out.1 Q1.out.2 rfl (by first | rfl | simp [HX.out]) (by first | rfl | rw [HY.out]) (by rw [HPW.out]) rfl
          · have n32 : ((d.toNat : Int) != 32) = true := by
              have : d.toNat ≠ 32 := fun q => h32 (UInt8.toNat_inj.1 q)
              simp; omega
            have HN : Hid (RW = none) := hidD (by rw [HRW.out, RC.out, HU.out, rw_stuck _ _ _ (by simp) (by simpa using h32)]; rfl)
            clear h32
            go_wp2
            go_ret3
            rw [HN.out]
            exact ⟨rfl, D.out.2.2.2.2.2⟩
end Go.Proofs.YteblabpplaaddaaGreatDoor

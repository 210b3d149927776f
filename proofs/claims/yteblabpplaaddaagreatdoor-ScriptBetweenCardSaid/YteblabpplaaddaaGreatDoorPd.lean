/- A script read: the contract of Parse. -/
import Derived.Test.YteblabpplaaddaaGreatDoorPc
set_option linter.unusedVariables false
set_option linter.unusedSimpArgs false
namespace Go.Proofs.YteblabpplaaddaaGreatDoor
open Go.RowKit Go.Mine Go.Mine.Sc

set_option maxRecDepth 100000 in
set_option maxHeartbeats 4000000 in
theorem p_ends_big (w0 w : World) (t : B) (hL : Lw w0 w) (hs : t.length ≤ 4611686018427387904) (ht : t ≠ []) (hl : t.getLast? = some 10) (hb : 65536 < t.length) : Calls Tryz.prog 12 #[.string (bs t)] w (ParsePost w (([], 5))) := by
  have h10 := fun W => count10 t W
  have h11 : ∀ W, Calls Tryz.prog 11 #[.string (bs t), .string ⟨#[10]⟩] W fun e w' => e = .returned (.bool true) ∧ w' = W := fun W => by
    have := suffix10 t hs W
    rwa [decide_eq_true hl] at this
  have hne : ((bs t).toList == []) = false := by
    rw [ByteArray.toList_eq, bs_list]
    cases t with
    | nil => exact absurd rfl ht
    | cons c r => rfl
  have hd1 : decide ((65536 : Int) < ((bs t).size : Int)) = true := by rw [bs_size]; simp; omega
  obtain ⟨Q, hQ⟩ : ∃ Q, Q = ParsePost w (([], 5)) := ⟨_, rfl⟩
  rw [← hQ]
  clear hl hb ht
  obtain ⟨z, hz⟩ : ∃ z, z = bs t := ⟨_, rfl⟩
  rw [← hz] at h10 h11 hne hd1 ⊢
  have HZ : Hid (z = bs t) := hz
  clear hz
  refine calls_of_wpAt_marks (n := 3) Tryz.func12 rfl ?_
  simp only [Tryz.ntmps12, List.size_toArray, List.length_cons, List.length_nil, Nat.reduceAdd, Nat.reduceSub, Array.replicate_succ, Array.replicate_zero, List.push_toArray, List.append_toArray, List.nil_append, List.cons_append]
  refine wpAt_seq (wpAt_of_wpIn ?_)
  gi_wp2
  refine wpAt_seq (wpAt_of_wpIn ?_)
  gi_wp2_with (refine ⟨trivial, (callsIn_wide.2 (h10 _)).mono ?_⟩; rintro e w1 ⟨rfl, rfl⟩)
  refine wpAt_seq (wpAt_of_wpIn ?_)
  gi_wp2_with (refine ⟨trivial, (callsIn_wide.2 (h11 _)).mono ?_⟩; rintro e w1 ⟨rfl, rfl⟩)
  refine wpAt_seq (wpAt_of_wpIn ?_)
  gi_wp2
  have r0 : ((w.alloc (.cells #[.slice none 0 0] 29)).alloc (.cells #[.int .i64 5] 30)).heap[w.heap.size]? = some (.cells #[.slice none 0 0] 29 (0, 0)) := Go.Mine.heap_alloc_old (heap_alloc_new w _)
  have r1 : ((w.alloc (.cells #[.slice none 0 0] 29)).alloc (.cells #[.int .i64 5] 30)).heap[w.heap.size + 1]? = some (.cells #[.int .i64 5] 30 (0, 0)) := by simpa using heap_alloc_new (w.alloc (.cells #[.slice none 0 0] 29)) (.cells #[.int .i64 5] 30)
  have rt : Turned (fun _ => False) w ((w.alloc (.cells #[.slice none 0 0] 29)).alloc (.cells #[.int .i64 5] 30)) := ((Turned.refl _ w).new _).new _
  generalize ((w.alloc (.cells #[.slice none 0 0] 29)).alloc (.cells #[.int .i64 5] 30)) = wE at *
  have d0 := cell_of r0 0 _ rfl
  have d1 := cell_of r1 0 _ rfl
  simp only [List.getElem_toArray, List.getElem_cons_zero] at d0 d1
  simp [bodyPostM, LeavesInM, LeavesIn, results, Tryz.results12, go_sem, d0, d1]
  rw [hQ]
  exact ⟨⟨_, rfl, CmdsAt.nil _ _ _⟩, rt⟩

set_option maxRecDepth 100000 in
set_option maxHeartbeats 4000000 in
theorem p_ends_many (w0 w : World) (t : B) (hL : Lw w0 w) (hs : t.length ≤ 4611686018427387904) (ht : t ≠ []) (hl : t.getLast? = some 10) (hb : t.length ≤ 65536) (hm : 1024 < nLines t) : Calls Tryz.prog 12 #[.string (bs t)] w (ParsePost w (([], 5))) := by
  have h10 := fun W => count10 t W
  have h11 : ∀ W, Calls Tryz.prog 11 #[.string (bs t), .string ⟨#[10]⟩] W fun e w' => e = .returned (.bool true) ∧ w' = W := fun W => by
    have := suffix10 t hs W
    rwa [decide_eq_true hl] at this
  have hne : ((bs t).toList == []) = false := by
    rw [ByteArray.toList_eq, bs_list]
    cases t with
    | nil => exact absurd rfl ht
    | cons c r => rfl
  have hd1 : decide ((65536 : Int) < ((bs t).size : Int)) = false := by rw [bs_size]; simp; omega
  have hn := nLines_ends (.inr hl)
  have hd2 : decide ((1024 : Int) < ((t.count 10 : Nat) : Int)) = true := by rw [hn] at hm; simp; omega
  obtain ⟨Q, hQ⟩ : ∃ Q, Q = ParsePost w (([], 5)) := ⟨_, rfl⟩
  rw [← hQ]
  clear hl hb ht hm hn
  obtain ⟨z, hz⟩ : ∃ z, z = bs t := ⟨_, rfl⟩
  rw [← hz] at h10 h11 hne hd1 ⊢
  have HZ : Hid (z = bs t) := hz
  clear hz
  refine calls_of_wpAt_marks (n := 3) Tryz.func12 rfl ?_
  simp only [Tryz.ntmps12, List.size_toArray, List.length_cons, List.length_nil, Nat.reduceAdd, Nat.reduceSub, Array.replicate_succ, Array.replicate_zero, List.push_toArray, List.append_toArray, List.nil_append, List.cons_append]
  refine wpAt_seq (wpAt_of_wpIn ?_)
  gi_wp2
  refine wpAt_seq (wpAt_of_wpIn ?_)
  gi_wp2_with (refine ⟨trivial, (callsIn_wide.2 (h10 _)).mono ?_⟩; rintro e w1 ⟨rfl, rfl⟩)
  refine wpAt_seq (wpAt_of_wpIn ?_)
  gi_wp2_with (refine ⟨trivial, (callsIn_wide.2 (h11 _)).mono ?_⟩; rintro e w1 ⟨rfl, rfl⟩)
  refine wpAt_seq (wpAt_of_wpIn ?_)
  gi_wp2
  have r0 : ((w.alloc (.cells #[.slice none 0 0] 29)).alloc (.cells #[.int .i64 5] 30)).heap[w.heap.size]? = some (.cells #[.slice none 0 0] 29 (0, 0)) := Go.Mine.heap_alloc_old (heap_alloc_new w _)
  have r1 : ((w.alloc (.cells #[.slice none 0 0] 29)).alloc (.cells #[.int .i64 5] 30)).heap[w.heap.size + 1]? = some (.cells #[.int .i64 5] 30 (0, 0)) := by simpa using heap_alloc_new (w.alloc (.cells #[.slice none 0 0] 29)) (.cells #[.int .i64 5] 30)
  have rt : Turned (fun _ => False) w ((w.alloc (.cells #[.slice none 0 0] 29)).alloc (.cells #[.int .i64 5] 30)) := ((Turned.refl _ w).new _).new _
  generalize ((w.alloc (.cells #[.slice none 0 0] 29)).alloc (.cells #[.int .i64 5] 30)) = wE at *
  have d0 := cell_of r0 0 _ rfl
  have d1 := cell_of r1 0 _ rfl
  simp only [List.getElem_toArray, List.getElem_cons_zero] at d0 d1
  simp [bodyPostM, LeavesInM, LeavesIn, results, Tryz.results12, go_sem, d0, d1]
  rw [hQ]
  exact ⟨⟨_, rfl, CmdsAt.nil _ _ _⟩, rt⟩

set_option maxRecDepth 100000 in
set_option maxHeartbeats 4000000 in
theorem p_ends_ok (w0 w : World) (t : B) (hL : Lw w0 w) (hs : t.length ≤ 4611686018427387904) (ht : t ≠ []) (hl : t.getLast? = some 10) (hs' : t.length ≤ 65536) (hm : nLines t ≤ 1024) : Calls Tryz.prog 12 #[.string (bs t)] w (ParsePost w (linesS t)) := by
  have h10 := fun W => count10 t W
  have h11 : ∀ W, Calls Tryz.prog 11 #[.string (bs t), .string ⟨#[10]⟩] W fun e w' => e = .returned (.bool true) ∧ w' = W := fun W => by
    have := suffix10 t hs W
    rwa [decide_eq_true hl] at this
  have hne : ((bs t).toList == []) = false := by
    rw [ByteArray.toList_eq, bs_list]
    cases t with
    | nil => exact absurd rfl ht
    | cons c r => rfl
  have hd1 : decide ((65536 : Int) < ((bs t).size : Int)) = false := by rw [bs_size]; simp; omega
  have hn := nLines_ends (.inr hl)
  have hd2 : decide ((1024 : Int) < ((t.count 10 : Nat) : Int)) = false := by rw [hn] at hm; simp; omega
  obtain ⟨Q, hQ⟩ : ∃ Q, Q = ParsePost w (linesS t) := ⟨_, rfl⟩
  rw [← hQ]
  clear hl ht hm hn
  obtain ⟨z, hz⟩ : ∃ z, z = bs t := ⟨_, rfl⟩
  rw [← hz] at h10 h11 hne hd1 ⊢
  have HZ : Hid (z = bs t) := hz
  clear hz
  refine calls_of_wpAt_marks (n := 3) Tryz.func12 rfl ?_
  simp only [Tryz.ntmps12, List.size_toArray, List.length_cons, List.length_nil, Nat.reduceAdd, Nat.reduceSub, Array.replicate_succ, Array.replicate_zero, List.push_toArray, List.append_toArray, List.nil_append, List.cons_append]
  refine wpAt_seq (wpAt_of_wpIn ?_)
  gi_wp2
  refine wpAt_seq (wpAt_of_wpIn ?_)
  gi_wp2_with (refine ⟨trivial, (callsIn_wide.2 (h10 _)).mono ?_⟩; rintro e w1 ⟨rfl, rfl⟩)
  refine wpAt_seq (wpAt_of_wpIn ?_)
  gi_wp2_with (refine ⟨trivial, (callsIn_wide.2 (h11 _)).mono ?_⟩; rintro e w1 ⟨rfl, rfl⟩)
  refine wpAt_seq (wpAt_of_wpIn ?_)
  gi_wp2
  rw [hQ]
  have a0 : ((w.alloc (.cells #[.slice none 0 0] 29)).alloc (.cells #[.int .i64 0] 30)).heap[w.heap.size]? = some (.cells #[.slice none 0 0] 29 (0, 0)) := Go.Mine.heap_alloc_old (heap_alloc_new w _)
  have a1 : ((w.alloc (.cells #[.slice none 0 0] 29)).alloc (.cells #[.int .i64 0] 30)).heap[w.heap.size + 1]? = some (.cells #[.int .i64 0] 30 (0, 0)) := by simpa using heap_alloc_new (w.alloc (.cells #[.slice none 0 0] 29)) (.cells #[.int .i64 0] 30)
  rw [HZ.out]
  exact parse_tail w0 w t hL hs' _ _ _ _ _ _ _ _ _ _ _ _ _ _ _ _ _ _ _ _ _ _ _ _ _ _ _ _ _ _ _ _ _ _ _ _ _ _ _ _ _ a0 a1 (by simp) (((Turned.refl _ w).new _).new _)

set_option maxRecDepth 100000 in
set_option maxHeartbeats 4000000 in
theorem p_open_big (w0 w : World) (t : B) (hL : Lw w0 w) (hs : t.length ≤ 4611686018427387904) (ht : t ≠ []) (hl : ¬ t.getLast? = some 10) (hb : 65536 < t.length) : Calls Tryz.prog 12 #[.string (bs t)] w (ParsePost w (([], 5))) := by
  have h10 := fun W => count10 t W
  have h11 : ∀ W, Calls Tryz.prog 11 #[.string (bs t), .string ⟨#[10]⟩] W fun e w' => e = .returned (.bool false) ∧ w' = W := fun W => by
    have := suffix10 t hs W
    rwa [decide_eq_false hl] at this
  have hne : ((bs t).toList == []) = false := by
    rw [ByteArray.toList_eq, bs_list]
    cases t with
    | nil => exact absurd rfl ht
    | cons c r => rfl
  have hw : wrap64 (((t.count 10 : Nat) : Int) + 1) = ((t.count 10 : Nat) : Int) + 1 := by have := List.count_le_length (a := (10 : UInt8)) (l := t); simp [wrap64]; omega
  have hd1 : decide ((65536 : Int) < ((bs t).size : Int)) = true := by rw [bs_size]; simp; omega
  obtain ⟨Q, hQ⟩ : ∃ Q, Q = ParsePost w (([], 5)) := ⟨_, rfl⟩
  rw [← hQ]
  clear hl hb ht
  obtain ⟨z, hz⟩ : ∃ z, z = bs t := ⟨_, rfl⟩
  rw [← hz] at h10 h11 hne hd1 ⊢
  have HZ : Hid (z = bs t) := hz
  clear hz
  refine calls_of_wpAt_marks (n := 3) Tryz.func12 rfl ?_
  simp only [Tryz.ntmps12, List.size_toArray, List.length_cons, List.length_nil, Nat.reduceAdd, Nat.reduceSub, Array.replicate_succ, Array.replicate_zero, List.push_toArray, List.append_toArray, List.nil_append, List.cons_append]
  refine wpAt_seq (wpAt_of_wpIn ?_)
  gi_wp2
  refine wpAt_seq (wpAt_of_wpIn ?_)
  gi_wp2_with (refine ⟨trivial, (callsIn_wide.2 (h10 _)).mono ?_⟩; rintro e w1 ⟨rfl, rfl⟩)
  refine wpAt_seq (wpAt_of_wpIn ?_)
  gi_wp2_with (refine ⟨trivial, (callsIn_wide.2 (h11 _)).mono ?_⟩; rintro e w1 ⟨rfl, rfl⟩)
  refine wpAt_seq (wpAt_of_wpIn ?_)
  gi_wp2
  have r0 : ((w.alloc (.cells #[.slice none 0 0] 29)).alloc (.cells #[.int .i64 5] 30)).heap[w.heap.size]? = some (.cells #[.slice none 0 0] 29 (0, 0)) := Go.Mine.heap_alloc_old (heap_alloc_new w _)
  have r1 : ((w.alloc (.cells #[.slice none 0 0] 29)).alloc (.cells #[.int .i64 5] 30)).heap[w.heap.size + 1]? = some (.cells #[.int .i64 5] 30 (0, 0)) := by simpa using heap_alloc_new (w.alloc (.cells #[.slice none 0 0] 29)) (.cells #[.int .i64 5] 30)
  have rt : Turned (fun _ => False) w ((w.alloc (.cells #[.slice none 0 0] 29)).alloc (.cells #[.int .i64 5] 30)) := ((Turned.refl _ w).new _).new _
  generalize ((w.alloc (.cells #[.slice none 0 0] 29)).alloc (.cells #[.int .i64 5] 30)) = wE at *
  have d0 := cell_of r0 0 _ rfl
  have d1 := cell_of r1 0 _ rfl
  simp only [List.getElem_toArray, List.getElem_cons_zero] at d0 d1
  simp [bodyPostM, LeavesInM, LeavesIn, results, Tryz.results12, go_sem, d0, d1]
  rw [hQ]
  exact ⟨⟨_, rfl, CmdsAt.nil _ _ _⟩, rt⟩

set_option maxRecDepth 100000 in
set_option maxHeartbeats 4000000 in
theorem p_open_many (w0 w : World) (t : B) (hL : Lw w0 w) (hs : t.length ≤ 4611686018427387904) (ht : t ≠ []) (hl : ¬ t.getLast? = some 10) (hb : t.length ≤ 65536) (hm : 1024 < nLines t) : Calls Tryz.prog 12 #[.string (bs t)] w (ParsePost w (([], 5))) := by
  have h10 := fun W => count10 t W
  have h11 : ∀ W, Calls Tryz.prog 11 #[.string (bs t), .string ⟨#[10]⟩] W fun e w' => e = .returned (.bool false) ∧ w' = W := fun W => by
    have := suffix10 t hs W
    rwa [decide_eq_false hl] at this
  have hne : ((bs t).toList == []) = false := by
    rw [ByteArray.toList_eq, bs_list]
    cases t with
    | nil => exact absurd rfl ht
    | cons c r => rfl
  have hw : wrap64 (((t.count 10 : Nat) : Int) + 1) = ((t.count 10 : Nat) : Int) + 1 := by have := List.count_le_length (a := (10 : UInt8)) (l := t); simp [wrap64]; omega
  have hd1 : decide ((65536 : Int) < ((bs t).size : Int)) = false := by rw [bs_size]; simp; omega
  have hn := nLines_open (t := t) (fun q => q.elim ht hl)
  have hd2 : decide ((1024 : Int) < ((t.count 10 : Nat) : Int) + 1) = true := by rw [hn] at hm; simp; omega
  obtain ⟨Q, hQ⟩ : ∃ Q, Q = ParsePost w (([], 5)) := ⟨_, rfl⟩
  rw [← hQ]
  clear hl hb ht hm hn
  obtain ⟨z, hz⟩ : ∃ z, z = bs t := ⟨_, rfl⟩
  rw [← hz] at h10 h11 hne hd1 ⊢
  have HZ : Hid (z = bs t) := hz
  clear hz
  refine calls_of_wpAt_marks (n := 3) Tryz.func12 rfl ?_
  simp only [Tryz.ntmps12, List.size_toArray, List.length_cons, List.length_nil, Nat.reduceAdd, Nat.reduceSub, Array.replicate_succ, Array.replicate_zero, List.push_toArray, List.append_toArray, List.nil_append, List.cons_append]
  refine wpAt_seq (wpAt_of_wpIn ?_)
  gi_wp2
  refine wpAt_seq (wpAt_of_wpIn ?_)
  gi_wp2_with (refine ⟨trivial, (callsIn_wide.2 (h10 _)).mono ?_⟩; rintro e w1 ⟨rfl, rfl⟩)
  refine wpAt_seq (wpAt_of_wpIn ?_)
  gi_wp2_with (refine ⟨trivial, (callsIn_wide.2 (h11 _)).mono ?_⟩; rintro e w1 ⟨rfl, rfl⟩)
  refine wpAt_seq (wpAt_of_wpIn ?_)
  gi_wp2
  have r0 : ((w.alloc (.cells #[.slice none 0 0] 29)).alloc (.cells #[.int .i64 5] 30)).heap[w.heap.size]? = some (.cells #[.slice none 0 0] 29 (0, 0)) := Go.Mine.heap_alloc_old (heap_alloc_new w _)
  have r1 : ((w.alloc (.cells #[.slice none 0 0] 29)).alloc (.cells #[.int .i64 5] 30)).heap[w.heap.size + 1]? = some (.cells #[.int .i64 5] 30 (0, 0)) := by simpa using heap_alloc_new (w.alloc (.cells #[.slice none 0 0] 29)) (.cells #[.int .i64 5] 30)
  have rt : Turned (fun _ => False) w ((w.alloc (.cells #[.slice none 0 0] 29)).alloc (.cells #[.int .i64 5] 30)) := ((Turned.refl _ w).new _).new _
  generalize ((w.alloc (.cells #[.slice none 0 0] 29)).alloc (.cells #[.int .i64 5] 30)) = wE at *
  have d0 := cell_of r0 0 _ rfl
  have d1 := cell_of r1 0 _ rfl
  simp only [List.getElem_toArray, List.getElem_cons_zero] at d0 d1
  simp [bodyPostM, LeavesInM, LeavesIn, results, Tryz.results12, go_sem, d0, d1]
  rw [hQ]
  exact ⟨⟨_, rfl, CmdsAt.nil _ _ _⟩, rt⟩

set_option maxRecDepth 100000 in
set_option maxHeartbeats 4000000 in
theorem p_open_ok (w0 w : World) (t : B) (hL : Lw w0 w) (hs : t.length ≤ 4611686018427387904) (ht : t ≠ []) (hl : ¬ t.getLast? = some 10) (hs' : t.length ≤ 65536) (hm : nLines t ≤ 1024) : Calls Tryz.prog 12 #[.string (bs t)] w (ParsePost w (linesS t)) := by
  have h10 := fun W => count10 t W
  have h11 : ∀ W, Calls Tryz.prog 11 #[.string (bs t), .string ⟨#[10]⟩] W fun e w' => e = .returned (.bool false) ∧ w' = W := fun W => by
    have := suffix10 t hs W
    rwa [decide_eq_false hl] at this
  have hne : ((bs t).toList == []) = false := by
    rw [ByteArray.toList_eq, bs_list]
    cases t with
    | nil => exact absurd rfl ht
    | cons c r => rfl
  have hw : wrap64 (((t.count 10 : Nat) : Int) + 1) = ((t.count 10 : Nat) : Int) + 1 := by have := List.count_le_length (a := (10 : UInt8)) (l := t); simp [wrap64]; omega
  have hd1 : decide ((65536 : Int) < ((bs t).size : Int)) = false := by rw [bs_size]; simp; omega
  have hn := nLines_open (t := t) (fun q => q.elim ht hl)
  have hd2 : decide ((1024 : Int) < ((t.count 10 : Nat) : Int) + 1) = false := by rw [hn] at hm; simp; omega
  obtain ⟨Q, hQ⟩ : ∃ Q, Q = ParsePost w (linesS t) := ⟨_, rfl⟩
  rw [← hQ]
  clear hl ht hm hn
  obtain ⟨z, hz⟩ : ∃ z, z = bs t := ⟨_, rfl⟩
  rw [← hz] at h10 h11 hne hd1 ⊢
  have HZ : Hid (z = bs t) := hz
  clear hz
  refine calls_of_wpAt_marks (n := 3) Tryz.func12 rfl ?_
  simp only [Tryz.ntmps12, List.size_toArray, List.length_cons, List.length_nil, Nat.reduceAdd, Nat.reduceSub, Array.replicate_succ, Array.replicate_zero, List.push_toArray, List.append_toArray, List.nil_append, List.cons_append]
  refine wpAt_seq (wpAt_of_wpIn ?_)
  gi_wp2
  refine wpAt_seq (wpAt_of_wpIn ?_)
  gi_wp2_with (refine ⟨trivial, (callsIn_wide.2 (h10 _)).mono ?_⟩; rintro e w1 ⟨rfl, rfl⟩)
  refine wpAt_seq (wpAt_of_wpIn ?_)
  gi_wp2_with (refine ⟨trivial, (callsIn_wide.2 (h11 _)).mono ?_⟩; rintro e w1 ⟨rfl, rfl⟩)
  refine wpAt_seq (wpAt_of_wpIn ?_)
  gi_wp2
  rw [hQ]
  have a0 : ((w.alloc (.cells #[.slice none 0 0] 29)).alloc (.cells #[.int .i64 0] 30)).heap[w.heap.size]? = some (.cells #[.slice none 0 0] 29 (0, 0)) := Go.Mine.heap_alloc_old (heap_alloc_new w _)
  have a1 : ((w.alloc (.cells #[.slice none 0 0] 29)).alloc (.cells #[.int .i64 0] 30)).heap[w.heap.size + 1]? = some (.cells #[.int .i64 0] 30 (0, 0)) := by simpa using heap_alloc_new (w.alloc (.cells #[.slice none 0 0] 29)) (.cells #[.int .i64 0] 30)
  rw [HZ.out]
  exact parse_tail w0 w t hL hs' _ _ _ _ _ _ _ _ _ _ _ _ _ _ _ _ _ _ _ _ _ _ _ _ _ _ _ _ _ _ _ _ _ _ _ _ _ _ _ _ _ a0 a1 (by simp) (((Turned.refl _ w).new _).new _)

set_option maxRecDepth 100000 in
set_option maxHeartbeats 4000000 in
theorem p_nil (w0 w : World) (t : B) (hL : Lw w0 w) (hs : t.length ≤ 4611686018427387904) (ht : t = []) (hs' : t.length ≤ 65536) : Calls Tryz.prog 12 #[.string (bs t)] w (ParsePost w (linesS t)) := by
  have h10 := fun W => count10 t W
  have h11 : True := trivial
  have hne : (bs t).toList.isEmpty = true := by subst ht; rw [ByteArray.toList_eq, bs_list]; rfl
  have hd2 : t.count 10 = 0 := by rw [ht]; rfl
  have hd1 : decide ((65536 : Int) < ((bs t).size : Int)) = false := by rw [bs_size]; simp; omega
  obtain ⟨Q, hQ⟩ : ∃ Q, Q = ParsePost w (linesS t) := ⟨_, rfl⟩
  rw [← hQ]
  obtain ⟨z, hz⟩ : ∃ z, z = bs t := ⟨_, rfl⟩
  rw [← hz] at h10 hne hd1 ⊢
  have HZ : Hid (z = bs t) := hz
  clear hz
  refine calls_of_wpAt_marks (n := 3) Tryz.func12 rfl ?_
  simp only [Tryz.ntmps12, List.size_toArray, List.length_cons, List.length_nil, Nat.reduceAdd, Nat.reduceSub, Array.replicate_succ, Array.replicate_zero, List.push_toArray, List.append_toArray, List.nil_append, List.cons_append]
  refine wpAt_seq (wpAt_of_wpIn ?_)
  gi_wp2
  refine wpAt_seq (wpAt_of_wpIn ?_)
  gi_wp2_with (refine ⟨trivial, (callsIn_wide.2 (h10 _)).mono ?_⟩; rintro e w1 ⟨rfl, rfl⟩)
  refine wpAt_seq (wpAt_of_wpIn ?_)
  gi_wp2
  refine ⟨trivial, ?_⟩
  gi_wp2
  refine wpAt_seq (wpAt_of_wpIn ?_)
  gi_wp2
  rw [hQ]
  have a0 : ((w.alloc (.cells #[.slice none 0 0] 29)).alloc (.cells #[.int .i64 0] 30)).heap[w.heap.size]? = some (.cells #[.slice none 0 0] 29 (0, 0)) := Go.Mine.heap_alloc_old (heap_alloc_new w _)
  have a1 : ((w.alloc (.cells #[.slice none 0 0] 29)).alloc (.cells #[.int .i64 0] 30)).heap[w.heap.size + 1]? = some (.cells #[.int .i64 0] 30 (0, 0)) := by simpa using heap_alloc_new (w.alloc (.cells #[.slice none 0 0] 29)) (.cells #[.int .i64 0] 30)
  rw [HZ.out]
  exact parse_tail w0 w t hL hs' _ _ _ _ _ _ _ _ _ _ _ _ _ _ _ _ _ _ _ _ _ _ _ _ _ _ _ _ _ _ _ _ _ _ _ _ _ _ _ _ _ a0 a1 (by simp) (((Turned.refl _ w).new _).new _)

theorem parse_any (w0 w : World) (t : B) (hL : Lw w0 w) (hs : t.length ≤ 4611686018427387904) : Calls Tryz.prog 12 #[.string (bs t)] w (ParsePost w (parseS 5 14 t)) := by
  unfold parseS
  by_cases hn : tooLong t
  · rw [if_pos hn]
    have ht : t ≠ [] := by
      rintro rfl
      revert hn
      decide
    by_cases hb : 65536 < t.length
    · by_cases hl : t.getLast? = some 10
      · exact p_ends_big w0 w t hL hs ht hl hb
      · exact p_open_big w0 w t hL hs ht hl hb
    · have hm : 1024 < nLines t := hn.resolve_left hb
      by_cases hl : t.getLast? = some 10
      · exact p_ends_many w0 w t hL hs ht hl (by omega) hm
      · exact p_open_many w0 w t hL hs ht hl (by omega) hm
  · rw [if_neg hn]
    have hs' : t.length ≤ 65536 := Nat.le_of_not_lt fun q => hn (.inl q)
    have hm : nLines t ≤ 1024 := Nat.le_of_not_lt fun q => hn (.inr q)
    by_cases ht : t = []
    · exact p_nil w0 w t hL hs ht hs'
    · by_cases hl : t.getLast? = some 10
      · exact p_ends_ok w0 w t hL hs ht hl hs' hm
      · exact p_open_ok w0 w t hL hs ht hl hs' hm
end Go.Proofs.YteblabpplaaddaaGreatDoor

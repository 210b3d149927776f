/- One call of both caches: they answer alike and hold the same list afterwards. -/
import Derived.Test.YtbhafcmdmpebiaaPkeys
import Derived.Deep.RegionWith
namespace Go.Proofs.Ytbhafcmdmpebiaa
open Go.RowKit Go.Mine

/-- the program's cache at c and the reference's at r hold the list kv, in blocks from B on, no block in both -/
def Both (w : World) (B c r : Nat) (room : Int) (kv : KV) : Prop :=
  ∃ S R : Nat → Prop, CacheIs w S c room kv ∧ RefIs w R r room kv ∧ (∀ b, S b → ¬ R b) ∧ (∀ b, S b → B ≤ b ∧ b < w.heap.size) ∧ (∀ b, R b → B ≤ b ∧ b < w.heap.size) ∧ (kv.length : Int) ≤ room ∧ room ≤ 4096 ∧ B ≤ w.heap.size

theorem Both.turned {w w' : World} {B c r : Nat} {room : Int} {kv : KV} (h : Both w B c r room kv) (ht : Turned (fun _ => False) w w') : Both w' B c r room kv := by
  obtain ⟨S, R, h1, h2, h3, h4, h5, h6, h7, h8⟩ := h
  have := ht.size
  exact ⟨S, R, h1.turned ht fun _ _ q => q, h2.turned ht fun _ _ q => q, h3, fun b q => ⟨(h4 b q).1, by have := (h4 b q).2; omega⟩, fun b q => ⟨(h5 b q).1, by have := (h5 b q).2; omega⟩, h6, h7, by omega⟩

theorem putKv_len {room : Int} {kv : KV} {k v : Int} (hnd : (kv.map (·.1)).Nodup) (h : (kv.length : Int) ≤ room) : ((putKv room kv k v).length : Int) ≤ room := by
  unfold putKv
  split
  · rename_i hh
    have := without_len hnd ((has_iff _ _).1 hh)
    rw [List.length_append, List.length_singleton, this]; exact h
  · split
    · rw [List.length_append]; assumption
    · rw [List.length_tail, List.length_append]; simpa using h
theorem getKv_len {kv : KV} {k : Int} (hnd : (kv.map (·.1)).Nodup) : (getKv kv k).length = kv.length := by
  unfold getKv
  split
  · rename_i x hx
    have hm := List.mem_of_find?_eq_some hx
    have hk : x.1 = k := by simpa using List.find?_some hx
    have := without_len hnd (k := k) (List.mem_map.2 ⟨x, hm, hk⟩)
    rw [List.length_append, List.length_singleton, this]
  · rfl
theorem dropKv_len {kv : KV} {k : Int} : (dropKv kv k).length ≤ kv.length := List.length_filter_le _ _

/-- the cache first, then the reference -/
theorem both_cr {w w1 w2 : World} {S R : Nat → Prop} {B c r : Nat} {room : Int} {kv kv' : KV} (h3 : ∀ b, S b → ¬ R b) (h4 : ∀ b, S b → B ≤ b ∧ b < w.heap.size) (h5 : ∀ b, R b → B ≤ b ∧ b < w.heap.size) (h7 : room ≤ 4096) (h8 : B ≤ w.heap.size)
    (hr : RefIs w R r room kv) (hc1 : CacheIs w1 (More S w) c room kv') (t1 : Turned S w w1) :
    RefIs w1 R r room kv ∧ (RefIs w2 (More R w1) r room kv' → Turned R w1 w2 → (kv'.length : Int) ≤ room → Both w2 B c r room kv' ∧ Turned (fun b => B ≤ b) w w2) := by
  refine ⟨hr.turned t1 fun b q z => h3 b z q, fun hr2 t2 hl => ?_⟩
  have s1 := t1.size; have s2 := t2.size
  have hc2 := hc1.bound.turned t2 fun b q z => by
    rcases q with ⟨q | q, q2⟩
    · exact h3 b q z
    · have := (h5 b z).2; omega
  refine ⟨⟨_, _, hc2.bound, hr2.bound, fun b q z => ?_, fun b q => ⟨?_, q.2⟩, fun b q => ⟨?_, q.2⟩, hl, h7, by omega⟩, (t1.mono fun b _ q => (h4 b q).1).trans (t2.mono fun b _ q => (h5 b q).1) fun _ _ q => q⟩
  · rcases q.1 with ⟨q1 | q1, q2⟩ <;> rcases z.1 with z1 | z1
    · exact h3 b q1 z1
    · omega
    · have := (h5 b z1).2; omega
    · omega
  · rcases q.1 with ⟨q1 | q1, q2⟩
    · exact (h4 b q1).1
    · omega
  · rcases q.1 with q1 | q1
    · exact (h5 b q1).1
    · omega

/-- the reference first, then the cache -/
theorem both_rc {w w1 w2 : World} {S R : Nat → Prop} {B c r : Nat} {room : Int} {kv kv' : KV} (h3 : ∀ b, S b → ¬ R b) (h4 : ∀ b, S b → B ≤ b ∧ b < w.heap.size) (h5 : ∀ b, R b → B ≤ b ∧ b < w.heap.size) (h7 : room ≤ 4096) (h8 : B ≤ w.heap.size)
    (hc : CacheIs w S c room kv) (hr1 : RefIs w1 (More R w) r room kv') (t1 : Turned R w w1) :
    CacheIs w1 S c room kv ∧ (CacheIs w2 (More S w1) c room kv' → Turned S w1 w2 → (kv'.length : Int) ≤ room → Both w2 B c r room kv' ∧ Turned (fun b => B ≤ b) w w2) := by
  refine ⟨hc.turned t1 h3, fun hc2 t2 hl => ?_⟩
  have s1 := t1.size; have s2 := t2.size
  have hr2 := hr1.bound.turned t2 fun b q z => by
    rcases q with ⟨q | q, q2⟩
    · exact h3 b z q
    · have := (h4 b z).2; omega
  refine ⟨⟨_, _, hc2.bound, hr2.bound, fun b z q => ?_, fun b q => ⟨?_, q.2⟩, fun b q => ⟨?_, q.2⟩, hl, h7, by omega⟩, (t1.mono fun b _ q => (h5 b q).1).trans (t2.mono fun b _ q => (h4 b q).1) fun _ _ q => q⟩
  · rcases q.1 with ⟨q1 | q1, q2⟩ <;> rcases z.1 with z1 | z1
    · exact h3 b z1 q1
    · omega
    · have := (h4 b z1).2; omega
    · omega
  · rcases q.1 with q1 | q1
    · exact (h4 b q1).1
    · omega
  · rcases q.1 with ⟨q1 | q1, q2⟩
    · exact (h5 b q1).1
    · omega

def StepPost (B c r : Nat) (room : Int) (w : World) (e : Ending) (w' : World) : Prop := e = .returned (.bool true) ∧ ∃ kv', Both w' B c r room kv' ∧ Turned (fun b => B ≤ b) w w'

theorem hid_len {kv : KV} {room : Int} (h6 : (kv.length : Int) ≤ room) (h7 : room ≤ 4096) : Hid (kv.length ≤ 100000) := (by omega : kv.length ≤ 100000)

abbrev opv (kd k v : Int) : Value := .agg #[.int .u8 kd, .int .i64 k, .int .i64 v]
abbrev opb (kd k v : Int) : Obj := .cells #[.int .u8 kd, .int .i64 k, .int .i64 v] 53

/-- what a step begins with: the operation's own block laid -/
theorem step_start {w : World} {B c r : Nat} {room : Int} {kv : KV} (kd k v : Int) (h : Both w B c r room kv) :
    ∃ S R : Nat → Prop, CacheIs (w.alloc (opb kd k v)) S c room kv ∧ RefIs (w.alloc (opb kd k v)) R r room kv ∧ (∀ b, S b → ¬ R b) ∧ (∀ b, S b → B ≤ b ∧ b < (w.alloc (opb kd k v)).heap.size) ∧ (∀ b, R b → B ≤ b ∧ b < (w.alloc (opb kd k v)).heap.size) ∧
      (kv.length : Int) ≤ room ∧ room ≤ 4096 ∧ B ≤ (w.alloc (opb kd k v)).heap.size ∧ ¬ S w.heap.size ∧ ¬ R w.heap.size := by
  obtain ⟨S, R, h1, h2, h3, h4, h5, h6, h7, h8⟩ := h
  have hs : (w.alloc (opb kd k v)).heap.size = w.heap.size + 1 := by simp
  exact ⟨S, R, h1.turned (Turned.alloc (fun _ => False) _ _) fun _ _ q => q, h2.turned (Turned.alloc (fun _ => False) _ _) fun _ _ q => q, h3, fun b q => ⟨(h4 b q).1, by have := (h4 b q).2; omega⟩, fun b q => ⟨(h5 b q).1, by have := (h5 b q).2; omega⟩, h6, h7, by omega, fun q => by have := (h4 _ q).2; omega, fun q => by have := (h5 _ q).2; omega⟩

set_option maxHeartbeats 1000000 in
theorem step_put {w : World} {B c r : Nat} {room : Int} {kv : KV} (kd k v : Int) (h : Both w B c r room kv) (h0 : 0 ≤ kd) (h255 : kd ≤ 255) (hk : kd % 6 = 0) :
    Calls Try.prog 20 #[pt c, pt r, opv kd k v] w (StepPost B c r room w) := by
  obtain ⟨S, R, h1, h2, h3, h4, h5, h6, h7, h8, h9, h10⟩ := step_start kd k v h
  have hp := put_kv k v h1
  have hnd := h1.nodup
  have hB : B ≤ w.heap.size := by obtain ⟨_, _, _, _, _, _, _, _, _, q⟩ := h; exact q
  have Y : Hid (∀ w1 w2, CacheIs w1 (More S (w.alloc (opb kd k v))) c room (putKv room kv k v) → Turned S (w.alloc (opb kd k v)) w1 → _) := fun w1 w2 a b => both_cr (w2 := w2) h3 h4 h5 h7 h8 h2 a b
  have H6 : Hid ((kv.length : Int) ≤ room ∧ room ≤ 4096 ∧ (kv.map (·.1)).Nodup ∧ ¬ S w.heap.size) := ⟨h6, h7, hnd, h9⟩
  clear h h1 h2 h3 h4 h5 h6 h7 h8 hnd h9 h10
  go_enter Try.func20, Try.ntmps20
  go_wp2_with fail
  refine hp.mono ?_
  rintro e w1 ⟨rfl, hc1, t1⟩
  have hr1 := ((Y.out w1 w1 hc1 t1).1)
  have hp2 := ref_put k v hr1 (hid_len H6.out.1 H6.out.2.1) H6.out.2.2.1 H6.out.1
  have hop : Blk w1 w.heap.size _ 53 := Blk.turned (Go.Mine.heap_alloc_new w (opb kd k v)) t1 H6.out.2.2.2
  have o1 := cell_of hop 1 _ rfl
  have o2 := cell_of hop 2 _ rfl
  have C1 : Hid (CacheIs w1 _ c room _) := hc1
  have T1 : Hid (Turned S _ w1) := t1
  obtain ⟨x, hx⟩ : ∃ x, x = putRet room kv k v := ⟨_, rfl⟩
  rw [← hx] at hp2 ⊢
  have e1 : (x.1 == x.1) = true := by simp
  have e2 : (x.2.1 == x.2.1) = true := by simp
  have e3 : (x.2.2 == x.2.2) = true := by simp
  clear hp hc1 t1 hr1 hop hx
  go_wp2_with (go_at_call 37; (with_reducible refine hp2.mono ?_); rintro e w2 ⟨rfl, hr2, t2⟩)
  go_ret
  obtain ⟨q1, q2⟩ := (Y.out w1 w2 C1.out T1.out).2 hr2 t2 (putKv_len H6.out.2.2.1 H6.out.1)
  exact ⟨rfl, _, q1, (Turned.alloc _ w (opb kd k v)).trans q2 fun _ _ q => q⟩

set_option maxHeartbeats 1000000 in
theorem step_get {w : World} {B c r : Nat} {room : Int} {kv : KV} (kd k v : Int) (h : Both w B c r room kv) (h0 : 0 ≤ kd) (h255 : kd ≤ 255) (hk : kd % 6 = 1) :
    Calls Try.prog 20 #[pt c, pt r, opv kd k v] w (StepPost B c r room w) := by
  obtain ⟨S, R, h1, h2, h3, h4, h5, h6, h7, h8, h9, h10⟩ := step_start kd k v h
  have hp := get_kv k h1
  have hnd := h1.nodup
  have hB : B ≤ w.heap.size := by obtain ⟨_, _, _, _, _, _, _, _, _, q⟩ := h; exact q
  have Y : Hid (∀ w1 w2, CacheIs w1 (More S (w.alloc (opb kd k v))) c room (getKv kv k) → Turned S (w.alloc (opb kd k v)) w1 → _) := fun w1 w2 a b => both_cr (w2 := w2) h3 h4 h5 h7 h8 h2 a b
  have H6 : Hid ((kv.length : Int) ≤ room ∧ room ≤ 4096 ∧ (kv.map (·.1)).Nodup ∧ ¬ S w.heap.size) := ⟨h6, h7, hnd, h9⟩
  clear h h1 h2 h3 h4 h5 h6 h7 h8 hnd h9 h10
  go_enter Try.func20, Try.ntmps20
  go_wp2_with fail
  refine hp.mono ?_
  rintro e w1 ⟨rfl, hc0, t1⟩
  have hc1 := hc0.widen (T := More S (w.alloc (opb kd k v))) fun _ q => .inl q
  have hr1 := ((Y.out w1 w1 hc1 t1).1)
  have hp2 := ref_get k hr1 (hid_len H6.out.1 H6.out.2.1) H6.out.2.2.1 H6.out.1
  have hop : Blk w1 w.heap.size _ 53 := Blk.turned (Go.Mine.heap_alloc_new w (opb kd k v)) t1 H6.out.2.2.2
  have o1 := cell_of hop 1 _ rfl
  have o2 := cell_of hop 2 _ rfl
  have C1 : Hid (CacheIs w1 _ c room _) := hc1
  have T1 : Hid (Turned S _ w1) := t1
  obtain ⟨x, hx⟩ : ∃ x, x = valOf (findKv kv k) := ⟨_, rfl⟩
  obtain ⟨y, hy⟩ : ∃ y, y = (findKv kv k).isSome := ⟨_, rfl⟩
  rw [← hx, ← hy] at hp2 ⊢
  have e1 : (x == x) = true := by simp
  have e2 : (y == y) = true := by simp
  clear hp hc0 hc1 t1 hr1 hop hx hy
  go_wp2_with (go_at_call 38; (with_reducible refine hp2.mono ?_); rintro e w2 ⟨rfl, hr2, t2⟩)
  go_ret
  obtain ⟨q1, q2⟩ := (Y.out w1 w2 C1.out T1.out).2 hr2 t2 (by rw [getKv_len H6.out.2.2.1]; exact H6.out.1)
  exact ⟨rfl, _, q1, (Turned.alloc _ w (opb kd k v)).trans q2 fun _ _ q => q⟩

set_option maxHeartbeats 1000000 in
theorem step_peek {w : World} {B c r : Nat} {room : Int} {kv : KV} (kd k v : Int) (h : Both w B c r room kv) (h0 : 0 ≤ kd) (h255 : kd ≤ 255) (hk : kd % 6 = 2) :
    Calls Try.prog 20 #[pt c, pt r, opv kd k v] w (StepPost B c r room w) := by
  obtain ⟨S, R, h1, h2, h3, h4, h5, h6, h7, h8, h9, h10⟩ := step_start kd k v h
  have hp := peek_kv k h1
  have hp2 := ref_peek k h2 (hid_len h6 h7)
  have hB : B ≤ w.heap.size := by obtain ⟨_, _, _, _, _, _, _, _, _, q⟩ := h; exact q
  have Y : Hid (Both (w.alloc (opb kd k v)) B c r room kv) := h.turned (Turned.alloc _ _ _)
  obtain ⟨x, hx⟩ : ∃ x, x = valOf (findKv kv k) := ⟨_, rfl⟩
  obtain ⟨y, hy⟩ : ∃ y, y = (findKv kv k).isSome := ⟨_, rfl⟩
  rw [← hx, ← hy] at hp2 hp
  have e1 : (x == x) = true := by simp
  have e2 : (y == y) = true := by simp
  clear h h1 h2 h3 h4 h5 h6 h7 h8 h9 h10 hx hy
  go_enter Try.func20, Try.ntmps20
  go_wp2_with (first | (go_at_call 11; (with_reducible refine hp.mono ?_); rintro e w' ⟨rfl, rfl⟩) | (go_at_call 39; (with_reducible refine hp2.mono ?_); rintro e w' ⟨rfl, rfl⟩))
  go_ret
  exact ⟨rfl, _, Y.out, Turned.alloc _ _ _⟩

set_option maxHeartbeats 1000000 in
theorem step_keys {w : World} {B c r : Nat} {room : Int} {kv : KV} (kd k v : Int) (h : Both w B c r room kv) (h0 : 0 ≤ kd) (h255 : kd ≤ 255) (hk : kd % 6 = 4) :
    Calls Try.prog 20 #[pt c, pt r, opv kd k v] w (StepPost B c r room w) := by
  obtain ⟨S, R, h1, h2, h3, h4, h5, h6, h7, h8, h9, h10⟩ := step_start kd k v h
  have hp := keys_law h1 h2 (hid_len h6 h7)
  have Y : Hid (Both (w.alloc (opb kd k v)) B c r room kv) := h.turned (Turned.alloc _ _ _)
  clear h h1 h2 h3 h4 h5 h6 h7 h8 h9 h10
  go_enter Try.func20, Try.ntmps20
  go_wp2_with fail
  refine hp.mono ?_
  rintro e w1 ⟨rfl, t1⟩
  have T1 : Hid (Turned (fun _ => False) _ w1) := t1
  clear hp t1
  go_wp2
  go_ret
  exact ⟨rfl, _, Y.out.turned T1.out, (Turned.alloc _ w (opb kd k v)).trans (T1.out.mono (S' := fun b => B ≤ b) fun _ _ q => q.elim) fun _ _ q => q⟩

set_option maxHeartbeats 1000000 in
theorem step_drop {w : World} {B c r : Nat} {room : Int} {kv : KV} (kd k v : Int) (h : Both w B c r room kv) (h0 : 0 ≤ kd) (h255 : kd ≤ 255) (hk : kd % 6 = 3) :
    Calls Try.prog 20 #[pt c, pt r, opv kd k v] w (StepPost B c r room w) := by
  obtain ⟨S, R, h1, h2, h3, h4, h5, h6, h7, h8, h9, h10⟩ := step_start kd k v h
  have hnd := h1.nodup
  obtain ⟨W, hW⟩ : ∃ W, W = (w.alloc (opb kd k v)).drew := ⟨_, rfl⟩
  have tW : Turned (fun _ => False) (w.alloc (opb kd k v)) W := by rw [hW]; exact Turned.drew _ _
  have sW : W.heap.size = (w.alloc (opb kd k v)).heap.size := by rw [hW]; rfl
  have hc0 : CacheIs W S c room kv := h1.turned tW fun _ _ q => q
  have hr0 : RefIs W R r room kv := h2.turned tW fun _ _ q => q
  have hb0 : Blk W w.heap.size #[.int .u8 kd, .int .i64 k, .int .i64 v] 53 := Blk.turned (Go.Mine.heap_alloc_new w (opb kd k v)) tW fun q => q
  have hlen := hid_len h6 h7
  rw [← sW] at h4 h5 h8
  have hB : Turned (fun b => B ≤ b) w W := (Turned.alloc _ w (opb kd k v)).trans tW fun _ _ q => q.elim
  obtain ⟨y, hy⟩ : ∃ y, y = has kv k := ⟨_, rfl⟩
  let PC : World → Prop := fun w1 => CacheIs w1 S c room (dropKv kv k) ∧ Turned S W w1
  let PR : World → Prop := fun w1 => RefIs w1 (More R W) r room (dropKv kv k) ∧ Turned R W w1
  let Fin : World → Prop := fun w2 => Both w2 B c r room (dropKv kv k) ∧ Turned (fun b => B ≤ b) w w2
  have hle : ((dropKv kv k).length : Int) ≤ room := by have := dropKv_len (kv := kv) (k := k); omega
  have hC0 : Calls Try.prog 23 #[pt c, .int .i64 k] W fun e w' => e = .returned (.bool y) ∧ Hid (PC w') := (drop_kv k hc0).mono fun _ _ ⟨a, b⟩ => ⟨by rw [hy]; exact a, b⟩
  have hR0 : Calls Try.prog 40 #[pt r, .int .i64 k] W fun e w' => e = .returned (.bool y) ∧ Hid (PR w') := (ref_drop k hr0 hlen hnd).mono fun _ _ ⟨a, b⟩ => ⟨by rw [hy]; exact a, b⟩
  have hR1 : ∀ w1, Hid (PC w1) → Calls Try.prog 40 #[pt r, .int .i64 k] w1 fun e w' => e = .returned (.bool y) ∧ Hid (Fin w') := fun w1 p => by
    have p' : CacheIs w1 S c room (dropKv kv k) ∧ Turned S W w1 := p
    have g := fun w2 => both_cr (w2 := w2) h3 h4 h5 h7 h8 hr0 (p'.1.widen fun _ q => .inl q) p'.2
    refine (ref_drop k (g w1).1 hlen hnd).mono fun e w2 ⟨a, b, t⟩ => ⟨by rw [hy]; exact a, ?_⟩
    obtain ⟨q1, q2⟩ := (g w2).2 b t hle
    exact ⟨q1, hB.trans q2 fun _ _ q => q⟩
  have hC1 : ∀ w1, Hid (PR w1) → Calls Try.prog 23 #[pt c, .int .i64 k] w1 fun e w' => e = .returned (.bool y) ∧ Hid (Fin w') := fun w1 p => by
    have p' : RefIs w1 (More R W) r room (dropKv kv k) ∧ Turned R W w1 := p
    have g := fun w2 => both_rc (w2 := w2) h3 h4 h5 h7 h8 hc0 p'.1 p'.2
    refine (drop_kv k (g w1).1).mono fun e w2 ⟨a, b, t⟩ => ⟨by rw [hy]; exact a, ?_⟩
    obtain ⟨q1, q2⟩ := (g w2).2 (b.widen fun _ q => .inl q) t hle
    exact ⟨q1, hB.trans q2 fun _ _ q => q⟩
  have oC : ∀ w1, Hid (PC w1) → w1.cell? ⟨w.heap.size, 1, none⟩ = some (.int .i64 k) := fun w1 p => by
    have p' : CacheIs w1 S c room (dropKv kv k) ∧ Turned S W w1 := p
    exact cell_of (hb0.turned p'.2 h9) 1 _ rfl
  have oR : ∀ w1, Hid (PR w1) → w1.cell? ⟨w.heap.size, 1, none⟩ = some (.int .i64 k) := fun w1 p => by
    have p' : RefIs w1 (More R W) r room (dropKv kv k) ∧ Turned R W w1 := p
    exact cell_of (hb0.turned p'.2 h10) 1 _ rfl
  have hFin : ∀ w2, Hid (Fin w2) → Both w2 B c r room (dropKv kv k) ∧ Turned (fun b => B ≤ b) w w2 := fun _ q => q
  subst hW
  clear_value PC PR Fin
  have e1 : (y == y) = true := by simp
  clear h h1 h2 h3 h4 h5 h6 h7 h8 h9 h10 hc0 hr0 hb0 hlen hB hle hy tW sW hnd
  have HF : Hid (∀ w2, Hid (Fin w2) → Both w2 B c r room (dropKv kv k) ∧ Turned (fun b => B ≤ b) w w2) := hFin
  have HR1 : Hid (∀ w1, Hid (PC w1) → Calls Try.prog 40 #[pt r, .int .i64 k] w1 fun e w' => e = .returned (.bool y) ∧ Hid (Fin w')) := hR1
  have HC1 : Hid (∀ w1, Hid (PR w1) → Calls Try.prog 23 #[pt c, .int .i64 k] w1 fun e w' => e = .returned (.bool y) ∧ Hid (Fin w')) := hC1
  have OC : Hid (∀ w1, Hid (PC w1) → w1.cell? ⟨w.heap.size, 1, none⟩ = some (.int .i64 k)) := oC
  have OR : Hid (∀ w1, Hid (PR w1) → w1.cell? ⟨w.heap.size, 1, none⟩ = some (.int .i64 k)) := oR
  clear hFin hR1 hC1 oC oR
  go_enter Try.func20, Try.ntmps20
  go_wp2
  go_region_with (first | (go_at_call 23; (with_reducible refine hC0.mono ?_); rintro e w1 ⟨rfl, p1⟩; have o1 := OC.out w1 p1; have hh := HR1.out w1 p1) | (go_at_call 40; (with_reducible refine hR0.mono ?_); rintro e w1 ⟨rfl, p1⟩; have o1 := OR.out w1 p1; have hh := HC1.out w1 p1) | (first | go_at_call 23 | go_at_call 40; (with_reducible refine hh.mono ?_); rintro e w2 ⟨rfl, p2⟩))
  all_goals go_wp2
  all_goals go_ret
  all_goals exact ⟨rfl, _, (HF.out _ (by assumption)).1, (HF.out _ (by assumption)).2⟩

set_option maxHeartbeats 1000000 in
theorem step_clear {w : World} {B c r : Nat} {room : Int} {kv : KV} (kd k : Int) (h : Both w B c r room kv) (h0 : 0 ≤ kd) (h255 : kd ≤ 255) (hk : kd % 6 = 5) :
    Calls Try.prog 20 #[pt c, pt r, opv kd k 0] w (StepPost B c r room w) := by
  obtain ⟨S, R, h1, h2, h3, h4, h5, h6, h7, h8, h9, h10⟩ := step_start kd k 0 h
  have hp := clear_kv h1
  have hB : B ≤ w.heap.size := by obtain ⟨_, _, _, _, _, _, _, _, _, q⟩ := h; exact q
  have Y : Hid (∀ w1 w2, CacheIs w1 (More S (w.alloc (opb kd k 0))) c room [] → Turned S (w.alloc (opb kd k 0)) w1 → _) := fun w1 w2 a b => both_cr (w2 := w2) h3 h4 h5 h7 h8 h2 a b
  have H6 : Hid (0 ≤ room) := (by omega : 0 ≤ room)
  clear h h1 h2 h3 h4 h5 h6 h7 h8 h9 h10
  go_enter Try.func20, Try.ntmps20
  go_wp2_with fail
  refine hp.mono ?_
  rintro e w1 ⟨rfl, hc1, t1⟩
  have Z : Hid (RefIs w1 R r room kv ∧ ∀ w2, RefIs w2 (More R w1) r room [] → Turned R w1 w2 → (([] : KV).length : Int) ≤ room → Both w2 B c r room [] ∧ Turned (fun b => B ≤ b) (w.alloc (opb kd k 0)) w2) :=
    ⟨(Y.out w1 w1 (hc1.widen fun _ q => .inl q) t1).1, fun w2 => (Y.out w1 w2 (hc1.widen fun _ q => .inl q) t1).2⟩
  obtain ⟨L, hb, hR, -⟩ := Z.out.1
  have r1 := cell_of hb 1 _ rfl
  have f1 := free_of hb 1
  have HR : Hid (R r) := hR
  have HB : Hid (Blk w1 r _ 51) := hb
  clear hp hc1 t1 hb hR Y
  go_wp2
  go_ret
  have t2 : Turned R w1 (w1.setCell ⟨r, 1, none⟩ (.slice none 0 0)) := Turned.setCell (p := ⟨r, 1, none⟩) HR.out _
  obtain ⟨q1, q2⟩ := Z.out.2 _ ⟨.slice none 0 0, by have := Go.Mine.heap_setCell_same (o := 1) HB.out (.slice none 0 0); simpa [Blk] using this, .inl HR.out, Sl.nil _ _ _ _⟩ t2 H6.out
  exact ⟨rfl, _, q1, (Turned.alloc _ w (opb kd k 0)).trans q2 fun _ _ q => q⟩

set_option maxHeartbeats 1000000 in
theorem step_none {w : World} {B c r : Nat} {room : Int} {kv : KV} (kd k v : Int) (h : Both w B c r room kv) (h0 : 0 ≤ kd) (h255 : kd ≤ 255) (hk : kd % 6 = 5) (hv : (v == 0) = false) :
    Calls Try.prog 20 #[pt c, pt r, opv kd k v] w (StepPost B c r room w) := by
  have Y : Hid (Both (w.alloc (opb kd k v)) B c r room kv) := h.turned (Turned.alloc _ _ _)
  clear h
  go_enter Try.func20, Try.ntmps20
  go_wp2
  go_ret
  exact ⟨rfl, _, Y.out, Turned.alloc _ _ _⟩

theorem step_any {w : World} {B c r : Nat} {room : Int} {kv : KV} (kd k v : Int) (h : Both w B c r room kv) (h0 : 0 ≤ kd) (h255 : kd ≤ 255) :
    Calls Try.prog 20 #[pt c, pt r, opv kd k v] w (StepPost B c r room w) := by
  have : kd % 6 = 0 ∨ kd % 6 = 1 ∨ kd % 6 = 2 ∨ kd % 6 = 3 ∨ kd % 6 = 4 ∨ kd % 6 = 5 := by omega
  rcases this with q | q | q | q | q | q
  · exact step_put kd k v h h0 h255 q
  · exact step_get kd k v h h0 h255 q
  · exact step_peek kd k v h h0 h255 q
  · exact step_drop kd k v h h0 h255 q
  · exact step_keys kd k v h h0 h255 q
  · by_cases hv : v = 0
    · subst hv; exact step_clear kd k h h0 h255 q
    · exact step_none kd k v h h0 h255 q (by simpa using hv)

end Go.Proofs.Ytbhafcmdmpebiaa

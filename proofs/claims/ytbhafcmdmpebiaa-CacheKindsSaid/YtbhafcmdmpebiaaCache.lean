/- The cache of ints by ints as a list of keys and values, the eldest first: what each of its methods answers and leaves. -/
import Derived.Test.YtbhafcmdmpebiaaRing
import Derived.BigQuiet
import Derived.Deep.QuietTactic
namespace Go.Proofs.Ytbhafcmdmpebiaa
open Go.RowKit Go.Mine

abbrev KInt : Value → Prop := MapKept.IsKey (.int .i64)
theorem kk (k : Int) : KInt (.int .i64 k) := rfl
theorem keyInt : KeyOk Try.prog 3 KInt := plain_keyOk Try.underlying3
theorem zero60 (w : World) : (zeroValue 60).run Try.prog w = .ok (.pointer none) w := by kernel_rfl

/-- the map of a list of nodes -/
def mpf (l : List Nd) : Value → Option Value
  | .int .i64 k => (l.find? (fun n => decide (n.k = k))).map (fun n => pt n.b)
  | _ => none

/-- what stands in the field for the map -/
def MapOf (w : World) (c : Nat) (l : List Nd) : Option Nat → Prop
  | none => l = []
  | some bm => ¬ RingSet c l bm ∧ MapIs KInt w bm (mpf l) l.length

def kvs (l : List Nd) : List (Int × Int) := l.map fun n => (n.k, n.v)

def CacheAt (w : World) (S : Nat → Prop) (c : Nat) (room : Int) (l : List Nd) (mo : Option Nat) : Prop :=
  Ring w c (.int .i64 room) (.map mo) l ∧ MapOf w c l mo ∧ (l.map (·.k)).Nodup ∧ (∀ b, RingSet c l b → S b) ∧ (∀ bm, mo = some bm → S bm)

def CacheIs (w : World) (S : Nat → Prop) (c : Nat) (room : Int) (kv : List (Int × Int)) : Prop := ∃ l mo, CacheAt w S c room l mo ∧ kvs l = kv

theorem find_at (c : Nat) (room : Int) (l : List Nd) (mo : Option Nat) (S : Nat → Prop) (k : Int) (w : World) (h : CacheAt w S c room l mo) :
    Calls Try.prog 30 #[pt c, .int .i64 k] w fun e w' => e = .returned ((mpf l (.int .i64 k)).getD (.pointer none)) ∧ w = w' := by
  obtain ⟨⟨hb, hs, hd0⟩, hm, -, -, -⟩ := h
  have c1 := cell_of hb 1 _ rfl
  cases mo with
  | none =>
    simp only [MapOf] at hm
    subst hm
    have hl := fun w => look_nil keyInt Try.underlying59 (zero60 w) (x := .int .i64 k) (w := w) (kk _)
    go_enter Try.func30, Try.ntmps30
    go_wp2
    go_ret
    exact ⟨rfl, rfl⟩
  | some bm =>
    have hl := hm.2.look keyInt Try.underlying59 (zero60 w) (x := .int .i64 k) (kk _)
    obtain ⟨r, hr⟩ : ∃ r, r = (mpf l (.int .i64 k)).getD (.pointer none) := ⟨_, rfl⟩
    rw [← hr] at hl ⊢
    clear hr
    go_enter Try.func30, Try.ntmps30
    go_wp2
    go_ret
    exact ⟨rfl, rfl⟩

theorem mpf_none {l : List Nd} {k : Int} (h : ∀ n ∈ l, n.k ≠ k) : mpf l (.int .i64 k) = none := by
  simp only [mpf, Option.map_eq_none_iff, List.find?_eq_none]
  intro n hn; simpa using h n hn
theorem mpf_some {l1 l2 : List Nd} {n : Nd} (h : ((l1 ++ n :: l2).map (·.k)).Nodup) : mpf (l1 ++ n :: l2) (.int .i64 n.k) = some (pt n.b) := by
  have : (l1 ++ n :: l2).find? (fun m => decide (m.k = n.k)) = some n := by
    rw [List.find?_append]
    have : l1.find? (fun m => decide (m.k = n.k)) = none := by
      rw [List.find?_eq_none]
      intro m hm
      simp only [List.map_append, List.map_cons, List.nodup_append] at h
      have := h.2.2 m.k (List.mem_map.2 ⟨m, hm, rfl⟩) n.k (by simp)
      simpa using this
    simp [this]
  simp [mpf, this]

theorem split_key (l : List Nd) (k : Int) : (∀ n ∈ l, n.k ≠ k) ∨ ∃ l1 n l2, l = l1 ++ n :: l2 ∧ n.k = k := by
  by_cases h : ∃ n ∈ l, n.k = k
  · obtain ⟨n, hn, hk⟩ := h
    obtain ⟨l1, l2, rfl⟩ := List.append_of_mem hn
    exact .inr ⟨l1, n, l2, rfl, hk⟩
  · exact .inl fun n hn hk => h ⟨n, hn, hk⟩

/-- find, where the key is not there -/
theorem find_none {c : Nat} {room : Int} {l : List Nd} {mo : Option Nat} {S : Nat → Prop} {k : Int} {w : World} (h : CacheAt w S c room l mo) (hk : ∀ n ∈ l, n.k ≠ k) :
    Calls Try.prog 30 #[pt c, .int .i64 k] w fun e w' => e = .returned (.pointer none) ∧ w = w' := by
  have := find_at c room l mo S k w h
  rw [mpf_none hk] at this
  exact this
theorem find_some {c : Nat} {room : Int} {l1 l2 : List Nd} {n : Nd} {mo : Option Nat} {S : Nat → Prop} {w : World} (h : CacheAt w S c room (l1 ++ n :: l2) mo) :
    Calls Try.prog 30 #[pt c, .int .i64 n.k] w fun e w' => e = .returned (pt n.b) ∧ w = w' := by
  have := find_at c room _ mo S n.k w h
  rw [mpf_some h.2.2.1] at this
  exact this

theorem peek_none {c : Nat} {room : Int} {l : List Nd} {mo : Option Nat} {S : Nat → Prop} {k : Int} {w : World} (h : CacheAt w S c room l mo) (hk : ∀ n ∈ l, n.k ≠ k) :
    Calls Try.prog 11 #[pt c, .int .i64 k] w fun e w' => e = .returned (.tuple #[.int .i64 0, .bool false]) ∧ w = w' := by
  have hf := find_none h hk
  clear h hk
  go_enter Try.func11, Try.ntmps11
  go_wp2_with (go_at_call 30; refine hf.mono ?_; rintro e w' ⟨rfl, rfl⟩)
  go_ret2
  exact ⟨rfl, rfl⟩

theorem NdOf {w : World} {l1 l2 : List Nd} {n : Nd} {c : Nat} {r mp : Value} (h : Ring w c r mp (l1 ++ n :: l2)) : ∃ p q, NdIs w n p q := by
  have := h.2.1
  rw [seg_app] at this
  exact ⟨_, _, this.2.1⟩

theorem peek_some {c : Nat} {room : Int} {l1 l2 : List Nd} {n : Nd} {mo : Option Nat} {S : Nat → Prop} {w : World} (h : CacheAt w S c room (l1 ++ n :: l2) mo) :
    Calls Try.prog 11 #[pt c, .int .i64 n.k] w fun e w' => e = .returned (.tuple #[.int .i64 n.v, .bool true]) ∧ w = w' := by
  have hf := find_some h
  obtain ⟨p, q, hn⟩ := NdOf h.1
  have n1 := cell_of hn 1 _ rfl
  clear h hn
  go_enter Try.func11, Try.ntmps11
  go_wp2_with (go_at_call 30; refine hf.mono ?_; rintro e w' ⟨rfl, rfl⟩)
  go_ret2
  exact ⟨rfl, rfl⟩

theorem keys_perm {l l' : List Nd} (hp : l.Perm l') : (l.map (·.k)).Perm (l'.map (·.k)) := hp.map _

theorem mpf_perm {l l' : List Nd} (hp : l.Perm l') (hd0 : (l.map (·.k)).Nodup) (key : Value) : mpf l' key = mpf l key := by
  cases key <;> try rfl
  rename_i q k
  cases q <;> try rfl
  rcases split_key l k with h | ⟨a, n, b, rfl, rfl⟩
  · rw [mpf_none h, mpf_none fun n hn => h n (hp.mem_iff.2 hn)]
  · have hm : n ∈ l' := hp.mem_iff.1 (by simp)
    obtain ⟨a', b', rfl⟩ := List.append_of_mem hm
    rw [mpf_some hd0, mpf_some ((keys_perm hp).nodup_iff.1 hd0)]

theorem ringSet_perm {c : Nat} {l l' : List Nd} (hp : l.Perm l') (b : Nat) : RingSet c l' b ↔ RingSet c l b := by
  simp only [RingSet, (hp.map (·.b)).mem_iff]

/-- the same nodes in another order, the ring's blocks alone turned -/
theorem CacheAt.perm {w w' : World} {S : Nat → Prop} {c : Nat} {room : Int} {l l' : List Nd} {mo : Option Nat} (h : CacheAt w S c room l mo) (hp : l.Perm l')
    (hr : Ring w' c (.int .i64 room) (.map mo) l') (ht : Turned (RingSet c l) w w') : CacheAt w' S c room l' mo := by
  obtain ⟨h1, h2, h3, h4, h5⟩ := h
  refine ⟨hr, ?_, (keys_perm hp).nodup_iff.1 h3, fun b hb => h4 b ((ringSet_perm hp b).1 hb), h5⟩
  cases mo with
  | none => simp only [MapOf] at h2 ⊢; subst h2; exact List.nil_perm.1 hp
  | some bm =>
    refine ⟨fun z => h2.1 ((ringSet_perm hp bm).1 z), ?_⟩
    rw [← hp.length_eq]
    exact h2.2.congr (ht.block bm h2.2.lt h2.1) fun key => mpf_perm hp h3 key

theorem perm_mid (l1 l2 : List Nd) (n : Nd) : (l1 ++ n :: l2).Perm (l1 ++ l2 ++ [n]) := by
  rw [List.append_assoc]
  refine List.Perm.append_left _ ?_
  exact (List.perm_append_singleton n l2).symm

theorem ring_new {c : Nat} {w : World} {r mp : Value} {l1 l2 : List Nd} {n : Nd} (h : Ring w c r mp (l1 ++ n :: l2)) : ¬ RingSet c (l1 ++ l2) n.b := by
  have hd0 := h.2.2
  have hp : (c :: (l1 ++ n :: l2).map (·.b)).Perm (n.b :: c :: (l1 ++ l2).map (·.b)) := by
    refine List.Perm.trans ?_ (List.Perm.swap _ _ _)
    refine List.Perm.cons _ ?_
    simp only [List.map_append, List.map_cons]
    exact List.perm_middle
  have := hp.nodup_iff.1 hd0
  rw [List.nodup_cons] at this
  simpa [RingSet] using this.1

theorem turned_ring {S : Nat → Prop} {w w' : World} {c : Nat} {l _l' : List Nd} (h : Turned (RingSet c l) w w') (hl : ∀ b, RingSet c l b → S b) : Turned S w w' :=
  h.mono fun i _ q => hl i q

set_option maxHeartbeats 1000000 in
theorem get_none {c : Nat} {room : Int} {l : List Nd} {mo : Option Nat} {S : Nat → Prop} {k : Int} {w : World} (h : CacheAt w S c room l mo) (hk : ∀ n ∈ l, n.k ≠ k) :
    Calls Try.prog 10 #[pt c, .int .i64 k] w fun e w' => e = .returned (.tuple #[.int .i64 0, .bool false]) ∧ w = w' := by
  have hf := find_none h hk
  have hp := peek_none h hk
  clear h hk
  go_enter Try.func10, Try.ntmps10
  go_wp2_with (first | (go_at_call 30; refine hf.mono ?_; rintro e w' ⟨rfl, rfl⟩) | (go_at_call 11; refine hp.mono ?_; rintro e w' ⟨rfl, rfl⟩))
  go_ret2
  exact ⟨rfl, rfl⟩

set_option maxHeartbeats 1000000 in
theorem get_some {c : Nat} {room : Int} {l1 l2 : List Nd} {n : Nd} {mo : Option Nat} {S : Nat → Prop} {w : World} (h : CacheAt w S c room (l1 ++ n :: l2) mo) :
    Calls Try.prog 10 #[pt c, .int .i64 n.k] w fun e w' => e = .returned (.tuple #[.int .i64 n.v, .bool true]) ∧ CacheAt w' S c room (l1 ++ l2 ++ [n]) mo ∧ Turned S w w' := by
  have hf := find_some h
  have hu := unhang_ring c _ _ l1 l2 n w h.1
  have hnew := ring_new h.1
  have hH : ∀ w1 w2, Turned (RingSet c (l1 ++ n :: l2)) w w1 → Ring w2 c (.int .i64 room) (.map mo) (l1 ++ l2 ++ [n]) → Turned (RingSet c (l1 ++ l2 ++ [n])) w1 w2 → CacheAt w2 S c room (l1 ++ l2 ++ [n]) mo ∧ Turned S w w2 := by
    intro w1 w2 ht1 hr2 ht2
    have ht := ht1.trans ht2 fun i _ q => (ringSet_perm (perm_mid l1 l2 n) i).1 q
    exact ⟨h.perm (perm_mid l1 l2 n) hr2 ht, ht.mono fun i _ q => h.2.2.2.1 i q⟩
  clear h
  go_enter Try.func10, Try.ntmps10
  go_wp2_with (go_at_call 30; refine hf.mono ?_; rintro e w' ⟨rfl, rfl⟩)
  go_at_call 31
  refine hu.mono ?_
  rintro e w1 ⟨rfl, hr1, hn1, ht1, -⟩
  go_wp2_with fail
  go_at_call 32
  refine (hang_ring c _ _ _ _ n w1 hr1 hn1 hnew).mono ?_
  rintro e w2 ⟨rfl, hr2, ht2, -⟩
  obtain ⟨hc2, htt⟩ := hH w1 w2 ht1 hr2 ht2
  have hp := peek_some hc2
  go_wp2_with (go_at_call 11; refine hp.mono ?_; rintro e w' ⟨rfl, rfl⟩)
  go_ret2
  exact ⟨rfl, hc2, htt⟩

end Go.Proofs.Ytbhafcmdmpebiaa

/- The walks of find, Peek and Drop on the cache of pairs by lists. -/
import Derived.Test.YtbhafcmdmpebiaaPair
namespace Go.Proofs.Ytbhafcmdmpebiaa.Pair
open Go.RowKit Go.Mine

/-- a key's own block (the parameter's) -/
abbrev kb (k : Pr) : Obj := .cells #[.int .i8 k.a, .bool k.t] 38
abbrev sv (v : Sv) : Value := .slice v.a v.n v.c

theorem kpair {k : Pr} (h : 0 ≤ k.a ∧ k.a ≤ 15) : KPair (kv k) := ⟨k, h.1, h.2, rfl⟩

set_option maxHeartbeats 1000000 in
theorem find_at (c : Nat) (room : Int) (l : List Nd) (mo : Option Nat) (S : Nat → Prop) (k : Pr) (w : World) (h : CacheAt w S c room l mo) (hk : 0 ≤ k.a ∧ k.a ≤ 15) :
    Calls Try.prog 33 #[pt c, kv k] w fun e w' => e = .returned ((mpf l (kv k)).getD (.pointer none)) ∧ Turned (fun _ => False) w w' := by
  have hm := h.2.1
  have c1 := cell_of h.1.1 1 _ rfl
  have hlt := lt_of_block h.1.1
  have HT : Hid (Turned (fun _ => False) w (w.alloc (kb k)).drew) := (Turned.alloc _ _ _).draw
  have hz := zero74 (w.alloc (kb k)).drew
  unfold kv
  cases mo with
  | none =>
    simp only [MapOf] at hm
    subst hm
    have hl : (Instr.lookup 73 (.map none) (.agg #[.int .i8 k.a, .bool k.t]) false).run Try.prog (w.alloc (kb k)).drew = .ok (.pointer none) (w.alloc (kb k)).drew := look_nil keyInt Try.underlying73 hz (kpair hk)
    clear h hz hk
    go_enter Try.func33, Try.ntmps33
    go_wp2
    go_region
    go_wp2
    go_ret
    exact ⟨rfl, HT.out⟩
  | some bm =>
    have hm' : MapIs KPair (w.alloc (kb k)).drew bm (mpf l) l.length := hm.2.congr (by rw [heap_drew, (MapKept.heap_alloc w _).2 bm hm.2.lt]) fun _ => rfl
    have hl : (Instr.lookup 73 (.map (some bm)) (.agg #[.int .i8 k.a, .bool k.t]) false).run Try.prog (w.alloc (kb k)).drew = .ok ((mpf l (kv k)).getD (.pointer none)) (w.alloc (kb k)).drew := hm'.look keyInt Try.underlying73 hz (kpair hk)
    unfold kv at hl
    obtain ⟨r, hr⟩ : ∃ r, r = (mpf l (.agg #[.int .i8 k.a, .bool k.t])).getD (.pointer none) := ⟨_, rfl⟩
    rw [← hr] at hl ⊢
    clear hr h hm hm' hz hk
    go_enter Try.func33, Try.ntmps33
    go_wp2
    go_region
    go_wp2
    go_ret
    exact ⟨rfl, HT.out⟩

theorem find_none {c : Nat} {room : Int} {l : List Nd} {mo : Option Nat} {S : Nat → Prop} {k : Pr} {w : World} (h : CacheAt w S c room l mo) (hkr : 0 ≤ k.a ∧ k.a ≤ 15) (hk : ∀ n ∈ l, n.k ≠ k) :
    Calls Try.prog 33 #[pt c, .agg #[.int .i8 k.a, .bool k.t]] w fun e w' => e = .returned (.pointer none) ∧ Turned (fun _ => False) w w' := by
  have := find_at c room l mo S k w h hkr
  rw [mpf_none hk] at this
  exact this
theorem find_some {c : Nat} {room : Int} {l1 l2 : List Nd} {n : Nd} {mo : Option Nat} {S : Nat → Prop} {w : World} (h : CacheAt w S c room (l1 ++ n :: l2) mo) :
    Calls Try.prog 33 #[pt c, .agg #[.int .i8 n.k.a, .bool n.k.t]] w fun e w' => e = .returned (pt n.b) ∧ Turned (fun _ => False) w w' := by
  have := find_at c room _ mo S n.k w h (h.2.2.2.2.2 n (by simp))
  rw [mpf_some h.2.2.1] at this
  exact this

theorem CacheAt.keep {w w' : World} {S : Nat → Prop} {c : Nat} {room : Int} {l : List Nd} {mo : Option Nat} (h : CacheAt w S c room l mo) (ht : Turned (fun _ => False) w w') : CacheAt w' S c room l mo := h.turned ht fun _ _ q => q

set_option maxHeartbeats 1000000 in
theorem peek_none {c : Nat} {room : Int} {l : List Nd} {mo : Option Nat} {S : Nat → Prop} {k : Pr} {w : World} (h : CacheAt w S c room l mo) (hkr : 0 ≤ k.a ∧ k.a ≤ 15) (hk : ∀ n ∈ l, n.k ≠ k) :
    Calls Try.prog 14 #[pt c, .agg #[.int .i8 k.a, .bool k.t]] w fun e w' => e = .returned (.tuple #[.slice none 0 0, .bool false]) ∧ Turned (fun _ => False) w w' := by
  have h1 := h.keep (Turned.alloc _ _ (kb k))
  have hf := find_none h1 hkr hk
  clear h h1 hkr hk
  go_enter Try.func14, Try.ntmps14
  go_wp2_with (go_at_call 33; (with_reducible refine hf.mono ?_); rintro e w' ⟨rfl, ht⟩)
  go_ret2
  exact ⟨rfl, (Turned.alloc _ _ _).trans ht fun _ _ q => q⟩

theorem NdOf' {w : World} {l1 l2 : List Nd} {n : Nd} {c : Nat} {room : Int} {S : Nat → Prop} {mo : Option Nat} (h : CacheAt w S c room (l1 ++ n :: l2) mo) : ∃ p q, NdIs w n p q := NdOf h.1

set_option maxHeartbeats 1000000 in
theorem peek_some {c : Nat} {room : Int} {l1 l2 : List Nd} {n : Nd} {mo : Option Nat} {S : Nat → Prop} {w : World} (h : CacheAt w S c room (l1 ++ n :: l2) mo) :
    Calls Try.prog 14 #[pt c, .agg #[.int .i8 n.k.a, .bool n.k.t]] w fun e w' => e = .returned (.tuple #[sv n.v, .bool true]) ∧ Turned (fun _ => False) w w' := by
  have h1 := h.keep (Turned.alloc _ _ (kb n.k))
  have hf := find_some h1
  have H : Hid (∀ w', Turned (fun _ => False) (w.alloc (kb n.k)) w' → ∃ p q, NdIs w' n p q) := fun w' ht => NdOf' (h1.keep ht)
  clear h h1
  go_enter Try.func14, Try.ntmps14
  go_wp2_with fail
  refine hf.mono ?_
  rintro e w1 ⟨rfl, ht⟩
  obtain ⟨p, q, hn⟩ := H.out w1 ht
  have n2 := cell_of hn 2 _ rfl
  clear hn hf
  go_wp2
  go_ret2
  exact ⟨rfl, (Turned.alloc _ _ _).trans ht fun _ _ q => q⟩

set_option maxHeartbeats 1000000 in
theorem drop_some {c bm : Nat} {room : Int} {l1 l2 : List Nd} {n : Nd} {S : Nat → Prop} {w : World} (h : CacheAt w S c room (l1 ++ n :: l2) (some bm)) :
    Calls Try.prog 36 #[pt c, .agg #[.int .i8 n.k.a, .bool n.k.t]] w fun e w' => e = .returned (.bool true) ∧ CacheAt w' S c room (l1 ++ l2) (some bm) ∧ Turned S w w' ∧ NdIs w' n (.pointer none) (.pointer none) := by
  have h1 := h.keep (Turned.alloc _ _ (kb n.k))
  have hf := find_some h1
  have H : Hid (CacheAt (w.alloc (kb n.k)) S c room (l1 ++ n :: l2) (some bm)) := h1
  have hS : ∀ b, RingSet c (l1 ++ n :: l2) b ∨ b = bm → b < w.heap.size := fun b q => by
    rcases q with q | q
    · exact h.1.lt q
    · subst q; exact h.2.1.2.lt
  have HS : Hid (∀ b, RingSet c (l1 ++ n :: l2) b ∨ b = bm → b < w.heap.size) := hS
  clear h h1 hS
  go_enter Try.func36, Try.ntmps36
  go_wp2_with fail
  refine hf.mono ?_
  rintro e w1 ⟨rfl, ht1⟩
  have h2 := H.out.keep ht1
  have hu := unhang_ring c _ _ l1 l2 n w1 h2.1
  have H2 : Hid (CacheAt w1 S c room (l1 ++ n :: l2) (some bm)) := h2
  have T1 : Hid (Turned (fun _ => False) (w.alloc (kb n.k)) w1) := ht1
  clear hf h2 ht1
  go_wp2_with fail
  refine hu.mono ?_
  rintro e w2 ⟨rfl, hr2, hn2, ht2, -⟩
  have hm := H2.out.2.1
  have hm2 : MapIs KPair w2.drew bm (mpf (l1 ++ n :: l2)) (l1 ++ n :: l2).length := hm.2.congr (by rw [heap_drew]; exact ht2.block bm hm.2.lt hm.1) fun _ => rfl
  have hkn := H2.out.2.2.1
  obtain ⟨w3, hrun, hm3, ht3, -⟩ := hm2.delete keyInt Try.underlying73 (kpair (H2.out.2.2.2.2.2 n (by simp))) 0
  have hdel : ∀ ty, (Builtin.delete_ #[73, 38] ty #[.map (some bm), .agg #[.int .i8 n.k.a, .bool n.k.t]]).run Try.prog w2.drew = .ok (.tuple #[]) w3 := fun _ => hrun
  have c1 := cell_of hr2.1 1 _ rfl
  have hkb : Blk w2 w.heap.size #[.int .i8 n.k.a, .bool n.k.t] 38 := Blk.turned (Blk.turned (Go.Mine.heap_alloc_new w (kb n.k)) T1.out fun q => q) ht2 fun q => by have := HS.out _ (.inl q); omega
  have k0 := cell_of hkb 0 _ rfl
  have k1 := cell_of hkb 1 _ rfl
  have hms : (mpf (l1 ++ n :: l2) (kv n.k)).isSome = true := by rw [mpf_some hkn]; rfl
  have Z : Hid (CacheAt w3 S c room (l1 ++ l2) (some bm) ∧ Turned S w w3 ∧ NdIs w3 n (.pointer none) (.pointer none)) := by
    refine ⟨H2.out.del hr2 hm3 (fun key => mpf_del hkn key) (by rw [if_pos hms]; simp) ?_, ?_, ?_⟩
    · exact (Turned.drew _ _).trans ht3 fun _ _ q => q
    · refine Turned.comp (T := S) (Turned.comp (T := S) ((Turned.alloc (fun _ => False) w (kb n.k)).trans T1.out fun _ _ q => q) ht2 fun i hi q => ?_) ((Turned.drew (· = bm) _).trans ht3 fun _ _ q => q) fun i hi q => ?_
      · rcases q with q | q
        · exact q.elim
        · exact H2.out.2.2.2.1 i q
      · rcases q with q | q
        · exact q
        · exact H2.out.2.2.2.2.1 i (by rw [q])
    · exact hn2.turned ((Turned.drew (· = bm) _).trans ht3 fun _ _ q => q) fun q => hm.1 (by simp [RingSet, ← q])
  clear hu hr2 hn2 ht2 hm hm2 hkn hrun hm3 ht3 hkb hms
  go_wp2
  go_region
  go_wp2
  go_ret
  exact ⟨rfl, Z.out⟩

end Go.Proofs.Ytbhafcmdmpebiaa.Pair

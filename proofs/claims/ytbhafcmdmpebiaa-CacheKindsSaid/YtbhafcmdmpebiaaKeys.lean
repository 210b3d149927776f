/- Keys, Len, Room and Clear on the cache of ints by ints. -/
import Derived.Test.YtbhafcmdmpebiaaIs
import Derived.Deep.LoopGhost
namespace Go.Proofs.Ytbhafcmdmpebiaa
open Go.RowKit Go.Mine

theorem room_is {c : Nat} {room : Int} {l : List Nd} {mo : Option Nat} {S : Nat → Prop} {w : World} (h : CacheAt w S c room l mo) :
    Calls Try.prog 19 #[pt c] w fun e w' => e = .returned (.int .i64 room) ∧ w = w' := by
  have c0 := cell_of h.1.1 0 _ rfl
  clear h
  go_enter Try.func19, Try.ntmps19
  go_wp2
  go_ret
  exact ⟨rfl, rfl⟩

theorem len_is {c : Nat} {room : Int} {l : List Nd} {mo : Option Nat} {S : Nat → Prop} {w : World} (h : CacheAt w S c room l mo) :
    Calls Try.prog 12 #[pt c] w fun e w' => e = .returned (.int .i64 l.length) ∧ w = w' := by
  have c1 := cell_of h.1.1 1 _ rfl
  cases mo with
  | none =>
    obtain rfl : l = [] := h.2.1
    have hl : ∀ ty, (Builtin.len_ #[59] ty #[.map none]).run Try.prog w = .ok (.int .i64 0) w := fun ty => Maps.len_nil Try.underlying59 ty
    clear h
    go_enter Try.func12, Try.ntmps12
    go_wp2
    go_ret
    exact ⟨rfl, rfl⟩
  | some bm =>
    have hl := fun ty => h.2.1.2.len (P := Try.prog) Try.underlying59 ty
    clear h
    obtain ⟨L, hL⟩ : ∃ L, L = l.length := ⟨_, rfl⟩
    rw [← hL] at hl ⊢
    clear hL
    go_enter Try.func12, Try.ntmps12
    go_wp2
    go_ret
    exact ⟨rfl, rfl⟩

theorem clear_is {c : Nat} {room : Int} {l : List Nd} {mo : Option Nat} {S : Nat → Prop} {w : World} (h : CacheAt w S c room l mo) :
    Calls Try.prog 22 #[pt c] w fun e w' => e = .returned (.tuple #[]) ∧ CacheAt w' S c room [] none ∧ Turned S w w' := by
  have hb := h.1.1
  have hS := h.2.2.2.1 c (.inl rfl)
  have c1 := cell_of hb 1 _ rfl
  have c2 := cell_of hb 2 _ rfl
  have c3 := cell_of hb 3 _ rfl
  have f1 := free_of hb 1
  have f2 := free_of hb 2
  have f3 := free_of hb 3
  have hfin : CacheAt (((w.setCell ⟨c, 1, none⟩ (.map none)).setCell ⟨c, 2, none⟩ (.pointer none)).setCell ⟨c, 3, none⟩ (.pointer none)) S c room [] none ∧
      Turned S w (((w.setCell ⟨c, 1, none⟩ (.map none)).setCell ⟨c, 2, none⟩ (.pointer none)).setCell ⟨c, 3, none⟩ (.pointer none)) := by
    refine ⟨⟨⟨?_, trivial, by simp⟩, rfl, by simp, fun b q => by rcases q with rfl | q; exact hS; simp at q, fun b q => by cases q⟩, (((Turned.refl _ _).set hS _).set hS _).set hS _⟩
    have := Go.Mine.heap_setCell_same (o := 3) (Go.Mine.heap_setCell_same (o := 2) (Go.Mine.heap_setCell_same (o := 1) hb (.map none)) (.pointer none)) (.pointer none)
    simpa [Blk, hd, lst, pto] using this
  clear h hb hS
  go_enter Try.func22, Try.ntmps22
  go_wp2
  go_end0
  exact ⟨rfl, hfin⟩

def kvals (l : List Nd) : List Value := l.map fun n => .int .i64 n.k

theorem info3 : (Try.prog.info? 3).map (fun i => (i.zero, i.size, i.bytes)) = some (some (.int .i64 0), 1, 8) := by kernel_rfl

set_option maxHeartbeats 1000000 in
theorem keys_is {c : Nat} {room : Int} {l : List Nd} {mo : Option Nat} {S : Nat → Prop} {w : World} (h : CacheAt w S c room l mo) (hlen : Hid (l.length ≤ 100000)) :
    Calls Try.prog 24 #[pt c] w fun e w' => ∃ v, e = .returned v ∧ Sl w' (fun b => w.heap.size ≤ b) 3 1 v (kvals l) l.length ∧ Turned (fun _ => False) w w' := by
  have hr := h.1
  have c2 := cell_of hr.1 2 _ rfl
  have hsz : ∀ b, RingSet c l b → b < w.heap.size := fun b hb => hr.lt hb
  clear h
  go_enter Try.func24, Try.ntmps24
  go_wp2
  go_loopg [3, 4] l.length (fun k v n wr => ∃ l1 l2, l = l1 ++ l2 ∧ k = l2.length ∧ n = pto (hd l2 none) ∧ Sl wr (fun b => w.heap.size ≤ b) 3 1 v (kvals l1) l1.length ∧ Turned (fun _ => False) w wr)
  case atStart => exact ⟨[], l, rfl, rfl, rfl, Sl.nil _ _ _ _, Turned.refl _ _⟩
  case round =>
    obtain ⟨l1, l2, rfl, hgk, hnv, hsl, ht⟩ := hrel
    cases l2 with
    | nil =>
      have hnv' : u4 = .pointer none := hnv
      subst hnv'
      have A : Aside (gk = 0 ∧ Ring w c (Value.int IntKind.i64 room) (Value.map mo) (l1 ++ []) ∧ Sl wr (fun b => w.heap.size ≤ b) 3 1 u3 (kvals l1) l1.length ∧ Turned (fun _ => False) w wr) := ⟨hgk, hr, hsl, ht⟩
      clear hgk hnv hr hsl ht
      go_wp2
      go_ret
      obtain ⟨-, -, hsl, ht⟩ := A.out
      exact ⟨_, rfl, by simpa using hsl, ht⟩
    | cons n1 l2 =>
      have hnv' : u4 = pt n1.b := hnv
      subst hnv'
      clear hnv
      have hn := (hr.turned ht fun _ _ q => q).2.1
      rw [seg_app] at hn
      have hn := hn.2.1
      have n0 := cell_of hn 0 _ rfl
      have n3 := cell_of hn 3 _ rfl
      have hlt := lt_of_block hn
      have hsl1 : Sl (wr.alloc (.cells #[.int .i64 n1.k] 3)) (fun b => w.heap.size ≤ b) 3 1 _ _ _ := hsl.turned (Turned.alloc (fun _ => False) wr _) fun _ _ q => q
      have A : Aside (Turned (fun _ => False) w wr ∧ NdIs wr n1 (pto (lst l1 none)) (pto (hd l2 none)) ∧ Hid ((l1 ++ n1 :: l2).length ≤ 100000) ∧ ∀ b, RingSet c (l1 ++ n1 :: l2) b → b < w.heap.size) := ⟨ht, hn, hlen, hsz⟩
      clear ht hn hr hlen hsz
      go_wp2_with (at_builtin; go_must (refine wpList_append rfl _ _ 22 22 rfl hsl1 Try.underlying22 info3 rfl (by decide) rfl (.slice (some ⟨wr.heap.size, 0, none⟩) 1 1) rfl (src_one Try.underlying22 (.int .i64 n1.k) rfl wr) ?c1 ?c2 ?_))
      case c1 => have := A.out.2.2.1.out; simp at this; unfold maxLen; omega
      case c2 => have := A.out.2.2.1.out; simp at this; omega
      intro v' w1 hsl2 ht2
      obtain ⟨ht, hn, hlen, hsz⟩ := A.out
      have hT : Turned (fun _ => False) w w1 := (ht.trans (Turned.alloc (fun _ => False) wr _) fun _ _ q => q).comp ht2 fun i hi q => by rcases q with q | q; exact q; exact absurd q (by omega)
      have hn1 : NdIs w1 n1 _ _ := (hn.turned (Turned.alloc (fun _ => False) wr (.cells #[.int .i64 n1.k] 3)) fun q => q).turned ht2 fun q => absurd q (by have := hsz n1.b (by simp [RingSet]); omega)
      have m3 := cell_of hn1 3 _ rfl
      have hsl3 : Sl w1 (fun b => w.heap.size ≤ b) 3 1 v' (kvals (l1 ++ [n1])) (l1 ++ [n1]).length := by
        refine Sl.widen (by simpa [kvals] using hsl2) fun b q => ?_
        rcases q with q | q
        · exact q
        · have := hT.size; have := (ht.trans (Turned.alloc (fun _ => False) wr (.cells #[.int .i64 n1.k] 3)) fun _ _ q => q).size; omega
      have B : Aside (gk = (n1 :: l2).length ∧ Turned (fun _ => False) w w1 ∧ Sl w1 (fun b => w.heap.size ≤ b) 3 1 v' (kvals (l1 ++ [n1])) (l1 ++ [n1]).length) := ⟨hgk, hT, hsl3⟩
      clear hsl2 ht2 ht hn hlen hsz hT hn1 hsl3 hsl1 n0 n3 A hgk hsl
      go_wp2
      obtain ⟨hgk, hT, hsl3⟩ := B.out
      go_roundg l2.length
      case measure => rw [hgk]; simp
      case rel => exact ⟨l1 ++ [n1], l2, by simp, rfl, rfl, hsl3, hT⟩

end Go.Proofs.Ytbhafcmdmpebiaa

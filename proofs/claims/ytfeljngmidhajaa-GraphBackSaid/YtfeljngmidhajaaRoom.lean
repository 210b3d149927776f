/- An append where there is room, whole; the copy with spare room that is marked. -/
import Derived.Test.YtfeljngmidhajaaHolds
import Derived.Laws.MakeOwn
namespace Go.Mine
open Go.MapKept

theorem setCells_size (b : Nat) : ∀ (vs : List Value) (o : Nat) (w : World), (w.setCells b o vs).heap.size = w.heap.size
  | [], _, _ => rfl
  | v :: r, o, w => by rw [World.setCells, setCells_size b r, Go.Mine.setCell_size]

theorem wpList_append_room {P : Program} {w : World} {e : TypeId} {size bytes : Nat} {z : Value} {news : List Value} {n m : Nat} {ops : Array Oper} {rest : List Oper} {o : Oper} {a : Act} {Q : Exit → Act → World → Prop} (hgd : o.guard = none) (so xo : Operand) (t tx : TypeId)
    (ho : o.op = .call { callee := .builtin .append, args := #[so, xo], argTypes := #[t, tx] }) (b off cap : Nat) (cur : Array Value)
    (hb : w.heap[b]? = some (.cells cur e (0, 0))) (ht : P.underlying t = some (.slice e)) (hinf : (P.info? e).map (fun i => (i.zero, i.size, i.bytes)) = some (some z, size, bytes))
    (hs : a.eval so = .slice (some ⟨b, off, none⟩) n cap) (x : Value) (hx : a.eval xo = x) (hsrc : Src P size tx x m news w) (hroom : n + m ≤ cap) (hcs : off + cap * size ≤ cur.size)
    (hK : ∀ w', w'.heap[b]? = some (.cells (splice cur.toList (off + n * size) news).toArray e (0, 0)) → Turned (· = b) w w' → w'.heap.size = w.heap.size → wpList P ops Q rest (a.put o.dst (.slice (some ⟨b, off, none⟩) (n + m) cap)) w') : wpList P ops Q (o :: rest) a w := by
  obtain ⟨i, hi, hz0, hz1, hz2⟩ := info_parts hinf
  subst hz1
  have hmul : (n + m) * i.size ≤ cap * i.size := Nat.mul_le_mul_right _ hroom
  have hfit : off + n * i.size + news.length ≤ cur.size := by rw [hsrc.newsLen, Nat.add_assoc, ← Nat.add_mul]; omega
  have hrun := run_append_room_src (P := P) w t tx o.type e i ht hi b off n cap x m news hsrc hroom (fun j hj => by simp [World.cell?, hb]; omega) (fun j hj => free_of hb _)
  refine wpList_plain hgd fun K' hK' => ?_
  unfold Oper.wp
  simp [execOp, ho, resolve, invoke, builtin, hs, hx, hrun, Result.andThen]
  exact hK' _ _ (hK _ (heap_setCells_same b e news _ w cur hb hfit) (Turned.setCells (S := (· = b)) b rfl _ _ _) (setCells_size b news _ w))

theorem splice_room (Z A B : List Value) (h : Z.length = A.length + B.length) : splice (splice Z 0 A) A.length B = A ++ B := by
  have h1 : splice Z 0 A = A ++ Z.drop A.length := by simp [splice]
  rw [h1]
  unfold splice
  rw [List.take_left, List.drop_append, List.drop_of_length_le (by omega)]
  simp
  omega
end Go.Mine

namespace Go.Proofs.Ytfeljngmidhajaa
open Go.RowKit Go.Mine

def markC : Ch := (99, ⟨#[]⟩)

set_option maxRecDepth 100000 in
set_option maxHeartbeats 1000000 in
theorem copied_any (a : Option Addr) (cap : Nat) (l : List Ch) (w : World) (h : ChIs w a cap l) (hnil : a = none → cap = 0) (hcap : cap * 24 ≤ 140737488355328) :
    Calls Try.prog 16 #[.slice a l.length cap] w fun e w' => e = .returned (.slice (some ⟨w.heap.size, 0, none⟩) l.length (l.length + 1)) ∧ Blk w' w.heap.size (ccells (l ++ [markC])).toArray 31 ∧ Turned (fun _ => False) w w' := by
  obtain ⟨L, hL⟩ : ∃ L, L = l.length := ⟨_, rfl⟩
  have HL : Hid (L = l.length) := hL
  have hLc : L ≤ cap := by rw [hL]; exact h.1
  obtain ⟨Z, hZ⟩ : ∃ Z, Z = madeCells (Value.agg #[.int .u32 0, .string ⟨#[]⟩]).cells ((L + 1) * 2) := ⟨_, rfl⟩
  have hZs : Z.size = (L + 1) * 2 := by rw [hZ, size_madeCells]
  have hmk : (Instr.makeSlice 22 (.int .i64 0) (.int .i64 (wrap64 ((L : Int) + 1)))).run Try.prog w = .ok (.slice (some ⟨w.heap.size, 0, none⟩) 0 (L + 1)) (w.alloc (.cells Z 31)) := by
    obtain ⟨i, hi, hz0, hz1, hz2⟩ := info_parts info31
    rw [show wrap64 ((L : Int) + 1) = ((L + 1 : Nat) : Int) by simp [wrap64]; omega]
    have := run_make (P := Try.prog) w 22 31 i _ Try.underlying22 hi hz0 .i64 .i64 0 ((L + 1 : Nat) : Int) (by omega) (by omega) (by rw [hz2]; omega) (by omega)
    rw [hz1] at this
    simp only [Int.toNat_natCast] at this
    rw [hZ]
    exact this
  have hsrc := src_chunks (h.turned (Turned.alloc (fun _ => False) w (.cells Z 31))) hnil
  rw [← hL] at hsrc ⊢
  have A0 : Hid ((w.alloc (.cells Z 31)).heap[w.heap.size]? = some (.cells Z 31 (0, 0)) ∧ 0 + (L + 1) * 2 ≤ Z.size) := ⟨heap_alloc_last w _, by omega⟩
  have A1 : Hid (Src Try.prog 2 22 (.slice a L cap) L (ccells l) (w.alloc (.cells Z 31))) := hsrc
  have AZ : Hid (Z.size = (L + 1) * 2) := hZs
  have R1 : Hid (0 + L ≤ L + 1 ∧ L + 1 ≤ L + 1 ∧ 0 + (L + 1) * 2 ≤ (splice Z.toList (0 + 0 * 2) (ccells l)).toArray.size) := by
    refine ⟨by omega, by omega, ?_⟩
    rw [List.size_toArray, splice_length (by rw [ccells_length, ← HL.out, Array.length_toList, AZ.out]; omega), Array.length_toList]
    exact A0.out.2
  clear h hnil hcap hL hLc hZ hsrc hZs
  go_enter Try.func16, Try.ntmps16
  go_wp2_with (at_builtin; first
    | (refine wpList_append_room rfl _ _ 22 22 rfl w.heap.size 0 (L + 1) Z A0.out.1 Try.underlying22 info31 rfl (.slice a L cap) rfl A1.out R1.out.1 A0.out.2 ?_; intro w1 hb1 ht1 hs1; rw [Nat.zero_add L]; have B1 : Hid (w1.heap[w.heap.size]? = some (.cells (splice Z.toList (0 + 0 * 2) (ccells l)).toArray 31 (0, 0)) ∧ Turned (· = w.heap.size) (w.alloc (.cells Z 31)) w1 ∧ w1.heap.size = (w.alloc (.cells Z 31)).heap.size) := ⟨hb1, ht1, hs1⟩; clear hb1 ht1 hs1)
    | (refine wpList_append_room rfl _ _ 22 22 rfl w.heap.size 0 (L + 1) (splice Z.toList (0 + 0 * 2) (ccells l)).toArray (Go.Mine.heap_alloc_old B1.out.1) Try.underlying22 info31 rfl (.slice (some ⟨w1.heap.size, 0, none⟩) 1 1) rfl (src_ch markC w1) R1.out.2.1 R1.out.2.2 ?_; intro w2 hb2 ht2 hs2; have B2 : Hid (w2.heap[w.heap.size]? = some (.cells (splice (splice Z.toList (0 + 0 * 2) (ccells l)).toArray.toList (0 + L * 2) (ccells [markC])).toArray 31 (0, 0)) ∧ Turned (· = w.heap.size) (w1.alloc (.cells #[.int .u32 99, .string ⟨#[]⟩] 31)) w2) := ⟨hb2, ht2⟩; clear hb2 ht2 hs2))
  go_ret
  have e1 : splice (splice Z.toList (0 + 0 * 2) (ccells l)).toArray.toList (0 + L * 2) (ccells [markC]) = ccells (l ++ [markC]) := by
    have := splice_room Z.toList (ccells l) (ccells [markC]) (by rw [Array.length_toList, AZ.out, ccells_length, ccells_length, ← HL.out]; simp; omega)
    rw [ccells_length, ← HL.out] at this
    rw [ccells_append]
    simpa using this
  refine ⟨rfl, ?_, ?_⟩
  · have := B2.out.1
    rw [e1] at this
    exact this
  · have hz : (w.alloc (.cells Z 31)).heap.size = w.heap.size + 1 := by simp
    have k1 := (Turned.alloc (fun _ => False) w (.cells Z 31)).comp B1.out.2.1 (T := fun _ => False) fun i hi q => q.elim id fun q => by omega
    have k2 := k1.trans (Turned.alloc (fun _ => False) w1 (.cells #[.int .u32 99, .string ⟨#[]⟩] 31)) fun _ _ q => q
    exact k2.comp B2.out.2 fun i hi q => q.elim id fun q => by omega
end Go.Proofs.Ytfeljngmidhajaa

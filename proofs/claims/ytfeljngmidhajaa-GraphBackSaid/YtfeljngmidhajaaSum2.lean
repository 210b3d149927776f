/- The table's rows. -/
import Derived.Test.YtfeljngmidhajaaSum
namespace Go.Proofs.Ytfeljngmidhajaa
open Go.RowKit Go.Mine

theorem wpList_store_row {P : Program} {ops : Array Oper} {rest : List Oper} {op : Oper} {a : Act} {w : World} {Q : Exit → Act → World → Prop} (hgd : op.guard = none) (ty : TypeId) (x y : Operand) (ho : op.op = .store ty x y)
    (g : Nat) (cells old : Array Value) (t : TypeId) (hx : a.eval x = .pointer (some ⟨g, 0, none⟩)) (hy : a.eval y = .agg cells)
    (hg : w.heap[g]? = some (.cells old t (0, 0))) (hi : (P.info? ty).map (·.size) = some cells.size) (hs : old.size = cells.size) (h1 : cells.all (·.oneCell') = true)
    (h : ∀ w', w'.heap[g]? = some (.cells cells t (0, 0)) → Turned (· = g) w w' → w'.heap.size = w.heap.size → wpList P ops Q rest (a.put op.dst undef) w') : wpList P ops Q (op :: rest) a w :=
  wpList_plain hgd fun _ hK => by
    unfold Oper.wp execOp
    simp only [ho, hx, hy, Instr.storeAt, Instr.sureAddr, Sem.run_bind, Sem.run_pure, Result.andThen_ok, run_storeVar_row w g t ty old cells hg hi hs h1]
    exact hK _ _ (h _ (setRow_heap w g old cells t (0, 0) hg) ⟨rfl, rfl, rfl, by simp [World.setRow], fun k _ hk => setRow_other w g k cells hk⟩ (by simp [World.setRow]))

def RowsRel (w : World) (T0 : Array Value) (g : Nat) (i : Value) (wr : World) : Prop :=
  ∃ j : Nat, j + g = 256 ∧ i = .int .i64 j ∧ wr = (w.alloc (.cells T0 107)).alloc (.cells (tab j) 107)

set_option maxRecDepth 100000 in
set_option maxHeartbeats 1000000 in
theorem rows_any (w : World) : Calls Try.prog 77 #[] w fun e w' => e = .returned (.agg (tab 256)) ∧ Turned (fun _ => False) w w' := by
  have z107 := zero107
  obtain ⟨T0, hT0⟩ : ∃ T, T = tab 0 := ⟨_, rfl⟩
  rw [← hT0] at z107
  have A : Hid (T0 = tab 0) := hT0
  clear hT0
  go_enter Try.func77, Try.ntmps77
  go_wp2
  clear z107
  go_loopg [4] 256 (fun g i wr => RowsRel w T0 g i wr)
  case atStart => exact ⟨0, rfl, rfl, by rw [A.out]⟩
  case round =>
    obtain ⟨j, hjg, rfl, rfl⟩ := hrel
    have G : Hid (j + gk = 256) := hjg
    clear hjg
    by_cases hlt : j < 256
    · have hd : decide ((j : Int) < 256) = true := by simp; omega
      have ht : ∀ (m : Nat) w, Calls Try.prog 109 #[.int .u32 (Crc.turns m j : Nat)] w fun e w' => e = .returned (.int .u32 (Crc.turns (m + 1) j : Nat)) ∧ w = w' := by
        intro m w
        rw [Crc.turns_succ]
        exact turn_any _ (Crc.turns_lt m j (by omega)) w
      have hset := tab_set j hlt
      have hsz := tab_size j
      have hg : (tab j)[j]? = some (.int .u32 0) := by rw [tab_get j j hlt]; simp
      go_wp2
      go_loopg [3, 9] 8 (fun g c k wr => ∃ m : Nat, m + g = 8 ∧ k = .int .i64 m ∧ c = .int .u32 (Crc.turns m j : Nat) ∧ wr = (w.alloc (.cells T0 107)).alloc (.cells (tab j) 107))
      case atStart => exact ⟨0, rfl, rfl, by simp [Crc.turns], rfl⟩
      case round =>
        obtain ⟨m, hmg, rfl, rfl, rfl⟩ := hrel
        by_cases hm : m < 8
        · go_wp2_with (go_at_call 109; (with_reducible refine (ht _ _).mono ?_); rintro e w' ⟨rfl, rfl⟩)
          go_roundg (7 - m)
          case measure => omega
          case rel => exact ⟨m + 1, by omega, rfl, rfl, rfl⟩
        · obtain rfl : m = 8 := by omega
          go_wp2
          go_roundg (255 - j)
          case measure => have := G.out; omega
          case rel => exact ⟨j + 1, by omega, rfl, rfl⟩
    · have hd : decide ((j : Int) < 256) = false := by simp; omega
      have X : Hid (tab j = tab 256) := by have := G.out; have : j = 256 := by omega
                                           rw [this]; rfl
      clear hlt G
      have hT := tab_size j
      have hT1 := tab_one j
      have hTi : (Try.prog.info? 107).map (·.size) = some (tab j).size := by rw [hT]; exact size107
      have hu : Try.prog.underlying 107 = some (.array 256 29) := by kernel_rfl
      have hg : ((w.alloc (.cells T0 107)).alloc (.cells (tab j) 107)).heap[w.heap.size + 1]? = some (.cells (tab j) 107 (0, 0)) := by
        have := heap_alloc_last (w.alloc (.cells T0 107)) (.cells (tab j) 107)
        simpa using this
      have hg0 : ((w.alloc (.cells T0 107)).alloc (.cells (tab j) 107)).heap[w.heap.size]? = some (.cells T0 107 (0, 0)) := by
        rw [(MapKept.heap_alloc _ _).2 _ (by simp)]
        exact heap_alloc_last w _
      have hT0 : T0.size = (tab j).size := by rw [A.out, tab_size, tab_size]
      have hTu : Turned (fun _ => False) w ((w.alloc (.cells T0 107)).alloc (.cells (tab j) 107)) := (Turned.alloc _ _ _).trans (Turned.alloc _ _ _) fun _ _ q => q
      generalize (w.alloc (.cells T0 107)).alloc (.cells (tab j) 107) = w1 at *
      generalize tab j = T at *
      have U : Hid (Turned (fun _ => False) w w1) := hTu
      have S : Hid (w1.heap[w.heap.size]? = some (.cells T0 107 (0, 0)) ∧ T0.size = T.size ∧ T.all (·.oneCell') = true ∧ (Try.prog.info? 107).map (·.size) = some T.size ∧ Try.prog.underlying 107 = some (.array 256 29)) := ⟨hg0, hT0, hT1, hTi, hu⟩
      have L : Hid (w1.heap[w.heap.size + 1]? = some (.cells T 107 (0, 0))) := hg
      clear hT hT1 hTi hu hg hg0 hT0 hTu
      go_wp2_with (first
        | (refine wpList_load_row rfl 107 _ rfl (w.heap.size + 1) rfl 107 T (0, 0) _ L.out S.out.2.2.2.2 rfl S.out.2.2.2.1 ?_)
        | (refine wpList_store_row rfl 107 _ _ rfl w.heap.size T T0 107 rfl rfl S.out.1 S.out.2.2.2.1 S.out.2.1 S.out.2.2.1 ?_; intro w2 hw2 ht2 _))
      refine bodyPost_ret (v := .agg T) (results_cell_row rfl _ _ w.heap.size 107 T (0, 0) _ rfl hw2 S.out.2.2.2.2 rfl S.out.2.2.2.1) rfl ⟨by rw [X.out], ?_⟩
      exact (U.out.comp ht2 fun i hi q => q.elim id fun q => by omega)
end Go.Proofs.Ytfeljngmidhajaa

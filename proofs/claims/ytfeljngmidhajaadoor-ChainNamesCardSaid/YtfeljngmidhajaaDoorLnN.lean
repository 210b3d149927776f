/- The next number of a chain: the walk, for links whose numbers lie below the greatest. -/
import Derived.Test.YtfeljngmidhajaaDoorLnC
import Derived.BigQuiet
import Derived.Lib.MinMax
namespace Go.Proofs.YtfeljngmidhajaaDoor
open Go.RowKit Go.Mine

abbrev KInt : Value → Prop := MapKept.IsKey (.int .i64)
theorem kk (k : Int) : KInt (.int .i64 k) := rfl
theorem keyInt : KeyOk Tryd.prog 3 KInt := plain_keyOk Tryd.underlying3

theorem wpList_look_as {P : Program} {w : World} {ops : Array Oper} {rest : List Oper} {o : Oper} {a : Act} {Q : Exit → Act → World → Prop} {K : Value → Prop} {b n : Nat} {m : Value → Option Value}
    (hg : o.guard = none) (mo xo : Operand) (t : TypeId) (hop : o.op = Op.lookup t mo xo false) (kt et : TypeId) (O : KeyOk P kt K) (ht : P.underlying t = some (.map kt et))
    (z : Value) (hz : (zeroValue et).run P w = .ok z w) (h : MapIs K w b m n) (hm : a.eval mo = .map (some b)) (x : Value) (hx : a.eval xo = x) (hk : K x) (r : Value) (hr : (m x).getD z = r)
    (hK : wpList P ops Q rest (a.put o.dst r) w) : wpList P ops Q (o :: rest) a w :=
  wpList_look hg mo xo t hop kt et O ht z hz h hm x hx hk (by rw [hr]; exact hK)

def nxt (l : List Ln) : Int := l.foldl (fun n x => max n (x.1 + 1)) 0
theorem nxt_snoc (l : List Ln) (x : Ln) : nxt (l ++ [x]) = max (nxt l) (x.1 + 1) := by unfold nxt; rw [List.foldl_append]; rfl
def Low (l : List Ln) : Prop := ∀ x ∈ l, 0 ≤ x.1 ∧ x.1 < 1073741824
theorem nxt_bound (l : List Ln) (h : Low l) : 0 ≤ nxt l ∧ nxt l ≤ 1073741824 := by
  have : ∀ (l : List Ln), Low l → ∀ n, 0 ≤ n ∧ n ≤ 1073741824 → 0 ≤ l.foldl (fun n x => max n (x.1 + 1)) n ∧ l.foldl (fun n x => max n (x.1 + 1)) n ≤ 1073741824 := by
    intro l
    induction l with
    | nil => intro _ n h; exact h
    | cons x l ih =>
      intro hl n hn
      rw [List.foldl_cons]
      refine ih (fun y hy => hl y (List.mem_cons_of_mem _ hy)) _ ?_
      have := hl x (by simp)
      omega
  exact this l h 0 (by omega)

def NxtRel (w : World) (bm : Nat) (l : List Ln) (g : Nat) (n i : Value) (wr : World) : Prop :=
  ∃ (j : Nat) (m : Value → Option Value) (u : Nat), j + g = l.length ∧ i = .int .i64 j ∧ n = .int .i64 (nxt (l.take j)) ∧ MapIs KInt wr bm m u ∧ (∀ x v, m x = some v → ∃ c, v = .int .i64 c) ∧ Turned (fun _ => False) w wr

set_option maxRecDepth 100000 in
set_option maxHeartbeats 2000000 in
theorem next_any (a : Option Addr) (cap : Nat) (l : List Ln) (w : World) (h : LnIs w a cap l) (hl : l.length ≤ 100000) (ho : Low l) :
    Calls Tryd.prog 17 #[.slice a l.length cap] w fun e w' => e = .returned (.int .i64 (nxt l)) ∧ Turned (fun _ => False) w w' := by
  have H : Hid (LnIs w a cap l) := h
  have LO : Hid (Low l) := ho
  obtain ⟨L, hL⟩ : ∃ L, L = l.length := ⟨_, rfl⟩
  have HL : Hid (L = l.length ∧ L ≤ 100000) := ⟨hL, by omega⟩
  rw [← hL]
  clear h hL hl ho
  have hmm := @run_makeMap Tryd.prog
  go_enter Tryd.func17, Tryd.ntmps17
  go_wp2
  have BM : Hid (MapIs KInt (w.alloc (.map #[] 0)) w.heap.size (fun _ => none) 0) := MapIs.made _ _
  have ST : Hid (NxtRel w w.heap.size l L (.int .i64 0) (.int .i64 0) (w.alloc (.map #[] 0))) := ⟨0, _, _, by have := HL.out.1; omega, rfl, rfl, BM.out, by simp, Turned.alloc _ _ _⟩
  go_loopg [4, 10] L (fun g n i wr => NxtRel w w.heap.size l g n i wr)
  case atStart => exact ST.out
  case round =>
    clear ST BM
    obtain ⟨j, m, u, hjg, rfl, rfl, hmap, hmi, ht⟩ := hrel
    have T : Hid (Turned (fun _ => False) w wr) := ht
    have G : Hid (j + gk = l.length) := hjg
    have MP : Hid (MapIs KInt wr w.heap.size m u) := hmap
    have HM : Hid (∀ x v, m x = some v → ∃ c, v = .int .i64 c) := hmi
    clear ht hjg hmap hmi
    by_cases hlt : j < L
    · obtain ⟨c, hc⟩ : ∃ c, l[j]? = some c := ⟨_, List.getElem?_eq_getElem (by rw [← HL.out.1]; exact hlt)⟩
      obtain ⟨b, off, rfl, hbw, c0, c1, c2⟩ := lnIs_any (H.out.turned T.out) j c hc
      have hlo := LO.out c (List.mem_of_getElem? hc)
      have NX : Hid (nxt (l.take (j + 1)) = max (nxt (l.take j)) (c.1 + 1)) := by
        have : nxt (l.take (j + 1)) = max (nxt (l.take j)) (c.1 + 1) := by rw [List.take_add_one, hc]; exact nxt_snoc _ _
        exact this
      have hnum : ∀ W, Calls Tryd.prog 32 #[.int .i64 c.1] W fun e w' => e = .returned (.bool true) ∧ W = w' := fun W => by
        have := numbered_any c.1 W
        rw [show numb c.1 = true by unfold numb; simp; omega] at this
        exact this
      have hw1 : wrap64 (c.1 + 1) = c.1 + 1 := by simp only [wrap64]; omega
      obtain ⟨x1, x2, x3⟩ := c
      simp only at *
      obtain ⟨r, hr⟩ : ∃ r, (m (.int .i64 x1)).getD (.int .i64 0) = .int .i64 r := by
        cases hx : m (.int .i64 x1) with
        | none => exact ⟨0, rfl⟩
        | some v => obtain ⟨c, rfl⟩ := HM.out _ _ hx; exact ⟨c, rfl⟩
      have MP2 : Hid (∀ o, MapIs KInt (wr.alloc o) w.heap.size m u) := fun o => MP.out.congr ((Turned.alloc (fun _ => False) wr o).block _ MP.out.lt fun q => q) fun _ => rfl
      have hz : ∀ W, (zeroValue 3).run Tryd.prog W = .ok (.int .i64 0) W := fun W => by kernel_rfl
      clear hc hlo
      generalize nxt (l.take j) = n at *
      go_wp2_with (first
        | (go_at_call 32; (with_reducible refine (hnum _).mono ?_); rintro e w5 ⟨rfl, rfl⟩)
        | (at_lookup; go_must (refine wpList_look_as rfl _ _ 71 rfl 3 3 keyInt Tryd.underlying71 (.int .i64 0) (hz _) (MP2.out _) rfl (.int .i64 x1) rfl (kk _) (.int .i64 r) hr ?_))
        | (at_mapUpdate; go_must (refine wpList_update rfl _ _ _ 71 rfl 3 3 keyInt Tryd.underlying71 (MP2.out _) rfl (.int .i64 x1) _ rfl rfl (kk _) ?_); intro w6 hmap6 ht6 hs6; have hc6 : w6.cell? ⟨wr.heap.size, 0, none⟩ = some (.int .i64 x1) := (World.cell?_of_block (ht6.block wr.heap.size (by simp) fun q => by have := MP.out.lt; omega)).trans (cell_of (heap_alloc_last wr _) 0 _ rfl); have hl6 : wr.heap.size < w6.heap.size := (by rw [hs6]; simp); have U6 : Hid (MapIs KInt w6 w.heap.size _ _ ∧ Turned (· = w.heap.size) _ w6) := ⟨hmap6, ht6⟩; clear hmap6 ht6 hs6))
      go_roundg (gk - 1)
      case measure => have := G.out; have := HL.out; omega
      case rel =>
        refine ⟨j + 1, _, _, by have := G.out; have := HL.out; omega, by have := HL.out; simp [wrap64]; omega, by rw [NX.out], U6.out.1, ?_, ((T.out.new _).comp U6.out.2 fun i hi q => ?_)⟩
        · intro x v hx
          split at hx
          · exact ⟨_, (Option.some.inj hx).symm⟩
          · exact HM.out x v hx
        · rcases q with q | q
          · exact q
          · omega
    · have hj : j = L := by have := G.out; have := HL.out; omega
      subst hj
      have HE : Hid (l.take j = l) := List.take_of_length_le (by have := HL.out.1; omega)
      have hlo := nxt_bound l LO.out
      have hnum : ∀ W, Calls Tryd.prog 32 #[.int .i64 (nxt l)] W fun e w' => e = .returned (.bool true) ∧ W = w' := fun W => by
        have := numbered_any (nxt l) W
        rw [show numb (nxt l) = true by unfold numb; simp; omega] at this
        exact this
      rw [HE.out]
      clear hlo
      obtain ⟨n, hn⟩ : ∃ n, n = nxt l := ⟨_, rfl⟩
      rw [← hn] at hnum ⊢
      have HN : Hid (n = nxt l) := hn
      clear hn
      go_wp2_with (go_at_call 32; (with_reducible refine (hnum _).mono ?_); rintro e w5 ⟨rfl, rfl⟩)
      go_ret
      exact ⟨by rw [← HN.out]; rfl, T.out⟩
end Go.Proofs.YtfeljngmidhajaaDoor

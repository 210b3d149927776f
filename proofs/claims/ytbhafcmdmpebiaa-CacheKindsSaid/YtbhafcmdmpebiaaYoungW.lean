/- The walk of CacheYoung. -/
import Derived.Test.YtbhafcmdmpebiaaYoungP
import Derived.Test.YtbhafcmdmpebiaaKeeps
import Derived.Deep.LoopGhost
namespace Go.Proofs.Ytbhafcmdmpebiaa
open Go.RowKit Go.Mine

def IsRow (k : IntKind) (w : World) (a : Option Addr) (len cap : Nat) (zs : List Int) : Prop :=
  (a = none ∧ len = 0 ∧ cap = 0 ∧ zs = []) ∨
  ∃ x, a = some x ∧ len ≤ cap ∧ cap ≤ maxLen ∧ zs.length = cap ∧ (∀ i, i < zs.length → w.cell? (x.add i) = some (.int k (zs.getD i 0))) ∧ ∀ n ∈ zs, (Lit.int k n).wf = true

theorem IsRow.lens {k : IntKind} {w : World} {a : Option Addr} {len cap : Nat} {zs : List Int} (h : IsRow k w a len cap zs) : len ≤ cap ∧ zs.length = cap := by
  rcases h with ⟨-, rfl, rfl, rfl⟩ | ⟨x, -, h1, -, h2, -⟩
  · exact ⟨Nat.le_refl _, rfl⟩
  · exact ⟨h1, h2⟩

theorem IsRow.at {k : IntKind} {w : World} {a : Option Addr} {len cap : Nat} {zs : List Int} (h : IsRow k w a len cap zs) (hl : 0 < len) :
    ∃ b off, a = some ⟨b, off, none⟩ ∧ b < w.heap.size ∧ ∀ i, i < len → w.cell? ⟨b, off + i, none⟩ = some (.int k (zs.getD i 0)) := by
  rcases h with ⟨-, rfl, rfl, rfl⟩ | ⟨⟨b, off, sp⟩, rfl, h1, -, h2, h3, -⟩
  · omega
  · have h0 := h3 0 (by omega)
    have hsp : sp = none := by
      cases sp with
      | none => rfl
      | some x =>
        exfalso
        simp only [Addr.add, World.cell?] at h0
        split at h0 <;> simp at h0
    subst hsp
    refine ⟨b, off, rfl, ?_, fun i hi => ?_⟩
    · simp only [Addr.add, World.cell?] at h0
      split at h0
      · rename_i h; exact lt_of_block h
      · simp at h0
    · rw [← Addr.add_lit]; exact h3 i (by omega)

theorem wpList_look_as {P : Program} {w : World} {ops : Array Oper} {rest : List Oper} {o : Oper} {a : Act} {Q : Exit → Act → World → Prop} {K : Value → Prop} {b n : Nat} {m : Value → Option Value}
    (hg : o.guard = none) (mo xo : Operand) (t : TypeId) (hop : o.op = Op.lookup t mo xo false) (kt et : TypeId) (O : KeyOk P kt K) (ht : P.underlying t = some (.map kt et))
    (z : Value) (hz : (zeroValue et).run P w = .ok z w) (h : MapIs K w b m n) (hm : a.eval mo = .map (some b)) (x : Value) (hx : a.eval xo = x) (hk : K x) (r : Value) (hr : (m x).getD z = r)
    (hK : wpList P ops Q rest (a.put o.dst r) w) : wpList P ops Q (o :: rest) a w :=
  wpList_look hg mo xo t hop kt et O ht z hz h hm x hx hk (by rw [hr]; exact hK)

def Rel (w : World) (c bm N L g : Nat) (i : Value) (wr : World) : Prop :=
  ∃ (j : Nat) (kv : KV) (S : Nat → Prop) (m : Value → Option Value) (u : Nat), j + g = L ∧ i = .int .i64 j ∧ CacheIs wr S c N kv ∧ (∀ b, S b → w.heap.size ≤ b ∧ b ≠ bm) ∧ MapIs KInt wr bm m u ∧ w.heap.size ≤ bm ∧
    (∀ x v, m x = some v → ∃ c, v = .int .i64 c) ∧ YInv N kv (fun y => (m (.int .i64 y)).isSome = true) u ∧ Turned (fun _ => False) w wr

set_option maxHeartbeats 1000000 in
theorem young_any (a0 : Int) (a1 : Option Addr) (len1 cap1 : Nat) (z1 : List Int) (w : World) (h0 : 0 ≤ a0) (h255 : a0 ≤ 255) (w1 : IsRow .i64 w a1 len1 cap1 z1) :
    Calls Try.prog 3 #[.int .u8 a0, .slice a1 len1 cap1] w fun e w' => e = .returned (.bool true) ∧ Turned (fun _ => False) w w' := by
  have R : Hid (IsRow .i64 w a1 len1 cap1 z1) := w1
  clear w1
  have hmm := @run_makeMap Try.prog
  go_enter Try.func3, Try.ntmps3
  go_wp2_with fail
  refine (keeps_any w).mono ?_
  rintro e w1 ⟨rfl, ht1⟩
  have A1 : Hid (Turned (fun _ => False) w w1) := ht1
  clear ht1
  go_wp2_with fail
  obtain ⟨N, hN⟩ : ∃ N : Nat, 2 + a0 % 8 = (N : Int) := ⟨(2 + a0 % 8).toNat, by omega⟩
  have hN2 : Hid (2 ≤ N ∧ N ≤ 4096) := ⟨by omega, by omega⟩
  rw [hN]
  clear hN h0 h255
  refine (new_kv N w1).mono ?_
  rintro e w2 ⟨rfl, hc2, ht2⟩
  rw [show min (max (N : Int) 0) 4096 = (N : Int) by have := hN2.out; omega] at hc2
  have A2 : Hid (Turned (fun _ => False) w1 w2) := ht2
  clear ht2
  obtain ⟨c, hcw⟩ : ∃ c, c = w1.heap.size := ⟨_, rfl⟩
  rw [← hcw] at hc2 ⊢
  have B1 : Hid (c = w1.heap.size) := hcw
  clear hcw
  go_wp2_with fail
  refine (put_kv (-2) 8 hc2).mono ?_
  rintro e w3 ⟨rfl, hc3, ht3⟩
  have A3 : Hid (Turned (fun b => b = c) w2 w3) := ht3
  clear ht3 hc2
  go_wp2_with fail
  refine (put_kv (-1) 7 hc3).mono ?_
  rintro e w4 ⟨rfl, hc4, ht4⟩
  have A4 : Hid (Turned (More (fun b => b = c) w2) w3 w4) := ht4
  have C4 : Hid (CacheIs w4 _ c N _) := hc4
  clear ht4 hc3 hc4
  obtain ⟨L, hL, hLl, hLc, hL5⟩ : ∃ L : Nat, (if (500 : Int) < (len1 : Int) then 500 else (len1 : Int)) = (L : Int) ∧ L ≤ len1 ∧ L ≤ cap1 ∧ L ≤ 500 := ⟨min len1 500, by split <;> omega, by omega, by have := R.out.lens; omega, by omega⟩
  have D : Hid (L ≤ len1) := hLl
  clear hLl
  go_wp2
  clear hL
  obtain ⟨bm, hbm⟩ : ∃ bm, bm = w4.heap.size := ⟨_, rfl⟩
  rw [← hbm]
  have B4 : Hid (bm = w4.heap.size) := hbm
  clear hbm
  have hstart : Hid (Rel w c bm N L L (.int .i64 0) (w4.alloc (.map #[] 0))) := by
    have a1 := A1.out; have a2 := A2.out; have a3 := A3.out; have a4 := A4.out; have hb := B4.out; have hc := B1.out
    have s1 := a1.size; have s2 := a2.size; have s3 := a3.size; have s4 := a4.size
    have hlt := C4.out
    have hT : Turned (fun _ => False) w w4 := by
      refine ((a1.comp (T := fun _ => False) a2 fun i hi q => ?_).comp (T := fun _ => False) a3 fun i hi q => ?_).comp a4 fun i hi q => ?_
      all_goals rcases q with q | q
      all_goals try exact q
      · omega
      · rcases q with q | q <;> omega
    refine ⟨0, _, (fun b => w.heap.size ≤ b ∧ b ≠ bm), fun _ => none, 0, Nat.zero_add _, rfl, (hlt.bound.turned (Turned.alloc (fun _ => False) _ _) fun _ _ q => q).widen fun b q => ?_, fun b q => q, ?_, by omega, by simp, ?_, hT.new _⟩
    · rcases q with ⟨(q | q) | q, q2⟩ <;> omega
    · rw [hb]; exact MapIs.made _ _
    · have := young_start hN2.out.1
      simpa using this
  go_loopg [33] L (fun k i wr => Rel w c bm N L k i wr)
  case atStart => exact hstart.out
  case round =>
    clear hstart A1 A2 A3 A4 B1 B4 C4
    obtain ⟨j, kv, S, m, u, hjg, rfl, hkv, hS, hmap, hbm, hmi, hY, ht⟩ := hrel
    by_cases hlt : j < L
    · have hL1 := D.out
      obtain ⟨b, off, rfl, hbw, hcell⟩ := R.out.at (by omega)
      obtain ⟨kx, hkx⟩ : ∃ kx, kx = z1.getD j 0 := ⟨_, rfl⟩
      have hc : wr.cell? ⟨b, off + j, none⟩ = some (.int .i64 kx) := by
        rw [hkx, ← hcell j (by omega)]
        exact World.cell?_of_block (ht.block b hbw fun q => q)
      clear hkx hcell hbw
      by_cases h1 : kx = -1
      · subst h1
        have X : Hid (Rel w c bm N L (gk - 1) (.int .i64 ((j : Int) + 1)) wr) := ⟨j + 1, kv, S, m, u, by omega, rfl, hkv, hS, hmap, hbm, hmi, hY, ht⟩
        clear hkv hS hmap hbm hmi hY ht D R
        go_wp2
        go_roundg (gk - 1)
        case measure => omega
        case rel => exact X.out
      by_cases h2 : kx = -2
      · subst h2
        have X : Hid (Rel w c bm N L (gk - 1) (.int .i64 ((j : Int) + 1)) wr) := ⟨j + 1, kv, S, m, u, by omega, rfl, hkv, hS, hmap, hbm, hmi, hY, ht⟩
        clear hkv hS hmap hbm hmi hY ht D R
        go_wp2
        go_roundg (gk - 1)
        case measure => omega
        case rel => exact X.out
      have hf1 : (kx == -1) = false := by simpa using h1
      have hf2 : (kx == -2) = false := by simpa using h2
      have Y : Hid (kx ≠ -1 ∧ kx ≠ -2 ∧ YInv N kv (fun y => (m (.int .i64 y)).isSome = true) u ∧ Turned (fun _ => False) w wr ∧ (∀ b, S b → w.heap.size ≤ b ∧ b ≠ bm) ∧ w.heap.size ≤ bm ∧ (kv.map (·.1)).Nodup ∧ bm < wr.heap.size) := ⟨h1, h2, hY, ht, hS, hbm, hkv.nodup, hmap.lt⟩
      have hbmlt := hmap.lt
      clear h1 h2 hY ht hS hbm D R
      go_wp2_with fail
      refine (put_kv kx 1 hkv).mono ?_
      rintro e w5 ⟨rfl, hkv5, ht5⟩
      have hmap5 : MapIs KInt w5 bm m u := hmap.congr (ht5.block bm hbmlt fun q => (Y.out.2.2.2.2.1 bm q).2 rfl) fun _ => rfl
      have T5 : Hid (Turned S wr w5) := ht5
      clear hmap ht5 hbmlt hkv
      obtain ⟨r, hr⟩ : ∃ r, (m (.int .i64 kx)).getD (.int .i64 0) = .int .i64 r := by
        cases hx : m (.int .i64 kx) with
        | none => exact ⟨0, rfl⟩
        | some v => obtain ⟨c, rfl⟩ := hmi _ _ hx; exact ⟨c, rfl⟩
      have HM : Hid (∀ x v, m x = some v → ∃ c, v = .int .i64 c) := hmi
      clear hmi
      have hz : (zeroValue 3).run Try.prog w5 = .ok (.int .i64 0) w5 := by kernel_rfl
      go_wp2_with (first | (at_lookup; go_must (refine wpList_look_as rfl _ _ 28 rfl 3 3 keyInt Try.underlying28 (.int .i64 0) hz hmap5 rfl (.int .i64 kx) rfl (kk _) (.int .i64 r) hr ?_)) | (at_mapUpdate; go_must (refine wpList_update rfl _ _ _ 28 rfl 3 3 keyInt Try.underlying28 hmap5 rfl (.int .i64 kx) _ rfl rfl (kk _) ?_); intro w6 hmap6 ht6 hs6))
      obtain ⟨y1, y2, y3, y4, y5, y6, y7, y8⟩ := Y.out
      obtain ⟨g1, g2⟩ := young_step hN2.out.1 y7 y1 y2 y3
      have hkv6 := hkv5.turned ht6 fun b q => by rcases q with q | q; exact (y5 b q).2; omega
      have hget := get_kv (-1) hkv6
      rw [g1, show valOf (some (-1, 7)) = 7 from rfl, show (some ((-1 : Int), (7 : Int))).isSome = true from rfl] at hget
      have G2 : Hid (YInv N _ _ _) := g2
      have T6 : Hid (Turned (fun b => b = bm) w5 w6) := ht6
      clear y1 y2 y3 y4 y5 y6 y7 y8 g1 g2 hkv6 hkv5 ht6 hs6 hmap5
      refine hget.mono ?_
      rintro e w7 ⟨rfl, hkv7, ht7⟩
      clear hget
      have hpk := peek_kv (-2) hkv7
      have hln := len_kv hkv7
      have T7 : Hid (Turned (More S wr) w6 w7) := ht7
      obtain ⟨kv7, hk7⟩ : ∃ kv7, kv7 = getKv (putKv N kv kx 1) (-1) := ⟨_, rfl⟩
      rw [← hk7] at hpk hln hkv7 G2
      have hle : kv7.length ≤ N := by obtain ⟨A, -, h, -⟩ := G2.out; exact h
      have M6 : Hid (MapIs KInt w6 bm _ _) := hmap6
      have K7 : Hid (CacheIs w7 _ c N kv7) := hkv7
      clear hk7 hkv7 hmap6 ht7
      obtain ⟨Q, hQ⟩ : ∃ Q, Q = kv7.length := ⟨_, rfl⟩
      rw [← hQ] at hln hle
      clear hQ
      go_wp2_with (first | (go_at_call 11; (with_reducible refine hpk.mono ?_); rintro e w' ⟨rfl, rfl⟩) | (go_at_call 12; (with_reducible refine hln.mono ?_); rintro e w' ⟨rfl, rfl⟩))
      go_roundg (gk - 1)
      case measure => omega
      case rel =>
        obtain ⟨y1, y2, y3, y4, y5, y6, y7, y8⟩ := Y.out
        have t5 := T5.out; have t6 := T6.out; have t7 := T7.out
        have s5 := t5.size; have s6 := t6.size; have s7 := t7.size
        have hS1 : ∀ b, More S wr b → b ≠ bm := fun b q => by
          rcases q with q | q
          · exact (y5 b q).2
          · omega
        have hm7 := M6.out.congr (w' := w7) (t7.block bm M6.out.lt fun q => hS1 bm q rfl) fun _ => rfl
        refine ⟨j + 1, kv7, (fun b => More S wr b), _, _, by omega, rfl, K7.out, fun b q => ⟨?_, hS1 b q⟩, hm7, y6, ?_, G2.out.congr fun y => ?_, ?_⟩
        · rcases q with q | q
          · exact (y5 b q).1
          · have := y4.size; omega
        · intro x v hx
          split at hx
          · exact ⟨_, (Option.some.inj hx).symm⟩
          · exact HM.out x v hx
        · by_cases hy : y = kx
          · subst hy; simp
          · have : ¬ (Value.int IntKind.i64 y = Value.int IntKind.i64 kx) := fun q => hy (by injection q)
            simp only [this, if_false, hy, or_false]
        · refine ((y4.comp (T := fun _ => False) t5 fun i hi q => ?_).comp (T := fun _ => False) t6 fun i hi q => ?_).comp t7 fun i hi q => ?_
          all_goals rcases q with q | q
          all_goals try exact q
          · have := (y5 i q).1; omega
          · omega
          · rcases q with q | q
            · have := (y5 i q).1; omega
            · have := y4.size; omega
    · have hpk := peek_kv (-2) hkv
      rw [young_end hY] at hpk
      have hln := fun ty => hmap.len (P := Try.prog) Try.underlying28 ty
      have T : Hid (Turned (fun _ => False) w wr) := ht
      obtain ⟨r, hr⟩ : ∃ r, r = valOf (findKv kv (-2)) := ⟨_, rfl⟩
      rw [← hr] at hpk
      have N2 : 2 ≤ N := hN2.out.1
      have N3 : N ≤ 4096 := hN2.out.2
      clear hkv hS hmap hbm hmi hY ht D R hr hN2
      go_wp2_with (go_at_call 11; (with_reducible refine hpk.mono ?_); rintro e w' ⟨rfl, rfl⟩)
      go_ret
      refine ⟨?_, T.out⟩
      show Ending.returned (.bool (decide ((u : Int) ≤ (N : Int) - 2) == decide (u + 2 ≤ N))) = _
      have e1 : decide ((u : Int) ≤ (N : Int) - 2) = decide (u + 2 ≤ N) := by
        rw [Bool.eq_iff_iff, decide_eq_true_eq, decide_eq_true_eq]; omega
      rw [e1]; simp

end Go.Proofs.Ytbhafcmdmpebiaa

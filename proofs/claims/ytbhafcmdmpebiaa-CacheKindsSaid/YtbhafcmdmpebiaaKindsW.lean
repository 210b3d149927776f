/- The walk of CacheKinds. -/
import Derived.Test.YtbhafcmdmpebiaaKindsP
import Derived.BigQuiet
import Derived.Deep.QuietTactic
import Derived.Test.YtbhafcmdmpebiaaYoungW
namespace Go.Proofs.Ytbhafcmdmpebiaa.Pair
open Go.RowKit Go.Mine

def KRel (w : World) (c N L g : Nat) (o i : Value) (wr : World) : Prop :=
  ∃ (j : Nat) (kv : KV) (S So : Nat → Prop), j + g = L ∧ i = .int .i64 j ∧ CacheIs wr S c N kv ∧ Sl wr So 38 2 o (kcells (keysOf kv)) kv.length ∧ (∀ b, S b → ¬ So b) ∧ (∀ b, S b → w.heap.size ≤ b) ∧ (∀ b, So b → w.heap.size ≤ b ∧ b < wr.heap.size) ∧
    (∀ x ∈ kv, x.2.n = 2) ∧ kv.length ≤ N ∧ Turned (fun b => w.heap.size ≤ b) w wr

set_option maxHeartbeats 1000000 in
set_option maxRecDepth 100000 in
theorem kinds_any (a0 : Int) (a1 : Option Addr) (len1 cap1 : Nat) (z1 : List Int) (w : World) (h0 : 0 ≤ a0) (h255 : a0 ≤ 255) (w1 : IsRow .u8 w a1 len1 cap1 z1) :
    Calls Try.prog 4 #[.int .u8 a0, .slice a1 len1 cap1] w fun e w' => e = .returned (.bool true) ∧ Turned (fun _ => False) w w' := by
  have R : Hid (IsRow .u8 w a1 len1 cap1 z1) := w1
  clear w1
  go_enter Try.func4, Try.ntmps4
  go_wp2_with fail
  refine (keeps_any w).mono ?_
  rintro e w1 ⟨rfl, ht1⟩
  have A1 : Hid (Turned (fun _ => False) w w1) := ht1
  clear ht1
  go_wp2_with fail
  obtain ⟨N, hN⟩ : ∃ N : Nat, a0 % 9 = (N : Int) := ⟨(a0 % 9).toNat, by omega⟩
  have hN8 : N ≤ 8 := by omega
  rw [hN]
  clear hN h0 h255
  refine (new_kv N w1).mono ?_
  rintro e w2 ⟨rfl, hc2, ht2⟩
  rw [show min (max (N : Int) 0) 4096 = (N : Int) by omega] at hc2
  have A2 : Hid (Turned (fun _ => False) w1 w2) := ht2
  clear ht2
  obtain ⟨c, hcw⟩ : ∃ c, c = w1.heap.size := ⟨_, rfl⟩
  rw [← hcw] at hc2 ⊢
  have B1 : Hid (c = w1.heap.size) := hcw
  have C2 : Hid (CacheIs w2 _ c N []) := hc2
  clear hcw hc2
  obtain ⟨L, hL, hLl, hLc, hL5⟩ : ∃ L : Nat, (if (500 : Int) < (len1 : Int) then 500 else (len1 : Int)) = (L : Int) ∧ L ≤ len1 ∧ L ≤ cap1 ∧ L ≤ 500 := ⟨min len1 500, by split <;> omega, by omega, by have := R.out.lens; omega, by omega⟩
  have D : Hid (L ≤ len1) := hLl
  clear hLl
  go_wp2
  clear hL
  have HS : Hid (KRel w c N L L (.slice none 0 0) (.int .i64 0) w2) := by
    have a1 := A1.out; have a2 := A2.out; have hb := B1.out; have s1 := a1.size; have s2 := a2.size
    exact ⟨0, [], _, fun _ => False, Nat.zero_add _, rfl, C2.out, Sl.nil _ _ _ _, fun _ _ q => q, fun b q => by omega, fun _ q => q.elim, by simp, by simp, (a1.trans a2 fun _ _ q => q).mono fun _ _ q => q.elim⟩
  go_loopg [7, 34] L (fun g o i wr => KRel w c N L g o i wr)
  case atStart => exact HS.out
  case round =>
    clear HS A1 A2 B1 C2
    obtain ⟨j, kv, S, So, hjg, rfl, hC, hO, hd0, hSw, hSo, h2, hlN, ht⟩ := hrel
    obtain ⟨wo, rfl⟩ : ∃ x : World, x = wr := ⟨_, rfl⟩
    obtain ⟨gq, rfl⟩ : ∃ x : Nat, x = gk := ⟨_, rfl⟩
    by_cases hlt : j < L
    · have hL1 := D.out
      obtain ⟨b, off, rfl, hbw, hcell⟩ := R.out.at (by omega)
      obtain ⟨ax, hax⟩ : ∃ ax, ax = z1.getD j 0 := ⟨_, rfl⟩
      have hs := ht.size
      have hc : wo.cell? ⟨b, off + j, none⟩ = some (.int .u8 ax) := by
        rw [hax, ← hcell j (by omega)]
        exact World.cell?_of_block (ht.block b hbw (by omega))
      have hax0 : 0 ≤ ax ∧ ax ≤ 255 := by rw [hax]; exact isRow_bounds R.out (by omega)
      obtain ⟨hax0, hax1⟩ := hax0
      have X : Hid (CacheIs wo S c N kv ∧ Sl wo So 38 2 u7 (kcells (keysOf kv)) kv.length ∧ (∀ b, S b → ¬ So b) ∧ (∀ b, S b → w.heap.size ≤ b) ∧ (∀ b, So b → w.heap.size ≤ b ∧ b < wo.heap.size) ∧ (∀ x ∈ kv, x.2.n = 2) ∧ kv.length ≤ N ∧ Turned (fun b => w.heap.size ≤ b) w wo) := ⟨hC, hO, hd0, hSw, hSo, h2, hlN, ht⟩
      have hbr : b < wo.heap.size := by omega
      clear hax hcell hC hO hd0 hSw hSo h2 hlN ht hs hbw R D
      go_wp2_with fail
      obtain ⟨k, hka, htb⟩ : ∃ k : Pr, ax % 16 = k.a ∧ (bits BinOp.and IntKind.u8 ax 64 != 0) = k.t := ⟨⟨_, _⟩, rfl, rfl⟩
      have hkr : Hid (0 ≤ k.a ∧ k.a ≤ 15) := ⟨by omega, by omega⟩
      rw [hka, htb]
      clear hka htb
      obtain ⟨x1, x2, x3, x4, x5, x6, x7, x8⟩ := X.out
      have hpk := peek_kv k (x1.turned (Turned.alloc (fun _ => False) wo (kb k)) fun _ _ q => q) hkr.out
      have hp2 := peek_two (k := k) x6
      obtain ⟨pv, hpv⟩ : ∃ pv, pv = valOf (findKv kv k) := ⟨_, rfl⟩
      rw [hp2, ← hpv] at hpk
      clear x1 x2 x3 x4 x5 x6 x7 x8 hpv hp2
      refine hpk.mono ?_
      rintro e w5 ⟨rfl, ht5⟩
      clear hpk
      have hb5 : Blk w5 wo.heap.size #[.int .i8 k.a, .bool k.t] 38 := Blk.turned (Go.Mine.heap_alloc_new wo (kb k)) ht5 fun q => q
      have hl5 := lt_of_block hb5
      have y0 := cell_of hb5 0 _ rfl
      have y1 := cell_of hb5 1 _ rfl
      have T5 : Hid (Turned (fun _ => False) (wo.alloc (kb k)) w5) := ht5
      have HB5 : Hid (Blk w5 wo.heap.size #[.int .i8 k.a, .bool k.t] 38) := hb5
      clear ht5 hb5
      go_wp2_with fail
      have t6 : Turned (fun _ => False) wo (w5.alloc (.cells #[.int .i64 ax, .int .i64 j] 3)) := (((Turned.alloc (fun _ => False) wo (kb k)).trans T5.out fun _ _ q => q).new _)
      have hput := put_kv k ⟨some ⟨w5.heap.size, 0, none⟩, 2, 2⟩ (X.out.1.turned t6 fun _ _ q => q) hkr.out
      refine hput.mono ?_
      rintro e w6 ⟨rfl, hc6, ht6⟩
      have hB6 : Hid (∀ b, (S b ∨ w5.heap.size + 1 ≤ b) → ¬ So b) := fun b q z => by
        rcases q with q | q
        · exact X.out.2.2.1 b q z
        · have := (X.out.2.2.2.2.1 b z).2; have := t6.size; simp at this; omega
      have hsz5 : (w5.alloc (.cells #[.int .i64 ax, .int .i64 j] 3)).heap.size = w5.heap.size + 1 := by simp
      have SB5 : Hid (∀ b, S b → b < wo.heap.size) := X.out.1.2
      have hb6 : Blk w6 wo.heap.size #[.int .i8 k.a, .bool k.t] 38 := Blk.turned (Go.Mine.heap_alloc_old HB5.out) ht6 fun q => by have := SB5.out _ q; omega
      have hO6 : Sl w6 So 38 2 u7 (kcells (keysOf kv)) kv.length := (X.out.2.1.turned t6 fun _ _ q => q).turned ht6 fun b q z => X.out.2.2.1 b z q
      have T6 : Hid (Turned (fun _ => False) wo (w5.alloc (.cells #[.int .i64 ax, .int .i64 j] 3)) ∧ Turned S (w5.alloc (.cells #[.int .i64 ax, .int .i64 j] 3)) w6) := ⟨t6, ht6⟩
      have C6 : Hid (CacheIs w6 (fun b => More S (w5.alloc (.cells #[.int .i64 ax, .int .i64 j] 3)) b ∧ b < w6.heap.size) c N (putKv N kv k ⟨some ⟨w5.heap.size, 0, none⟩, 2, 2⟩)) := hc6
      have P6 := kinds_step X.out.1.nodup X.out.2.2.2.2.2.1 (show (⟨some ⟨w5.heap.size, 0, none⟩, 2, 2⟩ : Sv).n = 2 from rfl) X.out.2.2.2.2.2.2.1 (k := k)
      obtain ⟨ok, hok⟩ : ∃ ok, ok = (putRet N kv k ⟨some ⟨w5.heap.size, 0, none⟩, 2, 2⟩).1 := ⟨_, rfl⟩
      obtain ⟨ov, hov⟩ : ∃ ov, ov = (putRet N kv k ⟨some ⟨w5.heap.size, 0, none⟩, 2, 2⟩).2.1 := ⟨_, rfl⟩
      obtain ⟨G, hG⟩ : ∃ G, G = (putRet N kv k ⟨some ⟨w5.heap.size, 0, none⟩, 2, 2⟩).2.2 := ⟨_, rfl⟩
      rw [← hok, ← hov, ← hG]
      have hPR : putRet N kv k ⟨some ⟨w5.heap.size, 0, none⟩, 2, 2⟩ = (ok, ov, G) := by rw [hok, hov, hG]
      rw [hPR] at P6
      have PP : Hid (_ ∧ _ ∧ _) := P6
      clear hput hc6 ht6 t6 hok hov hG hPR P6 hsz5 y0 y1
      -- the order that there was
      obtain ⟨ao, co, rfl, hco, hcm⟩ := hO6.value
      obtain ⟨n, hn⟩ : ∃ n, n = kv.length := ⟨_, rfl⟩
      have hn8 : n ≤ 8 := by rw [hn]; have := X.out.2.2.2.2.2.2.1; omega
      have HN : Hid (n = kv.length) := hn
      have O6 : Hid (Sl w6 So 38 2 _ (kcells (keysOf kv)) kv.length) := hO6
      have HB6 : Hid (Blk w6 wo.heap.size #[.int .i8 k.a, .bool k.t] 38) := hb6
      rw [← hn] at hco ⊢
      clear hn hO6 hb6 hcm
      go_wp2
      obtain ⟨W7, hW7⟩ : ∃ W7, W7 = w6.alloc (.cells #[.int .i8 ok.a, .bool ok.t] 38) := ⟨_, rfl⟩
      rw [← hW7]
      have H7 : Hid (W7 = w6.alloc (kb ok)) := hW7
      clear hW7
      go_loopg [16, 70] n (fun g nx i wq => ∃ (t : Nat) (ks : List Pr), t + g = n ∧ i = .int .i64 t ∧ ks = ((keysOf kv).take t).filter (fun x => decide (x ≠ k)) ∧ Sl wq (fun b => W7.heap.size ≤ b) 38 2 nx (kcells ks) ks.length ∧ Turned (fun _ => False) W7 wq)
      case atStart => exact ⟨0, [], Nat.zero_add _, rfl, by simp, Sl.nil _ _ _ _, Turned.refl _ _⟩
      case round =>
        obtain ⟨t, ks, htn, rfl, hks, hsl, htq⟩ := hrel
        have t7 : Turned (fun _ => False) w6 wr := (by rw [H7.out] at htq; exact (Turned.alloc _ w6 _).trans htq fun _ _ q => q)
        have hk7 := HB6.out.turned t7 fun q => q
        have y0 := cell_of hk7 0 _ rfl
        have y1 := cell_of hk7 1 _ rfl
        have hl7 := lt_of_block hk7
        by_cases htl : t < n
        · obtain ⟨g, off', cap', hval, -, -, -, hcell, -, hgw⟩ := (O6.out.turned t7 fun _ _ q => q).opens (by rw [← HN.out]; omega)
          injection hval with e1 e2 e3
          subst e1; subst e3
          have d0 := hcell (t * 2) (by rw [← HN.out]; omega)
          have d1 := hcell (t * 2 + 1) (by rw [← HN.out]; omega)
          rw [kcells_get0 _ _ (by rw [keysOf_length, ← HN.out]; exact htl)] at d0
          rw [kcells_get1 _ _ (by rw [keysOf_length, ← HN.out]; exact htl), ← Nat.add_assoc] at d1
          obtain ⟨x, hx⟩ : ∃ x, x = (keysOf kv).getD t ⟨0, false⟩ := ⟨_, rfl⟩
          rw [← hx] at d0 d1
          have hnext := take_filter_succ (keysOf kv) k t (by rw [keysOf_length, ← HN.out]; exact htl)
          rw [← hx, ← hks] at hnext
          have hksl : ks.length ≤ 8 := by have := filter_len_le (keysOf kv) k t; rw [← hks, keysOf_length, ← HN.out] at this; omega
          have hW7s : W7.heap.size ≤ wr.heap.size := htq.size
          have A : Hid (Sl wr (fun b => W7.heap.size ≤ b) 38 2 u16 (kcells ks) ks.length ∧ Turned (fun _ => False) W7 wr ∧ ((keysOf kv).take (t + 1)).filter (fun x => decide (x ≠ k)) = ks ++ (if x = k then [] else [x])) := ⟨hsl, htq, hnext⟩
          clear hcell hx hnext hks hsl htq t7 hk7
          by_cases hxk : x = k
          · subst hxk
            have A2 : Hid (((keysOf kv).take (t + 1)).filter (fun y => decide (y ≠ x)) = ks) := by have := A.out.2.2; rw [if_pos rfl, List.append_nil] at this; exact this
            go_wp2
            go_roundg (gk - 1)
            case measure => omega
            case rel => exact ⟨t + 1, ks, by omega, rfl, A2.out.symm, A.out.1.turned ((Turned.alloc (fun _ => False) wr _)) fun _ _ q => q, A.out.2.1.new _⟩
          · have hor : ¬ x.a = k.a ∨ (x.a = k.a ∧ ¬ x.t = k.t) := by
              by_cases ha : x.a = k.a
              · refine .inr ⟨ha, fun ht => hxk ?_⟩
                cases x; cases k; simp at ha ht; subst ha; subst ht; rfl
              · exact .inl ha
            have HXK : ¬ x = k := hxk
            clear hxk
            rcases hor with q | ⟨q1, q2⟩
            · have HX : Hid (¬ x = k) := HXK
              clear HXK
              have A2 : Hid (((keysOf kv).take (t + 1)).filter (fun y => decide (y ≠ k)) = ks ++ [x]) := by have := A.out.2.2; rw [if_neg HX.out] at this; exact this
              have hsl1 : Sl ((wr.alloc (kb x)).alloc (kb x)) (fun b => W7.heap.size ≤ b) 38 2 u16 (kcells ks) ks.length := A.out.1.turned ((Turned.alloc (fun _ => False) wr (kb x)).new (kb x)) fun _ _ q => q
              have hsz1 : (wr.alloc (kb x)).heap.size = wr.heap.size + 1 := by simp
              have hsrc := src_key x (wr.alloc (kb x))
              rw [hsz1] at hsrc
              clear hsz1
              go_wp2_with (at_builtin; go_must (refine wpList_append rfl _ _ 39 39 rfl hsl1 Try.underlying39 info38 rfl (by decide) rfl (.slice (some ⟨wr.heap.size + 1, 0, none⟩) 1 1) rfl hsrc ?c1 ?c2 ?_))
              case c1 => unfold maxLen; omega
              case c2 => omega
              intro v2 wz hv2 ht2
              have Z2 : Hid (Sl wz (More (fun b => W7.heap.size ≤ b) ((wr.alloc (kb x)).alloc (kb x))) 38 2 v2 (kcells ks ++ kcells [x]) (ks.length + 1) ∧ Turned (fun b => W7.heap.size ≤ b) ((wr.alloc (kb x)).alloc (kb x)) wz) := ⟨hv2, ht2⟩
              clear hv2 ht2 hsl1 hsrc
              go_wp2
              go_roundg (gk - 1)
              case measure => omega
              case rel =>
                have hT : Turned (fun _ => False) W7 wz := ((A.out.2.1.new _).new _).comp Z2.out.2 fun i hi q => by rcases q with q | q; exact q; omega
                refine ⟨t + 1, ks ++ [x], by omega, rfl, A2.out.symm, ?_, hT⟩
                have hv := Z2.out.1
                rw [← kcells_app] at hv
                rw [List.length_append, List.length_singleton]
                refine hv.widen fun b q => ?_
                rcases q with q | q
                · exact q
                · have := ((A.out.2.1.new (kb x)).new (kb x)).size; have q' : ((wr.alloc (kb x)).alloc (kb x)).heap.size ≤ b := q; omega

            · obtain ⟨xa, xt⟩ := x
              simp only at q1 q2
              subst q1
              have HX : Hid (¬ (⟨k.a, xt⟩ : Pr) = k) := HXK
              clear HXK
              have A2 : Hid (((keysOf kv).take (t + 1)).filter (fun y => decide (y ≠ k)) = ks ++ [⟨k.a, xt⟩]) := by have := A.out.2.2; rw [if_neg HX.out] at this; exact this
              have hsl1 : Sl ((wr.alloc (kb ⟨k.a, xt⟩)).alloc (kb ⟨k.a, xt⟩)) (fun b => W7.heap.size ≤ b) 38 2 u16 (kcells ks) ks.length := A.out.1.turned ((Turned.alloc (fun _ => False) wr (kb ⟨k.a, xt⟩)).new (kb ⟨k.a, xt⟩)) fun _ _ q => q
              have hsz1 : (wr.alloc (kb ⟨k.a, xt⟩)).heap.size = wr.heap.size + 1 := by simp
              have hsrc := src_key ⟨k.a, xt⟩ (wr.alloc (kb ⟨k.a, xt⟩))
              rw [hsz1] at hsrc
              clear hsz1
              go_wp2_with (at_builtin; go_must (refine wpList_append rfl _ _ 39 39 rfl hsl1 Try.underlying39 info38 rfl (by decide) rfl (.slice (some ⟨wr.heap.size + 1, 0, none⟩) 1 1) rfl hsrc ?c1 ?c2 ?_))
              case c1 => unfold maxLen; omega
              case c2 => omega
              intro v2 wz hv2 ht2
              have Z2 : Hid (Sl wz (More (fun b => W7.heap.size ≤ b) ((wr.alloc (kb ⟨k.a, xt⟩)).alloc (kb ⟨k.a, xt⟩))) 38 2 v2 (kcells ks ++ kcells [⟨k.a, xt⟩]) (ks.length + 1) ∧ Turned (fun b => W7.heap.size ≤ b) ((wr.alloc (kb ⟨k.a, xt⟩)).alloc (kb ⟨k.a, xt⟩)) wz) := ⟨hv2, ht2⟩
              clear hv2 ht2 hsl1 hsrc
              go_wp2
              go_roundg (gk - 1)
              case measure => omega
              case rel =>
                have hT : Turned (fun _ => False) W7 wz := ((A.out.2.1.new _).new _).comp Z2.out.2 fun i hi q => by rcases q with q | q; exact q; omega
                refine ⟨t + 1, ks ++ [⟨k.a, xt⟩], by omega, rfl, A2.out.symm, ?_, hT⟩
                have hv := Z2.out.1
                rw [← kcells_app] at hv
                rw [List.length_append, List.length_singleton]
                refine hv.widen fun b q => ?_
                rcases q with q | q
                · exact q
                · have := ((A.out.2.1.new (kb ⟨k.a, xt⟩)).new (kb ⟨k.a, xt⟩)).size; have q' : ((wr.alloc (kb ⟨k.a, xt⟩)).alloc (kb ⟨k.a, xt⟩)).heap.size ≤ b := q; omega

        · have htn' : t = n := by omega
          have hkk : ks ++ [k] = nextOrder kv k := by
            rw [hks, htn', HN.out, List.take_of_length_le (by rw [keysOf_length]; exact Nat.le_refl _)]; rfl
          have hksl : ks.length ≤ 8 := by have := filter_len_le (keysOf kv) k t; rw [← hks, keysOf_length, ← HN.out] at this; omega
          have hob : Blk wr w6.heap.size #[.int .i8 ok.a, .bool ok.t] 38 := by
            have h1 : Blk W7 w6.heap.size #[.int .i8 ok.a, .bool ok.t] 38 := by rw [H7.out]; exact Go.Mine.heap_alloc_new _ _
            exact h1.turned htq fun q => q
          have hl8 := lt_of_block hob
          have hW7s : W7.heap.size ≤ wr.heap.size := htq.size
          have hsl1 : Sl (wr.alloc (kb k)) (fun b => W7.heap.size ≤ b) 38 2 u16 (kcells ks) ks.length := hsl.turned (Turned.alloc (fun _ => False) wr (kb k)) fun _ _ q => q
          have hsrc := src_key k wr
          obtain ⟨m, hm⟩ : ∃ m, m = ks.length := ⟨_, rfl⟩
          rw [← hm] at hsl1 hksl
          have A : Hid (Turned (fun _ => False) W7 wr ∧ ks ++ [k] = nextOrder kv k ∧ m = ks.length ∧ Blk wr w6.heap.size #[.int .i8 ok.a, .bool ok.t] 38) := ⟨htq, hkk, hm, hob⟩
          clear hks hsl htq htn' hkk hm hob t7 hk7
          go_wp2_with (at_builtin; go_must (refine wpList_append rfl _ _ 39 39 rfl hsl1 Try.underlying39 info38 rfl (by decide) rfl (.slice (some ⟨wr.heap.size, 0, none⟩) 1 1) rfl hsrc ?c1 ?c2 ?_))
          case c1 => unfold maxLen; omega
          case c2 => omega
          intro v2 wz hv2 ht2
          obtain ⟨a2, cap2, rfl, hcap2, -⟩ := hv2.value
          rw [← kcells_app, A.out.2.1] at hv2
          have hlN : m + 1 = (nextOrder kv k).length := by rw [← A.out.2.1, A.out.2.2.1]; simp
          have V2 : Hid (Sl wz (More (fun b => W7.heap.size ≤ b) (wr.alloc (kb k))) 38 2 (.slice a2 (m + 1) cap2) (kcells (nextOrder kv k)) (m + 1)) := hv2
          have hs8 : w6.heap.size < W7.heap.size := by rw [H7.out]; simp
          have hoz : Blk wz w6.heap.size #[.int .i8 ok.a, .bool ok.t] 38 := (Blk.turned A.out.2.2.2 (Turned.alloc (fun _ => False) wr (kb k)) fun q => q).turned ht2 fun q => by omega
          have o0 := cell_of hoz 0 _ rfl
          have o1 := cell_of hoz 1 _ rfl
          have TZ : Hid (Turned (fun b => w.heap.size ≤ b) w wz ∧ CacheIs wz (fun b => More S (w5.alloc (.cells #[.int .i64 ax, .int .i64 j] 3)) b ∧ b < w6.heap.size) c N (putKv N kv k ⟨some ⟨w5.heap.size, 0, none⟩, 2, 2⟩) ∧ W7.heap.size ≤ wz.heap.size ∧ w.heap.size ≤ w6.heap.size ∧ (∀ b, More S (w5.alloc (.cells #[.int .i64 ax, .int .i64 j] 3)) b → w.heap.size ≤ b)) := by
            have e8 := X.out.2.2.2.2.2.2.2
            have s0 := e8.size; have s1 := T6.out.1.size; have s2 := T6.out.2.size; have s3 := A.out.1.size; have s4 : (wr.alloc (kb k)).heap.size ≤ wz.heap.size := ht2.size
            have s5 : (w5.alloc (.cells #[.int .i64 ax, .int .i64 j] 3)).heap.size ≤ w6.heap.size := T6.out.2.size
            have s6 : wo.heap.size ≤ (w5.alloc (.cells #[.int .i64 ax, .int .i64 j] 3)).heap.size := T6.out.1.size
            have hs9 : (wr.alloc (kb k)).heap.size = wr.heap.size + 1 := by simp
            have t67 : Turned (fun _ => False) w6 wr := by have h := A.out.1; rw [H7.out] at h; exact (Turned.alloc _ w6 _).trans h fun _ _ q => q
            refine ⟨?_, ?_, by omega, by omega, fun b q => ?_⟩
            · refine ((((e8.trans (T6.out.1.mono (S' := fun b => w.heap.size ≤ b) fun _ _ q => q.elim) fun _ _ q => q).trans (T6.out.2.mono (S' := fun b => w.heap.size ≤ b) fun b _ q => X.out.2.2.2.1 b q) fun _ _ q => q).trans (t67.mono (S' := fun b => w.heap.size ≤ b) fun _ _ q => q.elim) fun _ _ q => q).new (kb k)).trans (ht2.mono (S' := fun b => w.heap.size ≤ b) fun b _ q => by omega) fun _ _ q => q
            · exact ((C6.out.turned t67 fun _ _ q => q).turned (Turned.alloc (fun _ => False) wr (kb k)) fun _ _ q => q).turned ht2 fun b q z => by have := q.2; omega
            · rcases q with q | q
              · exact X.out.2.2.2.1 b q
              · omega
          have A7 : Hid (W7.heap.size ≤ (wr.alloc (kb k)).heap.size) := (A.out.1.new (kb k)).size
          have JL : Hid (j + gq = L ∧ (nextOrder kv k).length = m + 1) := ⟨hjg, hlN.symm⟩
          clear hv2 ht2 hsl1 hsrc hoz hlN y0 y1 hl7 hs8 T6 C6 hB6 SB5 A T5 HB5 O6 HB6 X
          rcases PP.out with ⟨⟨hpr, hko, hle⟩ | ⟨ok', ov', hpr, hov2, hno, hgt⟩, hall, hlen⟩
          · simp only [Prod.mk.injEq] at hpr
            obtain ⟨rfl, rfl, rfl⟩ := hpr
            rw [JL.out.2] at hle
            have hd1 : decide ((N : Int) < (m : Int) + 1) = false := by simpa using (by omega : (m : Int) + 1 ≤ N)
            have F : Hid (keysOf (putKv N kv k ⟨some ⟨w5.heap.size, 0, none⟩, 2, 2⟩) = nextOrder kv k ∧ (∀ x ∈ putKv N kv k ⟨some ⟨w5.heap.size, 0, none⟩, 2, 2⟩, x.2.n = 2) ∧ (putKv N kv k ⟨some ⟨w5.heap.size, 0, none⟩, 2, 2⟩).length ≤ N) := ⟨hko, hall, hlen⟩
            clear hko hall hlen
            go_wp2
            go_quiet (fail)
            go_wp2
            go_roundg (gq - 1)
            case measure => omega
            case rel =>
              have s7 : W7.heap.size = w6.heap.size + 1 := by rw [H7.out]; simp
              have hkl : (putKv N kv k ⟨some ⟨w5.heap.size, 0, none⟩, 2, 2⟩).length = m + 1 := by rw [← keysOf_length, F.out.1, JL.out.2]
              refine ⟨j + 1, _, _, (fun b => W7.heap.size ≤ b ∧ b < wz.heap.size), by have := JL.out.1; omega, rfl, TZ.out.2.1.turned (turned_drewN (fun _ => False) _ _) fun _ _ q => q, ?_, fun b q z => by have := q.2; omega, fun b q => TZ.out.2.2.2.2 b q.1, fun b q => ⟨by have := TZ.out.2.2.2.1; omega, q.2⟩, F.out.2.1, F.out.2.2, TZ.out.1.trans (turned_drewN (fun b => w.heap.size ≤ b) _ _) fun _ _ q => q⟩
              have hv := V2.out
              rw [← F.out.1] at hv
              rw [hkl]
              exact ((sl_bound hv).widen fun b q => ⟨by have := A7.out; rcases q.1 with z | z <;> omega, q.2⟩).turned (turned_drewN (fun _ => False) _ _) fun _ _ q => q
          · simp only [Prod.mk.injEq] at hpr
            obtain ⟨rfl, rfl, rfl⟩ := hpr
            rw [JL.out.2] at hgt
            have hd1 : decide ((N : Int) < (m : Int) + 1) = true := by simpa using (by omega : (N : Int) < (m : Int) + 1)
            have hkl : (putKv N kv k ⟨some ⟨w5.heap.size, 0, none⟩, 2, 2⟩).length = m := by
              have := congrArg List.length hno
              rw [JL.out.2, List.length_cons, keysOf_length] at this; omega
            obtain ⟨g2, off2, cap3, hval2, -, -, -, hcell2, -, -⟩ := V2.out.opens (by omega)
            injection hval2 with e1 e2 e3
            subst e1; subst e3
            have p0 := hcell2 0 (by omega)
            have p1 := hcell2 1 (by omega)
            rw [hno, kcells_cons] at p0 p1
            have p0' : wz.cell? ⟨g2, off2, none⟩ = some (.int .i8 ok.a) := p0
            have p1' : wz.cell? ⟨g2, off2 + 1, none⟩ = some (.bool ok.t) := p1
            obtain ⟨v3, hv3r, hv3⟩ := V2.out.run_from (P := Try.prog) Try.underlying39 info38 1 .i64 1 rfl (by omega)
            have F : Hid (Sl wz (More (fun b => W7.heap.size ≤ b) (wr.alloc (kb k))) 38 2 v3 (kcells (keysOf (putKv N kv k ⟨some ⟨w5.heap.size, 0, none⟩, 2, 2⟩))) m ∧ (∀ x ∈ putKv N kv k ⟨some ⟨w5.heap.size, 0, none⟩, 2, 2⟩, x.2.n = 2) ∧ (putKv N kv k ⟨some ⟨w5.heap.size, 0, none⟩, 2, 2⟩).length ≤ N ∧ (putKv N kv k ⟨some ⟨w5.heap.size, 0, none⟩, 2, 2⟩).length = m) := by
              refine ⟨?_, hall, hlen, hkl⟩
              have h := hv3
              rw [hno, kcells_cons] at h
              exact h
            obtain ⟨oa, on, oc⟩ := ov
            simp only at hov2
            subst hov2
            clear hall hlen hno p0 p1 hcell2 hv3 hkl
            go_wp2
            go_quiet (fail)
            go_wp2
            go_roundg (gq - 1)
            case measure => omega
            case rel =>
              have s7 : W7.heap.size = w6.heap.size + 1 := by rw [H7.out]; simp
              refine ⟨j + 1, _, _, (fun b => W7.heap.size ≤ b ∧ b < wz.heap.size), by have := JL.out.1; omega, rfl, TZ.out.2.1.turned (turned_drewN (fun _ => False) _ _) fun _ _ q => q, ?_, fun b q z => by have := q.2; omega, fun b q => TZ.out.2.2.2.2 b q.1, fun b q => ⟨by have := TZ.out.2.2.2.1; omega, q.2⟩, F.out.2.1, F.out.2.2.1, TZ.out.1.trans (turned_drewN (fun b => w.heap.size ≤ b) _ _) fun _ _ q => q⟩
              rw [F.out.2.2.2]
              exact ((sl_bound F.out.1).widen fun b q => ⟨by have := A7.out; rcases q.1 with z | z <;> omega, q.2⟩).turned (turned_drewN (fun _ => False) _ _) fun _ _ q => q
    · have hk := keys_kv hC (by exact (by omega : kv.length ≤ 100000))
      have hsz := hC.2
      obtain ⟨n, hn⟩ : ∃ n, n = kv.length := ⟨_, rfl⟩
      have hn8 : n ≤ 8 := by omega
      rw [← hn] at hk
      obtain ⟨ao, co, rfl, hco, hcm⟩ := hO.value
      have X : Hid (CacheIs wo S c N kv ∧ Sl wo So 38 2 (.slice ao kv.length co) (kcells (keysOf kv)) kv.length ∧ (∀ b, So b → b < wo.heap.size) ∧ n = kv.length ∧ Turned (fun b => w.heap.size ≤ b) w wo) := ⟨hC, hO, fun b q => (hSo b q).2, hn, ht⟩
      rw [← hn]
      clear hC hO hd0 hSw hSo h2 hlN ht hsz hco hcm hn R D
      go_wp2_with fail
      refine hk.mono ?_
      rintro e w5 ⟨v, rfl, hsl, ht5⟩
      obtain ⟨a5, c5, rfl, -, -⟩ := hsl.value
      have hln := fun m => len_kv ((X.out.1.turned ht5 fun _ _ q => q).turned (turned_drewN (fun _ => False) w5 m) fun _ _ q => q)
      rw [← X.out.2.2.2.1] at hln
      have Y : Hid (Sl w5 (fun b => wo.heap.size ≤ b) 38 2 (.slice a5 n c5) (kcells (keysOf kv)) n ∧ Turned (fun _ => False) wo w5 ∧ Sl w5 So 38 2 (.slice ao kv.length co) (kcells (keysOf kv)) kv.length) := ⟨hsl, ht5, X.out.2.1.turned ht5 fun _ _ q => q⟩
      have HL : Hid (∀ m, Calls Try.prog 17 #[pt c] (w5.drewN m) fun e w' => e = .returned (.int .i64 n) ∧ w5.drewN m = w') := hln
      clear hk hsl ht5 hln
      go_wp2
      go_loopg [134] n (fun g i wq => ∃ t : Nat, t + g = n ∧ i = .int .i64 t ∧ ∃ d, wq = w5.drewN d)
      case atStart => exact ⟨0, Nat.zero_add _, rfl, 0, rfl⟩
      case round =>
        obtain ⟨t, htn, rfl, d, rfl⟩ := hrel
        by_cases htl : t < n
        · obtain ⟨g1, o1, cap1', hv1, -, -, -, hc1, -, -⟩ := Y.out.1.opens (by omega)
          obtain ⟨g2, o2, cap2', hv2, -, -, -, hc2, -, -⟩ := Y.out.2.2.opens (by rw [← X.out.2.2.2.1]; omega)
          injection hv1 with e1 e2 e3
          injection hv2 with f1 f2 f3
          subst e1; subst e3; subst f1; subst f3
          have p0 := hc1 (t * 2) (by omega)
          have p1 := hc1 (t * 2 + 1) (by omega)
          have r0 := hc2 (t * 2) (by rw [← X.out.2.2.2.1]; omega)
          have r1 := hc2 (t * 2 + 1) (by rw [← X.out.2.2.2.1]; omega)
          have hkl : t < (keysOf kv).length := by rw [keysOf_length, ← X.out.2.2.2.1]; exact htl
          rw [kcells_get0 _ _ hkl] at p0 r0
          rw [kcells_get1 _ _ hkl, ← Nat.add_assoc] at p1 r1
          obtain ⟨x, hx⟩ : ∃ x, x = (keysOf kv).getD t ⟨0, false⟩ := ⟨_, rfl⟩
          rw [← hx] at p0 p1 r0 r1
          clear hc1 hc2 hkl hx
          go_wp2
          go_quiet (fail)
          go_wp2
          go_roundg (gk - 1)
          case measure => omega
          case rel => exact ⟨t + 1, by omega, rfl, _, rfl⟩
        · have hl := HL.out d
          go_wp2_with (go_at_call 17; (with_reducible refine hl.mono ?_); rintro e w' ⟨rfl, rfl⟩)
          go_ret
          refine ⟨?_, ?_⟩
          · first | rfl | (show Ending.returned (.bool ((n : Int) == (n : Int))) = _; simp)
          · have e8 := X.out.2.2.2.2
            exact ((e8.trans (Y.out.2.1.mono (S' := fun b => w.heap.size ≤ b) fun _ _ q => q.elim) fun _ _ q => q).trans (turned_drewN (fun b => w.heap.size ≤ b) w5 d) fun _ _ q => q).mono fun i hi q => by omega

end Go.Proofs.Ytbhafcmdmpebiaa.Pair

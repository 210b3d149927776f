/- Graph files told and read again: the walk of GraphBack. -/
import Derived.Test.YtfeljngmidhajaaMh
namespace Go.Proofs.Ytfeljngmidhajaa
open Go.RowKit Go.Mine

theorem chunksG_code (g : Gr) : buildErr (chunksG g) = 0 ∨ buildErr (chunksG g) = 5 := by
  have hc : checkCh [] (chunksG g) = 0 := by simp [chunksG, checkCh, hasCh]
  unfold buildErr
  rw [hc]
  split
  · exact .inr rfl
  · simp only [ne_eq, not_true_eq_false, if_false]
    split
    · exact .inr rfl
    · exact .inl rfl
theorem encG_code (g : Gr) : (∃ s, encG g = .tuple #[.string s, .int .i64 0] ∧ grErr g = 0) ∨ (encG g = .tuple #[.string ⟨#[]⟩, .int .i64 5] ∧ grErr g = 0) ∨ (encG g = .tuple #[.string ⟨#[]⟩, .int .i64 1] ∧ grErr g = 1) := by
  by_cases hg : grErr g = 0
  · by_cases hb : 4194304 < (tellT g.rows).B.length
    · exact .inr (.inl ⟨by unfold encG; rw [if_pos hg, if_pos hb], hg⟩)
    · have e : encG g = buildV (chunksG g) := by unfold encG; rw [if_pos hg, if_neg hb]
      rcases chunksG_code g with h | h
      · exact .inl ⟨_, by rw [e]; unfold buildV; rw [if_pos h], hg⟩
      · exact .inr (.inl ⟨by rw [e]; unfold buildV; rw [h]; rfl, hg⟩)
  · refine .inr (.inr ⟨by unfold encG; rw [if_neg hg], ?_⟩)
    unfold grErr at hg ⊢
    split
    · rename_i h; rw [if_pos h] at hg; exact absurd rfl hg
    · rfl
theorem dec_told (g : Gr) (s : ByteArray) (hok : GrOk g) (h : encG g = .tuple #[.string s, .int .i64 0]) : decR s = .ok g := by
  obtain ⟨h1, h2, h3, h4⟩ := encG_ok g s h
  have h5 := parse_built (chunksG g) h3 (chunksG_small g h3)
  rw [h4, sortCh_rise _ (chunksG_rising g)] at h5
  unfold decR
  rw [h5]
  simp only
  rw [(told_read g h1 hok.2.2.2.2 h2).1]
  simp only
  rw [if_pos h]
theorem enc_size (g : Gr) (s : ByteArray) (h : encG g = .tuple #[.string s, .int .i64 0]) : s.size ≤ 4611686018427387904 := by
  obtain ⟨-, -, h3, h4⟩ := encG_ok g s h
  have h5 := built_size (chunksG g)
  have h6 := ((buildErr_iff _).1 h3).2.2
  rw [← h4]
  omega
theorem decR_err (t : ByteArray) (k : Nat) (h : decR t = .error k) : k ≠ 0 := by
  unfold decR at h
  split at h
  · rename_i k' hk
    have := parse_err t k' hk
    obtain rfl := Except.error.inj h
    exact this
  · split at h
    · obtain rfl := Except.error.inj h; simp
    · split at h
      · simp at h
      · obtain rfl := Except.error.inj h; simp
theorem dec_zero (t : ByteArray) (h : kOf (decR t) = 0) : decR t = .ok (gOf (decR t)) := by
  cases hd : decR t with
  | error k => rw [hd] at h; exact absurd h (decR_err t k hd)
  | ok g => rfl
theorem dec_bad (t : ByteArray) (h : kOf (decR t) ≠ 0) : gOf (decR t) = ⟨0, 0, 0, 0, 0, []⟩ := by
  cases hd : decR t with
  | error k => rfl
  | ok g => rw [hd] at h; exact absurd rfl h

def GbRel (w1 : World) (n : Nat) (g : Nat) (i : Value) (wr : World) : Prop := ∃ k : Nat, k + g = n ∧ i = .int .i64 k ∧ Turned (fun _ => False) w1 wr

set_option maxRecDepth 100000 in
set_option maxHeartbeats 8000000 in
theorem gback_law (a : Option Addr) (cap : Nat) (x : Gr) (la : Option Addr) (lcap : Nat) (l : List Ch) (w : World) (hx : RwIs w (fun _ => True) a cap x.rows) (hxL : x.rows.length ≤ 2199023255551) (hxP : ∀ r ∈ x.rows, r.par.length ≤ 17592186044415) (hok : GrOk x) (hl : ChIs w la lcap l) :
    Calls Try.prog 13 #[grv a cap x, .slice la l.length lcap] w fun e w' => e = .returned (.bool true) ∧ Turned (fun _ => False) w w' := by
  have f22 : ∀ W, Calls Try.prog 22 #[] W fun e w' => e = .returned (.bool true) ∧ Turned (fun _ => False) W w' := tells_any
  have hcode := encG_code x
  have F26 : Hid (∀ W, Turned (fun _ => False) w W → Calls Try.prog 26 #[grv a cap x] W fun e w' => e = .returned (.int .i64 (grErr x : Nat)) ∧ Turned (fun _ => False) W w') := fun W q => check_any _ a cap x W (hx.turned q fun _ _ q => q)
  have F24 : Hid (∀ W, Turned (fun _ => False) w W → Calls Try.prog 24 #[grv a cap x] W fun e w' => e = .returned (encG x) ∧ Turned (fun _ => False) W w') := fun W q => encode_any _ a cap x W (hx.turned q fun _ _ q => q) hok
  have F34 : Hid (∀ s, encG x = .tuple #[.string s, .int .i64 0] → ∀ W, Calls Try.prog 34 #[.string s] W fun e w' => Turned (fun _ => False) W w' ∧ ∃ a2 c2, e = .returned (.tuple #[grv a2 c2 x, .int .i64 0]) ∧ RwIs w' (fun _ => True) a2 c2 x.rows) := fun s h W => by
    have q := decode_any s W (enc_size x s h)
    have hd := dec_told x s hok h
    have hr := (dec_rows s).2.1
    rw [hd] at q hr
    refine q.mono ?_
    rintro e w' ⟨h1, a2, c2, h2, h3⟩
    exact ⟨h1, a2, c2, h2, (h3.rows hr).mono fun _ _ => trivial⟩
  have F32 : Hid (∀ W a2 c2, Turned (fun _ => False) w W → RwIs W (fun _ => True) a2 c2 x.rows → Calls Try.prog 32 #[grv a cap x, grv a2 c2 x] W fun e w' => e = .returned (.bool true) ∧ Turned (fun _ => False) W w') := fun W a2 c2 q h2 => by
    have z := gsame_any _ _ a a2 cap c2 x x W (hx.turned q fun _ _ q => q) h2
    rw [(sameG_iff x x).2 rfl] at z
    exact z
  have F23 : Hid (∀ W, Turned (fun _ => False) w W → Calls Try.prog 23 #[grv a cap x] W fun e w' => ∃ c, e = .returned (grv (some ⟨c, 0, none⟩) (x.rows.length + 1) x) ∧ CopyIs w' (fun b => W.heap.size ≤ b) c x.rows ∧ Turned (fun _ => False) W w') := fun W q => gcopied_any _ a cap x W (hx.turned q fun _ _ q => q) hxL hxP
  have F32C : Hid (∀ (W0 W : World) c a2 c2, RwIs W (fun _ => True) a2 c2 x.rows → CopyIs W (fun b => W0.heap.size ≤ b) c x.rows → Calls Try.prog 32 #[grv a2 c2 x, grv (some ⟨c, 0, none⟩) (x.rows.length + 1) x] W fun e w' => e = .returned (.bool true) ∧ Turned (fun _ => False) W w') := fun W0 W c a2 c2 h2 hc => by
    have z := gsame_any _ _ a2 (some ⟨c, 0, none⟩) c2 (x.rows.length + 1) x x W h2 (copy_rows hc hx hxL hxP)
    rw [(sameG_iff x x).2 rfl] at z
    exact z
  -- the second half: a container of the first 16 chunks
  obtain ⟨m, hm⟩ : ∃ m, m = min l.length 16 := ⟨_, rfl⟩
  have hml : m ≤ l.length := by omega
  have hlt : (l.take m).length = m := by rw [List.length_take]; omega
  have hsl := fun W => chs_to hl m hml W
  obtain ⟨s2, k2, hV, hk⟩ : ∃ (s : ByteArray) (k : Nat), buildV (l.take m) = .tuple #[.string s, .int .i64 (k : Nat)] ∧ (k = 0 → s.size ≤ 4611686018427387904) := by
    unfold buildV
    split
    · rename_i he
      refine ⟨_, 0, rfl, fun _ => ?_⟩
      have h1 := built_size (l.take m)
      have h2 := ((buildErr_iff (l.take m)).1 he).2.2
      omega
    · rename_i he
      exact ⟨_, _, rfl, fun q => absurd q he⟩
  have HB : Hid (∀ W, Turned (fun _ => False) w W → Calls Try.prog 18 #[.slice la m lcap] W fun e w' => e = .returned (.tuple #[.string s2, .int .i64 (k2 : Nat)]) ∧ Turned (fun _ => False) W w') := fun W q => by
    have h := rbuild_any la lcap (l.take m) W ((hl.turned q).take m hml)
    rw [hV, hlt] at h
    exact h
  have HD : Hid (k2 = 0 → ∀ W, Calls Try.prog 34 #[.string s2] W (DecAns W (gOf (decR s2)) (kOf (decR s2)))) := fun q W => (decode_any s2 W (hk q)).mono fun e w' h => dec_ans h
  have HZ : Hid (kOf (decR s2) ≠ 0 → gOf (decR s2) = ⟨0, 0, 0, 0, 0, []⟩) := fun q => dec_bad s2 q
  have HG : Hid (kOf (decR s2) = 0 → goodG (gOf (decR s2)) ∧ encG (gOf (decR s2)) = .tuple #[.string s2, .int .i64 0]) := fun q => by
    obtain ⟨l', -, -, he⟩ := decR_ok s2 _ (dec_zero s2 q)
    exact ⟨(encG_ok _ s2 he).1, he⟩
  have HRW : Hid (GrOk (gOf (decR s2)) ∧ ∀ r ∈ (gOf (decR s2)).rows, RdOk r) := ⟨(dec_rows s2).1, (dec_rows s2).2.1⟩
  generalize gOf (decR s2) = g3 at *
  generalize kOf (decR s2) = k3 at *
  obtain ⟨n, hn⟩ : ∃ n, n = l.length := ⟨_, rfl⟩
  rw [← hn] at hm hml hsl ⊢
  have HM : Hid (m = min n 16) := hm
  clear hx hxL hxP hok hl hV hk hlt hm hml hn l
  unfold grv at *
  generalize grErr x = ge at *
  generalize encG x = ev at *
  generalize x.rows.length = L at *
  generalize x.rows = rows at *
  generalize x.base = b1 at *
  generalize x.h = h1 at *
  generalize x.p = p1 at *
  generalize x.m = m1 at *
  generalize x.seed = s1 at *
  rcases hcode with ⟨s, rfl, rfl⟩ | ⟨rfl, rfl⟩ | ⟨rfl, rfl⟩
  · by_cases hn16 : (n : Int) ≤ 16
    · obtain rfl : m = n := by have := HM.out; omega
      have hmn : min (m : Int) 16 = (m : Int) := by omega
      go_enter Try.func13, Try.ntmps13
      have HS34 := F34.out s rfl
      have h34 : ∀ W, Calls Try.prog 34 #[.string s] W _ := HS34
      go_wp2_with (first
          | (go_at_call 22; (with_reducible refine (f22 _).mono ?_); rintro e w1 ⟨rfl, hv⟩; have W1 : Hid (w1.heap[w.heap.size]? = some (.cells #[.int .i64 b1, .int .i64 h1, .int .i64 p1, .int .i64 m1, .int .u32 (s1 : Nat), .slice a L cap] 40 (0, 0)) ∧ Turned (fun _ => False) w w1) := ⟨(hv.block _ (by simp) fun q => q).trans (heap_alloc_last w _), (Turned.alloc _ _ _).trans hv fun _ _ q => q⟩; have y0 := cell_of W1.out.1 0 _ rfl; have y1 := cell_of W1.out.1 1 _ rfl; have y2 := cell_of W1.out.1 2 _ rfl; have y3 := cell_of W1.out.1 3 _ rfl; have y4 := cell_of W1.out.1 4 _ rfl; have y5 := cell_of W1.out.1 5 _ rfl; have yl := lt_of_block W1.out.1; have h24 := F24.out w1 W1.out.2; clear hv)
          | (go_at_call 24; (with_reducible refine h24.mono ?_); rintro e w2 ⟨rfl, hv⟩; have W2 : Hid (w2.heap[w.heap.size]? = some (.cells #[.int .i64 b1, .int .i64 h1, .int .i64 p1, .int .i64 m1, .int .u32 (s1 : Nat), .slice a L cap] 40 (0, 0)) ∧ Turned (fun _ => False) w w2) := ⟨(hv.block _ yl id).trans W1.out.1, W1.out.2.trans hv fun _ _ q => q⟩; clear hv h24 y0 y1 y2 y3 y4 y5 yl; have y0 := cell_of W2.out.1 0 _ rfl; have y1 := cell_of W2.out.1 1 _ rfl; have y2 := cell_of W2.out.1 2 _ rfl; have y3 := cell_of W2.out.1 3 _ rfl; have y4 := cell_of W2.out.1 4 _ rfl; have y5 := cell_of W2.out.1 5 _ rfl; have yl := lt_of_block W2.out.1; have h26 := F26.out w2 W2.out.2)
          | (go_at_call 26; (with_reducible refine h26.mono ?_); rintro e w3 ⟨rfl, hv⟩; have W3 : Hid (w3.heap[w.heap.size]? = some (.cells #[.int .i64 b1, .int .i64 h1, .int .i64 p1, .int .i64 m1, .int .u32 (s1 : Nat), .slice a L cap] 40 (0, 0)) ∧ Turned (fun _ => False) w w3) := ⟨(hv.block _ yl id).trans W2.out.1, W2.out.2.trans hv fun _ _ q => q⟩; clear hv h26 y0 y1 y2 y3 y4 y5 yl; have h34 := h34 w3)
          | (go_at_call 34; (with_reducible refine h34.mono ?_); rintro e w4 ⟨hv, a2, c2, rfl, hr4⟩; have W4 : Hid (w4.heap[w.heap.size]? = some (.cells #[.int .i64 b1, .int .i64 h1, .int .i64 p1, .int .i64 m1, .int .u32 (s1 : Nat), .slice a L cap] 40 (0, 0)) ∧ Turned (fun _ => False) w w4 ∧ RwIs w4 (fun _ => True) a2 c2 rows) := ⟨(hv.block _ (lt_of_block W3.out.1) id).trans W3.out.1, W3.out.2.trans hv (fun _ _ q => q), hr4⟩; clear hv hr4 h34))
      have W4q : Hid ((w4.alloc (.cells #[.int .i64 b1, .int .i64 h1, .int .i64 p1, .int .i64 m1, .int .u32 (s1 : Nat), .slice a2 L c2] 40)).heap[w.heap.size]? = some (.cells #[.int .i64 b1, .int .i64 h1, .int .i64 p1, .int .i64 m1, .int .u32 (s1 : Nat), .slice a L cap] 40 (0, 0)) ∧ (w4.alloc (.cells #[.int .i64 b1, .int .i64 h1, .int .i64 p1, .int .i64 m1, .int .u32 (s1 : Nat), .slice a2 L c2] 40)).heap[w4.heap.size]? = some (.cells #[.int .i64 b1, .int .i64 h1, .int .i64 p1, .int .i64 m1, .int .u32 (s1 : Nat), .slice a2 L c2] 40 (0, 0)) ∧ Turned (fun _ => False) w (w4.alloc (.cells #[.int .i64 b1, .int .i64 h1, .int .i64 p1, .int .i64 m1, .int .u32 (s1 : Nat), .slice a2 L c2] 40)) ∧ RwIs (w4.alloc (.cells #[.int .i64 b1, .int .i64 h1, .int .i64 p1, .int .i64 m1, .int .u32 (s1 : Nat), .slice a2 L c2] 40)) (fun _ => True) a2 c2 rows) := ⟨Go.Mine.heap_alloc_old W4.out.1, heap_alloc_last w4 _, W4.out.2.1.new _, W4.out.2.2.turned (Turned.alloc (fun _ => False) _ _) (fun _ _ q => q)⟩
      generalize w4.alloc (.cells #[.int .i64 b1, .int .i64 h1, .int .i64 p1, .int .i64 m1, .int .u32 (s1 : Nat), .slice a2 L c2] 40) = wq at *
      have KS : Hid (∀ W, Turned (fun _ => False) wq W → Turned (fun _ => False) wq W ∧ W.cell? ⟨w.heap.size, 0, none⟩ = some (.int .i64 b1) ∧ W.cell? ⟨w.heap.size, 1, none⟩ = some (.int .i64 h1) ∧ W.cell? ⟨w.heap.size, 2, none⟩ = some (.int .i64 p1) ∧ W.cell? ⟨w.heap.size, 3, none⟩ = some (.int .i64 m1) ∧ W.cell? ⟨w.heap.size, 4, none⟩ = some (.int .u32 (s1 : Nat)) ∧ W.cell? ⟨w.heap.size, 5, none⟩ = some (.slice a L cap) ∧ W.cell? ⟨w4.heap.size, 0, none⟩ = some (.int .i64 b1) ∧ W.cell? ⟨w4.heap.size, 1, none⟩ = some (.int .i64 h1) ∧ W.cell? ⟨w4.heap.size, 2, none⟩ = some (.int .i64 p1) ∧ W.cell? ⟨w4.heap.size, 3, none⟩ = some (.int .i64 m1) ∧ W.cell? ⟨w4.heap.size, 4, none⟩ = some (.int .u32 (s1 : Nat)) ∧ W.cell? ⟨w4.heap.size, 5, none⟩ = some (.slice a2 L c2)) := fun W t => by
        have z1 := (t.block _ (lt_of_block W4q.out.1) fun q => q).trans W4q.out.1
        have z2 := (t.block _ (lt_of_block W4q.out.2.1) fun q => q).trans W4q.out.2.1
        exact ⟨t, cell_of z1 0 _ rfl, cell_of z1 1 _ rfl, cell_of z1 2 _ rfl, cell_of z1 3 _ rfl, cell_of z1 4 _ rfl, cell_of z1 5 _ rfl, cell_of z2 0 _ rfl, cell_of z2 1 _ rfl, cell_of z2 2 _ rfl, cell_of z2 3 _ rfl, cell_of z2 4 _ rfl, cell_of z2 5 _ rfl⟩
      have TO : Hid (∀ W, Turned (fun _ => False) wq W → Turned (fun _ => False) w W ∧ RwIs W (fun _ => True) a2 c2 rows) := fun W t => ⟨W4q.out.2.2.1.trans t fun _ _ q => q, W4q.out.2.2.2.turned t fun _ _ q => q⟩
      have V0 : Turned (fun _ => False) wq wq.drew := Turned.drew _ _
      go_region_held3 (fun W => Turned (fun _ => False) wq W ∧ W.cell? ⟨w.heap.size, 0, none⟩ = some (.int .i64 b1) ∧ W.cell? ⟨w.heap.size, 1, none⟩ = some (.int .i64 h1) ∧ W.cell? ⟨w.heap.size, 2, none⟩ = some (.int .i64 p1) ∧ W.cell? ⟨w.heap.size, 3, none⟩ = some (.int .i64 m1) ∧ W.cell? ⟨w.heap.size, 4, none⟩ = some (.int .u32 (s1 : Nat)) ∧ W.cell? ⟨w.heap.size, 5, none⟩ = some (.slice a L cap) ∧ W.cell? ⟨w4.heap.size, 0, none⟩ = some (.int .i64 b1) ∧ W.cell? ⟨w4.heap.size, 1, none⟩ = some (.int .i64 h1) ∧ W.cell? ⟨w4.heap.size, 2, none⟩ = some (.int .i64 p1) ∧ W.cell? ⟨w4.heap.size, 3, none⟩ = some (.int .i64 m1) ∧ W.cell? ⟨w4.heap.size, 4, none⟩ = some (.int .u32 (s1 : Nat)) ∧ W.cell? ⟨w4.heap.size, 5, none⟩ = some (.slice a2 L c2))
        (first | (exact KS.out _ (by assumption)) | go_keep)
        (first
          | (go_at_call 32; (with_reducible refine (F32.out _ _ _ (TO.out _ V0).1 (TO.out _ V0).2).mono ?_); rintro e v1 ⟨rfl, hv⟩; have V1 : Turned (fun _ => False) wq v1 := V0.trans hv (fun _ _ q => q); clear hv)
          | (go_at_call 23; (with_reducible refine (F23.out _ (TO.out _ V1).1).mono ?_); rintro e v2 ⟨c, rfl, hc, hv⟩; have V2 : Turned (fun _ => False) wq v2 := V1.trans hv (fun _ _ q => q); have C4 := F32C.out v1 v2 c a2 c2 (TO.out _ V2).2 hc; clear hv hc)
          | (go_at_call 32; (with_reducible refine C4.mono ?_); rintro e v3 ⟨rfl, hv⟩; have V3 : Turned (fun _ => False) wq v3 := V2.trans hv (fun _ _ q => q); clear hv))
      have TX : Hid (Turned (fun _ => False) w v3) := (TO.out _ V3).1
      clear V0 V1 V2 V3 C4 KS TO W4q W4 h34
      by_cases hk2 : k2 = 0
      · subst hk2
        by_cases hk3 : k3 = 0
        · obtain ⟨hgood, henc⟩ := HG.out hk3
          obtain ⟨hg3, hrd⟩ := HRW.out
          have HGD : Hid (0 ≤ g3.base ∧ g3.base ≤ 65536 ∧ (g3.rows.length : Int) ≤ 65536 - g3.base ∧ ∀ (i : Nat) (r : Rw), g3.rows[i]? = some r → r.par.length ≤ 16 ∧ ∀ p ∈ r.par, 0 ≤ p ∧ p < g3.base + i) := ⟨hgood.1.1, hgood.1.2.1, hgood.1.2.2, fun i r hr => ⟨(hgood.2.2 i r hr).1, goodP_bound (hgood.2.2 i r hr).2.2.2.2.2.1⟩⟩
          have HEC : Hid (∀ W S a c, RwIs W S a c g3.rows → Calls Try.prog 24 #[grv a c g3] W fun e w' => e = .returned (.tuple #[.string s2, .int .i64 0]) ∧ Turned (fun _ => False) W w') := fun W S a c h => by
            have q := encode_any S a c g3 W h hg3
            rw [henc] at q
            exact q
          have HRD : Hid (∀ r ∈ g3.rows, RdOk r) := hrd
          clear hgood henc hg3 hrd HG HRW HZ
          subst hk3
          unfold DecAns grv at HD
          unfold grv at HEC
          obtain ⟨n3, hn3⟩ : ∃ n3, n3 = g3.rows.length := ⟨_, rfl⟩
          rw [← hn3] at HD HEC HGD
          generalize g3.base = b3 at *
          generalize g3.h = h3 at *
          generalize g3.p = p3 at *
          generalize g3.m = m3 at *
          generalize g3.seed = s3 at *
          generalize g3.rows = rows3 at *
          have HN3 : Hid (n3 = rows3.length) := hn3
          clear hn3
          go_wp2_with (first
            | (go_at_call 18; (with_reducible refine (HB.out _ TX.out).mono ?_); rintro e w5 ⟨rfl, hv⟩; have W5 : Hid (Turned (fun _ => False) w w5) := (TX.out).trans hv fun _ _ q => q; clear hv)
            | (go_at_call 34; (with_reducible refine (HD.out (by simp) _).mono ?_); rintro e w6 ⟨hv, a3, c3, rfl, hr6⟩; have W6 : Hid (Turned (fun _ => False) w w6 ∧ NewRows w6 (fun b => w5.heap.size ≤ b ∧ b < w6.heap.size) (fun b => w5.heap.size ≤ b ∧ b < w6.heap.size) (.slice a3 n3 c3) rows3) := ⟨W5.out.trans hv (fun _ _ q => q), hr6⟩; clear hv hr6))
          have HQ : Hid ((w6.alloc (.cells #[.int .i64 b3, .int .i64 h3, .int .i64 p3, .int .i64 m3, .int .u32 (s3 : Nat), .slice a3 n3 c3] 40)).heap[w6.heap.size]? = some (.cells #[.int .i64 b3, .int .i64 h3, .int .i64 p3, .int .i64 m3, .int .u32 (s3 : Nat), .slice a3 n3 c3] 40 (0, 0)) ∧ Turned (fun _ => False) w (w6.alloc (.cells #[.int .i64 b3, .int .i64 h3, .int .i64 p3, .int .i64 m3, .int .u32 (s3 : Nat), .slice a3 n3 c3] 40)) ∧ RwIs (w6.alloc (.cells #[.int .i64 b3, .int .i64 h3, .int .i64 p3, .int .i64 m3, .int .u32 (s3 : Nat), .slice a3 n3 c3] 40)) (fun b => w5.heap.size ≤ b ∧ b < w6.heap.size) a3 c3 rows3) := ⟨heap_alloc_last w6 _, W6.out.1.new _, by
            have q := W6.out.2
            rw [HN3.out] at q
            exact (q.rows HRD.out).turned (Turned.alloc (fun _ => False) _ _) (fun _ _ q => q)⟩
          generalize w6.alloc (.cells #[.int .i64 b3, .int .i64 h3, .int .i64 p3, .int .i64 m3, .int .u32 (s3 : Nat), .slice a3 n3 c3] 40) = wz at *
          go_loopg [91] n3 (fun g i wr => GbRel wz n3 g i wr)
          case atStart => exact ⟨0, by omega, rfl, Turned.refl _ _⟩
          case round =>
            obtain ⟨k, hkg, rfl, ht⟩ := hrel
            obtain ⟨wo, rfl⟩ : ∃ W, W = wr := ⟨_, rfl⟩
            obtain ⟨go, rfl⟩ : ∃ z, z = gk := ⟨_, rfl⟩
            have GG : Hid (k + go = n3) := hkg
            have TT : Hid (Turned (fun _ => False) wz wo ∧ Turned (fun _ => False) w wo ∧ wo.heap[w6.heap.size]? = some (.cells #[.int .i64 b3, .int .i64 h3, .int .i64 p3, .int .i64 m3, .int .u32 (s3 : Nat), .slice a3 n3 c3] 40 (0, 0))) := ⟨ht, HQ.out.2.1.trans ht (fun _ _ q => q), (ht.block _ (lt_of_block HQ.out.1) id).trans HQ.out.1⟩
            have d0 := cell_of TT.out.2.2 0 _ rfl
            have d1 := cell_of TT.out.2.2 1 _ rfl
            have d2 := cell_of TT.out.2.2 2 _ rfl
            have d3 := cell_of TT.out.2.2 3 _ rfl
            have d4 := cell_of TT.out.2.2 4 _ rfl
            have d5 := cell_of TT.out.2.2 5 _ rfl
            have dl := lt_of_block TT.out.2.2
            clear hkg ht
            by_cases hlt : k < n3
            · have q1 : decide ((k : Int) < (n3 : Int)) = true := decide_eq_true (by omega)
              have q2 : decide (k < n3) = true := decide_eq_true hlt
              obtain ⟨r, hr⟩ : ∃ r, rows3[k]? = some r := ⟨_, List.getElem?_eq_getElem (by have := HN3.out; omega)⟩
              have hrw := HQ.out.2.2.turned TT.out.1 (fun _ _ q => q)
              obtain ⟨gR, offR, rfl, -, hgl, hrow⟩ := rows_at hrw k r hr
              obtain ⟨pa, pc, hin, c0, c1, c2x, c3x, c4⟩ := hrow
              obtain ⟨hp16, hpb⟩ := HGD.out.2.2.2 k r hr
              obtain ⟨np, hnp⟩ : ∃ np, np = r.par.length := ⟨_, rfl⟩
              rw [← hnp] at c0
              have HI : Hid (Ints wo (fun b => w5.heap.size ≤ b ∧ b < w6.heap.size) pa pc r.par ∧ np = r.par.length ∧ np ≤ 16 ∧ ∀ p ∈ r.par, 0 ≤ p ∧ p < b3 + k) := ⟨hin, hnp, by omega, hpb⟩
              obtain ⟨bk, hbk⟩ : ∃ bk, bk = b3 + (k : Int) := ⟨_, rfl⟩
              have hw : wrap64 (b3 + (k : Int)) = bk := by have := HGD.out; simp [wrap64]; omega
              have HBK : Hid (bk = b3 + (k : Int) ∧ k < n3) := ⟨hbk, hlt⟩
              generalize r.tree = rt at *
              generalize r.gen = rg at *
              generalize r.state = rs at *
              generalize r.bits = rb at *
              clear hrw hin hp16 hpb hnp hbk hr
              go_wp2
              have HX : Hid ((wo.alloc (.cells #[.slice pa np pc, .int .i64 rt, .int .i64 rg, .int .i64 rs, .string rb] 61)).heap[w6.heap.size]? = some (.cells #[.int .i64 b3, .int .i64 h3, .int .i64 p3, .int .i64 m3, .int .u32 (s3 : Nat), .slice (some ⟨gR, offR, none⟩) n3 c3] 40 (0, 0)) ∧ Turned (fun _ => False) wo (wo.alloc (.cells #[.slice pa np pc, .int .i64 rt, .int .i64 rg, .int .i64 rs, .string rb] 61)) ∧ Ints (wo.alloc (.cells #[.slice pa np pc, .int .i64 rt, .int .i64 rg, .int .i64 rs, .string rb] 61)) (fun b => w5.heap.size ≤ b ∧ b < w6.heap.size) pa pc r.par) := ⟨Go.Mine.heap_alloc_old TT.out.2.2, Turned.alloc _ _ _, HI.out.1.turned (Turned.alloc (fun _ => False) _ _) (fun _ _ q => q)⟩
              clear c0 c1 c2x c3x c4 d0 d1 d2 d3 d4 d5 hlt
              generalize wo.alloc (.cells #[.slice pa np pc, .int .i64 rt, .int .i64 rg, .int .i64 rs, .string rb] 61) = w8 at *
              go_loopg [99] np (fun g i wr => GbRel w8 np g i wr)
              case atStart => exact ⟨0, by omega, rfl, Turned.refl _ _⟩
              case round =>
                obtain ⟨j, hjg, rfl, htj⟩ := hrel
                have GJ : Hid (j + gk = np) := hjg
                have TJ : Hid (Turned (fun _ => False) w8 wr ∧ wr.heap[w6.heap.size]? = some (.cells #[.int .i64 b3, .int .i64 h3, .int .i64 p3, .int .i64 m3, .int .u32 (s3 : Nat), .slice (some ⟨gR, offR, none⟩) n3 c3] 40 (0, 0))) := ⟨htj, (htj.block _ (lt_of_block HX.out.1) id).trans HX.out.1⟩
                have d0 := cell_of TJ.out.2 0 _ rfl
                clear hjg htj
                by_cases hj : j < np
                · have q3 : decide ((j : Int) < (np : Int)) = true := decide_eq_true (by omega)
                  have q4 : decide (j < np) = true := decide_eq_true hj
                  obtain ⟨p, hp⟩ : ∃ p, r.par[j]? = some p := ⟨_, List.getElem?_eq_getElem (by have := HI.out.2.1; omega)⟩
                  obtain ⟨gP, offP, rfl, -, hgP, cP⟩ := ints_at (HX.out.2.2.turned TJ.out.1 (fun _ _ q => q)) j p hp
                  obtain ⟨hp0, hp1⟩ := HI.out.2.2.2 p (List.mem_of_getElem? hp)
                  have q5 : decide (p < 0) = false := decide_eq_false (by omega)
                  have q6 : decide (bk ≤ p) = false := decide_eq_false (by have := HBK.out.1; omega)
                  have HJ : Hid (j < np) := hj
                  clear hp0 hp1 hp
                  go_wp2
                  go_roundg (gk - 1)
                  case measure => have := GJ.out; have := HJ.out; omega
                  case rel =>
                    have h1 := GJ.out
                    have h2 := HJ.out
                    have h3 := HI.out.2.2.1
                    refine ⟨j + 1, by omega, ?_, TJ.out.1⟩
                    have : wrap64 ((j : Int) + 1) = ((j + 1 : Nat) : Int) := by simp [wrap64]; omega
                    rw [this]
                · have q3 : decide ((j : Int) < (np : Int)) = false := decide_eq_false (by omega)
                  have q4 : decide (j < np) = false := decide_eq_false hj
                  clear hj
                  go_wp2
                  go_roundg (go - 1)
                  case measure => have := GG.out; have := HBK.out.2; omega
                  case rel =>
                    have h1 := GG.out
                    have h2 := HBK.out.2
                    have h3 := HGD.out
                    refine ⟨k + 1, by omega, ?_, (TT.out.1.trans HX.out.2.1 fun _ _ q => q).trans TJ.out.1 fun _ _ q => q⟩
                    have : wrap64 ((k : Int) + 1) = ((k + 1 : Nat) : Int) := by simp [wrap64]; omega
                    rw [this]
            · have q1 : decide ((k : Int) < (n3 : Int)) = false := decide_eq_false (by omega)
              have q2 : decide (k < n3) = false := decide_eq_false hlt
              have h24c := HEC.out wo _ a3 c3 (HQ.out.2.2.turned TT.out.1 (fun _ _ q => q))
              clear hlt
              go_wp2_with (first
                | (go_at_call 24; (with_reducible refine h24c.mono ?_); rintro e w9 ⟨rfl, hv⟩; have W9 : Hid (Turned (fun _ => False) w w9) := TT.out.2.1.trans hv (fun _ _ q => q); clear hv h24c))
              go_ret
              exact ⟨rfl, W9.out⟩
        · obtain rfl := HZ.out hk3
          have hd := int_neb (k3 : Int) 0 (by omega)
          have hd2 := int_bne2 (k3 : Int) 0 (by omega)
          have heq := eq_settings 0 0 0 0 0 0 0 0
          clear HG HZ HRW hk3
          unfold DecAns grv at HD
          go_wp2_with (first
            | (go_at_call 18; (with_reducible refine (HB.out _ TX.out).mono ?_); rintro e w5 ⟨rfl, hv⟩; have W5 : Hid (Turned (fun _ => False) w w5) := (TX.out).trans hv fun _ _ q => q; clear hv)
            | (go_at_call 34; (with_reducible refine (HD.out (by simp) _).mono ?_); rintro e w6 ⟨hv, a3, c3, rfl, hr6⟩; have W6 : Hid (Turned (fun _ => False) w w6 ∧ NewRows w6 (fun b => w5.heap.size ≤ b ∧ b < w6.heap.size) (fun b => w5.heap.size ≤ b ∧ b < w6.heap.size) (.slice a3 0 c3) []) := ⟨W5.out.trans hv (fun _ _ q => q), hr6⟩; clear hv hr6))
          go_ret
          exact ⟨rfl, W6.out.1.new _⟩
      · have hd := int_neb (k2 : Int) 0 (by omega)
        have hd2 := int_bne2 (k2 : Int) 0 (by omega)
        clear hk2 HD HG HZ HRW
        go_wp2_with (first
          | (go_at_call 18; (with_reducible refine (HB.out _ TX.out).mono ?_); rintro e w5 ⟨rfl, hv⟩; have W5 : Hid (Turned (fun _ => False) w w5) := (TX.out).trans hv fun _ _ q => q; clear hv))
        go_ret
        exact ⟨rfl, W5.out⟩
    · obtain rfl : m = 16 := by have := HM.out; omega
      have hmn : min (n : Int) 16 = 16 := by omega
      have hsl2 : ∀ W, (Instr.slice 22 (.slice la n lcap) none (some (.int .i64 16)) none).run Try.prog W = .ok (.slice la 16 lcap) W := hsl
      clear hsl
      go_enter Try.func13, Try.ntmps13
      have HS34 := F34.out s rfl
      have h34 : ∀ W, Calls Try.prog 34 #[.string s] W _ := HS34
      go_wp2_with (first
          | (go_at_call 22; (with_reducible refine (f22 _).mono ?_); rintro e w1 ⟨rfl, hv⟩; have W1 : Hid (w1.heap[w.heap.size]? = some (.cells #[.int .i64 b1, .int .i64 h1, .int .i64 p1, .int .i64 m1, .int .u32 (s1 : Nat), .slice a L cap] 40 (0, 0)) ∧ Turned (fun _ => False) w w1) := ⟨(hv.block _ (by simp) fun q => q).trans (heap_alloc_last w _), (Turned.alloc _ _ _).trans hv fun _ _ q => q⟩; have y0 := cell_of W1.out.1 0 _ rfl; have y1 := cell_of W1.out.1 1 _ rfl; have y2 := cell_of W1.out.1 2 _ rfl; have y3 := cell_of W1.out.1 3 _ rfl; have y4 := cell_of W1.out.1 4 _ rfl; have y5 := cell_of W1.out.1 5 _ rfl; have yl := lt_of_block W1.out.1; have h24 := F24.out w1 W1.out.2; clear hv)
          | (go_at_call 24; (with_reducible refine h24.mono ?_); rintro e w2 ⟨rfl, hv⟩; have W2 : Hid (w2.heap[w.heap.size]? = some (.cells #[.int .i64 b1, .int .i64 h1, .int .i64 p1, .int .i64 m1, .int .u32 (s1 : Nat), .slice a L cap] 40 (0, 0)) ∧ Turned (fun _ => False) w w2) := ⟨(hv.block _ yl id).trans W1.out.1, W1.out.2.trans hv fun _ _ q => q⟩; clear hv h24 y0 y1 y2 y3 y4 y5 yl; have y0 := cell_of W2.out.1 0 _ rfl; have y1 := cell_of W2.out.1 1 _ rfl; have y2 := cell_of W2.out.1 2 _ rfl; have y3 := cell_of W2.out.1 3 _ rfl; have y4 := cell_of W2.out.1 4 _ rfl; have y5 := cell_of W2.out.1 5 _ rfl; have yl := lt_of_block W2.out.1; have h26 := F26.out w2 W2.out.2)
          | (go_at_call 26; (with_reducible refine h26.mono ?_); rintro e w3 ⟨rfl, hv⟩; have W3 : Hid (w3.heap[w.heap.size]? = some (.cells #[.int .i64 b1, .int .i64 h1, .int .i64 p1, .int .i64 m1, .int .u32 (s1 : Nat), .slice a L cap] 40 (0, 0)) ∧ Turned (fun _ => False) w w3) := ⟨(hv.block _ yl id).trans W2.out.1, W2.out.2.trans hv fun _ _ q => q⟩; clear hv h26 y0 y1 y2 y3 y4 y5 yl; have h34 := h34 w3)
          | (go_at_call 34; (with_reducible refine h34.mono ?_); rintro e w4 ⟨hv, a2, c2, rfl, hr4⟩; have W4 : Hid (w4.heap[w.heap.size]? = some (.cells #[.int .i64 b1, .int .i64 h1, .int .i64 p1, .int .i64 m1, .int .u32 (s1 : Nat), .slice a L cap] 40 (0, 0)) ∧ Turned (fun _ => False) w w4 ∧ RwIs w4 (fun _ => True) a2 c2 rows) := ⟨(hv.block _ (lt_of_block W3.out.1) id).trans W3.out.1, W3.out.2.trans hv (fun _ _ q => q), hr4⟩; clear hv hr4 h34))
      have W4q : Hid ((w4.alloc (.cells #[.int .i64 b1, .int .i64 h1, .int .i64 p1, .int .i64 m1, .int .u32 (s1 : Nat), .slice a2 L c2] 40)).heap[w.heap.size]? = some (.cells #[.int .i64 b1, .int .i64 h1, .int .i64 p1, .int .i64 m1, .int .u32 (s1 : Nat), .slice a L cap] 40 (0, 0)) ∧ (w4.alloc (.cells #[.int .i64 b1, .int .i64 h1, .int .i64 p1, .int .i64 m1, .int .u32 (s1 : Nat), .slice a2 L c2] 40)).heap[w4.heap.size]? = some (.cells #[.int .i64 b1, .int .i64 h1, .int .i64 p1, .int .i64 m1, .int .u32 (s1 : Nat), .slice a2 L c2] 40 (0, 0)) ∧ Turned (fun _ => False) w (w4.alloc (.cells #[.int .i64 b1, .int .i64 h1, .int .i64 p1, .int .i64 m1, .int .u32 (s1 : Nat), .slice a2 L c2] 40)) ∧ RwIs (w4.alloc (.cells #[.int .i64 b1, .int .i64 h1, .int .i64 p1, .int .i64 m1, .int .u32 (s1 : Nat), .slice a2 L c2] 40)) (fun _ => True) a2 c2 rows) := ⟨Go.Mine.heap_alloc_old W4.out.1, heap_alloc_last w4 _, W4.out.2.1.new _, W4.out.2.2.turned (Turned.alloc (fun _ => False) _ _) (fun _ _ q => q)⟩
      generalize w4.alloc (.cells #[.int .i64 b1, .int .i64 h1, .int .i64 p1, .int .i64 m1, .int .u32 (s1 : Nat), .slice a2 L c2] 40) = wq at *
      have KS : Hid (∀ W, Turned (fun _ => False) wq W → Turned (fun _ => False) wq W ∧ W.cell? ⟨w.heap.size, 0, none⟩ = some (.int .i64 b1) ∧ W.cell? ⟨w.heap.size, 1, none⟩ = some (.int .i64 h1) ∧ W.cell? ⟨w.heap.size, 2, none⟩ = some (.int .i64 p1) ∧ W.cell? ⟨w.heap.size, 3, none⟩ = some (.int .i64 m1) ∧ W.cell? ⟨w.heap.size, 4, none⟩ = some (.int .u32 (s1 : Nat)) ∧ W.cell? ⟨w.heap.size, 5, none⟩ = some (.slice a L cap) ∧ W.cell? ⟨w4.heap.size, 0, none⟩ = some (.int .i64 b1) ∧ W.cell? ⟨w4.heap.size, 1, none⟩ = some (.int .i64 h1) ∧ W.cell? ⟨w4.heap.size, 2, none⟩ = some (.int .i64 p1) ∧ W.cell? ⟨w4.heap.size, 3, none⟩ = some (.int .i64 m1) ∧ W.cell? ⟨w4.heap.size, 4, none⟩ = some (.int .u32 (s1 : Nat)) ∧ W.cell? ⟨w4.heap.size, 5, none⟩ = some (.slice a2 L c2)) := fun W t => by
        have z1 := (t.block _ (lt_of_block W4q.out.1) fun q => q).trans W4q.out.1
        have z2 := (t.block _ (lt_of_block W4q.out.2.1) fun q => q).trans W4q.out.2.1
        exact ⟨t, cell_of z1 0 _ rfl, cell_of z1 1 _ rfl, cell_of z1 2 _ rfl, cell_of z1 3 _ rfl, cell_of z1 4 _ rfl, cell_of z1 5 _ rfl, cell_of z2 0 _ rfl, cell_of z2 1 _ rfl, cell_of z2 2 _ rfl, cell_of z2 3 _ rfl, cell_of z2 4 _ rfl, cell_of z2 5 _ rfl⟩
      have TO : Hid (∀ W, Turned (fun _ => False) wq W → Turned (fun _ => False) w W ∧ RwIs W (fun _ => True) a2 c2 rows) := fun W t => ⟨W4q.out.2.2.1.trans t fun _ _ q => q, W4q.out.2.2.2.turned t fun _ _ q => q⟩
      have V0 : Turned (fun _ => False) wq wq.drew := Turned.drew _ _
      go_region_held3 (fun W => Turned (fun _ => False) wq W ∧ W.cell? ⟨w.heap.size, 0, none⟩ = some (.int .i64 b1) ∧ W.cell? ⟨w.heap.size, 1, none⟩ = some (.int .i64 h1) ∧ W.cell? ⟨w.heap.size, 2, none⟩ = some (.int .i64 p1) ∧ W.cell? ⟨w.heap.size, 3, none⟩ = some (.int .i64 m1) ∧ W.cell? ⟨w.heap.size, 4, none⟩ = some (.int .u32 (s1 : Nat)) ∧ W.cell? ⟨w.heap.size, 5, none⟩ = some (.slice a L cap) ∧ W.cell? ⟨w4.heap.size, 0, none⟩ = some (.int .i64 b1) ∧ W.cell? ⟨w4.heap.size, 1, none⟩ = some (.int .i64 h1) ∧ W.cell? ⟨w4.heap.size, 2, none⟩ = some (.int .i64 p1) ∧ W.cell? ⟨w4.heap.size, 3, none⟩ = some (.int .i64 m1) ∧ W.cell? ⟨w4.heap.size, 4, none⟩ = some (.int .u32 (s1 : Nat)) ∧ W.cell? ⟨w4.heap.size, 5, none⟩ = some (.slice a2 L c2))
        (first | (exact KS.out _ (by assumption)) | go_keep)
        (first
          | (go_at_call 32; (with_reducible refine (F32.out _ _ _ (TO.out _ V0).1 (TO.out _ V0).2).mono ?_); rintro e v1 ⟨rfl, hv⟩; have V1 : Turned (fun _ => False) wq v1 := V0.trans hv (fun _ _ q => q); clear hv)
          | (go_at_call 23; (with_reducible refine (F23.out _ (TO.out _ V1).1).mono ?_); rintro e v2 ⟨c, rfl, hc, hv⟩; have V2 : Turned (fun _ => False) wq v2 := V1.trans hv (fun _ _ q => q); have C4 := F32C.out v1 v2 c a2 c2 (TO.out _ V2).2 hc; clear hv hc)
          | (go_at_call 32; (with_reducible refine C4.mono ?_); rintro e v3 ⟨rfl, hv⟩; have V3 : Turned (fun _ => False) wq v3 := V2.trans hv (fun _ _ q => q); clear hv))
      have TX : Hid (Turned (fun _ => False) w v3) := (TO.out _ V3).1
      clear V0 V1 V2 V3 C4 KS TO W4q W4 h34
      by_cases hk2 : k2 = 0
      · subst hk2
        by_cases hk3 : k3 = 0
        · obtain ⟨hgood, henc⟩ := HG.out hk3
          obtain ⟨hg3, hrd⟩ := HRW.out
          have HGD : Hid (0 ≤ g3.base ∧ g3.base ≤ 65536 ∧ (g3.rows.length : Int) ≤ 65536 - g3.base ∧ ∀ (i : Nat) (r : Rw), g3.rows[i]? = some r → r.par.length ≤ 16 ∧ ∀ p ∈ r.par, 0 ≤ p ∧ p < g3.base + i) := ⟨hgood.1.1, hgood.1.2.1, hgood.1.2.2, fun i r hr => ⟨(hgood.2.2 i r hr).1, goodP_bound (hgood.2.2 i r hr).2.2.2.2.2.1⟩⟩
          have HEC : Hid (∀ W S a c, RwIs W S a c g3.rows → Calls Try.prog 24 #[grv a c g3] W fun e w' => e = .returned (.tuple #[.string s2, .int .i64 0]) ∧ Turned (fun _ => False) W w') := fun W S a c h => by
            have q := encode_any S a c g3 W h hg3
            rw [henc] at q
            exact q
          have HRD : Hid (∀ r ∈ g3.rows, RdOk r) := hrd
          clear hgood henc hg3 hrd HG HRW HZ
          subst hk3
          unfold DecAns grv at HD
          unfold grv at HEC
          obtain ⟨n3, hn3⟩ : ∃ n3, n3 = g3.rows.length := ⟨_, rfl⟩
          rw [← hn3] at HD HEC HGD
          generalize g3.base = b3 at *
          generalize g3.h = h3 at *
          generalize g3.p = p3 at *
          generalize g3.m = m3 at *
          generalize g3.seed = s3 at *
          generalize g3.rows = rows3 at *
          have HN3 : Hid (n3 = rows3.length) := hn3
          clear hn3
          go_wp2_with (first
            | (go_at_call 18; (with_reducible refine (HB.out _ TX.out).mono ?_); rintro e w5 ⟨rfl, hv⟩; have W5 : Hid (Turned (fun _ => False) w w5) := (TX.out).trans hv fun _ _ q => q; clear hv)
            | (go_at_call 34; (with_reducible refine (HD.out (by simp) _).mono ?_); rintro e w6 ⟨hv, a3, c3, rfl, hr6⟩; have W6 : Hid (Turned (fun _ => False) w w6 ∧ NewRows w6 (fun b => w5.heap.size ≤ b ∧ b < w6.heap.size) (fun b => w5.heap.size ≤ b ∧ b < w6.heap.size) (.slice a3 n3 c3) rows3) := ⟨W5.out.trans hv (fun _ _ q => q), hr6⟩; clear hv hr6))
          have HQ : Hid ((w6.alloc (.cells #[.int .i64 b3, .int .i64 h3, .int .i64 p3, .int .i64 m3, .int .u32 (s3 : Nat), .slice a3 n3 c3] 40)).heap[w6.heap.size]? = some (.cells #[.int .i64 b3, .int .i64 h3, .int .i64 p3, .int .i64 m3, .int .u32 (s3 : Nat), .slice a3 n3 c3] 40 (0, 0)) ∧ Turned (fun _ => False) w (w6.alloc (.cells #[.int .i64 b3, .int .i64 h3, .int .i64 p3, .int .i64 m3, .int .u32 (s3 : Nat), .slice a3 n3 c3] 40)) ∧ RwIs (w6.alloc (.cells #[.int .i64 b3, .int .i64 h3, .int .i64 p3, .int .i64 m3, .int .u32 (s3 : Nat), .slice a3 n3 c3] 40)) (fun b => w5.heap.size ≤ b ∧ b < w6.heap.size) a3 c3 rows3) := ⟨heap_alloc_last w6 _, W6.out.1.new _, by
            have q := W6.out.2
            rw [HN3.out] at q
            exact (q.rows HRD.out).turned (Turned.alloc (fun _ => False) _ _) (fun _ _ q => q)⟩
          generalize w6.alloc (.cells #[.int .i64 b3, .int .i64 h3, .int .i64 p3, .int .i64 m3, .int .u32 (s3 : Nat), .slice a3 n3 c3] 40) = wz at *
          go_loopg [91] n3 (fun g i wr => GbRel wz n3 g i wr)
          case atStart => exact ⟨0, by omega, rfl, Turned.refl _ _⟩
          case round =>
            obtain ⟨k, hkg, rfl, ht⟩ := hrel
            obtain ⟨wo, rfl⟩ : ∃ W, W = wr := ⟨_, rfl⟩
            obtain ⟨go, rfl⟩ : ∃ z, z = gk := ⟨_, rfl⟩
            have GG : Hid (k + go = n3) := hkg
            have TT : Hid (Turned (fun _ => False) wz wo ∧ Turned (fun _ => False) w wo ∧ wo.heap[w6.heap.size]? = some (.cells #[.int .i64 b3, .int .i64 h3, .int .i64 p3, .int .i64 m3, .int .u32 (s3 : Nat), .slice a3 n3 c3] 40 (0, 0))) := ⟨ht, HQ.out.2.1.trans ht (fun _ _ q => q), (ht.block _ (lt_of_block HQ.out.1) id).trans HQ.out.1⟩
            have d0 := cell_of TT.out.2.2 0 _ rfl
            have d1 := cell_of TT.out.2.2 1 _ rfl
            have d2 := cell_of TT.out.2.2 2 _ rfl
            have d3 := cell_of TT.out.2.2 3 _ rfl
            have d4 := cell_of TT.out.2.2 4 _ rfl
            have d5 := cell_of TT.out.2.2 5 _ rfl
            have dl := lt_of_block TT.out.2.2
            clear hkg ht
            by_cases hlt : k < n3
            · have q1 : decide ((k : Int) < (n3 : Int)) = true := decide_eq_true (by omega)
              have q2 : decide (k < n3) = true := decide_eq_true hlt
              obtain ⟨r, hr⟩ : ∃ r, rows3[k]? = some r := ⟨_, List.getElem?_eq_getElem (by have := HN3.out; omega)⟩
              have hrw := HQ.out.2.2.turned TT.out.1 (fun _ _ q => q)
              obtain ⟨gR, offR, rfl, -, hgl, hrow⟩ := rows_at hrw k r hr
              obtain ⟨pa, pc, hin, c0, c1, c2x, c3x, c4⟩ := hrow
              obtain ⟨hp16, hpb⟩ := HGD.out.2.2.2 k r hr
              obtain ⟨np, hnp⟩ : ∃ np, np = r.par.length := ⟨_, rfl⟩
              rw [← hnp] at c0
              have HI : Hid (Ints wo (fun b => w5.heap.size ≤ b ∧ b < w6.heap.size) pa pc r.par ∧ np = r.par.length ∧ np ≤ 16 ∧ ∀ p ∈ r.par, 0 ≤ p ∧ p < b3 + k) := ⟨hin, hnp, by omega, hpb⟩
              obtain ⟨bk, hbk⟩ : ∃ bk, bk = b3 + (k : Int) := ⟨_, rfl⟩
              have hw : wrap64 (b3 + (k : Int)) = bk := by have := HGD.out; simp [wrap64]; omega
              have HBK : Hid (bk = b3 + (k : Int) ∧ k < n3) := ⟨hbk, hlt⟩
              generalize r.tree = rt at *
              generalize r.gen = rg at *
              generalize r.state = rs at *
              generalize r.bits = rb at *
              clear hrw hin hp16 hpb hnp hbk hr
              go_wp2
              have HX : Hid ((wo.alloc (.cells #[.slice pa np pc, .int .i64 rt, .int .i64 rg, .int .i64 rs, .string rb] 61)).heap[w6.heap.size]? = some (.cells #[.int .i64 b3, .int .i64 h3, .int .i64 p3, .int .i64 m3, .int .u32 (s3 : Nat), .slice (some ⟨gR, offR, none⟩) n3 c3] 40 (0, 0)) ∧ Turned (fun _ => False) wo (wo.alloc (.cells #[.slice pa np pc, .int .i64 rt, .int .i64 rg, .int .i64 rs, .string rb] 61)) ∧ Ints (wo.alloc (.cells #[.slice pa np pc, .int .i64 rt, .int .i64 rg, .int .i64 rs, .string rb] 61)) (fun b => w5.heap.size ≤ b ∧ b < w6.heap.size) pa pc r.par) := ⟨Go.Mine.heap_alloc_old TT.out.2.2, Turned.alloc _ _ _, HI.out.1.turned (Turned.alloc (fun _ => False) _ _) (fun _ _ q => q)⟩
              clear c0 c1 c2x c3x c4 d0 d1 d2 d3 d4 d5 hlt
              generalize wo.alloc (.cells #[.slice pa np pc, .int .i64 rt, .int .i64 rg, .int .i64 rs, .string rb] 61) = w8 at *
              go_loopg [99] np (fun g i wr => GbRel w8 np g i wr)
              case atStart => exact ⟨0, by omega, rfl, Turned.refl _ _⟩
              case round =>
                obtain ⟨j, hjg, rfl, htj⟩ := hrel
                have GJ : Hid (j + gk = np) := hjg
                have TJ : Hid (Turned (fun _ => False) w8 wr ∧ wr.heap[w6.heap.size]? = some (.cells #[.int .i64 b3, .int .i64 h3, .int .i64 p3, .int .i64 m3, .int .u32 (s3 : Nat), .slice (some ⟨gR, offR, none⟩) n3 c3] 40 (0, 0))) := ⟨htj, (htj.block _ (lt_of_block HX.out.1) id).trans HX.out.1⟩
                have d0 := cell_of TJ.out.2 0 _ rfl
                clear hjg htj
                by_cases hj : j < np
                · have q3 : decide ((j : Int) < (np : Int)) = true := decide_eq_true (by omega)
                  have q4 : decide (j < np) = true := decide_eq_true hj
                  obtain ⟨p, hp⟩ : ∃ p, r.par[j]? = some p := ⟨_, List.getElem?_eq_getElem (by have := HI.out.2.1; omega)⟩
                  obtain ⟨gP, offP, rfl, -, hgP, cP⟩ := ints_at (HX.out.2.2.turned TJ.out.1 (fun _ _ q => q)) j p hp
                  obtain ⟨hp0, hp1⟩ := HI.out.2.2.2 p (List.mem_of_getElem? hp)
                  have q5 : decide (p < 0) = false := decide_eq_false (by omega)
                  have q6 : decide (bk ≤ p) = false := decide_eq_false (by have := HBK.out.1; omega)
                  have HJ : Hid (j < np) := hj
                  clear hp0 hp1 hp
                  go_wp2
                  go_roundg (gk - 1)
                  case measure => have := GJ.out; have := HJ.out; omega
                  case rel =>
                    have h1 := GJ.out
                    have h2 := HJ.out
                    have h3 := HI.out.2.2.1
                    refine ⟨j + 1, by omega, ?_, TJ.out.1⟩
                    have : wrap64 ((j : Int) + 1) = ((j + 1 : Nat) : Int) := by simp [wrap64]; omega
                    rw [this]
                · have q3 : decide ((j : Int) < (np : Int)) = false := decide_eq_false (by omega)
                  have q4 : decide (j < np) = false := decide_eq_false hj
                  clear hj
                  go_wp2
                  go_roundg (go - 1)
                  case measure => have := GG.out; have := HBK.out.2; omega
                  case rel =>
                    have h1 := GG.out
                    have h2 := HBK.out.2
                    have h3 := HGD.out
                    refine ⟨k + 1, by omega, ?_, (TT.out.1.trans HX.out.2.1 fun _ _ q => q).trans TJ.out.1 fun _ _ q => q⟩
                    have : wrap64 ((k : Int) + 1) = ((k + 1 : Nat) : Int) := by simp [wrap64]; omega
                    rw [this]
            · have q1 : decide ((k : Int) < (n3 : Int)) = false := decide_eq_false (by omega)
              have q2 : decide (k < n3) = false := decide_eq_false hlt
              have h24c := HEC.out wo _ a3 c3 (HQ.out.2.2.turned TT.out.1 (fun _ _ q => q))
              clear hlt
              go_wp2_with (first
                | (go_at_call 24; (with_reducible refine h24c.mono ?_); rintro e w9 ⟨rfl, hv⟩; have W9 : Hid (Turned (fun _ => False) w w9) := TT.out.2.1.trans hv (fun _ _ q => q); clear hv h24c))
              go_ret
              exact ⟨rfl, W9.out⟩
        · obtain rfl := HZ.out hk3
          have hd := int_neb (k3 : Int) 0 (by omega)
          have hd2 := int_bne2 (k3 : Int) 0 (by omega)
          have heq := eq_settings 0 0 0 0 0 0 0 0
          clear HG HZ HRW hk3
          unfold DecAns grv at HD
          go_wp2_with (first
            | (go_at_call 18; (with_reducible refine (HB.out _ TX.out).mono ?_); rintro e w5 ⟨rfl, hv⟩; have W5 : Hid (Turned (fun _ => False) w w5) := (TX.out).trans hv fun _ _ q => q; clear hv)
            | (go_at_call 34; (with_reducible refine (HD.out (by simp) _).mono ?_); rintro e w6 ⟨hv, a3, c3, rfl, hr6⟩; have W6 : Hid (Turned (fun _ => False) w w6 ∧ NewRows w6 (fun b => w5.heap.size ≤ b ∧ b < w6.heap.size) (fun b => w5.heap.size ≤ b ∧ b < w6.heap.size) (.slice a3 0 c3) []) := ⟨W5.out.trans hv (fun _ _ q => q), hr6⟩; clear hv hr6))
          go_ret
          exact ⟨rfl, W6.out.1.new _⟩
      · have hd := int_neb (k2 : Int) 0 (by omega)
        have hd2 := int_bne2 (k2 : Int) 0 (by omega)
        clear hk2 HD HG HZ HRW
        go_wp2_with (first
          | (go_at_call 18; (with_reducible refine (HB.out _ TX.out).mono ?_); rintro e w5 ⟨rfl, hv⟩; have W5 : Hid (Turned (fun _ => False) w w5) := (TX.out).trans hv fun _ _ q => q; clear hv))
        go_ret
        exact ⟨rfl, W5.out⟩
  · by_cases hn16 : (n : Int) ≤ 16
    · obtain rfl : m = n := by have := HM.out; omega
      have hmn : min (m : Int) 16 = (m : Int) := by omega
      go_enter Try.func13, Try.ntmps13
      go_wp2_with (first
          | (go_at_call 22; (with_reducible refine (f22 _).mono ?_); rintro e w1 ⟨rfl, hv⟩; have W1 : Hid (w1.heap[w.heap.size]? = some (.cells #[.int .i64 b1, .int .i64 h1, .int .i64 p1, .int .i64 m1, .int .u32 (s1 : Nat), .slice a L cap] 40 (0, 0)) ∧ Turned (fun _ => False) w w1) := ⟨(hv.block _ (by simp) fun q => q).trans (heap_alloc_last w _), (Turned.alloc _ _ _).trans hv fun _ _ q => q⟩; have y0 := cell_of W1.out.1 0 _ rfl; have y1 := cell_of W1.out.1 1 _ rfl; have y2 := cell_of W1.out.1 2 _ rfl; have y3 := cell_of W1.out.1 3 _ rfl; have y4 := cell_of W1.out.1 4 _ rfl; have y5 := cell_of W1.out.1 5 _ rfl; have yl := lt_of_block W1.out.1; have h24 := F24.out w1 W1.out.2; clear hv)
          | (go_at_call 24; (with_reducible refine h24.mono ?_); rintro e w2 ⟨rfl, hv⟩; have W2 : Hid (w2.heap[w.heap.size]? = some (.cells #[.int .i64 b1, .int .i64 h1, .int .i64 p1, .int .i64 m1, .int .u32 (s1 : Nat), .slice a L cap] 40 (0, 0)) ∧ Turned (fun _ => False) w w2) := ⟨(hv.block _ yl id).trans W1.out.1, W1.out.2.trans hv fun _ _ q => q⟩; clear hv h24 y0 y1 y2 y3 y4 y5 yl; have y0 := cell_of W2.out.1 0 _ rfl; have y1 := cell_of W2.out.1 1 _ rfl; have y2 := cell_of W2.out.1 2 _ rfl; have y3 := cell_of W2.out.1 3 _ rfl; have y4 := cell_of W2.out.1 4 _ rfl; have y5 := cell_of W2.out.1 5 _ rfl; have yl := lt_of_block W2.out.1; have h26 := F26.out w2 W2.out.2)
          | (go_at_call 26; (with_reducible refine h26.mono ?_); rintro e w3 ⟨rfl, hv⟩; have W3 : Hid (w3.heap[w.heap.size]? = some (.cells #[.int .i64 b1, .int .i64 h1, .int .i64 p1, .int .i64 m1, .int .u32 (s1 : Nat), .slice a L cap] 40 (0, 0)) ∧ Turned (fun _ => False) w w3) := ⟨(hv.block _ yl id).trans W2.out.1, W2.out.2.trans hv fun _ _ q => q⟩; clear hv h26 y0 y1 y2 y3 y4 y5 yl))
      by_cases hk2 : k2 = 0
      · subst hk2
        by_cases hk3 : k3 = 0
        · obtain ⟨hgood, henc⟩ := HG.out hk3
          obtain ⟨hg3, hrd⟩ := HRW.out
          have HGD : Hid (0 ≤ g3.base ∧ g3.base ≤ 65536 ∧ (g3.rows.length : Int) ≤ 65536 - g3.base ∧ ∀ (i : Nat) (r : Rw), g3.rows[i]? = some r → r.par.length ≤ 16 ∧ ∀ p ∈ r.par, 0 ≤ p ∧ p < g3.base + i) := ⟨hgood.1.1, hgood.1.2.1, hgood.1.2.2, fun i r hr => ⟨(hgood.2.2 i r hr).1, goodP_bound (hgood.2.2 i r hr).2.2.2.2.2.1⟩⟩
          have HEC : Hid (∀ W S a c, RwIs W S a c g3.rows → Calls Try.prog 24 #[grv a c g3] W fun e w' => e = .returned (.tuple #[.string s2, .int .i64 0]) ∧ Turned (fun _ => False) W w') := fun W S a c h => by
            have q := encode_any S a c g3 W h hg3
            rw [henc] at q
            exact q
          have HRD : Hid (∀ r ∈ g3.rows, RdOk r) := hrd
          clear hgood henc hg3 hrd HG HRW HZ
          subst hk3
          unfold DecAns grv at HD
          unfold grv at HEC
          obtain ⟨n3, hn3⟩ : ∃ n3, n3 = g3.rows.length := ⟨_, rfl⟩
          rw [← hn3] at HD HEC HGD
          generalize g3.base = b3 at *
          generalize g3.h = h3 at *
          generalize g3.p = p3 at *
          generalize g3.m = m3 at *
          generalize g3.seed = s3 at *
          generalize g3.rows = rows3 at *
          have HN3 : Hid (n3 = rows3.length) := hn3
          clear hn3
          go_wp2_with (first
            | (go_at_call 18; (with_reducible refine (HB.out _ W3.out.2).mono ?_); rintro e w5 ⟨rfl, hv⟩; have W5 : Hid (Turned (fun _ => False) w w5) := (W3.out.2).trans hv fun _ _ q => q; clear hv)
            | (go_at_call 34; (with_reducible refine (HD.out (by simp) _).mono ?_); rintro e w6 ⟨hv, a3, c3, rfl, hr6⟩; have W6 : Hid (Turned (fun _ => False) w w6 ∧ NewRows w6 (fun b => w5.heap.size ≤ b ∧ b < w6.heap.size) (fun b => w5.heap.size ≤ b ∧ b < w6.heap.size) (.slice a3 n3 c3) rows3) := ⟨W5.out.trans hv (fun _ _ q => q), hr6⟩; clear hv hr6))
          have HQ : Hid ((w6.alloc (.cells #[.int .i64 b3, .int .i64 h3, .int .i64 p3, .int .i64 m3, .int .u32 (s3 : Nat), .slice a3 n3 c3] 40)).heap[w6.heap.size]? = some (.cells #[.int .i64 b3, .int .i64 h3, .int .i64 p3, .int .i64 m3, .int .u32 (s3 : Nat), .slice a3 n3 c3] 40 (0, 0)) ∧ Turned (fun _ => False) w (w6.alloc (.cells #[.int .i64 b3, .int .i64 h3, .int .i64 p3, .int .i64 m3, .int .u32 (s3 : Nat), .slice a3 n3 c3] 40)) ∧ RwIs (w6.alloc (.cells #[.int .i64 b3, .int .i64 h3, .int .i64 p3, .int .i64 m3, .int .u32 (s3 : Nat), .slice a3 n3 c3] 40)) (fun b => w5.heap.size ≤ b ∧ b < w6.heap.size) a3 c3 rows3) := ⟨heap_alloc_last w6 _, W6.out.1.new _, by
            have q := W6.out.2
            rw [HN3.out] at q
            exact (q.rows HRD.out).turned (Turned.alloc (fun _ => False) _ _) (fun _ _ q => q)⟩
          generalize w6.alloc (.cells #[.int .i64 b3, .int .i64 h3, .int .i64 p3, .int .i64 m3, .int .u32 (s3 : Nat), .slice a3 n3 c3] 40) = wz at *
          go_loopg [91] n3 (fun g i wr => GbRel wz n3 g i wr)
          case atStart => exact ⟨0, by omega, rfl, Turned.refl _ _⟩
          case round =>
            obtain ⟨k, hkg, rfl, ht⟩ := hrel
            obtain ⟨wo, rfl⟩ : ∃ W, W = wr := ⟨_, rfl⟩
            obtain ⟨go, rfl⟩ : ∃ z, z = gk := ⟨_, rfl⟩
            have GG : Hid (k + go = n3) := hkg
            have TT : Hid (Turned (fun _ => False) wz wo ∧ Turned (fun _ => False) w wo ∧ wo.heap[w6.heap.size]? = some (.cells #[.int .i64 b3, .int .i64 h3, .int .i64 p3, .int .i64 m3, .int .u32 (s3 : Nat), .slice a3 n3 c3] 40 (0, 0))) := ⟨ht, HQ.out.2.1.trans ht (fun _ _ q => q), (ht.block _ (lt_of_block HQ.out.1) id).trans HQ.out.1⟩
            have d0 := cell_of TT.out.2.2 0 _ rfl
            have d1 := cell_of TT.out.2.2 1 _ rfl
            have d2 := cell_of TT.out.2.2 2 _ rfl
            have d3 := cell_of TT.out.2.2 3 _ rfl
            have d4 := cell_of TT.out.2.2 4 _ rfl
            have d5 := cell_of TT.out.2.2 5 _ rfl
            have dl := lt_of_block TT.out.2.2
            clear hkg ht
            by_cases hlt : k < n3
            · have q1 : decide ((k : Int) < (n3 : Int)) = true := decide_eq_true (by omega)
              have q2 : decide (k < n3) = true := decide_eq_true hlt
              obtain ⟨r, hr⟩ : ∃ r, rows3[k]? = some r := ⟨_, List.getElem?_eq_getElem (by have := HN3.out; omega)⟩
              have hrw := HQ.out.2.2.turned TT.out.1 (fun _ _ q => q)
              obtain ⟨gR, offR, rfl, -, hgl, hrow⟩ := rows_at hrw k r hr
              obtain ⟨pa, pc, hin, c0, c1, c2x, c3x, c4⟩ := hrow
              obtain ⟨hp16, hpb⟩ := HGD.out.2.2.2 k r hr
              obtain ⟨np, hnp⟩ : ∃ np, np = r.par.length := ⟨_, rfl⟩
              rw [← hnp] at c0
              have HI : Hid (Ints wo (fun b => w5.heap.size ≤ b ∧ b < w6.heap.size) pa pc r.par ∧ np = r.par.length ∧ np ≤ 16 ∧ ∀ p ∈ r.par, 0 ≤ p ∧ p < b3 + k) := ⟨hin, hnp, by omega, hpb⟩
              obtain ⟨bk, hbk⟩ : ∃ bk, bk = b3 + (k : Int) := ⟨_, rfl⟩
              have hw : wrap64 (b3 + (k : Int)) = bk := by have := HGD.out; simp [wrap64]; omega
              have HBK : Hid (bk = b3 + (k : Int) ∧ k < n3) := ⟨hbk, hlt⟩
              generalize r.tree = rt at *
              generalize r.gen = rg at *
              generalize r.state = rs at *
              generalize r.bits = rb at *
              clear hrw hin hp16 hpb hnp hbk hr
              go_wp2
              have HX : Hid ((wo.alloc (.cells #[.slice pa np pc, .int .i64 rt, .int .i64 rg, .int .i64 rs, .string rb] 61)).heap[w6.heap.size]? = some (.cells #[.int .i64 b3, .int .i64 h3, .int .i64 p3, .int .i64 m3, .int .u32 (s3 : Nat), .slice (some ⟨gR, offR, none⟩) n3 c3] 40 (0, 0)) ∧ Turned (fun _ => False) wo (wo.alloc (.cells #[.slice pa np pc, .int .i64 rt, .int .i64 rg, .int .i64 rs, .string rb] 61)) ∧ Ints (wo.alloc (.cells #[.slice pa np pc, .int .i64 rt, .int .i64 rg, .int .i64 rs, .string rb] 61)) (fun b => w5.heap.size ≤ b ∧ b < w6.heap.size) pa pc r.par) := ⟨Go.Mine.heap_alloc_old TT.out.2.2, Turned.alloc _ _ _, HI.out.1.turned (Turned.alloc (fun _ => False) _ _) (fun _ _ q => q)⟩
              clear c0 c1 c2x c3x c4 d0 d1 d2 d3 d4 d5 hlt
              generalize wo.alloc (.cells #[.slice pa np pc, .int .i64 rt, .int .i64 rg, .int .i64 rs, .string rb] 61) = w8 at *
              go_loopg [99] np (fun g i wr => GbRel w8 np g i wr)
              case atStart => exact ⟨0, by omega, rfl, Turned.refl _ _⟩
              case round =>
                obtain ⟨j, hjg, rfl, htj⟩ := hrel
                have GJ : Hid (j + gk = np) := hjg
                have TJ : Hid (Turned (fun _ => False) w8 wr ∧ wr.heap[w6.heap.size]? = some (.cells #[.int .i64 b3, .int .i64 h3, .int .i64 p3, .int .i64 m3, .int .u32 (s3 : Nat), .slice (some ⟨gR, offR, none⟩) n3 c3] 40 (0, 0))) := ⟨htj, (htj.block _ (lt_of_block HX.out.1) id).trans HX.out.1⟩
                have d0 := cell_of TJ.out.2 0 _ rfl
                clear hjg htj
                by_cases hj : j < np
                · have q3 : decide ((j : Int) < (np : Int)) = true := decide_eq_true (by omega)
                  have q4 : decide (j < np) = true := decide_eq_true hj
                  obtain ⟨p, hp⟩ : ∃ p, r.par[j]? = some p := ⟨_, List.getElem?_eq_getElem (by have := HI.out.2.1; omega)⟩
                  obtain ⟨gP, offP, rfl, -, hgP, cP⟩ := ints_at (HX.out.2.2.turned TJ.out.1 (fun _ _ q => q)) j p hp
                  obtain ⟨hp0, hp1⟩ := HI.out.2.2.2 p (List.mem_of_getElem? hp)
                  have q5 : decide (p < 0) = false := decide_eq_false (by omega)
                  have q6 : decide (bk ≤ p) = false := decide_eq_false (by have := HBK.out.1; omega)
                  have HJ : Hid (j < np) := hj
                  clear hp0 hp1 hp
                  go_wp2
                  go_roundg (gk - 1)
                  case measure => have := GJ.out; have := HJ.out; omega
                  case rel =>
                    have h1 := GJ.out
                    have h2 := HJ.out
                    have h3 := HI.out.2.2.1
                    refine ⟨j + 1, by omega, ?_, TJ.out.1⟩
                    have : wrap64 ((j : Int) + 1) = ((j + 1 : Nat) : Int) := by simp [wrap64]; omega
                    rw [this]
                · have q3 : decide ((j : Int) < (np : Int)) = false := decide_eq_false (by omega)
                  have q4 : decide (j < np) = false := decide_eq_false hj
                  clear hj
                  go_wp2
                  go_roundg (go - 1)
                  case measure => have := GG.out; have := HBK.out.2; omega
                  case rel =>
                    have h1 := GG.out
                    have h2 := HBK.out.2
                    have h3 := HGD.out
                    refine ⟨k + 1, by omega, ?_, (TT.out.1.trans HX.out.2.1 fun _ _ q => q).trans TJ.out.1 fun _ _ q => q⟩
                    have : wrap64 ((k : Int) + 1) = ((k + 1 : Nat) : Int) := by simp [wrap64]; omega
                    rw [this]
            · have q1 : decide ((k : Int) < (n3 : Int)) = false := decide_eq_false (by omega)
              have q2 : decide (k < n3) = false := decide_eq_false hlt
              have h24c := HEC.out wo _ a3 c3 (HQ.out.2.2.turned TT.out.1 (fun _ _ q => q))
              clear hlt
              go_wp2_with (first
                | (go_at_call 24; (with_reducible refine h24c.mono ?_); rintro e w9 ⟨rfl, hv⟩; have W9 : Hid (Turned (fun _ => False) w w9) := TT.out.2.1.trans hv (fun _ _ q => q); clear hv h24c))
              go_ret
              exact ⟨rfl, W9.out⟩
        · obtain rfl := HZ.out hk3
          have hd := int_neb (k3 : Int) 0 (by omega)
          have hd2 := int_bne2 (k3 : Int) 0 (by omega)
          have heq := eq_settings 0 0 0 0 0 0 0 0
          clear HG HZ HRW hk3
          unfold DecAns grv at HD
          go_wp2_with (first
            | (go_at_call 18; (with_reducible refine (HB.out _ W3.out.2).mono ?_); rintro e w5 ⟨rfl, hv⟩; have W5 : Hid (Turned (fun _ => False) w w5) := (W3.out.2).trans hv fun _ _ q => q; clear hv)
            | (go_at_call 34; (with_reducible refine (HD.out (by simp) _).mono ?_); rintro e w6 ⟨hv, a3, c3, rfl, hr6⟩; have W6 : Hid (Turned (fun _ => False) w w6 ∧ NewRows w6 (fun b => w5.heap.size ≤ b ∧ b < w6.heap.size) (fun b => w5.heap.size ≤ b ∧ b < w6.heap.size) (.slice a3 0 c3) []) := ⟨W5.out.trans hv (fun _ _ q => q), hr6⟩; clear hv hr6))
          go_ret
          exact ⟨rfl, W6.out.1.new _⟩
      · have hd := int_neb (k2 : Int) 0 (by omega)
        have hd2 := int_bne2 (k2 : Int) 0 (by omega)
        clear hk2 HD HG HZ HRW
        go_wp2_with (first
          | (go_at_call 18; (with_reducible refine (HB.out _ W3.out.2).mono ?_); rintro e w5 ⟨rfl, hv⟩; have W5 : Hid (Turned (fun _ => False) w w5) := (W3.out.2).trans hv fun _ _ q => q; clear hv))
        go_ret
        exact ⟨rfl, W5.out⟩
    · obtain rfl : m = 16 := by have := HM.out; omega
      have hmn : min (n : Int) 16 = 16 := by omega
      have hsl2 : ∀ W, (Instr.slice 22 (.slice la n lcap) none (some (.int .i64 16)) none).run Try.prog W = .ok (.slice la 16 lcap) W := hsl
      clear hsl
      go_enter Try.func13, Try.ntmps13
      go_wp2_with (first
          | (go_at_call 22; (with_reducible refine (f22 _).mono ?_); rintro e w1 ⟨rfl, hv⟩; have W1 : Hid (w1.heap[w.heap.size]? = some (.cells #[.int .i64 b1, .int .i64 h1, .int .i64 p1, .int .i64 m1, .int .u32 (s1 : Nat), .slice a L cap] 40 (0, 0)) ∧ Turned (fun _ => False) w w1) := ⟨(hv.block _ (by simp) fun q => q).trans (heap_alloc_last w _), (Turned.alloc _ _ _).trans hv fun _ _ q => q⟩; have y0 := cell_of W1.out.1 0 _ rfl; have y1 := cell_of W1.out.1 1 _ rfl; have y2 := cell_of W1.out.1 2 _ rfl; have y3 := cell_of W1.out.1 3 _ rfl; have y4 := cell_of W1.out.1 4 _ rfl; have y5 := cell_of W1.out.1 5 _ rfl; have yl := lt_of_block W1.out.1; have h24 := F24.out w1 W1.out.2; clear hv)
          | (go_at_call 24; (with_reducible refine h24.mono ?_); rintro e w2 ⟨rfl, hv⟩; have W2 : Hid (w2.heap[w.heap.size]? = some (.cells #[.int .i64 b1, .int .i64 h1, .int .i64 p1, .int .i64 m1, .int .u32 (s1 : Nat), .slice a L cap] 40 (0, 0)) ∧ Turned (fun _ => False) w w2) := ⟨(hv.block _ yl id).trans W1.out.1, W1.out.2.trans hv fun _ _ q => q⟩; clear hv h24 y0 y1 y2 y3 y4 y5 yl; have y0 := cell_of W2.out.1 0 _ rfl; have y1 := cell_of W2.out.1 1 _ rfl; have y2 := cell_of W2.out.1 2 _ rfl; have y3 := cell_of W2.out.1 3 _ rfl; have y4 := cell_of W2.out.1 4 _ rfl; have y5 := cell_of W2.out.1 5 _ rfl; have yl := lt_of_block W2.out.1; have h26 := F26.out w2 W2.out.2)
          | (go_at_call 26; (with_reducible refine h26.mono ?_); rintro e w3 ⟨rfl, hv⟩; have W3 : Hid (w3.heap[w.heap.size]? = some (.cells #[.int .i64 b1, .int .i64 h1, .int .i64 p1, .int .i64 m1, .int .u32 (s1 : Nat), .slice a L cap] 40 (0, 0)) ∧ Turned (fun _ => False) w w3) := ⟨(hv.block _ yl id).trans W2.out.1, W2.out.2.trans hv fun _ _ q => q⟩; clear hv h26 y0 y1 y2 y3 y4 y5 yl))
      by_cases hk2 : k2 = 0
      · subst hk2
        by_cases hk3 : k3 = 0
        · obtain ⟨hgood, henc⟩ := HG.out hk3
          obtain ⟨hg3, hrd⟩ := HRW.out
          have HGD : Hid (0 ≤ g3.base ∧ g3.base ≤ 65536 ∧ (g3.rows.length : Int) ≤ 65536 - g3.base ∧ ∀ (i : Nat) (r : Rw), g3.rows[i]? = some r → r.par.length ≤ 16 ∧ ∀ p ∈ r.par, 0 ≤ p ∧ p < g3.base + i) := ⟨hgood.1.1, hgood.1.2.1, hgood.1.2.2, fun i r hr => ⟨(hgood.2.2 i r hr).1, goodP_bound (hgood.2.2 i r hr).2.2.2.2.2.1⟩⟩
          have HEC : Hid (∀ W S a c, RwIs W S a c g3.rows → Calls Try.prog 24 #[grv a c g3] W fun e w' => e = .returned (.tuple #[.string s2, .int .i64 0]) ∧ Turned (fun _ => False) W w') := fun W S a c h => by
            have q := encode_any S a c g3 W h hg3
            rw [henc] at q
            exact q
          have HRD : Hid (∀ r ∈ g3.rows, RdOk r) := hrd
          clear hgood henc hg3 hrd HG HRW HZ
          subst hk3
          unfold DecAns grv at HD
          unfold grv at HEC
          obtain ⟨n3, hn3⟩ : ∃ n3, n3 = g3.rows.length := ⟨_, rfl⟩
          rw [← hn3] at HD HEC HGD
          generalize g3.base = b3 at *
          generalize g3.h = h3 at *
          generalize g3.p = p3 at *
          generalize g3.m = m3 at *
          generalize g3.seed = s3 at *
          generalize g3.rows = rows3 at *
          have HN3 : Hid (n3 = rows3.length) := hn3
          clear hn3
          go_wp2_with (first
            | (go_at_call 18; (with_reducible refine (HB.out _ W3.out.2).mono ?_); rintro e w5 ⟨rfl, hv⟩; have W5 : Hid (Turned (fun _ => False) w w5) := (W3.out.2).trans hv fun _ _ q => q; clear hv)
            | (go_at_call 34; (with_reducible refine (HD.out (by simp) _).mono ?_); rintro e w6 ⟨hv, a3, c3, rfl, hr6⟩; have W6 : Hid (Turned (fun _ => False) w w6 ∧ NewRows w6 (fun b => w5.heap.size ≤ b ∧ b < w6.heap.size) (fun b => w5.heap.size ≤ b ∧ b < w6.heap.size) (.slice a3 n3 c3) rows3) := ⟨W5.out.trans hv (fun _ _ q => q), hr6⟩; clear hv hr6))
          have HQ : Hid ((w6.alloc (.cells #[.int .i64 b3, .int .i64 h3, .int .i64 p3, .int .i64 m3, .int .u32 (s3 : Nat), .slice a3 n3 c3] 40)).heap[w6.heap.size]? = some (.cells #[.int .i64 b3, .int .i64 h3, .int .i64 p3, .int .i64 m3, .int .u32 (s3 : Nat), .slice a3 n3 c3] 40 (0, 0)) ∧ Turned (fun _ => False) w (w6.alloc (.cells #[.int .i64 b3, .int .i64 h3, .int .i64 p3, .int .i64 m3, .int .u32 (s3 : Nat), .slice a3 n3 c3] 40)) ∧ RwIs (w6.alloc (.cells #[.int .i64 b3, .int .i64 h3, .int .i64 p3, .int .i64 m3, .int .u32 (s3 : Nat), .slice a3 n3 c3] 40)) (fun b => w5.heap.size ≤ b ∧ b < w6.heap.size) a3 c3 rows3) := ⟨heap_alloc_last w6 _, W6.out.1.new _, by
            have q := W6.out.2
            rw [HN3.out] at q
            exact (q.rows HRD.out).turned (Turned.alloc (fun _ => False) _ _) (fun _ _ q => q)⟩
          generalize w6.alloc (.cells #[.int .i64 b3, .int .i64 h3, .int .i64 p3, .int .i64 m3, .int .u32 (s3 : Nat), .slice a3 n3 c3] 40) = wz at *
          go_loopg [91] n3 (fun g i wr => GbRel wz n3 g i wr)
          case atStart => exact ⟨0, by omega, rfl, Turned.refl _ _⟩
          case round =>
            obtain ⟨k, hkg, rfl, ht⟩ := hrel
            obtain ⟨wo, rfl⟩ : ∃ W, W = wr := ⟨_, rfl⟩
            obtain ⟨go, rfl⟩ : ∃ z, z = gk := ⟨_, rfl⟩
            have GG : Hid (k + go = n3) := hkg
            have TT : Hid (Turned (fun _ => False) wz wo ∧ Turned (fun _ => False) w wo ∧ wo.heap[w6.heap.size]? = some (.cells #[.int .i64 b3, .int .i64 h3, .int .i64 p3, .int .i64 m3, .int .u32 (s3 : Nat), .slice a3 n3 c3] 40 (0, 0))) := ⟨ht, HQ.out.2.1.trans ht (fun _ _ q => q), (ht.block _ (lt_of_block HQ.out.1) id).trans HQ.out.1⟩
            have d0 := cell_of TT.out.2.2 0 _ rfl
            have d1 := cell_of TT.out.2.2 1 _ rfl
            have d2 := cell_of TT.out.2.2 2 _ rfl
            have d3 := cell_of TT.out.2.2 3 _ rfl
            have d4 := cell_of TT.out.2.2 4 _ rfl
            have d5 := cell_of TT.out.2.2 5 _ rfl
            have dl := lt_of_block TT.out.2.2
            clear hkg ht
            by_cases hlt : k < n3
            · have q1 : decide ((k : Int) < (n3 : Int)) = true := decide_eq_true (by omega)
              have q2 : decide (k < n3) = true := decide_eq_true hlt
              obtain ⟨r, hr⟩ : ∃ r, rows3[k]? = some r := ⟨_, List.getElem?_eq_getElem (by have := HN3.out; omega)⟩
              have hrw := HQ.out.2.2.turned TT.out.1 (fun _ _ q => q)
              obtain ⟨gR, offR, rfl, -, hgl, hrow⟩ := rows_at hrw k r hr
              obtain ⟨pa, pc, hin, c0, c1, c2x, c3x, c4⟩ := hrow
              obtain ⟨hp16, hpb⟩ := HGD.out.2.2.2 k r hr
              obtain ⟨np, hnp⟩ : ∃ np, np = r.par.length := ⟨_, rfl⟩
              rw [← hnp] at c0
              have HI : Hid (Ints wo (fun b => w5.heap.size ≤ b ∧ b < w6.heap.size) pa pc r.par ∧ np = r.par.length ∧ np ≤ 16 ∧ ∀ p ∈ r.par, 0 ≤ p ∧ p < b3 + k) := ⟨hin, hnp, by omega, hpb⟩
              obtain ⟨bk, hbk⟩ : ∃ bk, bk = b3 + (k : Int) := ⟨_, rfl⟩
              have hw : wrap64 (b3 + (k : Int)) = bk := by have := HGD.out; simp [wrap64]; omega
              have HBK : Hid (bk = b3 + (k : Int) ∧ k < n3) := ⟨hbk, hlt⟩
              generalize r.tree = rt at *
              generalize r.gen = rg at *
              generalize r.state = rs at *
              generalize r.bits = rb at *
              clear hrw hin hp16 hpb hnp hbk hr
              go_wp2
              have HX : Hid ((wo.alloc (.cells #[.slice pa np pc, .int .i64 rt, .int .i64 rg, .int .i64 rs, .string rb] 61)).heap[w6.heap.size]? = some (.cells #[.int .i64 b3, .int .i64 h3, .int .i64 p3, .int .i64 m3, .int .u32 (s3 : Nat), .slice (some ⟨gR, offR, none⟩) n3 c3] 40 (0, 0)) ∧ Turned (fun _ => False) wo (wo.alloc (.cells #[.slice pa np pc, .int .i64 rt, .int .i64 rg, .int .i64 rs, .string rb] 61)) ∧ Ints (wo.alloc (.cells #[.slice pa np pc, .int .i64 rt, .int .i64 rg, .int .i64 rs, .string rb] 61)) (fun b => w5.heap.size ≤ b ∧ b < w6.heap.size) pa pc r.par) := ⟨Go.Mine.heap_alloc_old TT.out.2.2, Turned.alloc _ _ _, HI.out.1.turned (Turned.alloc (fun _ => False) _ _) (fun _ _ q => q)⟩
              clear c0 c1 c2x c3x c4 d0 d1 d2 d3 d4 d5 hlt
              generalize wo.alloc (.cells #[.slice pa np pc, .int .i64 rt, .int .i64 rg, .int .i64 rs, .string rb] 61) = w8 at *
              go_loopg [99] np (fun g i wr => GbRel w8 np g i wr)
              case atStart => exact ⟨0, by omega, rfl, Turned.refl _ _⟩
              case round =>
                obtain ⟨j, hjg, rfl, htj⟩ := hrel
                have GJ : Hid (j + gk = np) := hjg
                have TJ : Hid (Turned (fun _ => False) w8 wr ∧ wr.heap[w6.heap.size]? = some (.cells #[.int .i64 b3, .int .i64 h3, .int .i64 p3, .int .i64 m3, .int .u32 (s3 : Nat), .slice (some ⟨gR, offR, none⟩) n3 c3] 40 (0, 0))) := ⟨htj, (htj.block _ (lt_of_block HX.out.1) id).trans HX.out.1⟩
                have d0 := cell_of TJ.out.2 0 _ rfl
                clear hjg htj
                by_cases hj : j < np
                · have q3 : decide ((j : Int) < (np : Int)) = true := decide_eq_true (by omega)
                  have q4 : decide (j < np) = true := decide_eq_true hj
                  obtain ⟨p, hp⟩ : ∃ p, r.par[j]? = some p := ⟨_, List.getElem?_eq_getElem (by have := HI.out.2.1; omega)⟩
                  obtain ⟨gP, offP, rfl, -, hgP, cP⟩ := ints_at (HX.out.2.2.turned TJ.out.1 (fun _ _ q => q)) j p hp
                  obtain ⟨hp0, hp1⟩ := HI.out.2.2.2 p (List.mem_of_getElem? hp)
                  have q5 : decide (p < 0) = false := decide_eq_false (by omega)
                  have q6 : decide (bk ≤ p) = false := decide_eq_false (by have := HBK.out.1; omega)
                  have HJ : Hid (j < np) := hj
                  clear hp0 hp1 hp
                  go_wp2
                  go_roundg (gk - 1)
                  case measure => have := GJ.out; have := HJ.out; omega
                  case rel =>
                    have h1 := GJ.out
                    have h2 := HJ.out
                    have h3 := HI.out.2.2.1
                    refine ⟨j + 1, by omega, ?_, TJ.out.1⟩
                    have : wrap64 ((j : Int) + 1) = ((j + 1 : Nat) : Int) := by simp [wrap64]; omega
                    rw [this]
                · have q3 : decide ((j : Int) < (np : Int)) = false := decide_eq_false (by omega)
                  have q4 : decide (j < np) = false := decide_eq_false hj
                  clear hj
                  go_wp2
                  go_roundg (go - 1)
                  case measure => have := GG.out; have := HBK.out.2; omega
                  case rel =>
                    have h1 := GG.out
                    have h2 := HBK.out.2
                    have h3 := HGD.out
                    refine ⟨k + 1, by omega, ?_, (TT.out.1.trans HX.out.2.1 fun _ _ q => q).trans TJ.out.1 fun _ _ q => q⟩
                    have : wrap64 ((k : Int) + 1) = ((k + 1 : Nat) : Int) := by simp [wrap64]; omega
                    rw [this]
            · have q1 : decide ((k : Int) < (n3 : Int)) = false := decide_eq_false (by omega)
              have q2 : decide (k < n3) = false := decide_eq_false hlt
              have h24c := HEC.out wo _ a3 c3 (HQ.out.2.2.turned TT.out.1 (fun _ _ q => q))
              clear hlt
              go_wp2_with (first
                | (go_at_call 24; (with_reducible refine h24c.mono ?_); rintro e w9 ⟨rfl, hv⟩; have W9 : Hid (Turned (fun _ => False) w w9) := TT.out.2.1.trans hv (fun _ _ q => q); clear hv h24c))
              go_ret
              exact ⟨rfl, W9.out⟩
        · obtain rfl := HZ.out hk3
          have hd := int_neb (k3 : Int) 0 (by omega)
          have hd2 := int_bne2 (k3 : Int) 0 (by omega)
          have heq := eq_settings 0 0 0 0 0 0 0 0
          clear HG HZ HRW hk3
          unfold DecAns grv at HD
          go_wp2_with (first
            | (go_at_call 18; (with_reducible refine (HB.out _ W3.out.2).mono ?_); rintro e w5 ⟨rfl, hv⟩; have W5 : Hid (Turned (fun _ => False) w w5) := (W3.out.2).trans hv fun _ _ q => q; clear hv)
            | (go_at_call 34; (with_reducible refine (HD.out (by simp) _).mono ?_); rintro e w6 ⟨hv, a3, c3, rfl, hr6⟩; have W6 : Hid (Turned (fun _ => False) w w6 ∧ NewRows w6 (fun b => w5.heap.size ≤ b ∧ b < w6.heap.size) (fun b => w5.heap.size ≤ b ∧ b < w6.heap.size) (.slice a3 0 c3) []) := ⟨W5.out.trans hv (fun _ _ q => q), hr6⟩; clear hv hr6))
          go_ret
          exact ⟨rfl, W6.out.1.new _⟩
      · have hd := int_neb (k2 : Int) 0 (by omega)
        have hd2 := int_bne2 (k2 : Int) 0 (by omega)
        clear hk2 HD HG HZ HRW
        go_wp2_with (first
          | (go_at_call 18; (with_reducible refine (HB.out _ W3.out.2).mono ?_); rintro e w5 ⟨rfl, hv⟩; have W5 : Hid (Turned (fun _ => False) w w5) := (W3.out.2).trans hv fun _ _ q => q; clear hv))
        go_ret
        exact ⟨rfl, W5.out⟩
  · by_cases hn16 : (n : Int) ≤ 16
    · obtain rfl : m = n := by have := HM.out; omega
      have hmn : min (m : Int) 16 = (m : Int) := by omega
      go_enter Try.func13, Try.ntmps13
      go_wp2_with (first
          | (go_at_call 22; (with_reducible refine (f22 _).mono ?_); rintro e w1 ⟨rfl, hv⟩; have W1 : Hid (w1.heap[w.heap.size]? = some (.cells #[.int .i64 b1, .int .i64 h1, .int .i64 p1, .int .i64 m1, .int .u32 (s1 : Nat), .slice a L cap] 40 (0, 0)) ∧ Turned (fun _ => False) w w1) := ⟨(hv.block _ (by simp) fun q => q).trans (heap_alloc_last w _), (Turned.alloc _ _ _).trans hv fun _ _ q => q⟩; have y0 := cell_of W1.out.1 0 _ rfl; have y1 := cell_of W1.out.1 1 _ rfl; have y2 := cell_of W1.out.1 2 _ rfl; have y3 := cell_of W1.out.1 3 _ rfl; have y4 := cell_of W1.out.1 4 _ rfl; have y5 := cell_of W1.out.1 5 _ rfl; have yl := lt_of_block W1.out.1; have h24 := F24.out w1 W1.out.2; clear hv)
          | (go_at_call 24; (with_reducible refine h24.mono ?_); rintro e w2 ⟨rfl, hv⟩; have W2 : Hid (w2.heap[w.heap.size]? = some (.cells #[.int .i64 b1, .int .i64 h1, .int .i64 p1, .int .i64 m1, .int .u32 (s1 : Nat), .slice a L cap] 40 (0, 0)) ∧ Turned (fun _ => False) w w2) := ⟨(hv.block _ yl id).trans W1.out.1, W1.out.2.trans hv fun _ _ q => q⟩; clear hv h24 y0 y1 y2 y3 y4 y5 yl; have y0 := cell_of W2.out.1 0 _ rfl; have y1 := cell_of W2.out.1 1 _ rfl; have y2 := cell_of W2.out.1 2 _ rfl; have y3 := cell_of W2.out.1 3 _ rfl; have y4 := cell_of W2.out.1 4 _ rfl; have y5 := cell_of W2.out.1 5 _ rfl; have yl := lt_of_block W2.out.1; have h26 := F26.out w2 W2.out.2)
          | (go_at_call 26; (with_reducible refine h26.mono ?_); rintro e w3 ⟨rfl, hv⟩; have W3 : Hid (w3.heap[w.heap.size]? = some (.cells #[.int .i64 b1, .int .i64 h1, .int .i64 p1, .int .i64 m1, .int .u32 (s1 : Nat), .slice a L cap] 40 (0, 0)) ∧ Turned (fun _ => False) w w3) := ⟨(hv.block _ yl id).trans W2.out.1, W2.out.2.trans hv fun _ _ q => q⟩; clear hv h26 y0 y1 y2 y3 y4 y5 yl))
      by_cases hk2 : k2 = 0
      · subst hk2
        by_cases hk3 : k3 = 0
        · obtain ⟨hgood, henc⟩ := HG.out hk3
          obtain ⟨hg3, hrd⟩ := HRW.out
          have HGD : Hid (0 ≤ g3.base ∧ g3.base ≤ 65536 ∧ (g3.rows.length : Int) ≤ 65536 - g3.base ∧ ∀ (i : Nat) (r : Rw), g3.rows[i]? = some r → r.par.length ≤ 16 ∧ ∀ p ∈ r.par, 0 ≤ p ∧ p < g3.base + i) := ⟨hgood.1.1, hgood.1.2.1, hgood.1.2.2, fun i r hr => ⟨(hgood.2.2 i r hr).1, goodP_bound (hgood.2.2 i r hr).2.2.2.2.2.1⟩⟩
          have HEC : Hid (∀ W S a c, RwIs W S a c g3.rows → Calls Try.prog 24 #[grv a c g3] W fun e w' => e = .returned (.tuple #[.string s2, .int .i64 0]) ∧ Turned (fun _ => False) W w') := fun W S a c h => by
            have q := encode_any S a c g3 W h hg3
            rw [henc] at q
            exact q
          have HRD : Hid (∀ r ∈ g3.rows, RdOk r) := hrd
          clear hgood henc hg3 hrd HG HRW HZ
          subst hk3
          unfold DecAns grv at HD
          unfold grv at HEC
          obtain ⟨n3, hn3⟩ : ∃ n3, n3 = g3.rows.length := ⟨_, rfl⟩
          rw [← hn3] at HD HEC HGD
          generalize g3.base = b3 at *
          generalize g3.h = h3 at *
          generalize g3.p = p3 at *
          generalize g3.m = m3 at *
          generalize g3.seed = s3 at *
          generalize g3.rows = rows3 at *
          have HN3 : Hid (n3 = rows3.length) := hn3
          clear hn3
          go_wp2_with (first
            | (go_at_call 18; (with_reducible refine (HB.out _ W3.out.2).mono ?_); rintro e w5 ⟨rfl, hv⟩; have W5 : Hid (Turned (fun _ => False) w w5) := (W3.out.2).trans hv fun _ _ q => q; clear hv)
            | (go_at_call 34; (with_reducible refine (HD.out (by simp) _).mono ?_); rintro e w6 ⟨hv, a3, c3, rfl, hr6⟩; have W6 : Hid (Turned (fun _ => False) w w6 ∧ NewRows w6 (fun b => w5.heap.size ≤ b ∧ b < w6.heap.size) (fun b => w5.heap.size ≤ b ∧ b < w6.heap.size) (.slice a3 n3 c3) rows3) := ⟨W5.out.trans hv (fun _ _ q => q), hr6⟩; clear hv hr6))
          have HQ : Hid ((w6.alloc (.cells #[.int .i64 b3, .int .i64 h3, .int .i64 p3, .int .i64 m3, .int .u32 (s3 : Nat), .slice a3 n3 c3] 40)).heap[w6.heap.size]? = some (.cells #[.int .i64 b3, .int .i64 h3, .int .i64 p3, .int .i64 m3, .int .u32 (s3 : Nat), .slice a3 n3 c3] 40 (0, 0)) ∧ Turned (fun _ => False) w (w6.alloc (.cells #[.int .i64 b3, .int .i64 h3, .int .i64 p3, .int .i64 m3, .int .u32 (s3 : Nat), .slice a3 n3 c3] 40)) ∧ RwIs (w6.alloc (.cells #[.int .i64 b3, .int .i64 h3, .int .i64 p3, .int .i64 m3, .int .u32 (s3 : Nat), .slice a3 n3 c3] 40)) (fun b => w5.heap.size ≤ b ∧ b < w6.heap.size) a3 c3 rows3) := ⟨heap_alloc_last w6 _, W6.out.1.new _, by
            have q := W6.out.2
            rw [HN3.out] at q
            exact (q.rows HRD.out).turned (Turned.alloc (fun _ => False) _ _) (fun _ _ q => q)⟩
          generalize w6.alloc (.cells #[.int .i64 b3, .int .i64 h3, .int .i64 p3, .int .i64 m3, .int .u32 (s3 : Nat), .slice a3 n3 c3] 40) = wz at *
          go_loopg [91] n3 (fun g i wr => GbRel wz n3 g i wr)
          case atStart => exact ⟨0, by omega, rfl, Turned.refl _ _⟩
          case round =>
            obtain ⟨k, hkg, rfl, ht⟩ := hrel
            obtain ⟨wo, rfl⟩ : ∃ W, W = wr := ⟨_, rfl⟩
            obtain ⟨go, rfl⟩ : ∃ z, z = gk := ⟨_, rfl⟩
            have GG : Hid (k + go = n3) := hkg
            have TT : Hid (Turned (fun _ => False) wz wo ∧ Turned (fun _ => False) w wo ∧ wo.heap[w6.heap.size]? = some (.cells #[.int .i64 b3, .int .i64 h3, .int .i64 p3, .int .i64 m3, .int .u32 (s3 : Nat), .slice a3 n3 c3] 40 (0, 0))) := ⟨ht, HQ.out.2.1.trans ht (fun _ _ q => q), (ht.block _ (lt_of_block HQ.out.1) id).trans HQ.out.1⟩
            have d0 := cell_of TT.out.2.2 0 _ rfl
            have d1 := cell_of TT.out.2.2 1 _ rfl
            have d2 := cell_of TT.out.2.2 2 _ rfl
            have d3 := cell_of TT.out.2.2 3 _ rfl
            have d4 := cell_of TT.out.2.2 4 _ rfl
            have d5 := cell_of TT.out.2.2 5 _ rfl
            have dl := lt_of_block TT.out.2.2
            clear hkg ht
            by_cases hlt : k < n3
            · have q1 : decide ((k : Int) < (n3 : Int)) = true := decide_eq_true (by omega)
              have q2 : decide (k < n3) = true := decide_eq_true hlt
              obtain ⟨r, hr⟩ : ∃ r, rows3[k]? = some r := ⟨_, List.getElem?_eq_getElem (by have := HN3.out; omega)⟩
              have hrw := HQ.out.2.2.turned TT.out.1 (fun _ _ q => q)
              obtain ⟨gR, offR, rfl, -, hgl, hrow⟩ := rows_at hrw k r hr
              obtain ⟨pa, pc, hin, c0, c1, c2x, c3x, c4⟩ := hrow
              obtain ⟨hp16, hpb⟩ := HGD.out.2.2.2 k r hr
              obtain ⟨np, hnp⟩ : ∃ np, np = r.par.length := ⟨_, rfl⟩
              rw [← hnp] at c0
              have HI : Hid (Ints wo (fun b => w5.heap.size ≤ b ∧ b < w6.heap.size) pa pc r.par ∧ np = r.par.length ∧ np ≤ 16 ∧ ∀ p ∈ r.par, 0 ≤ p ∧ p < b3 + k) := ⟨hin, hnp, by omega, hpb⟩
              obtain ⟨bk, hbk⟩ : ∃ bk, bk = b3 + (k : Int) := ⟨_, rfl⟩
              have hw : wrap64 (b3 + (k : Int)) = bk := by have := HGD.out; simp [wrap64]; omega
              have HBK : Hid (bk = b3 + (k : Int) ∧ k < n3) := ⟨hbk, hlt⟩
              generalize r.tree = rt at *
              generalize r.gen = rg at *
              generalize r.state = rs at *
              generalize r.bits = rb at *
              clear hrw hin hp16 hpb hnp hbk hr
              go_wp2
              have HX : Hid ((wo.alloc (.cells #[.slice pa np pc, .int .i64 rt, .int .i64 rg, .int .i64 rs, .string rb] 61)).heap[w6.heap.size]? = some (.cells #[.int .i64 b3, .int .i64 h3, .int .i64 p3, .int .i64 m3, .int .u32 (s3 : Nat), .slice (some ⟨gR, offR, none⟩) n3 c3] 40 (0, 0)) ∧ Turned (fun _ => False) wo (wo.alloc (.cells #[.slice pa np pc, .int .i64 rt, .int .i64 rg, .int .i64 rs, .string rb] 61)) ∧ Ints (wo.alloc (.cells #[.slice pa np pc, .int .i64 rt, .int .i64 rg, .int .i64 rs, .string rb] 61)) (fun b => w5.heap.size ≤ b ∧ b < w6.heap.size) pa pc r.par) := ⟨Go.Mine.heap_alloc_old TT.out.2.2, Turned.alloc _ _ _, HI.out.1.turned (Turned.alloc (fun _ => False) _ _) (fun _ _ q => q)⟩
              clear c0 c1 c2x c3x c4 d0 d1 d2 d3 d4 d5 hlt
              generalize wo.alloc (.cells #[.slice pa np pc, .int .i64 rt, .int .i64 rg, .int .i64 rs, .string rb] 61) = w8 at *
              go_loopg [99] np (fun g i wr => GbRel w8 np g i wr)
              case atStart => exact ⟨0, by omega, rfl, Turned.refl _ _⟩
              case round =>
                obtain ⟨j, hjg, rfl, htj⟩ := hrel
                have GJ : Hid (j + gk = np) := hjg
                have TJ : Hid (Turned (fun _ => False) w8 wr ∧ wr.heap[w6.heap.size]? = some (.cells #[.int .i64 b3, .int .i64 h3, .int .i64 p3, .int .i64 m3, .int .u32 (s3 : Nat), .slice (some ⟨gR, offR, none⟩) n3 c3] 40 (0, 0))) := ⟨htj, (htj.block _ (lt_of_block HX.out.1) id).trans HX.out.1⟩
                have d0 := cell_of TJ.out.2 0 _ rfl
                clear hjg htj
                by_cases hj : j < np
                · have q3 : decide ((j : Int) < (np : Int)) = true := decide_eq_true (by omega)
                  have q4 : decide (j < np) = true := decide_eq_true hj
                  obtain ⟨p, hp⟩ : ∃ p, r.par[j]? = some p := ⟨_, List.getElem?_eq_getElem (by have := HI.out.2.1; omega)⟩
                  obtain ⟨gP, offP, rfl, -, hgP, cP⟩ := ints_at (HX.out.2.2.turned TJ.out.1 (fun _ _ q => q)) j p hp
                  obtain ⟨hp0, hp1⟩ := HI.out.2.2.2 p (List.mem_of_getElem? hp)
                  have q5 : decide (p < 0) = false := decide_eq_false (by omega)
                  have q6 : decide (bk ≤ p) = false := decide_eq_false (by have := HBK.out.1; omega)
                  have HJ : Hid (j < np) := hj
                  clear hp0 hp1 hp
                  go_wp2
                  go_roundg (gk - 1)
                  case measure => have := GJ.out; have := HJ.out; omega
                  case rel =>
                    have h1 := GJ.out
                    have h2 := HJ.out
                    have h3 := HI.out.2.2.1
                    refine ⟨j + 1, by omega, ?_, TJ.out.1⟩
                    have : wrap64 ((j : Int) + 1) = ((j + 1 : Nat) : Int) := by simp [wrap64]; omega
                    rw [this]
                · have q3 : decide ((j : Int) < (np : Int)) = false := decide_eq_false (by omega)
                  have q4 : decide (j < np) = false := decide_eq_false hj
                  clear hj
                  go_wp2
                  go_roundg (go - 1)
                  case measure => have := GG.out; have := HBK.out.2; omega
                  case rel =>
                    have h1 := GG.out
                    have h2 := HBK.out.2
                    have h3 := HGD.out
                    refine ⟨k + 1, by omega, ?_, (TT.out.1.trans HX.out.2.1 fun _ _ q => q).trans TJ.out.1 fun _ _ q => q⟩
                    have : wrap64 ((k : Int) + 1) = ((k + 1 : Nat) : Int) := by simp [wrap64]; omega
                    rw [this]
            · have q1 : decide ((k : Int) < (n3 : Int)) = false := decide_eq_false (by omega)
              have q2 : decide (k < n3) = false := decide_eq_false hlt
              have h24c := HEC.out wo _ a3 c3 (HQ.out.2.2.turned TT.out.1 (fun _ _ q => q))
              clear hlt
              go_wp2_with (first
                | (go_at_call 24; (with_reducible refine h24c.mono ?_); rintro e w9 ⟨rfl, hv⟩; have W9 : Hid (Turned (fun _ => False) w w9) := TT.out.2.1.trans hv (fun _ _ q => q); clear hv h24c))
              go_ret
              exact ⟨rfl, W9.out⟩
        · obtain rfl := HZ.out hk3
          have hd := int_neb (k3 : Int) 0 (by omega)
          have hd2 := int_bne2 (k3 : Int) 0 (by omega)
          have heq := eq_settings 0 0 0 0 0 0 0 0
          clear HG HZ HRW hk3
          unfold DecAns grv at HD
          go_wp2_with (first
            | (go_at_call 18; (with_reducible refine (HB.out _ W3.out.2).mono ?_); rintro e w5 ⟨rfl, hv⟩; have W5 : Hid (Turned (fun _ => False) w w5) := (W3.out.2).trans hv fun _ _ q => q; clear hv)
            | (go_at_call 34; (with_reducible refine (HD.out (by simp) _).mono ?_); rintro e w6 ⟨hv, a3, c3, rfl, hr6⟩; have W6 : Hid (Turned (fun _ => False) w w6 ∧ NewRows w6 (fun b => w5.heap.size ≤ b ∧ b < w6.heap.size) (fun b => w5.heap.size ≤ b ∧ b < w6.heap.size) (.slice a3 0 c3) []) := ⟨W5.out.trans hv (fun _ _ q => q), hr6⟩; clear hv hr6))
          go_ret
          exact ⟨rfl, W6.out.1.new _⟩
      · have hd := int_neb (k2 : Int) 0 (by omega)
        have hd2 := int_bne2 (k2 : Int) 0 (by omega)
        clear hk2 HD HG HZ HRW
        go_wp2_with (first
          | (go_at_call 18; (with_reducible refine (HB.out _ W3.out.2).mono ?_); rintro e w5 ⟨rfl, hv⟩; have W5 : Hid (Turned (fun _ => False) w w5) := (W3.out.2).trans hv fun _ _ q => q; clear hv))
        go_ret
        exact ⟨rfl, W5.out⟩
    · obtain rfl : m = 16 := by have := HM.out; omega
      have hmn : min (n : Int) 16 = 16 := by omega
      have hsl2 : ∀ W, (Instr.slice 22 (.slice la n lcap) none (some (.int .i64 16)) none).run Try.prog W = .ok (.slice la 16 lcap) W := hsl
      clear hsl
      go_enter Try.func13, Try.ntmps13
      go_wp2_with (first
          | (go_at_call 22; (with_reducible refine (f22 _).mono ?_); rintro e w1 ⟨rfl, hv⟩; have W1 : Hid (w1.heap[w.heap.size]? = some (.cells #[.int .i64 b1, .int .i64 h1, .int .i64 p1, .int .i64 m1, .int .u32 (s1 : Nat), .slice a L cap] 40 (0, 0)) ∧ Turned (fun _ => False) w w1) := ⟨(hv.block _ (by simp) fun q => q).trans (heap_alloc_last w _), (Turned.alloc _ _ _).trans hv fun _ _ q => q⟩; have y0 := cell_of W1.out.1 0 _ rfl; have y1 := cell_of W1.out.1 1 _ rfl; have y2 := cell_of W1.out.1 2 _ rfl; have y3 := cell_of W1.out.1 3 _ rfl; have y4 := cell_of W1.out.1 4 _ rfl; have y5 := cell_of W1.out.1 5 _ rfl; have yl := lt_of_block W1.out.1; have h24 := F24.out w1 W1.out.2; clear hv)
          | (go_at_call 24; (with_reducible refine h24.mono ?_); rintro e w2 ⟨rfl, hv⟩; have W2 : Hid (w2.heap[w.heap.size]? = some (.cells #[.int .i64 b1, .int .i64 h1, .int .i64 p1, .int .i64 m1, .int .u32 (s1 : Nat), .slice a L cap] 40 (0, 0)) ∧ Turned (fun _ => False) w w2) := ⟨(hv.block _ yl id).trans W1.out.1, W1.out.2.trans hv fun _ _ q => q⟩; clear hv h24 y0 y1 y2 y3 y4 y5 yl; have y0 := cell_of W2.out.1 0 _ rfl; have y1 := cell_of W2.out.1 1 _ rfl; have y2 := cell_of W2.out.1 2 _ rfl; have y3 := cell_of W2.out.1 3 _ rfl; have y4 := cell_of W2.out.1 4 _ rfl; have y5 := cell_of W2.out.1 5 _ rfl; have yl := lt_of_block W2.out.1; have h26 := F26.out w2 W2.out.2)
          | (go_at_call 26; (with_reducible refine h26.mono ?_); rintro e w3 ⟨rfl, hv⟩; have W3 : Hid (w3.heap[w.heap.size]? = some (.cells #[.int .i64 b1, .int .i64 h1, .int .i64 p1, .int .i64 m1, .int .u32 (s1 : Nat), .slice a L cap] 40 (0, 0)) ∧ Turned (fun _ => False) w w3) := ⟨(hv.block _ yl id).trans W2.out.1, W2.out.2.trans hv fun _ _ q => q⟩; clear hv h26 y0 y1 y2 y3 y4 y5 yl))
      by_cases hk2 : k2 = 0
      · subst hk2
        by_cases hk3 : k3 = 0
        · obtain ⟨hgood, henc⟩ := HG.out hk3
          obtain ⟨hg3, hrd⟩ := HRW.out
          have HGD : Hid (0 ≤ g3.base ∧ g3.base ≤ 65536 ∧ (g3.rows.length : Int) ≤ 65536 - g3.base ∧ ∀ (i : Nat) (r : Rw), g3.rows[i]? = some r → r.par.length ≤ 16 ∧ ∀ p ∈ r.par, 0 ≤ p ∧ p < g3.base + i) := ⟨hgood.1.1, hgood.1.2.1, hgood.1.2.2, fun i r hr => ⟨(hgood.2.2 i r hr).1, goodP_bound (hgood.2.2 i r hr).2.2.2.2.2.1⟩⟩
          have HEC : Hid (∀ W S a c, RwIs W S a c g3.rows → Calls Try.prog 24 #[grv a c g3] W fun e w' => e = .returned (.tuple #[.string s2, .int .i64 0]) ∧ Turned (fun _ => False) W w') := fun W S a c h => by
            have q := encode_any S a c g3 W h hg3
            rw [henc] at q
            exact q
          have HRD : Hid (∀ r ∈ g3.rows, RdOk r) := hrd
          clear hgood henc hg3 hrd HG HRW HZ
          subst hk3
          unfold DecAns grv at HD
          unfold grv at HEC
          obtain ⟨n3, hn3⟩ : ∃ n3, n3 = g3.rows.length := ⟨_, rfl⟩
          rw [← hn3] at HD HEC HGD
          generalize g3.base = b3 at *
          generalize g3.h = h3 at *
          generalize g3.p = p3 at *
          generalize g3.m = m3 at *
          generalize g3.seed = s3 at *
          generalize g3.rows = rows3 at *
          have HN3 : Hid (n3 = rows3.length) := hn3
          clear hn3
          go_wp2_with (first
            | (go_at_call 18; (with_reducible refine (HB.out _ W3.out.2).mono ?_); rintro e w5 ⟨rfl, hv⟩; have W5 : Hid (Turned (fun _ => False) w w5) := (W3.out.2).trans hv fun _ _ q => q; clear hv)
            | (go_at_call 34; (with_reducible refine (HD.out (by simp) _).mono ?_); rintro e w6 ⟨hv, a3, c3, rfl, hr6⟩; have W6 : Hid (Turned (fun _ => False) w w6 ∧ NewRows w6 (fun b => w5.heap.size ≤ b ∧ b < w6.heap.size) (fun b => w5.heap.size ≤ b ∧ b < w6.heap.size) (.slice a3 n3 c3) rows3) := ⟨W5.out.trans hv (fun _ _ q => q), hr6⟩; clear hv hr6))
          have HQ : Hid ((w6.alloc (.cells #[.int .i64 b3, .int .i64 h3, .int .i64 p3, .int .i64 m3, .int .u32 (s3 : Nat), .slice a3 n3 c3] 40)).heap[w6.heap.size]? = some (.cells #[.int .i64 b3, .int .i64 h3, .int .i64 p3, .int .i64 m3, .int .u32 (s3 : Nat), .slice a3 n3 c3] 40 (0, 0)) ∧ Turned (fun _ => False) w (w6.alloc (.cells #[.int .i64 b3, .int .i64 h3, .int .i64 p3, .int .i64 m3, .int .u32 (s3 : Nat), .slice a3 n3 c3] 40)) ∧ RwIs (w6.alloc (.cells #[.int .i64 b3, .int .i64 h3, .int .i64 p3, .int .i64 m3, .int .u32 (s3 : Nat), .slice a3 n3 c3] 40)) (fun b => w5.heap.size ≤ b ∧ b < w6.heap.size) a3 c3 rows3) := ⟨heap_alloc_last w6 _, W6.out.1.new _, by
            have q := W6.out.2
            rw [HN3.out] at q
            exact (q.rows HRD.out).turned (Turned.alloc (fun _ => False) _ _) (fun _ _ q => q)⟩
          generalize w6.alloc (.cells #[.int .i64 b3, .int .i64 h3, .int .i64 p3, .int .i64 m3, .int .u32 (s3 : Nat), .slice a3 n3 c3] 40) = wz at *
          go_loopg [91] n3 (fun g i wr => GbRel wz n3 g i wr)
          case atStart => exact ⟨0, by omega, rfl, Turned.refl _ _⟩
          case round =>
            obtain ⟨k, hkg, rfl, ht⟩ := hrel
            obtain ⟨wo, rfl⟩ : ∃ W, W = wr := ⟨_, rfl⟩
            obtain ⟨go, rfl⟩ : ∃ z, z = gk := ⟨_, rfl⟩
            have GG : Hid (k + go = n3) := hkg
            have TT : Hid (Turned (fun _ => False) wz wo ∧ Turned (fun _ => False) w wo ∧ wo.heap[w6.heap.size]? = some (.cells #[.int .i64 b3, .int .i64 h3, .int .i64 p3, .int .i64 m3, .int .u32 (s3 : Nat), .slice a3 n3 c3] 40 (0, 0))) := ⟨ht, HQ.out.2.1.trans ht (fun _ _ q => q), (ht.block _ (lt_of_block HQ.out.1) id).trans HQ.out.1⟩
            have d0 := cell_of TT.out.2.2 0 _ rfl
            have d1 := cell_of TT.out.2.2 1 _ rfl
            have d2 := cell_of TT.out.2.2 2 _ rfl
            have d3 := cell_of TT.out.2.2 3 _ rfl
            have d4 := cell_of TT.out.2.2 4 _ rfl
            have d5 := cell_of TT.out.2.2 5 _ rfl
            have dl := lt_of_block TT.out.2.2
            clear hkg ht
            by_cases hlt : k < n3
            · have q1 : decide ((k : Int) < (n3 : Int)) = true := decide_eq_true (by omega)
              have q2 : decide (k < n3) = true := decide_eq_true hlt
              obtain ⟨r, hr⟩ : ∃ r, rows3[k]? = some r := ⟨_, List.getElem?_eq_getElem (by have := HN3.out; omega)⟩
              have hrw := HQ.out.2.2.turned TT.out.1 (fun _ _ q => q)
              obtain ⟨gR, offR, rfl, -, hgl, hrow⟩ := rows_at hrw k r hr
              obtain ⟨pa, pc, hin, c0, c1, c2x, c3x, c4⟩ := hrow
              obtain ⟨hp16, hpb⟩ := HGD.out.2.2.2 k r hr
              obtain ⟨np, hnp⟩ : ∃ np, np = r.par.length := ⟨_, rfl⟩
              rw [← hnp] at c0
              have HI : Hid (Ints wo (fun b => w5.heap.size ≤ b ∧ b < w6.heap.size) pa pc r.par ∧ np = r.par.length ∧ np ≤ 16 ∧ ∀ p ∈ r.par, 0 ≤ p ∧ p < b3 + k) := ⟨hin, hnp, by omega, hpb⟩
              obtain ⟨bk, hbk⟩ : ∃ bk, bk = b3 + (k : Int) := ⟨_, rfl⟩
              have hw : wrap64 (b3 + (k : Int)) = bk := by have := HGD.out; simp [wrap64]; omega
              have HBK : Hid (bk = b3 + (k : Int) ∧ k < n3) := ⟨hbk, hlt⟩
              generalize r.tree = rt at *
              generalize r.gen = rg at *
              generalize r.state = rs at *
              generalize r.bits = rb at *
              clear hrw hin hp16 hpb hnp hbk hr
              go_wp2
              have HX : Hid ((wo.alloc (.cells #[.slice pa np pc, .int .i64 rt, .int .i64 rg, .int .i64 rs, .string rb] 61)).heap[w6.heap.size]? = some (.cells #[.int .i64 b3, .int .i64 h3, .int .i64 p3, .int .i64 m3, .int .u32 (s3 : Nat), .slice (some ⟨gR, offR, none⟩) n3 c3] 40 (0, 0)) ∧ Turned (fun _ => False) wo (wo.alloc (.cells #[.slice pa np pc, .int .i64 rt, .int .i64 rg, .int .i64 rs, .string rb] 61)) ∧ Ints (wo.alloc (.cells #[.slice pa np pc, .int .i64 rt, .int .i64 rg, .int .i64 rs, .string rb] 61)) (fun b => w5.heap.size ≤ b ∧ b < w6.heap.size) pa pc r.par) := ⟨Go.Mine.heap_alloc_old TT.out.2.2, Turned.alloc _ _ _, HI.out.1.turned (Turned.alloc (fun _ => False) _ _) (fun _ _ q => q)⟩
              clear c0 c1 c2x c3x c4 d0 d1 d2 d3 d4 d5 hlt
              generalize wo.alloc (.cells #[.slice pa np pc, .int .i64 rt, .int .i64 rg, .int .i64 rs, .string rb] 61) = w8 at *
              go_loopg [99] np (fun g i wr => GbRel w8 np g i wr)
              case atStart => exact ⟨0, by omega, rfl, Turned.refl _ _⟩
              case round =>
                obtain ⟨j, hjg, rfl, htj⟩ := hrel
                have GJ : Hid (j + gk = np) := hjg
                have TJ : Hid (Turned (fun _ => False) w8 wr ∧ wr.heap[w6.heap.size]? = some (.cells #[.int .i64 b3, .int .i64 h3, .int .i64 p3, .int .i64 m3, .int .u32 (s3 : Nat), .slice (some ⟨gR, offR, none⟩) n3 c3] 40 (0, 0))) := ⟨htj, (htj.block _ (lt_of_block HX.out.1) id).trans HX.out.1⟩
                have d0 := cell_of TJ.out.2 0 _ rfl
                clear hjg htj
                by_cases hj : j < np
                · have q3 : decide ((j : Int) < (np : Int)) = true := decide_eq_true (by omega)
                  have q4 : decide (j < np) = true := decide_eq_true hj
                  obtain ⟨p, hp⟩ : ∃ p, r.par[j]? = some p := ⟨_, List.getElem?_eq_getElem (by have := HI.out.2.1; omega)⟩
                  obtain ⟨gP, offP, rfl, -, hgP, cP⟩ := ints_at (HX.out.2.2.turned TJ.out.1 (fun _ _ q => q)) j p hp
                  obtain ⟨hp0, hp1⟩ := HI.out.2.2.2 p (List.mem_of_getElem? hp)
                  have q5 : decide (p < 0) = false := decide_eq_false (by omega)
                  have q6 : decide (bk ≤ p) = false := decide_eq_false (by have := HBK.out.1; omega)
                  have HJ : Hid (j < np) := hj
                  clear hp0 hp1 hp
                  go_wp2
                  go_roundg (gk - 1)
                  case measure => have := GJ.out; have := HJ.out; omega
                  case rel =>
                    have h1 := GJ.out
                    have h2 := HJ.out
                    have h3 := HI.out.2.2.1
                    refine ⟨j + 1, by omega, ?_, TJ.out.1⟩
                    have : wrap64 ((j : Int) + 1) = ((j + 1 : Nat) : Int) := by simp [wrap64]; omega
                    rw [this]
                · have q3 : decide ((j : Int) < (np : Int)) = false := decide_eq_false (by omega)
                  have q4 : decide (j < np) = false := decide_eq_false hj
                  clear hj
                  go_wp2
                  go_roundg (go - 1)
                  case measure => have := GG.out; have := HBK.out.2; omega
                  case rel =>
                    have h1 := GG.out
                    have h2 := HBK.out.2
                    have h3 := HGD.out
                    refine ⟨k + 1, by omega, ?_, (TT.out.1.trans HX.out.2.1 fun _ _ q => q).trans TJ.out.1 fun _ _ q => q⟩
                    have : wrap64 ((k : Int) + 1) = ((k + 1 : Nat) : Int) := by simp [wrap64]; omega
                    rw [this]
            · have q1 : decide ((k : Int) < (n3 : Int)) = false := decide_eq_false (by omega)
              have q2 : decide (k < n3) = false := decide_eq_false hlt
              have h24c := HEC.out wo _ a3 c3 (HQ.out.2.2.turned TT.out.1 (fun _ _ q => q))
              clear hlt
              go_wp2_with (first
                | (go_at_call 24; (with_reducible refine h24c.mono ?_); rintro e w9 ⟨rfl, hv⟩; have W9 : Hid (Turned (fun _ => False) w w9) := TT.out.2.1.trans hv (fun _ _ q => q); clear hv h24c))
              go_ret
              exact ⟨rfl, W9.out⟩
        · obtain rfl := HZ.out hk3
          have hd := int_neb (k3 : Int) 0 (by omega)
          have hd2 := int_bne2 (k3 : Int) 0 (by omega)
          have heq := eq_settings 0 0 0 0 0 0 0 0
          clear HG HZ HRW hk3
          unfold DecAns grv at HD
          go_wp2_with (first
            | (go_at_call 18; (with_reducible refine (HB.out _ W3.out.2).mono ?_); rintro e w5 ⟨rfl, hv⟩; have W5 : Hid (Turned (fun _ => False) w w5) := (W3.out.2).trans hv fun _ _ q => q; clear hv)
            | (go_at_call 34; (with_reducible refine (HD.out (by simp) _).mono ?_); rintro e w6 ⟨hv, a3, c3, rfl, hr6⟩; have W6 : Hid (Turned (fun _ => False) w w6 ∧ NewRows w6 (fun b => w5.heap.size ≤ b ∧ b < w6.heap.size) (fun b => w5.heap.size ≤ b ∧ b < w6.heap.size) (.slice a3 0 c3) []) := ⟨W5.out.trans hv (fun _ _ q => q), hr6⟩; clear hv hr6))
          go_ret
          exact ⟨rfl, W6.out.1.new _⟩
      · have hd := int_neb (k2 : Int) 0 (by omega)
        have hd2 := int_bne2 (k2 : Int) 0 (by omega)
        clear hk2 HD HG HZ HRW
        go_wp2_with (first
          | (go_at_call 18; (with_reducible refine (HB.out _ W3.out.2).mono ?_); rintro e w5 ⟨rfl, hv⟩; have W5 : Hid (Turned (fun _ => False) w w5) := (W3.out.2).trans hv fun _ _ q => q; clear hv))
        go_ret
        exact ⟨rfl, W5.out⟩
end Go.Proofs.Ytfeljngmidhajaa

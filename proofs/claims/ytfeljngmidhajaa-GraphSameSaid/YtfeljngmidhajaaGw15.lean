/- Graph files: the walk of copied. -/
import Derived.Test.YtfeljngmidhajaaGw14
import Derived.IntWalk
namespace Go.Proofs.Ytfeljngmidhajaa
open Go.RowKit Go.Mine

def GcRel (rows : List Rw) (w : World) (c : Nat) (cb cr : Array Value) (g : Nat) (v i : Value) (wr : World) : Prop :=
  ∃ (j : Nat) (ps : List Nat) (cur : Array Value), j + g = rows.length ∧ i = .int .i64 j ∧ v = .slice (some ⟨c, 0, none⟩) j (rows.length + 1) ∧ ps.length = j ∧ wr.heap[c]? = some (.cells cur 61 (0, 0)) ∧ cur.size = (rows.length + 1) * 5 ∧
    cur.toList.take (j * 5) = rcells (rows.take j) ps ∧ (∀ (i : Nat) (r : Rw) (p : Nat), (rows.take j)[i]? = some r → ps[i]? = some p → w.heap.size ≤ p ∧ wr.heap[p]? = some (.cells (icells r.par ++ [Value.int .i64 (-77)]).toArray 3 (0, 0))) ∧
    wr.heap[w.heap.size]? = some (.cells cb 40 (0, 0)) ∧ wr.heap[w.heap.size + 1]? = some (.cells cr 40 (0, 0)) ∧ Turned (fun _ => False) w wr

theorem made_rows (n : Nat) (hn : n * 64 ≤ 140737488355328) (W : World) :
    (Instr.makeSlice 38 (.int .i64 0) (.int .i64 n)).run Try.prog W = .ok (.slice (some ⟨W.heap.size, 0, none⟩) 0 n) (W.alloc (.cells (madeCells (Value.agg #[.slice none 0 0, .int .i64 0, .int .i64 0, .int .i64 0, .string ⟨#[]⟩]).cells (n * 5)) 61)) := by
  obtain ⟨i, hi, hz0, hz1, hz2⟩ := info_parts info61
  have := run_make (P := Try.prog) W 38 61 i _ Try.underlying38 hi hz0 .i64 .i64 0 (n : Int) (by omega) (by omega) (by rw [hz2]; omega) (by omega)
  rw [hz1] at this
  simp only [Int.toNat_natCast] at this
  exact this
theorem made_ints (n : Nat) (hn : n * 8 ≤ 140737488355328) (W : World) :
    (Instr.makeSlice 57 (.int .i64 0) (.int .i64 n)).run Try.prog W = .ok (.slice (some ⟨W.heap.size, 0, none⟩) 0 n) (W.alloc (.cells (madeCells #[.int .i64 0] (n * 1)) 3)) := by
  obtain ⟨i, hi, hz0, hz1, hz2⟩ := info_parts info3
  have := run_make (P := Try.prog) W 57 3 i _ Try.underlying57 hi hz0 .i64 .i64 0 (n : Int) (by omega) (by omega) (by rw [hz2]; omega) (by omega)
  rw [hz1] at this
  simp only [Int.toNat_natCast] at this
  exact this
theorem ints_src {w : World} {S : Nat → Prop} {a : Option Addr} {cap : Nat} {l : List Int} (h : Ints w S a cap l) : Src Try.prog 1 57 (.slice a l.length cap) l.length (icells l) w := by
  have one : ∀ u ∈ icells l, u.oneCell' = true := fun u hu => by
    simp only [icells, List.mem_map] at hu
    obtain ⟨x, -, rfl⟩ := hu
    rfl
  cases hl : l with
  | nil =>
    cases a with
    | none => exact Src.ofNil _ Try.underlying57 cap
    | some ad => exact Src.ofSlice _ Try.underlying57 ad 0 cap [] rfl (fun j u hj => by simp at hj) (by simp)
  | cons x r =>
    obtain ⟨g, off, rfl, -, -, hc⟩ := h.2.2.2 (by rw [hl]; simp)
    rw [← hl]
    refine Src.ofSlice _ Try.underlying57 ⟨g, off, none⟩ l.length cap _ (by rw [icells_length]; omega) (fun j u hj => ?_) one
    rw [Addr.add_lit]
    simp only [icells, List.getElem?_map, Option.map_eq_some_iff] at hj
    obtain ⟨x, hx, rfl⟩ := hj
    exact hc j x hx

theorem src_row (w : World) (v : Value) (rt rg rs : Int) (rb : ByteArray) (hv : v.oneCell' = true) : Src Try.prog 5 38 (.slice (some ⟨w.heap.size, 0, none⟩) 1 1) 1 [v, .int .i64 rt, .int .i64 rg, .int .i64 rs, .string rb] (w.alloc (.cells #[v, .int .i64 rt, .int .i64 rg, .int .i64 rs, .string rb] 61)) := by
  refine Src.ofSlice _ Try.underlying38 ⟨w.heap.size, 0, none⟩ 1 1 _ rfl (fun k u hk => ?_) (fun u hu => ?_)
  · rw [Addr.add_lit, Nat.zero_add]
    exact cell_of (heap_alloc_last w _) k u (by simpa using hk)
  · simp only [List.mem_cons, List.not_mem_nil, or_false] at hu
    rcases hu with rfl | rfl | rfl | rfl | rfl
    · exact hv
    all_goals rfl

set_option maxRecDepth 100000 in
set_option maxHeartbeats 4000000 in
theorem gcopied_any (S : Nat → Prop) (a : Option Addr) (cap : Nat) (g : Gr) (w : World) (h : RwIs w S a cap g.rows) (hL : g.rows.length ≤ 2199023255551) (hP : ∀ r ∈ g.rows, r.par.length ≤ 17592186044415) :
    Calls Try.prog 23 #[grv a cap g] w fun e w' => ∃ c, e = .returned (grv (some ⟨c, 0, none⟩) (g.rows.length + 1) g) ∧ CopyIs w' (fun b => w.heap.size ≤ b) c g.rows ∧ Turned (fun _ => False) w w' := by
  obtain ⟨L, hLL⟩ : ∃ L, L = g.rows.length := ⟨_, rfl⟩
  have HL : Hid (L = g.rows.length) := hLL
  have HI : Hid (RwIs w S a cap g.rows) := h
  have HP : Hid (∀ r ∈ g.rows, r.par.length ≤ 17592186044415) := hP
  unfold grv
  rw [← hLL]
  have hLb : L ≤ 2199023255551 := by rw [hLL]; exact hL
  have hmk : ∀ W, (Instr.makeSlice 38 (.int .i64 0) (.int .i64 ((L : Int) + 1))).run Try.prog W = .ok (.slice (some ⟨W.heap.size, 0, none⟩) 0 (L + 1)) (W.alloc (.cells (madeCells (Value.agg #[.slice none 0 0, .int .i64 0, .int .i64 0, .int .i64 0, .string ⟨#[]⟩]).cells ((L + 1) * 5)) 61)) := fun W => made_rows (L + 1) (by omega) W
  obtain ⟨Z, hZ⟩ : ∃ Z, Z = madeCells (Value.agg #[.slice none 0 0, .int .i64 0, .int .i64 0, .int .i64 0, .string ⟨#[]⟩]).cells ((L + 1) * 5) := ⟨_, rfl⟩
  have ZS : Hid (Z.size = (L + 1) * 5) := by
    have q : Z.size = (L + 1) * 5 := by rw [hZ, size_madeCells]
    exact q
  rw [← hZ] at hmk
  generalize g.rows = rows at *
  generalize g.base = base at *
  generalize g.h = gh at *
  generalize g.p = gp at *
  generalize g.m = gm at *
  generalize g.seed = seed at *
  clear hZ h hL hP hLL
  go_enter Try.func23, Try.ntmps23
  go_wp2
  have HS : Hid (GcRel rows w (w.heap.size + 1 + 1) #[.int .i64 base, .int .i64 gh, .int .i64 gp, .int .i64 gm, .int .u32 (seed : Nat), .slice a L cap] #[.int .i64 0, .int .i64 0, .int .i64 0, .int .i64 0, .int .u32 0, .slice none 0 0] L (.slice (some ⟨(w.heap.size + 1 + 1), 0, none⟩) 0 (L + 1)) (.int .i64 0) (((w.alloc (.cells #[.int .i64 base, .int .i64 gh, .int .i64 gp, .int .i64 gm, .int .u32 (seed : Nat), .slice a L cap] 40)).alloc (.cells #[.int .i64 0, .int .i64 0, .int .i64 0, .int .i64 0, .int .u32 0, .slice none 0 0] 40)).alloc (.cells Z 61))) := by
    refine ⟨0, [], Z, by rw [HL.out, Nat.zero_add], rfl, by rw [HL.out], rfl, ?_, by rw [ZS.out, HL.out], by simp [rcells], fun i r p hi => by simp at hi, ?_, ?_, (((Turned.refl _ _).new _).new _).new _⟩
    · have := heap_alloc_last ((w.alloc (.cells #[.int .i64 base, .int .i64 gh, .int .i64 gp, .int .i64 gm, .int .u32 (seed : Nat), .slice a L cap] 40)).alloc (.cells #[.int .i64 0, .int .i64 0, .int .i64 0, .int .i64 0, .int .u32 0, .slice none 0 0] 40)) (.cells Z 61)
      simpa using this
    · exact Go.Mine.heap_alloc_old (Go.Mine.heap_alloc_old (heap_alloc_last w _))
    · refine Go.Mine.heap_alloc_old ?_
      have := heap_alloc_last (w.alloc (.cells #[.int .i64 base, .int .i64 gh, .int .i64 gp, .int .i64 gm, .int .u32 (seed : Nat), .slice a L cap] 40)) (.cells #[.int .i64 0, .int .i64 0, .int .i64 0, .int .i64 0, .int .u32 0, .slice none 0 0] 40)
      simpa using this
  go_loopg [3, 14] L (fun g v i wr => GcRel rows w (w.heap.size + 1 + 1) #[.int .i64 base, .int .i64 gh, .int .i64 gp, .int .i64 gm, .int .u32 (seed : Nat), .slice a L cap] #[.int .i64 0, .int .i64 0, .int .i64 0, .int .i64 0, .int .u32 0, .slice none 0 0] g v i wr)
  case atStart => exact HS.out
  case round =>
    obtain ⟨j, ps, cur, hjg, rfl, rfl, hps, hcb, hcs, htk, hpb, hbox, hres, htr⟩ := hrel
    have G : Hid (j + gk = rows.length) := hjg
    have T : Hid (Turned (fun _ => False) w wr) := htr
    have BK : Hid (wr.heap[(w.heap.size + 1 + 1)]? = some (.cells cur 61 (0, 0)) ∧ cur.size = (rows.length + 1) * 5 ∧ cur.toList.take (j * 5) = rcells (rows.take j) ps ∧ ps.length = j) := ⟨hcb, hcs, htk, hps⟩
    have PB : Hid (∀ (i : Nat) (r : Rw) (p : Nat), (rows.take j)[i]? = some r → ps[i]? = some p → w.heap.size ≤ p ∧ wr.heap[p]? = some (.cells (icells r.par ++ [Value.int .i64 (-77)]).toArray 3 (0, 0))) := hpb
    have BX : Hid (wr.heap[w.heap.size]? = some (.cells #[.int .i64 base, .int .i64 gh, .int .i64 gp, .int .i64 gm, .int .u32 (seed : Nat), .slice a L cap] 40 (0, 0)) ∧ wr.heap[w.heap.size + 1]? = some (.cells #[.int .i64 0, .int .i64 0, .int .i64 0, .int .i64 0, .int .u32 0, .slice none 0 0] 40 (0, 0))) := ⟨hbox, hres⟩
    have hcl := lt_of_block hcb
    clear hjg hps hcb hcs htk hpb hbox hres htr HS
    by_cases hlt : j < L
    · obtain ⟨r, hr⟩ : ∃ r, rows[j]? = some r := ⟨_, List.getElem?_eq_getElem (by rw [← HL.out]; exact hlt)⟩
      have hpl := HP.out r (List.mem_of_getElem? hr)
      obtain ⟨b, off, rfl, hSb, hbw, ra, rcap, hints, c0, c1, c2, c3, c4⟩ := rows_at (HI.out.turned T.out fun _ _ q => q) j r hr
      have DR : Hid (rows[j]? = some r) := hr
      obtain ⟨n, hn⟩ : ∃ n, n = r.par.length := ⟨_, rfl⟩
      have HN : Hid (n = r.par.length) := hn
      have hnb : n ≤ 17592186044415 := by rw [hn]; exact hpl
      rw [← hn] at c0
      generalize hrt : r.tree = rt at *
      generalize hrg : r.gen = rg at *
      generalize hrs : r.state = rs at *
      generalize hrb : r.bits = rb at *
      have RV : Hid (r.tree = rt ∧ r.gen = rg ∧ r.state = rs ∧ r.bits = rb) := ⟨hrt, hrg, hrs, hrb⟩
      obtain ⟨Y, hY⟩ : ∃ Y, Y = madeCells #[Value.int .i64 0] ((n + 1) * 1) := ⟨_, rfl⟩
      have YS : Hid (Y.size = n + 1) := by
        have q : Y.size = n + 1 := by rw [hY, size_madeCells]; omega
        exact q
      have hmi : ∀ W, (Instr.makeSlice 57 (.int .i64 0) (.int .i64 ((n : Int) + 1))).run Try.prog W = .ok (.slice (some ⟨W.heap.size, 0, none⟩) 0 (n + 1)) (W.alloc (.cells Y 3)) := fun W => by
        rw [hY]; exact made_ints (n + 1) (by omega) W
      have hwn : IntKind.i64.wrap ((n : Int) + 1) = (n : Int) + 1 := Go.IntWalk.i64_in _ (by omega)
      have BU : Hid ((((wr.alloc (.cells #[.slice ra n rcap, .int .i64 rt, .int .i64 rg, .int .i64 rs, .string rb] 61)).alloc (.cells Y 3)).drew).heap[wr.heap.size + 1]? = some (.cells Y 3 (0, 0)) ∧ (((wr.alloc (.cells #[.slice ra n rcap, .int .i64 rt, .int .i64 rg, .int .i64 rs, .string rb] 61)).alloc (.cells Y 3)).drew).heap[wr.heap.size]? = some (.cells #[.slice ra n rcap, .int .i64 rt, .int .i64 rg, .int .i64 rs, .string rb] 61 (0, 0)) ∧ Turned (fun _ => False) wr (((wr.alloc (.cells #[.slice ra n rcap, .int .i64 rt, .int .i64 rg, .int .i64 rs, .string rb] 61)).alloc (.cells Y 3)).drew)) := by
        have q : (((wr.alloc (.cells #[.slice ra n rcap, .int .i64 rt, .int .i64 rg, .int .i64 rs, .string rb] 61)).alloc (.cells Y 3)).drew).heap[wr.heap.size + 1]? = some (.cells Y 3 (0, 0)) := by
          have := heap_alloc_last ((wr.alloc (.cells #[.slice ra n rcap, .int .i64 rt, .int .i64 rg, .int .i64 rs, .string rb] 61))) (.cells Y 3)
          simpa [heap_drew] using this
        exact ⟨q, Go.Mine.heap_alloc_old (heap_alloc_last wr _), (((Turned.refl _ _).new _).new _).draw⟩
      have SRC : Hid (Src Try.prog 1 57 (.slice ra n rcap) n (icells r.par) (((wr.alloc (.cells #[.slice ra n rcap, .int .i64 rt, .int .i64 rg, .int .i64 rs, .string rb] 61)).alloc (.cells Y 3)).drew)) := by
        have q := ints_src (hints.turned BU.out.2.2 fun _ _ q => q)
        rw [← hn] at q
        exact q
      have FIT : Hid (0 + (n + 1) * 1 ≤ Y.size) := by
        have q : 0 + (n + 1) * 1 ≤ Y.size := by rw [YS.out]; omega
        exact q
      clear hr hpl hints hn hrt hrg hrs hrb hY
      go_wp2
      go_region_law ((refine step_append_fits (by rfl) _ _ 57 57 (by rfl) (wr.heap.size + 1) 0 (n + 1) Y BU.out.1 Try.underlying57 info3 (by rfl) (.slice ra n rcap) (by rfl) SRC.out (by omega) FIT.out ?_; intro w1 hb1 ht1 hz1; rw [Nat.zero_add n]; have A1 : Hid (w1.heap[wr.heap.size + 1]? = some (.cells (splice Y.toList (0 + 0 * 1) (icells r.par)).toArray 3 (0, 0)) ∧ Turned (· = wr.heap.size + 1) (((wr.alloc (.cells #[.slice ra n rcap, .int .i64 rt, .int .i64 rg, .int .i64 rs, .string rb] 61)).alloc (.cells Y 3)).drew) w1 ∧ w1.heap.size = wr.heap.size + 2 ∧ w1.heap[wr.heap.size]? = some (.cells #[.slice ra n rcap, .int .i64 rt, .int .i64 rg, .int .i64 rs, .string rb] 61 (0, 0))) := ⟨hb1, ht1, (by rw [hz1]; simp [heap_drew]), (ht1.block _ (by simp [heap_drew]; omega) (by omega)).trans BU.out.2.1⟩; have f1 := free_of A1.out.2.2.2 0; have d1 := cell_of A1.out.2.2.2 0 _ rfl; have d1l := lt_of_block A1.out.2.2.2; clear hb1 ht1 hz1))
      all_goals
        have A2 : Hid ((w1.setCell ⟨wr.heap.size, 0, none⟩ (.slice (some ⟨wr.heap.size + 1, 0, none⟩) n (n + 1))).heap[wr.heap.size + 1]? = some (.cells (splice Y.toList (0 + 0 * 1) (icells r.par)).toArray 3 (0, 0)) ∧ (w1.setCell ⟨wr.heap.size, 0, none⟩ (.slice (some ⟨wr.heap.size + 1, 0, none⟩) n (n + 1))).heap[wr.heap.size]? = some (.cells #[.slice (some ⟨wr.heap.size + 1, 0, none⟩) n (n + 1), .int .i64 rt, .int .i64 rg, .int .i64 rs, .string rb] 61 (0, 0)) ∧ Turned (fun b => b = wr.heap.size ∨ b = wr.heap.size + 1) (((wr.alloc (.cells #[.slice ra n rcap, .int .i64 rt, .int .i64 rg, .int .i64 rs, .string rb] 61)).alloc (.cells Y 3)).drew) (w1.setCell ⟨wr.heap.size, 0, none⟩ (.slice (some ⟨wr.heap.size + 1, 0, none⟩) n (n + 1))) ∧ (w1.setCell ⟨wr.heap.size, 0, none⟩ (.slice (some ⟨wr.heap.size + 1, 0, none⟩) n (n + 1))).heap.size = wr.heap.size + 2) :=
          ⟨(heap_setCell_ne _ (by simp)).trans A1.out.1, Go.Mine.heap_setCell_same A1.out.2.2.2 _, (A1.out.2.1.mono fun b _ q => .inr q).set (.inl rfl) _, (setCell_size _ _ _).trans A1.out.2.2.1⟩
        generalize hw2 : (w1.setCell ⟨wr.heap.size, 0, none⟩ (.slice (some ⟨wr.heap.size + 1, 0, none⟩) n (n + 1))) = w2 at *
        clear hw2 f1 d1 d1l
        have d2 := cell_of A2.out.2.1 0 _ rfl
        have d2l := lt_of_block A2.out.2.1
        have ROOM : Hid (0 + (n + 1) * 1 ≤ (splice Y.toList (0 + 0 * 1) (icells r.par)).toArray.size) := by
          have q : 0 + (n + 1) * 1 ≤ (splice Y.toList (0 + 0 * 1) (icells r.par)).toArray.size := by
            rw [List.size_toArray, splice_length (by rw [icells_length, ← HN.out, Array.length_toList, YS.out]; omega), Array.length_toList, YS.out]; omega
          exact q
        go_wp2_with (first
          | (at_builtin; refine wpList_append_room rfl (.tmp 28) (.tmp 29) 57 57 rfl (wr.heap.size + 1) 0 (n + 1) (splice Y.toList (0 + 0 * 1) (icells r.par)).toArray (Go.Mine.heap_alloc_old A2.out.1) Try.underlying57 info3 rfl (.slice (some ⟨w2.heap.size, 0, none⟩) 1 1) rfl (src_one Try.underlying57 (.int .i64 (-77)) rfl w2) (by omega) ROOM.out ?_; intro w3 hb3 ht3 hz3; have A3 : Hid (w3.heap[wr.heap.size + 1]? = some (.cells (splice (splice Y.toList (0 + 0 * 1) (icells r.par)).toArray.toList (0 + n * 1) [Value.int .i64 (-77)]).toArray 3 (0, 0)) ∧ Turned (· = wr.heap.size + 1) (w2.alloc (.cells #[.int .i64 (-77)] 3)) w3 ∧ w3.heap.size = wr.heap.size + 3 ∧ w3.heap[wr.heap.size]? = some (.cells #[.slice (some ⟨wr.heap.size + 1, 0, none⟩) n (n + 1), .int .i64 rt, .int .i64 rg, .int .i64 rs, .string rb] 61 (0, 0))) := ⟨hb3, ht3, (by rw [hz3]; simp [A2.out.2.2.2]), (ht3.block _ (by simp; omega) (by omega)).trans (Go.Mine.heap_alloc_old A2.out.2.1)⟩; have g0 := cell_of A3.out.2.2.2 0 _ rfl; have g1 := cell_of A3.out.2.2.2 1 _ rfl; have g2 := cell_of A3.out.2.2.2 2 _ rfl; have g3 := cell_of A3.out.2.2.2 3 _ rfl; have g4 := cell_of A3.out.2.2.2 4 _ rfl; have g5 := lt_of_block A3.out.2.2.2; have C3 : Hid ((w3.alloc (.cells #[.slice (some ⟨wr.heap.size + 1, 0, none⟩) n (n + 1), .int .i64 rt, .int .i64 rg, .int .i64 rs, .string rb] 61)).heap[(w.heap.size + 1 + 1)]? = some (.cells cur 61 (0, 0)) ∧ Turned (fun b => b = wr.heap.size ∨ b = wr.heap.size + 1) (((wr.alloc (.cells #[.slice ra n rcap, .int .i64 rt, .int .i64 rg, .int .i64 rs, .string rb] 61)).alloc (.cells Y 3)).drew) w3) := ⟨Go.Mine.heap_alloc_old ((ht3.block _ (by simp [A2.out.2.2.2]; omega) (by omega)).trans (Go.Mine.heap_alloc_old ((A2.out.2.2.1.block _ (by simp [heap_drew]; omega) (by omega)).trans (Go.Mine.heap_alloc_old (Go.Mine.heap_alloc_old BK.out.1))))), (A2.out.2.2.1.new _).trans (ht3.mono fun b _ q => .inr q) fun _ _ q => q⟩; clear hb3 ht3 hz3)
          | (at_builtin; refine wpList_append_room rfl (.tmp 31) (.tmp 33) 38 38 rfl (w.heap.size + 1 + 1) 0 (rows.length + 1) cur C3.out.1 Try.underlying38 info61 rfl (.slice (some ⟨w3.heap.size, 0, none⟩) 1 1) rfl (src_row w3 (.slice (some ⟨wr.heap.size + 1, 0, none⟩) n (n + 1)) rt rg rs rb rfl) (by have := G.out; have := HL.out; omega) (by have := BK.out.2.1; omega) ?_; intro w4 hb4 ht4 hz4; have A4 : Hid (w4.heap[(w.heap.size + 1 + 1)]? = some (.cells (splice cur.toList (0 + j * 5) [.slice (some ⟨wr.heap.size + 1, 0, none⟩) n (n + 1), .int .i64 rt, .int .i64 rg, .int .i64 rs, .string rb]).toArray 61 (0, 0)) ∧ Turned (· = (w.heap.size + 1 + 1)) (w3.alloc (.cells #[.slice (some ⟨wr.heap.size + 1, 0, none⟩) n (n + 1), .int .i64 rt, .int .i64 rg, .int .i64 rs, .string rb] 61)) w4) := ⟨hb4, ht4⟩; clear hb4 ht4 hz4))
        go_roundg (gk - 1)
        case measure => have := G.out; have := HL.out; omega
        case rel =>
          have h1 := HN.out
          have hjl := G.out
          have hLl := HL.out
          have hcsz := BK.out.2.1
          have hz3 := A3.out.2.2.1
          have T34 : Turned (fun b => b = wr.heap.size ∨ b = wr.heap.size + 1 ∨ b = (w.heap.size + 1 + 1)) (((wr.alloc (.cells #[.slice ra n rcap, .int .i64 rt, .int .i64 rg, .int .i64 rs, .string rb] 61)).alloc (.cells Y 3)).drew) w4 := ((C3.out.2.mono fun b _ q => q.elim .inl fun q => .inr (.inl q)).new _).trans (A4.out.2.mono fun b _ q => .inr (.inr q)) fun _ _ q => q
          have old : ∀ b x, wr.heap[b]? = some x → b ≠ (w.heap.size + 1 + 1) → w4.heap[b]? = some x := fun b x hx hb => by
            have hlb := lt_of_block hx
            rw [T34.block b (by simp [heap_drew]; omega) (by omega)]
            exact Go.Mine.heap_alloc_old (Go.Mine.heap_alloc_old hx)
          have hspl : ((splice cur.toList (0 + j * 5) [.slice (some ⟨wr.heap.size + 1, 0, none⟩) n (n + 1), .int .i64 rt, .int .i64 rg, .int .i64 rs, .string rb]).toArray).toList.take ((j + 1) * 5) = rcells (rows.take (j + 1)) (ps ++ [wr.heap.size + 1]) := by
            rw [List.take_add_one, DR.out]
            have e := rcells_snoc (rows.take j) ps r (wr.heap.size + 1) (by rw [BK.out.2.2.2, List.length_take]; omega)
            simp only [Option.toList_some]
            rw [e, ← BK.out.2.2.1, ← h1, RV.out.1, RV.out.2.1, RV.out.2.2.1, RV.out.2.2.2]
            simp only [splice, Nat.zero_add]
            rw [show (j + 1) * 5 = (cur.toList.take (j * 5) ++ ([.slice (some ⟨wr.heap.size + 1, 0, none⟩) n (n + 1), .int .i64 rt, .int .i64 rg, .int .i64 rs, .string rb] : List Value)).length by simp [hcsz]; omega]
            exact List.take_left
          refine ⟨j + 1, ps ++ [wr.heap.size + 1], _, by omega, by simp [wrap64] <;> omega, rfl, by simp [BK.out.2.2.2], A4.out.1, ?_, hspl, fun i x q hx hq => ?_, old _ _ BX.out.1 (by omega), old _ _ BX.out.2 (by omega), ?_⟩
          · rw [List.size_toArray, splice_length (by simp [hcsz]; omega), Array.length_toList, hcsz]
          · have hil := (List.getElem?_eq_some_iff.1 hq).1
            rw [List.length_append, BK.out.2.2.2, List.length_singleton] at hil
            by_cases hij : i < j
            · rw [List.getElem?_append_left (by rw [BK.out.2.2.2]; exact hij)] at hq
              obtain ⟨z1, z2⟩ := PB.out i x q (by rw [List.getElem?_take, if_pos hij]; rw [List.getElem?_take, if_pos (by omega)] at hx; exact hx) hq
              refine ⟨z1, old _ _ z2 fun z => ?_⟩
              rw [z, BK.out.1] at z2
              simp at z2
            · obtain rfl : i = j := by omega
              rw [List.getElem?_append_right (by rw [BK.out.2.2.2]; exact Nat.le_refl _), BK.out.2.2.2, Nat.sub_self] at hq
              obtain rfl : wr.heap.size + 1 = q := by simpa using hq
              obtain rfl : r = x := by
                rw [List.getElem?_take, if_pos (by omega), DR.out] at hx
                exact Option.some.inj hx
              refine ⟨by have := T.out.size; omega, ?_⟩
              rw [A4.out.2.block _ (by simp; omega) (by omega)]
              have := Go.Mine.heap_alloc_old (o := .cells #[.slice (some ⟨wr.heap.size + 1, 0, none⟩) n (n + 1), .int .i64 rt, .int .i64 rg, .int .i64 rs, .string rb] 61) A3.out.1
              rw [this]
              have e := splice_room Y.toList (icells r.par) [Value.int .i64 (-77)] (by rw [Array.length_toList, YS.out, icells_length, ← h1]; simp)
              rw [icells_length, ← h1] at e
              simp only [Nat.zero_add, Nat.zero_mul, Nat.mul_one] at e ⊢
              rw [e]
          · exact T.out.comp (BU.out.2.2.comp T34 (T := fun b => b = wr.heap.size ∨ b = wr.heap.size + 1 ∨ b = (w.heap.size + 1 + 1)) fun b _ q => q.elim (fun q => q.elim) id) fun b hb q => q.elim id fun q => by have := T.out.size; omega
    · have hj : j = L := by have := G.out; have := HL.out; omega
      have hkl : cur.size = (L + 1) * 5 := by rw [HL.out]; exact BK.out.2.1
      have hrl : rows.length + 1 = L + 1 := by rw [HL.out]
      rw [hrl]
      subst hj
      have CA : Hid ((wr.alloc (.cells #[.slice none 0 0, .int .i64 (-78), .int .i64 0, .int .i64 0, .string ⟨#[]⟩] 61)).heap[(w.heap.size + 1 + 1)]? = some (.cells cur 61 (0, 0))) := Go.Mine.heap_alloc_old BK.out.1
      clear hlt hrl
      go_wp2_with (at_builtin; (refine wpList_append_room rfl (.tmp 36) (.tmp 38) 38 38 rfl (w.heap.size + 1 + 1) 0 (j + 1) cur CA.out Try.underlying38 info61 rfl (.slice (some ⟨wr.heap.size, 0, none⟩) 1 1) rfl (src_row wr (.slice none 0 0) (-78) 0 0 ⟨#[]⟩ rfl) (by omega) (by omega) ?_; intro w4 hb4 ht4 hz4; have A4 : Hid (w4.heap[(w.heap.size + 1 + 1)]? = some (.cells (splice cur.toList (0 + j * 5) spareR).toArray 61 (0, 0)) ∧ Turned (· = (w.heap.size + 1 + 1)) (wr.alloc (.cells #[.slice none 0 0, .int .i64 (-78), .int .i64 0, .int .i64 0, .string ⟨#[]⟩] 61)) w4 ∧ w4.heap[w.heap.size]? = some (.cells #[.int .i64 base, .int .i64 gh, .int .i64 gp, .int .i64 gm, .int .u32 (seed : Nat), .slice a j cap] 40 (0, 0)) ∧ w4.heap[w.heap.size + 1]? = some (.cells #[.int .i64 0, .int .i64 0, .int .i64 0, .int .i64 0, .int .u32 0, .slice none 0 0] 40 (0, 0))) := ⟨hb4, ht4, (ht4.block _ (by have := lt_of_block BX.out.1; simp; omega) (by omega)).trans (Go.Mine.heap_alloc_old BX.out.1), (ht4.block _ (by have := lt_of_block BX.out.2; simp; omega) (by omega)).trans (Go.Mine.heap_alloc_old BX.out.2)⟩; have e0 := cell_of A4.out.2.2.1 0 _ rfl; have e1 := cell_of A4.out.2.2.1 1 _ rfl; have e2 := cell_of A4.out.2.2.1 2 _ rfl; have e3 := cell_of A4.out.2.2.1 3 _ rfl; have e4 := cell_of A4.out.2.2.1 4 _ rfl; have e5 := cell_of A4.out.2.2.1 5 _ rfl; have f5 := free_of A4.out.2.2.1 5; have el := lt_of_block A4.out.2.2.1; have q0 := cell_of A4.out.2.2.2 0 _ rfl; have q1 := cell_of A4.out.2.2.2 1 _ rfl; have q2 := cell_of A4.out.2.2.2 2 _ rfl; have q3 := cell_of A4.out.2.2.2 3 _ rfl; have q4 := cell_of A4.out.2.2.2 4 _ rfl; have q5 := cell_of A4.out.2.2.2 5 _ rfl; have g0 := free_of A4.out.2.2.2 0; have g1 := free_of A4.out.2.2.2 1; have g2 := free_of A4.out.2.2.2 2; have g3 := free_of A4.out.2.2.2 3; have g4 := free_of A4.out.2.2.2 4; have g5 := free_of A4.out.2.2.2 5; have ql := lt_of_block A4.out.2.2.2; clear hb4 ht4 hz4))
      have TE : Turned (fun _ => False) w (((((((w4.setCell ⟨w.heap.size, 5, none⟩ ((.slice (some ⟨(w.heap.size + 1 + 1), 0, none⟩) j (j + 1)))).setCell ⟨w.heap.size + 1, 0, none⟩ (.int .i64 base)).setCell ⟨w.heap.size + 1, 1, none⟩ (.int .i64 gh)).setCell ⟨w.heap.size + 1, 2, none⟩ (.int .i64 gp)).setCell ⟨w.heap.size + 1, 3, none⟩ (.int .i64 gm)).setCell ⟨w.heap.size + 1, 4, none⟩ (.int .u32 (seed : Nat))).setCell ⟨w.heap.size + 1, 5, none⟩ ((.slice (some ⟨(w.heap.size + 1 + 1), 0, none⟩) j (j + 1)))) := by
        have k1 := ((T.out.new (.cells #[.slice none 0 0, .int .i64 (-78), .int .i64 0, .int .i64 0, .string ⟨#[]⟩] 61)).comp A4.out.2.1 (T := fun b => w.heap.size ≤ b) fun b hb q => q.elim (fun q => q.elim) fun q => by omega)
        have k2 := ((((((k1.set (p := ⟨w.heap.size, 5, none⟩) (Nat.le_refl _) (.slice (some ⟨(w.heap.size + 1 + 1), 0, none⟩) j (j + 1))).set (p := ⟨w.heap.size + 1, 0, none⟩) (Nat.le_succ _) (.int .i64 base)).set (p := ⟨w.heap.size + 1, 1, none⟩) (Nat.le_succ _) (.int .i64 gh)).set (p := ⟨w.heap.size + 1, 2, none⟩) (Nat.le_succ _) (.int .i64 gp)).set (p := ⟨w.heap.size + 1, 3, none⟩) (Nat.le_succ _) (.int .i64 gm)).set (p := ⟨w.heap.size + 1, 4, none⟩) (Nat.le_succ _) (.int .u32 (seed : Nat))).set (p := ⟨w.heap.size + 1, 5, none⟩) (Nat.le_succ _) (.slice (some ⟨(w.heap.size + 1 + 1), 0, none⟩) j (j + 1))
        exact ⟨k2.os, k2.tape, k2.output, k2.size, fun b hb _ => k2.block b hb (by omega)⟩
      have hcu : cur.toList = rcells rows ps ++ cur.toList.drop (j * 5) := by
        have := BK.out.2.2.1
        rw [List.take_of_length_le (l := rows) (by rw [← HL.out]; exact Nat.le_refl _)] at this
        rw [← this, List.take_append_drop]
      have hsp : splice cur.toList (0 + j * 5) spareR = rcells rows ps ++ spareR := by
        have e := BK.out.2.2.1
        rw [List.take_of_length_le (l := rows) (by rw [← HL.out]; exact Nat.le_refl _)] at e
        unfold splice
        rw [Nat.zero_add, e, List.drop_of_length_le (by rw [Array.length_toList, hkl]; simp [spareR]; omega), List.append_nil]
      have CPY : CopyIs (((((((w4.setCell ⟨w.heap.size, 5, none⟩ ((.slice (some ⟨(w.heap.size + 1 + 1), 0, none⟩) j (j + 1)))).setCell ⟨w.heap.size + 1, 0, none⟩ (.int .i64 base)).setCell ⟨w.heap.size + 1, 1, none⟩ (.int .i64 gh)).setCell ⟨w.heap.size + 1, 2, none⟩ (.int .i64 gp)).setCell ⟨w.heap.size + 1, 3, none⟩ (.int .i64 gm)).setCell ⟨w.heap.size + 1, 4, none⟩ (.int .u32 (seed : Nat))).setCell ⟨w.heap.size + 1, 5, none⟩ ((.slice (some ⟨(w.heap.size + 1 + 1), 0, none⟩) j (j + 1)))) (fun b => w.heap.size ≤ b) (w.heap.size + 1 + 1) rows := by
        have ne : ∀ (b : Nat) (x : Obj), w4.heap[b]? = some x → b ≠ w.heap.size → b ≠ w.heap.size + 1 → (((((((w4.setCell ⟨w.heap.size, 5, none⟩ ((.slice (some ⟨(w.heap.size + 1 + 1), 0, none⟩) j (j + 1)))).setCell ⟨w.heap.size + 1, 0, none⟩ (.int .i64 base)).setCell ⟨w.heap.size + 1, 1, none⟩ (.int .i64 gh)).setCell ⟨w.heap.size + 1, 2, none⟩ (.int .i64 gp)).setCell ⟨w.heap.size + 1, 3, none⟩ (.int .i64 gm)).setCell ⟨w.heap.size + 1, 4, none⟩ (.int .u32 (seed : Nat))).setCell ⟨w.heap.size + 1, 5, none⟩ ((.slice (some ⟨(w.heap.size + 1 + 1), 0, none⟩) j (j + 1)))).heap[b]? = some x := fun b x hx h1 h2 => by
          rw [heap_setCell_ne _ h2, heap_setCell_ne _ h2, heap_setCell_ne _ h2, heap_setCell_ne _ h2, heap_setCell_ne _ h2, heap_setCell_ne _ h2, heap_setCell_ne _ h1]
          exact hx
        refine ⟨by omega, ps, by rw [BK.out.2.2.2, HL.out], ne _ _ (by rw [A4.out.1, hsp]) (by omega) (by omega), fun i r p hr hp => ?_⟩
        obtain ⟨z1, z2⟩ := PB.out i r p (by rw [List.take_of_length_le (by rw [← HL.out]; exact Nat.le_refl _)]; exact hr) hp
        refine ⟨z1, ne _ _ ((A4.out.2.1.block _ (by have := lt_of_block z2; simp; omega) fun z => ?_).trans (Go.Mine.heap_alloc_old z2)) (fun z => ?_) fun z => ?_⟩
        · rw [z, BK.out.1] at z2; simp at z2
        · rw [z, BX.out.1] at z2; simp at z2
        · rw [z, BX.out.2] at z2; simp at z2
      have p0 := A4.out.2.2.2
      exact bodyPost_ret (v := .agg #[.int .i64 base, .int .i64 gh, .int .i64 gp, .int .i64 gm, .int .u32 (seed : Nat), (.slice (some ⟨(w.heap.size + 1 + 1), 0, none⟩) j (j + 1))]) (by simp [results, Try.results23, go_sem, q0, q1, q2, q3, q4, q5]) rfl ⟨(w.heap.size + 1 + 1), rfl, CPY, TE⟩
end Go.Proofs.Ytfeljngmidhajaa

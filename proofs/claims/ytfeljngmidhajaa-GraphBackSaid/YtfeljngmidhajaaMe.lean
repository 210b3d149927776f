/- Graph files: copies and the example; the statement on Same. -/
import Derived.Test.YtfeljngmidhajaaMd
import Derived.Test.YtfeljngmidhajaaRoom
import Derived.Deep.RegionLaw
import Derived.IntWalk
namespace Go.Mine
open Go.MapKept

theorem step_append_fits {P : Program} {w : World} {e : TypeId} {size bytes : Nat} {z : Value} {news : List Value} {n m : Nat} {ops : Array Oper} {o : Oper} {a : Act} {K : Act → World → Prop} {Q : Exit → Act → World → Prop} {E : Prop} (hgd : o.guard = none) (so xo : Operand) (t tx : TypeId)
    (ho : o.op = .call { callee := .builtin .append, args := #[so, xo], argTypes := #[t, tx] }) (b off cap : Nat) (cur : Array Value)
    (hb : w.heap[b]? = some (.cells cur e (0, 0))) (ht : P.underlying t = some (.slice e)) (hinf : (P.info? e).map (fun i => (i.zero, i.size, i.bytes)) = some (some z, size, bytes))
    (hs : a.eval so = .slice (some ⟨b, off, none⟩) n cap) (x : Value) (hx : a.eval xo = x) (hsrc : Src P size tx x m news w) (hroom : n + m ≤ cap) (hcs : off + cap * size ≤ cur.size)
    (hK : ∀ w', w'.heap[b]? = some (.cells (splice cur.toList (off + n * size) news).toArray e (0, 0)) → Turned (· = b) w w' → w'.heap.size = w.heap.size → K (a.put o.dst (.slice (some ⟨b, off, none⟩) (n + m) cap)) w') :
    if Region.wanted o (yielded ops a.tmps) = true then Oper.wp P o a w K Q else E := by
  have hw : Region.wanted o (yielded ops a.tmps) = true := by simp [Region.wanted, hgd]
  rw [if_pos hw]
  obtain ⟨i, hi, hz0, hz1, hz2⟩ := info_parts hinf
  subst hz1
  have hmul : (n + m) * i.size ≤ cap * i.size := Nat.mul_le_mul_right _ hroom
  have hfit : off + n * i.size + news.length ≤ cur.size := by rw [hsrc.newsLen, Nat.add_assoc, ← Nat.add_mul]; omega
  have hrun := run_append_room_src (P := P) w t tx o.type e i ht hi b off n cap x m news hsrc hroom (fun j hj => by simp [World.cell?, hb]; omega) (fun j hj => free_of hb _)
  unfold Oper.wp
  simp [execOp, ho, resolve, invoke, builtin, hs, hx, hrun, Result.andThen]
  exact hK _ (heap_setCells_same b e news _ w cur hb hfit) (Turned.setCells (S := (· = b)) b rfl _ _ _) (setCells_size b news _ w)
end Go.Mine

namespace Go.Proofs.Ytfeljngmidhajaa
open Go.RowKit Go.Mine

theorem info61 : (Try.prog.info? 61).map (fun i => (i.zero, i.size, i.bytes)) = some (some (.agg #[.slice none 0 0, .int .i64 0, .int .i64 0, .int .i64 0, .string ⟨#[]⟩]), 5, 64) := by kernel_rfl

def ncells (l : List Int) : List Value := l.map fun x => Value.int .i64 x
theorem ncells_length (l : List Int) : (ncells l).length = l.length := by simp [ncells]
/-- the cells of rows whose lists stand in the blocks ps -/
def rcells : List Rw → List Nat → List Value
  | r :: l, p :: ps => [.slice (some ⟨p, 0, none⟩) r.par.length (r.par.length + 1), .int .i64 r.tree, .int .i64 r.gen, .int .i64 r.state, .string r.bits] ++ rcells l ps
  | _, _ => []
theorem rcells_length : ∀ (l : List Rw) (ps : List Nat), ps.length = l.length → (rcells l ps).length = l.length * 5
  | [], [], _ => rfl
  | r :: l, p :: ps, h => by
    simp only [rcells, List.length_append, List.length_cons, List.length_nil]
    rw [rcells_length l ps (by simpa using h)]; omega
theorem rcells_snoc : ∀ (l : List Rw) (ps : List Nat) (r : Rw) (p : Nat), ps.length = l.length → rcells (l ++ [r]) (ps ++ [p]) = rcells l ps ++ [.slice (some ⟨p, 0, none⟩) r.par.length (r.par.length + 1), .int .i64 r.tree, .int .i64 r.gen, .int .i64 r.state, .string r.bits]
  | [], [], _, _, _ => rfl
  | x :: l, y :: ps, r, p, h => by
    simp only [List.cons_append, rcells, List.append_assoc]
    rw [rcells_snoc l ps r p (by simpa using h)]
theorem rcells_get : ∀ (l : List Rw) (ps : List Nat) (i : Nat) (r : Rw) (p : Nat), ps.length = l.length → l[i]? = some r → ps[i]? = some p →
    (rcells l ps)[i * 5]? = some (.slice (some ⟨p, 0, none⟩) r.par.length (r.par.length + 1)) ∧ (rcells l ps)[i * 5 + 1]? = some (.int .i64 r.tree) ∧ (rcells l ps)[i * 5 + 2]? = some (.int .i64 r.gen) ∧ (rcells l ps)[i * 5 + 3]? = some (.int .i64 r.state) ∧ (rcells l ps)[i * 5 + 4]? = some (.string r.bits)
  | [], _, _, _, _, _, h, _ => by simp at h
  | x :: l, y :: ps, 0, r, p, h, h1, h2 => by
    obtain rfl := Option.some.inj h1
    obtain rfl := Option.some.inj h2
    simp [rcells]
  | x :: l, y :: ps, i + 1, r, p, h, h1, h2 => by
    have ih := rcells_get l ps i r p (by simpa using h) (by simpa using h1) (by simpa using h2)
    have e : ∀ k, (rcells (x :: l) (y :: ps))[(i + 1) * 5 + k]? = (rcells l ps)[i * 5 + k]? := fun k => by
      rw [show (i + 1) * 5 + k = i * 5 + k + 5 by omega]
      simp [rcells]
    refine ⟨?_, ?_, ?_, ?_, ?_⟩
    · have := e 0; rw [Nat.add_zero, Nat.add_zero] at this; rw [this]; exact ih.1
    · rw [e 1]; exact ih.2.1
    · rw [e 2]; exact ih.2.2.1
    · rw [e 3]; exact ih.2.2.2.1
    · rw [e 4]; exact ih.2.2.2.2

def spareR : List Value := [.slice none 0 0, .int .i64 (-78), .int .i64 0, .int .i64 0, .string ⟨#[]⟩]
/-- the rows l stand in the block c, each list in a block of its own, each with a place to spare that is marked; the blocks are of S -/
def CopyIs (w : World) (S : Nat → Prop) (c : Nat) (l : List Rw) : Prop :=
  S c ∧ ∃ ps : List Nat, ps.length = l.length ∧ w.heap[c]? = some (.cells (rcells l ps ++ spareR).toArray 61 (0, 0)) ∧
    ∀ (i : Nat) (r : Rw) (p : Nat), l[i]? = some r → ps[i]? = some p → S p ∧ w.heap[p]? = some (.cells (ncells r.par ++ [Value.int .i64 (-77)]).toArray 3 (0, 0))

theorem CopyIs.turned {w w' : World} {S T : Nat → Prop} {c : Nat} {l : List Rw} (h : CopyIs w S c l) (ht : Turned T w w') (hS : ∀ b, S b → ¬ T b) : CopyIs w' S c l := by
  obtain ⟨h1, ps, h2, h3, h4⟩ := h
  refine ⟨h1, ps, h2, (ht.block c (lt_of_block h3) (hS c h1)).trans h3, fun i r p hr hp => ?_⟩
  obtain ⟨k1, k2⟩ := h4 i r p hr hp
  exact ⟨k1, (ht.block p (lt_of_block k2) (hS p k1)).trans k2⟩

theorem copy_ints {w : World} {S : Nat → Prop} {p : Nat} {l : List Int} (h : w.heap[p]? = some (.cells (ncells l ++ [Value.int .i64 (-77)]).toArray 3 (0, 0))) (hp : S p) (hl : ∀ x ∈ l, I64 x) (hm : l.length + 1 ≤ maxLen) : Ints w S (some ⟨p, 0, none⟩) (l.length + 1) l := by
  refine ⟨by omega, hm, hl, fun _ => ⟨p, 0, rfl, hp, lt_of_block h, fun i x hx => ?_⟩⟩
  rw [Nat.zero_add]
  refine cell_of h i _ ?_
  have hi := (List.getElem?_eq_some_iff.1 hx).1
  rw [List.getElem?_toArray, List.getElem?_append_left (by rw [ncells_length]; exact hi)]
  simp [ncells, hx]

theorem CopyIs.rows {w : World} {S : Nat → Prop} {c : Nat} {l : List Rw} (h : CopyIs w S c l) (hok : ∀ r ∈ l, RwOk r ∧ (∀ x ∈ r.par, I64 x) ∧ r.par.length + 1 ≤ maxLen) (hm : l.length + 1 ≤ maxLen) : RwIs w S (some ⟨c, 0, none⟩) (l.length + 1) l := by
  obtain ⟨h1, ps, h2, h3, h4⟩ := h
  refine ⟨by omega, hm, fun r hr => (hok r hr).1, fun _ => ⟨c, 0, rfl, h1, lt_of_block h3, fun i r hr => ?_⟩⟩
  have hi := (List.getElem?_eq_some_iff.1 hr).1
  obtain ⟨p, hp⟩ : ∃ p, ps[i]? = some p := ⟨_, List.getElem?_eq_getElem (by omega)⟩
  obtain ⟨k1, k2⟩ := h4 i r p hr hp
  obtain ⟨g0, g1, g2, g3, g4⟩ := rcells_get l ps i r p h2 hr hp
  have hlen := rcells_length l ps h2
  have hat : ∀ (k : Nat) (v : Value), (rcells l ps)[i * 5 + k]? = some v → k < 5 → w.cell? ⟨c, 0 + i * 5 + k, none⟩ = some v := fun k v hv hk => by
    rw [Nat.zero_add]
    refine cell_of h3 _ _ ?_
    rw [List.getElem?_toArray, List.getElem?_append_left (by rw [hlen]; omega)]
    exact hv
  obtain ⟨o1, o2, o3⟩ := hok r (List.mem_of_getElem? hr)
  exact ⟨_, _, copy_ints k2 k1 o2 o3, by have := hat 0 _ (by rw [Nat.add_zero]; exact g0) (by decide); rw [Nat.add_zero] at this; exact this, hat 1 _ g1 (by decide), hat 2 _ g2 (by decide), hat 3 _ g3 (by decide), hat 4 _ g4 (by decide)⟩
end Go.Proofs.Ytfeljngmidhajaa

namespace Go.Proofs.Ytfeljngmidhajaa
open Go.RowKit Go.Mine

def GcRel (rows : List Rw) (w : World) (c : Nat) (cb cr : Array Value) (g : Nat) (v i : Value) (wr : World) : Prop :=
  ∃ (j : Nat) (ps : List Nat) (cur : Array Value), j + g = rows.length ∧ i = .int .i64 j ∧ v = .slice (some ⟨c, 0, none⟩) j (rows.length + 1) ∧ ps.length = j ∧ wr.heap[c]? = some (.cells cur 61 (0, 0)) ∧ cur.size = (rows.length + 1) * 5 ∧
    cur.toList.take (j * 5) = rcells (rows.take j) ps ∧ (∀ (i : Nat) (r : Rw) (p : Nat), (rows.take j)[i]? = some r → ps[i]? = some p → w.heap.size ≤ p ∧ wr.heap[p]? = some (.cells (ncells r.par ++ [Value.int .i64 (-77)]).toArray 3 (0, 0))) ∧
    wr.heap[w.heap.size]? = some (.cells cb 40 (0, 0)) ∧ wr.heap[w.heap.size + 1]? = some (.cells cr 40 (0, 0)) ∧ Turned (fun _ => False) w wr

theorem made_rows (n : Nat) (hn : n * 64 ≤ 140737488355328) (W : World) :
    (Instr.makeSlice 38 (.int .i64 0) (.int .i64 n)).run Try.prog W = .ok (.slice (some ⟨W.heap.size, 0, none⟩) 0 n) (W.alloc (.cells (madeCells (Value.agg #[.slice none 0 0, .int .i64 0, .int .i64 0, .int .i64 0, .string ⟨#[]⟩]).cells (n * 5)) 61)) := by
  obtain ⟨i, hi, hz0, hz1, hz2⟩ := info_parts info61
  have := run_make (P := Try.prog) W 38 61 i _ Try.underlying38 hi hz0 .i64 .i64 0 (n : Int) (by omega) (by omega) (by rw [hz2]; omega) (by omega)
  rw [hz1] at this
  simp only [Int.toNat_natCast] at this
  exact this
theorem made_ints (n : Nat) (hn : n * 8 ≤ 140737488355328) (W : World) :
    (Instr.makeSlice 57 (.int .i64 0) (.int .i64 n)).run Try.prog W = .ok (.slice (some ⟨W.heap.size, 0, none⟩) 0 n) (W.alloc (.cells (madeCells #[.int .i64 0] (n * 1)) 3)) := by
  obtain ⟨i, hi, hz0, hz1, hz2⟩ := info_parts info3i
  have := run_make (P := Try.prog) W 57 3 i _ Try.underlying57 hi hz0 .i64 .i64 0 (n : Int) (by omega) (by omega) (by rw [hz2]; omega) (by omega)
  rw [hz1] at this
  simp only [Int.toNat_natCast] at this
  exact this
theorem ints_src {w : World} {S : Nat → Prop} {a : Option Addr} {cap : Nat} {l : List Int} (h : Ints w S a cap l) : Src Try.prog 1 57 (.slice a l.length cap) l.length (ncells l) w := by
  have one : ∀ u ∈ ncells l, u.oneCell' = true := fun u hu => by
    simp only [ncells, List.mem_map] at hu
    obtain ⟨x, -, rfl⟩ := hu
    rfl
  cases hl : l with
  | nil =>
    cases a with
    | none => exact Src.ofNil _ Try.underlying57 cap
    | some ad => exact Src.ofSlice _ Try.underlying57 ad 0 cap [] rfl (fun j u hj => by simp at hj) (by simp)
  | cons x r =>
    obtain ⟨g, off, rfl, -, -, hc⟩ := h.2.2.2 (by rw [hl]; simp)
    rw [← hl]
    refine Src.ofSlice _ Try.underlying57 ⟨g, off, none⟩ l.length cap _ (by rw [ncells_length]; omega) (fun j u hj => ?_) one
    rw [Addr.add_lit]
    simp only [ncells, List.getElem?_map, Option.map_eq_some_iff] at hj
    obtain ⟨x, hx, rfl⟩ := hj
    exact hc j x hx

theorem src_row (w : World) (v : Value) (rt rg rs : Int) (rb : ByteArray) (hv : v.oneCell' = true) : Src Try.prog 5 38 (.slice (some ⟨w.heap.size, 0, none⟩) 1 1) 1 [v, .int .i64 rt, .int .i64 rg, .int .i64 rs, .string rb] (w.alloc (.cells #[v, .int .i64 rt, .int .i64 rg, .int .i64 rs, .string rb] 61)) := by
  refine Src.ofSlice _ Try.underlying38 ⟨w.heap.size, 0, none⟩ 1 1 _ rfl (fun k u hk => ?_) (fun u hu => ?_)
  · rw [Addr.add_lit, Nat.zero_add]
    exact cell_of (heap_alloc_last w _) k u (by simpa using hk)
  · simp only [List.mem_cons, List.not_mem_nil, or_false] at hu
    rcases hu with rfl | rfl | rfl | rfl | rfl
    · exact hv
    all_goals rfl

set_option maxRecDepth 100000 in
set_option maxHeartbeats 4000000 in
theorem gcopied_any (S : Nat → Prop) (a : Option Addr) (cap : Nat) (g : Gr) (w : World) (h : RwIs w S a cap g.rows) (hL : g.rows.length ≤ 2199023255551) (hP : ∀ r ∈ g.rows, r.par.length ≤ 17592186044415) :
    Calls Try.prog 23 #[grv a cap g] w fun e w' => ∃ c, e = .returned (grv (some ⟨c, 0, none⟩) (g.rows.length + 1) g) ∧ CopyIs w' (fun b => w.heap.size ≤ b) c g.rows ∧ Turned (fun _ => False) w w' := by
  obtain ⟨L, hLL⟩ : ∃ L, L = g.rows.length := ⟨_, rfl⟩
  have HL : Hid (L = g.rows.length) := hLL
  have HI : Hid (RwIs w S a cap g.rows) := h
  have HP : Hid (∀ r ∈ g.rows, r.par.length ≤ 17592186044415) := hP
  unfold grv
  rw [← hLL]
  have hLb : L ≤ 2199023255551 := by rw [hLL]; exact hL
  have hmk : ∀ W, (Instr.makeSlice 38 (.int .i64 0) (.int .i64 ((L : Int) + 1))).run Try.prog W = .ok (.slice (some ⟨W.heap.size, 0, none⟩) 0 (L + 1)) (W.alloc (.cells (madeCells (Value.agg #[.slice none 0 0, .int .i64 0, .int .i64 0, .int .i64 0, .string ⟨#[]⟩]).cells ((L + 1) * 5)) 61)) := fun W => made_rows (L + 1) (by omega) W
  obtain ⟨Z, hZ⟩ : ∃ Z, Z = madeCells (Value.agg #[.slice none 0 0, .int .i64 0, .int .i64 0, .int .i64 0, .string ⟨#[]⟩]).cells ((L + 1) * 5) := ⟨_, rfl⟩
  have ZS : Hid (Z.size = (L + 1) * 5) := by
    have q : Z.size = (L + 1) * 5 := by rw [hZ, size_madeCells]
    exact q
  rw [← hZ] at hmk
  generalize g.rows = rows at *
  generalize g.base = base at *
  generalize g.h = gh at *
  generalize g.p = gp at *
  generalize g.m = gm at *
  generalize g.seed = seed at *
  clear hZ h hL hP hLL
  go_enter Try.func23, Try.ntmps23
  go_wp2
  have HS : Hid (GcRel rows w (w.heap.size + 1 + 1) #[.int .i64 base, .int .i64 gh, .int .i64 gp, .int .i64 gm, .int .u32 (seed : Nat), .slice a L cap] #[.int .i64 0, .int .i64 0, .int .i64 0, .int .i64 0, .int .u32 0, .slice none 0 0] L (.slice (some ⟨(w.heap.size + 1 + 1), 0, none⟩) 0 (L + 1)) (.int .i64 0) (((w.alloc (.cells #[.int .i64 base, .int .i64 gh, .int .i64 gp, .int .i64 gm, .int .u32 (seed : Nat), .slice a L cap] 40)).alloc (.cells #[.int .i64 0, .int .i64 0, .int .i64 0, .int .i64 0, .int .u32 0, .slice none 0 0] 40)).alloc (.cells Z 61))) := by
    refine ⟨0, [], Z, by rw [HL.out, Nat.zero_add], rfl, by rw [HL.out], rfl, ?_, by rw [ZS.out, HL.out], by simp [rcells], fun i r p hi => by simp at hi, ?_, ?_, (((Turned.refl _ _).new _).new _).new _⟩
    · have := heap_alloc_last ((w.alloc (.cells #[.int .i64 base, .int .i64 gh, .int .i64 gp, .int .i64 gm, .int .u32 (seed : Nat), .slice a L cap] 40)).alloc (.cells #[.int .i64 0, .int .i64 0, .int .i64 0, .int .i64 0, .int .u32 0, .slice none 0 0] 40)) (.cells Z 61)
      simpa using this
    · exact Go.Mine.heap_alloc_old (Go.Mine.heap_alloc_old (heap_alloc_last w _))
    · refine Go.Mine.heap_alloc_old ?_
      have := heap_alloc_last (w.alloc (.cells #[.int .i64 base, .int .i64 gh, .int .i64 gp, .int .i64 gm, .int .u32 (seed : Nat), .slice a L cap] 40)) (.cells #[.int .i64 0, .int .i64 0, .int .i64 0, .int .i64 0, .int .u32 0, .slice none 0 0] 40)
      simpa using this
  go_loopg [3, 14] L (fun g v i wr => GcRel rows w (w.heap.size + 1 + 1) #[.int .i64 base, .int .i64 gh, .int .i64 gp, .int .i64 gm, .int .u32 (seed : Nat), .slice a L cap] #[.int .i64 0, .int .i64 0, .int .i64 0, .int .i64 0, .int .u32 0, .slice none 0 0] g v i wr)
  case atStart => exact HS.out
  case round =>
    obtain ⟨j, ps, cur, hjg, rfl, rfl, hps, hcb, hcs, htk, hpb, hbox, hres, htr⟩ := hrel
    have G : Hid (j + gk = rows.length) := hjg
    have T : Hid (Turned (fun _ => False) w wr) := htr
    have BK : Hid (wr.heap[(w.heap.size + 1 + 1)]? = some (.cells cur 61 (0, 0)) ∧ cur.size = (rows.length + 1) * 5 ∧ cur.toList.take (j * 5) = rcells (rows.take j) ps ∧ ps.length = j) := ⟨hcb, hcs, htk, hps⟩
    have PB : Hid (∀ (i : Nat) (r : Rw) (p : Nat), (rows.take j)[i]? = some r → ps[i]? = some p → w.heap.size ≤ p ∧ wr.heap[p]? = some (.cells (ncells r.par ++ [Value.int .i64 (-77)]).toArray 3 (0, 0))) := hpb
    have BX : Hid (wr.heap[w.heap.size]? = some (.cells #[.int .i64 base, .int .i64 gh, .int .i64 gp, .int .i64 gm, .int .u32 (seed : Nat), .slice a L cap] 40 (0, 0)) ∧ wr.heap[w.heap.size + 1]? = some (.cells #[.int .i64 0, .int .i64 0, .int .i64 0, .int .i64 0, .int .u32 0, .slice none 0 0] 40 (0, 0))) := ⟨hbox, hres⟩
    have hcl := lt_of_block hcb
    clear hjg hps hcb hcs htk hpb hbox hres htr HS
    by_cases hlt : j < L
    · obtain ⟨r, hr⟩ : ∃ r, rows[j]? = some r := ⟨_, List.getElem?_eq_getElem (by rw [← HL.out]; exact hlt)⟩
      have hpl := HP.out r (List.mem_of_getElem? hr)
      obtain ⟨b, off, rfl, hSb, hbw, ra, rcap, hints, c0, c1, c2, c3, c4⟩ := rows_at (HI.out.turned T.out fun _ _ q => q) j r hr
      have DR : Hid (rows[j]? = some r) := hr
      obtain ⟨n, hn⟩ : ∃ n, n = r.par.length := ⟨_, rfl⟩
      have HN : Hid (n = r.par.length) := hn
      have hnb : n ≤ 17592186044415 := by rw [hn]; exact hpl
      rw [← hn] at c0
      generalize hrt : r.tree = rt at *
      generalize hrg : r.gen = rg at *
      generalize hrs : r.state = rs at *
      generalize hrb : r.bits = rb at *
      have RV : Hid (r.tree = rt ∧ r.gen = rg ∧ r.state = rs ∧ r.bits = rb) := ⟨hrt, hrg, hrs, hrb⟩
      obtain ⟨Y, hY⟩ : ∃ Y, Y = madeCells #[Value.int .i64 0] ((n + 1) * 1) := ⟨_, rfl⟩
      have YS : Hid (Y.size = n + 1) := by
        have q : Y.size = n + 1 := by rw [hY, size_madeCells]; omega
        exact q
      have hmi : ∀ W, (Instr.makeSlice 57 (.int .i64 0) (.int .i64 ((n : Int) + 1))).run Try.prog W = .ok (.slice (some ⟨W.heap.size, 0, none⟩) 0 (n + 1)) (W.alloc (.cells Y 3)) := fun W => by
        rw [hY]; exact made_ints (n + 1) (by omega) W
      have hwn : IntKind.i64.wrap ((n : Int) + 1) = (n : Int) + 1 := Go.IntWalk.i64_in _ (by omega)
      have BU : Hid ((((wr.alloc (.cells #[.slice ra n rcap, .int .i64 rt, .int .i64 rg, .int .i64 rs, .string rb] 61)).alloc (.cells Y 3)).drew).heap[wr.heap.size + 1]? = some (.cells Y 3 (0, 0)) ∧ (((wr.alloc (.cells #[.slice ra n rcap, .int .i64 rt, .int .i64 rg, .int .i64 rs, .string rb] 61)).alloc (.cells Y 3)).drew).heap[wr.heap.size]? = some (.cells #[.slice ra n rcap, .int .i64 rt, .int .i64 rg, .int .i64 rs, .string rb] 61 (0, 0)) ∧ Turned (fun _ => False) wr (((wr.alloc (.cells #[.slice ra n rcap, .int .i64 rt, .int .i64 rg, .int .i64 rs, .string rb] 61)).alloc (.cells Y 3)).drew)) := by
        have q : (((wr.alloc (.cells #[.slice ra n rcap, .int .i64 rt, .int .i64 rg, .int .i64 rs, .string rb] 61)).alloc (.cells Y 3)).drew).heap[wr.heap.size + 1]? = some (.cells Y 3 (0, 0)) := by
          have := heap_alloc_last ((wr.alloc (.cells #[.slice ra n rcap, .int .i64 rt, .int .i64 rg, .int .i64 rs, .string rb] 61))) (.cells Y 3)
          simpa [heap_drew] using this
        exact ⟨q, Go.Mine.heap_alloc_old (heap_alloc_last wr _), (((Turned.refl _ _).new _).new _).draw⟩
      have SRC : Hid (Src Try.prog 1 57 (.slice ra n rcap) n (ncells r.par) (((wr.alloc (.cells #[.slice ra n rcap, .int .i64 rt, .int .i64 rg, .int .i64 rs, .string rb] 61)).alloc (.cells Y 3)).drew)) := by
        have q := ints_src (hints.turned BU.out.2.2 fun _ _ q => q)
        rw [← hn] at q
        exact q
      have FIT : Hid (0 + (n + 1) * 1 ≤ Y.size) := by
        have q : 0 + (n + 1) * 1 ≤ Y.size := by rw [YS.out]; omega
        exact q
      clear hr hpl hints hn hrt hrg hrs hrb hY
      go_wp2
      go_region_law ((refine step_append_fits (by rfl) _ _ 57 57 (by rfl) (wr.heap.size + 1) 0 (n + 1) Y BU.out.1 Try.underlying57 info3i (by rfl) (.slice ra n rcap) (by rfl) SRC.out (by omega) FIT.out ?_; intro w1 hb1 ht1 hz1; rw [Nat.zero_add n]; have A1 : Hid (w1.heap[wr.heap.size + 1]? = some (.cells (splice Y.toList (0 + 0 * 1) (ncells r.par)).toArray 3 (0, 0)) ∧ Turned (· = wr.heap.size + 1) (((wr.alloc (.cells #[.slice ra n rcap, .int .i64 rt, .int .i64 rg, .int .i64 rs, .string rb] 61)).alloc (.cells Y 3)).drew) w1 ∧ w1.heap.size = wr.heap.size + 2 ∧ w1.heap[wr.heap.size]? = some (.cells #[.slice ra n rcap, .int .i64 rt, .int .i64 rg, .int .i64 rs, .string rb] 61 (0, 0))) := ⟨hb1, ht1, (by rw [hz1]; simp [heap_drew]), (ht1.block _ (by simp [heap_drew]; omega) (by omega)).trans BU.out.2.1⟩; have f1 := free_of A1.out.2.2.2 0; have d1 := cell_of A1.out.2.2.2 0 _ rfl; have d1l := lt_of_block A1.out.2.2.2; clear hb1 ht1 hz1))
      all_goals
        have A2 : Hid ((w1.setCell ⟨wr.heap.size, 0, none⟩ (.slice (some ⟨wr.heap.size + 1, 0, none⟩) n (n + 1))).heap[wr.heap.size + 1]? = some (.cells (splice Y.toList (0 + 0 * 1) (ncells r.par)).toArray 3 (0, 0)) ∧ (w1.setCell ⟨wr.heap.size, 0, none⟩ (.slice (some ⟨wr.heap.size + 1, 0, none⟩) n (n + 1))).heap[wr.heap.size]? = some (.cells #[.slice (some ⟨wr.heap.size + 1, 0, none⟩) n (n + 1), .int .i64 rt, .int .i64 rg, .int .i64 rs, .string rb] 61 (0, 0)) ∧ Turned (fun b => b = wr.heap.size ∨ b = wr.heap.size + 1) (((wr.alloc (.cells #[.slice ra n rcap, .int .i64 rt, .int .i64 rg, .int .i64 rs, .string rb] 61)).alloc (.cells Y 3)).drew) (w1.setCell ⟨wr.heap.size, 0, none⟩ (.slice (some ⟨wr.heap.size + 1, 0, none⟩) n (n + 1))) ∧ (w1.setCell ⟨wr.heap.size, 0, none⟩ (.slice (some ⟨wr.heap.size + 1, 0, none⟩) n (n + 1))).heap.size = wr.heap.size + 2) :=
          ⟨(heap_setCell_ne _ (by simp)).trans A1.out.1, Go.Mine.heap_setCell_same A1.out.2.2.2 _, (A1.out.2.1.mono fun b _ q => .inr q).set (.inl rfl) _, (setCell_size _ _ _).trans A1.out.2.2.1⟩
        generalize hw2 : (w1.setCell ⟨wr.heap.size, 0, none⟩ (.slice (some ⟨wr.heap.size + 1, 0, none⟩) n (n + 1))) = w2 at *
        clear hw2 f1 d1 d1l
        have d2 := cell_of A2.out.2.1 0 _ rfl
        have d2l := lt_of_block A2.out.2.1
        have ROOM : Hid (0 + (n + 1) * 1 ≤ (splice Y.toList (0 + 0 * 1) (ncells r.par)).toArray.size) := by
          have q : 0 + (n + 1) * 1 ≤ (splice Y.toList (0 + 0 * 1) (ncells r.par)).toArray.size := by
            rw [List.size_toArray, splice_length (by rw [ncells_length, ← HN.out, Array.length_toList, YS.out]; omega), Array.length_toList, YS.out]; omega
          exact q
        go_wp2_with (first
          | (at_builtin; refine wpList_append_room rfl (.tmp 28) (.tmp 29) 57 57 rfl (wr.heap.size + 1) 0 (n + 1) (splice Y.toList (0 + 0 * 1) (ncells r.par)).toArray (Go.Mine.heap_alloc_old A2.out.1) Try.underlying57 info3i rfl (.slice (some ⟨w2.heap.size, 0, none⟩) 1 1) rfl (src_one Try.underlying57 (.int .i64 (-77)) rfl w2) (by omega) ROOM.out ?_; intro w3 hb3 ht3 hz3; have A3 : Hid (w3.heap[wr.heap.size + 1]? = some (.cells (splice (splice Y.toList (0 + 0 * 1) (ncells r.par)).toArray.toList (0 + n * 1) [Value.int .i64 (-77)]).toArray 3 (0, 0)) ∧ Turned (· = wr.heap.size + 1) (w2.alloc (.cells #[.int .i64 (-77)] 3)) w3 ∧ w3.heap.size = wr.heap.size + 3 ∧ w3.heap[wr.heap.size]? = some (.cells #[.slice (some ⟨wr.heap.size + 1, 0, none⟩) n (n + 1), .int .i64 rt, .int .i64 rg, .int .i64 rs, .string rb] 61 (0, 0))) := ⟨hb3, ht3, (by rw [hz3]; simp [A2.out.2.2.2]), (ht3.block _ (by simp; omega) (by omega)).trans (Go.Mine.heap_alloc_old A2.out.2.1)⟩; have g0 := cell_of A3.out.2.2.2 0 _ rfl; have g1 := cell_of A3.out.2.2.2 1 _ rfl; have g2 := cell_of A3.out.2.2.2 2 _ rfl; have g3 := cell_of A3.out.2.2.2 3 _ rfl; have g4 := cell_of A3.out.2.2.2 4 _ rfl; have g5 := lt_of_block A3.out.2.2.2; have C3 : Hid ((w3.alloc (.cells #[.slice (some ⟨wr.heap.size + 1, 0, none⟩) n (n + 1), .int .i64 rt, .int .i64 rg, .int .i64 rs, .string rb] 61)).heap[(w.heap.size + 1 + 1)]? = some (.cells cur 61 (0, 0)) ∧ Turned (fun b => b = wr.heap.size ∨ b = wr.heap.size + 1) (((wr.alloc (.cells #[.slice ra n rcap, .int .i64 rt, .int .i64 rg, .int .i64 rs, .string rb] 61)).alloc (.cells Y 3)).drew) w3) := ⟨Go.Mine.heap_alloc_old ((ht3.block _ (by simp [A2.out.2.2.2]; omega) (by omega)).trans (Go.Mine.heap_alloc_old ((A2.out.2.2.1.block _ (by simp [heap_drew]; omega) (by omega)).trans (Go.Mine.heap_alloc_old (Go.Mine.heap_alloc_old BK.out.1))))), (A2.out.2.2.1.new _).trans (ht3.mono fun b _ q => .inr q) fun _ _ q => q⟩; clear hb3 ht3 hz3)
          | (at_builtin; refine wpList_append_room rfl (.tmp 31) (.tmp 33) 38 38 rfl (w.heap.size + 1 + 1) 0 (rows.length + 1) cur C3.out.1 Try.underlying38 info61 rfl (.slice (some ⟨w3.heap.size, 0, none⟩) 1 1) rfl (src_row w3 (.slice (some ⟨wr.heap.size + 1, 0, none⟩) n (n + 1)) rt rg rs rb rfl) (by have := G.out; have := HL.out; omega) (by have := BK.out.2.1; omega) ?_; intro w4 hb4 ht4 hz4; have A4 : Hid (w4.heap[(w.heap.size + 1 + 1)]? = some (.cells (splice cur.toList (0 + j * 5) [.slice (some ⟨wr.heap.size + 1, 0, none⟩) n (n + 1), .int .i64 rt, .int .i64 rg, .int .i64 rs, .string rb]).toArray 61 (0, 0)) ∧ Turned (· = (w.heap.size + 1 + 1)) (w3.alloc (.cells #[.slice (some ⟨wr.heap.size + 1, 0, none⟩) n (n + 1), .int .i64 rt, .int .i64 rg, .int .i64 rs, .string rb] 61)) w4) := ⟨hb4, ht4⟩; clear hb4 ht4 hz4))
        go_roundg (gk - 1)
        case measure => have := G.out; have := HL.out; omega
        case rel =>
          have h1 := HN.out
          have hjl := G.out
          have hLl := HL.out
          have hcsz := BK.out.2.1
          have hz3 := A3.out.2.2.1
          have T34 : Turned (fun b => b = wr.heap.size ∨ b = wr.heap.size + 1 ∨ b = (w.heap.size + 1 + 1)) (((wr.alloc (.cells #[.slice ra n rcap, .int .i64 rt, .int .i64 rg, .int .i64 rs, .string rb] 61)).alloc (.cells Y 3)).drew) w4 := ((C3.out.2.mono fun b _ q => q.elim .inl fun q => .inr (.inl q)).new _).trans (A4.out.2.mono fun b _ q => .inr (.inr q)) fun _ _ q => q
          have old : ∀ b x, wr.heap[b]? = some x → b ≠ (w.heap.size + 1 + 1) → w4.heap[b]? = some x := fun b x hx hb => by
            have hlb := lt_of_block hx
            rw [T34.block b (by simp [heap_drew]; omega) (by omega)]
            exact Go.Mine.heap_alloc_old (Go.Mine.heap_alloc_old hx)
          have hspl : ((splice cur.toList (0 + j * 5) [.slice (some ⟨wr.heap.size + 1, 0, none⟩) n (n + 1), .int .i64 rt, .int .i64 rg, .int .i64 rs, .string rb]).toArray).toList.take ((j + 1) * 5) = rcells (rows.take (j + 1)) (ps ++ [wr.heap.size + 1]) := by
            rw [List.take_add_one, DR.out]
            have e := rcells_snoc (rows.take j) ps r (wr.heap.size + 1) (by rw [BK.out.2.2.2, List.length_take]; omega)
            simp only [Option.toList_some]
            rw [e, ← BK.out.2.2.1, ← h1, RV.out.1, RV.out.2.1, RV.out.2.2.1, RV.out.2.2.2]
            simp only [splice, Nat.zero_add]
            rw [show (j + 1) * 5 = (cur.toList.take (j * 5) ++ ([.slice (some ⟨wr.heap.size + 1, 0, none⟩) n (n + 1), .int .i64 rt, .int .i64 rg, .int .i64 rs, .string rb] : List Value)).length by simp [hcsz]; omega]
            exact List.take_left
          refine ⟨j + 1, ps ++ [wr.heap.size + 1], _, by omega, by simp <;> omega, rfl, by simp [BK.out.2.2.2], A4.out.1, ?_, hspl, fun i x q hx hq => ?_, old _ _ BX.out.1 (by omega), old _ _ BX.out.2 (by omega), ?_⟩
          · rw [List.size_toArray, splice_length (by simp [hcsz]; omega), Array.length_toList, hcsz]
          · have hil := (List.getElem?_eq_some_iff.1 hq).1
            rw [List.length_append, BK.out.2.2.2, List.length_singleton] at hil
            by_cases hij : i < j
            · rw [List.getElem?_append_left (by rw [BK.out.2.2.2]; exact hij)] at hq
              obtain ⟨z1, z2⟩ := PB.out i x q (by rw [List.getElem?_take, if_pos hij]; rw [List.getElem?_take, if_pos (by omega)] at hx; exact hx) hq
              refine ⟨z1, old _ _ z2 fun z => ?_⟩
              rw [z, BK.out.1] at z2
              simp at z2
            · obtain rfl : i = j := by omega
              rw [List.getElem?_append_right (by rw [BK.out.2.2.2]; exact Nat.le_refl _), BK.out.2.2.2, Nat.sub_self] at hq
              obtain rfl : wr.heap.size + 1 = q := by simpa using hq
              obtain rfl : r = x := by
                rw [List.getElem?_take, if_pos (by omega), DR.out] at hx
                exact Option.some.inj hx
              refine ⟨by have := T.out.size; omega, ?_⟩
              rw [A4.out.2.block _ (by simp; omega) (by omega)]
              have := Go.Mine.heap_alloc_old (o := .cells #[.slice (some ⟨wr.heap.size + 1, 0, none⟩) n (n + 1), .int .i64 rt, .int .i64 rg, .int .i64 rs, .string rb] 61) A3.out.1
              rw [this]
              have e := splice_room Y.toList (ncells r.par) [Value.int .i64 (-77)] (by rw [Array.length_toList, YS.out, ncells_length, ← h1]; simp)
              rw [ncells_length, ← h1] at e
              simp only [Nat.zero_add, Nat.mul_one] at e ⊢
              rw [e]
          · exact T.out.comp (BU.out.2.2.comp T34 (T := fun b => b = wr.heap.size ∨ b = wr.heap.size + 1 ∨ b = (w.heap.size + 1 + 1)) fun b _ q => q.elim (fun q => q.elim) id) fun b hb q => q.elim id fun q => by have := T.out.size; omega
    · have hj : j = L := by have := G.out; have := HL.out; omega
      have hkl : cur.size = (L + 1) * 5 := by rw [HL.out]; exact BK.out.2.1
      have hrl : rows.length + 1 = L + 1 := by rw [HL.out]
      rw [hrl]
      subst hj
      have CA : Hid ((wr.alloc (.cells #[.slice none 0 0, .int .i64 (-78), .int .i64 0, .int .i64 0, .string ⟨#[]⟩] 61)).heap[(w.heap.size + 1 + 1)]? = some (.cells cur 61 (0, 0))) := Go.Mine.heap_alloc_old BK.out.1
      clear hlt hrl
      go_wp2_with (at_builtin; (refine wpList_append_room rfl (.tmp 36) (.tmp 38) 38 38 rfl (w.heap.size + 1 + 1) 0 (j + 1) cur CA.out Try.underlying38 info61 rfl (.slice (some ⟨wr.heap.size, 0, none⟩) 1 1) rfl (src_row wr (.slice none 0 0) (-78) 0 0 ⟨#[]⟩ rfl) (by omega) (by omega) ?_; intro w4 hb4 ht4 hz4; have A4 : Hid (w4.heap[(w.heap.size + 1 + 1)]? = some (.cells (splice cur.toList (0 + j * 5) spareR).toArray 61 (0, 0)) ∧ Turned (· = (w.heap.size + 1 + 1)) (wr.alloc (.cells #[.slice none 0 0, .int .i64 (-78), .int .i64 0, .int .i64 0, .string ⟨#[]⟩] 61)) w4 ∧ w4.heap[w.heap.size]? = some (.cells #[.int .i64 base, .int .i64 gh, .int .i64 gp, .int .i64 gm, .int .u32 (seed : Nat), .slice a j cap] 40 (0, 0)) ∧ w4.heap[w.heap.size + 1]? = some (.cells #[.int .i64 0, .int .i64 0, .int .i64 0, .int .i64 0, .int .u32 0, .slice none 0 0] 40 (0, 0))) := ⟨hb4, ht4, (ht4.block _ (by have := lt_of_block BX.out.1; simp; omega) (by omega)).trans (Go.Mine.heap_alloc_old BX.out.1), (ht4.block _ (by have := lt_of_block BX.out.2; simp; omega) (by omega)).trans (Go.Mine.heap_alloc_old BX.out.2)⟩; have e0 := cell_of A4.out.2.2.1 0 _ rfl; have e1 := cell_of A4.out.2.2.1 1 _ rfl; have e2 := cell_of A4.out.2.2.1 2 _ rfl; have e3 := cell_of A4.out.2.2.1 3 _ rfl; have e4 := cell_of A4.out.2.2.1 4 _ rfl; have e5 := cell_of A4.out.2.2.1 5 _ rfl; have f5 := free_of A4.out.2.2.1 5; have el := lt_of_block A4.out.2.2.1; have q0 := cell_of A4.out.2.2.2 0 _ rfl; have q1 := cell_of A4.out.2.2.2 1 _ rfl; have q2 := cell_of A4.out.2.2.2 2 _ rfl; have q3 := cell_of A4.out.2.2.2 3 _ rfl; have q4 := cell_of A4.out.2.2.2 4 _ rfl; have q5 := cell_of A4.out.2.2.2 5 _ rfl; have g0 := free_of A4.out.2.2.2 0; have g1 := free_of A4.out.2.2.2 1; have g2 := free_of A4.out.2.2.2 2; have g3 := free_of A4.out.2.2.2 3; have g4 := free_of A4.out.2.2.2 4; have g5 := free_of A4.out.2.2.2 5; have ql := lt_of_block A4.out.2.2.2; clear hb4 ht4 hz4))
      have TE : Turned (fun _ => False) w (((((((w4.setCell ⟨w.heap.size, 5, none⟩ ((.slice (some ⟨(w.heap.size + 1 + 1), 0, none⟩) j (j + 1)))).setCell ⟨w.heap.size + 1, 0, none⟩ (.int .i64 base)).setCell ⟨w.heap.size + 1, 1, none⟩ (.int .i64 gh)).setCell ⟨w.heap.size + 1, 2, none⟩ (.int .i64 gp)).setCell ⟨w.heap.size + 1, 3, none⟩ (.int .i64 gm)).setCell ⟨w.heap.size + 1, 4, none⟩ (.int .u32 (seed : Nat))).setCell ⟨w.heap.size + 1, 5, none⟩ ((.slice (some ⟨(w.heap.size + 1 + 1), 0, none⟩) j (j + 1)))) := by
        have k1 := ((T.out.new (.cells #[.slice none 0 0, .int .i64 (-78), .int .i64 0, .int .i64 0, .string ⟨#[]⟩] 61)).comp A4.out.2.1 (T := fun b => w.heap.size ≤ b) fun b hb q => q.elim (fun q => q.elim) fun q => by omega)
        have k2 := ((((((k1.set (p := ⟨w.heap.size, 5, none⟩) (Nat.le_refl _) (.slice (some ⟨(w.heap.size + 1 + 1), 0, none⟩) j (j + 1))).set (p := ⟨w.heap.size + 1, 0, none⟩) (Nat.le_succ _) (.int .i64 base)).set (p := ⟨w.heap.size + 1, 1, none⟩) (Nat.le_succ _) (.int .i64 gh)).set (p := ⟨w.heap.size + 1, 2, none⟩) (Nat.le_succ _) (.int .i64 gp)).set (p := ⟨w.heap.size + 1, 3, none⟩) (Nat.le_succ _) (.int .i64 gm)).set (p := ⟨w.heap.size + 1, 4, none⟩) (Nat.le_succ _) (.int .u32 (seed : Nat))).set (p := ⟨w.heap.size + 1, 5, none⟩) (Nat.le_succ _) (.slice (some ⟨(w.heap.size + 1 + 1), 0, none⟩) j (j + 1))
        exact ⟨k2.os, k2.tape, k2.output, k2.size, fun b hb _ => k2.block b hb (by omega)⟩
      have hcu : cur.toList = rcells rows ps ++ cur.toList.drop (j * 5) := by
        have := BK.out.2.2.1
        rw [List.take_of_length_le (l := rows) (by rw [← HL.out]; exact Nat.le_refl _)] at this
        rw [← this, List.take_append_drop]
      have hsp : splice cur.toList (0 + j * 5) spareR = rcells rows ps ++ spareR := by
        have e := BK.out.2.2.1
        rw [List.take_of_length_le (l := rows) (by rw [← HL.out]; exact Nat.le_refl _)] at e
        unfold splice
        rw [Nat.zero_add, e, List.drop_of_length_le (by rw [Array.length_toList, hkl]; simp [spareR]; omega), List.append_nil]
      have CPY : CopyIs (((((((w4.setCell ⟨w.heap.size, 5, none⟩ ((.slice (some ⟨(w.heap.size + 1 + 1), 0, none⟩) j (j + 1)))).setCell ⟨w.heap.size + 1, 0, none⟩ (.int .i64 base)).setCell ⟨w.heap.size + 1, 1, none⟩ (.int .i64 gh)).setCell ⟨w.heap.size + 1, 2, none⟩ (.int .i64 gp)).setCell ⟨w.heap.size + 1, 3, none⟩ (.int .i64 gm)).setCell ⟨w.heap.size + 1, 4, none⟩ (.int .u32 (seed : Nat))).setCell ⟨w.heap.size + 1, 5, none⟩ ((.slice (some ⟨(w.heap.size + 1 + 1), 0, none⟩) j (j + 1)))) (fun b => w.heap.size ≤ b) (w.heap.size + 1 + 1) rows := by
        have ne : ∀ (b : Nat) (x : Obj), w4.heap[b]? = some x → b ≠ w.heap.size → b ≠ w.heap.size + 1 → (((((((w4.setCell ⟨w.heap.size, 5, none⟩ ((.slice (some ⟨(w.heap.size + 1 + 1), 0, none⟩) j (j + 1)))).setCell ⟨w.heap.size + 1, 0, none⟩ (.int .i64 base)).setCell ⟨w.heap.size + 1, 1, none⟩ (.int .i64 gh)).setCell ⟨w.heap.size + 1, 2, none⟩ (.int .i64 gp)).setCell ⟨w.heap.size + 1, 3, none⟩ (.int .i64 gm)).setCell ⟨w.heap.size + 1, 4, none⟩ (.int .u32 (seed : Nat))).setCell ⟨w.heap.size + 1, 5, none⟩ ((.slice (some ⟨(w.heap.size + 1 + 1), 0, none⟩) j (j + 1)))).heap[b]? = some x := fun b x hx h1 h2 => by
          rw [heap_setCell_ne _ h2, heap_setCell_ne _ h2, heap_setCell_ne _ h2, heap_setCell_ne _ h2, heap_setCell_ne _ h2, heap_setCell_ne _ h2, heap_setCell_ne _ h1]
          exact hx
        refine ⟨by omega, ps, by rw [BK.out.2.2.2, HL.out], ne _ _ (by rw [A4.out.1, hsp]) (by omega) (by omega), fun i r p hr hp => ?_⟩
        obtain ⟨z1, z2⟩ := PB.out i r p (by rw [List.take_of_length_le (by rw [← HL.out]; exact Nat.le_refl _)]; exact hr) hp
        refine ⟨z1, ne _ _ ((A4.out.2.1.block _ (by have := lt_of_block z2; simp; omega) fun z => ?_).trans (Go.Mine.heap_alloc_old z2)) (fun z => ?_) fun z => ?_⟩
        · rw [z, BK.out.1] at z2; simp at z2
        · rw [z, BX.out.1] at z2; simp at z2
        · rw [z, BX.out.2] at z2; simp at z2
      have p0 := A4.out.2.2.2
      exact bodyPost_ret (v := .agg #[.int .i64 base, .int .i64 gh, .int .i64 gp, .int .i64 gm, .int .u32 (seed : Nat), (.slice (some ⟨(w.heap.size + 1 + 1), 0, none⟩) j (j + 1))]) (by simp [results, Try.results23, go_sem, q0, q1, q2, q3, q4, q5]) rfl ⟨(w.heap.size + 1 + 1), rfl, CPY, TE⟩
end Go.Proofs.Ytfeljngmidhajaa

namespace Go.Proofs.Ytfeljngmidhajaa
open Go.RowKit Go.Mine

def smallR0 : Rw := ⟨[], 0, 1, 0, ⟨#[]⟩⟩
def smallR1 : Rw := ⟨[0], 1, 2, 1, ⟨#[5]⟩⟩
def smallG : Gr := ⟨0, 3, 10, 9, 5, [smallR0, smallR1]⟩
def smallCells (p : Nat) : Array Value := #[.slice none 0 0, .int .i64 0, .int .i64 1, .int .i64 0, .string ⟨#[]⟩, .slice (some ⟨p, 0, none⟩) 1 1, .int .i64 1, .int .i64 2, .int .i64 1, .string ⟨#[5]⟩]

/-- the example's rows stand in the block c, the one list in the block p -/
theorem small_rows {w : World} {S : Nat → Prop} {c p : Nat} (hc : w.heap[c]? = some (.cells (smallCells p) 61 (0, 0))) (hp : w.heap[p]? = some (.cells #[.int .i64 0] 3 (0, 0))) (hS : S c ∧ S p) : RwIs w S (some ⟨c, 0, none⟩) 2 smallG.rows := by
  refine ⟨Nat.le_refl _, by simp [maxLen], fun r hr => ?_, fun _ => ⟨c, 0, rfl, hS.1, lt_of_block hc, fun i r hr => ?_⟩⟩
  · simp only [smallG, List.mem_cons, List.not_mem_nil, or_false] at hr
    rcases hr with rfl | rfl <;> exact ⟨by unfold I64; decide, by unfold I64; decide, by unfold I64; decide, by decide⟩
  · rcases i with _ | _ | i
    · obtain rfl := Option.some.inj hr
      exact ⟨none, 0, ⟨Nat.le_refl _, by simp [maxLen], by simp [smallR0], fun q => by simp [smallR0] at q⟩, cell_of hc 0 _ rfl, cell_of hc 1 _ rfl, cell_of hc 2 _ rfl, cell_of hc 3 _ rfl, cell_of hc 4 _ rfl⟩
    · obtain rfl := Option.some.inj hr
      refine ⟨some ⟨p, 0, none⟩, 1, ⟨Nat.le_refl _, by simp [maxLen], by simp [smallR1, I64], fun _ => ⟨p, 0, rfl, hS.2, lt_of_block hp, fun k x hx => ?_⟩⟩, cell_of hc 5 _ rfl, cell_of hc 6 _ rfl, cell_of hc 7 _ rfl, cell_of hc 8 _ rfl, cell_of hc 9 _ rfl⟩
      rcases k with _ | k
      · obtain rfl := Option.some.inj hx
        exact cell_of hp 0 _ rfl
      · simp [smallR1] at hx
    · simp [smallG] at hr

set_option maxRecDepth 100000 in
set_option maxHeartbeats 1000000 in
theorem small_any (w : World) : Calls Try.prog 36 #[] w fun e w' => ∃ c p, e = .returned (grv (some ⟨c, 0, none⟩) 2 smallG) ∧ w.heap.size ≤ c ∧ w.heap.size ≤ p ∧ p ≠ c ∧ w'.heap[c]? = some (.cells (smallCells p) 61 (0, 0)) ∧ w'.heap[p]? = some (.cells #[.int .i64 0] 3 (0, 0)) ∧ Turned (fun _ => False) w w' := by
  go_enter Try.func36, Try.ntmps36
  go_wp2
  have h1 := heap_alloc_last ((w.alloc (.cells #[.int .i64 0, .int .i64 3, .int .i64 10, .int .i64 9, .int .u32 5, .slice (some ⟨w.heap.size + 1 + 1, 0, none⟩) 2 2] 40)).alloc (.cells #[.int .i64 0] 3)) (.cells (smallCells (w.heap.size + 1)) 61)
  have h2 := Go.Mine.heap_alloc_old (o := .cells (smallCells (w.heap.size + 1)) 61) (heap_alloc_last (w.alloc (.cells #[.int .i64 0, .int .i64 3, .int .i64 10, .int .i64 9, .int .u32 5, .slice (some ⟨w.heap.size + 1 + 1, 0, none⟩) 2 2] 40)) (.cells #[.int .i64 0] 3))
  simp only [World.size_alloc] at h1 h2
  exact bodyPost_ret (v := .agg #[.int .i64 0, .int .i64 3, .int .i64 10, .int .i64 9, .int .u32 5, .slice (some ⟨w.heap.size + 1 + 1, 0, none⟩) 2 2]) (by simp [results, Try.results36, go_sem]) rfl ⟨w.heap.size + 1 + 1, w.heap.size + 1, rfl, by omega, by omega, by omega, h1, h2, (((Turned.refl _ _).new _).new _).new _⟩

theorem small_chunks : chunksG smallG = [(1, ⟨#[0, 0, 0, 0, 0, 0, 0, 2, 3, 10, 0, 9, 0, 0, 0, 5]⟩), (2, ⟨#[0, 0, 0, 0, 255, 255, 255, 255, 255, 255, 255, 255, 0, 1, 0, 0, 0, 0, 1, 0, 0, 0, 0, 255, 255, 255, 255, 0, 2, 1]⟩), (3, ⟨#[]⟩), (4, ⟨#[0, 0, 0, 0, 0, 0, 0, 1]⟩), (5, ⟨#[5]⟩)] := by
  decide
theorem small_good : goodG smallG := by
  refine ⟨by unfold goodN smallG; decide, by unfold goodS smallG; decide, fun i r hr => ?_⟩
  rcases i with _ | _ | i
  · obtain rfl := Option.some.inj hr
    exact ⟨by decide, by decide, by decide, by decide, by decide, fun i p hp => by simp [smallR0] at hp, by decide⟩
  · obtain rfl := Option.some.inj hr
    refine ⟨by decide, by decide, by decide, by decide, by decide, fun i p hp => ?_, by decide⟩
    rcases i with _ | i
    · obtain rfl := Option.some.inj hp
      exact ⟨by decide, by decide, by simp⟩
    · simp [smallR1] at hp
  · simp [smallG] at hr
theorem small_told : ∃ s, encG smallG = .tuple #[.string s, .int .i64 0] ∧ buildV (chunksG smallG) = .tuple #[.string s, .int .i64 0] := by
  have h1 : (tellT smallG.rows).B.length = 1 := by decide
  have h2 : buildErr (chunksG smallG) = 0 := by rw [small_chunks]; decide
  have h3 : buildV (chunksG smallG) = .tuple #[.string (built (chunksG smallG)), .int .i64 0] := by unfold buildV; rw [if_pos h2]
  refine ⟨_, ?_, h3⟩
  unfold encG
  rw [if_pos (grErr_yes small_good), if_neg (by rw [h1]; decide), h3]

set_option maxRecDepth 100000 in
set_option maxHeartbeats 1000000 in
theorem tells_any (w : World) : Calls Try.prog 22 #[] w fun e w' => e = .returned (.bool true) ∧ Turned (fun _ => False) w w' := by
  obtain ⟨s, hs1, hs2⟩ := small_told
  have hsm := small_any w
  have HE : Hid (∀ W c p, W.heap[c]? = some (.cells (smallCells p) 61 (0, 0)) → W.heap[p]? = some (.cells #[.int .i64 0] 3 (0, 0)) → Calls Try.prog 24 #[grv (some ⟨c, 0, none⟩) 2 smallG] W fun e w' => e = .returned (.tuple #[.string s, .int .i64 0]) ∧ Turned (fun _ => False) W w') := fun W c p h1 h2 => by
    have := encode_any (fun _ => True) (some ⟨c, 0, none⟩) 2 smallG W (small_rows h1 h2 ⟨trivial, trivial⟩) (by unfold GrOk I64 smallG; decide)
    rw [hs1] at this
    exact this
  have HB : Hid (∀ W : World, Calls Try.prog 18 #[.slice (some ⟨W.heap.size, 0, none⟩) 5 5] (W.alloc (.cells #[.int .u32 1, .string ⟨#[0, 0, 0, 0, 0, 0, 0, 2, 3, 10, 0, 9, 0, 0, 0, 5]⟩, .int .u32 2, .string ⟨#[0, 0, 0, 0, 255, 255, 255, 255, 255, 255, 255, 255, 0, 1, 0, 0, 0, 0, 1, 0, 0, 0, 0, 255, 255, 255, 255, 0, 2, 1]⟩, .int .u32 3, .string ⟨#[]⟩, .int .u32 4, .string ⟨#[0, 0, 0, 0, 0, 0, 0, 1]⟩, .int .u32 5, .string ⟨#[5]⟩] 31)) fun e w' => e = .returned (.tuple #[.string s, .int .i64 0]) ∧ Turned (fun _ => False) (W.alloc (.cells #[.int .u32 1, .string ⟨#[0, 0, 0, 0, 0, 0, 0, 2, 3, 10, 0, 9, 0, 0, 0, 5]⟩, .int .u32 2, .string ⟨#[0, 0, 0, 0, 255, 255, 255, 255, 255, 255, 255, 255, 0, 1, 0, 0, 0, 0, 1, 0, 0, 0, 0, 255, 255, 255, 255, 0, 2, 1]⟩, .int .u32 3, .string ⟨#[]⟩, .int .u32 4, .string ⟨#[0, 0, 0, 0, 0, 0, 0, 1]⟩, .int .u32 5, .string ⟨#[5]⟩] 31)) w') := fun W => by
    have := rbuild_any (some ⟨W.heap.size, 0, none⟩) 5 _ _ (chIs_five W ⟨#[0, 0, 0, 0, 0, 0, 0, 2, 3, 10, 0, 9, 0, 0, 0, 5]⟩ ⟨#[0, 0, 0, 0, 255, 255, 255, 255, 255, 255, 255, 255, 0, 1, 0, 0, 0, 0, 1, 0, 0, 0, 0, 255, 255, 255, 255, 0, 2, 1]⟩ ⟨#[]⟩ ⟨#[0, 0, 0, 0, 0, 0, 0, 1]⟩ ⟨#[5]⟩ (by decide))
    rw [← small_chunks, hs2] at this
    exact this
  clear hs1 hs2
  go_enter Try.func22, Try.ntmps22
  go_wp2_with (first
    | (go_at_call 36; (with_reducible refine hsm.mono ?_); rintro e w1 ⟨c, p, rfl, -, -, -, hc, hp, ht1⟩; have T1 : Hid (Turned (fun _ => False) w w1) := ht1; have he := HE.out w1 c p hc hp; clear hc hp ht1)
    | (go_at_call 24; (with_reducible refine he.mono ?_); rintro e w2 ⟨rfl, ht2⟩; have T2 : Hid (Turned (fun _ => False) w w2) := T1.out.trans ht2 (fun _ _ q => q); have hb := HB.out w2; clear ht2)
    | (go_at_call 18; (with_reducible refine hb.mono ?_); rintro e w3 ⟨rfl, ht3⟩; have T3 : Hid (Turned (fun _ => False) w w3) := (T2.out.new _).trans ht3 (fun _ _ q => q); clear ht3))
  go_ret
  exact ⟨rfl, T3.out⟩
end Go.Proofs.Ytfeljngmidhajaa

namespace Go.Proofs.Ytfeljngmidhajaa
open Go.RowKit Go.Mine

theorem copy_rows {w : World} {S : Nat → Prop} {c : Nat} {a : Option Addr} {cap : Nat} {l : List Rw} {W : World} {T : Nat → Prop} (h : CopyIs w S c l) (h0 : RwIs W T a cap l) (hL : l.length ≤ 2199023255551) (hP : ∀ r ∈ l, r.par.length ≤ 17592186044415) : RwIs w S (some ⟨c, 0, none⟩) (l.length + 1) l := by
  refine h.rows (fun r hr => ⟨h0.2.2.1 r hr, ?_, by have := hP r hr; simp [maxLen]; omega⟩) (by simp [maxLen]; omega)
  obtain ⟨i, hi⟩ := List.getElem?_of_mem hr
  obtain ⟨g, off, -, -, -, a, cap, h1, -⟩ := rows_at h0 i r hi
  exact h1.2.2.1

set_option maxRecDepth 100000 in
set_option maxHeartbeats 4000000 in
theorem gsame_law (a b : Option Addr) (cap cap2 : Nat) (x y : Gr) (w : World) (hx : RwIs w (fun _ => True) a cap x.rows) (hy : RwIs w (fun _ => True) b cap2 y.rows) (hxL : x.rows.length ≤ 2199023255551) (hyL : y.rows.length ≤ 2199023255551)
    (hxP : ∀ r ∈ x.rows, r.par.length ≤ 17592186044415) (hyP : ∀ r ∈ y.rows, r.par.length ≤ 17592186044415) :
    Calls Try.prog 10 #[grv a cap x, grv b cap2 y] w fun e w' => e = .returned (.bool true) ∧ Turned (fun _ => False) w w' := by
  have f22 : ∀ W, Calls Try.prog 22 #[] W fun e w' => e = .returned (.bool true) ∧ Turned (fun _ => False) W w' := tells_any
  have F32 : Hid (∀ W, Turned (fun _ => False) w W → Calls Try.prog 32 #[grv a cap x, grv b cap2 y] W fun e w' => e = .returned (.bool (sameG x y)) ∧ Turned (fun _ => False) W w') := fun W q => gsame_any _ _ a b cap cap2 x y W (hx.turned q fun _ _ q => q) (hy.turned q fun _ _ q => q)
  have F33 : Hid (∀ W, Turned (fun _ => False) w W → Calls Try.prog 33 #[grv a cap x, grv b cap2 y] W fun e w' => e = .returned (.bool (sameG x y)) ∧ Turned (fun _ => False) W w') := fun W q => grsame_any _ _ a b cap cap2 x y W (hx.turned q fun _ _ q => q) (hy.turned q fun _ _ q => q)
  have FCX : Hid (∀ W, Turned (fun _ => False) w W → Calls Try.prog 23 #[grv a cap x] W fun e w' => ∃ c, e = .returned (grv (some ⟨c, 0, none⟩) (x.rows.length + 1) x) ∧ CopyIs w' (fun b => W.heap.size ≤ b) c x.rows ∧ Turned (fun _ => False) W w') := fun W q => gcopied_any _ a cap x W (hx.turned q fun _ _ q => q) hxL hxP
  have FCY : Hid (∀ W, Turned (fun _ => False) w W → Calls Try.prog 23 #[grv b cap2 y] W fun e w' => ∃ c, e = .returned (grv (some ⟨c, 0, none⟩) (y.rows.length + 1) y) ∧ CopyIs w' (fun b => W.heap.size ≤ b) c y.rows ∧ Turned (fun _ => False) W w') := fun W q => gcopied_any _ b cap2 y W (hy.turned q fun _ _ q => q) hyL hyP
  have FSX : Hid (∀ (W0 W : World) c, Turned (fun _ => False) w W → CopyIs W (fun b => W0.heap.size ≤ b) c x.rows → Calls Try.prog 32 #[grv a cap x, grv (some ⟨c, 0, none⟩) (x.rows.length + 1) x] W fun e w' => e = .returned (.bool true) ∧ Turned (fun _ => False) W w') := fun W0 W c q hc => by
    have := gsame_any _ _ a (some ⟨c, 0, none⟩) cap (x.rows.length + 1) x x W (hx.turned q fun _ _ q => q) (copy_rows hc hx hxL hxP)
    rw [(sameG_iff x x).2 rfl] at this
    exact this
  have FSY : Hid (∀ (W0 W : World) c, Turned (fun _ => False) w W → CopyIs W (fun b => W0.heap.size ≤ b) c y.rows → Calls Try.prog 32 #[grv b cap2 y, grv (some ⟨c, 0, none⟩) (y.rows.length + 1) y] W fun e w' => e = .returned (.bool true) ∧ Turned (fun _ => False) W w') := fun W0 W c q hc => by
    have := gsame_any _ _ b (some ⟨c, 0, none⟩) cap2 (y.rows.length + 1) y y W (hy.turned q fun _ _ q => q) (copy_rows hc hy hyL hyP)
    rw [(sameG_iff y y).2 rfl] at this
    exact this
  clear hx hy hxL hyL hxP hyP
  unfold grv at *
  generalize x.rows.length = LX at *
  generalize y.rows.length = LY at *
  generalize x.base = b1 at *
  generalize y.base = b2 at *
  generalize x.h = h1 at *
  generalize y.h = h2 at *
  generalize x.p = p1 at *
  generalize y.p = p2 at *
  generalize x.m = m1 at *
  generalize y.m = m2 at *
  generalize x.seed = s1 at *
  generalize y.seed = s2 at *
  generalize sameG x y = sb at *
  go_enter Try.func10, Try.ntmps10
  go_wp2
  have W2 : Hid (((w.alloc (.cells #[.int .i64 b1, .int .i64 h1, .int .i64 p1, .int .i64 m1, .int .u32 (s1 : Nat), .slice a LX cap] 40)).alloc (.cells #[.int .i64 b2, .int .i64 h2, .int .i64 p2, .int .i64 m2, .int .u32 (s2 : Nat), .slice b LY cap2] 40)).heap[w.heap.size]? = some (.cells #[.int .i64 b1, .int .i64 h1, .int .i64 p1, .int .i64 m1, .int .u32 (s1 : Nat), .slice a LX cap] 40 (0, 0)) ∧ ((w.alloc (.cells #[.int .i64 b1, .int .i64 h1, .int .i64 p1, .int .i64 m1, .int .u32 (s1 : Nat), .slice a LX cap] 40)).alloc (.cells #[.int .i64 b2, .int .i64 h2, .int .i64 p2, .int .i64 m2, .int .u32 (s2 : Nat), .slice b LY cap2] 40)).heap[w.heap.size + 1]? = some (.cells #[.int .i64 b2, .int .i64 h2, .int .i64 p2, .int .i64 m2, .int .u32 (s2 : Nat), .slice b LY cap2] 40 (0, 0)) ∧ Turned (fun _ => False) w ((w.alloc (.cells #[.int .i64 b1, .int .i64 h1, .int .i64 p1, .int .i64 m1, .int .u32 (s1 : Nat), .slice a LX cap] 40)).alloc (.cells #[.int .i64 b2, .int .i64 h2, .int .i64 p2, .int .i64 m2, .int .u32 (s2 : Nat), .slice b LY cap2] 40))) := by
    refine ⟨Go.Mine.heap_alloc_old (heap_alloc_last w _), ?_, ((Turned.refl _ _).new _).new _⟩
    have := heap_alloc_last (w.alloc (.cells #[.int .i64 b1, .int .i64 h1, .int .i64 p1, .int .i64 m1, .int .u32 (s1 : Nat), .slice a LX cap] 40)) (.cells #[.int .i64 b2, .int .i64 h2, .int .i64 p2, .int .i64 m2, .int .u32 (s2 : Nat), .slice b LY cap2] 40)
    simpa using this
  generalize hw2 : (w.alloc (.cells #[.int .i64 b1, .int .i64 h1, .int .i64 p1, .int .i64 m1, .int .u32 (s1 : Nat), .slice a LX cap] 40)).alloc (.cells #[.int .i64 b2, .int .i64 h2, .int .i64 p2, .int .i64 m2, .int .u32 (s2 : Nat), .slice b LY cap2] 40) = w2 at *
  clear hw2
  have KS : Hid (∀ W, Turned (fun _ => False) w2 W → Turned (fun _ => False) w W ∧ W.cell? ⟨w.heap.size, 0, none⟩ = some (.int .i64 b1) ∧ W.cell? ⟨w.heap.size, 1, none⟩ = some (.int .i64 h1) ∧ W.cell? ⟨w.heap.size, 2, none⟩ = some (.int .i64 p1) ∧ W.cell? ⟨w.heap.size, 3, none⟩ = some (.int .i64 m1) ∧ W.cell? ⟨w.heap.size, 4, none⟩ = some (.int .u32 (s1 : Nat)) ∧ W.cell? ⟨w.heap.size, 5, none⟩ = some (.slice a LX cap) ∧ W.cell? ⟨w.heap.size + 1, 0, none⟩ = some (.int .i64 b2) ∧ W.cell? ⟨w.heap.size + 1, 1, none⟩ = some (.int .i64 h2) ∧ W.cell? ⟨w.heap.size + 1, 2, none⟩ = some (.int .i64 p2) ∧ W.cell? ⟨w.heap.size + 1, 3, none⟩ = some (.int .i64 m2) ∧ W.cell? ⟨w.heap.size + 1, 4, none⟩ = some (.int .u32 (s2 : Nat)) ∧ W.cell? ⟨w.heap.size + 1, 5, none⟩ = some (.slice b LY cap2)) := fun W t => by
    have z1 := (t.block _ (lt_of_block W2.out.1) fun q => q).trans W2.out.1
    have z2 := (t.block _ (lt_of_block W2.out.2.1) fun q => q).trans W2.out.2.1
    exact ⟨W2.out.2.2.trans t fun _ _ q => q, cell_of z1 0 _ rfl, cell_of z1 1 _ rfl, cell_of z1 2 _ rfl, cell_of z1 3 _ rfl, cell_of z1 4 _ rfl, cell_of z1 5 _ rfl, cell_of z2 0 _ rfl, cell_of z2 1 _ rfl, cell_of z2 2 _ rfl, cell_of z2 3 _ rfl, cell_of z2 4 _ rfl, cell_of z2 5 _ rfl⟩
  have V0 : Turned (fun _ => False) w2 w2.drew := Turned.drew _ _
  have TO : Hid (∀ W, Turned (fun _ => False) w2 W → Turned (fun _ => False) w W) := fun W t => W2.out.2.2.trans t fun _ _ q => q
  cases sb
  all_goals
    go_region_held3 (fun W => Turned (fun _ => False) w W ∧ W.cell? ⟨w.heap.size, 0, none⟩ = some (.int .i64 b1) ∧ W.cell? ⟨w.heap.size, 1, none⟩ = some (.int .i64 h1) ∧ W.cell? ⟨w.heap.size, 2, none⟩ = some (.int .i64 p1) ∧ W.cell? ⟨w.heap.size, 3, none⟩ = some (.int .i64 m1) ∧ W.cell? ⟨w.heap.size, 4, none⟩ = some (.int .u32 (s1 : Nat)) ∧ W.cell? ⟨w.heap.size, 5, none⟩ = some (.slice a LX cap) ∧ W.cell? ⟨w.heap.size + 1, 0, none⟩ = some (.int .i64 b2) ∧ W.cell? ⟨w.heap.size + 1, 1, none⟩ = some (.int .i64 h2) ∧ W.cell? ⟨w.heap.size + 1, 2, none⟩ = some (.int .i64 p2) ∧ W.cell? ⟨w.heap.size + 1, 3, none⟩ = some (.int .i64 m2) ∧ W.cell? ⟨w.heap.size + 1, 4, none⟩ = some (.int .u32 (s2 : Nat)) ∧ W.cell? ⟨w.heap.size + 1, 5, none⟩ = some (.slice b LY cap2))
      (first | (exact KS.out _ (by assumption)) | go_keep)
      (first
        | (go_at_call 22; (with_reducible refine (f22 _).mono ?_); rintro e v1 ⟨rfl, hv⟩; have V1 : Turned (fun _ => False) w2 v1 := V0.trans hv (fun _ _ q => q); clear hv)
        | (go_at_call 32; (with_reducible refine (F32.out _ (TO.out _ V1)).mono ?_); rintro e v2 ⟨rfl, hv⟩; have V2 : Turned (fun _ => False) w2 v2 := V1.trans hv (fun _ _ q => q); clear hv)
        | (go_at_call 33; (with_reducible refine (F33.out _ (TO.out _ V2)).mono ?_); rintro e v3 ⟨rfl, hv⟩; have V3 : Turned (fun _ => False) w2 v3 := V2.trans hv (fun _ _ q => q); clear hv)
        | (go_at_call 23; (with_reducible refine (FCX.out _ (TO.out _ V3)).mono ?_); rintro e v4 ⟨c, rfl, hc, hv⟩; have V4 : Turned (fun _ => False) w2 v4 := V3.trans hv (fun _ _ q => q); have C4 := FSX.out v3 v4 c (TO.out _ V4) hc; clear hv hc)
        | (go_at_call 32; (with_reducible refine C4.mono ?_); rintro e v5 ⟨rfl, hv⟩; have V5 : Turned (fun _ => False) w2 v5 := V4.trans hv (fun _ _ q => q); clear hv)
        | (go_at_call 23; (with_reducible refine (FCY.out _ (TO.out _ V5)).mono ?_); rintro e v6 ⟨c', rfl, hc, hv⟩; have V6 : Turned (fun _ => False) w2 v6 := V5.trans hv (fun _ _ q => q); have C6 := FSY.out v5 v6 c' (TO.out _ V6) hc; clear hv hc)
        | (go_at_call 32; (with_reducible refine C6.mono ?_); rintro e v7 ⟨rfl, hv⟩; have V7 : Turned (fun _ => False) w2 v7 := V6.trans hv (fun _ _ q => q); clear hv))
    go_wp2
    go_ret
    exact ⟨rfl, TO.out _ V7⟩
end Go.Proofs.Ytfeljngmidhajaa

namespace Go.Proofs.Ytfeljngmidhajaa
open Go.RowKit Go.Mine

theorem CopyIs.spare {w : World} {S : Nat → Prop} {c : Nat} {l : List Rw} (h : CopyIs w S c l) : w.cell? ⟨c, l.length * 5 + 1, none⟩ = some (.int .i64 (-78)) ∧ c < w.heap.size := by
  obtain ⟨h1, ps, h2, h3, -⟩ := h
  have hlen := rcells_length l ps h2
  refine ⟨cell_of h3 _ _ ?_, lt_of_block h3⟩
  rw [List.getElem?_toArray, List.getElem?_append_right (by rw [hlen]; omega), hlen, show l.length * 5 + 1 - l.length * 5 = 1 by omega]
  rfl
theorem CopyIs.at {w : World} {S : Nat → Prop} {c : Nat} {l : List Rw} (h : CopyIs w S c l) (i : Nat) (r : Rw) (hr : l[i]? = some r) :
    ∃ p, p < w.heap.size ∧ w.cell? ⟨p, r.par.length, none⟩ = some (.int .i64 (-77)) ∧ w.cell? ⟨c, i * 5, none⟩ = some (.slice (some ⟨p, 0, none⟩) r.par.length (r.par.length + 1)) ∧ w.cell? ⟨c, i * 5 + 1, none⟩ = some (.int .i64 r.tree) ∧ w.cell? ⟨c, i * 5 + 2, none⟩ = some (.int .i64 r.gen) ∧ w.cell? ⟨c, i * 5 + 3, none⟩ = some (.int .i64 r.state) ∧ w.cell? ⟨c, i * 5 + 4, none⟩ = some (.string r.bits) := by
  obtain ⟨h1, ps, h2, h3, h4⟩ := h
  have hi := (List.getElem?_eq_some_iff.1 hr).1
  obtain ⟨p, hp⟩ : ∃ p, ps[i]? = some p := ⟨_, List.getElem?_eq_getElem (by omega)⟩
  obtain ⟨k1, k2⟩ := h4 i r p hr hp
  obtain ⟨g0, g1, g2, g3, g4⟩ := rcells_get l ps i r p h2 hr hp
  have hlen := rcells_length l ps h2
  have hat : ∀ (k : Nat) (v : Value), (rcells l ps)[i * 5 + k]? = some v → k < 5 → w.cell? ⟨c, i * 5 + k, none⟩ = some v := fun k v hv hk => by
    refine cell_of h3 _ _ ?_
    rw [List.getElem?_toArray, List.getElem?_append_left (by rw [hlen]; omega)]
    exact hv
  refine ⟨p, lt_of_block k2, cell_of k2 _ _ ?_, by have := hat 0 _ (by rw [Nat.add_zero]; exact g0) (by decide); rw [Nat.add_zero] at this; exact this, hat 1 _ g1 (by decide), hat 2 _ g2 (by decide), hat 3 _ g3 (by decide), hat 4 _ g4 (by decide)⟩
  rw [List.getElem?_toArray, List.getElem?_append_right (by rw [ncells_length]; exact Nat.le_refl _), ncells_length, Nat.sub_self]
  rfl

def KpRel (rows : List Rw) (w : World) (S : Nat → Prop) (c : Nat) (g : Nat) (i : Value) (wr : World) : Prop :=
  ∃ j : Nat, j + g = rows.length ∧ i = .int .i64 j ∧ CopyIs wr S c rows ∧ Turned (fun _ => False) w wr

set_option maxRecDepth 100000 in
set_option maxHeartbeats 4000000 in
theorem gkept_any (S T : Nat → Prop) (a : Option Addr) (cap c : Nat) (g : Gr) (w : World) (hc : CopyIs w S c g.rows) (h : RwIs w T a cap g.rows) (hLb : g.rows.length ≤ 2199023255551) (hPb : ∀ r ∈ g.rows, r.par.length ≤ 17592186044415) :
    Calls Try.prog 28 #[grv (some ⟨c, 0, none⟩) (g.rows.length + 1) g, grv a cap g] w fun e w' => e = .returned (.bool true) ∧ Turned (fun _ => False) w w' := by
  have F33 : Hid (∀ W, Turned (fun _ => False) w W → Calls Try.prog 33 #[grv (some ⟨c, 0, none⟩) (g.rows.length + 1) g, grv a cap g] W fun e w' => e = .returned (.bool true) ∧ Turned (fun _ => False) W w') := fun W q => by
    have := grsame_any _ _ (some ⟨c, 0, none⟩) a (g.rows.length + 1) cap g g W (copy_rows (hc.turned q fun _ _ q => q) h hLb hPb) (h.turned q fun _ _ q => q)
    rw [(sameG_iff g g).2 rfl] at this
    exact this
  have HP : Hid (∀ r ∈ g.rows, r.par.length ≤ 17592186044415) := hPb
  have HC : Hid (CopyIs w S c g.rows) := hc
  obtain ⟨L, hL⟩ : ∃ L, L = g.rows.length := ⟨_, rfl⟩
  have HL : Hid (L = g.rows.length) := hL
  unfold grv at *
  rw [← hL] at F33 hLb ⊢
  have hsp := hc.spare
  rw [← hL] at hsp
  generalize g.rows = rows at *
  generalize g.base = b1 at *
  generalize g.h = h1 at *
  generalize g.p = p1 at *
  generalize g.m = m1 at *
  generalize g.seed = s1 at *
  have SP : Hid (w.cell? ⟨c, L * 5 + 1, none⟩ = some (.int .i64 (-78)) ∧ c < w.heap.size) := hsp
  have hsl : ∀ W, (Instr.slice 38 (.slice (some ⟨c, 0, none⟩) L (L + 1)) none (some (.int .i64 ((L : Int) + 1))) none).run Try.prog W = .ok (.slice (some ⟨c, 0, none⟩) (L + 1) (L + 1)) W := fun W => by
    obtain ⟨i, hi, hz0, hz1, hz2⟩ := info_parts info61
    have e0 : (0 : Int) ≤ (L : Int) + 1 := by omega
    simp [Instr.slice, Instr.sliceBounds, Instr.sliceBound, asIntOf, run_underlying Try.underlying38, sizeOf, typeInfo, hi, Result.andThen, Addr.add, e0]
  clear h hL hPb hc hsp
  go_enter Try.func28, Try.ntmps28
  go_wp2
  have W2 : Hid (((w.alloc (.cells #[.int .i64 b1, .int .i64 h1, .int .i64 p1, .int .i64 m1, .int .u32 (s1 : Nat), .slice (some ⟨c, 0, none⟩) L (L + 1)] 40)).alloc (.cells #[.int .i64 b1, .int .i64 h1, .int .i64 p1, .int .i64 m1, .int .u32 (s1 : Nat), .slice a L cap] 40)).heap[w.heap.size]? = some (.cells #[.int .i64 b1, .int .i64 h1, .int .i64 p1, .int .i64 m1, .int .u32 (s1 : Nat), .slice (some ⟨c, 0, none⟩) L (L + 1)] 40 (0, 0)) ∧ ((w.alloc (.cells #[.int .i64 b1, .int .i64 h1, .int .i64 p1, .int .i64 m1, .int .u32 (s1 : Nat), .slice (some ⟨c, 0, none⟩) L (L + 1)] 40)).alloc (.cells #[.int .i64 b1, .int .i64 h1, .int .i64 p1, .int .i64 m1, .int .u32 (s1 : Nat), .slice a L cap] 40)).heap[w.heap.size + 1]? = some (.cells #[.int .i64 b1, .int .i64 h1, .int .i64 p1, .int .i64 m1, .int .u32 (s1 : Nat), .slice a L cap] 40 (0, 0)) ∧ Turned (fun _ => False) w ((w.alloc (.cells #[.int .i64 b1, .int .i64 h1, .int .i64 p1, .int .i64 m1, .int .u32 (s1 : Nat), .slice (some ⟨c, 0, none⟩) L (L + 1)] 40)).alloc (.cells #[.int .i64 b1, .int .i64 h1, .int .i64 p1, .int .i64 m1, .int .u32 (s1 : Nat), .slice a L cap] 40))) := by
    refine ⟨Go.Mine.heap_alloc_old (heap_alloc_last w _), ?_, ((Turned.refl _ _).new _).new _⟩
    have := heap_alloc_last (w.alloc (.cells #[.int .i64 b1, .int .i64 h1, .int .i64 p1, .int .i64 m1, .int .u32 (s1 : Nat), .slice (some ⟨c, 0, none⟩) L (L + 1)] 40)) (.cells #[.int .i64 b1, .int .i64 h1, .int .i64 p1, .int .i64 m1, .int .u32 (s1 : Nat), .slice a L cap] 40)
    simpa using this
  generalize hw2 : (w.alloc (.cells #[.int .i64 b1, .int .i64 h1, .int .i64 p1, .int .i64 m1, .int .u32 (s1 : Nat), .slice (some ⟨c, 0, none⟩) L (L + 1)] 40)).alloc (.cells #[.int .i64 b1, .int .i64 h1, .int .i64 p1, .int .i64 m1, .int .u32 (s1 : Nat), .slice a L cap] 40) = w2 at *
  clear hw2
  have TO : Hid (∀ W, Turned (fun _ => False) w2 W → Turned (fun _ => False) w W) := fun W t => W2.out.2.2.trans t fun _ _ q => q
  have KS : Hid (∀ W, Turned (fun _ => False) w2 W → Turned (fun _ => False) w W ∧ W.cell? ⟨w.heap.size, 0, none⟩ = some (.int .i64 b1) ∧ W.cell? ⟨w.heap.size, 1, none⟩ = some (.int .i64 h1) ∧ W.cell? ⟨w.heap.size, 2, none⟩ = some (.int .i64 p1) ∧ W.cell? ⟨w.heap.size, 3, none⟩ = some (.int .i64 m1) ∧ W.cell? ⟨w.heap.size, 4, none⟩ = some (.int .u32 (s1 : Nat)) ∧ W.cell? ⟨w.heap.size, 5, none⟩ = some (.slice (some ⟨c, 0, none⟩) L (L + 1)) ∧ W.cell? ⟨w.heap.size + 1, 0, none⟩ = some (.int .i64 b1) ∧ W.cell? ⟨w.heap.size + 1, 1, none⟩ = some (.int .i64 h1) ∧ W.cell? ⟨w.heap.size + 1, 2, none⟩ = some (.int .i64 p1) ∧ W.cell? ⟨w.heap.size + 1, 3, none⟩ = some (.int .i64 m1) ∧ W.cell? ⟨w.heap.size + 1, 4, none⟩ = some (.int .u32 (s1 : Nat)) ∧ W.cell? ⟨w.heap.size + 1, 5, none⟩ = some (.slice a L cap) ∧ W.cell? ⟨c, L * 5 + 1, none⟩ = some (.int .i64 (-78))) := fun W t => by
    have z1 := (t.block _ (lt_of_block W2.out.1) fun q => q).trans W2.out.1
    have z2 := (t.block _ (lt_of_block W2.out.2.1) fun q => q).trans W2.out.2.1
    refine ⟨TO.out W t, cell_of z1 0 _ rfl, cell_of z1 1 _ rfl, cell_of z1 2 _ rfl, cell_of z1 3 _ rfl, cell_of z1 4 _ rfl, cell_of z1 5 _ rfl, cell_of z2 0 _ rfl, cell_of z2 1 _ rfl, cell_of z2 2 _ rfl, cell_of z2 3 _ rfl, cell_of z2 4 _ rfl, cell_of z2 5 _ rfl, ?_⟩
    rw [World.cell?_of_block (w' := W) ((TO.out W t).block c SP.out.2 fun q => q)]
    exact SP.out.1
  have V0 : Turned (fun _ => False) w2 w2.drew := Turned.drew _ _
  have hwr : IntKind.i64.wrap ((L : Int) + 1) = (L : Int) + 1 := Go.IntWalk.i64_in _ (by omega)
  have i0 : (0 : Int) ≤ (L : Int) := by omega
  have i1 : (L : Int) < ((L + 1 : Nat) : Int) := by omega
  have i2 : (L : Int) < (L : Int) + 1 := by omega
  have i3 : L < L + 1 := by omega
  go_region_held3 (fun W => Turned (fun _ => False) w W ∧ W.cell? ⟨w.heap.size, 0, none⟩ = some (.int .i64 b1) ∧ W.cell? ⟨w.heap.size, 1, none⟩ = some (.int .i64 h1) ∧ W.cell? ⟨w.heap.size, 2, none⟩ = some (.int .i64 p1) ∧ W.cell? ⟨w.heap.size, 3, none⟩ = some (.int .i64 m1) ∧ W.cell? ⟨w.heap.size, 4, none⟩ = some (.int .u32 (s1 : Nat)) ∧ W.cell? ⟨w.heap.size, 5, none⟩ = some (.slice (some ⟨c, 0, none⟩) L (L + 1)) ∧ W.cell? ⟨w.heap.size + 1, 0, none⟩ = some (.int .i64 b1) ∧ W.cell? ⟨w.heap.size + 1, 1, none⟩ = some (.int .i64 h1) ∧ W.cell? ⟨w.heap.size + 1, 2, none⟩ = some (.int .i64 p1) ∧ W.cell? ⟨w.heap.size + 1, 3, none⟩ = some (.int .i64 m1) ∧ W.cell? ⟨w.heap.size + 1, 4, none⟩ = some (.int .u32 (s1 : Nat)) ∧ W.cell? ⟨w.heap.size + 1, 5, none⟩ = some (.slice a L cap) ∧ W.cell? ⟨c, L * 5 + 1, none⟩ = some (.int .i64 (-78)))
    (first | (exact KS.out _ (by assumption)) | go_keep)
    (first | (go_at_call 33; (with_reducible refine (F33.out _ (TO.out _ V0)).mono ?_); rintro e v1 ⟨rfl, hv⟩; have V1 : Turned (fun _ => False) w2 v1 := V0.trans hv (fun _ _ q => q); clear hv))
  clear hwr i0 i1 i2 i3
  obtain ⟨-, z0, z1, z2, z3, z4, z5, -⟩ := KS.out v1 V1
  have hl1 := lt_of_block ((V1.block _ (lt_of_block W2.out.1) fun q => q).trans W2.out.1)
  go_wp2
  have HS : Hid (KpRel rows w S c L (.int .i64 0) v1) := ⟨0, by rw [HL.out, Nat.zero_add], rfl, HC.out.turned (TO.out v1 V1) fun _ _ q => q, TO.out v1 V1⟩
  clear z0 z1 z2 z3 z4 z5 hl1 hsl
  go_loopg [30] L (fun g i wr => KpRel rows w S c g i wr)
  case atStart => exact HS.out
  case round =>
    obtain ⟨j, hjg, rfl, hcp, htr⟩ := hrel
    have G : Hid (j + gk = rows.length) := hjg
    have T : Hid (Turned (fun _ => False) w wr) := htr
    have CP : Hid (CopyIs wr S c rows) := hcp
    clear hjg htr hcp HS
    by_cases hlt : j < L
    · obtain ⟨r, hr⟩ : ∃ r, rows[j]? = some r := ⟨_, List.getElem?_eq_getElem (by rw [← HL.out]; exact hlt)⟩
      obtain ⟨p, hp, cm, c0, c1, c2, c3, c4⟩ := CP.out.at j r hr
      have hcl := CP.out.spare.2
      have hpl := HP.out r (List.mem_of_getElem? hr)
      generalize r.par.length = n at *
      generalize r.tree = rt at *
      generalize r.gen = rg at *
      generalize r.state = rs at *
      generalize r.bits = rb at *
      have hne : p ≠ wr.heap.size := by omega
      have hsl : ∀ W, (Instr.slice 57 (.slice (some ⟨p, 0, none⟩) n (n + 1)) none (some (.int .i64 ((n : Int) + 1))) none).run Try.prog W = .ok (.slice (some ⟨p, 0, none⟩) (n + 1) (n + 1)) W := fun W => by
        obtain ⟨i, hi, hz0, hz1, hz2⟩ := info_parts info3i
        have e0 : (0 : Int) ≤ (n : Int) + 1 := by omega
        simp [Instr.slice, Instr.sliceBounds, Instr.sliceBound, asIntOf, run_underlying Try.underlying57, sizeOf, typeInfo, hi, Result.andThen, Addr.add, e0]
      have hwr : IntKind.i64.wrap ((n : Int) + 1) = (n : Int) + 1 := Go.IntWalk.i64_in _ (by omega)
      have i0 : (0 : Int) ≤ (n : Int) := by omega
      have i1 : (n : Int) < ((n + 1 : Nat) : Int) := by omega
      have i2 : (n : Int) < (n : Int) + 1 := by omega
      have i3 : n < n + 1 := by omega
      clear hr hpl
      go_wp2
      have D : Hid (((wr.alloc (.cells #[.slice (some ⟨p, 0, none⟩) n (n + 1), .int .i64 rt, .int .i64 rg, .int .i64 rs, .string rb] 61)).cell? ⟨wr.heap.size, 0, none⟩ = some (.slice (some ⟨p, 0, none⟩) n (n + 1))) ∧ (wr.alloc (.cells #[.slice (some ⟨p, 0, none⟩) n (n + 1), .int .i64 rt, .int .i64 rg, .int .i64 rs, .string rb] 61)).cell? ⟨p, n, none⟩ = some (.int .i64 (-77))) := by
        refine ⟨cell_of (heap_alloc_last wr _) 0 _ rfl, ?_⟩
        rw [World.cell?_of_block (w' := wr.alloc (.cells #[.slice (some ⟨p, 0, none⟩) n (n + 1), .int .i64 rt, .int .i64 rg, .int .i64 rs, .string rb] 61)) ((Turned.alloc (fun _ => False) wr _).block p hp fun q => q)]
        exact cm
      go_region_held3 (fun W => W.cell? ⟨wr.heap.size, 0, none⟩ = some (.slice (some ⟨p, 0, none⟩) n (n + 1)) ∧ W.cell? ⟨p, n, none⟩ = some (.int .i64 (-77)))
        (first | (exact D.out) | go_keep) (fail)
      go_wp2
      go_roundg (gk - 1)
      case measure => have := G.out; have := HL.out; omega
      case rel => exact ⟨j + 1, by have := G.out; have := HL.out; omega, by simp <;> omega, (CP.out.turned (Turned.alloc (fun _ => False) wr _) fun _ _ q => q).turned (Turned.drew (fun _ => False) _) fun _ _ q => q, (T.out.new _).draw⟩
    · go_wp2
      go_ret
      exact ⟨rfl, T.out⟩
end Go.Proofs.Ytfeljngmidhajaa

/- Packed. -/
import Derived.Test.YtofcogekgcgjhaaGreatDoorZzbf
set_option linter.unusedVariables false
set_option linter.unusedSimpArgs false
set_option maxRecDepth 100000
namespace Go.Proofs.YtofcogekgcgjhaaGreatDoor
open Go.RowKit Go.Mine Go.Mine.Ac
def findX (x : Ix) (n : Int) : Option (Gr × Rw) := if n < 0 then none else (x.graphs.find? fun g => decide (n < g.base + g.rows.length)).bind fun g => (g.rows[(n - g.base).toNat]?).map fun r => (g, r)
theorem tot_mono {x : Ix} (h : IxOk x) {a b : Nat} (hab : a ≤ b) : Ch.totLn (x.links.take a) ≤ Ch.totLn (x.links.take b) := by
  induction b with
  | zero => obtain rfl : a = 0 := by omega
            exact Int.le_refl _
  | succ b ih =>
    rcases Nat.lt_or_eq_of_le hab with q | q
    · have h1 := ih (by omega)
      cases hb : x.links[b]? with
      | none => rw [List.take_add_one, hb]; simpa using h1
      | some y =>
        rw [tot_take_succ _ _ _ hb]
        have := (h.link y (List.mem_of_getElem? hb)).2.2.1
        omega
    · rw [q]; exact Int.le_refl _
theorem base_end {x : Ix} (h : IxOk x) {i : Nat} {g : Gr} (hg : x.graphs[i]? = some g) : g.base + g.rows.length = Ch.totLn (x.links.take (i + 1)) ∧ g.base = Ch.totLn (x.links.take i) := by
  obtain ⟨-, h1, l, h2, h3⟩ := h.graph i g hg
  exact ⟨by rw [tot_take_succ _ _ _ h2, h1, h3], h1⟩
theorem len_take {x : Ix} (h : IxOk x) : x.len = Ch.totLn (x.links.take x.graphs.length) := by
  unfold Ix.len
  rw [h.both, List.take_length]
theorem findX_none {x : Ix} (h : IxOk x) {n : Int} (hn : n < 0 ∨ x.len ≤ n) : findX x n = none := by
  unfold findX
  split
  · rfl
  · rename_i h0
    have : (x.graphs.find? fun g => decide (n < g.base + g.rows.length)) = none := by
      rw [List.find?_eq_none]
      intro g hg
      obtain ⟨i, hi⟩ := List.getElem?_of_mem hg
      have h1 := (base_end h hi).1
      have h2 := (List.getElem?_eq_some_iff.1 hi).1
      have h3 := tot_mono h (show i + 1 ≤ x.graphs.length by omega)
      rw [← len_take h] at h3
      simp only [decide_eq_true_eq]
      omega
    rw [this]; rfl
theorem findX_at {x : Ix} (h : IxOk x) {n : Int} {i : Nat} {g : Gr} (hg : x.graphs[i]? = some g) (h1 : Ch.totLn (x.links.take i) ≤ n) (h2 : n < g.base + g.rows.length) : ∃ r, g.rows[(n - g.base).toNat]? = some r ∧ findX x n = some (g, r) := by
  obtain ⟨e1, e2⟩ := base_end h hg
  have h0 : 0 ≤ n := by have := (tot_take h i).1; omega
  have hlt : (n - g.base).toNat < g.rows.length := by omega
  refine ⟨_, List.getElem?_eq_getElem hlt, ?_⟩
  unfold findX
  rw [if_neg (by omega)]
  have : (x.graphs.find? fun g => decide (n < g.base + g.rows.length)) = some g := by
    rw [List.find?_eq_some_iff_getElem]
    obtain ⟨hi, he⟩ := List.getElem?_eq_some_iff.1 hg
    refine ⟨by simpa using h2, i, hi, he, fun j hj => ?_⟩
    have hj2 : j < x.graphs.length := by omega
    have h3 := (base_end h (List.getElem?_eq_getElem hj2)).1
    have h4 := tot_mono h (show j + 1 ≤ i by omega)
    simp only [Bool.not_eq_true', decide_eq_false_iff_not]
    omega
  rw [this]
  simp only [Option.bind_some, List.getElem?_eq_getElem hlt, Option.map_some]
theorem findX_some {x : Ix} (h : IxOk x) {n : Int} {g : Gr} {r : Rw} (hf : findX x n = some (g, r)) : 0 ≤ n ∧ n < x.len ∧ ∃ (i k : Nat), x.graphs[i]? = some g ∧ g.rows[k]? = some r ∧ n = g.base + (k : Nat) := by
  have hn : ¬ (n < 0 ∨ x.len ≤ n) := fun q => by rw [findX_none h q] at hf; simp at hf
  refine ⟨by omega, by omega, ?_⟩
  unfold findX at hf
  rw [if_neg (by omega)] at hf
  obtain ⟨g', h1, h2⟩ := Option.bind_eq_some_iff.1 hf
  obtain ⟨r', h3, h4⟩ := Option.map_eq_some_iff.1 h2
  simp only [Prod.mk.injEq] at h4
  obtain ⟨rfl, rfl⟩ := h4
  obtain ⟨i, hi⟩ := List.getElem?_of_mem (List.mem_of_find?_eq_some h1)
  refine ⟨i, _, hi, h3, ?_⟩
  have hp := List.find?_some h1
  have hb := (base_end h hi).2
  rw [List.find?_eq_some_iff_getElem] at h1
  obtain ⟨-, j, hj, he, hall⟩ := h1
  have hji : x.graphs[j]? = some g' := by rw [← he]; exact List.getElem?_eq_getElem hj
  have hbj := (base_end h hji).2
  have hle : Ch.totLn (x.links.take j) ≤ n := by
    rcases Nat.eq_zero_or_pos j with q | q
    · subst q; simp only [List.take_zero, Ch.totLn]; omega
    · have h5 := hall (j - 1) (by omega)
      have hj1 : j - 1 < x.graphs.length := by omega
      have h6 := (base_end h (List.getElem?_eq_getElem hj1)).1
      simp only [Bool.not_eq_true', decide_eq_false_iff_not] at h5
      have e : j - 1 + 1 = j := by omega
      rw [e] at h6
      omega
  have : (((n - g'.base).toNat : Nat) : Int) = n - g'.base := Int.toNat_of_nonneg (by omega)
  omega
def RowsAt (w : World) (S T : Nat → Prop) (v : Value) (l : List Rw) : Prop :=
 ∃ rvs, Sl w S 48 5 v rvs l.length ∧ (∀ r ∈ l, RwOk r) ∧ ∀ (i : Nat) (r : Rw), l[i]? = some r → ∃ a cap, rvs[i * 5]? = some (.slice a r.par.length cap) ∧ rvs[i * 5 + 1]? = some (.int .i64 r.tree) ∧ rvs[i * 5 + 2]? = some (.int .i64 r.gen) ∧
  rvs[i * 5 + 3]? = some (.int .i64 r.state) ∧ rvs[i * 5 + 4]? = some (.string r.bits) ∧ Ints w T a cap r.par
theorem RowsAt.nil (w : World) (S T : Nat → Prop) : RowsAt w S T (.slice none 0 0) [] := ⟨[], Sl.nil _ _ _ _, by simp, by simp⟩
theorem RowsAt.turned {w w' : World} {S T U : Nat → Prop} {v : Value} {l : List Rw} (h : RowsAt w S T v l) (ht : Turned U w w') (hS : ∀ b, S b → ¬ U b) (hT : ∀ b, T b → ¬ U b) : RowsAt w' S T v l := by
 obtain ⟨rvs, h1, h2, h3⟩ := h
 refine ⟨rvs, h1.turned ht hS, h2, fun i r hr => ?_⟩
 obtain ⟨a, cap, e0, e1, e2, e3, e4, e5⟩ := h3 i r hr
 exact ⟨a, cap, e0, e1, e2, e3, e4, e5.turned ht hT⟩
theorem RowsAt.mono {w : World} {S T S' T' : Nat → Prop} {v : Value} {l : List Rw} (h : RowsAt w S T v l) (hS : ∀ b, S b → S' b) (hT : ∀ b, T b → T' b) : RowsAt w S' T' v l := by
 obtain ⟨rvs, h1, h2, h3⟩ := h
 refine ⟨rvs, h1.widen hS, h2, fun i r hr => ?_⟩
 obtain ⟨a, cap, e0, e1, e2, e3, e4, e5⟩ := h3 i r hr
 exact ⟨a, cap, e0, e1, e2, e3, e4, e5.mono hT⟩
theorem RowsAt.is {w : World} {S T : Nat → Prop} {v : Value} {l : List Rw} (h : RowsAt w S T v l) : ∃ a cap, v = .slice a l.length cap ∧ RwIs w (fun b => S b ∨ T b) a cap l := by
 obtain ⟨rvs, h1, h2, h3⟩ := h
 by_cases h0 : 0 < l.length
 ·obtain ⟨g, off, cap, rfl, hS, hn, hc, hcell, -, hlt⟩ := h1.opens h0
  refine ⟨_, cap, rfl, hn, hc, h2, fun _ => ⟨g, off, rfl, .inl hS, hlt, fun i r hr => ?_⟩⟩
  have hi := (List.getElem?_eq_some_iff.1 hr).1
  obtain ⟨a, cp, e0, e1, e2, e3, e4, e5⟩ := h3 i r hr
  refine ⟨a, cp, e5.mono fun b q => .inr q, ?_, ?_, ?_, ?_, ?_⟩
  ·rw [hcell _ (by omega)]; exact e0
  ·rw [Nat.add_assoc, hcell _ (by omega)]; exact e1
  ·rw [Nat.add_assoc, hcell _ (by omega)]; exact e2
  ·rw [Nat.add_assoc, hcell _ (by omega)]; exact e3
  ·rw [Nat.add_assoc, hcell _ (by omega)]; exact e4
 ·obtain ⟨a, cap, rfl, hn, hc⟩ := h1.value
  exact ⟨a, cap, rfl, hn, hc, h2, fun q => absurd q h0⟩
theorem RowsAt.snoc {w : World} {S T : Nat → Prop} {v' : Value} {l : List Rw} {r : Rw} {rvs : List Value} {a : Option Addr} {cap : Nat}
  (hl : rvs.length = l.length * 5) (h2 : ∀ r ∈ l, RwOk r) (h3 : ∀ (i : Nat) (r : Rw), l[i]? = some r → ∃ a cap, rvs[i * 5]? = some (.slice a r.par.length cap) ∧ rvs[i * 5 + 1]? = some (.int .i64 r.tree) ∧ rvs[i * 5 + 2]? = some (.int .i64 r.gen) ∧
   rvs[i * 5 + 3]? = some (.int .i64 r.state) ∧ rvs[i * 5 + 4]? = some (.string r.bits) ∧ Ints w T a cap r.par)
  (hr : RwOk r) (hp : Ints w T a cap r.par) (hs : Sl w S 48 5 v' (rvs ++ [.slice a r.par.length cap, .int .i64 r.tree, .int .i64 r.gen, .int .i64 r.state, .string r.bits]) (l.length + 1)) : RowsAt w S T v' (l ++ [r]) := by
 refine ⟨_, by rw [List.length_append]; exact hs, fun y hy => ?_, fun i y hi => ?_⟩
 ·rcases List.mem_append.1 hy with q | q
  ·exact h2 y q
  ·rw [List.mem_singleton] at q; subst q; exact hr
 ·rw [List.getElem?_append] at hi
  split at hi
  ·rename_i q
   obtain ⟨b, c, e0, e1, e2, e3, e4, e5⟩ := h3 i y hi
   refine ⟨b, c, ?_, ?_, ?_, ?_, ?_, e5⟩
   ·rw [List.getElem?_append_left (by omega)]; exact e0
   ·rw [List.getElem?_append_left (by omega)]; exact e1
   ·rw [List.getElem?_append_left (by omega)]; exact e2
   ·rw [List.getElem?_append_left (by omega)]; exact e3
   ·rw [List.getElem?_append_left (by omega)]; exact e4
  ·rename_i q
   have hie : i = l.length := by
    have := (List.getElem?_eq_some_iff.1 hi).1
    simp only [List.length_cons, List.length_nil] at this
    omega
   subst hie
   simp only [Nat.sub_self, List.getElem?_cons_zero, Option.some.injEq] at hi
   subst hi
   refine ⟨a, cap, ?_, ?_, ?_, ?_, ?_, hp⟩
   ·rw [List.getElem?_append_right (by omega)]; simp [hl]
   ·rw [List.getElem?_append_right (by omega)]; simp [hl]
   ·rw [List.getElem?_append_right (by omega)]; simp [hl]
   ·rw [List.getElem?_append_right (by omega)]; simp [hl]
   ·rw [List.getElem?_append_right (by omega)]; simp [hl]
theorem info3g : (Tryz.prog.info? 3).map (fun i => (i.zero, i.size, i.bytes)) = some (some (.int .i64 0), 1, 8) := by kernel_rfl
theorem ic_app (a b : List Int) : ic (a ++ b) = ic a ++ ic b := by simp [ic]
theorem GraphsAt.at {w : World} {rl : Nat → Nat} {gv : Value} {l : List Gr} (h : GraphsAt w rl gv l) {i : Nat} {g : Gr} (hi : l[i]? = some g) : ∃ b off cap a c, gv = .slice (some ⟨b, off, none⟩) l.length cap ∧ b < w.heap.size ∧ rl b = 3 ∧
  w.cell? ⟨b, off + i * 6, none⟩ = some (.int .i64 g.base) ∧ w.cell? ⟨b, off + i * 6 + 1, none⟩ = some (.int .i64 g.h) ∧ w.cell? ⟨b, off + i * 6 + 2, none⟩ = some (.int .i64 g.p) ∧ w.cell? ⟨b, off + i * 6 + 3, none⟩ = some (.int .i64 g.m) ∧ w.cell? ⟨b, off + i * 6 + 4, none⟩ = some (.int .u32 (g.seed : Nat)) ∧
  w.cell? ⟨b, off + i * 6 + 5, none⟩ = some (.slice a g.rows.length c) ∧ GrOk g ∧ RwIs w (fun b => rl b = 4) a c g.rows := by
 obtain ⟨gvs, h1, h2⟩ := h
 have hl := (List.getElem?_eq_some_iff.1 hi).1
 obtain ⟨b, off, cap, rfl, hb, -, -, hcell, -, hlt⟩ := h1.opens (by omega)
 obtain ⟨a, c, e0, e1, e2, e3, e4, e5, e6, e7⟩ := h2 i g hi
 refine ⟨b, off, cap, a, c, rfl, hlt, hb, ?_, ?_, ?_, ?_, ?_, ?_, e6, e7⟩
 ·rw [hcell _ (by omega)]; exact e0
 ·rw [Nat.add_assoc, hcell _ (by omega)]; exact e1
 ·rw [Nat.add_assoc, hcell _ (by omega)]; exact e2
 ·rw [Nat.add_assoc, hcell _ (by omega)]; exact e3
 ·rw [Nat.add_assoc, hcell _ (by omega)]; exact e4
 ·rw [Nat.add_assoc, hcell _ (by omega)]; exact e5
theorem GraphsAt.len {w : World} {rl : Nat → Nat} {gv : Value} {l : List Gr} (h : GraphsAt w rl gv l) : ∃ a cap, gv = .slice a l.length cap := by
 obtain ⟨gvs, h1, -⟩ := h
 obtain ⟨a, cap, e, -, -⟩ := h1.value
 exact ⟨a, cap, e⟩
def gensOf (g : Gr) : List Int := g.rows.map (·.gen)
theorem gensOf_len (g : Gr) : (gensOf g).length = g.rows.length := by simp [gensOf]
def GnPost (w : World) (l : List Int) (e : Ending) (w' : World) : Prop :=
 ∃ v, e = .returned v ∧ Sl w' (fun b => w.heap.size ≤ b) 3 1 v (ic l) l.length ∧ Turned (fun _ => False) w w'
def G1Rel (w : World) (gs : List Gr) (g : Nat) (lv iv : Value) (wr : World) : Prop :=
 ∃ i : Nat, i + g = gs.length ∧ iv = .int .i64 (i : Nat) ∧ Sl wr (fun b => w.heap.size ≤ b) 3 1 lv (ic ((gs.take i).flatMap gensOf)) ((gs.take i).flatMap gensOf).length ∧ Turned (fun b => w.heap.size ≤ b) w wr
def G2Rel (w : World) (pre : List Int) (rs : List Rw) (g : Nat) (lv iv : Value) (wr : World) : Prop :=
 ∃ j : Nat, j + g = rs.length ∧ iv = .int .i64 (j : Nat) ∧ Sl wr (fun b => w.heap.size ≤ b) 3 1 lv (ic (pre ++ (rs.take j).map (·.gen))) (pre.length + j) ∧ Turned (fun b => w.heap.size ≤ b) w wr
set_option maxHeartbeats 4000000 in
theorem xgens_any {w : World} {rl : Nat → Nat} {p : Nat} {dv lv gv : Value} {x : Ix} (h : IxAt w rl p dv lv gv x) (hok : IxOk x) : Calls Tryz.prog 64 #[pt p] w (GnPost w (gensX x)) := by
 obtain ⟨Z, hZ⟩ : ∃ Z, Z = GnPost w (gensX x) := ⟨_, rfl⟩
 have HZ : Hid (Z = GnPost w (gensX x)) := hZ
 rw [← hZ]
 have HG : Hid (GraphsAt w rl gv x.graphs) := h.graphs
 have HBD : Hid (∀ i, i ≤ x.graphs.length → ((x.graphs.take i).flatMap gensOf).length ≤ 524288) := fun i hi => by
  have h1 : (((x.graphs.take i).flatMap gensOf).length : Int) = Ch.totLn (x.links.take i) := gensX_take hok i (by rw [← hok.both]; exact hi)
  have h2 := tot_take hok i
  omega
 have HRB : Hid (∀ b, rl b ≠ 0 → b < w.heap.size) := h.bnd
 obtain ⟨ga, gc, hgv⟩ := h.graphs.len
 subst hgv
 have c2 : w.cell? ⟨p, 2, none⟩ = some (.slice ga x.graphs.length gc) := cell_of h.blk 2 _ rfl
 have hlt := lt_of_block h.blk
 have HE : Hid (gensX x = x.graphs.flatMap gensOf) := hidS rfl
 have hlm : x.graphs.length ≤ 8 := by rw [hok.both]; exact hok.many
 have HRL : Hid (∀ g ∈ x.graphs, g.rows.length ≤ 65536) := fun g hg => by
  obtain ⟨i, hi⟩ := List.getElem?_of_mem hg
  obtain ⟨h1, h2, h3⟩ := (hok.graph i g hi).1.1
  omega
 generalize x.graphs = gs at *
 have HLM : Hid (gs.length ≤ 8) := hlm
 obtain ⟨L, hL⟩ : ∃ L, L = gs.length := ⟨_, rfl⟩
 have HL : Hid (L = gs.length) := hL
 rw [← hL] at c2
 clear hZ h hok hL hlm
 go_enter Tryz.func64, Tryz.ntmps64
 go_wp2
 have B0 : Hid (G1Rel w gs L (.slice none 0 0) (.int .i64 0) w) := ⟨0, by have := HL.out; omega, rfl, by simpa [ic] using Sl.nil _ _ _ _, Turned.refl _ _⟩
 go_loopg [3, 13] L (fun g lv iv wr => G1Rel w gs g lv iv wr)
 case atStart => exact B0.out
 case round =>
  clear B0
  obtain ⟨i, hig, rfl, hsl, ht⟩ := hrel
  have G : Hid (i + gk = gs.length) := hig
  have HT : Hid (Turned (fun b => w.heap.size ≤ b) w wr) := ht
  obtain ⟨la, lc, rfl, -, -⟩ := hsl.value
  have HSL : Hid _ := hidS hsl
  clear hig ht hsl
  by_cases hlt2 : i < L
  ·obtain ⟨g, hg⟩ : ∃ g, gs[i]? = some g := ⟨_, List.getElem?_eq_getElem (by rw [← HL.out]; exact hlt2)⟩
   have HGI : Hid (gs[i]? = some g) := hg
   obtain ⟨b, off, cap, ra, rc, hga, hbl, hb3, c0, c1, c2', c3, c4, c5, gok, hrw⟩ := HG.out.at hg
   simp only [Value.slice.injEq] at hga
   obtain ⟨rfl, -, -⟩ := hga
   have hnb : ¬ w.heap.size ≤ b := by omega
   replace c0 := cell_at c0 HT.out hnb
   replace c1 := cell_at c1 HT.out hnb
   replace c2' := cell_at c2' HT.out hnb
   replace c3 := cell_at c3 HT.out hnb
   replace c4 := cell_at c4 HT.out hnb
   replace c5 := cell_at c5 HT.out hnb
   have hbr : b < wr.heap.size := Nat.lt_of_lt_of_le hbl HT.out.size
   obtain ⟨R, hR⟩ : ∃ R, R = g.rows := ⟨_, rfl⟩
   obtain ⟨K, hK⟩ : ∃ K, K = R.length := ⟨_, rfl⟩
   rw [← hR, ← hK] at c5
   rw [← hR] at hrw
   have HK : Hid (K = R.length ∧ R = g.rows ∧ K ≤ 65536) := ⟨hK, hR, by rw [hK, hR]; exact HRL.out g (List.mem_of_getElem? hg)⟩
   have HRW : Hid (RwIs w (fun b => rl b = 4) ra rc R) := hrw
   obtain ⟨pre, hpre⟩ : ∃ pre, pre = (gs.take i).flatMap gensOf := ⟨_, rfl⟩
   rw [← hpre] at HSL
   obtain ⟨pn, hpn⟩ : ∃ pn, pn = pre.length := ⟨_, rfl⟩
   rw [← hpre, ← hpn]
   have HPR : Hid (pn = pre.length ∧ pre = (gs.take i).flatMap gensOf) := ⟨hpn, hpre⟩
   have HPB : Hid (pn + K ≤ 524288) := hidS (by
    have h1 := HBD.out (i + 1) (by rw [← HL.out]; omega)
    have e1 : gs.take (i + 1) = gs.take i ++ [g] := by rw [List.take_add_one, hg]; rfl
    rw [e1, List.flatMap_append, List.length_append, ← hpre, ← hpn] at h1
    simp only [List.flatMap_cons, List.flatMap_nil, List.append_nil, gensOf_len] at h1
    rw [hK, hR]; exact h1)
   have HSL2 : Hid (Sl wr (fun b => w.heap.size ≤ b) 3 1 (.slice la pn lc) (ic pre) pn) := by rw [hpn]; exact HSL.out
   obtain ⟨W1, hW1⟩ : ∃ W1, W1 = wr.alloc (.cells #[.int .i64 g.base, .int .i64 g.h, .int .i64 g.p, .int .i64 g.m, .int .u32 (g.seed : Nat), .slice ra K rc] 123) := ⟨_, rfl⟩
   have HW1 : Hid (W1 = wr.alloc (.cells #[.int .i64 g.base, .int .i64 g.h, .int .i64 g.p, .int .i64 g.m, .int .u32 (g.seed : Nat), .slice ra K rc] 123)) := hW1
   have B2 : Hid (G2Rel w pre R K (.slice la pn lc) (.int .i64 0) W1) := hidS (by
    rw [hW1]
    refine ⟨0, by rw [hK]; omega, rfl, ?_, HT.out.new _⟩
    simp only [List.take_zero, List.map_nil, List.append_nil, Nat.add_zero]
    rw [← hpn]
    exact HSL2.out.turned (Turned.alloc (fun _ => False) _ _) fun _ _ z => z)
   clear hg hbl hb3 hnb gok hrw hR hK hpre hpn hW1 HSL
   go_wp2
   rw [← HW1.out]
   generalize wr = Wk at *
   generalize hgkk : gk = Gk at *
   clear hgkk
   go_loopg [3, 20] K (fun g lv iv wr => G2Rel w pre R g lv iv wr)
   case atStart => exact B2.out
   case round =>
    clear B2
    obtain ⟨j, hjg, rfl, hsl, ht⟩ := hrel
    have G2 : Hid (j + gk = R.length) := hjg
    have HT2 : Hid (Turned (fun b => w.heap.size ≤ b) w wr) := ht
    obtain ⟨ja, jc, rfl, -, -⟩ := hsl.value
    have HSJ : Hid _ := hidS hsl
    clear hjg ht hsl
    by_cases hlt3 : j < K
    ·obtain ⟨r, hr⟩ : ∃ r, R[j]? = some r := ⟨_, List.getElem?_eq_getElem (by rw [← HK.out.1]; exact hlt3)⟩
     have HR : Hid (R[j]? = some r) := hr
     obtain ⟨q, qo, rfl, hq4, hql, pa, pcap, hints, d0, d1, d2, d3, d4⟩ := rows_at HRW.out j r hr
     have hnq : ¬ w.heap.size ≤ q := by omega
     replace d0 := cell_at d0 HT2.out hnq
     replace d1 := cell_at d1 HT2.out hnq
     replace d2 := cell_at d2 HT2.out hnq
     replace d3 := cell_at d3 HT2.out hnq
     replace d4 := cell_at d4 HT2.out hnq
     have hqr : q < wr.heap.size := Nat.lt_of_lt_of_le hql HT2.out.size
     have m1 : Hid (pn + j + 1 ≤ maxLen ∧ (pn + j + 1) * 8 ≤ 140737488355328) := hidS (by have := HPB.out; simp only [maxLen]; omega)
     rw [← HPR.out.1] at HSJ
     rw [← HPR.out.1]
     obtain ⟨W2, hW2⟩ : ∃ W2, W2 = (wr.alloc (.cells #[.slice pa r.par.length pcap, .int .i64 r.tree, .int .i64 r.gen, .int .i64 r.state, .string r.bits] 48)).alloc (.cells #[.int .i64 r.gen] 3) := ⟨_, rfl⟩
     have T2 : Hid (Turned (fun _ => False) wr ((wr.alloc (.cells #[.slice pa r.par.length pcap, .int .i64 r.tree, .int .i64 r.gen, .int .i64 r.state, .string r.bits] 48)).alloc (.cells #[.int .i64 r.gen] 3))) := (Turned.alloc _ _ _).new _
     have SRC : Hid (Src Tryz.prog 1 41 (.slice (some ⟨wr.heap.size + 1, 0, none⟩) 1 1) 1 [.int .i64 r.gen] ((wr.alloc (.cells #[.slice pa r.par.length pcap, .int .i64 r.tree, .int .i64 r.gen, .int .i64 r.state, .string r.bits] 48)).alloc (.cells #[.int .i64 r.gen] 3))) := hidS (by
      have := src_one (P := Tryz.prog) Tryz.underlying41 (.int .i64 r.gen) rfl (wr.alloc (.cells #[.slice pa r.par.length pcap, .int .i64 r.tree, .int .i64 r.gen, .int .i64 r.state, .string r.bits] 48))
      simpa using this)
     clear hr hql hnq hints hq4 hW2
     go_wp2_with (at_builtin; refine wpList_append rfl _ _ 41 41 rfl (HSJ.out.turned (T := fun _ => False) T2.out (fun _ _ q => q)) Tryz.underlying41 info3g rfl (by decide) rfl (.slice (some ⟨wr.heap.size + 1, 0, none⟩) 1 1) rfl SRC.out m1.out.1 m1.out.2 ?_; intro v5 w5 hsl5 ht5; obtain ⟨a5, c5', rfl, -, -⟩ := hsl5.value; have Y : Hid _ := hidS (And.intro hsl5 ht5); clear hsl5 ht5)
     go_roundg (gk - 1)
     case measure => have := G2.out; have := HK.out; omega
     case rel =>
      refine ⟨j + 1, by have := G2.out; have := HK.out; omega, by have := HK.out; simp [wrap64]; omega, ?_, HT2.out.trans (T2.out.comp Y.out.2 fun i hi z => z.elim False.elim id) fun _ _ z => z⟩
      have e1 : R.take (j + 1) = R.take j ++ [r] := by rw [List.take_add_one, HR.out]; rfl
      rw [e1, List.map_append, ← List.append_assoc, ic_app, ← HPR.out.1]
      refine Y.out.1.widen fun b hb => ?_
      have h1 := HT2.out.size
      have h2 := T2.out.size
      rcases hb with z | z
      ·exact z
      ·omega
    ·have hj : j = K := by have := G2.out; have := HK.out; omega
     have HE2 : Hid (R.take j = R) := List.take_of_length_le (by have := HK.out; omega)
     rw [HE2.out] at HSJ
     clear hlt3
     subst hj
     go_wp2
     go_roundg (Gk - 1)
     case measure => have := G.out; have := HL.out; omega
     case rel =>
      have e1 : gs.take (i + 1) = gs.take i ++ [g] := by rw [List.take_add_one, HGI.out]; rfl
      have e2 : (gs.take (i + 1)).flatMap gensOf = pre ++ R.map (·.gen) := by
       rw [e1, List.flatMap_append, ← HPR.out.2, HK.out.2.1]; simp [gensOf]
      refine ⟨i + 1, by have := G.out; have := HL.out; omega, by have := HLM.out; have := HL.out; simp [wrap64]; omega, ?_, HT2.out⟩
      rw [e2, List.length_append, List.length_map, ← HK.out.1]
      exact HSJ.out
  ·have hi : i = L := by have := G.out; have := HL.out; omega
   have HE3 : Hid (gs.take i = gs) := List.take_of_length_le (by have := HL.out; omega)
   rw [HE3.out] at HSL
   rw [HE3.out]
   clear hlt2
   subst hi
   go_wp2
   rw [HZ.out]
   exact ⟨_, rfl, by rw [HE.out]; exact HSL.out, HT.out.mono fun i hi z => by omega⟩
end Go.Proofs.YtofcogekgcgjhaaGreatDoor

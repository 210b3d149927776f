/- Graph files that came in, as the walks want them. -/
import Derived.Test.YtfeljngmidhajaaArgC
import Derived.Test.YtfeljngmidhajaaMa
namespace Go.Proofs.Ytfeljngmidhajaa
open Go.ChangeShapes Go.WideShapes Go.ChangeAt Go.RowKit Go.Deep Go.Mine

section
variable {H : Type} {enc : TypeId × Value → H} {W : World} {held : Bool}

theorem reach_le2 : reachBytes ≤ 140737488351232 := by decide
theorem addr_zero (a : Addr) : a.add 0 = a := by
  obtain ⟨b, off, sp⟩ := a
  cases sp <;> simp [Addr.add]
theorem cells_one {w : World} {base : Nat} {a : Addr} {cs : List Value} (h : w.cells? base a 1 = some cs) : ∃ v, cs = [v] ∧ w.cell? a = some v := by
  obtain ⟨_, hl, hat⟩ := World.cells?_some h
  match cs, hl with
  | [v], _ =>
    have := hat 0 (by decide)
    rw [addr_zero] at this
    exact ⟨v, rfl, this⟩

theorem plain_addr {w : World} {a : Addr} {v : Value} (h : w.cell? a = some v) : ∃ b off, a = ⟨b, off, none⟩ ∧ b < w.heap.size := by
  obtain ⟨b, off, sp⟩ := a
  cases sp with
  | none =>
    refine ⟨b, off, rfl, ?_⟩
    apply Classical.byContradiction
    intro q
    simp [World.cell?, Array.getElem?_eq_none (by omega : w.heap.size ≤ b)] at h
  | some x =>
    exfalso
    simp only [World.cell?] at h
    split at h <;> simp at h

/-- ints that came in -/
theorem isInts {a : Option Addr} {len cap fuel : Nat} {x : DataW H × List MemPlace}
    (h : DataW.trod enc Try.prog W 0 (fun _ => true) held fuel 57 [.slice a len cap] = some x) (hw : ∀ n ∈ x.1.weights Try.prog 57, n ≤ reachBytes) :
    ∃ l : List Int, l.length = len ∧ Ints W (fun _ => True) a cap l ∧ cap * 8 ≤ 140737488351232 := by
  rcases open_slice Try.underlying57 h with ⟨hcs, _⟩ | ⟨ad, l, c, m, n, D, Pl, hcs, _, hl, hm, hmm, hx, hi⟩
  · simp at hcs
    obtain ⟨rfl, rfl, rfl⟩ := hcs
    exact ⟨[], rfl, ⟨Nat.le_refl _, by simp [maxLen], by simp, fun h => by simp at h⟩, by simp⟩
  · simp at hcs
    obtain ⟨rfl, rfl, rfl⟩ := hcs
    simp only [if_true] at hmm
    subst hmm
    have hc3 : Try.prog.cellsOf 3 = 1 := by kernel_rfl
    have hb3 : Try.prog.bytesOf 3 = 8 := by kernel_rfl
    have hcap : m * 8 ≤ 140737488351232 := by
      have := hw ((len + (m - len)) * 8) (by rw [hx]; simp only [DataW.weights, Try.underlying57, List.length_map, List.length_range, hb3]; exact List.mem_cons_self)
      rw [show len + (m - len) = m by omega] at this
      exact Nat.le_trans this reach_le2
    have hel : ∀ i, i < len → ∃ k : Int, I64 k ∧ W.cell? (ad.add i) = some (.int .i64 k) := fun i hi' => by
      obtain ⟨cs', h1, h2⟩ := hi i (by omega)
      rw [hc3, Nat.mul_one] at h1
      obtain ⟨v, rfl, hv⟩ := cells_one h1
      obtain ⟨k, hk, -, wk⟩ := DataW.trod_int Try.underlying3 h2
      obtain rfl : v = .int .i64 k := by simpa using hk
      exact ⟨k, _root_.Go.bounds_i64 wk, hv⟩
    obtain ⟨l, hll, hlp⟩ := listOf len hel
    refine ⟨l, hll, ⟨by omega, hm, fun k hk => ?_, fun h0 => ?_⟩, hcap⟩
    · obtain ⟨i, hi'⟩ := List.getElem?_of_mem hk
      exact (hlp i k hi').1
    · obtain ⟨-, c0⟩ := hlp 0 _ (List.getElem?_eq_getElem h0)
      rw [addr_zero] at c0
      obtain ⟨b, off, rfl, hb⟩ := plain_addr c0
      refine ⟨b, off, rfl, trivial, hb, fun i k hk => ?_⟩
      have := (hlp i k hk).2
      rwa [Addr.add_lit] at this

/-- a row that came in -/
theorem isRow {c0 c1 c2 c3 c4 : Value} {fuel : Nat} {x : DataW H × List MemPlace}
    (h : DataW.trod enc Try.prog W 0 (fun _ => true) held fuel 61 [c0, c1, c2, c3, c4] = some x) (hw : ∀ n ∈ x.1.weights Try.prog 61, n ≤ reachBytes) (hsl : ∃ a n c, c0 = .slice a n c) :
    ∃ (r : Rw) (a : Option Addr) (cap : Nat), Ints W (fun _ => True) a cap r.par ∧ cap * 8 ≤ 140737488351232 ∧ RwOk r ∧ c0 = .slice a r.par.length cap ∧ c1 = .int .i64 r.tree ∧ c2 = .int .i64 r.gen ∧ c3 = .int .i64 r.state ∧ c4 = .string r.bits := by
  obtain ⟨xs, n, -, hx, -, hlen, hg⟩ := DataW.trod_struct Try.underlying61 h
  have k57 : Try.prog.cellsOf 57 = 1 := by kernel_rfl
  have k3 : Try.prog.cellsOf 3 = 1 := by kernel_rfl
  have k59 : Try.prog.cellsOf 59 = 2 := by kernel_rfl
  have k9 : Try.prog.cellsOf 9 = 1 := by kernel_rfl
  match xs, hlen with
  | [y0, y1, y2, y3], _ =>
    have g0 : DataW.trod enc Try.prog W 0 (fun _ => true) held n 57 [c0] = some y0 := by have := hg 0 _ rfl; simpa [k57] using this
    have g1 : DataW.trod enc Try.prog W 0 (fun _ => true) held n 3 [c1] = some y1 := by have := hg 1 _ rfl; simpa [k3] using this
    have g2 : DataW.trod enc Try.prog W 0 (fun _ => true) held n 3 [c2] = some y2 := by have := hg 2 _ rfl; simpa [k3] using this
    have g3 : DataW.trod enc Try.prog W 0 (fun _ => true) held n 59 [c3, c4] = some y3 := by have := hg 3 _ rfl; simpa [k59] using this
    obtain ⟨a, len, cap, rfl⟩ := hsl
    have hwe : ∀ n ∈ DataW.weights Try.prog 61 (.agg [y0.1, y1.1, y2.1, y3.1]), n ≤ reachBytes := fun n hn => hw n (by rw [hx]; exact hn)
    simp only [DataW.weights, Try.underlying61] at hwe
    obtain ⟨l, hl, hin, hcap⟩ := isInts g0 fun n hn => hwe n (DataW.weights_mem_each (j := 0) (t := 57) (d := y0.1) rfl rfl n hn)
    subst hl
    obtain ⟨t, ht, -, wt⟩ := DataW.trod_int Try.underlying3 g1
    obtain ⟨g, hgn, -, wg⟩ := DataW.trod_int Try.underlying3 g2
    obtain rfl : c1 = .int .i64 t := by simpa using ht
    obtain rfl : c2 = .int .i64 g := by simpa using hgn
    obtain ⟨zs, n3, -, hz, -, hzl, hf⟩ := DataW.trod_struct Try.underlying59 g3
    match zs, hzl with
    | [z0, z1], _ =>
      have f0 : DataW.trod enc Try.prog W 0 (fun _ => true) held n3 3 [c3] = some z0 := by have := hf 0 _ rfl; simpa [k3] using this
      have f1 : DataW.trod enc Try.prog W 0 (fun _ => true) held n3 9 [c4] = some z1 := by have := hf 1 _ rfl; simpa [k9] using this
      obtain ⟨s, hs, -, ws⟩ := DataW.trod_int Try.underlying3 f0
      obtain ⟨b, hb, hb2, -⟩ := DataW.trod_string Try.underlying9 f1
      obtain rfl : c3 = .int .i64 s := by simpa using hs
      obtain rfl : c4 = .string b := by simpa using hb
      have hbs : b.size ≤ reachBytes := by
        refine hwe b.size (DataW.weights_mem_each (j := 3) (t := 59) (d := y3.1) rfl rfl _ ?_)
        rw [hz]
        simp only [DataW.weights, Try.underlying59]
        refine DataW.weights_mem_each (j := 1) (t := 9) (d := z1.1) rfl rfl _ ?_
        rw [hb2]
        simp [DataW.weights]
      exact ⟨⟨l, t, g, s, b⟩, a, cap, hin, hcap, ⟨_root_.Go.bounds_i64 wt, _root_.Go.bounds_i64 wg, _root_.Go.bounds_i64 ws, Nat.le_trans hbs reach_le⟩, rfl, rfl, rfl, rfl, rfl⟩

/-- rows that came in -/
theorem isRows {a : Option Addr} {len cap fuel : Nat} {x : DataW H × List MemPlace}
    (h : DataW.trod enc Try.prog W 0 (fun _ => true) held fuel 38 [.slice a len cap] = some x) (hw : ∀ n ∈ x.1.weights Try.prog 38, n ≤ reachBytes) :
    ∃ l : List Rw, l.length = len ∧ RwIs W (fun _ => True) a cap l ∧ cap * 64 ≤ 140737488351232 ∧ ∀ r ∈ l, r.par.length * 8 ≤ 140737488351232 := by
  rcases open_slice Try.underlying38 h with ⟨hcs, _⟩ | ⟨ad, l, c, m, n, D, Pl, hcs, _, hl, hm, hmm, hx, hi⟩
  · simp at hcs
    obtain ⟨rfl, rfl, rfl⟩ := hcs
    exact ⟨[], rfl, ⟨Nat.le_refl _, by simp [maxLen], by simp, fun h => by simp at h⟩, by simp, by simp⟩
  · simp at hcs
    obtain ⟨rfl, rfl, rfl⟩ := hcs
    simp only [if_true] at hmm
    subst hmm
    have hc61 : Try.prog.cellsOf 61 = 5 := by kernel_rfl
    have hb61 : Try.prog.bytesOf 61 = 64 := by kernel_rfl
    rw [hx] at hw
    have hwts : ∀ n ∈ (len + (m - len)) * 64 :: (DataW.weightsAll Try.prog 61 ((List.range len).map D) ++ DataW.weightsAll Try.prog 61 ((List.range (m - len)).map fun j => D (len + j))), n ≤ reachBytes := by
      intro n hn
      refine hw n ?_
      simp only [DataW.weights, Try.underlying38, List.length_map, List.length_range, hb61]
      exact hn
    have hcap : m * 64 ≤ 140737488351232 := by
      have := hwts _ (List.mem_cons_self)
      rw [show len + (m - len) = m by omega] at this
      exact Nat.le_trans this reach_le2
    have hel : ∀ i, i < len → ∃ r : Rw, RwOk r ∧ r.par.length * 8 ≤ 140737488351232 ∧ ∃ ra rcap, Ints W (fun _ => True) ra rcap r.par ∧ W.cell? (ad.add (i * 5)) = some (.slice ra r.par.length rcap) ∧ W.cell? (ad.add (i * 5 + 1)) = some (.int .i64 r.tree) ∧ W.cell? (ad.add (i * 5 + 2)) = some (.int .i64 r.gen) ∧ W.cell? (ad.add (i * 5 + 3)) = some (.int .i64 r.state) ∧ W.cell? (ad.add (i * 5 + 4)) = some (.string r.bits) := fun i hi' => by
      obtain ⟨cs', h1, h2⟩ := hi i (by omega)
      rw [hc61] at h1
      obtain ⟨_, hcl, hat⟩ := World.cells?_some h1
      match cs', hcl with
      | [c0, c1, c2, c3, c4], _ =>
        have e0 := hat 0 (by decide)
        have e1 := hat 1 (by decide)
        have e2 := hat 2 (by decide)
        have e3 := hat 3 (by decide)
        have e4 := hat 4 (by decide)
        simp only [Go.Deep.add_add] at e0 e1 e2 e3 e4
        have hs0 : ∃ a n c, c0 = .slice a n c := by
          obtain ⟨xs, n', -, -, -, hlen, hg⟩ := DataW.trod_struct Try.underlying61 h2
          have k57 : Try.prog.cellsOf 57 = 1 := by kernel_rfl
          match xs, hlen with
          | [y0, y1, y2, y3], _ =>
            have g0 : DataW.trod enc Try.prog W 0 (fun _ => true) held n' 57 [c0] = some y0 := by have := hg 0 _ rfl; simpa [k57] using this
            rcases DataW.trod_slice Try.underlying57 g0 with ⟨q, -⟩ | ⟨_, _, _, _, _, _, _, q, -⟩
            · exact ⟨_, _, _, by simpa using q⟩
            · exact ⟨_, _, _, by simpa using q⟩
        obtain ⟨r, ra, rcap, hin, hrc, hok, rfl, rfl, rfl, rfl, rfl⟩ := isRow h2 (fun n hn => hwts n (List.mem_cons_of_mem _ (List.mem_append_left _ (weightsAll_mem (d := D i) (List.mem_map.2 ⟨i, by simpa using hi', rfl⟩) _ hn)))) hs0
        refine ⟨r, hok, ?_, ra, rcap, hin, by simpa using e0, by simpa using e1, by simpa using e2, by simpa using e3, by simpa using e4⟩
        have := hin.1
        omega
    obtain ⟨l, hll, hlp⟩ := listOf len hel
    refine ⟨l, hll, ⟨by omega, hm, fun r hr => ?_, fun h0 => ?_⟩, hcap, fun r hr => ?_⟩
    · obtain ⟨i, hi'⟩ := List.getElem?_of_mem hr
      exact (hlp i r hi').1
    · obtain ⟨-, -, ra, rcap, -, c0, -⟩ := hlp 0 _ (List.getElem?_eq_getElem h0)
      rw [Nat.zero_mul, addr_zero] at c0
      obtain ⟨b, off, rfl, hb⟩ := plain_addr c0
      refine ⟨b, off, rfl, trivial, hb, fun i r hr => ?_⟩
      obtain ⟨-, -, ra, rcap, hin, c0, c1, c2, c3, c4⟩ := hlp i r hr
      rw [Addr.add_lit] at c0 c1 c2 c3 c4
      simp only [← Nat.add_assoc] at c1 c2 c3 c4
      exact ⟨ra, rcap, hin, c0, c1, c2, c3, c4⟩
    · obtain ⟨i, hi'⟩ := List.getElem?_of_mem hr
      exact (hlp i r hi').2.1

set_option maxRecDepth 100000 in
/-- a graph file that came in -/
theorem isGraph {cs : Array Value} {fuel : Nat} {x : DataW H × List MemPlace} (hsz : cs.size = 6)
    (h : DataW.trod enc Try.prog W 0 (fun _ => true) held fuel 40 cs.toList = some x) (hw : ∀ n ∈ x.1.weights Try.prog 40, n ≤ reachBytes) :
    ∃ (g : Gr) (a : Option Addr) (cap : Nat), Value.agg cs = grv a cap g ∧ GrOk g ∧ RwIs W (fun _ => True) a cap g.rows ∧ cap * 64 ≤ 140737488351232 ∧ ∀ r ∈ g.rows, r.par.length * 8 ≤ 140737488351232 := by
  obtain ⟨xs, n, -, hx, -, hlen, hg⟩ := DataW.trod_struct Try.underlying40 h
  have k3 : Try.prog.cellsOf 3 = 1 := by kernel_rfl
  have k37 : Try.prog.cellsOf 37 = 4 := by kernel_rfl
  have k38 : Try.prog.cellsOf 38 = 1 := by kernel_rfl
  have k29 : Try.prog.cellsOf 29 = 1 := by kernel_rfl
  obtain ⟨l⟩ := cs
  match l, hsz with
  | [c0, c1, c2, c3, c4, c5], _ =>
    match xs, hlen with
    | [y0, y1, y2], _ =>
      have g0 : DataW.trod enc Try.prog W 0 (fun _ => true) held n 3 [c0] = some y0 := by have := hg 0 _ rfl; simpa [k3] using this
      have g1 : DataW.trod enc Try.prog W 0 (fun _ => true) held n 37 [c1, c2, c3, c4] = some y1 := by have := hg 1 _ rfl; simpa [k37] using this
      have g2 : DataW.trod enc Try.prog W 0 (fun _ => true) held n 38 [c5] = some y2 := by have := hg 2 _ rfl; simpa [k38] using this
      have hwe : ∀ n ∈ DataW.weights Try.prog 40 (.agg [y0.1, y1.1, y2.1]), n ≤ reachBytes := fun n hn => hw n (by rw [hx]; exact hn)
      simp only [DataW.weights, Try.underlying40] at hwe
      obtain ⟨b, hb, -, wb⟩ := DataW.trod_int Try.underlying3 g0
      obtain rfl : c0 = .int .i64 b := by simpa using hb
      obtain ⟨zs, n3, -, hz, -, hzl, hf⟩ := DataW.trod_struct Try.underlying37 g1
      match zs, hzl with
      | [z0, z1, z2, z3], _ =>
        have f0 : DataW.trod enc Try.prog W 0 (fun _ => true) held n3 3 [c1] = some z0 := by have := hf 0 _ rfl; simpa [k3] using this
        have f1 : DataW.trod enc Try.prog W 0 (fun _ => true) held n3 3 [c2] = some z1 := by have := hf 1 _ rfl; simpa [k3] using this
        have f2 : DataW.trod enc Try.prog W 0 (fun _ => true) held n3 3 [c3] = some z2 := by have := hf 2 _ rfl; simpa [k3] using this
        have f3 : DataW.trod enc Try.prog W 0 (fun _ => true) held n3 29 [c4] = some z3 := by have := hf 3 _ rfl; simpa [k29] using this
        obtain ⟨h0, e0, -, w0⟩ := DataW.trod_int Try.underlying3 f0
        obtain ⟨p0, e1, -, w1⟩ := DataW.trod_int Try.underlying3 f1
        obtain ⟨m0, e2, -, w2⟩ := DataW.trod_int Try.underlying3 f2
        obtain ⟨s0, e3, -, w3⟩ := DataW.trod_int Try.underlying29 f3
        obtain rfl : c1 = .int .i64 h0 := by simpa using e0
        obtain rfl : c2 = .int .i64 p0 := by simpa using e1
        obtain rfl : c3 = .int .i64 m0 := by simpa using e2
        obtain rfl : c4 = .int .u32 s0 := by simpa using e3
        have hs0 : ∃ a n c, c5 = .slice a n c := by
          rcases DataW.trod_slice Try.underlying38 g2 with ⟨q, -⟩ | ⟨_, _, _, _, _, _, _, q, -⟩
          · exact ⟨_, _, _, by simpa using q⟩
          · exact ⟨_, _, _, by simpa using q⟩
        obtain ⟨a, len, cap, rfl⟩ := hs0
        obtain ⟨rows, hl, hr, hcap, hpl⟩ := isRows g2 fun n hn => hwe n (DataW.weights_mem_each (j := 2) (t := 38) (d := y2.1) rfl rfl n hn)
        subst hl
        have hsb := _root_.Go.bounds_u32 w3
        refine ⟨⟨b, h0, p0, m0, s0.toNat, rows⟩, a, cap, ?_, ⟨_root_.Go.bounds_i64 wb, _root_.Go.bounds_i64 w0, _root_.Go.bounds_i64 w1, _root_.Go.bounds_i64 w2, ?_⟩, hr, hcap, hpl⟩
        · show Value.agg #[.int .i64 b, .int .i64 h0, .int .i64 p0, .int .i64 m0, .int .u32 s0, .slice a rows.length cap] = Value.agg #[.int .i64 b, .int .i64 h0, .int .i64 p0, .int .i64 m0, .int .u32 ((s0.toNat : Nat) : Int), .slice a rows.length cap]
          rw [show ((s0.toNat : Nat) : Int) = s0 by omega]
        · show s0.toNat < 4294967296
          omega
end
end Go.Proofs.Ytfeljngmidhajaa

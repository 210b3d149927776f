/- Arguments that came in. -/
import Derived.Test.YteblabpplaaddaaGreatDoorMx
import Derived.WalkKit
import Derived.ProofKit
import Derived.OpenShut
import Derived.ShutString
import Derived.ChangeOld
import Derived.Below
import Derived.Deep.Slices
import Derived.Deep.Strs
import Derived.ChangeSame
import Derived.SizedLaws
import Derived.Test.YteblabpplaaddaaGreatDoorRows
import Derived.Test.YteblabpplaaddaaGreatDoorMs
set_option linter.unusedVariables false
set_option linter.unusedSimpArgs false
namespace Go.Proofs.YteblabpplaaddaaGreatDoor
open Go.ChangeShapes Go.WideShapes Go.ChangeAt Go.RowKit Go.Deep Go.Mine Go.Mine.Sc

theorem laidOut : laidOutB Tryz.prog = true := by kernel_rfl
theorem weightsAll_mem {H : Type} {P : Program} {e : TypeId} : ∀ {ds : List (DataW H)} {d : DataW H}, d ∈ ds → ∀ n ∈ d.weights P e, n ∈ DataW.weightsAll P e ds
  | [], d, h, n, _ => by simp at h
  | d0 :: ds, d, h, n, hn => by
    simp only [DataW.weightsAll, List.mem_append]
    rcases List.mem_cons.1 h with rfl | h
    · exact .inl hn
    · exact .inr (weightsAll_mem h n hn)
theorem listOf {α : Type} {p : Nat → α → Prop} : ∀ n, (∀ i, i < n → ∃ c, p i c) → ∃ l : List α, l.length = n ∧ ∀ i c, l[i]? = some c → p i c
  | 0, _ => ⟨[], rfl, fun i c h => by simp at h⟩
  | n + 1, h => by
    obtain ⟨l, hl, hp⟩ := listOf n fun i hi => h i (by omega)
    obtain ⟨c, hc⟩ := h n (by omega)
    refine ⟨l ++ [c], by simp [hl], fun i d hd => ?_⟩
    rw [List.getElem?_append] at hd
    split at hd
    · exact hp i d hd
    · have : i = n := by
        have := (List.getElem?_eq_some_iff.1 hd).1
        simp at this
        omega
      subst this
      rw [hl, Nat.sub_self] at hd
      simp at hd
      subst hd
      exact hc
theorem plain_addr {w : World} {a : Addr} {v : Value} (h : w.cell? a = some v) : ∃ b off, a = ⟨b, off, none⟩ ∧ b < w.heap.size := by
  obtain ⟨b, off, sp⟩ := a
  cases sp with
  | none =>
    refine ⟨b, off, rfl, ?_⟩
    apply Classical.byContradiction
    intro q
    simp [World.cell?, Array.getElem?_eq_none (by omega : w.heap.size ≤ b)] at h
  | some x =>
    exfalso
    simp only [World.cell?] at h
    split at h <;> simp at h
theorem addr_zero (a : Addr) : a.add 0 = a := by
  obtain ⟨b, off, sp⟩ := a
  cases sp <;> simp [Addr.add]
theorem addr_cell {a : Addr} {w : World} {v : Value} (h : w.cell? (a.add 0) = some v) : ∃ b off, a = ⟨b, off, none⟩ ∧ b < w.heap.size := by
  rw [addr_zero] at h
  exact plain_addr h

section
variable {H : Type} {enc : TypeId × Value → H} {W : World} {held : Bool}
theorem str_weight {H : Type} (P : Program) (s : ByteArray) : s.size ∈ DataW.weights P 9 (.lit (.string s.data.toList) : DataW H) := by simp [DataW.weights]
set_option maxRecDepth 100000 in
theorem isStrs {a : Option Addr} {len cap fuel : Nat} {x : DataW H × List MemPlace}
    (h : DataW.trod enc Tryz.prog W 0 (fun _ => true) held fuel 24 [.slice a len cap] = some x) (hw : ∀ n ∈ x.1.weights Tryz.prog 24, n ≤ reachBytes) :
    ∃ l : List B, l.length = len ∧ Rd W (fun _ => True) 1 (.slice a len cap) (scells l) len ∧ (∀ y ∈ l, y.length ≤ reachBytes) := by
  rcases open_strs Tryz.underlying24 Tryz.underlying9 (by kernel_rfl) h with ⟨hcs, _⟩ | ⟨ad, l, c, m, Sx, hcs, _, hl, hm, hmm, hx, hi⟩
  · simp at hcs
    obtain ⟨rfl, rfl, rfl⟩ := hcs
    exact ⟨[], rfl, ⟨rfl, none, 0, rfl, Nat.le_refl _, by simp [maxLen], fun q => by omega⟩, by simp⟩
  · simp at hcs
    obtain ⟨rfl, rfl, rfl⟩ := hcs
    simp only [if_true] at hmm
    subst hmm
    have hwe : ∀ i, i < len → (Sx i).size ≤ reachBytes := fun i hi' => by
      refine hw _ ?_
      rw [hx]
      simp only [DataW.weights, Tryz.underlying24]
      refine List.mem_cons_of_mem _ (List.mem_append_left _ (weightsAll_mem (d := .lit (.string (Sx i).data.toList)) (List.mem_map.2 ⟨i, List.mem_range.2 hi', rfl⟩) _ ?_))
      exact str_weight _ _
    obtain ⟨l, hll, hlp⟩ := listOf (p := fun i (y : B) => bs y = Sx i) len fun i hi' => ⟨(Sx i).data.toList, by simp [bs]⟩
    refine ⟨l, hll, ⟨by simp [scells, hll], some ad, m, rfl, hl, hm, fun q => ?_⟩, fun y hy => ?_⟩
    · obtain ⟨b, off, rfl, hb⟩ := addr_cell (hi 0 (by omega)).1
      refine ⟨b, off, rfl, trivial, hb, fun j hj => ?_⟩
      have hj' : j < l.length := by omega
      have h1 := (hi j (by omega)).1
      rw [Addr.add_lit] at h1
      rw [h1, ← hlp j l[j] (List.getElem?_eq_getElem hj')]
      simp [scells, hj']
    · obtain ⟨i, hi'⟩ := List.getElem?_of_mem hy
      have := hlp i y hi'
      have hlt := (List.getElem?_eq_some_iff.1 hi').1
      have h2 := hwe i (by omega)
      rw [← this, bs_size] at h2
      exact h2
end
end Go.Proofs.YteblabpplaaddaaGreatDoor

set_option linter.unusedVariables false
set_option linter.unusedSimpArgs false
namespace Go.Proofs.YteblabpplaaddaaGreatDoor
open Go.ChangeShapes Go.WideShapes Go.ChangeAt Go.RowKit Go.Deep Go.Mine Go.Mine.Sc

theorem bulk_one {H : Type} (d : DataW H) : 1 ≤ Rows.uptoBulk d := by
  cases d with
  | lit l => cases l <;> simp [Rows.uptoBulk]
  | _ => simp [Rows.uptoBulk]
theorem bulk_mem {H : Type} {d : DataW H} : ∀ {l : List (DataW H)}, d ∈ l → Rows.uptoBulk d ≤ Rows.uptoBulkAll l
  | [], h => by simp at h
  | x :: r, h => by
    simp only [Rows.uptoBulkAll]
    rcases List.mem_cons.1 h with rfl | h
    · omega
    · have := bulk_mem h
      omega
theorem bulk_len {H : Type} : ∀ (l : List (DataW H)), l.length ≤ Rows.uptoBulkAll l
  | [] => Nat.zero_le _
  | x :: r => by
    have := bulk_len r
    have := bulk_one x
    simp only [Rows.uptoBulkAll, List.length_cons]; omega
theorem bulk_elem {H : Type} {elems spare : List (DataW H)} {k : Nat} (h : Rows.uptoBulk (.slice elems spare) ≤ k) : elems.length ≤ k ∧ ∀ d ∈ elems, Rows.uptoBulk d ≤ k := by
  simp only [Rows.uptoBulk] at h
  have := bulk_len elems
  exact ⟨by omega, fun d hd => by have := bulk_mem hd; omega⟩
theorem bulk_part {H : Type} {parts : List (DataW H)} {k : Nat} (h : Rows.uptoBulk (.agg parts) ≤ k) : ∀ d ∈ parts, Rows.uptoBulk d ≤ k := fun d hd => by
  simp only [Rows.uptoBulk] at h
  have := bulk_mem hd
  omega
theorem bulk_text {H : Type} {s : ByteArray} {k : Nat} (h : Rows.uptoBulk (DataW.lit (H := H) (.string s.data.toList)) ≤ k) : s.size ≤ k := by
  have e : Rows.uptoBulk (DataW.lit (H := H) (.string s.data.toList)) = s.data.toList.length + 1 := by simp [Rows.uptoBulk]
  rw [e] at h
  have : s.data.toList.length = s.size := by rw [Array.length_toList]; rfl
  omega
theorem cells_one {w : World} {base : Nat} {a : Addr} {cs : List Value} (h : w.cells? base a 1 = some cs) : ∃ v, cs = [v] ∧ w.cell? a = some v := by
  obtain ⟨_, hl, hat⟩ := World.cells?_some h
  match cs, hl with
  | [v], _ =>
    have := hat 0 (by decide)
    rw [addr_zero] at this
    exact ⟨v, rfl, this⟩
theorem text_of (s : ByteArray) : ∃ x : B, s = bs x ∧ x.length = s.size := ⟨s.data.toList, by simp [bs], by rw [Array.length_toList]; rfl⟩

section
variable {H : Type} {enc : TypeId × Value → H} {W : World} {held : Bool}

set_option maxRecDepth 100000 in
/-- numbers that came in -/
theorem isInts {a : Option Addr} {len cap fuel : Nat} {x : DataW H × List MemPlace}
    (h : DataW.trod enc Tryz.prog W 0 (fun _ => true) held fuel 34 [.slice a len cap] = some x) (hw : Rows.uptoBulk x.1 ≤ 1048576) :
    ∃ l : List Int, l.length = len ∧ len ≤ 1048576 ∧ Rd W (fun _ => True) 1 (.slice a len cap) (icells l) len ∧ ∀ n ∈ l, I64 n := by
  rcases open_slice Tryz.underlying34 h with ⟨hcs, _⟩ | ⟨ad, l, c, m, n, D, Pl, hcs, _, hl, hm, hmm, hx, hi⟩
  · simp at hcs
    obtain ⟨rfl, rfl, rfl⟩ := hcs
    exact ⟨[], rfl, by decide, ⟨rfl, none, 0, rfl, Nat.le_refl _, by simp [maxLen], fun q => by omega⟩, by simp⟩
  · simp at hcs
    obtain ⟨rfl, rfl, rfl⟩ := hcs
    simp only [if_true] at hmm
    subst hmm
    have hc3 : Tryz.prog.cellsOf 3 = 1 := by kernel_rfl
    rw [hx] at hw
    obtain ⟨b1, -⟩ := bulk_elem hw
    simp only [List.length_map, List.length_range] at b1
    have hel : ∀ i, i < len → ∃ k : Int, I64 k ∧ W.cell? (ad.add i) = some (.int .i64 k) := fun i hi' => by
      obtain ⟨cs', h1, h2⟩ := hi i (by omega)
      rw [hc3, Nat.mul_one] at h1
      obtain ⟨v, rfl, hv⟩ := cells_one h1
      obtain ⟨k, hk, -, wk⟩ := DataW.trod_int Tryz.underlying3 h2
      obtain rfl : v = .int .i64 k := by simpa using hk
      exact ⟨k, _root_.Go.bounds_i64 wk, hv⟩
    obtain ⟨l, hll, hlp⟩ := listOf len hel
    refine ⟨l, hll, b1, ⟨by rw [icells_length, hll, Nat.mul_one], some ad, m, rfl, hl, hm, fun q => ?_⟩, fun k hk => ?_⟩
    · obtain ⟨-, c0⟩ := hlp 0 _ (List.getElem?_eq_getElem (by omega))
      rw [addr_zero] at c0
      obtain ⟨b, off, rfl, hb⟩ := plain_addr c0
      refine ⟨b, off, rfl, trivial, hb, fun i hi' => ?_⟩
      obtain ⟨-, ci⟩ := hlp i _ (List.getElem?_eq_getElem (by omega))
      rw [Addr.add_lit] at ci
      rw [ci]
      simp [icells, List.getElem?_eq_getElem (show i < l.length by omega)]
    · obtain ⟨i, hi'⟩ := List.getElem?_of_mem hk
      exact (hlp i k hi').1

set_option maxRecDepth 100000 in
/-- entries that came in -/
theorem isEnts {a : Option Addr} {len cap fuel : Nat} {x : DataW H × List MemPlace}
    (h : DataW.trod enc Tryz.prog W 0 (fun _ => true) held fuel 35 [.slice a len cap] = some x) (hw : Rows.uptoBulk x.1 ≤ 1048576) :
    ∃ l : List (B × Int), l.length = len ∧ len ≤ 1048576 ∧ Rd W (fun _ => True) 2 (.slice a len cap) (tcells l) len ∧ ∀ e ∈ l, e.1.length ≤ 1048576 ∧ 0 ≤ e.2 ∧ e.2 < 4294967296 := by
  rcases open_slice Tryz.underlying35 h with ⟨hcs, _⟩ | ⟨ad, l, c, m, n, D, Pl, hcs, _, hl, hm, hmm, hx, hi⟩
  · simp at hcs
    obtain ⟨rfl, rfl, rfl⟩ := hcs
    exact ⟨[], rfl, by decide, ⟨rfl, none, 0, rfl, Nat.le_refl _, by simp [maxLen], fun q => by omega⟩, by simp⟩
  · simp at hcs
    obtain ⟨rfl, rfl, rfl⟩ := hcs
    simp only [if_true] at hmm
    subst hmm
    have hc54 : Tryz.prog.cellsOf 54 = 2 := by kernel_rfl
    have k9 : Tryz.prog.cellsOf 9 = 1 := by kernel_rfl
    have k52 : Tryz.prog.cellsOf 52 = 1 := by kernel_rfl
    rw [hx] at hw
    obtain ⟨b1, b2⟩ := bulk_elem hw
    simp only [List.length_map, List.length_range] at b1
    have hel : ∀ i, i < len → ∃ e : B × Int, (e.1.length ≤ 1048576 ∧ 0 ≤ e.2 ∧ e.2 < 4294967296) ∧ W.cell? (ad.add (i * 2)) = some (.string (bs e.1)) ∧ W.cell? (ad.add (i * 2 + 1)) = some (.int .u32 e.2) := fun i hi' => by
      obtain ⟨cs', h1, h2⟩ := hi i (by omega)
      rw [hc54] at h1
      obtain ⟨_, hcl, hat⟩ := World.cells?_some h1
      match cs', hcl with
      | [c0, c1], _ =>
        have e0 := hat 0 (by decide)
        have e1 := hat 1 (by decide)
        simp only [Go.Deep.add_add] at e0 e1
        obtain ⟨zs, n3, -, hz, -, hzl, hf⟩ := DataW.trod_struct Tryz.underlying54 h2
        match zs, hzl with
        | [z0, z1], _ =>
          have f0 : DataW.trod enc Tryz.prog W 0 (fun _ => true) held n3 9 [c0] = some z0 := by have := hf 0 _ rfl; simpa [k9] using this
          have f1 : DataW.trod enc Tryz.prog W 0 (fun _ => true) held n3 52 [c1] = some z1 := by have := hf 1 _ rfl; simpa [k52] using this
          obtain ⟨b, hb, hb2, -⟩ := DataW.trod_string Tryz.underlying9 f0
          obtain ⟨s, hs, -, ws⟩ := DataW.trod_int Tryz.underlying52 f1
          obtain rfl : c0 = .string b := by simpa using hb
          obtain rfl : c1 = .int .u32 s := by simpa using hs
          have hD : D i = .agg [z0.1, z1.1] := (Prod.mk.inj hz).1
          have q := bulk_part (hD ▸ b2 (D i) (List.mem_map.2 ⟨i, by simpa using hi', rfl⟩)) z0.1 (by simp)
          rw [hb2] at q
          obtain ⟨y, rfl, hy⟩ := text_of b
          have hu := _root_.Go.bounds_u32 ws
          exact ⟨(y, s), ⟨by have := bulk_text q; show y.length ≤ 1048576; omega, hu.1, by show s < 4294967296; omega⟩, by simpa using e0, by simpa using e1⟩
    obtain ⟨l, hll, hlp⟩ := listOf len hel
    have htl : (tcells l).length = len * 2 := by
      have : ∀ l : List (B × Int), (tcells l).length = l.length * 2 := fun l => by
        induction l with
        | nil => rfl
        | cons p l ih => simp only [tcells, List.length_cons, ih]; omega
      rw [this, hll]
    refine ⟨l, hll, b1, ⟨htl, some ad, m, rfl, hl, hm, fun q => ?_⟩, fun k hk => ?_⟩
    · obtain ⟨-, c0, -⟩ := hlp 0 _ (List.getElem?_eq_getElem (by omega))
      rw [Nat.zero_mul, addr_zero] at c0
      obtain ⟨b, off, rfl, hb⟩ := plain_addr c0
      refine ⟨b, off, rfl, trivial, hb, fun j hj => ?_⟩
      have hj2 : j / 2 < l.length := by omega
      obtain ⟨-, ci, di⟩ := hlp (j / 2) _ (List.getElem?_eq_getElem hj2)
      rw [Addr.add_lit] at ci di
      obtain ⟨t0, t1⟩ := tcells_at l (j / 2) l[j / 2].1 l[j / 2].2 (List.getElem?_eq_getElem hj2)
      rcases Nat.mod_two_eq_zero_or_one j with h0 | h1
      · have e : j = j / 2 * 2 := by omega
        rw [← e] at ci t0
        rw [ci, t0]
      · have e : j = j / 2 * 2 + 1 := by omega
        rw [← e] at di t1
        rw [di, t1]
    · obtain ⟨i, hi'⟩ := List.getElem?_of_mem hk
      exact (hlp i k hi').1

theorem slice_kind {t e : TypeId} {c : Value} {fuel : Nat} {x : DataW H × List MemPlace} (hu : Tryz.prog.underlying t = some (.slice e)) (h : DataW.trod enc Tryz.prog W 0 (fun _ => true) held fuel t [c] = some x) : ∃ a n k, c = .slice a n k := by
  rcases DataW.trod_slice hu h with ⟨q, -⟩ | ⟨_, _, _, _, _, _, _, q, -⟩
  · exact ⟨_, _, _, by simpa using q⟩
  · exact ⟨_, _, _, by simpa using q⟩

set_option maxRecDepth 100000 in
/-- a command that came in -/
theorem isCmd {c0 c1 c2 c3 c4 c5 c6 c7 c8 c9 c10 : Value} {fuel : Nat} {x : DataW H × List MemPlace}
    (h : DataW.trod enc Tryz.prog W 0 (fun _ => true) held fuel 40 [c0, c1, c2, c3, c4, c5, c6, c7, c8, c9, c10] = some x) (hw : Rows.uptoBulk x.1 ≤ 1048576) :
    ∃ c : Cmd, CmdR W (fun _ => True) c #[c0, c1, c2, c3, c4, c5, c6, c7, c8, c9, c10] ∧ CmdOk c ∧ CmdFew c := by
  obtain ⟨xs, n, -, hx, -, hlen, hg⟩ := DataW.trod_struct Tryz.underlying40 h
  have k3 : Tryz.prog.cellsOf 3 = 1 := by kernel_rfl
  have k34 : Tryz.prog.cellsOf 34 = 1 := by kernel_rfl
  have k9 : Tryz.prog.cellsOf 9 = 1 := by kernel_rfl
  have k35 : Tryz.prog.cellsOf 35 = 1 := by kernel_rfl
  have k37 : Tryz.prog.cellsOf 37 = 6 := by kernel_rfl
  match xs, hlen with
  | [y0, y1, y2, y3, y4, y5], _ =>
    have g0 : DataW.trod enc Tryz.prog W 0 (fun _ => true) held n 3 [c0] = some y0 := by have := hg 0 _ rfl; simpa [k3] using this
    have g1 : DataW.trod enc Tryz.prog W 0 (fun _ => true) held n 34 [c1] = some y1 := by have := hg 1 _ rfl; simpa [k34] using this
    have g2 : DataW.trod enc Tryz.prog W 0 (fun _ => true) held n 9 [c2] = some y2 := by have := hg 2 _ rfl; simpa [k9] using this
    have g3 : DataW.trod enc Tryz.prog W 0 (fun _ => true) held n 9 [c3] = some y3 := by have := hg 3 _ rfl; simpa [k9] using this
    have g4 : DataW.trod enc Tryz.prog W 0 (fun _ => true) held n 35 [c4] = some y4 := by have := hg 4 _ rfl; simpa [k35] using this
    have g5 : DataW.trod enc Tryz.prog W 0 (fun _ => true) held n 37 [c5, c6, c7, c8, c9, c10] = some y5 := by have := hg 5 _ rfl; simpa [k37] using this
    rw [hx] at hw
    have hp := bulk_part hw
    have p1 := hp y1.1 (by simp)
    have p2 := hp y2.1 (by simp)
    have p3 := hp y3.1 (by simp)
    have p4 := hp y4.1 (by simp)
    have p5 := hp y5.1 (by simp)
    clear hp hw
    obtain ⟨zs, n3, -, hz, -, hzl, hf⟩ := DataW.trod_struct Tryz.underlying37 g5
    match zs, hzl with
    | [z0, z1, z2, z3, z4, z5], _ =>
      have f0 : DataW.trod enc Tryz.prog W 0 (fun _ => true) held n3 3 [c5] = some z0 := by have := hf 0 _ rfl; simpa [k3] using this
      have f1 : DataW.trod enc Tryz.prog W 0 (fun _ => true) held n3 3 [c6] = some z1 := by have := hf 1 _ rfl; simpa [k3] using this
      have f2 : DataW.trod enc Tryz.prog W 0 (fun _ => true) held n3 3 [c7] = some z2 := by have := hf 2 _ rfl; simpa [k3] using this
      have f3 : DataW.trod enc Tryz.prog W 0 (fun _ => true) held n3 3 [c8] = some z3 := by have := hf 3 _ rfl; simpa [k3] using this
      have f4 : DataW.trod enc Tryz.prog W 0 (fun _ => true) held n3 34 [c9] = some z4 := by have := hf 4 _ rfl; simpa [k34] using this
      have f5 : DataW.trod enc Tryz.prog W 0 (fun _ => true) held n3 9 [c10] = some z5 := by have := hf 5 _ rfl; simpa [k9] using this
      have hy5 : y5.1 = .agg [z0.1, z1.1, z2.1, z3.1, z4.1, z5.1] := by rw [hz]; rfl
      rw [hy5] at p5
      have q4 := bulk_part p5 z4.1 (by simp)
      have q5 := bulk_part p5 z5.1 (by simp)
      clear p5 hy5
      obtain ⟨v0, e0, -, w0⟩ := DataW.trod_int Tryz.underlying3 g0
      obtain ⟨v5, e5, -, w5⟩ := DataW.trod_int Tryz.underlying3 f0
      obtain ⟨v6, e6, -, w6⟩ := DataW.trod_int Tryz.underlying3 f1
      obtain ⟨v7, e7, -, w7⟩ := DataW.trod_int Tryz.underlying3 f2
      obtain ⟨v8, e8, -, w8⟩ := DataW.trod_int Tryz.underlying3 f3
      obtain ⟨s2, e2, u2, -⟩ := DataW.trod_string Tryz.underlying9 g2
      obtain ⟨s3, e3, u3, -⟩ := DataW.trod_string Tryz.underlying9 g3
      obtain ⟨s10, e10, u10, -⟩ := DataW.trod_string Tryz.underlying9 f5
      obtain rfl : c0 = .int .i64 v0 := by simpa using e0
      obtain rfl : c5 = .int .i64 v5 := by simpa using e5
      obtain rfl : c6 = .int .i64 v6 := by simpa using e6
      obtain rfl : c7 = .int .i64 v7 := by simpa using e7
      obtain rfl : c8 = .int .i64 v8 := by simpa using e8
      obtain rfl : c2 = .string s2 := by simpa using e2
      obtain rfl : c3 = .string s3 := by simpa using e3
      obtain rfl : c10 = .string s10 := by simpa using e10
      rw [u2] at p2
      rw [u3] at p3
      rw [u10] at q5
      have p2 := bulk_text p2
      have p3 := bulk_text p3
      have q5 := bulk_text q5
      obtain ⟨t2, rfl, h2⟩ := text_of s2
      obtain ⟨t3, rfl, h3⟩ := text_of s3
      obtain ⟨t10, rfl, h10⟩ := text_of s10
      obtain ⟨a1, n1, k1, rfl⟩ := slice_kind Tryz.underlying34 g1
      obtain ⟨a4, n4, k4, rfl⟩ := slice_kind Tryz.underlying35 g4
      obtain ⟨a9, n9, k9, rfl⟩ := slice_kind Tryz.underlying34 f4
      obtain ⟨l1, rfl, b1, r1, o1⟩ := isInts g1 p1
      obtain ⟨l4, rfl, b4, r4, o4⟩ := isEnts g4 p4
      obtain ⟨l9, rfl, b9, r9, o9⟩ := isInts f4 q4
      exact ⟨{ kind := v0, nums := l1, text := t2, more := t3, tree := l4, ask := { kind := v5, a := v6, b := v7, limit := v8, ids := l9, path := t10 } }, ⟨a1, k1, a4, k4, a9, k9, rfl, r1, r4, r9⟩,
        ⟨o1, fun e he => (o4 e he).2, o9, _root_.Go.bounds_i64 w6, _root_.Go.bounds_i64 w7, _root_.Go.bounds_i64 w8⟩,
        ⟨b1, by show t2.length ≤ 1048576; omega, by show t3.length ≤ 1048576; omega, b4, fun e he => (o4 e he).1, b9, by show t10.length ≤ 1048576; omega⟩⟩

theorem flat11 : ∀ (l : List (Cmd × Array Value)), (∀ p ∈ l, p.2.size = 11) → (l.flatMap (·.2.toList)).length = l.length * 11 ∧ ∀ j p, l[j]? = some p → ∀ i, i < 11 → (l.flatMap (·.2.toList))[j * 11 + i]? = p.2[i]?
  | [], _ => ⟨rfl, fun j p h => by simp at h⟩
  | q :: l, h => by
    obtain ⟨h1, h2⟩ := flat11 l fun p hp => h p (List.mem_cons_of_mem _ hp)
    have hq : q.2.toList.length = 11 := by rw [Array.length_toList]; exact h q (List.mem_cons_self ..)
    refine ⟨by rw [List.flatMap_cons, List.length_append, h1, hq, List.length_cons]; omega, fun j p hj i hi => ?_⟩
    rw [List.flatMap_cons]
    cases j with
    | zero =>
      simp only [List.getElem?_cons_zero, Option.some.injEq] at hj
      subst hj
      rw [Nat.zero_mul, Nat.zero_add, List.getElem?_append_left (by omega), Array.getElem?_toList]
    | succ j =>
      rw [← h2 j p (by simpa using hj) i hi, List.getElem?_append_right (by omega)]
      congr 1; omega
theorem flatX {W : World} : ∀ (l : List (Cmd × Array Value)), (∀ p ∈ l, CmdR W (fun _ => True) p.1 p.2) → CmdsX W (fun _ => True) (l.map (·.1)) (l.flatMap (·.2.toList))
  | [], _ => rfl
  | q :: l, h => ⟨q.2, _, rfl, h q (List.mem_cons_self ..), flatX l fun p hp => h p (List.mem_cons_of_mem _ hp)⟩

set_option maxRecDepth 100000 in
/-- commands that came in -/
theorem isCmds {a : Option Addr} {len cap fuel : Nat} {x : DataW H × List MemPlace}
    (h : DataW.trod enc Tryz.prog W 0 (fun _ => true) held fuel 33 [.slice a len cap] = some x) (hw : Rows.uptoBulk x.1 ≤ 1048576) :
    ∃ l : List Cmd, CmdsR W (fun _ => True) (.slice a len cap) l ∧ ∀ c ∈ l, CmdOk c ∧ CmdFew c := by
  rcases open_slice Tryz.underlying33 h with ⟨hcs, _⟩ | ⟨ad, l, c, m, n, D, Pl, hcs, _, hl, hm, hmm, hx, hi⟩
  · simp at hcs
    obtain ⟨rfl, rfl, rfl⟩ := hcs
    exact ⟨[], ⟨[], ⟨rfl, none, 0, rfl, Nat.le_refl _, by simp [maxLen], fun q => by simp at q⟩, rfl⟩, by simp⟩
  · simp at hcs
    obtain ⟨rfl, rfl, rfl⟩ := hcs
    simp only [if_true] at hmm
    subst hmm
    have hc40 : Tryz.prog.cellsOf 40 = 11 := by kernel_rfl
    rw [hx] at hw
    obtain ⟨b1, b2⟩ := bulk_elem hw
    have hel : ∀ i, i < len → ∃ p : Cmd × Array Value, (CmdR W (fun _ => True) p.1 p.2 ∧ CmdOk p.1 ∧ CmdFew p.1) ∧ ∀ j, j < 11 → W.cell? (ad.add (i * 11 + j)) = p.2[j]? := fun i hi' => by
      obtain ⟨cs', h1, h2⟩ := hi i (by omega)
      rw [hc40] at h1
      obtain ⟨_, hcl, hat⟩ := World.cells?_some h1
      match cs', hcl with
      | [c0, c1, c2, c3, c4, c5, c6, c7, c8, c9, c10], _ =>
        obtain ⟨c, hc, ho, hf⟩ := isCmd h2 (b2 (D i) (List.mem_map.2 ⟨i, by simpa using hi', rfl⟩))
        refine ⟨(c, #[c0, c1, c2, c3, c4, c5, c6, c7, c8, c9, c10]), ⟨hc, ho, hf⟩, fun j hj => ?_⟩
        have := hat j (by simpa using hj)
        rw [Go.Deep.add_add] at this
        rw [this]
        simp [List.getElem?_eq_getElem (show j < [c0, c1, c2, c3, c4, c5, c6, c7, c8, c9, c10].length by simpa using hj)]
    obtain ⟨l, hll, hlp⟩ := listOf len hel
    have hmem : ∀ p ∈ l, CmdR W (fun _ => True) p.1 p.2 ∧ CmdOk p.1 ∧ CmdFew p.1 := fun p hp => by
      obtain ⟨i, hi'⟩ := List.getElem?_of_mem hp
      exact (hlp i p hi').1
    obtain ⟨q1, q2⟩ := flat11 l fun p hp => (hmem p hp).1.size
    refine ⟨l.map (·.1), ⟨l.flatMap (·.2.toList), ⟨by rw [q1, List.length_map], some ad, m, by rw [List.length_map, hll], by rw [List.length_map, hll]; exact hl, hm, fun q => ?_⟩, flatX l fun p hp => (hmem p hp).1⟩, fun c hc => ?_⟩
    · rw [List.length_map] at q ⊢
      obtain ⟨⟨⟨_, _, _, _, _, _, e0, -⟩, -⟩, c0⟩ := hlp 0 _ (List.getElem?_eq_getElem q)
      have c0 := c0 0 (by decide)
      rw [e0, Nat.zero_mul, addr_zero] at c0
      obtain ⟨b, off, rfl, hb⟩ := plain_addr c0
      refine ⟨b, off, rfl, trivial, hb, fun j hj => ?_⟩
      have hj2 : j / 11 < l.length := by omega
      obtain ⟨-, cj⟩ := hlp (j / 11) _ (List.getElem?_eq_getElem hj2)
      have cj := cj (j % 11) (Nat.mod_lt _ (by decide))
      have dj := q2 (j / 11) _ (List.getElem?_eq_getElem hj2) (j % 11) (Nat.mod_lt _ (by decide))
      have e : j / 11 * 11 + j % 11 = j := by omega
      rw [Addr.add_lit, e] at cj
      rw [e] at dj
      rw [cj, dj]
    · obtain ⟨p, hp, rfl⟩ := List.mem_map.1 hc
      exact (hmem p hp).2
end
end Go.Proofs.YteblabpplaaddaaGreatDoor

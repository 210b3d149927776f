/- The document's reading: a line -/
import Derived.Test.YteblabpplaaddaaGreatDoorDv
set_option linter.unusedVariables false
set_option linter.unusedSimpArgs false
namespace Go.Proofs.YteblabpplaaddaaGreatDoor
open Go.RowKit Go.Mine Go.Mine.Sc

theorem inv_none {l : B} (h : ∀ c ∈ l, c ≠ 42) : Inv l [] := ⟨by simp, fun a b q => absurd rfl (h 42 (by rw [q]; simp))⟩
theorem inv_star {l : B} (h : ∀ c ∈ l, c ≠ 42) : Inv (42 :: l) [] := ⟨by simp, fun a b q => by
  cases a with
  | nil => simp at q; rw [← q]; exact h
  | cons c a => simp at q; exact absurd rfl (h 42 (by rw [q.2]; simp))⟩
theorem inv_cons {c : UInt8} {l : B} (hc : c ≠ 42) (h : Inv l []) : Inv (c :: l) [] := ⟨by simp, fun a b q => by
  cases a with
  | nil => simp at q; exact absurd q.1 hc
  | cons d a => simp at q; exact h.2 a b q.2⟩

def isKind (k : Int) : Prop := k = 0 ∨ k = 1 ∨ k = 2 ∨ k = 3 ∨ k = 4 ∨ k = 5 ∨ k = 6 ∨ k = 7 ∨ k = 8 ∨ k = 9 ∨ k = 10 ∨ k = 11 ∨ k = 13 ∨ k = 14 ∨ k = 101 ∨ k = 102 ∨ k = 103 ∨ k = 104 ∨ k = 105 ∨ k = 106 ∨ k = 107 ∨ k = 108 ∨ k = 109 ∨ k = 110 ∨ k = 111 ∨ k = 112
theorem rkind_is (name : B) : isKind (rkind name) := by
  unfold rkind isKind
  have h1 := kindIn_mem cnames name
  have h2 := kindIn_mem qnames name
  rw [show cnames.map (·.1) = [1, 2, 3, 4, 5, 6, 7, 8, 9, 10, 11, 13, 14] from by decide +kernel] at h1
  rw [show qnames.map (·.1) = [1, 2, 3, 4, 5, 6, 7, 8, 9, 10, 11, 12] from by decide +kernel] at h2
  simp only [List.mem_cons, List.not_mem_nil, or_false] at h1 h2
  split
  · omega
  · split <;> omega
theorem patt_inv {k : Int} (h : isKind k) : Inv (patt k) [] ∧ (patt k).length ≤ 10 := by
  unfold isKind at h
  rcases h with rfl | rfl | rfl | rfl | rfl | rfl | rfl | rfl | rfl | rfl | rfl | rfl | rfl | rfl | rfl | rfl | rfl | rfl | rfl | rfl | rfl | rfl | rfl | rfl | rfl | rfl
  all_goals
    refine ⟨?_, by decide⟩
    first
      | exact inv_none (by decide)
      | exact inv_star (by decide)
      | exact inv_cons (by decide) (inv_star (by decide))

/-! ### what the words of a pattern are -/
theorem sh_end {s : B} {q : List Int × List B} (h : rwords [] [] s = some q) : q = ([], []) := by
  by_cases hs : s = []
  · subst hs; rw [rw_end] at h; exact (Option.some.inj h).symm
  · rw [rw_over s hs] at h; simp at h
theorem sh_n {ps ag s : B} {q : List Int × List B} (h : rwords (110 :: ps) ag s = some q) : ∃ n r q', rwords ps ag r = some q' ∧ q = (n :: q'.1, q'.2) ∧ r.length < s.length := by
  rw [rw_n] at h
  cases hn : pNum s with
  | none => rw [hn] at h; simp at h
  | some x =>
    obtain ⟨n, r⟩ := x
    rw [hn] at h
    simp only [] at h
    obtain ⟨q', h1, h2⟩ := Option.map_eq_some_iff.1 h
    exact ⟨n, r, q', h1, h2.symm, pNum_lt hn⟩
theorem sh_q {ps ag s : B} {q : List Int × List B} (h : rwords (113 :: ps) ag s = some q) : ∃ x r q', rwords ps ag r = some q' ∧ q = (q'.1, x :: q'.2) ∧ r.length < s.length := by
  rw [rw_q] at h
  cases hn : pText s with
  | none => rw [hn] at h; simp at h
  | some x =>
    obtain ⟨x, r⟩ := x
    rw [hn] at h
    simp only [] at h
    obtain ⟨q', h1, h2⟩ := Option.map_eq_some_iff.1 h
    exact ⟨x, r, q', h1, h2.symm, pText_lt hn⟩
theorem sh_1 {s : B} {q : List Int × List B} (h : rwords [110] [] s = some q) : ∃ a, q = ([a], []) := by
  obtain ⟨n, r, q', h1, rfl, -⟩ := sh_n h
  rw [sh_end h1]; exact ⟨n, rfl⟩
theorem sh_2 {s : B} {q : List Int × List B} (h : rwords [110, 110] [] s = some q) : ∃ a b, q = ([a, b], []) := by
  obtain ⟨n, r, q', h1, rfl, -⟩ := sh_n h
  obtain ⟨a, h2⟩ := sh_1 h1
  rw [h2]; exact ⟨n, a, rfl⟩
theorem sh_3 {s : B} {q : List Int × List B} (h : rwords [110, 110, 110] [] s = some q) : ∃ a b c, q = ([a, b, c], []) := by
  obtain ⟨n, r, q', h1, rfl, -⟩ := sh_n h
  obtain ⟨a, b, h2⟩ := sh_2 h1
  rw [h2]; exact ⟨n, a, b, rfl⟩
theorem sh_6 {s : B} {q : List Int × List B} (h : rwords [110, 110, 110, 110, 110, 110] [] s = some q) : ∃ a b c d e f, q = ([a, b, c, d, e, f], []) := by
  obtain ⟨n, r, q', h1, rfl, -⟩ := sh_n h
  obtain ⟨m, r2, q2, h2, rfl, -⟩ := sh_n h1
  obtain ⟨o, r3, q3, h3, rfl, -⟩ := sh_n h2
  obtain ⟨a, b, c, h4⟩ := sh_3 h3
  rw [h4]; exact ⟨n, m, o, a, b, c, rfl⟩
theorem sh_nq {s : B} {q : List Int × List B} (h : rwords [110, 113] [] s = some q) : ∃ a x, q = ([a], [x]) := by
  obtain ⟨n, r, q', h1, rfl, -⟩ := sh_n h
  obtain ⟨x, r2, q2, h2, rfl, -⟩ := sh_q h1
  rw [sh_end h2]; exact ⟨n, x, rfl⟩
theorem sh_t {s : B} {q : List Int × List B} (h : rwords [113] [] s = some q) : ∃ x, q = ([], [x]) := by
  obtain ⟨x, r2, q2, h2, rfl, -⟩ := sh_q h
  rw [sh_end h2]; exact ⟨x, rfl⟩
theorem sh_qn {s : B} {q : List Int × List B} (h : rwords [113, 110] [] s = some q) : ∃ x a, q = ([a], [x]) := by
  obtain ⟨x, r2, q2, h2, rfl, -⟩ := sh_q h
  obtain ⟨a, h3⟩ := sh_1 h2
  rw [h3]; exact ⟨x, a, rfl⟩
theorem sh_qnq {s : B} {q : List Int × List B} (h : rwords [113, 110, 113] [] s = some q) : ∃ x a y, q = ([a], [x, y]) := by
  obtain ⟨x, r2, q2, h2, rfl, -⟩ := sh_q h
  obtain ⟨a, y, h3⟩ := sh_nq h2
  rw [h3]; exact ⟨x, a, y, rfl⟩
theorem sh_ns {s : B} {q : List Int × List B} (h : rwords [42, 110] [] s = some q) : q.2 = [] := by
  rw [rw_star, rw_nums s.length s (Nat.le_refl _)] at h
  obtain ⟨l, -, rfl⟩ := Option.map_eq_some_iff.1 h
  rfl
theorem sh_tree : ∀ (k : Nat) (s : B) (q : List Int × List B), s.length ≤ k → rwords [] [113, 110] s = some q → q.1.length = q.2.length
  | 0, s, q, h, hq => by
    have : s = [] := List.eq_nil_of_length_eq_zero (by omega)
    subst this
    rw [rw_end] at hq
    rw [← Option.some.inj hq]
    rfl
  | k + 1, s, q, h, hq => by
    by_cases hs : s = []
    · subst hs
      rw [rw_end] at hq
      rw [← Option.some.inj hq]
      rfl
    · rw [rw_again _ s hs (by simp) (by simp)] at hq
      obtain ⟨x, r, q1, h1, rfl, h2⟩ := sh_q hq
      obtain ⟨n, r2, q2, h3, rfl, h4⟩ := sh_n h1
      have := sh_tree k r2 q2 (by omega) h3
      simp [this]

theorem tok_stop {s : B} {k : Nat} (hk : k ≤ s.length) (hn : ∀ j, j < k → s[j]? ≠ some 32) (he : k = s.length ∨ s[k]? = some 32) : tok s = s.take k ∧ (tok s).length = k := by
  have hl : ∀ c ∈ s.take k, c ≠ 32 := by
    intro c hc q
    subst q
    obtain ⟨j, hj, hjc⟩ := List.mem_take_iff_getElem.1 hc
    exact hn j (by omega) (by rw [List.getElem?_eq_getElem (by omega), hjc])
  have hr : s.drop k = [] ∨ (s.drop k).head? = some 32 := by
    rcases he with rfl | he
    · exact .inl (List.drop_length)
    · right; rw [List.head?_drop]; exact he
  have := tok_of (s.take k) (s.drop k) hl hr
  rw [List.take_append_drop] at this
  exact ⟨this.1, by rw [this.1, List.length_take]; omega⟩
end Go.Proofs.YteblabpplaaddaaGreatDoor

namespace Go.Proofs.YteblabpplaaddaaGreatDoor
open Go.RowKit Go.Mine Go.Mine.Sc

set_option maxRecDepth 100000 in
set_option maxHeartbeats 4000000 in
theorem line_tail (w : World) (b0 : Nat) (hb0 : b0 = w.heap.size) (W : World) (hB : W.heap[b0]? = some (.cells zero11 40 (0, 0))) (hT : Turned (fun _ => False) w W) (k : Int) (a b : Option Addr) (ca cb : Nat) (ns : List Int) (xs : List B) (sa : B) (hk : isKind k) (hq : rwords (patt k) [] sa = some (ns, xs)) (hwb : ns.length + xs.length ≤ 1000000) (hN : Sl W (fun b => w.heap.size < b) 3 1 (.slice a ns.length ca) (icells ns) ns.length) (hX : Sl W (fun b => w.heap.size < b) 9 1 (.slice b xs.length cb) (scells xs) xs.length) (z0 x1 x3 x4 x9 x10 x11 x12 x13 x14 x15 x16 x17 x18 x19 x20 x21 x22 x23 x24 x25 x26 x27 x28 x29 x30 x31 x32 x33 x34 x35 x36 x37 x38 x39 x40 x41 x42 x43 x44 x45 x46 x47 x48 x49 x50 x51 x52 x53 x54 x55 x56 x57 x58 x59 x60 x61 x62 x63 x64 x65 x66 x67 x68 x69 x70 x71 x72 x73 x74 x75 x76 x77 x78 x79 x80 x81 x82 x83 x84 x85 x86 x87 x88 x89 x90 x91 x92 x93 x94 x95 x96 x97 x98 x99 x100 x101 x102 x103 x104 x105 x106 x107 : Value) :
    (seqSnd (seqSnd (seqSnd (seqSnd (seqSnd (Tryz.f46.body.getD .skip)))))).wp Tryz.prog (bodyPost Tryz.prog Tryz.f46 (LinePost w (cmdOf k ns xs))) { tmps := #[z0, x1, pt b0, x3, x4, .int .i64 k, .slice a ns.length ca, .slice b xs.length cb, .bool true, x9, x10, x11, x12, x13, x14, x15, x16, x17, x18, x19, x20, x21, x22, x23, x24, x25, x26, x27, x28, x29, x30, x31, x32, x33, x34, x35, x36, x37, x38, x39, x40, x41, x42, x43, x44, x45, x46, x47, x48, x49, x50, x51, x52, x53, x54, x55, x56, x57, x58, x59, x60, x61, x62, x63, x64, x65, x66, x67, x68, x69, x70, x71, x72, x73, x74, x75, x76, x77, x78, x79, x80, x81, x82, x83, x84, x85, x86, x87, x88, x89, x90, x91, x92, x93, x94, x95, x96, x97, x98, x99, x100, x101, x102, x103, x104, x105, x106, x107], defers := [] } W := by
  unfold isKind at hk
  rcases hk with rfl | rfl | rfl | rfl | rfl | rfl | rfl | rfl | rfl | rfl | rfl | rfl | rfl | rfl | rfl | rfl | rfl | rfl | rfl | rfl | rfl | rfl | rfl | rfl | rfl | rfl
  · rw [show cmdOf 0 ns xs = none from rfl]
    exact line_k0 w b0 hb0 W hB hT 0 a b ca cb ns xs true z0 x1 x3 x4 x9 x10 x11 x12 x13 x14 x15 x16 x17 x18 x19 x20 x21 x22 x23 x24 x25 x26 x27 x28 x29 x30 x31 x32 x33 x34 x35 x36 x37 x38 x39 x40 x41 x42 x43 x44 x45 x46 x47 x48 x49 x50 x51 x52 x53 x54 x55 x56 x57 x58 x59 x60 x61 x62 x63 x64 x65 x66 x67 x68 x69 x70 x71 x72 x73 x74 x75 x76 x77 x78 x79 x80 x81 x82 x83 x84 x85 x86 x87 x88 x89 x90 x91 x92 x93 x94 x95 x96 x97 x98 x99 x100 x101 x102 x103 x104 x105 x106 x107  rfl
  · rw [show patt 1 = [110, 110, 110, 110, 110, 110] from by decide] at hq
    obtain ⟨n0, n1, n2, n3, n4, n5, e⟩ := sh_6 hq
    injection e with e1 e2
    have ec : cmdOf 1 ns xs = if fitsN n4 then some { kind := 1, nums := [n0, n1, n2, n3, n4, n5] } else none := by rw [e1]; rfl
    rw [ec]
    by_cases hf : fitsN n4
    · rw [if_pos hf]
      exact line_1y w b0 hb0 W hB hT 1 a b ca cb ns xs true z0 x1 x3 x4 x9 x10 x11 x12 x13 x14 x15 x16 x17 x18 x19 x20 x21 x22 x23 x24 x25 x26 x27 x28 x29 x30 x31 x32 x33 x34 x35 x36 x37 x38 x39 x40 x41 x42 x43 x44 x45 x46 x47 x48 x49 x50 x51 x52 x53 x54 x55 x56 x57 x58 x59 x60 x61 x62 x63 x64 x65 x66 x67 x68 x69 x70 x71 x72 x73 x74 x75 x76 x77 x78 x79 x80 x81 x82 x83 x84 x85 x86 x87 x88 x89 x90 x91 x92 x93 x94 x95 x96 x97 x98 x99 x100 x101 x102 x103 x104 x105 x106 x107 n0 n1 n2 n3 n4 n5 hf rfl rfl e1 hN
    · rw [if_neg hf]
      exact line_1n w b0 hb0 W hB hT 1 a b ca cb ns xs true z0 x1 x3 x4 x9 x10 x11 x12 x13 x14 x15 x16 x17 x18 x19 x20 x21 x22 x23 x24 x25 x26 x27 x28 x29 x30 x31 x32 x33 x34 x35 x36 x37 x38 x39 x40 x41 x42 x43 x44 x45 x46 x47 x48 x49 x50 x51 x52 x53 x54 x55 x56 x57 x58 x59 x60 x61 x62 x63 x64 x65 x66 x67 x68 x69 x70 x71 x72 x73 x74 x75 x76 x77 x78 x79 x80 x81 x82 x83 x84 x85 x86 x87 x88 x89 x90 x91 x92 x93 x94 x95 x96 x97 x98 x99 x100 x101 x102 x103 x104 x105 x106 x107 n0 n1 n2 n3 n4 n5 hf rfl rfl e1 hN
  · rw [show patt 2 = [42, 113, 110] from by decide] at hq
    rw [rw_star] at hq
    have hl : ns.length = xs.length := sh_tree _ sa _ (Nat.le_refl _) hq
    have ec : cmdOf 2 ns xs = treeCmd (treeOf ns xs) := by
      rw [show cmdOf 2 ns xs = (treeOf ns xs).map fun l => ({ kind := 2, tree := l } : Cmd) from rfl]
      cases treeOf ns xs <;> rfl
    rw [ec]
    exact line_2 w b0 hb0 W hB hT 2 a b ca cb ns xs true z0 x1 x3 x4 x9 x10 x11 x12 x13 x14 x15 x16 x17 x18 x19 x20 x21 x22 x23 x24 x25 x26 x27 x28 x29 x30 x31 x32 x33 x34 x35 x36 x37 x38 x39 x40 x41 x42 x43 x44 x45 x46 x47 x48 x49 x50 x51 x52 x53 x54 x55 x56 x57 x58 x59 x60 x61 x62 x63 x64 x65 x66 x67 x68 x69 x70 x71 x72 x73 x74 x75 x76 x77 x78 x79 x80 x81 x82 x83 x84 x85 x86 x87 x88 x89 x90 x91 x92 x93 x94 x95 x96 x97 x98 x99 x100 x101 x102 x103 x104 x105 x106 x107  rfl rfl hl (by omega) hN hX
  · clear hq
    rw [show cmdOf 3 ns xs = some { kind := 3, nums := ns } from rfl]
    exact line_plain w b0 hb0 W hB hT 3 a b ca cb ns xs true z0 x1 x3 x4 x9 x10 x11 x12 x13 x14 x15 x16 x17 x18 x19 x20 x21 x22 x23 x24 x25 x26 x27 x28 x29 x30 x31 x32 x33 x34 x35 x36 x37 x38 x39 x40 x41 x42 x43 x44 x45 x46 x47 x48 x49 x50 x51 x52 x53 x54 x55 x56 x57 x58 x59 x60 x61 x62 x63 x64 x65 x66 x67 x68 x69 x70 x71 x72 x73 x74 x75 x76 x77 x78 x79 x80 x81 x82 x83 x84 x85 x86 x87 x88 x89 x90 x91 x92 x93 x94 x95 x96 x97 x98 x99 x100 x101 x102 x103 x104 x105 x106 x107  rfl rfl rfl rfl rfl rfl rfl rfl hN
  · clear hq
    rw [show cmdOf 4 ns xs = some { kind := 4, nums := ns } from rfl]
    exact line_plain w b0 hb0 W hB hT 4 a b ca cb ns xs true z0 x1 x3 x4 x9 x10 x11 x12 x13 x14 x15 x16 x17 x18 x19 x20 x21 x22 x23 x24 x25 x26 x27 x28 x29 x30 x31 x32 x33 x34 x35 x36 x37 x38 x39 x40 x41 x42 x43 x44 x45 x46 x47 x48 x49 x50 x51 x52 x53 x54 x55 x56 x57 x58 x59 x60 x61 x62 x63 x64 x65 x66 x67 x68 x69 x70 x71 x72 x73 x74 x75 x76 x77 x78 x79 x80 x81 x82 x83 x84 x85 x86 x87 x88 x89 x90 x91 x92 x93 x94 x95 x96 x97 x98 x99 x100 x101 x102 x103 x104 x105 x106 x107  rfl rfl rfl rfl rfl rfl rfl rfl hN
  · clear hq
    rw [show cmdOf 5 ns xs = some { kind := 5, nums := ns } from rfl]
    exact line_plain w b0 hb0 W hB hT 5 a b ca cb ns xs true z0 x1 x3 x4 x9 x10 x11 x12 x13 x14 x15 x16 x17 x18 x19 x20 x21 x22 x23 x24 x25 x26 x27 x28 x29 x30 x31 x32 x33 x34 x35 x36 x37 x38 x39 x40 x41 x42 x43 x44 x45 x46 x47 x48 x49 x50 x51 x52 x53 x54 x55 x56 x57 x58 x59 x60 x61 x62 x63 x64 x65 x66 x67 x68 x69 x70 x71 x72 x73 x74 x75 x76 x77 x78 x79 x80 x81 x82 x83 x84 x85 x86 x87 x88 x89 x90 x91 x92 x93 x94 x95 x96 x97 x98 x99 x100 x101 x102 x103 x104 x105 x106 x107  rfl rfl rfl rfl rfl rfl rfl rfl hN
  · clear hq
    rw [show cmdOf 6 ns xs = some { kind := 6, nums := ns } from rfl]
    exact line_plain w b0 hb0 W hB hT 6 a b ca cb ns xs true z0 x1 x3 x4 x9 x10 x11 x12 x13 x14 x15 x16 x17 x18 x19 x20 x21 x22 x23 x24 x25 x26 x27 x28 x29 x30 x31 x32 x33 x34 x35 x36 x37 x38 x39 x40 x41 x42 x43 x44 x45 x46 x47 x48 x49 x50 x51 x52 x53 x54 x55 x56 x57 x58 x59 x60 x61 x62 x63 x64 x65 x66 x67 x68 x69 x70 x71 x72 x73 x74 x75 x76 x77 x78 x79 x80 x81 x82 x83 x84 x85 x86 x87 x88 x89 x90 x91 x92 x93 x94 x95 x96 x97 x98 x99 x100 x101 x102 x103 x104 x105 x106 x107  rfl rfl rfl rfl rfl rfl rfl rfl hN
  · clear hq
    rw [show cmdOf 7 ns xs = some { kind := 7, nums := ns } from rfl]
    exact line_plain w b0 hb0 W hB hT 7 a b ca cb ns xs true z0 x1 x3 x4 x9 x10 x11 x12 x13 x14 x15 x16 x17 x18 x19 x20 x21 x22 x23 x24 x25 x26 x27 x28 x29 x30 x31 x32 x33 x34 x35 x36 x37 x38 x39 x40 x41 x42 x43 x44 x45 x46 x47 x48 x49 x50 x51 x52 x53 x54 x55 x56 x57 x58 x59 x60 x61 x62 x63 x64 x65 x66 x67 x68 x69 x70 x71 x72 x73 x74 x75 x76 x77 x78 x79 x80 x81 x82 x83 x84 x85 x86 x87 x88 x89 x90 x91 x92 x93 x94 x95 x96 x97 x98 x99 x100 x101 x102 x103 x104 x105 x106 x107  rfl rfl rfl rfl rfl rfl rfl rfl hN
  · clear hq
    rw [show cmdOf 8 ns xs = some { kind := 8, nums := ns } from rfl]
    exact line_plain w b0 hb0 W hB hT 8 a b ca cb ns xs true z0 x1 x3 x4 x9 x10 x11 x12 x13 x14 x15 x16 x17 x18 x19 x20 x21 x22 x23 x24 x25 x26 x27 x28 x29 x30 x31 x32 x33 x34 x35 x36 x37 x38 x39 x40 x41 x42 x43 x44 x45 x46 x47 x48 x49 x50 x51 x52 x53 x54 x55 x56 x57 x58 x59 x60 x61 x62 x63 x64 x65 x66 x67 x68 x69 x70 x71 x72 x73 x74 x75 x76 x77 x78 x79 x80 x81 x82 x83 x84 x85 x86 x87 x88 x89 x90 x91 x92 x93 x94 x95 x96 x97 x98 x99 x100 x101 x102 x103 x104 x105 x106 x107  rfl rfl rfl rfl rfl rfl rfl rfl hN
  · rw [show patt 9 = [113, 110, 113] from by decide] at hq
    obtain ⟨t0, n, t1, e⟩ := sh_qnq hq
    injection e with e1 e2
    rw [show cmdOf 9 ns xs = some { kind := 9, nums := ns, text := t0, more := t1 } from by rw [e2]; rfl]
    exact line_9 w b0 hb0 W hB hT 9 a b ca cb ns xs true z0 x1 x3 x4 x9 x10 x11 x12 x13 x14 x15 x16 x17 x18 x19 x20 x21 x22 x23 x24 x25 x26 x27 x28 x29 x30 x31 x32 x33 x34 x35 x36 x37 x38 x39 x40 x41 x42 x43 x44 x45 x46 x47 x48 x49 x50 x51 x52 x53 x54 x55 x56 x57 x58 x59 x60 x61 x62 x63 x64 x65 x66 x67 x68 x69 x70 x71 x72 x73 x74 x75 x76 x77 x78 x79 x80 x81 x82 x83 x84 x85 x86 x87 x88 x89 x90 x91 x92 x93 x94 x95 x96 x97 x98 x99 x100 x101 x102 x103 x104 x105 x106 x107 t0 t1 rfl rfl e2 hX hN
  · rw [show patt 10 = [113] from by decide] at hq
    obtain ⟨t0, e⟩ := sh_t hq
    injection e with e1 e2
    rw [show cmdOf 10 ns xs = some { kind := 10, nums := ns, text := t0 } from by rw [e2]; rfl]
    exact line_10 w b0 hb0 W hB hT 10 a b ca cb ns xs true z0 x1 x3 x4 x9 x10 x11 x12 x13 x14 x15 x16 x17 x18 x19 x20 x21 x22 x23 x24 x25 x26 x27 x28 x29 x30 x31 x32 x33 x34 x35 x36 x37 x38 x39 x40 x41 x42 x43 x44 x45 x46 x47 x48 x49 x50 x51 x52 x53 x54 x55 x56 x57 x58 x59 x60 x61 x62 x63 x64 x65 x66 x67 x68 x69 x70 x71 x72 x73 x74 x75 x76 x77 x78 x79 x80 x81 x82 x83 x84 x85 x86 x87 x88 x89 x90 x91 x92 x93 x94 x95 x96 x97 x98 x99 x100 x101 x102 x103 x104 x105 x106 x107 t0 rfl rfl e2 hX hN
  · rw [show patt 11 = [113, 110] from by decide] at hq
    obtain ⟨t0, n, e⟩ := sh_qn hq
    injection e with e1 e2
    rw [show cmdOf 11 ns xs = some { kind := 11, nums := ns, text := t0 } from by rw [e2]; rfl]
    exact line_11 w b0 hb0 W hB hT 11 a b ca cb ns xs true z0 x1 x3 x4 x9 x10 x11 x12 x13 x14 x15 x16 x17 x18 x19 x20 x21 x22 x23 x24 x25 x26 x27 x28 x29 x30 x31 x32 x33 x34 x35 x36 x37 x38 x39 x40 x41 x42 x43 x44 x45 x46 x47 x48 x49 x50 x51 x52 x53 x54 x55 x56 x57 x58 x59 x60 x61 x62 x63 x64 x65 x66 x67 x68 x69 x70 x71 x72 x73 x74 x75 x76 x77 x78 x79 x80 x81 x82 x83 x84 x85 x86 x87 x88 x89 x90 x91 x92 x93 x94 x95 x96 x97 x98 x99 x100 x101 x102 x103 x104 x105 x106 x107 t0 rfl rfl e2 hX hN
  · clear hq
    rw [show cmdOf 13 ns xs = some { kind := 13, nums := ns } from rfl]
    exact line_plain w b0 hb0 W hB hT 13 a b ca cb ns xs true z0 x1 x3 x4 x9 x10 x11 x12 x13 x14 x15 x16 x17 x18 x19 x20 x21 x22 x23 x24 x25 x26 x27 x28 x29 x30 x31 x32 x33 x34 x35 x36 x37 x38 x39 x40 x41 x42 x43 x44 x45 x46 x47 x48 x49 x50 x51 x52 x53 x54 x55 x56 x57 x58 x59 x60 x61 x62 x63 x64 x65 x66 x67 x68 x69 x70 x71 x72 x73 x74 x75 x76 x77 x78 x79 x80 x81 x82 x83 x84 x85 x86 x87 x88 x89 x90 x91 x92 x93 x94 x95 x96 x97 x98 x99 x100 x101 x102 x103 x104 x105 x106 x107  rfl rfl rfl rfl rfl rfl rfl rfl hN
  · clear hq
    rw [show cmdOf 14 ns xs = some { kind := 14, nums := ns } from rfl]
    exact line_plain w b0 hb0 W hB hT 14 a b ca cb ns xs true z0 x1 x3 x4 x9 x10 x11 x12 x13 x14 x15 x16 x17 x18 x19 x20 x21 x22 x23 x24 x25 x26 x27 x28 x29 x30 x31 x32 x33 x34 x35 x36 x37 x38 x39 x40 x41 x42 x43 x44 x45 x46 x47 x48 x49 x50 x51 x52 x53 x54 x55 x56 x57 x58 x59 x60 x61 x62 x63 x64 x65 x66 x67 x68 x69 x70 x71 x72 x73 x74 x75 x76 x77 x78 x79 x80 x81 x82 x83 x84 x85 x86 x87 x88 x89 x90 x91 x92 x93 x94 x95 x96 x97 x98 x99 x100 x101 x102 x103 x104 x105 x106 x107  rfl rfl rfl rfl rfl rfl rfl rfl hN
  · rw [show patt 101 = [110, 110] from by decide] at hq
    obtain ⟨n0, n1, e⟩ := sh_2 hq
    injection e with e1 e2
    subst e1 e2
    rw [show cmdOf 101 [n0, n1] [] = some (askedOf 1 [n0, n1] []) from rfl]
    exact line_ask w b0 hb0 W hB hT 101 a b ca cb [n0, n1] [] true z0 x1 x3 x4 x9 x10 x11 x12 x13 x14 x15 x16 x17 x18 x19 x20 x21 x22 x23 x24 x25 x26 x27 x28 x29 x30 x31 x32 x33 x34 x35 x36 x37 x38 x39 x40 x41 x42 x43 x44 x45 x46 x47 x48 x49 x50 x51 x52 x53 x54 x55 x56 x57 x58 x59 x60 x61 x62 x63 x64 x65 x66 x67 x68 x69 x70 x71 x72 x73 x74 x75 x76 x77 x78 x79 x80 x81 x82 x83 x84 x85 x86 x87 x88 x89 x90 x91 x92 x93 x94 x95 x96 x97 x98 x99 x100 x101 x102 x103 x104 x105 x106 x107 rfl rfl rfl (w64_in _ (by omega)) _ (by rw [show (101 : Int) - 100 = 1 from rfl]; exact asked_2 1 (by decide) n0 n1 W _ a ca b cb hN)
  · rw [show patt 102 = [42, 110] from by decide] at hq
    have e2 := sh_ns hq
    simp only [] at e2
    subst e2
    rw [show cmdOf 102 ns [] = some (askedOf 2 ns []) from rfl]
    exact line_ask w b0 hb0 W hB hT 102 a b ca cb ns [] true z0 x1 x3 x4 x9 x10 x11 x12 x13 x14 x15 x16 x17 x18 x19 x20 x21 x22 x23 x24 x25 x26 x27 x28 x29 x30 x31 x32 x33 x34 x35 x36 x37 x38 x39 x40 x41 x42 x43 x44 x45 x46 x47 x48 x49 x50 x51 x52 x53 x54 x55 x56 x57 x58 x59 x60 x61 x62 x63 x64 x65 x66 x67 x68 x69 x70 x71 x72 x73 x74 x75 x76 x77 x78 x79 x80 x81 x82 x83 x84 x85 x86 x87 x88 x89 x90 x91 x92 x93 x94 x95 x96 x97 x98 x99 x100 x101 x102 x103 x104 x105 x106 x107 rfl rfl rfl (w64_in _ (by omega)) _ (by rw [show (102 : Int) - 100 = 2 from rfl]; exact asked_ids 2 (by decide) ns W _ a ca b cb hN)
  · rw [show patt 103 = [110, 110] from by decide] at hq
    obtain ⟨n0, n1, e⟩ := sh_2 hq
    injection e with e1 e2
    subst e1 e2
    rw [show cmdOf 103 [n0, n1] [] = some (askedOf 3 [n0, n1] []) from rfl]
    exact line_ask w b0 hb0 W hB hT 103 a b ca cb [n0, n1] [] true z0 x1 x3 x4 x9 x10 x11 x12 x13 x14 x15 x16 x17 x18 x19 x20 x21 x22 x23 x24 x25 x26 x27 x28 x29 x30 x31 x32 x33 x34 x35 x36 x37 x38 x39 x40 x41 x42 x43 x44 x45 x46 x47 x48 x49 x50 x51 x52 x53 x54 x55 x56 x57 x58 x59 x60 x61 x62 x63 x64 x65 x66 x67 x68 x69 x70 x71 x72 x73 x74 x75 x76 x77 x78 x79 x80 x81 x82 x83 x84 x85 x86 x87 x88 x89 x90 x91 x92 x93 x94 x95 x96 x97 x98 x99 x100 x101 x102 x103 x104 x105 x106 x107 rfl rfl rfl (w64_in _ (by omega)) _ (by rw [show (103 : Int) - 100 = 3 from rfl]; exact asked_2 3 (by decide) n0 n1 W _ a ca b cb hN)
  · rw [show patt 104 = [110, 110] from by decide] at hq
    obtain ⟨n0, n1, e⟩ := sh_2 hq
    injection e with e1 e2
    subst e1 e2
    rw [show cmdOf 104 [n0, n1] [] = some (askedOf 4 [n0, n1] []) from rfl]
    exact line_ask w b0 hb0 W hB hT 104 a b ca cb [n0, n1] [] true z0 x1 x3 x4 x9 x10 x11 x12 x13 x14 x15 x16 x17 x18 x19 x20 x21 x22 x23 x24 x25 x26 x27 x28 x29 x30 x31 x32 x33 x34 x35 x36 x37 x38 x39 x40 x41 x42 x43 x44 x45 x46 x47 x48 x49 x50 x51 x52 x53 x54 x55 x56 x57 x58 x59 x60 x61 x62 x63 x64 x65 x66 x67 x68 x69 x70 x71 x72 x73 x74 x75 x76 x77 x78 x79 x80 x81 x82 x83 x84 x85 x86 x87 x88 x89 x90 x91 x92 x93 x94 x95 x96 x97 x98 x99 x100 x101 x102 x103 x104 x105 x106 x107 rfl rfl rfl (w64_in _ (by omega)) _ (by rw [show (104 : Int) - 100 = 4 from rfl]; exact asked_2 4 (by decide) n0 n1 W _ a ca b cb hN)
  · rw [show patt 105 = [42, 110] from by decide] at hq
    have e2 := sh_ns hq
    simp only [] at e2
    subst e2
    rw [show cmdOf 105 ns [] = some (askedOf 5 ns []) from rfl]
    exact line_ask w b0 hb0 W hB hT 105 a b ca cb ns [] true z0 x1 x3 x4 x9 x10 x11 x12 x13 x14 x15 x16 x17 x18 x19 x20 x21 x22 x23 x24 x25 x26 x27 x28 x29 x30 x31 x32 x33 x34 x35 x36 x37 x38 x39 x40 x41 x42 x43 x44 x45 x46 x47 x48 x49 x50 x51 x52 x53 x54 x55 x56 x57 x58 x59 x60 x61 x62 x63 x64 x65 x66 x67 x68 x69 x70 x71 x72 x73 x74 x75 x76 x77 x78 x79 x80 x81 x82 x83 x84 x85 x86 x87 x88 x89 x90 x91 x92 x93 x94 x95 x96 x97 x98 x99 x100 x101 x102 x103 x104 x105 x106 x107 rfl rfl rfl (w64_in _ (by omega)) _ (by rw [show (105 : Int) - 100 = 5 from rfl]; exact asked_ids 5 (by decide) ns W _ a ca b cb hN)
  · rw [show patt 106 = [42, 110] from by decide] at hq
    have e2 := sh_ns hq
    simp only [] at e2
    subst e2
    rw [show cmdOf 106 ns [] = some (askedOf 6 ns []) from rfl]
    exact line_ask w b0 hb0 W hB hT 106 a b ca cb ns [] true z0 x1 x3 x4 x9 x10 x11 x12 x13 x14 x15 x16 x17 x18 x19 x20 x21 x22 x23 x24 x25 x26 x27 x28 x29 x30 x31 x32 x33 x34 x35 x36 x37 x38 x39 x40 x41 x42 x43 x44 x45 x46 x47 x48 x49 x50 x51 x52 x53 x54 x55 x56 x57 x58 x59 x60 x61 x62 x63 x64 x65 x66 x67 x68 x69 x70 x71 x72 x73 x74 x75 x76 x77 x78 x79 x80 x81 x82 x83 x84 x85 x86 x87 x88 x89 x90 x91 x92 x93 x94 x95 x96 x97 x98 x99 x100 x101 x102 x103 x104 x105 x106 x107 rfl rfl rfl (w64_in _ (by omega)) _ (by rw [show (106 : Int) - 100 = 6 from rfl]; exact asked_ids 6 (by decide) ns W _ a ca b cb hN)
  · rw [show patt 107 = [110, 113] from by decide] at hq
    obtain ⟨n0, t0, e⟩ := sh_nq hq
    injection e with e1 e2
    subst e1 e2
    rw [show cmdOf 107 [n0] [t0] = some (askedOf 7 [n0] [t0]) from rfl]
    exact line_ask w b0 hb0 W hB hT 107 a b ca cb [n0] [t0] true z0 x1 x3 x4 x9 x10 x11 x12 x13 x14 x15 x16 x17 x18 x19 x20 x21 x22 x23 x24 x25 x26 x27 x28 x29 x30 x31 x32 x33 x34 x35 x36 x37 x38 x39 x40 x41 x42 x43 x44 x45 x46 x47 x48 x49 x50 x51 x52 x53 x54 x55 x56 x57 x58 x59 x60 x61 x62 x63 x64 x65 x66 x67 x68 x69 x70 x71 x72 x73 x74 x75 x76 x77 x78 x79 x80 x81 x82 x83 x84 x85 x86 x87 x88 x89 x90 x91 x92 x93 x94 x95 x96 x97 x98 x99 x100 x101 x102 x103 x104 x105 x106 x107 rfl rfl rfl (w64_in _ (by omega)) _ (by rw [show (107 : Int) - 100 = 7 from rfl]; exact asked_t 7 (by decide) n0 t0 W _ a ca b cb hN hX)
  · rw [show patt 108 = [110, 113] from by decide] at hq
    obtain ⟨n0, t0, e⟩ := sh_nq hq
    injection e with e1 e2
    subst e1 e2
    rw [show cmdOf 108 [n0] [t0] = some (askedOf 8 [n0] [t0]) from rfl]
    exact line_ask w b0 hb0 W hB hT 108 a b ca cb [n0] [t0] true z0 x1 x3 x4 x9 x10 x11 x12 x13 x14 x15 x16 x17 x18 x19 x20 x21 x22 x23 x24 x25 x26 x27 x28 x29 x30 x31 x32 x33 x34 x35 x36 x37 x38 x39 x40 x41 x42 x43 x44 x45 x46 x47 x48 x49 x50 x51 x52 x53 x54 x55 x56 x57 x58 x59 x60 x61 x62 x63 x64 x65 x66 x67 x68 x69 x70 x71 x72 x73 x74 x75 x76 x77 x78 x79 x80 x81 x82 x83 x84 x85 x86 x87 x88 x89 x90 x91 x92 x93 x94 x95 x96 x97 x98 x99 x100 x101 x102 x103 x104 x105 x106 x107 rfl rfl rfl (w64_in _ (by omega)) _ (by rw [show (108 : Int) - 100 = 8 from rfl]; exact asked_t 8 (by decide) n0 t0 W _ a ca b cb hN hX)
  · rw [show patt 109 = [110, 110, 110] from by decide] at hq
    obtain ⟨n0, n1, n2, e⟩ := sh_3 hq
    injection e with e1 e2
    subst e1 e2
    rw [show cmdOf 109 [n0, n1, n2] [] = some (askedOf 9 [n0, n1, n2] []) from rfl]
    exact line_ask w b0 hb0 W hB hT 109 a b ca cb [n0, n1, n2] [] true z0 x1 x3 x4 x9 x10 x11 x12 x13 x14 x15 x16 x17 x18 x19 x20 x21 x22 x23 x24 x25 x26 x27 x28 x29 x30 x31 x32 x33 x34 x35 x36 x37 x38 x39 x40 x41 x42 x43 x44 x45 x46 x47 x48 x49 x50 x51 x52 x53 x54 x55 x56 x57 x58 x59 x60 x61 x62 x63 x64 x65 x66 x67 x68 x69 x70 x71 x72 x73 x74 x75 x76 x77 x78 x79 x80 x81 x82 x83 x84 x85 x86 x87 x88 x89 x90 x91 x92 x93 x94 x95 x96 x97 x98 x99 x100 x101 x102 x103 x104 x105 x106 x107 rfl rfl rfl (w64_in _ (by omega)) _ (by rw [show (109 : Int) - 100 = 9 from rfl]; exact asked_3 9 (by decide) n0 n1 n2 W _ a ca b cb hN)
  · rw [show patt 110 = [110, 110, 110] from by decide] at hq
    obtain ⟨n0, n1, n2, e⟩ := sh_3 hq
    injection e with e1 e2
    subst e1 e2
    rw [show cmdOf 110 [n0, n1, n2] [] = some (askedOf 10 [n0, n1, n2] []) from rfl]
    exact line_ask w b0 hb0 W hB hT 110 a b ca cb [n0, n1, n2] [] true z0 x1 x3 x4 x9 x10 x11 x12 x13 x14 x15 x16 x17 x18 x19 x20 x21 x22 x23 x24 x25 x26 x27 x28 x29 x30 x31 x32 x33 x34 x35 x36 x37 x38 x39 x40 x41 x42 x43 x44 x45 x46 x47 x48 x49 x50 x51 x52 x53 x54 x55 x56 x57 x58 x59 x60 x61 x62 x63 x64 x65 x66 x67 x68 x69 x70 x71 x72 x73 x74 x75 x76 x77 x78 x79 x80 x81 x82 x83 x84 x85 x86 x87 x88 x89 x90 x91 x92 x93 x94 x95 x96 x97 x98 x99 x100 x101 x102 x103 x104 x105 x106 x107 rfl rfl rfl (w64_in _ (by omega)) _ (by rw [show (110 : Int) - 100 = 10 from rfl]; exact asked_3 10 (by decide) n0 n1 n2 W _ a ca b cb hN)
  · rw [show patt 111 = [110] from by decide] at hq
    obtain ⟨n0, e⟩ := sh_1 hq
    injection e with e1 e2
    subst e1 e2
    rw [show cmdOf 111 [n0] [] = some (askedOf 11 [n0] []) from rfl]
    exact line_ask w b0 hb0 W hB hT 111 a b ca cb [n0] [] true z0 x1 x3 x4 x9 x10 x11 x12 x13 x14 x15 x16 x17 x18 x19 x20 x21 x22 x23 x24 x25 x26 x27 x28 x29 x30 x31 x32 x33 x34 x35 x36 x37 x38 x39 x40 x41 x42 x43 x44 x45 x46 x47 x48 x49 x50 x51 x52 x53 x54 x55 x56 x57 x58 x59 x60 x61 x62 x63 x64 x65 x66 x67 x68 x69 x70 x71 x72 x73 x74 x75 x76 x77 x78 x79 x80 x81 x82 x83 x84 x85 x86 x87 x88 x89 x90 x91 x92 x93 x94 x95 x96 x97 x98 x99 x100 x101 x102 x103 x104 x105 x106 x107 rfl rfl rfl (w64_in _ (by omega)) _ (by rw [show (111 : Int) - 100 = 11 from rfl]; exact asked_1 11 (by decide) n0 W _ a ca b cb hN)
  · rw [show patt 112 = [110] from by decide] at hq
    obtain ⟨n0, e⟩ := sh_1 hq
    injection e with e1 e2
    subst e1 e2
    rw [show cmdOf 112 [n0] [] = some (askedOf 12 [n0] []) from rfl]
    exact line_ask w b0 hb0 W hB hT 112 a b ca cb [n0] [] true z0 x1 x3 x4 x9 x10 x11 x12 x13 x14 x15 x16 x17 x18 x19 x20 x21 x22 x23 x24 x25 x26 x27 x28 x29 x30 x31 x32 x33 x34 x35 x36 x37 x38 x39 x40 x41 x42 x43 x44 x45 x46 x47 x48 x49 x50 x51 x52 x53 x54 x55 x56 x57 x58 x59 x60 x61 x62 x63 x64 x65 x66 x67 x68 x69 x70 x71 x72 x73 x74 x75 x76 x77 x78 x79 x80 x81 x82 x83 x84 x85 x86 x87 x88 x89 x90 x91 x92 x93 x94 x95 x96 x97 x98 x99 x100 x101 x102 x103 x104 x105 x106 x107 rfl rfl rfl (w64_in _ (by omega)) _ (by rw [show (112 : Int) - 100 = 12 from rfl]; exact asked_1 12 (by decide) n0 W _ a ca b cb hN)
end Go.Proofs.YteblabpplaaddaaGreatDoor

namespace Go.Proofs.YteblabpplaaddaaGreatDoor
open Go.RowKit Go.Mine Go.Mine.Sc

theorem words_bound : ∀ (k : Nat) (rem ag s : B) (q : List Int × List B), s.length ≤ k → rwords rem ag s = some q → q.1.length + q.2.length ≤ s.length
  | k, rem, ag, [], q, _, h => by
    rw [rw_nil] at h
    split at h
    · rw [← Option.some.inj h]; simp
    · simp at h
  | 0, rem, ag, d :: t, q, hk, h => by simp at hk
  | k + 1, rem, ag, d :: t, q, hk, h => by
    rw [rw_cons] at h
    simp only [List.length_cons] at hk
    split at h
    · simp at h
    · split at h
      · split at h
        · split at h
          · simp at h
          · rename_i n r hn
            obtain ⟨q', h1, rfl⟩ := Option.map_eq_some_iff.1 h
            have := rNum_lt hn
            have := words_bound k _ _ r q' (by omega) h1
            simp; omega
        · split at h
          · simp at h
          · rename_i x r hn
            obtain ⟨q', h1, rfl⟩ := Option.map_eq_some_iff.1 h
            have := rText_lt hn
            have := words_bound k _ _ r q' (by omega) h1
            simp; omega
      · simp at h

/-- the loop that seeks a blank -/
def BlankR (s : B) (g : Nat) (v : Value) (W0 wr : World) : Prop := ∃ k : Nat, v = .int .i64 (k : Nat) ∧ k + g = s.length ∧ (∀ j, j < k → s[j]? ≠ some 32) ∧ wr = W0

set_option maxRecDepth 100000 in
set_option maxHeartbeats 4000000 in
theorem line_any (s : B) (hs : s.length ≤ 1000000) (w : World) : Calls Tryz.prog 46 #[.string (bs s)] w (LinePost w (rLine s)) := by
  have HSZ : Hid ((bs s).size = s.length) := bs_size s
  have HS : Hid (s.length ≤ 1000000) := hs
  have IX : Hid (∀ (k : Nat) (c : UInt8), s[k]? = some c → ∀ W, (Instr.index 9 (.string (bs s)) (.int .i64 (k : Nat))).run Tryz.prog W = .ok (.int .u8 (c.toNat : Nat)) W) := fun k c h W => ix_str s k c h W
  have ST : Hid (∀ k, k ≤ s.length → ∀ W, (Instr.slice 9 (.string (bs s)) none (some (.int .i64 (k : Nat))) none).run Tryz.prog W = .ok (.string (bs (s.take k))) W) := fun k h W => sl_to s k h W
  have SF : Hid (∀ k, k ≤ s.length → ∀ W, (Instr.slice 9 (.string (bs s)) (some (.int .i64 (k : Nat))) none none).run Tryz.prog W = .ok (.string (bs (s.drop k))) W) := fun k h W => sl_from s k h W
  have B0 : Hid (BlankR s s.length (.int .i64 0) (w.alloc (.cells zero11 40)) (w.alloc (.cells zero11 40))) := ⟨0, rfl, by omega, fun j h => by omega, rfl⟩
  obtain ⟨RL, hRL⟩ : ∃ RL, RL = rLine s := ⟨_, rfl⟩
  have HRL : Hid (RL = rLine s) := hRL
  rw [← hRL]
  generalize bs s = x at *
  clear hs hRL
  go_enter Tryz.func46, Tryz.ntmps46
  go_wp2
  go_loopg [4] s.length (fun g v wr => BlankR s g v (w.alloc (.cells zero11 40)) wr)
  case atStart => exact B0.out
  case round =>
    obtain ⟨k, rfl, hkg, hno, rfl⟩ := hrel
    have G : Hid (k + gk = s.length ∧ ∀ j, j < k → s[j]? ≠ some 32) := ⟨hkg, hno⟩
    clear hkg hno B0
    by_cases hlt : k < s.length
    · obtain ⟨c, hc⟩ : ∃ c, s[k]? = some c := ⟨_, List.getElem?_eq_getElem hlt⟩
      have hix := IX.out k c hc
      have hd1 : decide ((k : Int) < (x.size : Int)) = true := by rw [HSZ.out]; simp; omega
      have hd2 : decide (k < x.size) = true := by rw [HSZ.out]; simp; omega
      by_cases h32 : c = 32
      · have HT : Hid (tok s = s.take k ∧ (tok s).length = k) := tok_stop (by omega) G.out.2 (.inr (by rw [hc, h32]))
        have e32 : ((c.toNat : Int) != 32) = false := by rw [h32]; rfl
        clear hc hlt h32
        have HKS : Hid (k ≤ s.length) := hidD (by have := G.out.1; omega)
        have st := ST.out k HKS.out
        have sf := SF.out k HKS.out
        rw [← HT.out.1] at st
        rw [← HT.out.2, drop_tok] at sf
        rw [HT.out.2] at sf
        have h73 : ∀ W, Calls Tryz.prog 73 #[.string (bs (tok s))] W fun e w' => e = .returned (.int .i64 (rkind (tok s))) ∧ W = w' := fun W => kind_any (tok s) W
        have h75 : ∀ W, Calls Tryz.prog 75 #[.int .i64 (rkind (tok s))] W fun e w' => e = .returned (.string (bs (patt (rkind (tok s))))) ∧ W = w' := fun W => pattern_any _ (rkind_is (tok s)) W
        have HA : Hid ((aft s).length ≤ 1000000) := hidD (Nat.le_trans (aft_le s) HS.out)
        have IP : Hid (Inv (patt (rkind (tok s))) [] ∧ (patt (rkind (tok s))).length ≤ 10) := patt_inv (rkind_is (tok s))
        have W74 : Hid (∀ W, Calls Tryz.prog 74 #[.string (bs (aft s)), .string (bs (patt (rkind (tok s))))] W (WordsPost W (rwords (patt (rkind (tok s))) [] (aft s)))) := fun W => words_any _ _ HA.out IP.out.2 IP.out.1 W
        generalize bs (tok s) = xt at *
        generalize bs (aft s) = xa at *
        generalize bs (patt (rkind (tok s))) = xp at *
        have HKK : Hid (isKind (rkind (tok s)) ∧ RL = match rwords (patt (rkind (tok s))) [] (aft s) with | none => none | some q => cmdOf (rkind (tok s)) q.1 q.2) := ⟨rkind_is _, HRL.out⟩
        have HWB : Hid (∀ q, rwords (patt (rkind (tok s))) [] (aft s) = some q → q.1.length + q.2.length ≤ 1000000) := fun q h => Nat.le_trans (words_bound _ _ _ _ q (Nat.le_refl _) h) HA.out
        generalize hkk : rkind (tok s) = kk at *
        generalize aft s = sa at *
        clear hkk
        go_upto_region 5 with (go_at_call 73; (with_reducible refine (h73 _).mono ?_); rintro e w4 ⟨rfl, rfl⟩)
        cases hq : rwords (patt kk) [] sa with
        | none =>
          have h74 := W74.out
          rw [hq] at h74
          replace h74 : ∀ W, Calls Tryz.prog 74 #[.string xa, .string xp] W fun e w' => e = .returned (.tuple #[.slice none 0 0, .slice none 0 0, .bool false]) ∧ Turned (fun _ => False) W w' := h74
          go_region_with (first
            | (go_at_call 75; (with_reducible refine (h75 _).mono ?_); rintro e w4 ⟨rfl, rfl⟩)
            | (go_at_call 74; (with_reducible refine (h74 _).mono ?_); rintro e w5 ⟨rfl, ht5⟩; have T5 : Hid (Turned (fun _ => False) _ w5) := ht5; clear ht5))
          rename_i hK
          refine hK _ _ ?_
          have RN : RL = none := by rw [HKK.out.2, hq]
          have T6 := (Turned.alloc (fun _ => False) w (.cells zero11 40)).draw.trans T5.out fun _ _ q => q
          have B6 := (T5.out.block w.heap.size (by simp) id).trans (heap_alloc_new w _)
          rw [RN]
          by_cases h0 : kk = 0
          · exact line_k0 w _ rfl _ B6 T6 kk none none 0 0 [] [] false _ _ _ _ _ _ _ _ _ _ _ _ _ _ _ _ _ _ _ _ _ _ _ _ _ _ _ _ _ _ _ _ _ _ _ _ _ _ _ _ _ _ _ _ _ _ _ _ _ _ _ _ _ _ _ _ _ _ _ _ _ _ _ _ _ _ _ _ _ _ _ _ _ _ _ _ _ _ _ _ _ _ _ _ _ _ _ _ _ _ _ _ _ _ _ _ _ _ _ _ _ _ _ h0
          · exact line_no w _ rfl _ B6 T6 kk none none 0 0 [] [] false _ _ _ _ _ _ _ _ _ _ _ _ _ _ _ _ _ _ _ _ _ _ _ _ _ _ _ _ _ _ _ _ _ _ _ _ _ _ _ _ _ _ _ _ _ _ _ _ _ _ _ _ _ _ _ _ _ _ _ _ _ _ _ _ _ _ _ _ _ _ _ _ _ _ _ _ _ _ _ _ _ _ _ _ _ _ _ _ _ _ _ _ _ _ _ _ _ _ _ _ _ _ _ (by simpa using h0) rfl
        | some q =>
          obtain ⟨ns, xs⟩ := q
          have RS : Hid (RL = cmdOf kk ns xs) := hidD (by rw [HKK.out.2, hq])
          have BB : Hid (ns.length + xs.length ≤ 1000000) := hidD (HWB.out _ hq)
          have HQ : Hid (rwords (patt kk) [] sa = some (ns, xs)) := hq
          have h74 := W74.out
          rw [hq] at h74
          clear hq
          replace h74 : ∀ W, Calls Tryz.prog 74 #[.string xa, .string xp] W fun e w' => (∃ a c b d, e = .returned (.tuple #[.slice a ns.length c, .slice b xs.length d, .bool true]) ∧ Hid (Sl w' (fun b => W.heap.size ≤ b) 3 1 (.slice a ns.length c) (icells ns) ns.length ∧ Sl w' (fun b => W.heap.size ≤ b) 9 1 (.slice b xs.length d) (scells xs) xs.length)) ∧ Turned (fun _ => False) W w' := h74
          go_region_with (first
            | (go_at_call 75; (with_reducible refine (h75 _).mono ?_); rintro e w4 ⟨rfl, rfl⟩)
            | (go_at_call 74; (with_reducible refine (h74 _).mono ?_); rintro e w5 ⟨⟨a, ca, b, cb, rfl, SS⟩, ht5⟩; have T5 : Hid (Turned (fun _ => False) _ w5) := ht5; clear ht5))
          rename_i hK
          refine hK _ _ ?_
          have T6 := (Turned.alloc (fun _ => False) w (.cells zero11 40)).draw.trans T5.out fun _ _ q => q
          have B6 := (T5.out.block w.heap.size (by simp) id).trans (heap_alloc_new w _)
          rw [RS.out]
          exact line_tail w _ rfl _ B6 T6 kk a b ca cb ns xs sa HKK.out.1 HQ.out BB.out (SS.out.1.widen fun _ q => by simp at q; omega) (SS.out.2.widen fun _ q => by simp at q; omega) _ _ _ _ _ _ _ _ _ _ _ _ _ _ _ _ _ _ _ _ _ _ _ _ _ _ _ _ _ _ _ _ _ _ _ _ _ _ _ _ _ _ _ _ _ _ _ _ _ _ _ _ _ _ _ _ _ _ _ _ _ _ _ _ _ _ _ _ _ _ _ _ _ _ _ _ _ _ _ _ _ _ _ _ _ _ _ _ _ _ _ _ _ _ _ _ _ _ _ _ _ _ _
      · have HC : Hid (s[k]? = some c ∧ c ≠ 32 ∧ k < s.length) := ⟨hc, h32, hlt⟩
        have e32 : ((c.toNat : Int) != 32) = true := by
          have : c.toNat ≠ 32 := fun q => h32 (UInt8.toNat_inj.1 q)
          simp; omega
        have HW : Hid (wrap64 ((k : Int) + 1) = ((k + 1 : Nat) : Int)) := hidD (w64_in _ (by have := HS.out; omega))
        clear hc h32 hlt
        go_wp2
        go_roundg (gk - 1)
        case measure => have := G.out.1; have := HC.out.2.2; omega
        case rel => exact ⟨k + 1, by simp [HW.out], by have := G.out.1; have := HC.out.2.2; omega, fun j hj => by
          by_cases h : j = k
          · rw [h, HC.out.1]; intro q; exact HC.out.2.1 (Option.some.inj q)
          · exact G.out.2 j (by omega), rfl⟩
    · have HT : Hid (tok s = s.take k ∧ (tok s).length = k) := tok_stop (by have := G.out.1; omega) G.out.2 (.inl (by have := G.out.1; omega))
      have hd1 : decide ((k : Int) < (x.size : Int)) = false := by rw [HSZ.out]; simp; omega
      have hd2 : decide (k < x.size) = false := by rw [HSZ.out]; simp; omega
      clear hlt
      have HKS : Hid (k ≤ s.length) := hidD (by have := G.out.1; omega)
      have st := ST.out k HKS.out
      have sf := SF.out k HKS.out
      rw [← HT.out.1] at st
      rw [← HT.out.2, drop_tok] at sf
      rw [HT.out.2] at sf
      have h73 : ∀ W, Calls Tryz.prog 73 #[.string (bs (tok s))] W fun e w' => e = .returned (.int .i64 (rkind (tok s))) ∧ W = w' := fun W => kind_any (tok s) W
      have h75 : ∀ W, Calls Tryz.prog 75 #[.int .i64 (rkind (tok s))] W fun e w' => e = .returned (.string (bs (patt (rkind (tok s))))) ∧ W = w' := fun W => pattern_any _ (rkind_is (tok s)) W
      have HA : Hid ((aft s).length ≤ 1000000) := hidD (Nat.le_trans (aft_le s) HS.out)
      have IP : Hid (Inv (patt (rkind (tok s))) [] ∧ (patt (rkind (tok s))).length ≤ 10) := patt_inv (rkind_is (tok s))
      have W74 : Hid (∀ W, Calls Tryz.prog 74 #[.string (bs (aft s)), .string (bs (patt (rkind (tok s))))] W (WordsPost W (rwords (patt (rkind (tok s))) [] (aft s)))) := fun W => words_any _ _ HA.out IP.out.2 IP.out.1 W
      generalize bs (tok s) = xt at *
      generalize bs (aft s) = xa at *
      generalize bs (patt (rkind (tok s))) = xp at *
      have HKK : Hid (isKind (rkind (tok s)) ∧ RL = match rwords (patt (rkind (tok s))) [] (aft s) with | none => none | some q => cmdOf (rkind (tok s)) q.1 q.2) := ⟨rkind_is _, HRL.out⟩
      have HWB : Hid (∀ q, rwords (patt (rkind (tok s))) [] (aft s) = some q → q.1.length + q.2.length ≤ 1000000) := fun q h => Nat.le_trans (words_bound _ _ _ _ q (Nat.le_refl _) h) HA.out
      generalize hkk : rkind (tok s) = kk at *
      generalize aft s = sa at *
      clear hkk
      go_upto_region 5 with (go_at_call 73; (with_reducible refine (h73 _).mono ?_); rintro e w4 ⟨rfl, rfl⟩)
      cases hq : rwords (patt kk) [] sa with
      | none =>
        have h74 := W74.out
        rw [hq] at h74
        replace h74 : ∀ W, Calls Tryz.prog 74 #[.string xa, .string xp] W fun e w' => e = .returned (.tuple #[.slice none 0 0, .slice none 0 0, .bool false]) ∧ Turned (fun _ => False) W w' := h74
        go_region_with (first
          | (go_at_call 75; (with_reducible refine (h75 _).mono ?_); rintro e w4 ⟨rfl, rfl⟩)
          | (go_at_call 74; (with_reducible refine (h74 _).mono ?_); rintro e w5 ⟨rfl, ht5⟩; have T5 : Hid (Turned (fun _ => False) _ w5) := ht5; clear ht5))
        rename_i hK
        refine hK _ _ ?_
        have RN : RL = none := by rw [HKK.out.2, hq]
        have T6 := (Turned.alloc (fun _ => False) w (.cells zero11 40)).draw.trans T5.out fun _ _ q => q
        have B6 := (T5.out.block w.heap.size (by simp) id).trans (heap_alloc_new w _)
        rw [RN]
        by_cases h0 : kk = 0
        · exact line_k0 w _ rfl _ B6 T6 kk none none 0 0 [] [] false _ _ _ _ _ _ _ _ _ _ _ _ _ _ _ _ _ _ _ _ _ _ _ _ _ _ _ _ _ _ _ _ _ _ _ _ _ _ _ _ _ _ _ _ _ _ _ _ _ _ _ _ _ _ _ _ _ _ _ _ _ _ _ _ _ _ _ _ _ _ _ _ _ _ _ _ _ _ _ _ _ _ _ _ _ _ _ _ _ _ _ _ _ _ _ _ _ _ _ _ _ _ _ h0
        · exact line_no w _ rfl _ B6 T6 kk none none 0 0 [] [] false _ _ _ _ _ _ _ _ _ _ _ _ _ _ _ _ _ _ _ _ _ _ _ _ _ _ _ _ _ _ _ _ _ _ _ _ _ _ _ _ _ _ _ _ _ _ _ _ _ _ _ _ _ _ _ _ _ _ _ _ _ _ _ _ _ _ _ _ _ _ _ _ _ _ _ _ _ _ _ _ _ _ _ _ _ _ _ _ _ _ _ _ _ _ _ _ _ _ _ _ _ _ _ (by simpa using h0) rfl
      | some q =>
        obtain ⟨ns, xs⟩ := q
        have RS : Hid (RL = cmdOf kk ns xs) := hidD (by rw [HKK.out.2, hq])
        have BB : Hid (ns.length + xs.length ≤ 1000000) := hidD (HWB.out _ hq)
        have HQ : Hid (rwords (patt kk) [] sa = some (ns, xs)) := hq
        have h74 := W74.out
        rw [hq] at h74
        clear hq
        replace h74 : ∀ W, Calls Tryz.prog 74 #[.string xa, .string xp] W fun e w' => (∃ a c b d, e = .returned (.tuple #[.slice a ns.length c, .slice b xs.length d, .bool true]) ∧ Hid (Sl w' (fun b => W.heap.size ≤ b) 3 1 (.slice a ns.length c) (icells ns) ns.length ∧ Sl w' (fun b => W.heap.size ≤ b) 9 1 (.slice b xs.length d) (scells xs) xs.length)) ∧ Turned (fun _ => False) W w' := h74
        go_region_with (first
          | (go_at_call 75; (with_reducible refine (h75 _).mono ?_); rintro e w4 ⟨rfl, rfl⟩)
          | (go_at_call 74; (with_reducible refine (h74 _).mono ?_); rintro e w5 ⟨⟨a, ca, b, cb, rfl, SS⟩, ht5⟩; have T5 : Hid (Turned (fun _ => False) _ w5) := ht5; clear ht5))
        rename_i hK
        refine hK _ _ ?_
        have T6 := (Turned.alloc (fun _ => False) w (.cells zero11 40)).draw.trans T5.out fun _ _ q => q
        have B6 := (T5.out.block w.heap.size (by simp) id).trans (heap_alloc_new w _)
        rw [RS.out]
        exact line_tail w _ rfl _ B6 T6 kk a b ca cb ns xs sa HKK.out.1 HQ.out BB.out (SS.out.1.widen fun _ q => by simp at q; omega) (SS.out.2.widen fun _ q => by simp at q; omega) _ _ _ _ _ _ _ _ _ _ _ _ _ _ _ _ _ _ _ _ _ _ _ _ _ _ _ _ _ _ _ _ _ _ _ _ _ _ _ _ _ _ _ _ _ _ _ _ _ _ _ _ _ _ _ _ _ _ _ _ _ _ _ _ _ _ _ _ _ _ _ _ _ _ _ _ _ _ _ _ _ _ _ _ _ _ _ _ _ _ _ _ _ _ _ _ _ _ _ _ _ _ _
end Go.Proofs.YteblabpplaaddaaGreatDoor

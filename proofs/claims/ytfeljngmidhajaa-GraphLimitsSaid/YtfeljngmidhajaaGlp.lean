/- Graph files at the limits: plain; two rows as they stand in memory. -/
import Derived.Test.YtfeljngmidhajaaGbk
import Derived.BigQuiet
namespace Go.Proofs.Ytfeljngmidhajaa
open Go.RowKit Go.Mine

def zeros (n : Nat) : ByteArray := ⟨(List.replicate n (0 : UInt8)).toArray⟩
theorem zeros_size (n : Nat) : (zeros n).size = n := by
  show ((List.replicate n (0 : UInt8)).toArray).size = n
  simp
theorem make_zeros (n : Nat) (hn : n ≤ 281474976710656) (w : World) : (Instr.makeSlice 51 (.int .i64 n) (.int .i64 n)).run Try.prog w = .ok (.slice (some ⟨w.heap.size, 0, none⟩) n n) (w.alloc (.cells (madeCells #[.int .u8 0] (n * 1)) 5)) := by
  obtain ⟨i, hi, hz0, hz1, hz2⟩ := info_parts info5
  have := run_make (P := Try.prog) w 51 5 i _ Try.underlying51 hi hz0 .i64 .i64 n n (by omega) (by omega) (by rw [hz2]; omega) (by omega)
  rw [hz1] at this
  simp only [Value.cells, Int.toNat_natCast] at this
  exact this
theorem zeros_back (n : Nat) (w : World) : (convert 51 9 (.slice (some ⟨w.heap.size, 0, none⟩) n n)).run Try.prog (w.alloc (.cells (madeCells #[.int .u8 0] (n * 1)) 5)) = .ok (.string (zeros n)) (w.alloc (.cells (madeCells #[.int .u8 0] (n * 1)) 5)) := by
  have hl : (List.replicate n (0 : UInt8)).length = n := by simp
  have := run_convert_bytes_back (P := Try.prog) (w.alloc (.cells (madeCells #[.int .u8 0] (n * 1)) 5)) 51 9 5 ⟨w.heap.size, 0, none⟩ n (List.replicate n (0 : UInt8)) Try.underlying51 Try.underlying5 Try.underlying9 (fun j hj => by
    rw [Addr.add_lit, Nat.zero_add]
    refine cell_of (heap_alloc_last w _) j _ ?_
    rw [hl] at hj
    simp [madeCells, hj, Nat.mod_one])
  rw [hl] at this
  exact this

/-- the list of parents -/
def dl (n : Nat) : List Int := (List.range n).map fun i => 65533 - ((i * i : Nat) : Int)
theorem dl_length (n : Nat) : (dl n).length = n := by simp [dl]
theorem dl_succ (n : Nat) : dl (n + 1) = dl n ++ [65533 - ((n * n : Nat) : Int)] := by
  unfold dl
  rw [List.range_succ, List.map_append]
  rfl
theorem dl_get (n i : Nat) (p : Int) (h : (dl n)[i]? = some p) : i < n ∧ p = 65533 - ((i * i : Nat) : Int) := by
  unfold dl at h
  rw [List.getElem?_map] at h
  by_cases hi : i < n
  · rw [List.getElem?_range hi] at h
    exact ⟨hi, (Option.some.inj h).symm⟩
  · rw [List.getElem?_eq_none (by simpa using hi)] at h
    simp at h
theorem sq_le (i : Nat) (h : i ≤ 16) : i * i ≤ 256 := Nat.mul_le_mul h h
theorem dl_bound (n : Nat) (hn : n ≤ 16) (p : Int) (h : p ∈ dl n) : 0 ≤ p ∧ p < 65535 := by
  obtain ⟨i, hi⟩ := List.getElem?_of_mem h
  obtain ⟨h1, rfl⟩ := dl_get n i p hi
  have := sq_le i (by omega)
  omega
theorem sq_inj (i j : Nat) (h : i * i = j * j) : i = j := by
  rcases Nat.lt_trichotomy i j with q | q | q
  · have := Nat.mul_self_lt_mul_self q; omega
  · exact q
  · have := Nat.mul_self_lt_mul_self q; omega
theorem dl_good (n : Nat) (hn : n ≤ 16) : goodP 65535 (dl n) := by
  intro i p hi
  obtain ⟨h1, h2⟩ := dl_bound n hn p (List.mem_of_getElem? hi)
  refine ⟨h1, h2, fun hm => ?_⟩
  obtain ⟨j, hj⟩ := List.getElem?_of_mem hm
  rw [List.getElem?_take] at hj
  split at hj
  · rename_i hlt
    obtain ⟨-, q1⟩ := dl_get n i p hi
    obtain ⟨-, q2⟩ := dl_get n j p hj
    have := sq_inj i j (by omega)
    omega
  · simp at hj

/-- a graph of two rows -/
def gl (b h t1 g1 s1 : Int) (b1 : ByteArray) (l1 : List Int) (g0 s0 : Int) : Gr := ⟨b, h, 10, 9, 5, [⟨[], 0, g0, s0, ⟨#[]⟩⟩, ⟨l1, t1, g1, s1, b1⟩]⟩
theorem gl_good (n : Nat) (hn : n ≤ 16) (D : Nat) (hD : 1 ≤ D ∧ D ≤ 4096) : goodG (gl 65534 3 65535 1023 1 (zeros D) (dl n) 1 0) := by
  refine ⟨⟨by simp [gl], by simp [gl], by simp [gl]⟩, ⟨by simp [gl], by simp [gl], by simp [gl], by simp [gl], by simp [gl], by simp [gl]⟩, fun i r hr => ?_⟩
  rcases i with _ | _ | i
  · obtain rfl := Option.some.inj hr
    exact ⟨by simp, by simp, by simp, by simp, by simp, fun i p h => by simp at h, rfl⟩
  · obtain rfl := Option.some.inj hr
    refine ⟨by simp only [dl_length]; exact hn, by simp, by simp, by simp, by simp, dl_good n hn, ?_⟩
    unfold goodF
    rw [if_neg (by simp), if_pos rfl, zeros_size]
    simpa using hD
  · simp [gl] at hr
theorem gl_told (n : Nat) (hn : n ≤ 16) (D : Nat) (hD : 1 ≤ D ∧ D ≤ 4096) : ∃ s, encG (gl 65534 3 65535 1023 1 (zeros D) (dl n) 1 0) = .tuple #[.string s, .int .i64 0] := by
  have hg := gl_good n hn D hD
  obtain ⟨g, hgg⟩ : ∃ g, g = gl 65534 3 65535 1023 1 (zeros D) (dl n) 1 0 := ⟨_, rfl⟩
  have hrows : g.rows.length = 2 := by rw [hgg]; rfl
  have hB : (tellT g.rows).B.length ≤ 4096 := by
    rw [hgg]
    have : (tellT (gl 65534 3 65535 1023 1 (zeros D) (dl n) 1 0).rows).B = (zeros D).data.toList := by simp [tellT, stepT, gl]
    rw [this, Array.length_toList]
    have h2 : (zeros D).data.size = D := zeros_size D
    omega
  have hR := tellT_R g.rows
  have hN := tellT_N g.rows
  have hpar : ∀ r ∈ g.rows, r.par.length ≤ 16 := by
    rw [hgg]
    intro r hr
    simp only [gl, List.mem_cons, List.not_mem_nil, or_false] at hr
    rcases hr with rfl | rfl
    · simp
    · simp only [dl_length]; exact hn
  have hE := tellT_E g.rows hpar
  rw [← hgg] at hg ⊢
  rw [hrows] at hR hN hE
  have hds : dataSize (chunksG g) ≤ 5000 := by
    have e : dataSize (chunksG g) = (headB g).length + (tellT g.rows).R.length + (tellT g.rows).E.length + (tellT g.rows).N.length + (tellT g.rows).B.length := by
      simp only [chunksG, dataSize, bya_size]
      show (bya (headB g)).size + ((bya (tellT g.rows).R).size + ((bya (tellT g.rows).E).size + ((bya (tellT g.rows).N).size + ((bya (tellT g.rows).B).size + 0)))) = _
      simp only [bya_size]
      omega
    have hh : (headB g).length = 16 := by simp [headB, num_length]
    omega
  have hbe : buildErr (chunksG g) = 0 := by
    refine (buildErr_iff _).2 ⟨by simp [chunksG], by simp [chunksG, checkCh, hasCh], ?_⟩
    have : (chunksG g).length = 5 := rfl
    omega
  refine ⟨built (chunksG g), ?_⟩
  unfold encG grErr
  rw [if_pos hg, if_pos rfl, if_neg (by omega)]
  unfold buildV
  rw [if_pos hbe]
theorem enc_bad {g : Gr} (h : ¬ goodG g) : encG g = .tuple #[.string ⟨#[]⟩, .int .i64 1] := by
  unfold encG
  rw [if_neg (by rw [grErr_no h]; decide)]
theorem bad_row {b h t1 g1 s1 : Int} {b1 : ByteArray} {l1 : List Int} {g0 s0 : Int} (q : ¬ goodR ⟨l1, t1, g1, s1, b1⟩ (b + 1)) : ¬ goodG (gl b h t1 g1 s1 b1 l1 g0 s0) := fun k => q (by
  have := k.2.2 1 ⟨l1, t1, g1, s1, b1⟩ rfl
  exact this)
theorem bad_row0 {b h t1 g1 s1 : Int} {b1 : ByteArray} {l1 : List Int} {g0 s0 : Int} (q : ¬ goodR ⟨[], 0, g0, s0, ⟨#[]⟩⟩ b) : ¬ goodG (gl b h t1 g1 s1 b1 l1 g0 s0) := fun k => q (by
  have := k.2.2 0 ⟨[], 0, g0, s0, ⟨#[]⟩⟩ rfl
  have e : (gl b h t1 g1 s1 b1 l1 g0 s0).base + ((0 : Nat) : Int) = b := by show b + 0 = b; omega
  rw [e] at this
  exact this)

theorem bad0 (t1 g1 s1 : Int) (b1 : ByteArray) (l1 : List Int) : ¬ goodG (gl 65535 3 t1 g1 s1 b1 l1 1 0) := fun k => by
  have := k.1.2.2
  simp [gl] at this
theorem bad8 (t1 g1 s1 : Int) (b1 : ByteArray) (l1 : List Int) : ¬ goodG (gl 65534 0 t1 g1 s1 b1 l1 1 0) := fun k => by
  have := k.2.1.1
  simp [gl] at this
theorem bad1 (b1 : ByteArray) (l1 : List Int) : ¬ goodG (gl 65534 3 65536 1023 1 b1 l1 1 0) := bad_row fun k => by
  have := k.2.2.1
  simp at this
theorem bad2 (b1 : ByteArray) (l1 : List Int) : ¬ goodG (gl 65534 3 65535 1024 1 b1 l1 1 0) := bad_row fun k => by
  have := k.2.2.2.2.1
  simp at this
theorem bad3 (l1 : List Int) : ¬ goodG (gl 65534 3 65535 1023 1 (zeros 4097) l1 1 0) := bad_row fun k => by
  have := k.2.2.2.2.2.2
  unfold goodF at this
  rw [if_neg (by simp), if_pos rfl, zeros_size] at this
  simp at this
theorem bad4 (D : Nat) (hD : 1 ≤ D) (l1 : List Int) : ¬ goodG (gl 65534 3 65535 1023 2 (zeros D) l1 1 0) := bad_row fun k => by
  have := k.2.2.2.2.2.2
  unfold goodF at this
  rw [if_pos (by simp), zeros_size] at this
  simp at this
  omega
theorem bad5 (b1 : ByteArray) (l1 : List Int) : ¬ goodG (gl 65534 3 65535 1023 1 b1 l1 0 0) := bad_row0 fun k => by
  have := k.2.2.2.1
  simp at this
theorem bad6 (b1 : ByteArray) (l1 : List Int) : ¬ goodG (gl 65534 3 65535 1023 1 b1 l1 1 3) := bad_row0 fun k => by
  have := k.2.2.2.2.2.2
  simp [goodF] at this
theorem bad7 (b1 : ByteArray) : ¬ goodG (gl 65534 3 65535 1023 1 b1 [5, 6, 7, 5] 1 0) := bad_row fun k => by
  have := (k.2.2.2.2.2.1 3 5 rfl).2.2
  simp at this

abbrev rowL (a : Option Addr) (k : Nat) (r : Rw) : List Value := [.slice a r.par.length k, .int .i64 r.tree, .int .i64 r.gen, .int .i64 r.state, .string r.bits]
theorem two_rows {X : World} {S : Nat → Prop} {c : Nat} {a0 a1 : Option Addr} {k0 k1 : Nat} {r0 r1 : Rw} {rest : List Value} {cap : Nat} (hc : X.heap[c]? = some (.cells (rowL a0 k0 r0 ++ rowL a1 k1 r1 ++ rest).toArray 61 (0, 0))) (h0 : Ints X S a0 k0 r0.par) (h1 : Ints X S a1 k1 r1.par)
    (hS : S c) (ho0 : RwOk r0) (ho1 : RwOk r1) (hcap : 2 ≤ cap ∧ cap ≤ maxLen) : RwIs X S (some ⟨c, 0, none⟩) cap [r0, r1] := by
  refine ⟨hcap.1, hcap.2, fun r hr => ?_, fun _ => ⟨c, 0, rfl, hS, lt_of_block hc, fun i r hr => ?_⟩⟩
  · simp only [List.mem_cons, List.not_mem_nil, or_false] at hr
    rcases hr with rfl | rfl
    · exact ho0
    · exact ho1
  · rcases i with _ | _ | i
    · obtain rfl := Option.some.inj hr
      exact ⟨a0, k0, h0, cell_of hc 0 _ rfl, cell_of hc 1 _ rfl, cell_of hc 2 _ rfl, cell_of hc 3 _ rfl, cell_of hc 4 _ rfl⟩
    · obtain rfl := Option.some.inj hr
      exact ⟨a1, k1, h1, cell_of hc 5 _ rfl, cell_of hc 6 _ rfl, cell_of hc 7 _ rfl, cell_of hc 8 _ rfl, cell_of hc 9 _ rfl⟩
    · simp at hr
theorem ints_nil (X : World) (S : Nat → Prop) (a : Option Addr) (k : Nat) (hk : k ≤ maxLen) : Ints X S a k [] := ⟨Nat.zero_le _, hk, fun x hx => by simp at hx, fun h => by simp at h⟩
theorem ints_block {X : World} {S : Nat → Prop} {p k : Nat} {l : List Int} {rest : List Value} (hp : X.heap[p]? = some (.cells (ncells l ++ rest).toArray 3 (0, 0))) (hS : S p) (hk : l.length ≤ k ∧ k ≤ maxLen) (hl : ∀ x ∈ l, I64 x) : Ints X S (some ⟨p, 0, none⟩) k l := by
  refine ⟨hk.1, hk.2, hl, fun _ => ⟨p, 0, rfl, hS, lt_of_block hp, fun i x hx => ?_⟩⟩
  rw [Nat.zero_add]
  refine cell_of hp i _ ?_
  have hi := (List.getElem?_eq_some_iff.1 hx).1
  have hi2 : i < (ncells l).length := by simpa [ncells] using hi
  show (ncells l ++ rest).toArray[i]? = _
  rw [List.getElem?_toArray, List.getElem?_append_left hi2]
  simp [ncells, hx]

/-- what Encode and Check say of two rows -/
theorem two_calls {X : World} {a : Option Addr} {cap : Nat} {g : Gr} {v : Value} (h : RwIs X (fun _ => True) a cap g.rows) (hok : GrOk g) (hv : encG g = v) :
    (Calls Try.prog 24 #[grv a cap g] X fun e w' => e = .returned v ∧ Turned (fun _ => False) X w') ∧ (Calls Try.prog 26 #[grv a cap g] X fun e w' => e = .returned (.int .i64 (grErr g : Nat)) ∧ Turned (fun _ => False) X w') := by
  subst hv
  exact ⟨encode_any _ a cap g X h hok, check_any _ a cap g X h⟩
end Go.Proofs.Ytfeljngmidhajaa

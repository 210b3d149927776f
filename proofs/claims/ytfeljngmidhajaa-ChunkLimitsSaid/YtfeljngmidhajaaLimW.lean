/- ChunkLimits: the lists, and the walk. -/
import Derived.Test.YtfeljngmidhajaaBackW
import Derived.BigQuiet
namespace Go.Proofs.Ytfeljngmidhajaa
open Go.RowKit Go.Mine

/-- chunks without data, by falling IDs -/
def dn : Nat → List Ch
  | 0 => []
  | n + 1 => (n + 1, ⟨#[]⟩) :: dn n
theorem dn_length (n : Nat) : (dn n).length = n := by
  induction n with
  | zero => rfl
  | succ n ih => simp [dn, ih]
theorem dn_get : ∀ (n j : Nat), j < n → (dn n)[j]? = some (n - j, ⟨#[]⟩)
  | 0, j, h => by omega
  | n + 1, 0, h => rfl
  | n + 1, j + 1, h => by
    rw [dn, List.getElem?_cons_succ, dn_get n j (by omega)]
    congr 2
    omega
theorem dn_mem (n : Nat) : ∀ c ∈ dn n, 1 ≤ c.1 ∧ c.1 ≤ n ∧ c.2 = ⟨#[]⟩ := by
  induction n with
  | zero => intro c hc; simp [dn] at hc
  | succ n ih =>
    intro c hc
    rcases List.mem_cons.1 hc with rfl | hc
    · exact ⟨by simp, by simp, rfl⟩
    · have := ih c hc; exact ⟨this.1, by omega, this.2.2⟩
theorem dn_nodup (n : Nat) : ((dn n).map (·.1)).Nodup := by
  induction n with
  | zero => simp [dn]
  | succ n ih =>
    rw [dn, List.map_cons, List.nodup_cons]
    refine ⟨fun q => ?_, ih⟩
    obtain ⟨c, hc, hc2⟩ := List.mem_map.1 q
    have := dn_mem n c hc
    omega
theorem dn_size (n : Nat) : dataSize (dn n) = 0 := by
  induction n with
  | zero => rfl
  | succ n ih => rw [dn, dataSize, ih]; rfl

/-- the list with the data of its first chunk -/
def lim (n : Nat) (d : ByteArray) : List Ch := (n + 1, d) :: dn n
theorem lim_nodup (n : Nat) (d : ByteArray) : ((lim n d).map (·.1)).Nodup := dn_nodup (n + 1)
theorem lim_nz (n : Nat) (d : ByteArray) : ∀ c ∈ lim n d, c.1 ≠ 0 := by
  intro c hc
  rcases List.mem_cons.1 hc with rfl | hc
  · simp
  · have := dn_mem n c hc; omega
theorem lim_length (n : Nat) (d : ByteArray) : (lim n d).length = n + 1 := by simp [lim, dn_length]
theorem lim_size (n : Nat) (d : ByteArray) : dataSize (lim n d) = d.size := by rw [lim, dataSize, dn_size, Nat.add_zero]
theorem lim_err (n : Nat) (d : ByteArray) : buildErr (lim n d) = if 16 < n + 1 then 5 else if 4194304 < 10 + 8 * (n + 1) + d.size then 5 else 0 := by
  have hc : checkCh [] (lim n d) = 0 := checkCh_of _ [] (by simpa using lim_nodup n d) (lim_nz n d)
  unfold buildErr
  rw [lim_length, hc, lim_size]
  simp
theorem lim_last (n : Nat) (d : ByteArray) : (sortCh (lim n d))[n]? = some (n + 1, d) := by
  have hr := sortCh_rising _ (lim_nodup n d)
  have hl : (sortCh (lim n d)).length = n + 1 := by rw [sortCh_length, lim_length]
  have hm : (n + 1, d) ∈ sortCh (lim n d) := (sortCh_perm _).mem_iff.2 (by simp [lim])
  obtain ⟨j, hj⟩ := List.getElem?_of_mem hm
  obtain ⟨j1, j2⟩ := List.getElem?_eq_some_iff.1 hj
  by_cases hjn : j = n
  · subst hjn; exact hj
  · exfalso
    have h1 := List.pairwise_iff_getElem.1 hr j n j1 (by omega) (by omega)
    rw [j2] at h1
    have h2 : (sortCh (lim n d))[n]'(by omega) ∈ lim n d := (sortCh_perm _).mem_iff.1 (List.getElem_mem _)
    have h3 : ((sortCh (lim n d))[n]'(by omega)).1 ≤ n + 1 := by
      rcases List.mem_cons.1 h2 with q | q
      · rw [q]; exact Nat.le_refl _
      · have := dn_mem n _ q; omega
    have h4 : (n + 1 : Nat) < ((sortCh (lim n d))[n]'(by omega)).1 := h1
    omega

/-- that many bytes 0 -/
def zeros (n : Nat) : ByteArray := ⟨(List.replicate n (0 : UInt8)).toArray⟩
theorem zeros_size (n : Nat) : (zeros n).size = n := by
  show ((List.replicate n (0 : UInt8)).toArray).size = n
  simp
theorem make_zeros (n : Nat) (hn : n ≤ 281474976710656) (w : World) : (Instr.makeSlice 51 (.int .i64 n) (.int .i64 n)).run Try.prog w = .ok (.slice (some ⟨w.heap.size, 0, none⟩) n n) (w.alloc (.cells (madeCells #[.int .u8 0] (n * 1)) 5)) := by
  obtain ⟨i, hi, hz0, hz1, hz2⟩ := info_parts info5
  have := run_make (P := Try.prog) w 51 5 i _ Try.underlying51 hi hz0 .i64 .i64 n n (by omega) (by omega) (by rw [hz2]; omega) (by omega)
  rw [hz1] at this
  simp only [Value.cells, Int.toNat_natCast] at this
  exact this
theorem zeros_back (n : Nat) (w : World) : (convert 51 9 (.slice (some ⟨w.heap.size, 0, none⟩) n n)).run Try.prog (w.alloc (.cells (madeCells #[.int .u8 0] (n * 1)) 5)) = .ok (.string (zeros n)) (w.alloc (.cells (madeCells #[.int .u8 0] (n * 1)) 5)) := by
  have hl : (List.replicate n (0 : UInt8)).length = n := by simp
  have := run_convert_bytes_back (P := Try.prog) (w.alloc (.cells (madeCells #[.int .u8 0] (n * 1)) 5)) 51 9 5 ⟨w.heap.size, 0, none⟩ n (List.replicate n (0 : UInt8)) Try.underlying51 Try.underlying5 Try.underlying9 (fun j hj => by
    rw [Addr.add_lit, Nat.zero_add]
    refine cell_of (heap_alloc_last w _) j _ ?_
    rw [hl] at hj
    simp [madeCells, hj, Nat.mod_one])
  rw [hl] at this
  exact this

theorem wrap_small (j : Nat) (h : j < 20) : wrap64 (j : Int) = (j : Int) := by simp [wrap64]; omega
theorem succ_ne (j : Nat) : ((j : Int) + 1 == 0) = false := by rw [beq_eq_false_iff_ne]; omega
theorem drawN {S : Nat → Prop} {a w : World} (h : Turned S a w) (n : Nat) : Turned S a (w.drewN n) := ⟨h.os, h.tape, h.output, h.size, h.block⟩

def LmRel (w : World) (n : Nat) (g : Nat) (v i : Value) (wr : World) : Prop :=
  ∃ k : Nat, k + g = n ∧ i = .int .i64 k ∧ Sl wr (fun b => w.heap.size ≤ b) 31 2 v (ccells ((dn n).take k)) k ∧ Turned (fun _ => False) w wr

set_option maxRecDepth 100000 in
set_option maxHeartbeats 8000000 in
theorem limits_any (count more : Nat) (w : World) (hc : count < 256) (hm : more < 256) :
    Calls Try.prog 8 #[.int .u8 count, .int .u8 more] w fun e w' => e = .returned (.bool true) ∧ Turned (fun _ => False) w w' := by
  have hh := holds_any w
  obtain ⟨n, hn⟩ : ∃ n, n = count % 20 := ⟨_, rfl⟩
  have hmod : (count : Int) % 20 = (n : Int) := by rw [hn]; simp
  have hn20 : n < 20 := by rw [hn]; exact Nat.mod_lt _ (by decide)
  have HN : Hid (n < 20) := hn20
  have hw1 : wrap64 (n : Int) = (n : Int) := by simp [wrap64]; omega
  clear hn hc
  go_enter Try.func8, Try.ntmps8
  go_wp2_with (go_at_call 15; (with_reducible refine hh.mono ?_); rintro e w1 ⟨rfl, ht1⟩)
  have HS0 : Hid (LmRel w1 n n (.slice none 0 0) (.int .i64 0) w1) := ⟨0, by omega, rfl, by simpa [ccells] using Sl.nil w1 (fun b => w1.heap.size ≤ b) 31 2, Turned.refl _ _⟩
  have T1 : Hid (Turned (fun _ => False) w w1) := ht1
  clear ht1
  go_loopg [6, 19] n (fun g v i wr => LmRel w1 n g v i wr)
  case atStart => exact HS0.out
  case round =>
    obtain ⟨k, hkg, rfl, hsl, htr⟩ := hrel
    have G : Hid (k + gk = n) := hkg
    obtain ⟨a1, cap1, rfl, -, -⟩ := hsl.value
    have SX : Hid (Sl wr (fun b => w1.heap.size ≤ b) 31 2 (.slice a1 k cap1) (ccells ((dn n).take k)) k) := hsl
    have TR : Hid (Turned (fun _ => False) w1 wr) := htr
    clear hkg hsl htr HS0 hmod hw1
    by_cases hlt : k < n
    · have hnk : ((n - k : Nat) : Int) = (n : Int) - (k : Int) := by omega
      have hsrc := src_ch (n - k, ⟨#[]⟩) wr
      simp only [hnk] at hsrc
      have HSRC : Hid (Src Try.prog 2 22 (.slice (some ⟨wr.heap.size, 0, none⟩) 1 1) 1 (ccells [(n - k, ⟨#[]⟩)]) (wr.alloc (.cells #[.int .u32 ((n : Int) - (k : Int)), .string ⟨#[]⟩] 31))) := hsrc
      have HDN : Hid ((dn n)[k]? = some (n - k, ⟨#[]⟩)) := dn_get n k hlt
      have A1 : Hid (Sl (wr.alloc (.cells #[.int .u32 ((n : Int) - (k : Int)), .string ⟨#[]⟩] 31)) (fun b => w1.heap.size ≤ b) 31 2 (.slice a1 k cap1) (ccells ((dn n).take k)) k) := SX.out.turned (Turned.alloc (fun _ => False) wr _) fun _ _ q => q
      have m1 : Hid (k + 1 ≤ maxLen ∧ (k + 1) * 24 ≤ 140737488355328) := (by simp only [maxLen]; omega : k + 1 ≤ maxLen ∧ (k + 1) * 24 ≤ 140737488355328)
      clear hsrc hnk
      go_wp2_with (at_builtin; refine wpList_append rfl _ _ 22 22 rfl A1.out Try.underlying22 info31 rfl (by decide) rfl (.slice (some ⟨wr.heap.size, 0, none⟩) 1 1) rfl HSRC.out m1.out.1 m1.out.2 ?_; intro x4 w4 q1 t1; obtain ⟨a4, cap4, hv4, -, -⟩ := q1.value; subst hv4; have Q1 : Hid (Sl w4 _ 31 2 (.slice a4 (k + 1) cap4) _ (k + 1) ∧ Turned _ (wr.alloc (.cells #[.int .u32 ((n : Int) - (k : Int)), .string ⟨#[]⟩] 31)) w4) := ⟨q1, t1⟩; clear q1 t1)
      go_roundg (gk - 1)
      case measure => have := G.out; omega
      case rel =>
        have hgk := G.out
        have hn := HN.out
        have z1 := TR.out.size
        have z2 : (wr.alloc (.cells #[.int .u32 ((n : Int) - (k : Int)), .string ⟨#[]⟩] 31)).heap.size = wr.heap.size + 1 := by simp
        refine ⟨k + 1, by omega, by simp, ?_, (TR.out.new _).comp Q1.out.2 fun i hi q => q.elim (fun q => q) fun q => by omega⟩
        have q1 := Q1.out.1
        have e1 : ccells ((dn n).take k) ++ ccells [(n - k, ⟨#[]⟩)] = ccells ((dn n).take (k + 1)) := by
          rw [← ccells_append, List.take_add_one, HDN.out]; rfl
        rw [e1] at q1
        exact q1.widen fun b q => q.elim (fun q => q) fun q => by omega
    · have hk : k = n := by have := G.out; omega
      subst hk
      obtain ⟨m, hmm⟩ : ∃ m, m = more % 5 := ⟨_, rfl⟩
      have hmod5 : (more : Int) % 5 = (m : Int) := by rw [hmm]; simp
      have hm5 : m < 5 := by rw [hmm]; exact Nat.mod_lt _ (by decide)
      have HM : Hid (m < 5) := hm5
      have hdk : (dn k).take k = dn k := List.take_of_length_le (by rw [dn_length]; exact Nat.le_refl _)
      have hsx := SX.out
      rw [hdk] at hsx
      have SX2 : Hid (Sl wr (fun b => w1.heap.size ≤ b) 31 2 (.slice a1 k cap1) (ccells (dn k)) k) := hsx
      clear hmm hm hdk hsx hlt
      rcases Nat.eq_zero_or_pos k with hk0 | hk0
      · subst hk0
        -- none at all
        have hbv : buildV [] = .tuple #[.string (built []), .int .i64 0] := by rfl
        have hpb := parse_built [] rfl (fun c hc => by simp at hc)
        have hch : ChIs wr a1 cap1 [] := by
          have hs : Sl wr (fun b => w1.heap.size ≤ b) 31 2 (.slice a1 0 cap1) (ccells []) ([] : List Ch).length := SX2.out
          obtain ⟨a', cap', hv, hc⟩ := sl_chIs hs (fun c hc => by simp at hc)
          injection hv with e1 _ e3
          subst e1; subst e3
          exact hc
        have hB : Calls Try.prog 17 #[.slice a1 0 cap1] wr fun e w' => e = .returned (.tuple #[.string (built []), .int .i64 0]) ∧ Turned (fun _ => False) wr w' := by
          have := build_any a1 cap1 [] wr hch
          rw [hbv] at this
          exact this
        have hP : ∀ W, Calls Try.prog 29 #[.string (built [])] W fun e w' => Turned (fun _ => False) W w' ∧ ∃ v, e = .returned (.tuple #[v, .int .i64 0]) ∧ Sl w' (fun b => W.heap.size ≤ b) 31 2 v (ccells []) 0 := fun W => by
          have := parse_any (built []) W (by rw [built_size]; simp [dataSize])
          rw [hpb] at this
          exact this
        clear hch hpb hbv
        generalize built [] = s at *
        go_wp2_with (first
          | (go_at_call 17; (with_reducible refine hB.mono ?_); rintro e w4 ⟨rfl, ht4⟩)
          | (go_at_call 29; (with_reducible refine (hP _).mono ?_); rintro e w5 ⟨ht5, v5, rfl, hs5⟩; obtain ⟨a5, cap5, rfl, -, -⟩ := hs5.value; clear hs5))
        go_region
        all_goals go_wp2
        all_goals go_ret
        all_goals exact ⟨rfl, (((T1.out.trans TR.out fun _ _ q => q).trans ht4 fun _ _ q => q).trans ht5 fun _ _ q => q).draw⟩
      · obtain ⟨j, rfl⟩ : ∃ j, k = j + 1 := ⟨k - 1, by omega⟩
        obtain ⟨D, hD⟩ : ∃ D : Nat, D + 8 * (j + 1) = 4194292 + m := ⟨4194292 + m - 8 * (j + 1), by omega⟩
        have hDI : (4194294 : Int) - 8 * ((j : Int) + 1) - 2 + (m : Int) = (D : Int) := by omega
        have hj0 : decide ((0 : Int) < (j : Int) + 1) = true := by rw [decide_eq_true_iff]; omega
        have HD : Hid (D + 8 * (j + 1) = 4194292 + m) := hD
        obtain ⟨Z, hZ⟩ : ∃ Z, Z = madeCells #[Value.int .u8 0] (D * 1) := ⟨_, rfl⟩
        have hmk := make_zeros D (by omega) wr
        have hbk := zeros_back D wr
        rw [← hZ] at hmk hbk
        have hzz : (zeros D).size = D := zeros_size D
        obtain ⟨g, off, cp, hv, hS, -, -, hcl, hfr, hgl⟩ := SX2.out.opens (by omega)
        injection hv with e1 e2 e3
        subst e1
        subst e3
        have c1 : wr.cell? ⟨g, off + 1, none⟩ = some (.string ⟨#[]⟩) := (hcl 1 (by omega)).trans rfl
        have f1 := hfr (off + 1)
        obtain ⟨q1, q2, q3⟩ := SX2.out.set 1 (by omega) (.string (zeros D))
        have e4 : (ccells (dn (j + 1))).set 1 (.string (zeros D)) = ccells (lim j (zeros D)) := rfl
        rw [e4] at q1
        have hsm : Small (lim j (zeros D)) := by
          intro c hc
          rcases List.mem_cons.1 hc with rfl | hc
          · exact ⟨by simp; omega, by simp only [hzz]; omega⟩
          · have := dn_mem j c hc
            exact ⟨by omega, by rw [this.2.2]; decide⟩
        have hW3 : Sl ((wr.setCell ⟨g, off + 1, none⟩ (.string (zeros D))).alloc (.cells Z 5)) (fun b => w1.heap.size ≤ b) 31 2 (.slice (some ⟨g, off, none⟩) (j + 1) cap1) (ccells (lim j (zeros D))) (lim j (zeros D)).length := by
          rw [lim_length]
          exact q1.turned (Turned.alloc (fun _ => False) _ _) fun _ _ q => q
        have hch : ChIs ((wr.setCell ⟨g, off + 1, none⟩ (.string (zeros D))).alloc (.cells Z 5)) (some ⟨g, off, none⟩) cap1 (lim j (zeros D)) := by
          obtain ⟨a', cap', hv, hc⟩ := sl_chIs hW3 hsm
          injection hv with e1 _ e3
          subst e1; subst e3
          exact hc
        have hT3 : Turned (fun _ => False) w ((wr.setCell ⟨g, off + 1, none⟩ (.string (zeros D))).alloc (.cells Z 5)) :=
          (((T1.out.trans TR.out fun _ _ q => q).comp q2 (T := fun _ => False) fun i hi q => q.elim (fun q => q) fun q => by have := T1.out.size; omega).new _)
        have T3 : Hid (Turned (fun _ => False) w ((wr.setCell ⟨g, off + 1, none⟩ (.string (zeros D))).alloc (.cells Z 5))) := hT3
        have hB := build_any (some ⟨g, off, none⟩) cap1 (lim j (zeros D)) _ hch
        rw [lim_length] at hB
        have hC3 := hch.2.2.2 (by rw [lim_length]; omega)
        have C3 : Hid (((wr.setCell ⟨g, off + 1, none⟩ (.string (zeros D))).alloc (.cells Z 5)).cell? ⟨g, off + 1, none⟩ = some (.string (zeros D)) ∧ g < ((wr.setCell ⟨g, off + 1, none⟩ (.string (zeros D))).alloc (.cells Z 5)).heap.size) := by
          obtain ⟨b', off', hbb, hbl, hcc⟩ := hC3
          injection hbb with hbb
          injection hbb with e1 e2
          subst e1; subst e2
          exact ⟨by simpa using (hcc 0 _ rfl).2, hbl⟩
        have hle := lim_err j (zeros D)
        rw [hzz] at hle
        have hll := lim_last j (zeros D)
        have hpb := parse_built (lim j (zeros D))
        have hbs := built_size (lim j (zeros D))
        rw [lim_length, lim_size, hzz] at hbs
        have hlen := sortCh_length (lim j (zeros D))
        rw [lim_length] at hlen
        by_cases hbad : 16 < j + 1 ∨ 2 < m
        · have he5 : buildErr (lim j (zeros D)) = 5 := by
            rw [hle]
            rcases hbad with q | q
            · rw [if_pos q]
            · split
              · rfl
              · rw [if_pos (by omega)]
          have hbv : buildV (lim j (zeros D)) = .tuple #[.string ⟨#[]⟩, .int .i64 5] := by unfold buildV; rw [he5]; rfl
          rw [hbv] at hB
          obtain ⟨Z2, hZ2⟩ : ∃ Z2, Z2 = madeCells #[Value.int .u8 0] (4194305 * 1) := ⟨_, rfl⟩
          obtain ⟨zz, hzz2⟩ : ∃ zz, zz = zeros 4194305 := ⟨_, rfl⟩
          have hmk2 : ∀ W, (Instr.makeSlice 51 (.int .i64 4194305) (.int .i64 4194305)).run Try.prog W = .ok (.slice (some ⟨(W : World).heap.size, 0, none⟩) 4194305 4194305) (W.alloc (.cells Z2 5)) := fun W => by
            rw [hZ2]; exact make_zeros 4194305 (by decide) W
          have hbk2 : ∀ W : World, (convert 51 9 (.slice (some ⟨W.heap.size, 0, none⟩) 4194305 4194305)).run Try.prog (W.alloc (.cells Z2 5)) = .ok (.string zz) (W.alloc (.cells Z2 5)) := fun W => by
            rw [hZ2, hzz2]; exact zeros_back 4194305 W
          have hps : ∀ W, Calls Try.prog 29 #[.string zz] W fun e w' => Turned (fun _ => False) W w' ∧ e = .returned (.tuple #[.slice none 0 0, .int .i64 5]) := fun W => by
            have hz : zz.size = 4194305 := by rw [hzz2]; exact zeros_size _
            have := parse_any zz W (by rw [hz]; decide)
            have hR : parseR zz = .error 5 := by unfold parseR; rw [if_pos (by rw [hz]; decide)]
            rw [hR] at this
            exact this
          have hcs : (decide ((16 : Int) < (j : Int) + 1) = true) ∨ (decide ((16 : Int) < (j : Int) + 1) = false ∧ decide ((2 : Int) < (m : Int)) = true ∧ decide (2 < m) = true) := by
            by_cases q : 16 < j + 1
            · exact .inl (by rw [decide_eq_true_iff]; omega)
            · exact .inr ⟨by rw [decide_eq_false_iff_not]; omega, by rw [decide_eq_true_iff]; omega, by rw [decide_eq_true_iff]; omega⟩
          clear hbad he5 hbv hle hll hpb hbs hlen hZ2 hzz2 hZ hzz hcl hfr hsm hW3 hch hC3 hT3 q1 q2 q3 e4 e2 hD
          generalize zeros D = z at *
          rcases hcs with hc1 | ⟨hc1, hc2, hc3⟩
          all_goals
            go_wp2_with (first
              | (go_at_call 17; (with_reducible refine hB.mono ?_); rintro e w4 ⟨rfl, ht4⟩)
              | (go_at_call 29; (with_reducible refine (hps _).mono ?_); rintro e w5 ⟨ht5, rfl⟩))
            go_ret
            exact ⟨rfl, ((T3.out.trans ht4 fun _ _ q => q).new _).trans ht5 fun _ _ q => q⟩
        · have he0 : buildErr (lim j (zeros D)) = 0 := by
            rw [hle, if_neg (by omega), if_neg (by omega)]
          have hbv : buildV (lim j (zeros D)) = .tuple #[.string (built (lim j (zeros D))), .int .i64 0] := by unfold buildV; rw [he0]; rfl
          rw [hbv] at hB
          have hps : ∀ W, Calls Try.prog 29 #[.string (built (lim j (zeros D)))] W fun e w' => Turned (fun _ => False) W w' ∧ ∃ v, e = .returned (.tuple #[v, .int .i64 0]) ∧ Sl w' (fun b => W.heap.size ≤ b) 31 2 v (ccells (sortCh (lim j (zeros D)))) (j + 1) := fun W => by
            have := parse_any (built (lim j (zeros D))) W (by omega)
            rw [hpb he0 hsm] at this
            unfold ParsePost at this
            rw [← hlen]
            exact this
          have hc1 : decide ((16 : Int) < (j : Int) + 1) = false := by rw [decide_eq_false_iff_not]; omega
          have hc2 : decide ((2 : Int) < (m : Int)) = false := by rw [decide_eq_false_iff_not]; omega
          have hc3 : decide (2 < m) = false := by rw [decide_eq_false_iff_not]; omega
          have hwj : wrap64 (j : Int) = (j : Int) := wrap_small j (Nat.lt_of_succ_lt hn20)
          have hne0 : ((j : Int) + 1 == 0) = false := succ_ne j
          have HLL : Hid ((ccells (sortCh (lim j (zeros D))))[j * 2 + 1]? = some (.string (zeros D))) := (ccells_get _ j _ hll).2
          clear hbad he0 hbv hle hll hpb hbs hlen hZ hzz hcl hfr hsm hW3 hch hC3 hT3 q1 q2 q3 e4 e2 hD
          generalize built (lim j (zeros D)) = s at *
          generalize ccells (sortCh (lim j (zeros D))) = cs at *
          generalize zeros D = z at *
          have hjj : j < j + 1 := by omega
          go_wp2_with (first
            | (go_at_call 17; (with_reducible refine hB.mono ?_); rintro e w4 ⟨rfl, ht4⟩)
            | (go_at_call 29; (with_reducible refine (hps _).mono ?_); rintro e w5 ⟨ht5, v5, rfl, hs5⟩; obtain ⟨g5, off5, cap5, rfl, -, -, -, hcl5, -, hg5⟩ := hs5.opens (Nat.succ_pos j); have d1 : w5.cell? ⟨g5, off5 + j * 2 + 1, none⟩ = some (.string z) := (by rw [Nat.add_assoc]; exact (hcl5 (j * 2 + 1) (by omega)).trans HLL.out); have T45 : Hid (Turned (fun _ => False) ((wr.setCell ⟨g, off + 1, none⟩ (.string z)).alloc (.cells Z 5)) w5) := ht4.trans ht5 (fun _ _ q => q); have d0 : w5.cell? ⟨g, off + 1, none⟩ = some (.string z) := (by rw [World.cell?_of_block (w' := w5) (T45.out.block g C3.out.2 fun q => q)]; exact C3.out.1); have hg : g < w5.heap.size := Nat.lt_of_lt_of_le C3.out.2 T45.out.size; clear hcl5 hs5 ht5 ht4))
          go_quiet (fail)
          all_goals go_wp2
          all_goals go_ret
          all_goals exact ⟨rfl, drawN (T3.out.trans T45.out fun _ _ q => q) _⟩
end Go.Proofs.Ytfeljngmidhajaa

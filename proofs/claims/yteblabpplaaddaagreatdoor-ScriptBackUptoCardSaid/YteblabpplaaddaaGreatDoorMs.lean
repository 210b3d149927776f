/- Print; Mine; the law ScriptBack's walk. -/
import Derived.Test.YteblabpplaaddaaGreatDoorMr
import Derived.Shelf.Strings.OnBuilder
import Derived.Shelf.Strings.Builder1
import Derived.Lib.ItoaLen
import Derived.Test.YteblabpplaaddaaGreatDoorMy
set_option linter.unusedVariables false
set_option linter.unusedSimpArgs false
namespace Go.Proofs.YteblabpplaaddaaGreatDoor
open Go.RowKit Go.Mine Go.Mine.Sc

theorem jnX : Builder.Extra Tryz.prog Tryz.joinLays_ren where
  sizeBuilder := by kernel_rfl
  liesBuilder := by kernel_rfl
  t5 := Tryz.underlying5
  a5 := Tryz.isAgg5
  z5 := Tryz.sizeOf5
  v5 := Tryz.zeroValue5
  infoByte := by kernel_rfl
  cellsByte := by kernel_rfl
  sizeByte := by kernel_rfl
  neB5 := by decide
theorem wsL : Lays.n166 Tryz.prog Tryz.tlLays_ren := { Tryz.tlLays with }
theorem wbL : Lays.n167 Tryz.prog Tryz.tlLays_ren := { Tryz.tlLays with }
theorem stL : Lays.n169 Tryz.prog Tryz.tlLays_ren := { Tryz.tlLays with }

/-- the builder at block b holds the bytes l; all that is its own lies from B on -/
def Bld (B0 b : Nat) (l : B) (w : World) : Prop := Lib.IsBuilder 74 5 B0 b (Lib.byteCells l) w
theorem bytes_app (a b : B) : Lib.byteCells (a ++ b) = Lib.byteCells a ++ Lib.byteCells b := by simp [Lib.byteCells]
theorem bld_new (B0 : Nat) (w : World) (h : B0 ≤ w.heap.size) : Bld B0 w.heap.size [] (w.alloc (.cells #[.pointer none, .slice none 0 0] 74)) :=
  .inl ⟨h, .slice none 0 0, heap_alloc_new w _, ⟨rfl, .inl ⟨rfl, rfl⟩⟩, by simp [Value.ownBlock]⟩
theorem bld_turned {B0 b : Nat} {l : B} {w w' : World} (h : Bld B0 b l w) (t : Turned (fun _ => False) w w') : Bld B0 b l w' := by
  have key : ∀ p, Lib.BuilderAt 74 5 B0 b p (Lib.byteCells l) w → Lib.BuilderAt 74 5 B0 b p (Lib.byteCells l) w' := by
    rintro p ⟨h1, v, h2, h3, h4⟩
    refine ⟨h1, v, (t.block b (lt_of_block h2) id).trans h2, ⟨h3.1, ?_⟩, h4⟩
    rcases h3.2 with q | ⟨g, cap, cur, e1, e2, e3, e4⟩
    · exact .inl q
    · exact .inr ⟨g, cap, cur, e1, e2, (t.block g (lt_of_block e3) id).trans e3, e4⟩
  exact h.elim (fun q => .inl (key _ q)) fun q => .inr (key _ q)
theorem bld_lt {B0 b : Nat} {l : B} {w : World} (h : Bld B0 b l w) : B0 ≤ b ∧ b < w.heap.size := by
  rcases h with ⟨h1, v, h2, -⟩ | ⟨h1, v, h2, -⟩
  · exact ⟨h1, lt_of_block h2⟩
  · exact ⟨h1, lt_of_block h2⟩
theorem ws_any (B0 b : Nat) (l s : B) (w : World) (h : Bld B0 b l w) (hl : l.length + s.length ≤ 140737488355328) (hB : B0 ≤ w.heap.size) :
    Calls Tryz.prog 34 #[pt b, .string (bs s)] w fun e w' => (∃ v, e = .returned v) ∧ Bld B0 b (l ++ s) w' ∧ Below B0 w w' := by
  refine (Any.Builder_WriteString wsL tlX B0 b (Lib.byteCells l) (bs s) w h (by rw [Lib.byteCells_length, bs_size]; exact hl) hB).mono fun e w' ⟨h1, h2, h3⟩ => ⟨⟨_, h1⟩, ?_, h3⟩
  have e : Lib.strCells (bs s) = Lib.byteCells s := by simp [Lib.strCells, Lib.byteCells]
  rw [e, ← bytes_app] at h2
  exact .inr h2
theorem wb_any (B0 b : Nat) (l : B) (c : UInt8) (w : World) (h : Bld B0 b l w) (hl : l.length + 1 ≤ 140737488355328) (hB : B0 ≤ w.heap.size) :
    Calls Tryz.prog 40 #[pt b, .int .u8 (c.toNat : Nat)] w fun e w' => e = .returned .nilIface ∧ Bld B0 b (l ++ [c]) w' ∧ Below B0 w w' := by
  refine (Any.Builder_WriteByte wbL tlX B0 b (Lib.byteCells l) (c.toNat : Nat) w h (by rw [Lib.byteCells_length]; exact hl) hB).mono fun e w' ⟨h1, h2, h3⟩ => ⟨h1, ?_, h3⟩
  have e : Lib.byteCells l ++ [.int .u8 (c.toNat : Nat)] = Lib.byteCells (l ++ [c]) := (bytes_app l [c]).symm
  rw [e] at h2
  exact .inr h2
theorem str_any (B0 b : Nat) (l : B) (w : World) (h : Bld B0 b l w) (hB : B0 ≤ w.heap.size) :
    Calls Tryz.prog 35 #[pt b] w fun e w' => e = .returned (.string (bs l)) ∧ Below B0 w w' :=
  (Any.Builder_String_any stL tlX B0 b l w h hB).mono fun e w' ⟨h1, h2⟩ => ⟨h1, by first | exact h2.2 | (rcases h2 with ⟨-, -, q⟩; exact q) | exact h2⟩
set_option maxRecDepth 100000 in
theorem blen_any (B0 b : Nat) (l : B) (w : World) (h : Bld B0 b l w) : Calls Tryz.prog 41 #[pt b] w fun e w' => e = .returned (.int .i64 (l.length : Nat)) ∧ w' = w := by
  obtain ⟨p, v, hb, a, cap, rfl⟩ : ∃ p v, w.heap[b]? = some (.cells #[p, v] 74 (0, 0)) ∧ ∃ a cap, v = .slice a l.length cap := by
    have key : ∀ p, Lib.BuilderAt 74 5 B0 b p (Lib.byteCells l) w → ∃ p v, w.heap[b]? = some (.cells #[p, v] 74 (0, 0)) ∧ ∃ a cap, v = .slice a l.length cap := by
      rintro p ⟨h1, v, h2, h3, h4⟩
      refine ⟨p, v, h2, ?_⟩
      rw [Lib.byteCells_length] at h3
      rcases h3.2 with ⟨q1, q2⟩ | ⟨g, cap, cur, e1, -⟩
      · exact ⟨none, 0, by rw [q1, q2]⟩
      · exact ⟨_, _, e1⟩
    exact h.elim (key _) (key _)
  have c1 := cell_of hb 1 _ rfl
  simp only [List.getElem_toArray, List.getElem_cons_zero, List.getElem_cons_succ] at c1
  have l1 := lt_of_block hb
  clear h hb
  generalize l.length = n at *
  go_enter Tryz.func41, Tryz.ntmps41
  go_wp2
  go_ret
  exact ⟨rfl, rfl⟩

theorem join_any (W : World) (R : Nat → Prop) (a : Option Addr) (n k : Nat) (ws : List B) (h : Rd W R 1 (.slice a n k) (scells ws) n) (h0 : 0 < n) (hn : n ≤ 140737488355328) (hl : (Lib.join ws [32]).length ≤ 140737488355328) :
    Calls Tryz.prog 16 #[.slice a n k, .string ⟨#[32]⟩] W fun e w' => e = .returned (.string (bs (Lib.join ws [32]))) ∧ Turned (fun _ => False) W w' := by
  have hnl : n = ws.length := by have := h.1; simp [scells] at this; omega
  obtain ⟨g, o, rfl, hg, hc⟩ := h.opens h0
  obtain ⟨-, a', k', hv, hk, -⟩ := h
  injection hv with e1 e2 e3
  subst e3
  have e : (ws.map bs).map (·.data.toList) = ws := by simp [List.map_map, Function.comp_def]
  have := Any.strings_Join Tryz.joinLays jnX g o k (ws.map bs) ⟨#[32]⟩ W (fun j x hx => by
    rw [List.getElem?_map] at hx
    obtain ⟨y, hy, rfl⟩ := Option.map_eq_some_iff.1 hx
    have hj := (List.getElem?_eq_some_iff.1 hy).1
    rw [hc j (by omega)]
    simp [scells, hy]) hg (by rw [List.length_map]; omega) (by rw [List.length_map]; omega) (by rw [e]; exact hl)
  rw [e, List.length_map, ← hnl] at this
  exact this.mono fun e w' q => ⟨q.1, below_turned q.2⟩
theorem join_tail (x : B) (ws : List B) : Lib.join (x :: ws) [32] = x ++ tailW ws := by
  rw [Lib.join_cons]
  simp [Lib.joinTail, tailW, List.flatMap]
end Go.Proofs.YteblabpplaaddaaGreatDoor

set_option linter.unusedVariables false
set_option linter.unusedSimpArgs false
namespace Go.Proofs.YteblabpplaaddaaGreatDoor
open Go.RowKit Go.Mine Go.Mine.Sc

theorem itoa_short (n : Int) (h : I64 n) : (Lib.itoa n).length ≤ 4194306 := Nat.le_trans (Lib.itoa_length_le n h.1 h.2) (by decide)
theorem cmdW_short (c : Cmd) (ok : CmdOk c) (few : CmdFew c) : (cmdW c).length ≤ 2097156 ∧ ∀ x ∈ cmdW c, x.length ≤ 4194306 := by
  have Q : ∀ t : B, t.length ≤ 1048576 → (quote t).length ≤ 4194306 := fun t h => by have := (quote_len t).2; omega
  have I := itoa_short
  have g0 : I64 (c.nums.getD 0 0) := by
    cases hn : c.nums with
    | nil => exact i64_0
    | cons n l => exact ok.nums n (by rw [hn]; simp)
  unfold cmdW
  split
  · refine ⟨by have := few.nums; simp; omega, fun x hx => ?_⟩
    obtain ⟨n, hn, rfl⟩ := List.mem_map.1 hx
    exact I n (ok.nums n hn)
  split
  · refine ⟨by rw [treeW_len]; have := few.tree; omega, fun x hx => ?_⟩
    simp only [treeW, List.mem_flatMap, List.mem_cons, List.not_mem_nil, or_false] at hx
    obtain ⟨e, he, rfl | rfl⟩ := hx
    · exact Q _ (few.path e he)
    · exact I _ (by have := ok.tree e he; unfold I64; omega)
  split
  · refine ⟨by simp, fun x hx => ?_⟩
    simp only [List.mem_cons, List.not_mem_nil, or_false] at hx
    rcases hx with rfl | rfl | rfl
    · exact Q _ few.text
    · exact I _ g0
    · exact Q _ few.more
  split
  · refine ⟨by simp, fun x hx => ?_⟩
    simp only [List.mem_cons, List.not_mem_nil, or_false] at hx
    subst hx
    exact Q _ few.text
  split
  · refine ⟨by simp, fun x hx => ?_⟩
    simp only [List.mem_cons, List.not_mem_nil, or_false] at hx
    rcases hx with rfl | rfl
    · exact Q _ few.text
    · exact I _ g0
  split
  · unfold askW
    split
    · refine ⟨by simp, fun x hx => ?_⟩
      simp only [List.mem_cons, List.not_mem_nil, or_false] at hx
      rcases hx with rfl | rfl
      · exact I _ ok.a
      · exact I _ ok.b
    split
    · refine ⟨by have := few.ids; simp; omega, fun x hx => ?_⟩
      obtain ⟨n, hn, rfl⟩ := List.mem_map.1 hx
      exact I n (ok.ids n hn)
    split
    · refine ⟨by simp, fun x hx => ?_⟩
      simp only [List.mem_cons, List.not_mem_nil, or_false] at hx
      rcases hx with rfl | rfl
      · exact I _ ok.a
      · exact Q _ few.ask
    split
    · refine ⟨by simp, fun x hx => ?_⟩
      simp only [List.mem_cons, List.not_mem_nil, or_false] at hx
      rcases hx with rfl | rfl | rfl
      · exact I _ ok.a
      · exact I _ ok.b
      · exact I _ ok.limit
    · refine ⟨by simp, fun x hx => ?_⟩
      simp only [List.mem_cons, List.not_mem_nil, or_false] at hx
      subst hx
      exact I _ ok.a
  · exact ⟨by simp, by simp⟩
theorem tailW_le (m : Nat) : ∀ (ws : List B), (∀ x ∈ ws, x.length ≤ m) → (tailW ws).length ≤ ws.length * (m + 1)
  | [], _ => by simp [tailW]
  | x :: ws, h => by
    have := tailW_le m ws fun y hy => h y (List.mem_cons_of_mem _ hy)
    have := h x (List.mem_cons_self ..)
    rw [tailW_cons, List.length_cons, List.length_append, List.length_cons, Nat.add_mul]
    omega
theorem name_short (c : Cmd) : (nameC c).length ≤ 11 := by
  have F : ∀ (l : List (Int × B)) k, (∀ p ∈ l, p.2.length ≤ 11) → (nameIn l k).length ≤ 11 := by
    intro l k h
    unfold nameIn
    split
    · rename_i p hp
      exact h p (List.mem_of_find?_eq_some hp)
    · simp
  unfold nameC
  split
  · exact F _ _ (by decide)
  · exact F _ _ (by decide)
theorem line_short (c : Cmd) (ok : CmdOk c) (few : CmdFew c) : (lineS c).length ≤ 10000000000000 := by
  obtain ⟨h1, h2⟩ := cmdW_short c ok few
  have h3 := tailW_le 4194306 (cmdW c) h2
  have h4 := name_short c
  have h5 : (cmdW c).length * (4194306 + 1) ≤ 2097156 * (4194306 + 1) := Nat.mul_le_mul_right _ h1
  unfold lineS
  rw [List.length_append]
  omega
theorem text_succ {l : List Cmd} {i : Nat} {c : Cmd} (h : l[i]? = some c) : textS (l.take (i + 1)) = textS (l.take i) ++ (lineS c ++ [10]) := by
  rw [List.take_add_one, h]; simp [textS]
theorem text_take (l : List Cmd) (i : Nat) : (textS (l.take i)).length ≤ (textS l).length := by
  have : textS l = textS (l.take i) ++ textS (l.drop i) := by
    unfold textS
    rw [← List.flatMap_append, List.take_append_drop]
  rw [this, List.length_append]; omega

def PrR (w : World) (b : Nat) (l : List Cmd) (g : Nat) (v : Value) (wr : World) : Prop :=
  ∃ i : Nat, i + g = l.length ∧ v = .int .i64 (i : Nat) ∧ Bld w.heap.size b (textS (l.take i)) wr ∧ (textS (l.take i)).length ≤ 65536 ∧ Turned (fun _ => False) w wr
def PrPost (w : World) (r : B × Nat) (e : Ending) (w' : World) : Prop := e = .returned (.tuple #[.string (bs r.1), .int .i64 (r.2 : Nat)]) ∧ Turned (fun _ => False) w w'
theorem below_of {w wr w' : World} (ht : Turned (fun _ => False) w wr) (h : Below w.heap.size wr w') : Turned (fun _ => False) w w' :=
  ⟨h.os.trans ht.os, h.tape.trans ht.tape, h.output.trans ht.output, Nat.le_trans ht.size h.size, fun b hb _ => (h.block b hb).trans (ht.block b hb id)⟩

set_option maxRecDepth 100000 in
set_option maxHeartbeats 8000000 in
theorem print_any (w0 w : World) (hL : Lw w0 w) (R : Nat → Prop) (v : Value) (l : List Cmd) (h : CmdsR w R v l) (ok : ∀ c ∈ l, CmdOk c ∧ CmdFew c) (hl : l.length ≤ 1048576) :
    Calls Tryz.prog 20 #[v] w (PrPost w (printS 5 14 l)) := by
  have h36 := contains_unfit w R v l h (Nat.le_trans hl (by decide))
  obtain ⟨a, cap, rfl, -, -⟩ := h.value
  have H : Hid (CmdsR w R (.slice a l.length cap) l ∧ (∀ c ∈ l, CmdOk c ∧ CmdFew c) ∧ l.length ≤ 1048576 ∧ Lw w0 w) := ⟨h, ok, hl, hL⟩
  by_cases hu : ∃ c ∈ l, ¬ fitS c
  · rw [decide_eq_true hu] at h36
    have HP : Hid (printS 5 14 l = ([], 14)) := hidS (by unfold printS; rw [if_pos hu])
    clear h ok hl hL hu
    generalize l.length = n at *
    rw [HP.out]
    go_enter Tryz.func20, Tryz.ntmps20
    go_wp2_with (go_at_call 36; (with_reducible refine h36.mono ?_); rintro e w2 ⟨rfl, ht⟩; have T2 : Hid (Turned (fun _ => False) w w2) := ht; clear ht h36)
    go_ret2
    exact ⟨rfl, T2.out⟩
  have HF : Hid (∀ c ∈ l, fitS c) := hidS fun c hc => Classical.byContradiction fun q => hu ⟨c, hc, q⟩
  rw [decide_eq_false hu] at h36
  by_cases hn : 1024 < l.length
  · have HP : Hid (printS 5 14 l = ([], 5)) := hidS (by unfold printS; rw [if_neg hu, if_pos (.inl hn)])
    have hd1 : decide ((1024 : Int) < (l.length : Int)) = true := by simp; omega
    have hd2 : decide (1024 < l.length) = true := by simp; omega
    clear h ok hl hL hu hn HF H
    generalize l.length = n at *
    rw [HP.out]
    go_enter Tryz.func20, Tryz.ntmps20
    go_wp2_with (go_at_call 36; (with_reducible refine h36.mono ?_); rintro e w2 ⟨rfl, ht⟩; have T2 : Hid (Turned (fun _ => False) w w2) := ht; clear ht h36)
    go_ret2
    exact ⟨rfl, T2.out⟩
  have HP : Hid (printS 5 14 l = if 65536 < (textS l).length then ([], 5) else (textS l, 0)) := hidS (by
    unfold printS
    rw [if_neg hu]
    by_cases q : 65536 < (textS l).length
    · rw [if_pos (.inr q), if_pos q]
    · rw [if_neg (fun z => z.elim hn q), if_neg q])
  have hd1 : decide ((1024 : Int) < (l.length : Int)) = false := by simp; omega
  have hd2 : decide (1024 < l.length) = false := by simp; omega
  have HL : Hid (l.length ≤ 1024) := hidS (by omega)
  obtain ⟨n, hnn⟩ : ∃ n, n = l.length := ⟨_, rfl⟩
  have HN : Hid (n = l.length) := hnn
  rw [← hnn] at h36 hd1 hd2 ⊢
  clear h ok hl hL hu hn hnn
  go_enter Tryz.func20, Tryz.ntmps20
  go_wp2_with (go_at_call 36; (with_reducible refine h36.mono ?_); rintro e w2 ⟨rfl, ht⟩; have T2 : Hid (Turned (fun _ => False) w w2) := ht; clear ht h36)
  have B0 : Hid (PrR w w2.heap.size l n (.int .i64 0) (w2.alloc (.cells #[.pointer none, .slice none 0 0] 74))) := hidS ⟨0, by rw [Nat.zero_add]; exact HN.out, rfl, bld_new _ _ T2.out.size, by simp [textS], T2.out.new _⟩
  go_loopg [14] n (fun g v wr => PrR w w2.heap.size l g v wr)
  case atStart => exact B0.out
  case round =>
    obtain ⟨i, hig, rfl, hb, hlen, ht⟩ := hrel
    have G : Hid (i + gk = l.length ∧ Bld w.heap.size w2.heap.size (textS (l.take i)) wr ∧ (textS (l.take i)).length ≤ 65536 ∧ Turned (fun _ => False) w wr) := ⟨hig, hb, hlen, ht⟩
    clear hig hb hlen ht B0 hd1 hd2
    by_cases hlt : i < n
    · obtain ⟨c, hc⟩ : ∃ c, l[i]? = some c := ⟨_, List.getElem?_eq_getElem (by have := HN.out; omega)⟩
      obtain ⟨g1, o1, cs, rfl, l1, v1, e1⟩ := (H.out.1.turned G.out.2.2.2 fun _ _ q => q).elem hc
      have HC : Hid (l[i]? = some c) := hc
      have hcm := List.mem_of_getElem? hc
      have LS := line_short c (H.out.2.1 c hcm).1 (H.out.2.1 c hcm).2
      have HLS : Hid ((lineS c).length ≤ 10000000000000) := LS
      have D39 : Hid (∀ W, Turned (fun _ => False) wr W → Calls Tryz.prog 39 #[.agg cs] W (StrsPost W (nameC c :: cmdW c))) := hidS fun W t => told_any w0 W (H.out.2.2.2.turned0 (G.out.2.2.2.trans t fun _ _ q => q)) R c cs (v1.turned t fun _ _ q => q) (H.out.2.1 c hcm).1 (H.out.2.1 c hcm).2 (HF.out c hcm)
      have CL : Hid ((nameC c :: cmdW c).length ≤ 2097157 ∧ 0 < (nameC c :: cmdW c).length) := hidS ⟨by have := (cmdW_short c (H.out.2.1 c hcm).1 (H.out.2.1 c hcm).2).1; simp; omega, by simp⟩
      have JT : Hid (Lib.join (nameC c :: cmdW c) [32] = lineS c) := hidS (join_tail _ _)
      obtain ⟨x1, y1, x4, y4, x9, y9, rfl, -, -, -⟩ := v1
      have hd1 : decide ((i : Int) < (n : Int)) = true := by simp; omega
      have hd2 : decide (i < n) = true := by simp; omega
      have HLT : Hid (i < n ∧ n ≤ 1024) := ⟨hlt, by have := HN.out; have := HL.out; omega⟩
      have HW : Hid (wrap64 ((i : Int) + 1) = ((i + 1 : Nat) : Int)) := hidS (w64_in _ (by have := HLT.out; omega))
      have p0 := e1 0 (by decide); have p1 := e1 1 (by decide); have p2 := e1 2 (by decide); have p3 := e1 3 (by decide); have p4 := e1 4 (by decide); have p5 := e1 5 (by decide); have p6 := e1 6 (by decide); have p7 := e1 7 (by decide); have p8 := e1 8 (by decide); have p9 := e1 9 (by decide); have p10 := e1 10 (by decide); simp only [List.getElem?_toArray, List.getElem?_cons_zero, List.getElem?_cons_succ, Nat.add_zero] at p0 p1 p2 p3 p4 p5 p6 p7 p8 p9 p10
      clear e1 hc LS
      obtain ⟨m, hm⟩ : ∃ m, m = (textS (l.take i) ++ lineS c ++ [10]).length := ⟨_, rfl⟩
      have HM : Hid (m = (textS (l.take i) ++ lineS c ++ [10]).length) := hm
      clear hm
      obtain ⟨y, hy⟩ : ∃ y, y = bs (lineS c) := ⟨_, rfl⟩
      have HY : Hid (y = bs (lineS c)) := hy
      clear hy
      by_cases hbig : 65536 < m
      · have hd3 : decide ((65536 : Int) < (m : Int)) = true := by simp; omega
        have hd4 : decide (65536 < m) = true := by simp; omega
        have HB : Hid (65536 < m) := hbig
        clear hbig
        go_wp2_with (first
          | (go_at_call 39; (with_reducible refine (D39.out _ (Turned.alloc _ _ _)).mono ?_); rintro e w3 ⟨v3, rfl, ho⟩
             obtain ⟨a3, k3, rfl, -, -⟩ := ho.opens
             have X3 : Hid (Rd w3 (fun _ => True) 1 (.slice a3 (nameC c :: cmdW c).length k3) (scells (nameC c :: cmdW c)) (nameC c :: cmdW c).length ∧ Turned (fun _ => False) wr w3) := ⟨by obtain ⟨⟨S, h1, -⟩, -⟩ := ho; exact (h1.widen fun _ _ => trivial).rd, (Turned.alloc _ _ _).trans ho.2 fun _ _ q => q⟩
             have D16 := join_any w3 _ a3 _ k3 _ X3.out.1 CL.out.2 (Nat.le_trans CL.out.1 (by decide)) (by rw [JT.out]; exact Nat.le_trans HLS.out (by decide))
             rw [JT.out, ← HY.out] at D16
             generalize (nameC c :: cmdW c).length = q3 at *
             clear ho)
          | (go_at_call 16; (with_reducible refine D16.mono ?_); rintro e w4 ⟨rfl, ht4⟩
             have X4 : Hid (Bld w.heap.size w2.heap.size (textS (l.take i)) w4 ∧ Turned (fun _ => False) wr w4) := ⟨bld_turned G.out.2.1 (X3.out.2.trans ht4 fun _ _ q => q), X3.out.2.trans ht4 fun _ _ q => q⟩
             have D34 := ws_any w.heap.size w2.heap.size (textS (l.take i)) (lineS c) w4 X4.out.1 (by have := G.out.2.2.1; have := HLS.out; omega) (G.out.2.2.2.trans X4.out.2 fun _ _ q => q).size
             rw [← HY.out] at D34
             clear ht4 D16)
          | (go_at_call 34; (with_reducible refine D34.mono ?_); rintro e w5 ⟨⟨v5, rfl⟩, hb5, ht5⟩
             have X5 : Hid (Bld w.heap.size w2.heap.size (textS (l.take i) ++ lineS c) w5 ∧ Turned (fun _ => False) w w5) := ⟨hb5, below_of (G.out.2.2.2.trans X4.out.2 fun _ _ q => q) ht5⟩
             have D40 := wb_any w.heap.size w2.heap.size (textS (l.take i) ++ lineS c) 10 w5 hb5 (by have := G.out.2.2.1; have := HLS.out; rw [List.length_append]; omega) X5.out.2.size
             change Calls Tryz.prog 40 #[pt w2.heap.size, .int .u8 10] w5 _ at D40
             clear hb5 ht5 D34)
          | (go_at_call 40; (with_reducible refine D40.mono ?_); rintro e w6 ⟨rfl, hb6, ht6⟩
             have X8 : Hid (Bld w.heap.size w2.heap.size (textS (l.take i) ++ lineS c ++ [10]) w6 ∧ Turned (fun _ => False) w w6) := ⟨hb6, below_of X5.out.2 ht6⟩
             have D41 := blen_any w.heap.size w2.heap.size _ w6 hb6
             rw [← HM.out] at D41
             clear hb6 ht6 D40)
          | (go_at_call 41; (with_reducible refine D41.mono ?_); rintro e w7 ⟨rfl, rfl⟩; clear D41))
        go_ret2
        refine ⟨?_, X8.out.2⟩
        have e1 := text_take l (i + 1)
        rw [text_succ HC.out, ← List.append_assoc] at e1
        rw [HP.out, if_pos (by have := HB.out; have := HM.out; omega)]
        rfl
      · have hd3 : decide ((65536 : Int) < (m : Int)) = false := by simp; omega
        have hd4 : decide (65536 < m) = false := by simp; omega
        have HB : Hid (m ≤ 65536) := hidS (by omega)
        clear hbig
        go_wp2_with (first
          | (go_at_call 39; (with_reducible refine (D39.out _ (Turned.alloc _ _ _)).mono ?_); rintro e w3 ⟨v3, rfl, ho⟩
             obtain ⟨a3, k3, rfl, -, -⟩ := ho.opens
             have X3 : Hid (Rd w3 (fun _ => True) 1 (.slice a3 (nameC c :: cmdW c).length k3) (scells (nameC c :: cmdW c)) (nameC c :: cmdW c).length ∧ Turned (fun _ => False) wr w3) := ⟨by obtain ⟨⟨S, h1, -⟩, -⟩ := ho; exact (h1.widen fun _ _ => trivial).rd, (Turned.alloc _ _ _).trans ho.2 fun _ _ q => q⟩
             have D16 := join_any w3 _ a3 _ k3 _ X3.out.1 CL.out.2 (Nat.le_trans CL.out.1 (by decide)) (by rw [JT.out]; exact Nat.le_trans HLS.out (by decide))
             rw [JT.out, ← HY.out] at D16
             generalize (nameC c :: cmdW c).length = q3 at *
             clear ho)
          | (go_at_call 16; (with_reducible refine D16.mono ?_); rintro e w4 ⟨rfl, ht4⟩
             have X4 : Hid (Bld w.heap.size w2.heap.size (textS (l.take i)) w4 ∧ Turned (fun _ => False) wr w4) := ⟨bld_turned G.out.2.1 (X3.out.2.trans ht4 fun _ _ q => q), X3.out.2.trans ht4 fun _ _ q => q⟩
             have D34 := ws_any w.heap.size w2.heap.size (textS (l.take i)) (lineS c) w4 X4.out.1 (by have := G.out.2.2.1; have := HLS.out; omega) (G.out.2.2.2.trans X4.out.2 fun _ _ q => q).size
             rw [← HY.out] at D34
             clear ht4 D16)
          | (go_at_call 34; (with_reducible refine D34.mono ?_); rintro e w5 ⟨⟨v5, rfl⟩, hb5, ht5⟩
             have X5 : Hid (Bld w.heap.size w2.heap.size (textS (l.take i) ++ lineS c) w5 ∧ Turned (fun _ => False) w w5) := ⟨hb5, below_of (G.out.2.2.2.trans X4.out.2 fun _ _ q => q) ht5⟩
             have D40 := wb_any w.heap.size w2.heap.size (textS (l.take i) ++ lineS c) 10 w5 hb5 (by have := G.out.2.2.1; have := HLS.out; rw [List.length_append]; omega) X5.out.2.size
             change Calls Tryz.prog 40 #[pt w2.heap.size, .int .u8 10] w5 _ at D40
             clear hb5 ht5 D34)
          | (go_at_call 40; (with_reducible refine D40.mono ?_); rintro e w6 ⟨rfl, hb6, ht6⟩
             have X8 : Hid (Bld w.heap.size w2.heap.size (textS (l.take i) ++ lineS c ++ [10]) w6 ∧ Turned (fun _ => False) w w6) := ⟨hb6, below_of X5.out.2 ht6⟩
             have D41 := blen_any w.heap.size w2.heap.size _ w6 hb6
             rw [← HM.out] at D41
             clear hb6 ht6 D40)
          | (go_at_call 41; (with_reducible refine D41.mono ?_); rintro e w7 ⟨rfl, rfl⟩; clear D41))
        go_roundg (gk - 1)
        case measure => have := G.out; have := HLT.out; have := HN.out; omega
        case rel =>
          refine ⟨i + 1, by have := G.out; have := HLT.out; have := HN.out; omega, by rw [HW.out], ?_, ?_, X8.out.2⟩
          · rw [text_succ HC.out, ← List.append_assoc]; exact X8.out.1
          · rw [text_succ HC.out, ← List.append_assoc, ← HM.out]; exact HB.out
    · have hd1 : decide ((i : Int) < (n : Int)) = false := by simp; omega
      have hd2 : decide (i < n) = false := by simp; omega
      have HE : Hid (l.take i = l) := hidS (List.take_of_length_le (by have := HN.out; omega))
      have D35 := str_any w.heap.size w2.heap.size (textS (l.take i)) wr G.out.2.1 G.out.2.2.2.size
      rw [HE.out] at D35
      obtain ⟨y, hy⟩ : ∃ y, y = bs (textS l) := ⟨_, rfl⟩
      have HY : Hid (y = bs (textS l)) := hy
      rw [← hy] at D35
      clear hlt hy
      go_wp2_with (go_at_call 35; (with_reducible refine D35.mono ?_); rintro e w3 ⟨rfl, ht⟩; have T3 : Hid (Turned (fun _ => False) w w3) := below_of G.out.2.2.2 ht; clear ht D35)
      go_ret2
      refine ⟨?_, T3.out⟩
      have hlen := G.out.2.2.1
      rw [HE.out] at hlen
      rw [HP.out, if_neg (by omega), HY.out]
      rfl
end Go.Proofs.YteblabpplaaddaaGreatDoor

set_option linter.unusedVariables false
set_option linter.unusedSimpArgs false
namespace Go.Proofs.YteblabpplaaddaaGreatDoor
open Go.RowKit Go.Mine Go.Mine.Sc

theorem qf_le : ∀ (k : Nat) (acc s x r : B), s.length ≤ k → qf acc s = some (x, r) → x.length ≤ acc.length + s.length
  | 0, acc, s, x, r, hk, h => by
    have : s = [] := List.eq_nil_of_length_eq_zero (by omega)
    subst this; rw [qf_nil] at h; simp at h
  | k + 1, acc, [], x, r, hk, h => by rw [qf_nil] at h; simp at h
  | k + 1, acc, c :: t, x, r, hk, h => by
    simp only [List.length_cons] at hk ⊢
    rw [qf] at h
    split at h
    · simp only [Option.some.injEq, Prod.mk.injEq] at h; obtain ⟨rfl, -⟩ := h; omega
    · split at h
      · simp at h
      · split at h
        · split at h
          · simp at h
          · rename_i n hn
            have := qf_le k _ _ _ _ (by simp; omega) h
            simp at this; omega
        · have := qf_le k _ _ _ _ (by omega) h
          simp at this; omega
theorem rText_le {t x r : B} (h : rText t = some (x, r)) : x.length ≤ t.length := by
  match t, h with
  | [], h => simp [rText] at h
  | c :: t, h =>
    simp only [rText] at h
    split at h
    · have := qf_le _ _ _ _ _ (Nat.le_refl _) h
      simp at this ⊢; omega
    · simp at h
theorem words_texts : ∀ (k : Nat) (rem ag s : B) (q : List Int × List B), s.length ≤ k → rwords rem ag s = some q → ∀ x ∈ q.2, x.length ≤ s.length
  | k, rem, ag, [], q, _, h => by
    rw [rw_nil] at h
    split at h
    · rw [← Option.some.inj h]; simp
    · simp at h
  | 0, rem, ag, d :: t, q, hk, h => by simp at hk
  | k + 1, rem, ag, d :: t, q, hk, h => by
    rw [rw_cons] at h
    simp only [List.length_cons] at hk
    split at h
    · simp at h
    · split at h
      · split at h
        · split at h
          · simp at h
          · rename_i n r hn
            obtain ⟨q', h1, rfl⟩ := Option.map_eq_some_iff.1 h
            have := rNum_lt hn
            intro x hx
            have := words_texts k _ _ r q' (by omega) h1 x hx
            simp; omega
        · split at h
          · simp at h
          · rename_i x r hn
            obtain ⟨q', h1, rfl⟩ := Option.map_eq_some_iff.1 h
            have := rText_lt hn
            intro y hy
            rcases List.mem_cons.1 hy with rfl | hy
            · have := rText_le hn
              simp; omega
            · have := words_texts k _ _ r q' (by omega) h1 y hy
              simp; omega
      · simp at h
def FineT (c : Cmd) : Prop := c.text.length ≤ 1000000 ∧ c.more.length ≤ 1000000 ∧ (∀ e ∈ c.tree, e.1.length ≤ 1000000) ∧ c.ask.path.length ≤ 1000000
theorem treeOf_texts : ∀ (l : List Int) (m : List B) (t : List (B × Int)), treeOf l m = some t → ∀ e ∈ t, e.1 ∈ m
  | [], m, t, h => by
    have e : treeOf [] m = some [] := by cases m <;> simp [treeOf]
    rw [e] at h
    rw [← Option.some.inj h]; simp
  | n :: l, [], t, h => by
    simp [treeOf] at h
  | n :: l, x :: m, t, h => by
    simp only [treeOf] at h
    split at h
    · obtain ⟨t', h1, rfl⟩ := Option.map_eq_some_iff.1 h
      intro e he
      rcases List.mem_cons.1 he with rfl | he
      · simp
      · exact List.mem_cons_of_mem _ (treeOf_texts l m t' h1 e he)
    · simp at h
theorem getD_le {xs : List B} (hx : ∀ x ∈ xs, x.length ≤ 1000000) (i : Nat) : (xs.getD i []).length ≤ 1000000 := by
  rw [List.getD_eq_getElem?_getD]
  cases h : xs[i]? with
  | none => simp
  | some x => exact hx x (List.mem_of_getElem? h)
theorem cmdOf_texts {k : Int} {ns : List Int} {xs : List B} {c : Cmd} (h : cmdOf k ns xs = some c) (hx : ∀ x ∈ xs, x.length ≤ 1000000) : FineT c := by
  unfold cmdOf at h
  split at h
  · simp at h
  · split at h
    · have e := Option.some.inj h
      subst e
      unfold askedOf
      split
      · exact ⟨by simp, by simp, by simp, by simp⟩
      · exact ⟨by simp, by simp, by simp, getD_le hx 0⟩
    · split at h
      · split at h
        · rw [← Option.some.inj h]; exact ⟨by simp, by simp, by simp, by simp⟩
        · simp at h
      · split at h
        · obtain ⟨t, h1, rfl⟩ := Option.map_eq_some_iff.1 h
          exact ⟨by simp, by simp, fun e he => hx _ (treeOf_texts _ _ _ h1 e he), by simp⟩
        · split at h
          · rw [← Option.some.inj h]; exact ⟨getD_le hx 0, getD_le hx 1, by simp, by simp⟩
          · split at h
            · rw [← Option.some.inj h]; exact ⟨getD_le hx 0, by simp, by simp, by simp⟩
            · rw [← Option.some.inj h]; exact ⟨by simp, by simp, by simp, by simp⟩
theorem pLine_texts {s : B} {c : Cmd} (h : pLine s = some c) (hs : s.length ≤ 1000000) : FineT c := by
  rw [← line_same] at h
  unfold rLine at h
  split at h
  · simp at h
  · rename_i q hq
    have := aft_le s
    exact cmdOf_texts h fun x hx => by have := words_texts _ _ _ _ q (Nat.le_refl _) hq x hx; omega
theorem pLines_texts : ∀ (ls : List B) (l : List Cmd), pLines ls = some l → (∀ x ∈ ls, x.length ≤ 1000000) → ∀ c ∈ l, FineT c
  | [], l, h, _ => by
    rw [pLines] at h
    rw [← Option.some.inj h]; simp
  | x :: ls, l, h, hx => by
    rw [pLines] at h
    split at h
    · split at h
      · simp at h
      · rename_i c hc
        obtain ⟨l', h1, rfl⟩ := Option.map_eq_some_iff.1 h
        intro d hd
        rcases List.mem_cons.1 hd with rfl | hd
        · exact pLine_texts hc (hx x (List.mem_cons_self ..))
        · exact pLines_texts ls l' h1 (fun y hy => hx y (List.mem_cons_of_mem _ hy)) d hd
    · exact pLines_texts ls l h fun y hy => hx y (List.mem_cons_of_mem _ hy)
theorem parseS_texts (t : B) : ∀ c ∈ (parseS 5 14 t).1, FineT c := by
  rw [← rParse_same]
  unfold rParse
  split
  · simp
  · rename_i h
    split
    · simp
    · rename_i l hl
      exact pLines_texts _ _ hl fun x hx => by have := dLines_le t x hx; omega
/-- what is read may be told -/
theorem parseS_few (t : B) : ∀ c ∈ (parseS 5 14 t).1, CmdOk c ∧ CmdFew c := fun c hc =>
  ⟨(parseS_read 5 14 t c hc).2.1, by
    obtain ⟨h1, h2, h3, h4⟩ := parseS_texts t c hc
    obtain ⟨i1, i2, i3⟩ := (parseS_small t).2 c hc
    exact ⟨by omega, by omega, by omega, by omega, fun e he => Nat.le_trans (h3 e he) (by decide), by omega, by omega⟩⟩
end Go.Proofs.YteblabpplaaddaaGreatDoor

set_option linter.unusedVariables false
set_option linter.unusedSimpArgs false
namespace Go.Mine
theorem Rd.bound {w : World} {S : Nat → Prop} {size : Nat} {v : Value} {xs : List Value} {n : Nat} (h : Rd w S size v xs n) : Rd w (fun b => S b ∧ b < w.heap.size) size v xs n := by
  obtain ⟨h1, a, cap, h2, h3, h4, h5⟩ := h
  refine ⟨h1, a, cap, h2, h3, h4, fun q => ?_⟩
  obtain ⟨g, off, rfl, hg, hl, hc⟩ := h5 q
  exact ⟨g, off, rfl, ⟨hg, hl⟩, hl, hc⟩
end Go.Mine
namespace Go.Proofs.YteblabpplaaddaaGreatDoor
open Go.RowKit Go.Mine Go.Mine.Sc

theorem CmdR.bound {w : World} {S : Nat → Prop} {c : Cmd} {cs : Array Value} (h : CmdR w S c cs) : CmdR w (fun b => S b ∧ b < w.heap.size) c cs := by
  obtain ⟨a1, k1, a4, k4, a9, k9, h0, h1, h2, h3⟩ := h
  exact ⟨a1, k1, a4, k4, a9, k9, h0, h1.bound, h2.bound, h3.bound⟩
theorem CmdsX.bound {w : World} {S : Nat → Prop} : ∀ {l : List Cmd} {xs : List Value}, CmdsX w S l xs → CmdsX w (fun b => S b ∧ b < w.heap.size) l xs
  | [], _, h => h
  | _ :: _, _, ⟨cs, rest, h1, h2, h3⟩ => ⟨cs, rest, h1, h2.bound, h3.bound⟩
theorem CmdsR.bound {w : World} {S : Nat → Prop} {v : Value} {l : List Cmd} (h : CmdsR w S v l) : CmdsR w (fun b => S b ∧ b < w.heap.size) v l := by
  obtain ⟨xs, h1, h2⟩ := h
  exact ⟨xs, h1.bound, h2.bound⟩

set_option maxRecDepth 100000 in
theorem mine_ret {R : Ending → World → Prop} {tmps : Array Value} {W : World} {q : Nat} {y0 y1 y2 y3 y4 y5 y6 y7 y8 y9 y10 : Value} (ht : tmps[2]?.getD undef = pt q) (hb : W.heap[q]? = some (.cells #[y0, y1, y2, y3, y4, y5, y6, y7, y8, y9, y10] 39 (0, 0)))
    (hR : R (.returned (.agg #[y0, y1, y2, y3, y4, y5, y6, y7, y8, y9, y10])) W) : bodyPost Tryz.prog Tryz.f19 R .ret { tmps := tmps, defers := [] } W := by
  have r0 := cell_of hb 0 _ rfl
  have r1 := cell_of hb 1 _ rfl
  have r2 := cell_of hb 2 _ rfl
  have r3 := cell_of hb 3 _ rfl
  have r4 := cell_of hb 4 _ rfl
  have r5 := cell_of hb 5 _ rfl
  have r6 := cell_of hb 6 _ rfl
  have r7 := cell_of hb 7 _ rfl
  have r8 := cell_of hb 8 _ rfl
  have r9 := cell_of hb 9 _ rfl
  have r10 := cell_of hb 10 _ rfl
  clear hb
  simp only [List.getElem_toArray, List.getElem_cons_zero, List.getElem_cons_succ] at r0 r1 r2 r3 r4 r5 r6 r7 r8 r9 r10
  simp [bodyPost, results, Tryz.results19, go_sem, ht, r0, r1, r2, r3, r4, r5, r6, r7, r8, r9, r10]
  exact hR

set_option maxRecDepth 100000 in
set_option maxHeartbeats 4000000 in
theorem mine_cmd (w : World) (S : Nat → Prop) (c : Cmd) (cs : Array Value) (h : CmdR w S c cs) : Calls Tryz.prog 19 #[.agg cs] w fun e w' => e = .returned (.agg cs) ∧ Turned (fun _ => False) w w' := by
  obtain ⟨a1, n1, a4, n4, a9, n9, rfl, -, -, -⟩ := h
  go_enter Tryz.func19, Tryz.ntmps19
  go_wp2
  refine mine_ret rfl (by first | exact heap_alloc_new _ _ | (simpa using heap_alloc_new (w.alloc _) _)) ?_
  exact ⟨rfl, ((Turned.refl _ w).new _).new _⟩

/-- a list that a law builds: its row is new, what its elements hold is old -/
def Lst (z : Nat) (w : World) (e : TypeId) (v : Value) (l : List Cmd) : Prop := ∃ xs, Sl w (fun b => z ≤ b) e 11 v xs l.length ∧ CmdsX w (fun b => b < z) l xs
theorem Lst.nil (z : Nat) (w : World) (e : TypeId) : Lst z w e (.slice none 0 0) [] := ⟨[], Sl.nil _ _ _ _, rfl⟩
theorem Lst.turned {z : Nat} {w w' : World} {e : TypeId} {v : Value} {l : List Cmd} (h : Lst z w e v l) (ht : Turned (fun _ => False) w w') : Lst z w' e v l := by
  obtain ⟨xs, h1, h2⟩ := h
  exact ⟨xs, h1.turned ht fun _ _ q => q, h2.turned ht fun _ _ q => q⟩
theorem Lst.r {z : Nat} {w : World} {e : TypeId} {v : Value} {l : List Cmd} (h : Lst z w e v l) : CmdsR w (fun _ => True) v l := by
  obtain ⟨xs, h1, h2⟩ := h
  exact ⟨xs, h1.rd.widen fun _ _ => trivial, h2.widen fun _ _ => trivial⟩
theorem Lst.value {z : Nat} {w : World} {e : TypeId} {v : Value} {l : List Cmd} (h : Lst z w e v l) : ∃ a cap, v = .slice a l.length cap := by
  obtain ⟨xs, h1, h2⟩ := h
  obtain ⟨a, cap, hv, -, -⟩ := h1.value
  exact ⟨a, cap, hv⟩
theorem Lst.snoc {z : Nat} {w8 w9 : World} {e : TypeId} {v' : Value} {l : List Cmd} {c : Cmd} {cs : Array Value} {xs : List Value} (hz : z ≤ w8.heap.size) (hx : CmdsX w8 (fun b => b < z) l xs) (hc : CmdR w8 (fun b => b < z) c cs)
    (q : Sl w9 (More (fun b => z ≤ b) w8) e 11 v' (xs ++ cs.toList) (l.length + 1)) (t : Turned (fun b => z ≤ b) w8 w9) : Lst z w9 e v' (l ++ [c]) := by
  refine ⟨xs ++ cs.toList, ?_, ?_⟩
  · rw [List.length_append, List.length_singleton]
    exact q.widen fun b q => q.elim id fun q => by omega
  · exact CmdsX.snoc (hc.turned t fun b h q => by omega) (hx.turned t fun b h q => by omega)
theorem src_x (w4 : World) {e t : TypeId} (hu : Tryz.prog.underlying t = some (.slice e)) {w0 : World} {S : Nat → Prop} {c : Cmd} (cs : Array Value) (hc : CmdR w0 S c cs) : Src Tryz.prog 11 t (.slice (some ⟨w4.heap.size, 0, none⟩) 1 1) 1 cs.toList (w4.alloc (.cells cs e)) := by
  have hs : cs.toList.length = 11 := by rw [Array.length_toList]; exact hc.size
  have : Sl (w4.alloc (.cells cs e)) (fun _ => True) e 11 (.slice (some ⟨w4.heap.size, 0, none⟩) 1 1) cs.toList 1 :=
    ⟨by omega, .inr ⟨w4.heap.size, 0, 1, cs, rfl, trivial, heap_alloc_new w4 _, Nat.le_refl _, by simp [maxLen], by have := hc.size; omega, by simp only [List.drop_zero, Nat.one_mul]; exact List.take_of_length_le (by omega)⟩⟩
  exact this.src hu hc.one
/-- between two rounds of a loop that turns each command -/
def BuR (w : World) (e : TypeId) (m : List Cmd) (g : Nat) (v5 vi : Value) (wr : World) : Prop := ∃ k : Nat, vi = .int .i64 (k : Nat) ∧ k + g = m.length ∧ Lst w.heap.size wr e v5 (m.take k) ∧ Turned (fun _ => False) w wr
/-- a round's end -/
theorem BuR.next {w wr w8 w9 : World} {e : TypeId} {m : List Cmd} {g k : Nat} {v' vi : Value} {c : Cmd} {cs : Array Value} {xs : List Value} (hc : m[k]? = some c) (e7 : vi = .int .i64 ((k + 1 : Nat) : Int)) (hg : k + 1 + g = m.length)
    (hx : CmdsX wr (fun b => b < w.heap.size) (m.take k) xs) (hcr : CmdR wr (fun b => b < w.heap.size) c cs) (ht : Turned (fun _ => False) w wr) (t8 : Turned (fun _ => False) wr w8)
    (q : Sl w9 (More (fun b => w.heap.size ≤ b) w8) e 11 v' (xs ++ cs.toList) ((m.take k).length + 1)) (t : Turned (fun b => w.heap.size ≤ b) w8 w9) : BuR w e m g v' vi w9 := by
  have s1 := ht.size
  have s2 := t8.size
  refine ⟨k + 1, e7, hg, ?_, ?_⟩
  · rw [List.take_add_one, hc]
    exact Lst.snoc (by omega) (hx.turned t8 fun _ _ q => q) (hcr.turned t8 fun _ _ q => q) q t
  · exact (ht.trans t8 fun _ _ q => q).comp t fun b hb q => q.elim id fun q => by omega
end Go.Proofs.YteblabpplaaddaaGreatDoor

set_option linter.unusedVariables false
set_option linter.unusedSimpArgs false
namespace Go.Proofs.YteblabpplaaddaaGreatDoor
open Go.RowKit Go.Mine Go.Mine.Sc

set_option maxRecDepth 100000 in
theorem cmds_to {w : World} {S : Nat → Prop} {a : Option Addr} {n cap : Nat} {l : List Cmd} (h : CmdsR w S (.slice a n cap) l) (j : Nat) (hj : j ≤ n) (W : World) :
    (Instr.slice 33 (.slice a n cap) none (some (.int .i64 j)) none).run Tryz.prog W = .ok (.slice a j cap) W := by
  obtain ⟨i, hi, hz0, hz1, hz2⟩ := info_parts info40'
  obtain ⟨xs, ⟨-, a', cap', hv, h1, h2, -⟩, -⟩ := h
  injection hv with hv1 hv2 hv3
  subst hv1; subst hv3
  have hjc : j ≤ cap := by omega
  simp [Instr.slice, Instr.sliceBounds, Instr.sliceBound, asIntOf, run_underlying Tryz.underlying33, sizeOf, typeInfo, hi, hjc, Result.andThen]
  intro _
  cases a with
  | none => rfl
  | some ad => simp [Addr.add]
theorem CmdsR.any {w : World} {S : Nat → Prop} {v : Value} {l : List Cmd} (h : CmdsR w S v l) : CmdsR w (fun _ => True) v l := h.widen fun _ _ => trivial
theorem parse_few {t : B} {l : List Cmd} {n : Nat} (h : parseS 5 14 t = (l, n)) : ∀ c ∈ l, CmdOk c ∧ CmdFew c := by have := parseS_few t; rw [h] at this; exact this
theorem parse_len {t : B} {l : List Cmd} {n : Nat} (h : parseS 5 14 t = (l, n)) : l.length ≤ 1024 := by have := (parseS_small t).1; rw [h] at this; exact this
theorem parse_none {t : B} {l : List Cmd} {n : Nat} (h : parseS 5 14 t = (l, n)) (hn : n ≠ 0) : l = [] := by
  unfold parseS at h
  split at h
  · exact (Prod.mk.inj h).1.symm
  · split at h
    · exact (Prod.mk.inj h).1.symm
    · exact absurd (Prod.mk.inj h).2.symm hn
theorem print_len {t : B} {l : List Cmd} (h : printS 5 14 l = (t, 0)) : t.length ≤ 65536 := by
  unfold printS at h
  split at h
  · exact absurd (Prod.mk.inj h).2 (by decide)
  · split at h
    · exact absurd (Prod.mk.inj h).2 (by decide)
    · rename_i q
      rw [← (Prod.mk.inj h).1]
      exact Nat.le_of_not_lt fun z => q (.inr z)
theorem print_parsed {t : B} {l : List Cmd} {n : Nat} (h : parseS 5 14 t = (l, n)) : printS 5 14 l = ([], 5) ∨ ∃ x, printS 5 14 l = (x, 0) ∧ parseS 5 14 x = (l, 0) :=
  print_read (by have := parseS_read 5 14 t; rw [h] at this; exact this) 5 14 5 14 (by decide) (by decide)

set_option maxRecDepth 200000 in
set_option maxHeartbeats 8000000 in
theorem back_law (w0 w : World) (hL : Lw w0 w) (S : Nat → Prop) (a : Option Addr) (N cap : Nat) (l : List Cmd) (h : CmdsR w S (.slice a N cap) l) (ok : ∀ c ∈ l, CmdOk c ∧ CmdFew c) (t : B) (ht : t.length ≤ 4611686018427387904) :
    Calls Tryz.prog 7 #[.slice a N cap, .string (bs t)] w fun e w' => e = .returned (.bool true) ∧ Turned (fun _ => False) w w' := by
  have PT : Hid (∀ W S' v l' x (n : Nat), CmdsR W S' v l' → Turned (fun _ => False) w W → (∀ c ∈ l', CmdOk c ∧ CmdFew c) → l'.length ≤ 1048576 → printS 5 14 l' = (x, n) → Calls Tryz.prog 20 #[v] W fun e w' => e = .returned (.tuple #[.string (bs x), .int .i64 (n : Nat)]) ∧ Turned (fun _ => False) W w') := hidS fun W S' v l' x n hc tw hok hle hp => by
    have := print_any w0 W (hL.turned0 tw) S' v l' hc hok hle
    rw [hp] at this
    exact this
  have PA : Hid (∀ W x l' (n : Nat), Turned (fun _ => False) w W → x.length ≤ 4611686018427387904 → parseS 5 14 x = (l', n) → Calls Tryz.prog 12 #[.string (bs x)] W fun e w' => (∃ v, e = .returned (.tuple #[v, .int .i64 (n : Nat)]) ∧ CmdsAt w' (fun b => W.heap.size ≤ b) 39 v l') ∧ Turned (fun _ => False) W w') := hidS fun W x l' n tw hx hp => by
    have := parse_any w0 W x (hL.turned0 tw) hx
    rw [hp] at this
    exact this
  have R : Calls Tryz.prog 8 #[] w fun e w' => e = .returned (.bool true) ∧ Turned (fun _ => False) w w' := reads_any w0 w hL
  have HNN : N = l.length := by obtain ⟨a', c', hv, -, -⟩ := h.value; injection hv
  obtain ⟨m, hm⟩ : ∃ m : Nat, m = min N 200 := ⟨_, rfl⟩
  have hmn : min (N : Int) 200 = (m : Int) := by rw [hm]; omega
  have hrun := cmds_to h m (by omega)
  obtain ⟨lm, hlm⟩ : ∃ lm, lm = l.take m := ⟨_, rfl⟩
  have HN1 : Hid (m = lm.length ∧ m ≤ 1024) := hidS ⟨by rw [hlm, List.length_take]; omega, by omega⟩
  have LE : Hid (∀ k c, lm[k]? = some c → l[k]? = some c) := hidS fun k c hc => by
    rw [hlm, List.getElem?_take] at hc
    split at hc
    · exact hc
    · simp at hc
  have OK1 : Hid ((∀ c ∈ lm, CmdOk c ∧ CmdFew c) ∧ lm.length ≤ 1048576) := hidS ⟨fun c hc => ok c (List.mem_of_mem_take (hlm ▸ hc)), by have := HN1.out; omega⟩
  have HT : Hid (t.length ≤ 4611686018427387904) := ht
  have HH : Hid (CmdsR w S (.slice a N cap) l) := h
  clear hL h ok ht HNN hm hlm
  go_enter Tryz.func7, Tryz.ntmps7
  go_upto_region 5 with (go_at_call 8; (with_reducible refine R.mono ?_); rintro e w1 ⟨rfl, t1⟩; have T1 : Hid (Turned (fun _ => False) w w1) := t1; clear t1)
  clear R hmn hrun
  have HS1 : Hid (CmdsR w1 (fun b => b < w1.heap.size) (.slice a N cap) l) := hidS ((HH.out.turned T1.out fun _ _ q => q).bound.widen fun _ q => q.2)
  have B1 : Hid (BuR w1 39 lm m (.slice none 0 0) (.int .i64 0) w1) := ⟨0, rfl, by have := HN1.out; omega, Lst.nil _ _ _, Turned.refl _ _⟩
  go_loopg [5, 32] m (fun g v5 vi wr => BuR w1 39 lm g v5 vi wr)
  case atStart => exact B1.out
  case round =>
    obtain ⟨k, rfl, hkg, hl5, ht⟩ := hrel
    obtain ⟨a5, k5, rfl⟩ := hl5.value
    have hlk : (lm.take k).length = k := by rw [List.length_take]; omega
    rw [hlk] at hl5 ⊢
    have G : Hid (k + gk = lm.length ∧ Lst w1.heap.size wr 39 (.slice a5 k k5) (lm.take k) ∧ Turned (fun _ => False) w1 wr ∧ (lm.take k).length = k) := ⟨hkg, hl5, ht, hlk⟩
    clear hkg hl5 ht hlk B1
    by_cases hlt : k < m
    · obtain ⟨c, hc⟩ : ∃ c, lm[k]? = some c := ⟨_, List.getElem?_eq_getElem (by have := HN1.out; omega)⟩
      obtain ⟨g1, o1, cs, rfl, l1, v1, e1⟩ := (HS1.out.turned G.out.2.2.1 fun _ _ q => q).elem (LE.out k c hc)
      have HC : Hid (lm[k]? = some c) := hc
      have V1 : Hid (CmdR wr (fun b => b < w1.heap.size) c cs) := v1
      have M19 : Hid (∀ W, Turned (fun _ => False) wr W → Calls Tryz.prog 19 #[.agg cs] W fun e w' => e = .returned (.agg cs) ∧ Turned (fun _ => False) W w') := hidS fun W t => mine_cmd W _ c cs (v1.turned t fun _ _ q => q)
      obtain ⟨xs, HX⟩ : ∃ xs, Hid (Sl wr (fun b => w1.heap.size ≤ b) 39 11 (.slice a5 k k5) xs k ∧ CmdsX wr (fun b => b < w1.heap.size) (lm.take k) xs) := by
        obtain ⟨xs, q1, q2⟩ := G.out.2.1
        rw [G.out.2.2.2] at q1
        exact ⟨xs, q1, q2⟩
      obtain ⟨x1, y1, x4, y4, x9, y9, rfl, -, -, -⟩ := v1
      have hd1 : decide ((k : Int) < (m : Int)) = true := by simp; omega
      have hd2 : decide (k < m) = true := by simp; omega
      have HLT : Hid (k < m ∧ m ≤ 1024) := ⟨hlt, HN1.out.2⟩
      have HW : Hid (wrap64 ((k : Int) + 1) = ((k + 1 : Nat) : Int)) := hidS (w64_in _ (by have := HLT.out; omega))
      have c6 : Hid (k + 1 ≤ maxLen ∧ (k + 1) * 160 ≤ 140737488355328) := hidS ⟨by have := HLT.out; simp only [maxLen]; omega, by have := HLT.out; omega⟩
      have p0 := e1 0 (by decide); have p1 := e1 1 (by decide); have p2 := e1 2 (by decide); have p3 := e1 3 (by decide); have p4 := e1 4 (by decide); have p5 := e1 5 (by decide); have p6 := e1 6 (by decide); have p7 := e1 7 (by decide); have p8 := e1 8 (by decide); have p9 := e1 9 (by decide); have p10 := e1 10 (by decide)
      simp only [List.getElem?_toArray, List.getElem?_cons_zero, List.getElem?_cons_succ, Nat.add_zero] at p0 p1 p2 p3 p4 p5 p6 p7 p8 p9 p10
      clear e1 hc
      go_wp2_with (first
        | (go_at_call 19; (with_reducible refine (M19.out _ (Turned.alloc _ _ _)).mono ?_); rintro e w3 ⟨rfl, ht3⟩
           have T3 : Hid (Turned (fun _ => False) wr w3) := (Turned.alloc _ _ _).trans ht3 fun _ _ q => q
           have S6 : Hid (∀ o, Sl (w3.alloc o) (fun b => w1.heap.size ≤ b) 39 11 (.slice a5 k k5) xs k) := hidS fun o => (HX.out.1.turned T3.out fun _ _ q => q).turned (Turned.alloc (fun _ => False) w3 o) fun _ _ q => q
           clear ht3)
        | (at_builtin; refine wpList_append rfl _ _ 29 29 rfl (S6.out _) Tryz.underlying29 info39' rfl (by decide) rfl (.slice (some ⟨w3.heap.size, 0, none⟩) 1 1) rfl (src_x w3 Tryz.underlying29 _ V1.out) c6.out.1 c6.out.2 ?_; intro x9 w9 q9 t9; obtain ⟨a7, cap7, hv7, -, -⟩ := q9.value; subst hv7; have Q9 := hid_two q9 t9; clear q9 t9))
      go_roundg (gk - 1)
      case measure => have := G.out; have := HLT.out; have := HN1.out; omega
      case rel => exact BuR.next HC.out (by rw [HW.out]) (by have := G.out; have := HLT.out; have := HN1.out; omega) HX.out.2 V1.out G.out.2.2.1 (T3.out.trans (Turned.alloc _ _ _) fun _ _ q => q) (by rw [G.out.2.2.2]; exact Q9.out.1) Q9.out.2
    · have hd1 : decide ((k : Int) < (m : Int)) = false := by simp; omega
      have hd2 : decide (k < m) = false := by simp; omega
      have HE : Hid (lm.take k = lm ∧ k = lm.length) := hidS ⟨List.take_of_length_le (by have := HN1.out; omega), by have := HN1.out; have := G.out; omega⟩
      have hl9 := G.out.2.1
      rw [HE.out.1] at hl9
      have END1 : Hid (Lst w1.heap.size wr 39 (.slice a5 k k5) lm ∧ Turned (fun _ => False) w1 wr ∧ k = lm.length) := ⟨hl9, G.out.2.2.1, HE.out.2⟩
      clear HE G hl9 hlt
      have TW : Hid (Turned (fun _ => False) w wr) := T1.out.trans END1.out.2.1 fun _ _ q => q
      obtain ⟨x1, n1, hp⟩ : ∃ x1 n1, printS 5 14 lm = (x1, n1) := ⟨_, _, rfl⟩
      have HP : Hid (printS 5 14 lm = (x1, n1)) := hp
      have D20 := PT.out wr _ (.slice a5 k k5) lm x1 n1 END1.out.1.r TW.out OK1.out.1 OK1.out.2 hp
      clear hp
      by_cases hn : n1 = 0
      · subst hn
        have PF : Hid (x1.length ≤ 65536 ∧ parseS 5 14 x1 = (lm.map normC, 0) ∧ printS 5 14 (lm.map normC) = (x1, 0) ∧ (lm.map normC).length ≤ 1048576) := hidS ⟨print_len HP.out, parse_print (fun c hc => (OK1.out.1 c hc).1) HP.out (by decide) (by decide), print_again (fun c hc => (OK1.out.1 c hc).1) HP.out (by decide) (by decide), by rw [List.length_map]; exact OK1.out.2⟩
        go_upto_region 16 with (first
          | (go_at_call 20; (with_reducible refine D20.mono ?_); rintro e w2 ⟨rfl, t2⟩
             have X2 : Hid (Lst w1.heap.size w2 39 (.slice a5 k k5) lm ∧ Turned (fun _ => False) w w2) := hidS ⟨END1.out.1.turned t2, TW.out.trans t2 fun _ _ q => q⟩
             have D12 := PA.out w2 x1 (lm.map normC) 0 X2.out.2 (Nat.le_trans PF.out.1 (by decide)) PF.out.2.1
             clear t2 D20)
          | (go_at_call 12; (with_reducible refine D12.mono ?_); rintro e w3 ⟨⟨v10, rfl, c10⟩, t3⟩
             obtain ⟨a10, k10, rfl⟩ := c10.value
             have X3 : Hid (Lst w1.heap.size w3 39 (.slice a5 k k5) lm ∧ CmdsR w3 (fun _ => True) (.slice a10 (lm.map normC).length k10) (lm.map normC) ∧ Turned (fun _ => False) w w3) := hidS ⟨X2.out.1.turned t3, c10.r.any, X2.out.2.trans t3 fun _ _ q => q⟩
             have D20z := PT.out w3 _ (.slice a10 (lm.map normC).length k10) (lm.map normC) x1 0 c10.r.any X3.out.2.2 (parse_few PF.out.2.1) PF.out.2.2.2 PF.out.2.2.1
             have hlen : (lm.map normC).length = k := by rw [List.length_map]; exact END1.out.2.2.symm
             rw [hlen] at D20z ⊢
             have X3L : Hid ((lm.map normC).length = k) := hlen
             clear c10 t3 D12 hlen)
          | (go_at_call 20; (with_reducible refine D20z.mono ?_); rintro e w4 ⟨rfl, t4⟩
             have X4 : Hid (Lst w1.heap.size w4 39 (.slice a5 k k5) lm ∧ CmdsR w4 (fun _ => True) (.slice a10 k k10) (lm.map normC) ∧ Turned (fun _ => False) w w4) := hidS ⟨X3.out.1.turned t4, by have := X3.out.2.1.turned t4 fun _ _ q => q; rwa [X3L.out] at this, X3.out.2.2.trans t4 fun _ _ q => q⟩
             clear t4 D20z))
        have B2 : Hid (SmR w4 k k (.int .i64 0) w4) := ⟨0, rfl, by omega, Turned.refl _ _⟩
        go_loopg [79] k (fun g v wr => SmR w4 g k v wr)
        case atStart => exact B2.out
        case round =>
          obtain ⟨j, rfl, hjg, ht⟩ := hrel
          have G : Hid (j + gk = k ∧ Turned (fun _ => False) w4 wr) := ⟨hjg, ht⟩
          clear hjg ht B2
          have HKB : Hid (k ≤ 1024) := hidS (by have := END1.out.2.2; have := HN1.out; omega)
          by_cases hlt : j < k
          · obtain ⟨c, hc⟩ : ∃ c, lm[j]? = some c := ⟨_, List.getElem?_eq_getElem (by have := END1.out.2.2; omega)⟩
            obtain ⟨g1, o1, cs, rfl, l1, v1, e1⟩ := (X4.out.2.1.turned G.out.2 fun _ _ q => q).elem (j := j) (c := normC c) (by rw [List.getElem?_map, hc]; rfl)
            obtain ⟨g2, o2, ds, rfl, l2, v2, e2⟩ := (X4.out.1.r.turned G.out.2 fun _ _ q => q).elem hc
            have p0 := e1 0 (by decide)
            have q0 := e2 0 (by decide)
            have HNC : (normC c).kind = c.kind := (norm_facts c).1
            obtain ⟨x1, y1, x4, y4, x9, y9, rfl, -, -, -⟩ := v1
            obtain ⟨z1, u1, z4, u4, z9, u9, rfl, -, -, -⟩ := v2
            simp only [List.getElem?_toArray, List.getElem?_cons_zero, Nat.add_zero, HNC] at p0 q0
            have hd1 : decide ((j : Int) < (k : Int)) = true := by simp; omega
            have hd2 : decide (j < k) = true := by simp; omega
            have HLT : Hid (j < k) := hlt
            have HW : Hid (wrap64 ((j : Int) + 1) = ((j + 1 : Nat) : Int)) := hidS (w64_in _ (by have := HLT.out; have := HKB.out; omega))
            clear e1 e2 hc HNC
            go_wp2
            go_region
            go_wp2
            go_roundg (gk - 1)
            case measure => have := G.out; have := HLT.out; omega
            case rel => exact ⟨j + 1, by rw [HW.out], by have := G.out; have := HLT.out; omega, G.out.2.draw⟩
          · have hd1 : decide ((j : Int) < (k : Int)) = false := by simp; omega
            have hd2 : decide (j < k) = false := by simp; omega
            have X5 : Hid (Turned (fun _ => False) w wr) := X4.out.2.2.trans G.out.2 fun _ _ q => q
            clear hlt
            obtain ⟨lt, nt, hpa⟩ : ∃ lt nt, parseS 5 14 t = (lt, nt) := ⟨_, _, rfl⟩
            have HPA : Hid (parseS 5 14 t = (lt, nt)) := hpa
            have D12b := PA.out wr t lt nt X5.out HT.out hpa
            clear hpa
            by_cases hnt : nt = 0
            · subst hnt
              have PL : Hid (lt.length ≤ 1024 ∧ True) := hidS ⟨parse_len HPA.out, trivial⟩
              rcases print_parsed HPA.out with h5 | ⟨x3, h3, h3p⟩
              · generalize bs t = zt at *
                go_wp2_with (first
                  | (go_at_call 12; (with_reducible refine D12b.mono ?_); rintro e w6 ⟨⟨v15, rfl, c15⟩, t6⟩
                     obtain ⟨a15, k15, rfl⟩ := c15.value
                     have X6 : Hid (Turned (fun _ => False) w w6) := X5.out.trans t6 fun _ _ q => q
                     have D20b := PT.out w6 _ (.slice a15 lt.length k15) lt [] 5 c15.r.any X6.out (parse_few HPA.out) (Nat.le_trans PL.out.1 (by decide)) h5
                     clear c15 t6 D12b)
                  | (go_at_call 20; (with_reducible refine D20b.mono ?_); rintro e w7 ⟨rfl, t7⟩
                     have X7 : Hid (Turned (fun _ => False) w w7) := X6.out.trans t7 fun _ _ q => q
                     clear t7 D20b))
                go_ret
                exact ⟨rfl, X7.out⟩
              · have PL : Hid (lt.length ≤ 1048576 ∧ lt.length ≤ 1024 ∧ x3.length ≤ 65536 ∧ printS 5 14 lt = (x3, 0) ∧ True) := hidS ⟨Nat.le_trans PL.out.1 (by decide), PL.out.1, print_len h3, h3, trivial⟩
                have H3P : Hid (parseS 5 14 x3 = (lt, 0)) := h3p
                clear h3 h3p
                obtain ⟨n3, hn3⟩ : ∃ n3, n3 = lt.length := ⟨_, rfl⟩
                have HN3 : Hid (n3 = lt.length ∧ n3 ≤ 1024) := hidS ⟨hn3, by rw [hn3]; exact PL.out.2.1⟩
                clear hn3
                go_upto_region 30 with (first
                  | (go_at_call 12; (with_reducible refine D12b.mono ?_); rintro e w6 ⟨⟨v15, rfl, c15⟩, t6⟩
                     obtain ⟨a15, k15, rfl⟩ := c15.value
                     have X6 : Hid (CmdsR w6 (fun _ => True) (.slice a15 lt.length k15) lt ∧ Turned (fun _ => False) w w6) := ⟨c15.r.any, X5.out.trans t6 fun _ _ q => q⟩
                     have D20b := PT.out w6 _ (.slice a15 lt.length k15) lt x3 0 c15.r.any X6.out.2 (parse_few HPA.out) PL.out.1 PL.out.2.2.2.1
                     clear c15 t6 D12b)
                  | (go_at_call 20; (with_reducible refine D20b.mono ?_); rintro e w6b ⟨rfl, t7⟩
                     have X6b : Hid (CmdsR w6b (fun _ => True) (.slice a15 lt.length k15) lt ∧ Turned (fun _ => False) w w6b) := ⟨X6.out.1.turned t7 fun _ _ q => q, X6.out.2.trans t7 fun _ _ q => q⟩
                     have D12c := PA.out w6b x3 lt 0 X6b.out.2 (Nat.le_trans PL.out.2.2.1 (by decide)) H3P.out
                     clear t7 D20b)
                  | (go_at_call 12; (with_reducible refine D12c.mono ?_); rintro e w7 ⟨⟨v18, rfl, c18⟩, t8⟩
                     obtain ⟨a18, k18, rfl⟩ := c18.value
                     have X7 : Hid (Turned (fun _ => False) w w7 ∧ CmdsAt w7 (fun b => w6b.heap.size ≤ b) 39 (.slice a18 lt.length k18) lt) := ⟨X6b.out.2.trans t8 fun _ _ q => q, c18⟩
                     have X7S : Hid (CmdsR w7 (fun b => b < w7.heap.size) (.slice a15 lt.length k15) lt) := hidS ((X6b.out.1.turned t8 fun _ _ q => q).bound.widen fun _ q => q.2)
                     clear c18 t8 D12c))
                have B3 : Hid (BuR w7 40 lt n3 (.slice none 0 0) (.int .i64 0) w7) := ⟨0, rfl, by have := HN3.out; omega, Lst.nil _ _ _, Turned.refl _ _⟩
                rw [← HN3.out.1]
                go_loopg [19, 120] n3 (fun g v5 vi wr => BuR w7 40 lt g v5 vi wr)
                case atStart => exact B3.out
                case round =>
                  obtain ⟨k, rfl, hkg, hl5, ht⟩ := hrel
                  obtain ⟨a5, k5, rfl⟩ := hl5.value
                  have hlk : (lt.take k).length = k := by rw [List.length_take]; omega
                  rw [hlk] at hl5 ⊢
                  have G : Hid (k + gk = lt.length ∧ Lst w7.heap.size wr 40 (.slice a5 k k5) (lt.take k) ∧ Turned (fun _ => False) w7 wr ∧ (lt.take k).length = k) := ⟨hkg, hl5, ht, hlk⟩
                  clear hkg hl5 ht hlk B3
                  by_cases hlt : k < n3
                  · obtain ⟨c, hc⟩ : ∃ c, lt[k]? = some c := ⟨_, List.getElem?_eq_getElem (by have := HN3.out; omega)⟩
                    obtain ⟨g1, o1, cs, rfl, l1, v1, e1⟩ := (X7S.out.turned G.out.2.2.1 fun _ _ q => q).elem hc
                    have HC : Hid (lt[k]? = some c) := hc
                    have V1 : Hid (CmdR wr (fun b => b < w7.heap.size) c cs) := v1
                    have M13 : Hid (∀ W, Turned (fun _ => False) wr W → Calls Tryz.prog 13 #[.agg cs] W fun e w' => e = .returned (.agg cs) ∧ Turned (fun _ => False) W w') := hidS fun W t => its_cmd W _ c cs (v1.turned t fun _ _ q => q)
                    obtain ⟨xs, HX⟩ : ∃ xs, Hid (Sl wr (fun b => w7.heap.size ≤ b) 40 11 (.slice a5 k k5) xs k ∧ CmdsX wr (fun b => b < w7.heap.size) (lt.take k) xs) := by
                      obtain ⟨xs, q1, q2⟩ := G.out.2.1
                      rw [G.out.2.2.2] at q1
                      exact ⟨xs, q1, q2⟩
                    obtain ⟨x1, y1, x4, y4, x9, y9, rfl, -, -, -⟩ := v1
                    have hd1 : decide ((k : Int) < (n3 : Int)) = true := by simp; omega
                    have hd2 : decide (k < n3) = true := by simp; omega
                    have HLT : Hid (k < n3 ∧ n3 ≤ 1024) := ⟨hlt, HN3.out.2⟩
                    have HW : Hid (wrap64 ((k : Int) + 1) = ((k + 1 : Nat) : Int)) := hidS (w64_in _ (by have := HLT.out; omega))
                    have c6 : Hid (k + 1 ≤ maxLen ∧ (k + 1) * 160 ≤ 140737488355328) := hidS ⟨by have := HLT.out; simp only [maxLen]; omega, by have := HLT.out; omega⟩
                    have p0 := e1 0 (by decide); have p1 := e1 1 (by decide); have p2 := e1 2 (by decide); have p3 := e1 3 (by decide); have p4 := e1 4 (by decide); have p5 := e1 5 (by decide); have p6 := e1 6 (by decide); have p7 := e1 7 (by decide); have p8 := e1 8 (by decide); have p9 := e1 9 (by decide); have p10 := e1 10 (by decide)
                    simp only [List.getElem?_toArray, List.getElem?_cons_zero, List.getElem?_cons_succ, Nat.add_zero] at p0 p1 p2 p3 p4 p5 p6 p7 p8 p9 p10
                    clear e1 hc
                    go_wp2_with (first
                      | (go_at_call 13; (with_reducible refine (M13.out _ (Turned.alloc _ _ _)).mono ?_); rintro e w3 ⟨rfl, ht3⟩
                         have T3 : Hid (Turned (fun _ => False) wr w3) := (Turned.alloc _ _ _).trans ht3 fun _ _ q => q
                         have S6 : Hid (∀ o, Sl (w3.alloc o) (fun b => w7.heap.size ≤ b) 40 11 (.slice a5 k k5) xs k) := hidS fun o => (HX.out.1.turned T3.out fun _ _ q => q).turned (Turned.alloc (fun _ => False) w3 o) fun _ _ q => q
                         clear ht3)
                      | (at_builtin; refine wpList_append rfl _ _ 33 33 rfl (S6.out _) Tryz.underlying33 info40' rfl (by decide) rfl (.slice (some ⟨w3.heap.size, 0, none⟩) 1 1) rfl (src_x w3 Tryz.underlying33 _ V1.out) c6.out.1 c6.out.2 ?_; intro x9 w9 q9 t9; obtain ⟨a7, cap7, hv7, -, -⟩ := q9.value; subst hv7; have Q9 := hid_two q9 t9; clear q9 t9))
                    go_roundg (gk - 1)
                    case measure => have := G.out; have := HLT.out; have := HN3.out; omega
                    case rel => exact BuR.next HC.out (by rw [HW.out]) (by have := G.out; have := HLT.out; have := HN3.out; omega) HX.out.2 V1.out G.out.2.2.1 (T3.out.trans (Turned.alloc _ _ _) fun _ _ q => q) (by rw [G.out.2.2.2]; exact Q9.out.1) Q9.out.2
                  · have hd1 : decide ((k : Int) < (n3 : Int)) = false := by simp; omega
                    have hd2 : decide (k < n3) = false := by simp; omega
                    have HE : Hid (lt.take k = lt ∧ k = lt.length) := hidS ⟨List.take_of_length_le (by have := HN3.out; omega), by have := HN3.out; have := G.out; omega⟩
                    have hl9 := G.out.2.1
                    rw [HE.out.1] at hl9
                    have END3 : Hid (Lst w7.heap.size wr 40 (.slice a5 k k5) lt ∧ Turned (fun _ => False) w7 wr ∧ k = lt.length) := ⟨hl9, G.out.2.2.1, HE.out.2⟩
                    clear HE G hl9 hlt
                    have D20c := PT.out wr _ (.slice a18 lt.length k18) lt x3 0 (X7.out.2.turned END3.out.2.1 fun _ _ q => q).r.any (X7.out.1.trans END3.out.2.1 fun _ _ q => q) (parse_few HPA.out) PL.out.1 PL.out.2.2.2.1
                    have E20 : Hid (CmdsR wr (fun _ => True) (.slice a18 lt.length k18) lt) := (X7.out.2.turned END3.out.2.1 fun _ _ q => q).r.any
                    rw [← HN3.out.1] at D20c E20
                    have HNE : Hid (k = n3) := hidS (by have := END3.out.2.2; have := HN3.out; omega)
                    have hne := HNE.out
                    have HNL : Hid (n3 = lt.length) := HN3.out.1
                    rw [hne]
                    generalize bs x3 = z3 at *
                    go_wp2_with (first
                      | (go_at_call 20; (with_reducible refine D20c.mono ?_); rintro e w8 ⟨rfl, t8⟩
                         have X8 : Hid (CmdsR w8 (fun _ => True) (.slice a18 n3 k18) lt ∧ CmdsR w8 (fun _ => True) (.slice a5 n3 k5) lt ∧ Turned (fun _ => False) w w8) := hidS ⟨E20.out.turned t8 fun _ _ q => q, by rw [← hne]; exact (END3.out.1.turned t8).r, (X7.out.1.trans END3.out.2.1 fun _ _ q => q).trans t8 fun _ _ q => q⟩
                         clear t8 D20c)
                      | (go_at_call 14; (with_reducible refine (same_any w8 _ _ _ _ lt X8.out.1 X8.out.2.1 (Nat.le_trans PL.out.1 (by decide))).mono ?_); rintro e w9 ⟨rfl, t9⟩
                         have X9 : Hid (Turned (fun _ => False) w w9) := X8.out.2.2.trans t9 fun _ _ q => q
                         clear t9))
                    go_ret
                    exact ⟨rfl, X9.out⟩
      
            · have HE : Hid (lt = []) := parse_none HPA.out hnt
              have hd7 : ((nt : Int) == 0) = false := by simp; exact hnt
              have he := HE.out
              subst he
              generalize bs t = zt at *
              go_wp2_with (go_at_call 12; (with_reducible refine D12b.mono ?_); rintro e w6 ⟨⟨v15, rfl, c15⟩, t6⟩
                           obtain ⟨a15, k15, rfl⟩ := c15.value
                           have X6 : Hid (Turned (fun _ => False) w w6) := X5.out.trans t6 fun _ _ q => q
                           clear c15 t6 D12b)
              go_ret
              exact ⟨rfl, X6.out⟩
      · have hd8 : ((n1 : Int) == 0) = false := by simp; exact hn
        go_upto_region 21 with (go_at_call 20; (with_reducible refine D20.mono ?_); rintro e w2 ⟨rfl, t2⟩
                                have X5 : Hid (Turned (fun _ => False) w w2) := TW.out.trans t2 fun _ _ q => q
                                clear t2 D20)
        obtain ⟨lt, nt, hpa⟩ : ∃ lt nt, parseS 5 14 t = (lt, nt) := ⟨_, _, rfl⟩
        have HPA : Hid (parseS 5 14 t = (lt, nt)) := hpa
        have D12b := PA.out w2 t lt nt X5.out HT.out hpa
        clear hpa
        by_cases hnt : nt = 0
        · subst hnt
          have PL : Hid (lt.length ≤ 1024 ∧ True) := hidS ⟨parse_len HPA.out, trivial⟩
          rcases print_parsed HPA.out with h5 | ⟨x3, h3, h3p⟩
          · generalize bs t = zt at *
            go_wp2_with (first
              | (go_at_call 12; (with_reducible refine D12b.mono ?_); rintro e w6 ⟨⟨v15, rfl, c15⟩, t6⟩
                 obtain ⟨a15, k15, rfl⟩ := c15.value
                 have X6 : Hid (Turned (fun _ => False) w w6) := X5.out.trans t6 fun _ _ q => q
                 have D20b := PT.out w6 _ (.slice a15 lt.length k15) lt [] 5 c15.r.any X6.out (parse_few HPA.out) (Nat.le_trans PL.out.1 (by decide)) h5
                 clear c15 t6 D12b)
              | (go_at_call 20; (with_reducible refine D20b.mono ?_); rintro e w7 ⟨rfl, t7⟩
                 have X7 : Hid (Turned (fun _ => False) w w7) := X6.out.trans t7 fun _ _ q => q
                 clear t7 D20b))
            go_ret
            exact ⟨rfl, X7.out⟩
          · have PL : Hid (lt.length ≤ 1048576 ∧ lt.length ≤ 1024 ∧ x3.length ≤ 65536 ∧ printS 5 14 lt = (x3, 0) ∧ True) := hidS ⟨Nat.le_trans PL.out.1 (by decide), PL.out.1, print_len h3, h3, trivial⟩
            have H3P : Hid (parseS 5 14 x3 = (lt, 0)) := h3p
            clear h3 h3p
            obtain ⟨n3, hn3⟩ : ∃ n3, n3 = lt.length := ⟨_, rfl⟩
            have HN3 : Hid (n3 = lt.length ∧ n3 ≤ 1024) := hidS ⟨hn3, by rw [hn3]; exact PL.out.2.1⟩
            clear hn3
            go_upto_region 30 with (first
              | (go_at_call 12; (with_reducible refine D12b.mono ?_); rintro e w6 ⟨⟨v15, rfl, c15⟩, t6⟩
                 obtain ⟨a15, k15, rfl⟩ := c15.value
                 have X6 : Hid (CmdsR w6 (fun _ => True) (.slice a15 lt.length k15) lt ∧ Turned (fun _ => False) w w6) := ⟨c15.r.any, X5.out.trans t6 fun _ _ q => q⟩
                 have D20b := PT.out w6 _ (.slice a15 lt.length k15) lt x3 0 c15.r.any X6.out.2 (parse_few HPA.out) PL.out.1 PL.out.2.2.2.1
                 clear c15 t6 D12b)
              | (go_at_call 20; (with_reducible refine D20b.mono ?_); rintro e w6b ⟨rfl, t7⟩
                 have X6b : Hid (CmdsR w6b (fun _ => True) (.slice a15 lt.length k15) lt ∧ Turned (fun _ => False) w w6b) := ⟨X6.out.1.turned t7 fun _ _ q => q, X6.out.2.trans t7 fun _ _ q => q⟩
                 have D12c := PA.out w6b x3 lt 0 X6b.out.2 (Nat.le_trans PL.out.2.2.1 (by decide)) H3P.out
                 clear t7 D20b)
              | (go_at_call 12; (with_reducible refine D12c.mono ?_); rintro e w7 ⟨⟨v18, rfl, c18⟩, t8⟩
                 obtain ⟨a18, k18, rfl⟩ := c18.value
                 have X7 : Hid (Turned (fun _ => False) w w7 ∧ CmdsAt w7 (fun b => w6b.heap.size ≤ b) 39 (.slice a18 lt.length k18) lt) := ⟨X6b.out.2.trans t8 fun _ _ q => q, c18⟩
                 have X7S : Hid (CmdsR w7 (fun b => b < w7.heap.size) (.slice a15 lt.length k15) lt) := hidS ((X6b.out.1.turned t8 fun _ _ q => q).bound.widen fun _ q => q.2)
                 clear c18 t8 D12c))
            have B3 : Hid (BuR w7 40 lt n3 (.slice none 0 0) (.int .i64 0) w7) := ⟨0, rfl, by have := HN3.out; omega, Lst.nil _ _ _, Turned.refl _ _⟩
            rw [← HN3.out.1]
            go_loopg [19, 120] n3 (fun g v5 vi wr => BuR w7 40 lt g v5 vi wr)
            case atStart => exact B3.out
            case round =>
              obtain ⟨k, rfl, hkg, hl5, ht⟩ := hrel
              obtain ⟨a5, k5, rfl⟩ := hl5.value
              have hlk : (lt.take k).length = k := by rw [List.length_take]; omega
              rw [hlk] at hl5 ⊢
              have G : Hid (k + gk = lt.length ∧ Lst w7.heap.size wr 40 (.slice a5 k k5) (lt.take k) ∧ Turned (fun _ => False) w7 wr ∧ (lt.take k).length = k) := ⟨hkg, hl5, ht, hlk⟩
              clear hkg hl5 ht hlk B3
              by_cases hlt : k < n3
              · obtain ⟨c, hc⟩ : ∃ c, lt[k]? = some c := ⟨_, List.getElem?_eq_getElem (by have := HN3.out; omega)⟩
                obtain ⟨g1, o1, cs, rfl, l1, v1, e1⟩ := (X7S.out.turned G.out.2.2.1 fun _ _ q => q).elem hc
                have HC : Hid (lt[k]? = some c) := hc
                have V1 : Hid (CmdR wr (fun b => b < w7.heap.size) c cs) := v1
                have M13 : Hid (∀ W, Turned (fun _ => False) wr W → Calls Tryz.prog 13 #[.agg cs] W fun e w' => e = .returned (.agg cs) ∧ Turned (fun _ => False) W w') := hidS fun W t => its_cmd W _ c cs (v1.turned t fun _ _ q => q)
                obtain ⟨xs, HX⟩ : ∃ xs, Hid (Sl wr (fun b => w7.heap.size ≤ b) 40 11 (.slice a5 k k5) xs k ∧ CmdsX wr (fun b => b < w7.heap.size) (lt.take k) xs) := by
                  obtain ⟨xs, q1, q2⟩ := G.out.2.1
                  rw [G.out.2.2.2] at q1
                  exact ⟨xs, q1, q2⟩
                obtain ⟨x1, y1, x4, y4, x9, y9, rfl, -, -, -⟩ := v1
                have hd1 : decide ((k : Int) < (n3 : Int)) = true := by simp; omega
                have hd2 : decide (k < n3) = true := by simp; omega
                have HLT : Hid (k < n3 ∧ n3 ≤ 1024) := ⟨hlt, HN3.out.2⟩
                have HW : Hid (wrap64 ((k : Int) + 1) = ((k + 1 : Nat) : Int)) := hidS (w64_in _ (by have := HLT.out; omega))
                have c6 : Hid (k + 1 ≤ maxLen ∧ (k + 1) * 160 ≤ 140737488355328) := hidS ⟨by have := HLT.out; simp only [maxLen]; omega, by have := HLT.out; omega⟩
                have p0 := e1 0 (by decide); have p1 := e1 1 (by decide); have p2 := e1 2 (by decide); have p3 := e1 3 (by decide); have p4 := e1 4 (by decide); have p5 := e1 5 (by decide); have p6 := e1 6 (by decide); have p7 := e1 7 (by decide); have p8 := e1 8 (by decide); have p9 := e1 9 (by decide); have p10 := e1 10 (by decide)
                simp only [List.getElem?_toArray, List.getElem?_cons_zero, List.getElem?_cons_succ, Nat.add_zero] at p0 p1 p2 p3 p4 p5 p6 p7 p8 p9 p10
                clear e1 hc
                go_wp2_with (first
                  | (go_at_call 13; (with_reducible refine (M13.out _ (Turned.alloc _ _ _)).mono ?_); rintro e w3 ⟨rfl, ht3⟩
                     have T3 : Hid (Turned (fun _ => False) wr w3) := (Turned.alloc _ _ _).trans ht3 fun _ _ q => q
                     have S6 : Hid (∀ o, Sl (w3.alloc o) (fun b => w7.heap.size ≤ b) 40 11 (.slice a5 k k5) xs k) := hidS fun o => (HX.out.1.turned T3.out fun _ _ q => q).turned (Turned.alloc (fun _ => False) w3 o) fun _ _ q => q
                     clear ht3)
                  | (at_builtin; refine wpList_append rfl _ _ 33 33 rfl (S6.out _) Tryz.underlying33 info40' rfl (by decide) rfl (.slice (some ⟨w3.heap.size, 0, none⟩) 1 1) rfl (src_x w3 Tryz.underlying33 _ V1.out) c6.out.1 c6.out.2 ?_; intro x9 w9 q9 t9; obtain ⟨a7, cap7, hv7, -, -⟩ := q9.value; subst hv7; have Q9 := hid_two q9 t9; clear q9 t9))
                go_roundg (gk - 1)
                case measure => have := G.out; have := HLT.out; have := HN3.out; omega
                case rel => exact BuR.next HC.out (by rw [HW.out]) (by have := G.out; have := HLT.out; have := HN3.out; omega) HX.out.2 V1.out G.out.2.2.1 (T3.out.trans (Turned.alloc _ _ _) fun _ _ q => q) (by rw [G.out.2.2.2]; exact Q9.out.1) Q9.out.2
              · have hd1 : decide ((k : Int) < (n3 : Int)) = false := by simp; omega
                have hd2 : decide (k < n3) = false := by simp; omega
                have HE : Hid (lt.take k = lt ∧ k = lt.length) := hidS ⟨List.take_of_length_le (by have := HN3.out; omega), by have := HN3.out; have := G.out; omega⟩
                have hl9 := G.out.2.1
                rw [HE.out.1] at hl9
                have END3 : Hid (Lst w7.heap.size wr 40 (.slice a5 k k5) lt ∧ Turned (fun _ => False) w7 wr ∧ k = lt.length) := ⟨hl9, G.out.2.2.1, HE.out.2⟩
                clear HE G hl9 hlt
                have D20c := PT.out wr _ (.slice a18 lt.length k18) lt x3 0 (X7.out.2.turned END3.out.2.1 fun _ _ q => q).r.any (X7.out.1.trans END3.out.2.1 fun _ _ q => q) (parse_few HPA.out) PL.out.1 PL.out.2.2.2.1
                have E20 : Hid (CmdsR wr (fun _ => True) (.slice a18 lt.length k18) lt) := (X7.out.2.turned END3.out.2.1 fun _ _ q => q).r.any
                rw [← HN3.out.1] at D20c E20
                have HNE : Hid (k = n3) := hidS (by have := END3.out.2.2; have := HN3.out; omega)
                have hne := HNE.out
                have HNL : Hid (n3 = lt.length) := HN3.out.1
                rw [hne]
                generalize bs x3 = z3 at *
                go_wp2_with (first
                  | (go_at_call 20; (with_reducible refine D20c.mono ?_); rintro e w8 ⟨rfl, t8⟩
                     have X8 : Hid (CmdsR w8 (fun _ => True) (.slice a18 n3 k18) lt ∧ CmdsR w8 (fun _ => True) (.slice a5 n3 k5) lt ∧ Turned (fun _ => False) w w8) := hidS ⟨E20.out.turned t8 fun _ _ q => q, by rw [← hne]; exact (END3.out.1.turned t8).r, (X7.out.1.trans END3.out.2.1 fun _ _ q => q).trans t8 fun _ _ q => q⟩
                     clear t8 D20c)
                  | (go_at_call 14; (with_reducible refine (same_any w8 _ _ _ _ lt X8.out.1 X8.out.2.1 (Nat.le_trans PL.out.1 (by decide))).mono ?_); rintro e w9 ⟨rfl, t9⟩
                     have X9 : Hid (Turned (fun _ => False) w w9) := X8.out.2.2.trans t9 fun _ _ q => q
                     clear t9))
                go_ret
                exact ⟨rfl, X9.out⟩
      
        · have HE : Hid (lt = []) := parse_none HPA.out hnt
          have hd7 : ((nt : Int) == 0) = false := by simp; exact hnt
          have he := HE.out
          subst he
          generalize bs t = zt at *
          go_wp2_with (go_at_call 12; (with_reducible refine D12b.mono ?_); rintro e w6 ⟨⟨v15, rfl, c15⟩, t6⟩
                       obtain ⟨a15, k15, rfl⟩ := c15.value
                       have X6 : Hid (Turned (fun _ => False) w w6) := X5.out.trans t6 fun _ _ q => q
                       clear c15 t6 D12b)
          go_ret
          exact ⟨rfl, X6.out⟩

end Go.Proofs.YteblabpplaaddaaGreatDoor

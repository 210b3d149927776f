/- Texts one behind the other; SplitAfter, Join; an append without room; the law ScriptBetween's walk. -/
import Derived.Test.YteblabpplaaddaaGreatDoorSs
import Derived.Lib.SplitLaws
import Derived.Test.YteblabpplaaddaaGreatDoorMy
import Derived.Test.YteblabpplaaddaaGreatDoorShelf3
import Derived.Shelf.Strings.OnBuilder
import Derived.Shelf.Strings.Builder1
import Derived.Shelf.Strings.SplitCore
import Derived.Shelf.Strings.Search3
import Derived.Shelf.Strings.Count
set_option linter.unusedVariables false
set_option linter.unusedSimpArgs false
namespace Go.Mine.Sc

/-- a text that is empty or ends with a line's end -/
def Cl (p : B) : Prop := p = [] ∨ ∃ q, p = q ++ [10]
theorem Cl.of {p : B} (h : p = [] ∨ p.getLast? = some 10) : Cl p := h.imp id fun q => by
  obtain ⟨ys, hy⟩ := List.getLast?_eq_some_iff.1 q
  exact ⟨ys, hy⟩
theorem Cl.to {p : B} (h : Cl p) : p = [] ∨ p.getLast? = some 10 := h.imp id fun ⟨q, hq⟩ => by rw [hq]; simp
theorem Cl.app {p r : B} (hp : Cl p) (hr : Cl r) : Cl (p ++ r) := by
  rcases hr with rfl | ⟨q, rfl⟩
  · rw [List.append_nil]; exact hp
  · exact .inr ⟨p ++ q, by rw [List.append_assoc]⟩
theorem Cl.flat : ∀ {ls : List B}, (∀ x ∈ ls, Cl x) → Cl ls.flatten
  | [], _ => .inl rfl
  | x :: ls, h => by
    rw [List.flatten_cons]
    exact (h x (List.mem_cons_self ..)).app (Cl.flat fun y hy => h y (List.mem_cons_of_mem _ hy))
theorem says_nil : ¬ says [] := fun h => h.1 rfl
theorem pLines_nil : pLines [[]] = some [] := by rw [pLines, if_neg says_nil, pLines]
/-- a text behind a closed one -/
theorem cl_lines {p : B} (h : Cl p) (y : B) : pLines (parts (p ++ y)) = match pLines (parts p) with | none => none | some x => (pLines (parts y)).map (x ++ ·) := by
  rcases h with rfl | ⟨q, rfl⟩
  · rw [List.nil_append, parts_nil, pLines_nil]
    cases pLines (parts y) <;> simp
  · rw [List.append_assoc, List.singleton_append, parts_join, pLines_app, parts_snoc10, pLines_app, pLines_nil]
    cases pLines (parts q) <;> simp
/-- what may be laid ahead of a line -/
def Void (x : B) : Prop := x ≠ [] ∧ Cl x ∧ x.length ≤ 7 ∧ x.count 10 = 1 ∧ pLines (parts x) = some []
theorem void0 : Void [10] := ⟨by simp, .inr ⟨[], rfl⟩, by decide, by decide, by rw [parts_10, parts_nil, pLines, if_neg says_nil, pLines_nil]⟩
theorem void1 : Void [35, 32, 34, 92, 120, 255, 10] := ⟨by simp, .inr ⟨[35, 32, 34, 92, 120, 255], rfl⟩, by decide, by decide, by
  have : parts [35, 32, 34, 92, 120, 255, 10] = [[35, 32, 34, 92, 120, 255], []] := by simp [parts]
  rw [this, pLines, if_neg (fun h => h.2 rfl), pLines_nil]⟩
theorem void_lines {x : B} (h : Void x) (y : B) : pLines (parts (x ++ y)) = pLines (parts y) := by
  rw [cl_lines h.2.1, h.2.2.2.2]
  cases pLines (parts y) <;> simp
/-- pieces of a text: all but the last are closed -/
def Pieces (a : B) (i : Nat) (ls : List B) : Prop :=
  ls ≠ [] ∧ (∀ j x, ls[j]? = some x → j + 1 < ls.length → Cl x) ∧ pLines (parts ls.flatten) = pLines (parts a) ∧ ls.flatten.length ≤ a.length + 7 * i ∧ ls.flatten.count 10 ≤ a.count 10 + i
theorem pieces_set {a : B} {i k : Nat} {ls : List B} {x y : B} (h : Pieces a i ls) (hk : ls[k]? = some y) (hx : Void x) : Pieces a (i + 1) (ls.set k (x ++ y)) := by
  obtain ⟨h1, h2, h3, h4, h5⟩ := h
  have hlt := (List.getElem?_eq_some_iff.1 hk).1
  have e0 : ls.flatten = (ls.take k).flatten ++ (y ++ (ls.drop (k + 1)).flatten) := by
    have : ls = ls.take k ++ y :: ls.drop (k + 1) := by
      have e := (List.getElem?_eq_some_iff.1 hk).2
      rw [← e, ← List.drop_eq_getElem_cons hlt, List.take_append_drop]
    conv => lhs; rw [this]
    simp
  have e1 : (ls.set k (x ++ y)).flatten = (ls.take k).flatten ++ (x ++ (y ++ (ls.drop (k + 1)).flatten)) := by
    rw [List.set_eq_take_append_cons_drop, if_pos hlt]
    simp
  have hc : Cl (ls.take k).flatten := Cl.flat fun z hz => by
    obtain ⟨j, hj⟩ := List.getElem?_of_mem hz
    rw [List.getElem?_take] at hj
    split at hj
    · exact h2 j z hj (by omega)
    · simp at hj
  refine ⟨fun q => h1 (by simpa using q), fun j z hz hj => ?_, ?_, ?_, ?_⟩
  · rw [List.length_set] at hj
    rw [List.getElem?_set] at hz
    split at hz
    · rename_i e
      subst e
      rw [← Option.some.inj hz]
      exact hx.2.1.app (h2 k y hk hj)
    · exact h2 j z hz hj
  · rw [e1, cl_lines hc, void_lines hx, ← h3, e0, cl_lines hc]
  · rw [e1]; rw [e0] at h4; have := hx.2.2.1; simp only [List.length_append] at h4 ⊢; omega
  · rw [e1]; rw [e0] at h5; have := hx.2.2.2.1; simp only [List.count_append] at h5 ⊢; omega
theorem split_pieces : ∀ (k : Nat) (s : B), (Lib.splitK [10] 1 k s).flatten = s ∧ Lib.splitK [10] 1 k s ≠ [] ∧ ∀ j x, (Lib.splitK [10] 1 k s)[j]? = some x → j + 1 < (Lib.splitK [10] 1 k s).length → Cl x
  | 0, s => ⟨by simp [Lib.splitK], by simp [Lib.splitK], fun j x _ h => by simp [Lib.splitK] at h⟩
  | k + 1, s => by
    unfold Lib.splitK
    split
    · exact ⟨by simp, by simp, fun j x _ h => by simp at h⟩
    · rename_i hm
      rcases Lib.index_spec s [10] with ⟨q, -⟩ | ⟨i, q, hi, ho, -⟩
      · exact absurd (by rw [q]; rfl) hm
      · have hc := Lib.occAt_head (s := s) (sub := [10]) (t := []) rfl ho
        have hlt := (List.getElem?_eq_some_iff.1 hc).1
        have e : (Lib.index s [10]).toNat = i := by omega
        rw [e]
        obtain ⟨h1, h2, h3⟩ := split_pieces k (s.drop (i + [(10 : UInt8)].length))
        refine ⟨?_, by simp, fun j x hx hj => ?_⟩
        · rw [List.flatten_cons, h1]
          exact List.take_append_drop _ _
        · cases j with
          | zero =>
            simp only [List.getElem?_cons_zero, Option.some.injEq] at hx
            subst hx
            exact .inr ⟨s.take i, by rw [List.take_add_one, hc]; rfl⟩
          | succ j => exact h3 j x (by simpa using hx) (by simpa using hj)
theorem pieces_split (k : Nat) (s : B) : Pieces s 0 (Lib.splitK [10] 1 k s) := by
  obtain ⟨h1, h2, h3⟩ := split_pieces k s
  exact ⟨h2, h3, by rw [h1], by rw [h1]; omega, by rw [h1]; omega⟩
theorem short_of {t : B} (h1 : t.length ≤ 65536) (h2 : t.count 10 ≤ 1000) : ¬ tooLong t := by
  unfold tooLong nLines
  rintro (h | h)
  · omega
  · split at h <;> omega
theorem parse_short {t : B} {eL eS : Nat} (h : ¬ tooLong t) : parseS eL eS t = match pLines (parts t) with | none => ([], eS) | some l => (l, 0) := by
  unfold parseS
  rw [if_neg h]
  cases pLines (parts t) <;> rfl
/-- texts one behind the other -/
theorem parse_app {a b : B} (ha : Cl a) (h1 : a.length ≤ 20000) (h2 : b.length ≤ 20000) (h3 : a.count 10 + b.count 10 ≤ 1000) (eL eS : Nat) :
    parseS eL eS (a ++ b) = match (pLines (parts a)), (pLines (parts b)) with | some l, some m => (l ++ m, 0) | _, _ => ([], eS) := by
  rw [parse_short (short_of (by rw [List.length_append]; omega) (by rw [List.count_append]; omega)), cl_lines ha]
  cases pLines (parts a) with
  | none => rfl
  | some l => cases pLines (parts b) <;> rfl
/-- pieces with what says nothing between are read as the text -/
theorem parse_pieces {a : B} {i : Nat} {ls : List B} (h : Pieces a i ls) (h1 : a.length ≤ 20000) (h2 : a.count 10 ≤ 500) (hi : i ≤ 100) (eL eS : Nat) : parseS eL eS ls.flatten = parseS eL eS a := by
  obtain ⟨-, -, h3, h4, h5⟩ := h
  rw [parse_short (short_of (by omega) (by omega)), parse_short (short_of (by omega) (by omega)), h3]
end Go.Mine.Sc

set_option linter.unusedVariables false
set_option linter.unusedSimpArgs false
namespace Go.Mine
theorem Rd.bound {w : World} {S : Nat → Prop} {size : Nat} {v : Value} {xs : List Value} {n : Nat} (h : Rd w S size v xs n) : Rd w (fun b => S b ∧ b < w.heap.size) size v xs n := by
  obtain ⟨h1, a, cap, h2, h3, h4, h5⟩ := h
  refine ⟨h1, a, cap, h2, h3, h4, fun q => ?_⟩
  obtain ⟨g, off, rfl, hg, hl, hc⟩ := h5 q
  exact ⟨g, off, rfl, ⟨hg, hl⟩, hl, hc⟩
end Go.Mine
namespace Go.Proofs.YteblabpplaaddaaGreatDoor
open Go.RowKit Go.Mine Go.Mine.Sc

theorem CmdR.bound {w : World} {S : Nat → Prop} {c : Cmd} {cs : Array Value} (h : CmdR w S c cs) : CmdR w (fun b => S b ∧ b < w.heap.size) c cs := by
  obtain ⟨a1, k1, a4, k4, a9, k9, h0, h1, h2, h3⟩ := h
  exact ⟨a1, k1, a4, k4, a9, k9, h0, h1.bound, h2.bound, h3.bound⟩
theorem CmdsX.bound {w : World} {S : Nat → Prop} : ∀ {l : List Cmd} {xs : List Value}, CmdsX w S l xs → CmdsX w (fun b => S b ∧ b < w.heap.size) l xs
  | [], _, h => h
  | _ :: _, _, ⟨cs, rest, h1, h2, h3⟩ => ⟨cs, rest, h1, h2.bound, h3.bound⟩
theorem CmdsR.bound {w : World} {S : Nat → Prop} {v : Value} {l : List Cmd} (h : CmdsR w S v l) : CmdsR w (fun b => S b ∧ b < w.heap.size) v l := by
  obtain ⟨xs, h1, h2⟩ := h
  exact ⟨xs, h1.bound, h2.bound⟩

/-- a list that a law builds: its row is new, what its elements hold is old -/
def Lst (z : Nat) (w : World) (e : TypeId) (v : Value) (l : List Cmd) : Prop := ∃ xs, Sl w (fun b => z ≤ b) e 11 v xs l.length ∧ CmdsX w (fun b => b < z) l xs
theorem Lst.nil (z : Nat) (w : World) (e : TypeId) : Lst z w e (.slice none 0 0) [] := ⟨[], Sl.nil _ _ _ _, rfl⟩
theorem Lst.turned {z : Nat} {w w' : World} {e : TypeId} {v : Value} {l : List Cmd} (h : Lst z w e v l) (ht : Turned (fun _ => False) w w') : Lst z w' e v l := by
  obtain ⟨xs, h1, h2⟩ := h
  exact ⟨xs, h1.turned ht fun _ _ q => q, h2.turned ht fun _ _ q => q⟩
theorem Lst.r {z : Nat} {w : World} {e : TypeId} {v : Value} {l : List Cmd} (h : Lst z w e v l) : CmdsR w (fun _ => True) v l := by
  obtain ⟨xs, h1, h2⟩ := h
  exact ⟨xs, h1.rd.widen fun _ _ => trivial, h2.widen fun _ _ => trivial⟩
theorem Lst.value {z : Nat} {w : World} {e : TypeId} {v : Value} {l : List Cmd} (h : Lst z w e v l) : ∃ a cap, v = .slice a l.length cap := by
  obtain ⟨xs, h1, h2⟩ := h
  obtain ⟨a, cap, hv, -, -⟩ := h1.value
  exact ⟨a, cap, hv⟩
theorem Lst.snoc {z : Nat} {w8 w9 : World} {e : TypeId} {v' : Value} {l : List Cmd} {c : Cmd} {cs : Array Value} {xs : List Value} (hz : z ≤ w8.heap.size) (hx : CmdsX w8 (fun b => b < z) l xs) (hc : CmdR w8 (fun b => b < z) c cs)
    (q : Sl w9 (More (fun b => z ≤ b) w8) e 11 v' (xs ++ cs.toList) (l.length + 1)) (t : Turned (fun b => z ≤ b) w8 w9) : Lst z w9 e v' (l ++ [c]) := by
  refine ⟨xs ++ cs.toList, ?_, ?_⟩
  · rw [List.length_append, List.length_singleton]
    exact q.widen fun b q => q.elim id fun q => by omega
  · exact CmdsX.snoc (hc.turned t fun b h q => by omega) (hx.turned t fun b h q => by omega)
theorem src_x (w4 : World) {e t : TypeId} (hu : Tryz.prog.underlying t = some (.slice e)) {w0 : World} {S : Nat → Prop} {c : Cmd} (cs : Array Value) (hc : CmdR w0 S c cs) : Src Tryz.prog 11 t (.slice (some ⟨w4.heap.size, 0, none⟩) 1 1) 1 cs.toList (w4.alloc (.cells cs e)) := by
  have hs : cs.toList.length = 11 := by rw [Array.length_toList]; exact hc.size
  have : Sl (w4.alloc (.cells cs e)) (fun _ => True) e 11 (.slice (some ⟨w4.heap.size, 0, none⟩) 1 1) cs.toList 1 :=
    ⟨by omega, .inr ⟨w4.heap.size, 0, 1, cs, rfl, trivial, heap_alloc_new w4 _, Nat.le_refl _, by simp [maxLen], by have := hc.size; omega, by simp only [List.drop_zero, Nat.one_mul]; exact List.take_of_length_le (by omega)⟩⟩
  exact this.src hu hc.one
/-- between two rounds of a loop that turns each command -/
def BuR (w : World) (e : TypeId) (m : List Cmd) (g : Nat) (v5 vi : Value) (wr : World) : Prop := ∃ k : Nat, vi = .int .i64 (k : Nat) ∧ k + g = m.length ∧ Lst w.heap.size wr e v5 (m.take k) ∧ Turned (fun _ => False) w wr
/-- a round's end -/
theorem BuR.next {w wr w8 w9 : World} {e : TypeId} {m : List Cmd} {g k : Nat} {v' vi : Value} {c : Cmd} {cs : Array Value} {xs : List Value} (hc : m[k]? = some c) (e7 : vi = .int .i64 ((k + 1 : Nat) : Int)) (hg : k + 1 + g = m.length)
    (hx : CmdsX wr (fun b => b < w.heap.size) (m.take k) xs) (hcr : CmdR wr (fun b => b < w.heap.size) c cs) (ht : Turned (fun _ => False) w wr) (t8 : Turned (fun _ => False) wr w8)
    (q : Sl w9 (More (fun b => w.heap.size ≤ b) w8) e 11 v' (xs ++ cs.toList) ((m.take k).length + 1)) (t : Turned (fun b => w.heap.size ≤ b) w8 w9) : BuR w e m g v' vi w9 := by
  have s1 := ht.size
  have s2 := t8.size
  refine ⟨k + 1, e7, hg, ?_, ?_⟩
  · rw [List.take_add_one, hc]
    exact Lst.snoc (by omega) (hx.turned t8 fun _ _ q => q) (hcr.turned t8 fun _ _ q => q) q t
  · exact (ht.trans t8 fun _ _ q => q).comp t fun b hb q => q.elim id fun q => by omega

theorem CmdsR.any {w : World} {S : Nat → Prop} {v : Value} {l : List Cmd} (h : CmdsR w S v l) : CmdsR w (fun _ => True) v l := h.widen fun _ _ => trivial
theorem parse_len {t : B} {l : List Cmd} {n : Nat} (h : parseS 5 14 t = (l, n)) : l.length ≤ 1024 := by have := (parseS_small t).1; rw [h] at this; exact this

/-! ### Join with nothing between -/
theorem jnX : Builder.Extra Tryz.prog Tryz.joinLays_ren where
  sizeBuilder := by kernel_rfl
  liesBuilder := by kernel_rfl
  t5 := Tryz.underlying5
  a5 := Tryz.isAgg5
  z5 := Tryz.sizeOf5
  v5 := Tryz.zeroValue5
  infoByte := by kernel_rfl
  cellsByte := by kernel_rfl
  sizeByte := by kernel_rfl
  neB5 := by decide
theorem join_flat : ∀ (l : List B), Lib.join l [] = l.flatten
  | [] => rfl
  | x :: l => by
    rw [Lib.join_cons, List.flatten_cons]
    simp [Lib.joinTail, List.flatMap]
theorem join_none (W : World) (R : Nat → Prop) (a : Option Addr) (n k : Nat) (ws : List B) (h : Rd W R 1 (.slice a n k) (scells ws) n) (h0 : 0 < n) (hn : n ≤ 140737488355328) (hl : ws.flatten.length ≤ 140737488355328) :
    Calls Tryz.prog 16 #[.slice a n k, .string ⟨#[]⟩] W fun e w' => e = .returned (.string (bs ws.flatten)) ∧ Turned (fun _ => False) W w' := by
  have hnl : n = ws.length := by have := h.1; simp [scells] at this; omega
  obtain ⟨g, o, rfl, hg, hc⟩ := h.opens h0
  obtain ⟨-, a', k', hv, hk, -⟩ := h
  injection hv with e1 e2 e3
  subst e3
  have e : (ws.map bs).map (·.data.toList) = ws := by simp [List.map_map, Function.comp_def]
  have := Any.strings_Join Tryz.joinLays jnX g o k (ws.map bs) ⟨#[]⟩ W (fun j x hx => by
    rw [List.getElem?_map] at hx
    obtain ⟨y, hy, rfl⟩ := Option.map_eq_some_iff.1 hx
    have hj := (List.getElem?_eq_some_iff.1 hy).1
    rw [hc j (by omega)]
    simp [scells, hy]) hg (by rw [List.length_map]; omega) (by rw [List.length_map]; omega) (by rw [e]; exact Nat.le_trans (Nat.le_of_eq (by rw [show (⟨#[]⟩ : ByteArray).data.toList = [] from rfl, join_flat])) hl)
  rw [e, List.length_map, ← hnl, show (⟨#[]⟩ : ByteArray).data.toList = [] from rfl, join_flat] at this
  exact this.mono fun e w' q => ⟨q.1, below_turned q.2⟩

/-! ### SplitAfter at the line's end -/
theorem info9' : (Tryz.prog.info? (Tryz.gsLays_ren.t 9)).map (fun i => (i.zero, i.size, i.bytes)) = some (some (.string ByteArray.empty), 1, 16) := by kernel_rfl
def pieces (t : B) : List B := Lib.splitK [10] 1 (t.count 10) t
theorem ixL : Lays.n143 Tryz.prog Tryz.gsLays_ren := { Tryz.gsLays with }
theorem ctL : Lays.n138 Tryz.prog Tryz.gsLays_ren := { Tryz.gsLays with }
theorem split32 (t : B) (ht : t.length ≤ 20000) (w : World) : Calls Tryz.prog 32 #[.string (bs t), .string ⟨#[10]⟩, .int .i64 1, .int .i64 (-1)] w fun e w' =>
    (∃ v, e = .returned v ∧ Sl w' (fun b => w.heap.size ≤ b) 9 1 v (scells (pieces t)) (pieces t).length) ∧ Turned (fun _ => False) w w' := by
  have hcb : Lib.countB (bs t) ⟨#[10]⟩ = t.count 10 := by
    show Lib.count (bs t).data.toList [10] = _
    rw [Lib.count_one, bs_list]
  have hcl := List.count_le_length (a := (10 : UInt8)) (l := t)
  have hN : ((t.count 10 + 1 : Nat) : Int) = min (if (-1 : Int) < 0 then (Lib.countB (bs t) ⟨#[10]⟩ : Int) + 1 else -1) (((bs t).size : Int) + 1) := by
    rw [hcb, bs_size, if_pos (by decide)]; omega
  have c := Any.strings_genSplit_core Tryz.gsLays info9' (bs t) ⟨#[10]⟩ 1 (-1) (t.count 10 + 1) w (by rw [bs_size]; omega) (by decide) (by decide)
    (fun x c hx => (Any.strings_Index_one ixL x 10 _).mono fun e w' q => ⟨by rw [q.1]; show _ = Ending.returned (Value.int .i64 (Lib.index x.data.toList [10])); rw [Lib.index_one], q.2⟩)
    ((Any.strings_Count_one ctL (bs t) 10 w).mono fun e w' q => ⟨by rw [q.1, hcb, bs_list]; rfl, q.2⟩) (by decide) (by decide) hN
  have hlen := Lib.splitB_all ⟨#[10]⟩ (by decide) 1 (t.count 10) (bs t) hcb
  rw [Nat.add_sub_cancel, hlen] at c
  have e2 : Lib.cellsOf (Lib.splitB ⟨#[10]⟩ 1 (t.count 10) (bs t)) (t.count 10 + 1) = ((Lib.splitB ⟨#[10]⟩ 1 (t.count 10) (bs t)).map Value.string).toArray := by rw [← hlen]; exact Lib.cellsOf_full _
  have e3 : (Lib.splitB ⟨#[10]⟩ 1 (t.count 10) (bs t)).map Value.string = scells (pieces t) := by
    have := Lib.splitB_data ⟨#[10]⟩ 1 (t.count 10) (bs t)
    rw [bs_list] at this
    show _ = (Lib.splitK [10] 1 (t.count 10) t).map fun x => Value.string (bs x)
    rw [show ([10] : B) = (⟨#[10]⟩ : ByteArray).data.toList from rfl, ← this, List.map_map]
    refine List.map_congr_left fun x _ => ?_
    simp [bs]
  have e4 : (pieces t).length = t.count 10 + 1 := by
    have := congrArg List.length e3
    rw [List.length_map, hlen] at this
    simp [scells] at this
    omega
  rw [e2, e3] at c
  refine c.mono ?_
  rintro e w' ⟨rfl, rfl⟩
  refine ⟨⟨_, rfl, ?_⟩, Turned.alloc _ _ _⟩
  rw [e4]
  have e5 : (scells (pieces t)).length = t.count 10 + 1 := by simp [scells, e4]
  exact ⟨by omega, .inr ⟨w.heap.size, 0, t.count 10 + 1, (scells (pieces t)).toArray, rfl, Nat.le_refl _, heap_alloc_new w _, Nat.le_refl _, by simp only [maxLen]; omega, by simp; omega, by simp only [List.drop_zero]; exact List.take_of_length_le (by simp; omega)⟩⟩

set_option maxRecDepth 100000 in
theorem split15 (t : B) (ht : t.length ≤ 20000) (w : World) : Calls Tryz.prog 15 #[.string (bs t), .string ⟨#[10]⟩] w fun e w' =>
    (∃ v, e = .returned v ∧ Sl w' (fun b => w.heap.size ≤ b) 9 1 v (scells (pieces t)) (pieces t).length) ∧ Turned (fun _ => False) w w' := by
  have c := split32 t ht w
  generalize bs t = x at *
  generalize scells (pieces t) = y at *
  generalize (pieces t).length = n at *
  clear ht
  go_enter Tryz.func15, Tryz.ntmps15
  go_wp2_with (go_at_call 32; (with_reducible refine c.mono ?_); rintro e w' ⟨⟨v, rfl, h⟩, ht⟩; have H : Hid ((∃ v', (Ending.returned v) = .returned v' ∧ Sl w' (fun b => w.heap.size ≤ b) 9 1 v' y n) ∧ Turned (fun _ => False) w w') := ⟨⟨_, rfl, h⟩, ht⟩; clear h ht c)
  go_ret
  exact H.out
end Go.Proofs.YteblabpplaaddaaGreatDoor

set_option linter.unusedVariables false
set_option linter.unusedSimpArgs false
namespace Go.Mine
open Go.RowKit
theorem Sl.set {w : World} {S : Nat → Prop} {e : TypeId} {size : Nat} {g off cap : Nat} {xs : List Value} {n : Nat} (h : Sl w S e size (.slice (some ⟨g, off, none⟩) n cap) xs n) (j : Nat) (hj : j < n * size) (u : Value) :
    Sl (w.setCell ⟨g, off + j, none⟩ u) S e size (.slice (some ⟨g, off, none⟩) n cap) (xs.set j u) n ∧ Turned S w (w.setCell ⟨g, off + j, none⟩ u) ∧ (w.setCell ⟨g, off + j, none⟩ u).heap.size = w.heap.size := by
  rcases h.2 with ⟨hv, -⟩ | ⟨g2, off2, cap2, cur, hv, hS, hg, hnc, hcm, hcs, ht⟩
  · simp at hv
  · injection hv with e1 e2 e3
    injection e1 with e1
    injection e1 with e4 e5 e6
    subst e4; subst e5; subst e3
    have hmul : n * size ≤ cap * size := Nat.mul_le_mul_right _ hnc
    refine ⟨⟨by simpa using h.1, .inr ⟨g, off, cap, _, rfl, hS, Go.Mine.heap_setCell_same hg u, hnc, hcm, by simpa using hcs, ?_⟩⟩, Turned.setCell hS u, Go.Mine.setCell_size _ _ _⟩
    rw [Array.toList_setIfInBounds, ← ht]
    apply List.ext_getElem?
    intro k
    rw [List.getElem?_take, List.getElem?_drop, List.getElem?_set, List.getElem?_set, List.getElem?_take, List.getElem?_drop]
    have hlen : (List.take (n * size) (List.drop off cur.toList)).length = n * size := by rw [ht]; exact h.1
    by_cases hk : k < n * size
    · rw [if_pos hk, if_pos hk]
      by_cases hkj : j = k
      · subst hkj
        rw [if_pos rfl, if_pos rfl, if_pos (by simp; omega), if_pos (by rw [hlen]; exact hk)]
      · rw [if_neg (by omega), if_neg hkj]
    · rw [if_neg hk, if_neg hk, if_neg (by omega)]

section
variable {P : Program} {w : World} {S : Nat → Prop} {e t tx : TypeId} {size bytes : Nat} {x z : Value} {a : Option Addr} {xs news : List Value} {n m : Nat} {i : TypeInfo}
/-- an append behind a slice without room turns nothing -/
theorem Sl.append_full (h : Sl w S e size (.slice a n n) xs n) (ht : P.underlying t = some (.slice e)) (hi : P.info? e = some i) (hz : i.zero = some z) (hsize : i.size = size) (hby : i.bytes = bytes) (hzs : z.cells.size = size) (hs0 : 0 < size)
    (hsrc : Src P size tx x m news w) (h63 : n + m ≤ maxLen) (hbytes : (n + m) * bytes ≤ 140737488355328) (ty : TypeId) :
    ∃ v' w', (Builtin.append_ #[t, tx] ty #[.slice a n n, x]).run P w = .ok v' w' ∧ Sl w' (More S w) e size v' (xs ++ news) (n + m) ∧ Turned (fun _ => False) w w' := by
  rcases h.2 with ⟨hv, hn⟩ | ⟨g, off, cap, cur, hv, hS, hg, hnc, hcm, hcs, htake⟩
  · have h' : Sl w (fun _ => False) e size (.slice a n n) xs n := ⟨h.1, .inl ⟨hv, hn⟩⟩
    obtain ⟨v', w', r1, r2, r3⟩ := h'.append ht hi hz hsize hby hzs hs0 hsrc h63 hbytes ty
    exact ⟨v', w', r1, r2.widen fun b q => .inr (q.elim (fun q => q.elim) id), r3⟩
  · injection hv with e1 e2 e3
    subst e1; subst e3
    subst hsize
    subst hby
    by_cases hm : m = 0
    · subst hm
      have hn : news = [] := List.eq_nil_of_length_eq_zero (by simpa using hsrc.newsLen)
      subst hn
      exact ⟨_, _, run_append_nothing w t tx ty e i ht hi _ n n (Nat.le_refl _) x hsrc, by rw [List.append_nil]; exact h.widen fun b q => .inl q, Turned.refl _ _⟩
    · have hlen : (xs ++ news).length = (n + m) * i.size := by rw [List.length_append, h.1, hsrc.newsLen, Nat.add_mul]
      have hge := grownCap_ge w (n + m) n e
      have hcm : grownCap w (n + m) n e ≤ maxLen := grownCap_le_maxLen w (n + m) n e h63
      have hold : (Builtin.firstCells i.size n (.slice (some ⟨g, off, none⟩) n n)).run P w.drew = .ok xs.toArray w.drew := by
        refine run_firstCells_some w.drew i.size n ⟨g, off, none⟩ n n xs h.1 fun j u hu => ?_
        have hj : j < n * i.size := by rw [← h.1]; exact (List.getElem?_eq_some_iff.1 hu).1
        rw [← htake, List.getElem?_take, if_pos hj, List.getElem?_drop] at hu
        rw [Addr.add_lit]
        simpa [World.cell?, heap_drew, hg] using hu
      have hr := run_append_grow_src (P := P) w t tx ty e i z ht hi hz _ n n xs hold x m news hsrc (by omega) (by simp only [maxLen] at h63; omega) (growslice_fits (by omega) hbytes)
      refine ⟨_, _, hr, ⟨hlen, .inr ⟨w.heap.size, 0, _, _, rfl, .inr (Nat.le_refl _), Go.Mine.heap_alloc_new w.drew _, hge, hcm, ?_, ?_⟩⟩, (Turned.drew _ w).new _⟩
      · simp only [Array.size_append, List.size_toArray, size_zeroCells, hzs, hlen, Nat.zero_add, ← Nat.add_mul]
        exact Nat.le_of_eq (by congr 1; omega)
      · rw [List.drop_zero, Array.toList_append, ← hlen]
        exact List.take_left
theorem wpList_append_full {ops : Array Oper} {rest : List Oper} {o : Oper} {a0 : Act} {Q : Exit → Act → World → Prop} (hgd : o.guard = none) (so xo : Operand) (t tx : TypeId)
    (ho : o.op = .call { callee := .builtin .append, args := #[so, xo], argTypes := #[t, tx] })
    (h : Sl w S e size (.slice a n n) xs n) (ht : P.underlying t = some (.slice e)) (hinf : (P.info? e).map (fun i => (i.zero, i.size, i.bytes)) = some (some z, size, bytes)) (hzs : z.cells.size = size) (hs0 : 0 < size)
    (hs : a0.eval so = .slice a n n) (x : Value) (hx : a0.eval xo = x) (hsrc : Src P size tx x m news w) (h63 : n + m ≤ maxLen) (hbytes : (n + m) * bytes ≤ 140737488355328)
    (hK : ∀ v' w', Sl w' (More S w) e size v' (xs ++ news) (n + m) → Turned (fun _ => False) w w' → wpList P ops Q rest (a0.put o.dst v') w') : wpList P ops Q (o :: rest) a0 w := by
  obtain ⟨i, hi, hz0, hz1, hz2⟩ := info_parts hinf
  refine wpList_plain hgd fun K' hK' => ?_
  obtain ⟨v', w', hrun, r1, r2⟩ := h.append_full ht hi hz0 hz1 hz2 hzs hs0 hsrc h63 hbytes o.type
  unfold Oper.wp
  simp [execOp, ho, resolve, invoke, builtin, hs, hx, hrun, Result.andThen]
  exact hK' _ _ (hK v' w' r1 r2)
end
end Go.Mine
namespace Go.Proofs.YteblabpplaaddaaGreatDoor
open Go.RowKit Go.Mine Go.Mine.Sc

theorem Sl.full {w : World} {S : Nat → Prop} {e : TypeId} {size : Nat} {a : Option Addr} {n cap : Nat} {xs : List Value} (h : Sl w S e size (.slice a n cap) xs n) : Sl w S e size (.slice a n n) xs n := by
  refine ⟨h.1, ?_⟩
  rcases h.2 with ⟨hv, hn⟩ | ⟨g, off, cap', cur, hv, hS, hg, hnc, hcm, hcs, htake⟩
  · injection hv with e1 e2 e3
    subst e1; subst e2
    exact .inl ⟨rfl, rfl⟩
  · injection hv with e1 e2 e3
    subst e1
    have := Nat.mul_le_mul_right size hnc
    exact .inr ⟨g, off, n, cur, rfl, hS, hg, Nat.le_refl _, by omega, by omega, htake⟩
set_option maxRecDepth 100000 in
theorem cut_full {a : Option Addr} {n cap : Nat} (h : n ≤ cap) (W : World) : (Instr.slice 29 (.slice a n cap) none (some (.int .i64 n)) (some (.int .i64 n))).run Tryz.prog W = .ok (.slice a n n) W := by
  obtain ⟨i, hi, hz0, hz1, hz2⟩ := info_parts info39'
  simp [Instr.slice, Instr.sliceBounds, Instr.sliceBound, asIntOf, run_underlying Tryz.underlying29, sizeOf, typeInfo, hi, h, Result.andThen]
  intro _
  cases a with
  | none => rfl
  | some ad => simp [Addr.add]
set_option maxRecDepth 100000 in
theorem bytes_to {a : Option Addr} {n cap : Nat} (h : n ≤ cap) (j : Nat) (hj : j ≤ n) (W : World) : (Instr.slice 26 (.slice a n cap) none (some (.int .i64 j)) none).run Tryz.prog W = .ok (.slice a j cap) W := by
  obtain ⟨i, hi, hz0, hz1, hz2⟩ := info_parts info5
  have hjc : j ≤ cap := by omega
  simp [Instr.slice, Instr.sliceBounds, Instr.sliceBound, asIntOf, run_underlying Tryz.underlying26, sizeOf, typeInfo, hi, hjc, Result.andThen]
  intro _
  cases a with
  | none => rfl
  | some ad => simp [Addr.add]
theorem CmdsX.app {w : World} {S : Nat → Prop} : ∀ {l m : List Cmd} {xs ys : List Value}, CmdsX w S l xs → CmdsX w S m ys → CmdsX w S (l ++ m) (xs ++ ys)
  | [], _, _, _, h, h2 => by subst h; exact h2
  | _ :: _, _, _, _, ⟨cs, rest, h1, h3, h4⟩, h2 => ⟨cs, rest ++ _, by rw [h1, List.append_assoc], h3, h4.app h2⟩
theorem CmdsX.one {w : World} {S : Nat → Prop} : ∀ {l : List Cmd} {xs : List Value}, CmdsX w S l xs → ∀ u ∈ xs, u.oneCell' = true
  | [], _, h, u, hu => by subst h; simp at hu
  | _ :: _, _, ⟨cs, rest, h1, h3, h4⟩, u, hu => by
    subst h1
    rcases List.mem_append.1 hu with h | h
    · exact h3.one u h
    · exact h4.one u h
theorem scells_set (ls : List B) (k : Nat) (z : B) : scells (ls.set k z) = (scells ls).set k (.string (bs z)) := by simp [scells, List.map_set]
end Go.Proofs.YteblabpplaaddaaGreatDoor

set_option linter.unusedVariables false
set_option linter.unusedSimpArgs false
namespace Go.Proofs.YteblabpplaaddaaGreatDoor
open Go.RowKit Go.Mine Go.Mine.Sc

theorem small_sum {x y : ByteArray} {n m : Nat} (h : x.size = n) (hn : n ≤ 10) (h2 : y.size = m) (hm : m ≤ 1000000) : ¬ 9223372036854775807 < x.size + y.size := by omega
theorem nat_par {i k : Nat} (h : i % 2 = k) : (i : Int) % 2 = (k : Int) := by omega
def seqFst : Code → Code | .seq x _ => x | c => c
theorem pieces_len (t : B) : (pieces t).length = t.count 10 + 1 := by
  have hcb : Lib.countB (bs t) ⟨#[10]⟩ = t.count 10 := by
    show Lib.count (bs t).data.toList [10] = _
    rw [Lib.count_one, bs_list]
  have h1 := Lib.splitB_all ⟨#[10]⟩ (by decide) 1 (t.count 10) (bs t) hcb
  have h2 := congrArg List.length (Lib.splitB_data ⟨#[10]⟩ 1 (t.count 10) (bs t))
  rw [List.length_map, h1, bs_list] at h2
  exact h2.symm
theorem flat_short {a : B} {i : Nat} {ls : List B} (h : Pieces a i ls) (h1 : a.length ≤ 20000) (hi : i ≤ 100) : ls.flatten.length ≤ 1000000 := by
  have := h.2.2.2.1
  omega
theorem pieces_short {a : B} {i k : Nat} {ls : List B} {y : B} (h : Pieces a i ls) (hk : ls[k]? = some y) (h1 : a.length ≤ 20000) (hi : i ≤ 100) : y.length ≤ 1000000 := by
  have := flat_short h h1 hi
  have : y.length ≤ ls.flatten.length := by
    obtain ⟨l1, l2, rfl⟩ := List.append_of_mem (List.mem_of_getElem? hk)
    simp; omega
  omega
theorem between_cases {p b : B} (h : Cl p ∧ p.length ≤ 16385 ∧ p.count 10 ≤ 401 ∧ b.length ≤ 16384 ∧ p.count 10 + b.count 10 ≤ 401) :
    (∃ l m, parseS 5 14 p = (l, 0) ∧ parseS 5 14 b = (m, 0) ∧ parseS 5 14 (p ++ b) = (l ++ m, 0)) ∨ (∃ l ea m eb, parseS 5 14 p = (l, ea) ∧ parseS 5 14 b = (m, eb) ∧ ¬ (ea = 0 ∧ eb = 0) ∧ parseS 5 14 (p ++ b) = ([], 14)) := by
  obtain ⟨hc, h1, h2, h3, h4⟩ := h
  rw [parse_short (t := p) (short_of (by omega) (by omega)), parse_short (t := b) (short_of (by omega) (by omega)), parse_app hc (by omega) (by omega) (by omega)]
  cases pLines (parts p) with
  | none => cases pLines (parts b) with
    | none => exact .inr ⟨[], 14, [], 14, rfl, rfl, by decide, rfl⟩
    | some m => exact .inr ⟨[], 14, m, 0, rfl, rfl, by decide, rfl⟩
  | some l => cases pLines (parts b) with
    | none => exact .inr ⟨l, 0, [], 14, rfl, rfl, by decide, rfl⟩
    | some m => exact .inl ⟨l, m, rfl, rfl, rfl⟩
/-- the cells of two lists, ahead of an append -/
theorem two_lists {w : World} {S T : Nat → Prop} {a7 a9 : Option Addr} {k7 k9 : Nat} {l m : List Cmd} (h1 : CmdsAt w S 39 (.slice a7 l.length k7) l) (h2 : CmdsAt w T 39 (.slice a9 m.length k9) m) :
    ∃ xs ys, Hid (l.length ≤ k7 ∧ Sl w S 39 11 (.slice a7 l.length l.length) xs l.length ∧ Src Tryz.prog 11 29 (.slice a9 m.length k9) m.length ys w ∧ CmdsX w (fun _ => True) (l ++ m) (xs ++ ys)) := by
  obtain ⟨xs, R, r1, r2, r3⟩ := h1
  obtain ⟨ys, Q, q1, q2, q3⟩ := h2
  obtain ⟨a, cap, hv, hle, -⟩ := r2.value
  injection hv with e1 e2 e3
  subst e3
  exact ⟨xs, ys, hle, Sl.full (r2.widen r1), q2.src Tryz.underlying29 q3.r.one, (r3.r.widen fun _ _ => trivial).app (q3.r.widen fun _ _ => trivial)⟩
theorem two_end {w w4 w5 : World} {S T U V : Nat → Prop} {a79 a7 a9 a11 : Option Addr} {k79 k7 k9 k11 n : Nat} {l m : List Cmd} {xs ys : List Value} (hx : CmdsX w4 (fun _ => True) (l ++ m) (xs ++ ys))
    (q : Sl w5 S 39 11 (.slice a79 n k79) (xs ++ ys) (l.length + m.length)) (t : Turned (fun _ => False) w4 w5)
    (h : CmdsAt w4 T 39 (.slice a7 l.length k7) l ∧ CmdsAt w4 U 39 (.slice a9 m.length k9) m ∧ CmdsAt w4 V 39 (.slice a11 (l ++ m).length k11) (l ++ m) ∧ Turned (fun _ => False) w w4) :
    CmdsR w5 (fun b => b < w5.heap.size) (.slice a79 (l.length + m.length) k79) (l ++ m) ∧ CmdsR w5 (fun _ => True) (.slice a11 (l ++ m).length k11) (l ++ m) ∧ CmdsR w5 (fun _ => True) (.slice a7 l.length k7) l ∧ Turned (fun _ => False) w w5 := by
  have hn : n = l.length + m.length := by obtain ⟨a, c, hv, -, -⟩ := q.value; injection hv
  subst hn
  have e : CmdsR w5 (fun _ => True) (.slice a79 (l.length + m.length) k79) (l ++ m) := ⟨xs ++ ys, by rw [List.length_append]; exact q.rd.widen fun _ _ => trivial, hx.turned t fun _ _ q => q⟩
  exact ⟨e.bound.widen fun _ q => q.2, (h.2.2.1.r.turned t fun _ _ q => q).any, (h.1.r.turned t fun _ _ q => q).any, h.2.2.2.trans t fun _ _ q => q⟩
/-- between two rounds of the loop that lays lines between -/
def BwR (W : World) (p : B) (N : Nat) (a16 : Option Addr) (k16 m g : Nat) (v : Value) (wr : World) : Prop :=
  ∃ (i : Nat) (ls : List B), v = .int .i64 (i : Nat) ∧ i + g = m ∧ Pieces p i ls ∧ ls.length = N ∧ Sl wr (fun b => W.heap.size ≤ b) 9 1 (.slice a16 N k16) (scells ls) N ∧ Turned (fun _ => False) W wr

set_option maxRecDepth 200000 in
set_option maxHeartbeats 8000000 in
theorem between_tail2 (w : World) (Q : Exit → Act → World → Prop) (HQ0 : Hid (Q = (bodyPost Tryz.prog Tryz.f5 (fun e w' => e = .returned (.bool true) ∧ Turned (fun _ => False) w w')))) (K : Act → World → Prop) (hK : ∀ a w, (seqSnd (seqSnd (seqSnd (seqSnd (seqSnd (seqSnd (seqSnd (seqSnd (seqSnd (Tryz.f5.body.getD .skip)))))))))).wp Tryz.prog Q a w → K a w) (PA : Hid (∀ W x l' (n : Nat), Turned (fun _ => False) w W → x.length ≤ 4611686018427387904 → parseS 5 14 x = (l', n) → Calls Tryz.prog 12 #[.string (bs x)] W fun e w' => (∃ v, e = .returned (.tuple #[v, .int .i64 (n : Nat)]) ∧ CmdsAt w' (fun b => W.heap.size ≤ b) 39 v l') ∧ Turned (fun _ => False) W w'))
    (ps : List Nat) (S : Nat → Prop) (a2 : Option Addr) (n2 c2 m2 : Nat) (HPS : Hid (ps.length = n2 ∧ (∀ p ∈ ps, p < 256) ∧ Rd w S 1 (.slice a2 n2 c2) (ps.map fun p => Value.int .u8 ((p : Nat) : Int)) n2))
    (HM2 : Hid (m2 ≤ n2 ∧ min (n2 : Int) 100 = (m2 : Int) ∧ m2 ≤ 100)) (RUN : Hid (∀ W, (Instr.slice 26 (.slice a2 n2 c2) none (some (.int .i64 m2)) none).run Tryz.prog W = .ok (.slice a2 m2 c2) W))
    (p b : B) (HP : Hid (Cl p ∧ p.length ≤ 16385 ∧ p.count 10 ≤ 401 ∧ b.length ≤ 16384 ∧ p.count 10 + b.count 10 ≤ 401)) (z0 zb : ByteArray) (HZ : Hid (z0 = bs p ∧ zb = bs b))
    (l : List Cmd) (ea : Nat) (HPE : Hid (parseS 5 14 p = (l, ea))) (W : World) (a7 : Option Addr) (k7 : Nat) (X5C : Hid (CmdsR W (fun _ => True) (.slice a7 l.length k7) l ∧ Turned (fun _ => False) w W))
    (x1 x3 x4 x5 x6 x9 x10 x11 x12 x13 x14 x15 x16 x17 x18 x19 x20 x21 x22 x23 x24 x25 x26 x27 x28 x29 x30 x31 x32 x33 x34 x35 x36 x37 x38 x39 x40 x41 x42 x43 x44 x45 x46 x47 x48 x49 x50 x51 x52 x53 x54 x55 x56 x57 x58 x59 x60 x61 x62 x63 x64 x65 x66 x67 x68 x69 x70 x71 x72 x73 x74 x75 x76 x77 x78 x79 x80 x81 x82 x83 x84 x85 x86 x87 x88 x89 x90 x91 x92 x93 x94 x95 x96 x97 x98 x99 x100 x101 x102 x103 x104 x105 x106 x107 x108 x109 x110 x111 x112 x113 x114 x115 x116 x117 x118 x119 x120 x121 x122 x123 x124 x125 x126 x127 x128 x129 x130 x131 x132 x133 x134 x135 x136 x137 x138 x139 x140 x141 x142 x143 x144 x145 x146 x147 x148 x149 x150 x151 x152 x153 x154 x155 x156 x157 x158 x159 x160 x161 x162 x163 x164 : Value) :
    (seqFst (seqSnd (seqSnd (seqSnd (seqSnd (seqSnd (seqSnd (seqSnd (seqSnd (Tryz.f5.body.getD .skip)))))))))).wp Tryz.prog (Exit.then K Q) { tmps := #[.string z0, x1, .slice a2 n2 c2, x3, x4, x5, x6, .slice a7 l.length k7, .int .i64 ((ea : Nat) : Int), x9, x10, x11, x12, x13, x14, x15, x16, x17, x18, x19, x20, x21, x22, x23, x24, x25, x26, x27, x28, x29, x30, x31, x32, x33, x34, x35, x36, x37, x38, x39, x40, x41, x42, x43, x44, x45, x46, x47, x48, x49, x50, x51, x52, x53, x54, x55, x56, x57, x58, x59, x60, x61, x62, x63, x64, x65, x66, x67, x68, x69, x70, x71, x72, x73, x74, x75, x76, x77, x78, x79, x80, x81, x82, x83, x84, x85, x86, x87, x88, x89, x90, x91, x92, x93, x94, x95, x96, x97, x98, x99, x100, x101, x102, x103, x104, x105, x106, x107, x108, x109, x110, x111, x112, x113, x114, x115, x116, x117, x118, x119, x120, x121, x122, x123, x124, x125, x126, x127, x128, x129, x130, x131, x132, x133, x134, x135, x136, x137, x138, x139, x140, x141, x142, x143, x144, x145, x146, x147, x148, x149, x150, x151, x152, x153, x154, x155, x156, x157, x158, x159, x160, x161, x162, x163, x164], defers := [] } W := by
  dsimp only [Tryz.f5, seqSnd, seqFst, Option.getD] at hK ⊢
  obtain ⟨N, hN⟩ : ∃ N, N = (pieces p).length := ⟨_, rfl⟩
  have D15 := split15 p (by have := HP.out.2.1; omega) W
  rw [← hN, ← HZ.out.1] at D15
  have HNN : Hid (N = (pieces p).length ∧ 0 < N ∧ N ≤ 402) := hidS ⟨hN, by rw [hN, pieces_len]; omega, by rw [hN, pieces_len]; have := HP.out.2.2.1; omega⟩
  clear hN
  have hmn := HM2.out.2.1
  have hrun := RUN.out
  go_upto_region 23 with (go_at_call 15; (with_reducible refine D15.mono ?_); rintro e w6 ⟨⟨v16, rfl, s16⟩, t16⟩
                          obtain ⟨a16, k16, rfl, -, -⟩ := s16.value
                          have X6 : Hid (Sl w6 (fun b => W.heap.size ≤ b) 9 1 (.slice a16 N k16) (scells (pieces p)) N ∧ Turned (fun _ => False) W w6) := ⟨s16, t16⟩
                          clear s16 t16 D15)
  clear hmn hrun
  have B2 : Hid (BwR W p N a16 k16 m2 m2 (.int .i64 0) w6) := ⟨0, pieces p, rfl, by omega, pieces_split _ _, HNN.out.1.symm, X6.out.1, X6.out.2⟩
  go_loopg [109] m2 (fun g v wr => BwR W p N a16 k16 m2 g v wr)
  case atStart => exact B2.out
  case round =>
    obtain ⟨i, ls, rfl, hig, hpi, hll, hsl, ht⟩ := hrel
    have G : Hid (i + gk = m2 ∧ Pieces p i ls ∧ ls.length = N ∧ Turned (fun _ => False) W wr) := ⟨hig, hpi, hll, ht⟩
    have D : Hid (True ∧ Sl wr (fun b => W.heap.size ≤ b) 9 1 (.slice a16 N k16) (scells ls) N) := ⟨trivial, hsl⟩
    clear hig hpi hll hsl ht B2
    by_cases hlt : i < m2
    · have HLT : Hid (i < m2 ∧ m2 ≤ 100) := ⟨hlt, HM2.out.2.2⟩
      obtain ⟨q, hq⟩ : ∃ q, ps[i]? = some q := ⟨_, List.getElem?_eq_getElem (by have := HM2.out.1; have := HM2.out.2.2; have := HPS.out.1; omega)⟩
      have HQ : Hid (q < 256) := HPS.out.2.1 q (List.mem_of_getElem? hq)
      obtain ⟨gp, op, rfl, hlp, hcp⟩ := (HPS.out.2.2.turned (X5C.out.2.trans G.out.2.2.2 fun _ _ q => q) fun _ _ q => q).opens (by have := HM2.out.1; omega)
      have kp : wr.cell? ⟨gp, op + i, none⟩ = some (.int .u8 (q : Nat)) := by
        rw [hcp i (by have := HM2.out.1; omega), List.getElem?_map, hq]; rfl
      obtain ⟨r, hr⟩ : ∃ r, r = q % N := ⟨_, rfl⟩
      have HK : Hid (r < N) := hidS (hr ▸ Nat.mod_lt _ HNN.out.2.1)
      obtain ⟨y, hy⟩ : ∃ y, ls[r]? = some y := ⟨_, List.getElem?_eq_getElem (by have := G.out.2.2.1; have := HK.out; omega)⟩
      have HY : Hid (ls[r]? = some y) := hy
      have YL : Hid (y.length ≤ 1000000) := hidS (pieces_short G.out.2.1 hy (by have := HP.out.2.1; omega) (by have := HLT.out; omega))
      obtain ⟨g16, o16, cap', hv16, hS16, -, -, hc16, f16, hl16⟩ := D.out.2.opens HNN.out.2.1
      injection hv16 with e1 e2 e3
      subst e1; subst e3
      have k16' : wr.cell? ⟨g16, o16 + r, none⟩ = some (.string (bs y)) := by
        rw [hc16 r (by have := HK.out; omega), scells, List.getElem?_map, hy]; rfl
      clear hcp hc16 hq hy
      have hd1 : decide ((i : Int) < (m2 : Int)) = true := by simp; omega
      have hd2 : decide (i < m2) = true := by simp; omega
      have hr5 : (q : Int) % (N : Int) = (r : Int) := by rw [hr]; exact (Int.natCast_emod q N).symm
      have hr1 : Int.tmod (q : Int) (N : Int) = (r : Int) := by rw [Int.tmod_eq_emod_of_nonneg (Int.natCast_nonneg q)]; exact hr5
      have hr6 : r < N := HK.out
      have HR : Hid (r = q % N) := hr
      clear hr
      have hnz : ¬ (N = 0) := by have := HNN.out.2.1; omega
      have hnz2 : ¬ ((N : Int) = 0) := by have := HNN.out.2.1; omega
      have hr0 : ((N : Int) == 0) = false := by have := HNN.out.2.1; simp; omega
      have hr3 : decide (r < N) = true := by have := HK.out; simp; omega
      have hr2 : wrap64 (q : Int) = (q : Int) := w64_in _ (by have := HQ.out; omega)
      have hr4 : wrap64 ((r : Nat) : Int) = ((r : Nat) : Int) := w64_in _ (by have := HK.out; have := HNN.out; omega)
      have HW : Hid (wrap64 ((i : Int) + 1) = ((i + 1 : Nat) : Int)) := hidS (w64_in _ (by have := HLT.out; omega))
      rcases Nat.mod_two_eq_zero_or_one i with hi2 | hi2
      · have HC : Hid ((bs ([10] ++ y)) = ⟨#[10]⟩ ++ bs y) := hidS (bs_append [10] y).symm
        have cs1 : ¬ 9223372036854775807 < (⟨#[10]⟩ : ByteArray).size + (bs y).size := small_sum rfl (by decide) (bs_size y) YL.out
        have hpar : Int.tmod (i : Int) 2 = 0 := by rw [Int.tmod_eq_emod_of_nonneg (Int.natCast_nonneg i)]; exact nat_par hi2
        have SS := D.out.2.set r (by rw [Nat.mul_one]; exact HK.out) (.string (bs ([10] ++ y)))
        rw [HC.out] at SS
        have HSS : Hid (Sl (wr.setCell ⟨g16, o16 + r, none⟩ (.string (⟨#[10]⟩ ++ bs y))) (fun b => W.heap.size ≤ b) 9 1 (.slice (some ⟨g16, o16, none⟩) N k16) ((scells ls).set r (.string (⟨#[10]⟩ ++ bs y))) N ∧ Turned (fun b => W.heap.size ≤ b) wr (wr.setCell ⟨g16, o16 + r, none⟩ (.string (⟨#[10]⟩ ++ bs y)))) := ⟨SS.1, SS.2.1⟩
        clear SS
        generalize bs y = xy at *
        go_wp2
        go_roundg (gk - 1)
        case measure => have := G.out; have := HLT.out; omega
        case rel => exact ⟨i + 1, ls.set r ([10] ++ y), by rw [HW.out], by have := G.out; have := HLT.out; omega, pieces_set G.out.2.1 HY.out void0, by rw [List.length_set]; exact G.out.2.2.1, by rw [scells_set, HC.out]; exact HSS.out.1, G.out.2.2.2.comp HSS.out.2 fun b hb z => z.elim id fun z => by omega⟩
      · have HC : Hid ((bs ([35, 32, 34, 92, 120, 255, 10] ++ y)) = ⟨#[35, 32, 34, 92, 120, 255, 10]⟩ ++ bs y) := hidS (bs_append [35, 32, 34, 92, 120, 255, 10] y).symm
        have cs1 : ¬ 9223372036854775807 < (⟨#[35, 32, 34, 92, 120, 255, 10]⟩ : ByteArray).size + (bs y).size := small_sum rfl (by decide) (bs_size y) YL.out
        have hpar : Int.tmod (i : Int) 2 = 1 := by rw [Int.tmod_eq_emod_of_nonneg (Int.natCast_nonneg i)]; exact nat_par hi2
        have SS := D.out.2.set r (by rw [Nat.mul_one]; exact HK.out) (.string (bs ([35, 32, 34, 92, 120, 255, 10] ++ y)))
        rw [HC.out] at SS
        have HSS : Hid (Sl (wr.setCell ⟨g16, o16 + r, none⟩ (.string (⟨#[35, 32, 34, 92, 120, 255, 10]⟩ ++ bs y))) (fun b => W.heap.size ≤ b) 9 1 (.slice (some ⟨g16, o16, none⟩) N k16) ((scells ls).set r (.string (⟨#[35, 32, 34, 92, 120, 255, 10]⟩ ++ bs y))) N ∧ Turned (fun b => W.heap.size ≤ b) wr (wr.setCell ⟨g16, o16 + r, none⟩ (.string (⟨#[35, 32, 34, 92, 120, 255, 10]⟩ ++ bs y)))) := ⟨SS.1, SS.2.1⟩
        clear SS
        generalize bs y = xy at *
        go_wp2
        go_roundg (gk - 1)
        case measure => have := G.out; have := HLT.out; omega
        case rel => exact ⟨i + 1, ls.set r ([35, 32, 34, 92, 120, 255, 10] ++ y), by rw [HW.out], by have := G.out; have := HLT.out; omega, pieces_set G.out.2.1 HY.out void1, by rw [List.length_set]; exact G.out.2.2.1, by rw [scells_set, HC.out]; exact HSS.out.1, G.out.2.2.2.comp HSS.out.2 fun b hb z => z.elim id fun z => by omega⟩
    · have hd1 : decide ((i : Int) < (m2 : Int)) = false := by simp; omega
      have hd2 : decide (i < m2) = false := by simp; omega
      have FL := flat_short G.out.2.1 (by have := HP.out.2.1; omega) (by have := G.out.1; have := HM2.out.2.2; omega)
      have D16 := join_none wr _ a16 N k16 ls D.out.2.rd HNN.out.2.1 (by have := HNN.out; omega) (by omega)
      have HPF : Hid (parseS 5 14 ls.flatten = (l, ea) ∧ ls.flatten.length ≤ 1000000) := hidS ⟨by rw [parse_pieces G.out.2.1 (by have := HP.out.2.1; omega) (by have := HP.out.2.2.1; omega) (by have := G.out.1; have := HM2.out.2.2; omega)]; exact HPE.out, FL⟩
      obtain ⟨xf, hxf⟩ : ∃ xf, xf = bs ls.flatten := ⟨_, rfl⟩
      have HXF : Hid (xf = bs ls.flatten) := hxf
      rw [← hxf] at D16
      obtain ⟨n3, hn3⟩ : ∃ n3, n3 = l.length := ⟨_, rfl⟩
      have HN3 : Hid (n3 = l.length ∧ n3 ≤ 1024) := hidS ⟨hn3, by rw [hn3]; exact parse_len HPE.out⟩
      have HL8 : Hid (l.length ≤ 1024) := parse_len HPE.out
      have XW : Hid (Turned (fun _ => False) w wr ∧ CmdsR wr (fun _ => True) (.slice a7 l.length k7) l) := hidS ⟨X5C.out.2.trans G.out.2.2.2 fun _ _ q => q, X5C.out.1.turned G.out.2.2.2 fun _ _ q => q⟩
      clear hlt hxf hn3 FL
      go_upto_region 33 with (first
        | (go_at_call 16; (with_reducible refine D16.mono ?_); rintro e w7 ⟨rfl, t7⟩
           have X7 : Hid (Turned (fun _ => False) w w7 ∧ CmdsR w7 (fun _ => True) (.slice a7 l.length k7) l) := hidS ⟨XW.out.1.trans t7 fun _ _ q => q, XW.out.2.turned t7 fun _ _ q => q⟩
           have D12f := PA.out w7 ls.flatten l ea X7.out.1 (Nat.le_trans HPF.out.2 (by decide)) HPF.out.1
           rw [← HXF.out] at D12f
           clear t7 D16)
        | (go_at_call 12; (with_reducible refine D12f.mono ?_); rintro e w8 ⟨⟨v8, rfl, c8⟩, t8⟩
           obtain ⟨a8, k8, rfl⟩ := c8.value
           have X8 : Hid (CmdsR w8 (fun _ => True) (.slice a8 l.length k8) l ∧ CmdsR w8 (fun _ => True) (.slice a7 l.length k7) l ∧ Turned (fun _ => False) w w8) := hidS ⟨c8.r.any, X7.out.2.turned t8 fun _ _ q => q, X7.out.1.trans t8 fun _ _ q => q⟩
           have X8S : Hid (CmdsR w8 (fun b => b < w8.heap.size) (.slice a7 l.length k7) l) := hidS (X8.out.2.1.bound.widen fun _ q => q.2)
           clear c8 t8 D12f))
      have B3 : Hid (BuR w8 40 l n3 (.slice none 0 0) (.int .i64 0) w8) := ⟨0, rfl, by have := HN3.out; omega, Lst.nil _ _ _, Turned.refl _ _⟩
      rw [← HN3.out.1]
      go_loopg [22, 147] n3 (fun g v5 vi wr => BuR w8 40 l g v5 vi wr)
      case atStart => exact B3.out
      case round =>
        obtain ⟨k, rfl, hkg, hl5, ht⟩ := hrel
        obtain ⟨a5, k5, rfl⟩ := hl5.value
        have hlk : (l.take k).length = k := by rw [List.length_take]; omega
        rw [hlk] at hl5 ⊢
        have G : Hid (k + gk = l.length ∧ Lst w8.heap.size wr 40 (.slice a5 k k5) (l.take k) ∧ Turned (fun _ => False) w8 wr ∧ (l.take k).length = k) := ⟨hkg, hl5, ht, hlk⟩
        clear hkg hl5 ht hlk B3
        by_cases hlt : k < n3
        · obtain ⟨c, hc⟩ : ∃ c, l[k]? = some c := ⟨_, List.getElem?_eq_getElem (by have := HN3.out; omega)⟩
          obtain ⟨g1, o1, cs, rfl, l1, v1, e1⟩ := (X8S.out.turned G.out.2.2.1 fun _ _ q => q).elem hc
          have HC : Hid (l[k]? = some c) := hc
          have V1 : Hid (CmdR wr (fun b => b < w8.heap.size) c cs) := v1
          have M13 : Hid (∀ W, Turned (fun _ => False) wr W → Calls Tryz.prog 13 #[.agg cs] W fun e w' => e = .returned (.agg cs) ∧ Turned (fun _ => False) W w') := hidS fun W t => its_cmd W _ c cs (v1.turned t fun _ _ q => q)
          obtain ⟨xs, HX⟩ : ∃ xs, Hid (Sl wr (fun b => w8.heap.size ≤ b) 40 11 (.slice a5 k k5) xs k ∧ CmdsX wr (fun b => b < w8.heap.size) (l.take k) xs) := by
            obtain ⟨xs, q1, q2⟩ := G.out.2.1
            rw [G.out.2.2.2] at q1
            exact ⟨xs, q1, q2⟩
          obtain ⟨x1, y1, x4, y4, x9, y9, rfl, -, -, -⟩ := v1
          have hd1 : decide ((k : Int) < (n3 : Int)) = true := by simp; omega
          have hd2 : decide (k < n3) = true := by simp; omega
          have HLT : Hid (k < n3 ∧ n3 ≤ 1024) := ⟨hlt, HN3.out.2⟩
          have HW : Hid (wrap64 ((k : Int) + 1) = ((k + 1 : Nat) : Int)) := hidS (w64_in _ (by have := HLT.out; omega))
          have c6 : Hid (k + 1 ≤ maxLen ∧ (k + 1) * 160 ≤ 140737488355328) := hidS ⟨by have := HLT.out; simp only [maxLen]; omega, by have := HLT.out; omega⟩
          have p0 := e1 0 (by decide); have p1 := e1 1 (by decide); have p2 := e1 2 (by decide); have p3 := e1 3 (by decide); have p4 := e1 4 (by decide); have p5 := e1 5 (by decide); have p6 := e1 6 (by decide); have p7 := e1 7 (by decide); have p8 := e1 8 (by decide); have p9 := e1 9 (by decide); have p10 := e1 10 (by decide)
          simp only [List.getElem?_toArray, List.getElem?_cons_zero, List.getElem?_cons_succ, Nat.add_zero] at p0 p1 p2 p3 p4 p5 p6 p7 p8 p9 p10
          clear e1 hc
          go_wp2_with (first
            | (go_at_call 13; (with_reducible refine (M13.out _ (Turned.alloc _ _ _)).mono ?_); rintro e w3 ⟨rfl, ht3⟩
               have T3 : Hid (Turned (fun _ => False) wr w3) := (Turned.alloc _ _ _).trans ht3 fun _ _ q => q
               have S6 : Hid (∀ o, Sl (w3.alloc o) (fun b => w8.heap.size ≤ b) 40 11 (.slice a5 k k5) xs k) := hidS fun o => (HX.out.1.turned T3.out fun _ _ q => q).turned (Turned.alloc (fun _ => False) w3 o) fun _ _ q => q
               clear ht3)
            | (at_builtin; refine wpList_append rfl _ _ 33 33 rfl (S6.out _) Tryz.underlying33 info40' rfl (by decide) rfl (.slice (some ⟨w3.heap.size, 0, none⟩) 1 1) rfl (src_x w3 Tryz.underlying33 _ V1.out) c6.out.1 c6.out.2 ?_; intro x9 w9 q9 t9; obtain ⟨a7, cap7, hv7, -, -⟩ := q9.value; subst hv7; have Q9 := hid_two q9 t9; clear q9 t9))
          go_roundg (gk - 1)
          case measure => have := G.out; have := HLT.out; have := HN3.out; omega
          case rel => exact BuR.next HC.out (by rw [HW.out]) (by have := G.out; have := HLT.out; have := HN3.out; omega) HX.out.2 V1.out G.out.2.2.1 (T3.out.trans (Turned.alloc _ _ _) fun _ _ q => q) (by rw [G.out.2.2.2]; exact Q9.out.1) Q9.out.2
        · have hd1 : decide ((k : Int) < (n3 : Int)) = false := by simp; omega
          have hd2 : decide (k < n3) = false := by simp; omega
          have HE : Hid (l.take k = l ∧ k = l.length) := hidS ⟨List.take_of_length_le (by have := HN3.out; omega), by have := HN3.out; have := G.out; omega⟩
          have hl9 := G.out.2.1
          rw [HE.out.1] at hl9
          have END3 : Hid (Lst w8.heap.size wr 40 (.slice a5 k k5) l ∧ Turned (fun _ => False) w8 wr ∧ k = l.length) := ⟨hl9, G.out.2.2.1, HE.out.2⟩
          clear HE G hl9 hlt
          have HNE : Hid (k = n3) := hidS (by have := END3.out.2.2; have := HN3.out; omega)
          have hne := HNE.out
          rw [hne]
          go_wp2_with (go_at_call 14; (with_reducible refine (same_any wr (fun _ => True) (fun _ => True) (.slice a8 n3 k8) (.slice a5 n3 k5) l (by have := (X8.out.1.turned END3.out.2.1 fun _ _ q => q); rwa [← HN3.out.1] at this) (by rw [← hne]; exact END3.out.1.r) (Nat.le_trans HL8.out (by decide))).mono ?_); rintro e w9 ⟨rfl, t9⟩
                       have X9 : Hid (Turned (fun _ => False) w w9) := (X8.out.2.2.trans END3.out.2.1 fun _ _ q => q).trans t9 fun _ _ q => q
                       clear t9)
          rw [HQ0.out]
          go_ret
          exact ⟨rfl, X9.out⟩


set_option maxRecDepth 200000 in
set_option maxHeartbeats 8000000 in
theorem between_tail1 (w : World) (Q : Exit → Act → World → Prop) (HQ0 : Hid (Q = (bodyPost Tryz.prog Tryz.f5 (fun e w' => e = .returned (.bool true) ∧ Turned (fun _ => False) w w')))) (K : Act → World → Prop) (hK : ∀ a w, (seqSnd (seqSnd (seqSnd (seqSnd (seqSnd (Tryz.f5.body.getD .skip)))))).wp Tryz.prog Q a w → K a w) (PA : Hid (∀ W x l' (n : Nat), Turned (fun _ => False) w W → x.length ≤ 4611686018427387904 → parseS 5 14 x = (l', n) → Calls Tryz.prog 12 #[.string (bs x)] W fun e w' => (∃ v, e = .returned (.tuple #[v, .int .i64 (n : Nat)]) ∧ CmdsAt w' (fun b => W.heap.size ≤ b) 39 v l') ∧ Turned (fun _ => False) W w'))
    (ps : List Nat) (S : Nat → Prop) (a2 : Option Addr) (n2 c2 m2 : Nat) (HPS : Hid (ps.length = n2 ∧ (∀ p ∈ ps, p < 256) ∧ Rd w S 1 (.slice a2 n2 c2) (ps.map fun p => Value.int .u8 ((p : Nat) : Int)) n2))
    (HM2 : Hid (m2 ≤ n2 ∧ min (n2 : Int) 100 = (m2 : Int) ∧ m2 ≤ 100)) (RUN : Hid (∀ W, (Instr.slice 26 (.slice a2 n2 c2) none (some (.int .i64 m2)) none).run Tryz.prog W = .ok (.slice a2 m2 c2) W))
    (p b : B) (HP : Hid (Cl p ∧ p.length ≤ 16385 ∧ p.count 10 ≤ 401 ∧ b.length ≤ 16384 ∧ p.count 10 + b.count 10 ≤ 401)) (z0 zb : ByteArray) (HZ : Hid (z0 = bs p ∧ zb = bs b))
    (w1 : World) (T1 : Hid (Turned (fun _ => False) w w1)) (x3 x4 x5 x6 x7 x8 x9 x10 x11 x12 x13 x14 x15 x16 x17 x18 x19 x20 x21 x22 x23 x24 x25 x26 x27 x28 x29 x30 x31 x32 x33 x34 x35 x36 x37 x38 x39 x40 x41 x42 x43 x44 x45 x46 x47 x48 x49 x50 x51 x52 x53 x54 x55 x56 x57 x58 x59 x60 x61 x62 x63 x64 x65 x66 x67 x68 x69 x70 x71 x72 x73 x74 x75 x76 x77 x78 x79 x80 x81 x82 x83 x84 x85 x86 x87 x88 x89 x90 x91 x92 x93 x94 x95 x96 x97 x98 x99 x100 x101 x102 x103 x104 x105 x106 x107 x108 x109 x110 x111 x112 x113 x114 x115 x116 x117 x118 x119 x120 x121 x122 x123 x124 x125 x126 x127 x128 x129 x130 x131 x132 x133 x134 x135 x136 x137 x138 x139 x140 x141 x142 x143 x144 x145 x146 x147 x148 x149 x150 x151 x152 x153 x154 x155 x156 x157 x158 x159 x160 x161 x162 x163 x164 : Value) :
    (seqFst (seqSnd (seqSnd (seqSnd (seqSnd (Tryz.f5.body.getD .skip)))))).wp Tryz.prog (Exit.then K Q) { tmps := #[.string z0, .string zb, .slice a2 n2 c2, x3, x4, x5, x6, x7, x8, x9, x10, x11, x12, x13, x14, x15, x16, x17, x18, x19, x20, x21, x22, x23, x24, x25, x26, x27, x28, x29, x30, x31, x32, x33, x34, x35, x36, x37, x38, x39, x40, x41, x42, x43, x44, x45, x46, x47, x48, x49, x50, x51, x52, x53, x54, x55, x56, x57, x58, x59, x60, x61, x62, x63, x64, x65, x66, x67, x68, x69, x70, x71, x72, x73, x74, x75, x76, x77, x78, x79, x80, x81, x82, x83, x84, x85, x86, x87, x88, x89, x90, x91, x92, x93, x94, x95, x96, x97, x98, x99, x100, x101, x102, x103, x104, x105, x106, x107, x108, x109, x110, x111, x112, x113, x114, x115, x116, x117, x118, x119, x120, x121, x122, x123, x124, x125, x126, x127, x128, x129, x130, x131, x132, x133, x134, x135, x136, x137, x138, x139, x140, x141, x142, x143, x144, x145, x146, x147, x148, x149, x150, x151, x152, x153, x154, x155, x156, x157, x158, x159, x160, x161, x162, x163, x164], defers := [] } w1 := by
  dsimp only [Tryz.f5, seqSnd, seqFst, Option.getD] at hK ⊢
  have HZC : Hid (bs (p ++ b) = z0 ++ zb) := hidS (by rw [HZ.out.1, HZ.out.2]; exact (bs_append p b).symm)
  have cz : ¬ 9223372036854775807 < z0.size + zb.size := by rw [HZ.out.1, HZ.out.2, bs_size, bs_size]; have := HP.out; omega
  rcases between_cases HP.out with ⟨l, m, h1, h2, h3⟩ | ⟨l, ea, m, eb, h1, h2, hno, h3⟩
  · have HPE : Hid (parseS 5 14 p = (l, 0)) := h1
    have HB : Hid (b.length ≤ 4611686018427387904 ∧ parseS 5 14 b = (m, 0)) := hidS ⟨by have := HP.out; omega, h2⟩
    obtain ⟨lall, hla⟩ : ∃ lall, lall = l ++ m := ⟨_, rfl⟩
    obtain ⟨eall, hea⟩ : ∃ eall : Nat, eall = 0 := ⟨_, rfl⟩
    have HAB : Hid ((p ++ b).length ≤ 4611686018427387904 ∧ parseS 5 14 (p ++ b) = (lall, eall)) := hidS ⟨by have := HP.out; rw [List.length_append]; omega, by rw [h3, hla, hea]⟩
    have D12a := PA.out w1 p l 0 T1.out (by have := HP.out; omega) h1
    rw [← HZ.out.1] at D12a
    clear h1 h2 h3
    subst hla hea
    have HLM : Hid (l.length ≤ 1024 ∧ m.length ≤ 1024 ∧ (l ++ m).length ≤ 1024) := hidS ⟨parse_len HPE.out, parse_len HB.out.2, parse_len HAB.out.2⟩
    go_upto_region 12 with (first
      | (go_at_call 12; (with_reducible refine D12a.mono ?_); rintro e w2 ⟨⟨v7, rfl, c7⟩, t2⟩
         obtain ⟨a7, k7, rfl⟩ := c7.value
         have X2 : Hid (CmdsAt w2 (fun b => w1.heap.size ≤ b) 39 (.slice a7 l.length k7) l ∧ Turned (fun _ => False) w w2) := ⟨c7, T1.out.trans t2 fun _ _ q => q⟩
         have D12b := PA.out w2 b m 0 X2.out.2 HB.out.1 HB.out.2
         rw [← HZ.out.2] at D12b
         clear c7 t2 D12a)
      | (go_at_call 12; (with_reducible refine D12b.mono ?_); rintro e w3 ⟨⟨v9, rfl, c9⟩, t3⟩
         obtain ⟨a9, k9, rfl⟩ := c9.value
         have X3 : Hid (CmdsAt w3 (fun b => w1.heap.size ≤ b) 39 (.slice a7 l.length k7) l ∧ CmdsAt w3 (fun b => w2.heap.size ≤ b) 39 (.slice a9 m.length k9) m ∧ Turned (fun _ => False) w w3) := ⟨X2.out.1.turned t3 fun _ _ q => q, c9, X2.out.2.trans t3 fun _ _ q => q⟩
         have D12c := PA.out w3 (p ++ b) (l ++ m) 0 X3.out.2.2 HAB.out.1 HAB.out.2
         rw [HZC.out] at D12c
         clear c9 t3 D12b)
      | (go_at_call 12; (with_reducible refine D12c.mono ?_); rintro e w4 ⟨⟨v11, rfl, c11⟩, t4⟩
         obtain ⟨a11, k11, rfl⟩ := c11.value
         have X4 : Hid (CmdsAt w4 (fun b => w1.heap.size ≤ b) 39 (.slice a7 l.length k7) l ∧ CmdsAt w4 (fun b => w2.heap.size ≤ b) 39 (.slice a9 m.length k9) m ∧ CmdsAt w4 (fun b => w3.heap.size ≤ b) 39 (.slice a11 (l ++ m).length k11) (l ++ m) ∧ Turned (fun _ => False) w w4) := ⟨X3.out.1.turned t4 fun _ _ q => q, X3.out.2.1.turned t4 fun _ _ q => q, c11, X3.out.2.2.trans t4 fun _ _ q => q⟩
         clear c11 t4 D12c))
    obtain ⟨xs, ys, HXY⟩ := two_lists X4.out.1 X4.out.2.1
    have hcut := cut_full (a := a7) (n := l.length) (cap := k7) HXY.out.1
    have c6' : Hid (l.length + m.length ≤ maxLen ∧ (l.length + m.length) * 160 ≤ 140737488355328) := hidS ⟨by have := HLM.out; simp only [maxLen]; omega, by have := HLM.out; omega⟩
    obtain ⟨n1, hn1⟩ : ∃ n1, n1 = (l ++ m).length := ⟨_, rfl⟩
    have HN1 : Hid (n1 = (l ++ m).length ∧ n1 ≤ 1024) := hidS ⟨hn1, by rw [hn1]; exact HLM.out.2.2⟩
    have HNS : Hid (n1 = l.length + m.length) := hidS (by rw [hn1, List.length_append])
    clear hn1
    go_upto_region 13 with (at_builtin; refine wpList_append_full rfl _ _ 29 29 rfl HXY.out.2.1 Tryz.underlying29 info39' rfl (by decide) rfl (.slice a9 m.length k9) rfl HXY.out.2.2.1 c6'.out.1 c6'.out.2 ?_
                            intro v79 w5 q5 t5
                            obtain ⟨a79, k79, hv79, -, -⟩ := q5.value
                            subst hv79
                            have X5 : Hid (CmdsR w5 (fun b => b < w5.heap.size) (.slice a79 (l.length + m.length) k79) (l ++ m) ∧ CmdsR w5 (fun _ => True) (.slice a11 (l ++ m).length k11) (l ++ m) ∧ CmdsR w5 (fun _ => True) (.slice a7 l.length k7) l ∧ Turned (fun _ => False) w w5) := hidS (two_end HXY.out.2.2.2 q5 t5 X4.out)
                            clear q5 t5)
    clear hcut
    have B1 : Hid (BuR w5 40 (l ++ m) n1 (.slice none 0 0) (.int .i64 0) w5) := ⟨0, rfl, by have := HN1.out; omega, Lst.nil _ _ _, Turned.refl _ _⟩
    rw [← HNS.out]
    go_loopg [13, 81] n1 (fun g v5 vi wr => BuR w5 40 (l ++ m) g v5 vi wr)
    case atStart => exact B1.out
    case round =>
      obtain ⟨k, rfl, hkg, hl5, ht⟩ := hrel
      obtain ⟨a5, k5, rfl⟩ := hl5.value
      have hlk : ((l ++ m).take k).length = k := by rw [List.length_take]; omega
      rw [hlk] at hl5 ⊢
      have G : Hid (k + gk = (l ++ m).length ∧ Lst w5.heap.size wr 40 (.slice a5 k k5) ((l ++ m).take k) ∧ Turned (fun _ => False) w5 wr ∧ ((l ++ m).take k).length = k) := ⟨hkg, hl5, ht, hlk⟩
      clear hkg hl5 ht hlk B1
      by_cases hlt : k < n1
      · obtain ⟨c, hc⟩ : ∃ c, (l ++ m)[k]? = some c := ⟨_, List.getElem?_eq_getElem (by have := HN1.out; omega)⟩
        obtain ⟨g1, o1, cs, rfl, l1, v1, e1⟩ := (X5.out.1.turned G.out.2.2.1 fun _ _ q => q).elem hc
        have HC : Hid ((l ++ m)[k]? = some c) := hc
        have V1 : Hid (CmdR wr (fun b => b < w5.heap.size) c cs) := v1
        have M13 : Hid (∀ W, Turned (fun _ => False) wr W → Calls Tryz.prog 13 #[.agg cs] W fun e w' => e = .returned (.agg cs) ∧ Turned (fun _ => False) W w') := hidS fun W t => its_cmd W _ c cs (v1.turned t fun _ _ q => q)
        obtain ⟨xs, HX⟩ : ∃ xs, Hid (Sl wr (fun b => w5.heap.size ≤ b) 40 11 (.slice a5 k k5) xs k ∧ CmdsX wr (fun b => b < w5.heap.size) ((l ++ m).take k) xs) := by
          obtain ⟨xs, q1, q2⟩ := G.out.2.1
          rw [G.out.2.2.2] at q1
          exact ⟨xs, q1, q2⟩
        obtain ⟨x1, y1, x4, y4, x9, y9, rfl, -, -, -⟩ := v1
        have hd1 : decide ((k : Int) < (n1 : Int)) = true := by simp; omega
        have hd2 : decide (k < n1) = true := by simp; omega
        have hd7 : decide ((k : Int) < (l.length : Int) + (m.length : Int)) = true := by have := HNS.out; simp; omega
        have hd8 : decide (k < l.length + m.length) = true := by have := HNS.out; simp; omega
        have HLT : Hid (k < n1 ∧ n1 ≤ 1024) := ⟨hlt, HN1.out.2⟩
        have HW : Hid (wrap64 ((k : Int) + 1) = ((k + 1 : Nat) : Int)) := hidS (w64_in _ (by have := HLT.out; omega))
        have c6 : Hid (k + 1 ≤ maxLen ∧ (k + 1) * 160 ≤ 140737488355328) := hidS ⟨by have := HLT.out; simp only [maxLen]; omega, by have := HLT.out; omega⟩
        have p0 := e1 0 (by decide); have p1 := e1 1 (by decide); have p2 := e1 2 (by decide); have p3 := e1 3 (by decide); have p4 := e1 4 (by decide); have p5 := e1 5 (by decide); have p6 := e1 6 (by decide); have p7 := e1 7 (by decide); have p8 := e1 8 (by decide); have p9 := e1 9 (by decide); have p10 := e1 10 (by decide)
        simp only [List.getElem?_toArray, List.getElem?_cons_zero, List.getElem?_cons_succ, Nat.add_zero] at p0 p1 p2 p3 p4 p5 p6 p7 p8 p9 p10
        clear e1 hc
        go_wp2_with (first
          | (go_at_call 13; (with_reducible refine (M13.out _ (Turned.alloc _ _ _)).mono ?_); rintro e w3 ⟨rfl, ht3⟩
             have T3 : Hid (Turned (fun _ => False) wr w3) := (Turned.alloc _ _ _).trans ht3 fun _ _ q => q
             have S6 : Hid (∀ o, Sl (w3.alloc o) (fun b => w5.heap.size ≤ b) 40 11 (.slice a5 k k5) xs k) := hidS fun o => (HX.out.1.turned T3.out fun _ _ q => q).turned (Turned.alloc (fun _ => False) w3 o) fun _ _ q => q
             clear ht3)
          | (at_builtin; refine wpList_append rfl _ _ 33 33 rfl (S6.out _) Tryz.underlying33 info40' rfl (by decide) rfl (.slice (some ⟨w3.heap.size, 0, none⟩) 1 1) rfl (src_x w3 Tryz.underlying33 _ V1.out) c6.out.1 c6.out.2 ?_; intro x9 w9 q9 t9; obtain ⟨a7, cap7, hv7, -, -⟩ := q9.value; subst hv7; have Q9 := hid_two q9 t9; clear q9 t9))
        go_roundg (gk - 1)
        case measure => have := G.out; have := HLT.out; have := HN1.out; omega
        case rel => exact BuR.next HC.out (by rw [HW.out]) (by have := G.out; have := HLT.out; have := HN1.out; omega) HX.out.2 V1.out G.out.2.2.1 (T3.out.trans (Turned.alloc _ _ _) fun _ _ q => q) (by rw [G.out.2.2.2]; exact Q9.out.1) Q9.out.2
      · have hd1 : decide ((k : Int) < (n1 : Int)) = false := by simp; omega
        have hd2 : decide (k < n1) = false := by simp; omega
        have hd7 : decide ((k : Int) < (l.length : Int) + (m.length : Int)) = false := by have := HNS.out; simp; omega
        have hd8 : decide (k < l.length + m.length) = false := by have := HNS.out; simp; omega
        have HE : Hid ((l ++ m).take k = (l ++ m) ∧ k = (l ++ m).length) := hidS ⟨List.take_of_length_le (by have := HN1.out; omega), by have := HN1.out; have := G.out; omega⟩
        have hl9 := G.out.2.1
        rw [HE.out.1] at hl9
        have END1 : Hid (Lst w5.heap.size wr 40 (.slice a5 k k5) (l ++ m) ∧ Turned (fun _ => False) w5 wr ∧ k = (l ++ m).length) := ⟨hl9, G.out.2.2.1, HE.out.2⟩
        clear HE G hl9 hlt
        have D14 := same_any wr (fun _ => True) (fun _ => True) (.slice a11 n1 k11) (.slice a5 k k5) (l ++ m) (by have := X5.out.2.1.turned END1.out.2.1 fun _ _ q => q; rwa [← HN1.out.1] at this) END1.out.1.r (Nat.le_trans (by have := HN1.out; omega) (show 1024 ≤ 4611686018427387904 by decide))
        go_upto_region 21 with (go_at_call 14; (with_reducible refine D14.mono ?_); rintro e w5c ⟨rfl, t5⟩
                                have X5C : Hid (CmdsR w5c (fun _ => True) (.slice a7 l.length k7) l ∧ Turned (fun _ => False) w w5c) := hidS ⟨(X5.out.2.2.1.turned END1.out.2.1 fun _ _ q => q).turned t5 fun _ _ q => q, (X5.out.2.2.2.trans END1.out.2.1 fun _ _ q => q).trans t5 fun _ _ q => q⟩
                                clear t5 D14)
        exact between_tail2 w Q HQ0 _ (by assumption) PA ps S a2 n2 c2 m2 HPS HM2 RUN p b HP z0 zb HZ l 0 HPE w5c a7 k7 X5C _ _ _ _ _ _ _ _ _ _ _ _ _ _ _ _ _ _ _ _ _ _ _ _ _ _ _ _ _ _ _ _ _ _ _ _ _ _ _ _ _ _ _ _ _ _ _ _ _ _ _ _ _ _ _ _ _ _ _ _ _ _ _ _ _ _ _ _ _ _ _ _ _ _ _ _ _ _ _ _ _ _ _ _ _ _ _ _ _ _ _ _ _ _ _ _ _ _ _ _ _ _ _ _ _ _ _ _ _ _ _ _ _ _ _ _ _ _ _ _ _ _ _ _ _ _ _ _ _ _ _ _ _ _ _ _ _ _ _ _ _ _ _ _ _ _ _ _ _ _ _ _ _ _ _ _ _ _ _ _ _

  · have HPE : Hid (parseS 5 14 p = (l, ea)) := h1
    have HB : Hid (b.length ≤ 4611686018427387904 ∧ parseS 5 14 b = (m, eb)) := hidS ⟨by have := HP.out; omega, h2⟩
    have HAB : Hid ((p ++ b).length ≤ 4611686018427387904 ∧ parseS 5 14 (p ++ b) = ([], 14)) := hidS ⟨by have := HP.out; rw [List.length_append]; omega, h3⟩
    have D12a := PA.out w1 p l ea T1.out (by have := HP.out; omega) h1
    rw [← HZ.out.1] at D12a
    clear h1 h2 h3
    by_cases he0 : ea = 0
    · have hf0 : ((eb : Int) == 0) = false := by
        have : eb ≠ 0 := fun q => hno ⟨he0, q⟩
        simp; exact this
      subst he0
      clear hno
      go_upto_region 21 with (first
        | (go_at_call 12; (with_reducible refine D12a.mono ?_); rintro e w2 ⟨⟨v7, rfl, c7⟩, t2⟩
           obtain ⟨a7, k7, rfl⟩ := c7.value
           have X2 : Hid (CmdsAt w2 (fun b => w1.heap.size ≤ b) 39 (.slice a7 l.length k7) l ∧ Turned (fun _ => False) w w2) := ⟨c7, T1.out.trans t2 fun _ _ q => q⟩
           have D12b := PA.out w2 b m eb X2.out.2 HB.out.1 HB.out.2
           rw [← HZ.out.2] at D12b
           clear c7 t2 D12a)
        | (go_at_call 12; (with_reducible refine D12b.mono ?_); rintro e w3 ⟨⟨v9, rfl, c9⟩, t3⟩
           obtain ⟨a9, k9, rfl⟩ := c9.value
           have X3 : Hid (CmdsAt w3 (fun b => w1.heap.size ≤ b) 39 (.slice a7 l.length k7) l ∧ CmdsAt w3 (fun b => w2.heap.size ≤ b) 39 (.slice a9 m.length k9) m ∧ Turned (fun _ => False) w w3) := ⟨X2.out.1.turned t3 fun _ _ q => q, c9, X2.out.2.trans t3 fun _ _ q => q⟩
           have D12c := PA.out w3 (p ++ b) [] 14 X3.out.2.2 HAB.out.1 HAB.out.2
           rw [HZC.out] at D12c
           clear c9 t3 D12b)
        | (go_at_call 12; (with_reducible refine D12c.mono ?_); rintro e w4 ⟨⟨v11, rfl, c11⟩, t4⟩
           obtain ⟨a11, k11, rfl⟩ := c11.value
           have X4 : Hid (CmdsAt w4 (fun b => w1.heap.size ≤ b) 39 (.slice a7 l.length k7) l ∧ CmdsAt w4 (fun b => w2.heap.size ≤ b) 39 (.slice a9 m.length k9) m ∧ CmdsAt w4 (fun b => w3.heap.size ≤ b) 39 (.slice a11 [].length k11) [] ∧ Turned (fun _ => False) w w4) := ⟨X3.out.1.turned t4 fun _ _ q => q, X3.out.2.1.turned t4 fun _ _ q => q, c11, X3.out.2.2.trans t4 fun _ _ q => q⟩
           clear c11 t4 D12c))
      have X5C : Hid (CmdsR w4 (fun _ => True) (.slice a7 l.length k7) l ∧ Turned (fun _ => False) w w4) := hidS ⟨X4.out.1.r.any, X4.out.2.2.2⟩
      exact between_tail2 w Q HQ0 _ (by assumption) PA ps S a2 n2 c2 m2 HPS HM2 RUN p b HP z0 zb HZ l 0 HPE w4 a7 k7 X5C _ _ _ _ _ _ _ _ _ _ _ _ _ _ _ _ _ _ _ _ _ _ _ _ _ _ _ _ _ _ _ _ _ _ _ _ _ _ _ _ _ _ _ _ _ _ _ _ _ _ _ _ _ _ _ _ _ _ _ _ _ _ _ _ _ _ _ _ _ _ _ _ _ _ _ _ _ _ _ _ _ _ _ _ _ _ _ _ _ _ _ _ _ _ _ _ _ _ _ _ _ _ _ _ _ _ _ _ _ _ _ _ _ _ _ _ _ _ _ _ _ _ _ _ _ _ _ _ _ _ _ _ _ _ _ _ _ _ _ _ _ _ _ _ _ _ _ _ _ _ _ _ _ _ _ _ _ _ _ _ _
    · have hf0 : ((ea : Int) == 0) = false := by simp; exact he0
      clear hno he0
      go_upto_region 21 with (first
        | (go_at_call 12; (with_reducible refine D12a.mono ?_); rintro e w2 ⟨⟨v7, rfl, c7⟩, t2⟩
           obtain ⟨a7, k7, rfl⟩ := c7.value
           have X2 : Hid (CmdsAt w2 (fun b => w1.heap.size ≤ b) 39 (.slice a7 l.length k7) l ∧ Turned (fun _ => False) w w2) := ⟨c7, T1.out.trans t2 fun _ _ q => q⟩
           have D12b := PA.out w2 b m eb X2.out.2 HB.out.1 HB.out.2
           rw [← HZ.out.2] at D12b
           clear c7 t2 D12a)
        | (go_at_call 12; (with_reducible refine D12b.mono ?_); rintro e w3 ⟨⟨v9, rfl, c9⟩, t3⟩
           obtain ⟨a9, k9, rfl⟩ := c9.value
           have X3 : Hid (CmdsAt w3 (fun b => w1.heap.size ≤ b) 39 (.slice a7 l.length k7) l ∧ CmdsAt w3 (fun b => w2.heap.size ≤ b) 39 (.slice a9 m.length k9) m ∧ Turned (fun _ => False) w w3) := ⟨X2.out.1.turned t3 fun _ _ q => q, c9, X2.out.2.trans t3 fun _ _ q => q⟩
           have D12c := PA.out w3 (p ++ b) [] 14 X3.out.2.2 HAB.out.1 HAB.out.2
           rw [HZC.out] at D12c
           clear c9 t3 D12b)
        | (go_at_call 12; (with_reducible refine D12c.mono ?_); rintro e w4 ⟨⟨v11, rfl, c11⟩, t4⟩
           obtain ⟨a11, k11, rfl⟩ := c11.value
           have X4 : Hid (CmdsAt w4 (fun b => w1.heap.size ≤ b) 39 (.slice a7 l.length k7) l ∧ CmdsAt w4 (fun b => w2.heap.size ≤ b) 39 (.slice a9 m.length k9) m ∧ CmdsAt w4 (fun b => w3.heap.size ≤ b) 39 (.slice a11 [].length k11) [] ∧ Turned (fun _ => False) w w4) := ⟨X3.out.1.turned t4 fun _ _ q => q, X3.out.2.1.turned t4 fun _ _ q => q, c11, X3.out.2.2.trans t4 fun _ _ q => q⟩
           clear c11 t4 D12c))
      have X5C : Hid (CmdsR w4 (fun _ => True) (.slice a7 l.length k7) l ∧ Turned (fun _ => False) w w4) := hidS ⟨X4.out.1.r.any, X4.out.2.2.2⟩
      exact between_tail2 w Q HQ0 _ (by assumption) PA ps S a2 n2 c2 m2 HPS HM2 RUN p b HP z0 zb HZ l ea HPE w4 a7 k7 X5C _ _ _ _ _ _ _ _ _ _ _ _ _ _ _ _ _ _ _ _ _ _ _ _ _ _ _ _ _ _ _ _ _ _ _ _ _ _ _ _ _ _ _ _ _ _ _ _ _ _ _ _ _ _ _ _ _ _ _ _ _ _ _ _ _ _ _ _ _ _ _ _ _ _ _ _ _ _ _ _ _ _ _ _ _ _ _ _ _ _ _ _ _ _ _ _ _ _ _ _ _ _ _ _ _ _ _ _ _ _ _ _ _ _ _ _ _ _ _ _ _ _ _ _ _ _ _ _ _ _ _ _ _ _ _ _ _ _ _ _ _ _ _ _ _ _ _ _ _ _ _ _ _ _ _ _ _ _ _ _ _

set_option maxRecDepth 200000 in
set_option maxHeartbeats 8000000 in
theorem between_law (w0 w : World) (hL : Lw w0 w) (S : Nat → Prop) (a2 : Option Addr) (n2 c2 : Nat) (ps : List Nat) (hp : Rd w S 1 (.slice a2 n2 c2) (ps.map fun p => Value.int .u8 ((p : Nat) : Int)) n2) (hps : ∀ p ∈ ps, p < 256) (a b : B) (ha : a.length ≤ 1000000000000000) (hb : b.length ≤ 1000000000000000) :
    Calls Tryz.prog 5 #[.string (bs a), .string (bs b), .slice a2 n2 c2] w fun e w' => e = .returned (.bool true) ∧ Turned (fun _ => False) w w' := by
  have PA : Hid (∀ W x l' (n : Nat), Turned (fun _ => False) w W → x.length ≤ 4611686018427387904 → parseS 5 14 x = (l', n) → Calls Tryz.prog 12 #[.string (bs x)] W fun e w' => (∃ v, e = .returned (.tuple #[v, .int .i64 (n : Nat)]) ∧ CmdsAt w' (fun b => W.heap.size ≤ b) 39 v l') ∧ Turned (fun _ => False) W w') := hidS fun W x l' n tw hx hp => by
    have := parse_any w0 W x (hL.turned0 tw) hx
    rw [hp] at this
    exact this
  have R : Calls Tryz.prog 8 #[] w fun e w' => e = .returned (.bool true) ∧ Turned (fun _ => False) w w' := reads_any w0 w hL
  have HPS : Hid (ps.length = n2 ∧ (∀ p ∈ ps, p < 256) ∧ Rd w S 1 (.slice a2 n2 c2) (ps.map fun p => Value.int .u8 ((p : Nat) : Int)) n2) := hidS ⟨by have := hp.1; simpa using this, hps, hp⟩
  obtain ⟨m2, hm2⟩ : ∃ m2 : Nat, m2 = min n2 100 := ⟨_, rfl⟩
  have HM2 : Hid (m2 ≤ n2 ∧ min (n2 : Int) 100 = (m2 : Int) ∧ m2 ≤ 100) := hidS ⟨by omega, by rw [hm2]; omega, by omega⟩
  have RUN : Hid (∀ W, (Instr.slice 26 (.slice a2 n2 c2) none (some (.int .i64 m2)) none).run Tryz.prog W = .ok (.slice a2 m2 c2) W) := hidS (bytes_to (by obtain ⟨-, a', c', hv, h1, -⟩ := hp; injection hv with e1 e2 e3; omega) m2 (by omega))
  have C10 : ∀ W, Calls Tryz.prog 10 #[.string (bs a ++ bs b), .string ⟨#[10]⟩] W fun e w' => e = .returned (.int .i64 ((a ++ b).count 10 : Nat)) ∧ w' = W := fun W => by rw [bs_append]; exact count10 (a ++ b) W
  have C11 : ∀ W, Calls Tryz.prog 11 #[.string (bs a), .string ⟨#[10]⟩] W fun e w' => e = .returned (.bool (decide (a.getLast? = some 10))) ∧ w' = W := suffix10 a (Nat.le_trans ha (by decide))
  have HAL : Hid (a.length ≤ 1000000000000000 ∧ b.length ≤ 1000000000000000) := ⟨ha, hb⟩
  have sz1 : (bs a).size = a.length := bs_size a
  have sz2 : (bs b).size = b.length := bs_size b
  have hwS : wrap64 (((bs a).size : Int) + ((bs b).size : Int)) = (((a.length + b.length : Nat)) : Int) := by rw [sz1, sz2, w64_in _ (by have := HAL.out; omega)]; simp
  have hq0 : ¬ 9223372036854775807 < (bs a).size + (bs b).size := by rw [sz1, sz2]; omega
  clear hL hp hps hm2 ha hb
  by_cases hbig : 16384 < a.length + b.length
  · have hd3 : decide ((16384 : Int) < ((a.length + b.length : Nat) : Int)) = true := by simp; omega
    have hd4 : decide (16384 < a.length + b.length) = true := by simp; omega
    have he3 : decide ((16384 : Int) < ((bs a).size : Int) + ((bs b).size : Int)) = true := by rw [sz1, sz2]; simp; omega
    have he4 : decide (16384 < (bs a).size + (bs b).size) = true := by rw [sz1, sz2]; simp; omega
    clear sz1 sz2 C10 C11 hq0
    generalize bs a = xa at *
    generalize bs b = xb at *
    generalize a.length + b.length = zl at *
    go_enter Tryz.func5, Tryz.ntmps5
    go_wp2_with (go_at_call 8; (with_reducible refine R.mono ?_); rintro e w1 ⟨rfl, t1⟩; have T1 : Hid (Turned (fun _ => False) w w1) := t1; clear t1 R)
    go_ret
    exact ⟨rfl, T1.out⟩
  have hd3 : decide ((16384 : Int) < ((a.length + b.length : Nat) : Int)) = false := by simp; omega
  have hd4 : decide (16384 < a.length + b.length) = false := by simp; omega
  have he3 : decide ((16384 : Int) < ((bs a).size : Int) + ((bs b).size : Int)) = false := by rw [sz1, sz2]; simp; omega
  have he4 : decide (16384 < (bs a).size + (bs b).size) = false := by rw [sz1, sz2]; simp; omega
  by_cases hmany : 400 < (a ++ b).count 10
  · have hd5 : decide ((400 : Int) < (((a ++ b).count 10 : Nat) : Int)) = true := by simp only [decide_eq_true_eq]; omega
    have hd6 : decide (400 < (a ++ b).count 10) = true := by simp only [decide_eq_true_eq]; omega
    clear sz1 sz2 C11 hbig hmany
    generalize bs a = xa at *
    generalize bs b = xb at *
    generalize a.length + b.length = zl at *
    generalize (a ++ b).count 10 = zc at *
    go_enter Tryz.func5, Tryz.ntmps5
    go_wp2_with (first
      | (go_at_call 8; (with_reducible refine R.mono ?_); rintro e w1 ⟨rfl, t1⟩; have T1 : Hid (Turned (fun _ => False) w w1) := t1; clear t1 R)
      | (go_at_call 10; (with_reducible refine (C10 _).mono ?_); rintro e w2 ⟨rfl, hw2⟩; rw [hw2]; clear hw2 C10))
    go_ret
    exact ⟨rfl, T1.out⟩
  have hd5 : decide ((400 : Int) < (((a ++ b).count 10 : Nat) : Int)) = false := by simp only [decide_eq_false_iff_not]; omega
  have hd6 : decide (400 < (a ++ b).count 10) = false := by simp only [decide_eq_false_iff_not]; omega
  have HAB0 : Hid (a.length + b.length ≤ 16384 ∧ a.count 10 + b.count 10 ≤ 400) := hidS ⟨by omega, by rw [List.count_append] at hmany; omega⟩
  clear hbig hmany sz1 sz2
  by_cases ha0 : a = []
  · obtain ⟨p, hpp⟩ : ∃ p : B, p = [] := ⟨_, rfl⟩
    have HP : Hid (Cl p ∧ p.length ≤ 16385 ∧ p.count 10 ≤ 401 ∧ b.length ≤ 16384 ∧ p.count 10 + b.count 10 ≤ 401) := hidS (by subst hpp; have := HAB0.out; exact ⟨.inl rfl, by simp, by simp, by omega, by simp; omega⟩)
    subst ha0
    have hze : ((bs []).toList == []) = true := by rw [ByteArray.toList_eq, bs_list]; rfl
    have hze2 : (bs []).toList.isEmpty = true := by rw [ByteArray.toList_eq, bs_list]; rfl
    obtain ⟨z0, hz0⟩ : ∃ z0, z0 = bs [] := ⟨_, rfl⟩
    obtain ⟨zb, hzb⟩ : ∃ zb, zb = bs b := ⟨_, rfl⟩
    have HZ : Hid (z0 = bs p ∧ zb = bs b) := hidS ⟨by rw [hpp]; exact hz0, hzb⟩
    rw [← hz0] at hze hze2 hwS hq0 he3 he4 C10 ⊢
    rw [← hzb] at hwS hq0 he3 he4 C10 ⊢
    generalize ([] ++ b : B).count 10 = zc at *
    generalize ([] : B).length + b.length = zl at *
    clear hpp hz0 hzb C11 HAL HAB0
    go_enter Tryz.func5, Tryz.ntmps5
    go_upto_region 7 with (first
      | (go_at_call 8; (with_reducible refine R.mono ?_); rintro e w1 ⟨rfl, t1⟩; have T1 : Hid (Turned (fun _ => False) w w1) := t1; clear t1 R)
      | (go_at_call 10; (with_reducible refine (C10 _).mono ?_); rintro e w2 ⟨rfl, hw2⟩; rw [hw2]; clear hw2 C10))
    exact between_tail1 w _ (hidS rfl) _ (by assumption) PA ps S a2 n2 c2 m2 HPS HM2 RUN p b HP z0 zb HZ w1 T1 _ _ _ _ _ _ _ _ _ _ _ _ _ _ _ _ _ _ _ _ _ _ _ _ _ _ _ _ _ _ _ _ _ _ _ _ _ _ _ _ _ _ _ _ _ _ _ _ _ _ _ _ _ _ _ _ _ _ _ _ _ _ _ _ _ _ _ _ _ _ _ _ _ _ _ _ _ _ _ _ _ _ _ _ _ _ _ _ _ _ _ _ _ _ _ _ _ _ _ _ _ _ _ _ _ _ _ _ _ _ _ _ _ _ _ _ _ _ _ _ _ _ _ _ _ _ _ _ _ _ _ _ _ _ _ _ _ _ _ _ _ _ _ _ _ _ _ _ _ _ _ _ _ _ _ _ _ _ _ _ _ _
  have hne : ((bs a).toList == []) = false ∧ (bs a).toList.isEmpty = false := by
    rw [ByteArray.toList_eq, bs_list]
    cases a with
    | nil => exact absurd rfl ha0
    | cons c r => exact ⟨rfl, rfl⟩
  obtain ⟨hze, hze2⟩ := hne
  by_cases hl10 : a.getLast? = some 10
  · obtain ⟨p, hpp⟩ : ∃ p : B, p = a := ⟨_, rfl⟩
    have HP : Hid (Cl p ∧ p.length ≤ 16385 ∧ p.count 10 ≤ 401 ∧ b.length ≤ 16384 ∧ p.count 10 + b.count 10 ≤ 401) := hidS (by subst hpp; have := HAB0.out; exact ⟨Cl.of (.inr hl10), by omega, by omega, by omega, by omega⟩)
    rw [decide_eq_true hl10] at C11
    obtain ⟨z0, hz0⟩ : ∃ z0, z0 = bs a := ⟨_, rfl⟩
    obtain ⟨zb, hzb⟩ : ∃ zb, zb = bs b := ⟨_, rfl⟩
    have HZ : Hid (z0 = bs p ∧ zb = bs b) := hidS ⟨by rw [hpp]; exact hz0, hzb⟩
    rw [← hz0] at hze hze2 hwS hq0 he3 he4 C10 C11 ⊢
    rw [← hzb] at hwS hq0 he3 he4 C10 ⊢
    generalize (a ++ b : B).count 10 = zc at *
    generalize a.length + b.length = zl at *
    clear hpp hz0 hzb ha0 hl10 HAL HAB0
    go_enter Tryz.func5, Tryz.ntmps5
    go_upto_region 7 with (first
      | (go_at_call 8; (with_reducible refine R.mono ?_); rintro e w1 ⟨rfl, t1⟩; have T1 : Hid (Turned (fun _ => False) w w1) := t1; clear t1 R)
      | (go_at_call 10; (with_reducible refine (C10 _).mono ?_); rintro e w2 ⟨rfl, hw2⟩; rw [hw2]; clear hw2 C10)
      | (go_at_call 11; (with_reducible refine (C11 _).mono ?_); rintro e w2 ⟨rfl, hw2⟩; rw [hw2]; clear hw2 C11))
    exact between_tail1 w _ (hidS rfl) _ (by assumption) PA ps S a2 n2 c2 m2 HPS HM2 RUN p b HP z0 zb HZ w1 T1 _ _ _ _ _ _ _ _ _ _ _ _ _ _ _ _ _ _ _ _ _ _ _ _ _ _ _ _ _ _ _ _ _ _ _ _ _ _ _ _ _ _ _ _ _ _ _ _ _ _ _ _ _ _ _ _ _ _ _ _ _ _ _ _ _ _ _ _ _ _ _ _ _ _ _ _ _ _ _ _ _ _ _ _ _ _ _ _ _ _ _ _ _ _ _ _ _ _ _ _ _ _ _ _ _ _ _ _ _ _ _ _ _ _ _ _ _ _ _ _ _ _ _ _ _ _ _ _ _ _ _ _ _ _ _ _ _ _ _ _ _ _ _ _ _ _ _ _ _ _ _ _ _ _ _ _ _ _ _ _ _ _
  · obtain ⟨p, hpp⟩ : ∃ p : B, p = a ++ [10] := ⟨_, rfl⟩
    have HP : Hid (Cl p ∧ p.length ≤ 16385 ∧ p.count 10 ≤ 401 ∧ b.length ≤ 16384 ∧ p.count 10 + b.count 10 ≤ 401) := hidS (by subst hpp; have := HAB0.out; exact ⟨.inr ⟨a, rfl⟩, by simp; omega, by rw [List.count_append]; simp; omega, by omega, by rw [List.count_append]; simp; omega⟩)
    rw [decide_eq_false hl10] at C11
    have hq1 : ¬ 9223372036854775807 < (bs a).size + 1 := by rw [bs_size]; have := HAB0.out; omega
    have HZ0 : Hid (bs p = bs a ++ ⟨#[10]⟩) := hidS (by rw [hpp]; exact (bs_append a [10]).symm)
    generalize (a ++ b : B).count 10 = zc at *
    generalize a.length + b.length = zl at *
    generalize bs a = xa at *
    obtain ⟨zb, hzb⟩ : ∃ zb, zb = bs b := ⟨_, rfl⟩
    rw [← hzb] at hwS hq0 he3 he4 C10 ⊢
    have HZ1 : Hid (zb = bs b) := hzb
    clear hpp hzb ha0 hl10 HAL HAB0
    go_enter Tryz.func5, Tryz.ntmps5
    go_upto_region 7 with (first
      | (go_at_call 8; (with_reducible refine R.mono ?_); rintro e w1 ⟨rfl, t1⟩; have T1 : Hid (Turned (fun _ => False) w w1) := t1; clear t1 R)
      | (go_at_call 10; (with_reducible refine (C10 _).mono ?_); rintro e w2 ⟨rfl, hw2⟩; rw [hw2]; clear hw2 C10)
      | (go_at_call 11; (with_reducible refine (C11 _).mono ?_); rintro e w2 ⟨rfl, hw2⟩; rw [hw2]; clear hw2 C11))
    obtain ⟨z0, hz0⟩ : ∃ z0, z0 = xa ++ ⟨#[10]⟩ := ⟨_, rfl⟩
    have HZ : Hid (z0 = bs p ∧ zb = bs b) := hidS ⟨by rw [hz0]; exact HZ0.out.symm, HZ1.out⟩
    rw [← hz0]
    clear hz0 hze hze2 hq1 hwS hq0
    exact between_tail1 w _ (hidS rfl) _ (by assumption) PA ps S a2 n2 c2 m2 HPS HM2 RUN p b HP z0 zb HZ w1 T1 _ _ _ _ _ _ _ _ _ _ _ _ _ _ _ _ _ _ _ _ _ _ _ _ _ _ _ _ _ _ _ _ _ _ _ _ _ _ _ _ _ _ _ _ _ _ _ _ _ _ _ _ _ _ _ _ _ _ _ _ _ _ _ _ _ _ _ _ _ _ _ _ _ _ _ _ _ _ _ _ _ _ _ _ _ _ _ _ _ _ _ _ _ _ _ _ _ _ _ _ _ _ _ _ _ _ _ _ _ _ _ _ _ _ _ _ _ _ _ _ _ _ _ _ _ _ _ _ _ _ _ _ _ _ _ _ _ _ _ _ _ _ _ _ _ _ _ _ _ _ _ _ _ _ _ _ _ _ _ _ _ _
end Go.Proofs.YteblabpplaaddaaGreatDoor

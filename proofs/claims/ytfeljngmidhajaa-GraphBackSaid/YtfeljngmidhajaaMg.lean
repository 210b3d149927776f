/- Graph files read: the plain law, Decode, the document's Decode -/
import Derived.Test.YtfeljngmidhajaaMf
import Derived.Test.YtfeljngmidhajaaMp
import Derived.BigQuiet
import Derived.BigRegion
namespace Go.Proofs.Ytfeljngmidhajaa
open Go.RowKit Go.Mine

abbrev bya (l : List UInt8) : ByteArray := ⟨l.toArray⟩
theorem bya_size (l : List UInt8) : (bya l).size = l.length := by simp [ByteArray.size]
theorem fld_list (l : List UInt8) (p n : Nat) : fld (bya l) p n = unnum ((l.drop p).take n) := by
  unfold fld
  rw [toList_extract, Nat.add_sub_cancel_left]
theorem fld_mid (a b : List UInt8) (v n p : Nat) (hp : a.length = p) (hv : v < 256 ^ n) : fld (bya (a ++ num v n ++ b)) p n = v := by
  rw [fld_list, ← hp, List.append_assoc, List.drop_left]
  have h := List.take_left (l₁ := num v n) (l₂ := b)
  rw [num_length] at h
  rw [h, unnum_num, Nat.mod_eq_of_lt hv]
theorem fld_in (l a b : List UInt8) (v n p : Nat) (hl : l = a ++ num v n ++ b) (hp : a.length = p) (hv : v < 256 ^ n) : fld (bya l) p n = v := by
  subst hl
  exact fld_mid a b v n p hp hv

def ParGood (l : List Int) : Prop := l.length ≤ 16 ∧ ∀ p ∈ l, 0 ≤ p ∧ p < 65536

set_option maxRecDepth 100000 in
theorem parLoop_told (post : List UInt8) (mid : List Int) : ∀ (k : Nat) (l : List Int) (x : Int) (pre : List UInt8) (s : List UInt8) (p : Nat), (∀ q ∈ mid, 0 ≤ q ∧ q < 65536) → 0 ≤ x → x < 65536 → mid.length < k → pre.length = p →
    s = pre ++ (midB mid ++ num (x.toNat + 2147483648) 4) ++ post → parLoop (bya s) k l (p, 0) = some (l ++ mid ++ [x]) := by
  induction mid with
  | nil =>
    intro k l x pre s p hm h0 h1 hk hp hs
    obtain ⟨k, rfl⟩ : ∃ k', k = k' + 1 := ⟨k - 1, by rw [List.length_nil] at hk; omega⟩
    have e : fld (bya s) p 4 = x.toNat + 2147483648 := fld_in s pre post _ 4 p (by rw [hs]; rfl) hp (by omega)
    have hz : p + 4 ≤ (bya s).size := by
      rw [bya_size, hs]
      simp only [List.length_append, num_length]
      omega
    have e3 : (((x.toNat + 2147483648) % 2147483648 : Nat) : Int) = x := by omega
    rw [parLoop, rdNum_fld (bya s) p 4 hz]
    simp only [e]
    rw [e3, if_neg (by decide), if_pos (by omega), List.append_nil]
  | cons q mid ih =>
    intro k l x pre s p hm h0 h1 hk hp hs
    obtain ⟨k, rfl⟩ : ∃ k', k = k' + 1 := ⟨k - 1, by omega⟩
    obtain ⟨q0, q1⟩ := hm q (by simp)
    have hs2 : s = pre ++ num q.toNat 4 ++ (midB mid ++ num (x.toNat + 2147483648) 4 ++ post) := by rw [hs]; simp only [midB, List.flatMap_cons, List.append_assoc]
    have e : fld (bya s) p 4 = q.toNat := fld_in s pre _ _ 4 p hs2 hp (by omega)
    have hz : p + 4 ≤ (bya s).size := by
      rw [bya_size, hs2]
      simp only [List.length_append, num_length]
      omega
    have e3 : ((q.toNat % 2147483648 : Nat) : Int) = q := by omega
    rw [parLoop, rdNum_fld (bya s) p 4 hz]
    simp only [e]
    rw [e3, if_neg (by decide), if_neg (by omega)]
    rw [ih k (l ++ [q]) x (pre ++ num q.toNat 4) s (p + 4) (fun z hz => hm z (List.mem_cons_of_mem _ hz)) h0 h1 (by rw [List.length_cons] at hk; omega) (by rw [List.length_append, num_length, hp]) (by rw [hs2]; simp only [List.append_assoc])]
    simp only [List.append_assoc, List.singleton_append, List.cons_append, List.nil_append]

/-- lists of parents by their length -/
theorem par_cases (l : List Int) : l = [] ∨ (∃ a, l = [a]) ∨ (∃ a b, l = [a, b]) ∨ ∃ a mid x, l = a :: (mid ++ [x]) ∧ mid ≠ [] := by
  rcases l with _ | ⟨a, _ | ⟨b, _ | ⟨c, l⟩⟩⟩
  · exact .inl rfl
  · exact .inr (.inl ⟨a, rfl⟩)
  · exact .inr (.inr (.inl ⟨a, b, rfl⟩))
  · refine .inr (.inr (.inr ⟨a, (b :: c :: l).dropLast, (b :: c :: l).getLast (by simp), ?_, by simp⟩))
    rw [List.dropLast_concat_getLast]
theorem edgeB_many (r : Rw) (a : Int) (mid : List Int) (x : Int) (h : r.par = a :: (mid ++ [x])) (hm : mid ≠ []) : edgeB r = midB mid ++ num (x.toNat + 2147483648) 4 := by
  have h1 : 0 < mid.length := List.length_pos_iff.2 hm
  unfold edgeB
  rw [if_pos (by rw [h]; simp; omega)]
  have e1 : (r.par.drop 1).take (r.par.length - 2) = mid := by
    rw [h]
    simp
  have e2 : r.par[r.par.length - 1]? = some x := by
    rw [h]
    simp
  rw [e1, e2]
  rfl

def RdPar (P : Nat → Nat → ByteArray → Option (List Int)) : Prop :=
  ∀ (r : Rw) (pre post s : List UInt8), ParGood r.par → pre.length % 4 = 0 → pre.length < 4294967296 → s = pre ++ edgeB r ++ post → P (firstN r) (secondN r pre.length) (bya s) = some r.par

theorem progPar_told : RdPar progPar := by
  intro r pre post s hg h4 hp hs
  obtain ⟨hl, hb⟩ := hg
  rcases par_cases r.par with h | ⟨a, h⟩ | ⟨a, b, h⟩ | ⟨a, mid, x, h, hm⟩
  · have e1 : firstN r = 4294967295 := by unfold firstN; rw [h]
    have e2 : secondN r pre.length = 4294967295 := by unfold secondN; rw [h]; simp
    rw [e1, e2, h]
    unfold progPar
    rw [if_pos rfl, if_pos rfl]
  · have e1 : firstN r = a.toNat := by unfold firstN; rw [h]
    have e2 : secondN r pre.length = 4294967295 := by unfold secondN; rw [h]; simp
    have ha := hb a (by rw [h]; simp)
    rw [e1, e2, h]
    unfold progPar
    rw [if_pos rfl, if_neg (by omega)]
    simp
    omega
  · have e1 : firstN r = a.toNat := by unfold firstN; rw [h]
    have e2 : secondN r pre.length = b.toNat := by unfold secondN; rw [h]; simp
    have ha := hb a (by rw [h]; simp)
    have hbb := hb b (by rw [h]; simp)
    rw [e1, e2, h]
    unfold progPar
    rw [if_neg (by omega), if_pos (by omega), if_neg (by omega)]
    simp
    omega
  · have h1 : 0 < mid.length := List.length_pos_iff.2 hm
    have e1 : firstN r = a.toNat := by unfold firstN; rw [h]
    have e2 : secondN r pre.length = 2147483648 + pre.length / 4 := by unfold secondN; rw [if_pos (by rw [h]; simp; omega)]
    have ha := hb a (by rw [h]; simp)
    have hx := hb x (by rw [h]; simp)
    have hlen : mid.length + 2 ≤ 16 := by rw [h] at hl; simp at hl; omega
    rw [edgeB_many r a mid x h hm] at hs
    rw [e1, e2, h]
    have e5 : 4 * (2147483648 + pre.length / 4 - 2147483648) = pre.length := by omega
    have hz : (bya s).size = pre.length + (4 * mid.length + 4) + post.length := by rw [bya_size, hs]; simp only [List.length_append, midB_length, num_length]
    have e6 : (bya s).extract pre.length (bya s).size = bya ([] ++ (midB mid ++ num (x.toNat + 2147483648) 4) ++ post) := by
      apply ext_list
      rw [toList_extract, hz]
      simp only [hs, List.append_assoc, List.drop_left]
      rw [List.take_of_length_le (by simp only [List.length_append, midB_length, num_length]; omega)]
      simp
    unfold progPar
    rw [if_neg (by omega), if_neg (by omega), if_neg (by rw [hz]; omega), if_neg (by omega), e5, e6]
    rw [parLoop_told post mid _ _ x [] _ 0 (fun q hq => hb q (by rw [h]; simp [hq])) hx.1 hx.2 (by simp; omega) rfl rfl]
    simp
    omega

/-- the document's reading of a row's parents -/
def refPar (first second : Nat) (edges : ByteArray) : Option (List Int) :=
  if first = 4294967295 then (if second = 4294967295 then some [] else none)
  else if second = 4294967295 then some [(first : Int)]
  else if second < 2147483648 then some [(first : Int), (second : Int)]
  else parLoop edges 16 [(first : Int)] (4 * (second - 2147483648), 0)

theorem refPar_told : RdPar refPar := by
  intro r pre post s hg h4 hp hs
  obtain ⟨hl, hb⟩ := hg
  rcases par_cases r.par with h | ⟨a, h⟩ | ⟨a, b, h⟩ | ⟨a, mid, x, h, hm⟩
  · have e1 : firstN r = 4294967295 := by unfold firstN; rw [h]
    have e2 : secondN r pre.length = 4294967295 := by unfold secondN; rw [h]; simp
    rw [e1, e2, h]
    unfold refPar
    rw [if_pos rfl, if_pos rfl]
  · have e1 : firstN r = a.toNat := by unfold firstN; rw [h]
    have e2 : secondN r pre.length = 4294967295 := by unfold secondN; rw [h]; simp
    have ha := hb a (by rw [h]; simp)
    rw [e1, e2, h]
    unfold refPar
    rw [if_neg (by omega), if_pos rfl]
    simp
    omega
  · have e1 : firstN r = a.toNat := by unfold firstN; rw [h]
    have e2 : secondN r pre.length = b.toNat := by unfold secondN; rw [h]; simp
    have ha := hb a (by rw [h]; simp)
    have hbb := hb b (by rw [h]; simp)
    rw [e1, e2, h]
    unfold refPar
    rw [if_neg (by omega), if_neg (by omega), if_pos (by omega)]
    simp
    omega
  · have h1 : 0 < mid.length := List.length_pos_iff.2 hm
    have e1 : firstN r = a.toNat := by unfold firstN; rw [h]
    have e2 : secondN r pre.length = 2147483648 + pre.length / 4 := by unfold secondN; rw [if_pos (by rw [h]; simp; omega)]
    have ha := hb a (by rw [h]; simp)
    have hx := hb x (by rw [h]; simp)
    have hlen : mid.length + 2 ≤ 16 := by rw [h] at hl; simp at hl; omega
    rw [edgeB_many r a mid x h hm] at hs
    rw [e1, e2, h]
    have e5 : 4 * (2147483648 + pre.length / 4 - 2147483648) = pre.length := by omega
    unfold refPar
    rw [if_neg (by omega), if_neg (by omega), if_neg (by omega), e5]
    rw [parLoop_told post mid _ _ x pre s pre.length (fun q hq => hb q (by rw [h]; simp [hq])) hx.1 hx.2 (by omega) rfl hs]
    simp
    omega

/-- a row read, with P for its parents -/
def rowG (P : Nat → Nat → ByteArray → Option (List Int)) (cA cE cN cB : ByteArray) (j last : Nat) : Option (Rw × Nat) :=
  match P (fld cA (15 * j + 4) 4) (fld cA (15 * j + 8) 4) cE with
  | none => none
  | some par =>
    if fld cN (4 * j) 4 < last then none else if cB.size < fld cN (4 * j) 4 then none else
    some (⟨par, fld cA (15 * j) 4, fld cA (15 * j + 12) 2, fld cA (15 * j + 14) 1, cB.extract last (fld cN (4 * j) 4)⟩, fld cN (4 * j) 4)

theorem tellT_ext (l k : List Rw) : ∃ a b c d, tellT (l ++ k) = ⟨(tellT l).R ++ a, (tellT l).E ++ b, (tellT l).N ++ c, (tellT l).B ++ d⟩ := by
  induction k generalizing l with
  | nil => exact ⟨[], [], [], [], by simp⟩
  | cons x k ih =>
    obtain ⟨a, b, c, d, h⟩ := ih (l ++ [x])
    rw [List.append_assoc, List.singleton_append, tellT_snoc] at h
    exact ⟨rowB x (tellT l).E.length ++ a, edgeB x ++ b, num ((tellT l).B ++ x.bits.data.toList).length 4 ++ c, x.bits.data.toList ++ d, by rw [h]; simp only [stepT, List.append_assoc]⟩
theorem tellT_E4 (l : List Rw) : (tellT l).E.length % 4 = 0 := by
  refine foldl_snocInd stepT (fun l t => t.E.length % 4 = 0) _ rfl (fun l x c h => ?_) l
  simp only [stepT, List.length_append]
  unfold edgeB
  split
  · simp only [List.length_append, midB_length, num_length]; omega
  · simpa using h

def RwGood (r : Rw) : Prop := 0 ≤ r.tree ∧ r.tree < 65536 ∧ 0 ≤ r.gen ∧ r.gen < 65536 ∧ 0 ≤ r.state ∧ r.state < 256 ∧ ParGood r.par

theorem firstN_lt (r : Rw) (h : ParGood r.par) : firstN r < 4294967296 := by
  unfold firstN
  cases hp : r.par with
  | nil => simp
  | cons p l => have := h.2 p (by rw [hp]; simp); simp only; omega
theorem secondN_lt (r : Rw) (e : Nat) (h : ParGood r.par) (he : e < 4294967296) : secondN r e < 4294967296 := by
  unfold secondN
  split
  · omega
  · split
    · rename_i h2
      have h3 : r.par[1]? = some r.par[1] := List.getElem?_eq_getElem (by omega)
      rw [h3]
      have := h.2 r.par[1] (List.getElem_mem _)
      simp only [Option.getD_some]
      omega
    · decide

set_option maxRecDepth 100000 in
theorem rowG_told (P : Nat → Nat → ByteArray → Option (List Int)) (hP : RdPar P) (rows : List Rw) (j : Nat) (r : Rw) (hj : rows[j]? = some r) (hr : RwGood r) (hE : (tellT (rows.take j)).E.length < 4294967296) (hB : (tellT rows).B.length ≤ 4194304) :
    rowG P (bya (tellT rows).R) (bya (tellT rows).E) (bya (tellT rows).N) (bya (tellT rows).B) j (tellT (rows.take j)).B.length = some (r, (tellT (rows.take (j + 1))).B.length) := by
  obtain ⟨g0, g1, g2, g3, g4, g5, gp⟩ := hr
  have hlt := (List.getElem?_eq_some_iff.1 hj).1
  obtain ⟨a, b, c, d, h⟩ := tellT_ext (rows.take (j + 1)) (rows.drop (j + 1))
  rw [List.take_append_drop, tellT_take rows j r hj] at h
  rw [tellT_take rows j r hj]
  have hR := tellT_R (rows.take j)
  have hN := tellT_N (rows.take j)
  have h4 := tellT_E4 (rows.take j)
  rw [List.length_take_of_le (by omega)] at hR hN
  generalize tellT (rows.take j) = T at *
  rw [h] at hB ⊢
  simp only [stepT] at hB ⊢
  have hb0 : (T.B ++ r.bits.data.toList ++ d).length = T.B.length + r.bits.size + d.length := by rw [List.length_append, List.length_append, Array.length_toList]; rfl
  have hb1 : (T.B ++ r.bits.data.toList).length = T.B.length + r.bits.size := by rw [List.length_append, Array.length_toList]; rfl
  have e0 : fld (bya (T.R ++ rowB r T.E.length ++ a)) (15 * j) 4 = r.tree.toNat := fld_in _ T.R (num (firstN r) 4 ++ num (secondN r T.E.length) 4 ++ num r.gen.toNat 2 ++ num r.state.toNat 1 ++ a) _ 4 _ (by simp [rowB]) hR (by omega)
  have e1 : fld (bya (T.R ++ rowB r T.E.length ++ a)) (15 * j + 4) 4 = firstN r := fld_in _ (T.R ++ num r.tree.toNat 4) (num (secondN r T.E.length) 4 ++ num r.gen.toNat 2 ++ num r.state.toNat 1 ++ a) _ 4 _ (by simp [rowB]) (by simp [num_length, hR]) (firstN_lt r gp)
  have e2 : fld (bya (T.R ++ rowB r T.E.length ++ a)) (15 * j + 8) 4 = secondN r T.E.length := fld_in _ (T.R ++ num r.tree.toNat 4 ++ num (firstN r) 4) (num r.gen.toNat 2 ++ num r.state.toNat 1 ++ a) _ 4 _ (by simp [rowB]) (by simp [num_length, hR]) (secondN_lt r _ gp hE)
  have e3 : fld (bya (T.R ++ rowB r T.E.length ++ a)) (15 * j + 12) 2 = r.gen.toNat := fld_in _ (T.R ++ num r.tree.toNat 4 ++ num (firstN r) 4 ++ num (secondN r T.E.length) 4) (num r.state.toNat 1 ++ a) _ 2 _ (by simp [rowB]) (by simp [num_length, hR]) (by omega)
  have e4 : fld (bya (T.R ++ rowB r T.E.length ++ a)) (15 * j + 14) 1 = r.state.toNat := fld_in _ (T.R ++ num r.tree.toNat 4 ++ num (firstN r) 4 ++ num (secondN r T.E.length) 4 ++ num r.gen.toNat 2) a _ 1 _ (by simp [rowB]) (by simp [num_length, hR]) (by omega)
  have e5 : fld (bya (T.N ++ num (T.B ++ r.bits.data.toList).length 4 ++ c)) (4 * j) 4 = (T.B ++ r.bits.data.toList).length := fld_in _ T.N c _ 4 _ rfl hN (by omega)
  have e6 : (bya (T.B ++ r.bits.data.toList ++ d)).extract T.B.length (T.B ++ r.bits.data.toList).length = r.bits := by
    apply ext_list
    rw [toList_extract, hb1, Nat.add_sub_cancel_left, List.append_assoc, List.drop_left]
    exact List.take_left
  unfold rowG
  rw [e0, e1, e2, e3, e4, e5, hP r T.E b _ gp h4 hE rfl]
  simp only
  rw [if_neg (by omega), if_neg (by rw [bya_size]; omega), e6]
  have z0 : ((r.tree.toNat : Nat) : Int) = r.tree := by omega
  have z1 : ((r.gen.toNat : Nat) : Int) = r.gen := by omega
  have z2 : ((r.state.toNat : Nat) : Int) = r.state := by omega
  rw [z0, z1, z2]

def rowsG (P : Nat → Nat → ByteArray → Option (List Int)) (cA cE cN cB : ByteArray) : Nat → Nat → Nat → List Rw → Option (List Rw)
  | 0, _, _, l => some l
  | k + 1, j, last, l => match rowG P cA cE cN cB j last with
    | none => none
    | some (r, nx) => rowsG P cA cE cN cB k (j + 1) nx (l ++ [r])

theorem rowsG_told (P : Nat → Nat → ByteArray → Option (List Int)) (hP : RdPar P) (rows : List Rw) (hr : ∀ r ∈ rows, RwGood r) (hE : ∀ j, (tellT (rows.take j)).E.length < 4294967296) (hB : (tellT rows).B.length ≤ 4194304) :
    ∀ k j, j + k = rows.length → rowsG P (bya (tellT rows).R) (bya (tellT rows).E) (bya (tellT rows).N) (bya (tellT rows).B) k j (tellT (rows.take j)).B.length (rows.take j) = some rows
  | 0, j, hj => by rw [rowsG, List.take_of_length_le (by omega)]
  | k + 1, j, hj => by
    have h1 : rows[j]? = some rows[j] := List.getElem?_eq_getElem (by omega)
    rw [rowsG, rowG_told P hP rows j rows[j] h1 (hr _ (List.getElem_mem _)) (hE j) hB]
    simp only
    have h2 : rows.take j ++ [rows[j]] = rows.take (j + 1) := by rw [List.take_add_one, h1]; rfl
    rw [h2]
    exact rowsG_told P hP rows hr hE hB k (j + 1) (by omega)

theorem progRow_rowG (cA cE cN cB : ByteArray) (j la : Nat) (hA : 15 * j + 15 ≤ cA.size) (hN : 4 * j + 4 ≤ cN.size) : progRow cA cE cN cB j la = rowG progPar cA cE cN cB j la := by
  unfold progRow rowG
  rw [if_neg (by omega)]
  cases progPar (fld cA (15 * j + 4) 4) (fld cA (15 * j + 8) 4) cE with
  | none => rfl
  | some par => simp only; rw [if_neg (by omega)]
theorem progRows_rowsG (cA cE cN cB : ByteArray) : ∀ (k j la : Nat) (l : List Rw), 15 * (j + k) ≤ cA.size → 4 * (j + k) ≤ cN.size → progRows cA cE cN cB k j la l = rowsG progPar cA cE cN cB k j la l
  | 0, _, _, _, _, _ => rfl
  | k + 1, j, la, l, hA, hN => by
    rw [progRows, rowsG, progRow_rowG cA cE cN cB j la (by omega) (by omega)]
    cases rowG progPar cA cE cN cB j la with
    | none => rfl
    | some q => exact progRows_rowsG cA cE cN cB k (j + 1) q.2 (l ++ [q.1]) (by omega) (by omega)

def headR (h : ByteArray) (rows : List Rw) : Gr := ⟨fld h 0 4, fld h 8 1, fld h 9 1, fld h 10 2, fld h 12 4, rows⟩
/-- the document's reading of chunks -/
def refR : List Ch → Option Gr
  | [(_, h), (_, a), (_, e), (_, n), (_, b)] => if h.size ≠ 16 ∨ a.size % 15 ≠ 0 ∨ n.size % 4 ≠ 0 ∨ a.size / 15 ≠ n.size / 4 then none else (rowsG refPar a e n b (n.size / 4) 0 0 []).map fun rows => headR h rows
  | _ => none

theorem good_rows {g : Gr} (hg : goodG g) : ∀ r ∈ g.rows, RwGood r := by
  intro r hr
  obtain ⟨i, hi⟩ := List.getElem?_of_mem hr
  obtain ⟨⟨n0, n1, n2⟩, -, hrow⟩ := hg
  obtain ⟨h1, h2, h3, h4, h5, h6, h7⟩ := hrow i r hi
  have h8 := goodF_state h7
  have hlt := (List.getElem?_eq_some_iff.1 hi).1
  exact ⟨h2, h3, by omega, by omega, h8.1, by omega, h1, fun p hp => by have := goodP_bound h6 p hp; omega⟩
theorem good_edges {g : Gr} (hg : goodG g) (j : Nat) : (tellT (g.rows.take j)).E.length < 4294967296 := by
  have h1 := tellT_E (g.rows.take j) fun r hr => (good_rows hg r (List.mem_of_mem_take hr)).2.2.2.2.2.2.1
  have h2 : (g.rows.take j).length ≤ g.rows.length := by simp; omega
  obtain ⟨⟨n0, n1, n2⟩, -, -⟩ := hg
  omega

theorem head_told (g : Gr) (hg : goodG g) (hs : g.seed < 4294967296) : headR (bya (headB g)) g.rows = g ∧ fld (bya (headB g)) 4 4 = g.rows.length ∧ (bya (headB g)).size = 16 := by
  obtain ⟨⟨n0, n1, n2⟩, ⟨s0, s1, s2, s3, s4, s5⟩, -⟩ := hg
  have e0 : fld (bya (headB g)) 0 4 = g.base.toNat := fld_in _ [] (num g.rows.length 4 ++ num g.h.toNat 1 ++ num g.p.toNat 1 ++ num g.m.toNat 2 ++ num g.seed 4) _ 4 _ (by simp [headB]) rfl (by omega)
  have e1 : fld (bya (headB g)) 4 4 = g.rows.length := fld_in _ (num g.base.toNat 4) (num g.h.toNat 1 ++ num g.p.toNat 1 ++ num g.m.toNat 2 ++ num g.seed 4) _ 4 _ (by simp [headB]) (by simp [num_length]) (by omega)
  have e2 : fld (bya (headB g)) 8 1 = g.h.toNat := fld_in _ (num g.base.toNat 4 ++ num g.rows.length 4) (num g.p.toNat 1 ++ num g.m.toNat 2 ++ num g.seed 4) _ 1 _ (by simp [headB]) (by simp [num_length]) (by omega)
  have e3 : fld (bya (headB g)) 9 1 = g.p.toNat := fld_in _ (num g.base.toNat 4 ++ num g.rows.length 4 ++ num g.h.toNat 1) (num g.m.toNat 2 ++ num g.seed 4) _ 1 _ (by simp [headB]) (by simp [num_length]) (by omega)
  have e4 : fld (bya (headB g)) 10 2 = g.m.toNat := fld_in _ (num g.base.toNat 4 ++ num g.rows.length 4 ++ num g.h.toNat 1 ++ num g.p.toNat 1) (num g.seed 4) _ 2 _ (by simp [headB]) (by simp [num_length]) (by omega)
  have e5 : fld (bya (headB g)) 12 4 = g.seed := fld_in _ (num g.base.toNat 4 ++ num g.rows.length 4 ++ num g.h.toNat 1 ++ num g.p.toNat 1 ++ num g.m.toNat 2) [] _ 4 _ (by simp [headB]) (by simp [num_length]) (by omega)
  refine ⟨?_, e1, by rw [bya_size]; simp [headB, num_length]⟩
  unfold headR
  rw [e0, e2, e3, e4, e5]
  have z0 : ((g.base.toNat : Nat) : Int) = g.base := by omega
  have z1 : ((g.h.toNat : Nat) : Int) = g.h := by omega
  have z2 : ((g.p.toNat : Nat) : Int) = g.p := by omega
  have z3 : ((g.m.toNat : Nat) : Int) = g.m := by omega
  rw [z0, z1, z2, z3]

theorem datC_told (g : Gr) : datC (chunksG g) 1 = bya (headB g) ∧ datC (chunksG g) 2 = bya (tellT g.rows).R ∧ datC (chunksG g) 3 = bya (tellT g.rows).E ∧ datC (chunksG g) 4 = bya (tellT g.rows).N ∧ datC (chunksG g) 5 = bya (tellT g.rows).B := by
  refine ⟨?_, ?_, ?_, ?_, ?_⟩ <;> simp [datC, findCh, chunksG, List.find?]

/-- what is told of a good graph is read as it was -/
theorem told_read (g : Gr) (hg : goodG g) (hs : g.seed < 4294967296) (hB : (tellT g.rows).B.length ≤ 4194304) : progR (chunksG g) = some g ∧ refR (chunksG g) = some g := by
  obtain ⟨d1, d2, d3, d4, d5⟩ := datC_told g
  obtain ⟨h1, h2, h3⟩ := head_told g hg hs
  have hA : (bya (tellT g.rows).R).size = 15 * g.rows.length := by rw [bya_size, tellT_R]
  have hN : (bya (tellT g.rows).N).size = 4 * g.rows.length := by rw [bya_size, tellT_N]
  have hq : ∀ P, RdPar P → rowsG P (bya (tellT g.rows).R) (bya (tellT g.rows).E) (bya (tellT g.rows).N) (bya (tellT g.rows).B) g.rows.length 0 0 [] = some g.rows := fun P hP => by
    have := rowsG_told P hP g.rows (good_rows hg) (good_edges hg) hB g.rows.length 0 (by omega)
    simpa [tellT] using this
  constructor
  · unfold progR
    rw [d1, d2, d3, d4, d5, h2, if_neg (by omega), progRows_rowsG _ _ _ _ _ _ _ _ (by omega) (by omega), hq _ progPar_told]
    simp only [Option.map_some]
    exact congrArg some h1
  · unfold refR chunksG
    simp only
    rw [if_neg (by rw [hA, hN, h3]; omega), hN, Nat.mul_div_cancel_left _ (by decide), hq _ refPar_told]
    simp only [Option.map_some]
    exact congrArg some h1

theorem encG_ok (g : Gr) (t : ByteArray) (h : encG g = .tuple #[.string t, .int .i64 0]) : goodG g ∧ (tellT g.rows).B.length ≤ 4194304 ∧ buildErr (chunksG g) = 0 ∧ built (chunksG g) = t := by
  unfold encG at h
  split at h
  · rename_i h1
    have hg : goodG g := by
      unfold grErr at h1
      split at h1
      · assumption
      · simp at h1
    split at h
    · simp at h
    · unfold buildV at h
      split at h
      · rename_i h2 h3
        simp only [Value.tuple.injEq, Array.mk.injEq, List.cons.injEq, Value.string.injEq, and_true] at h
        exact ⟨hg, by omega, h3, h⟩
      · rename_i h2 h3
        exfalso
        simp only [Value.tuple.injEq, Array.mk.injEq, List.cons.injEq, Value.int.injEq, and_true, true_and] at h
        omega
  · simp at h

open Classical in
noncomputable def decR (t : ByteArray) : Except Nat Gr := match parseR t with
  | .error k => .error k
  | .ok l => match progR l with
    | none => .error 3
    | some g => if encG g = .tuple #[.string t, .int .i64 0] then .ok g else .error 3
open Classical in
noncomputable def rdecR (t : ByteArray) : Except Nat Gr := match parseR t with
  | .error k => .error k
  | .ok l => match refR l with
    | none => .error 3
    | some g => if encG g = .tuple #[.string t, .int .i64 0] then .ok g else .error 3

theorem chunksG_rising (g : Gr) : Rising (chunksG g) := by
  unfold Rising chunksG
  simp
theorem chunksG_small (g : Gr) (h : buildErr (chunksG g) = 0) : Small (chunksG g) := by
  intro c hc
  obtain ⟨-, -, b⟩ := (buildErr_iff _).1 h
  have h1 := size_le_data _ c hc
  refine ⟨?_, by omega⟩
  simp only [chunksG, List.mem_cons, List.not_mem_nil, or_false] at hc
  rcases hc with rfl | rfl | rfl | rfl | rfl <;> simp

/-- chunks of which a text is built that a graph has: that graph's -/
theorem chunks_of (t : ByteArray) (l : List Ch) (g : Gr) (hp : parseR t = .ok l) (h : encG g = .tuple #[.string t, .int .i64 0]) : l = chunksG g := by
  obtain ⟨-, -, h3, h4⟩ := encG_ok g t h
  have h5 := parse_built (chunksG g) h3 (chunksG_small g h3)
  rw [h4, hp, sortCh_rise _ (chunksG_rising g)] at h5
  exact Except.ok.inj h5

theorem refR_seed (l : List Ch) (g : Gr) (h : refR l = some g) : g.seed < 4294967296 := by
  unfold refR at h
  split at h
  · split at h
    · simp at h
    · rename_i h1
      obtain ⟨rows, -, rfl⟩ := Option.map_eq_some_iff.1 h
      exact fld_lt _ 12 4 (by omega)
  · simp at h
theorem progR_seed (l : List Ch) (g : Gr) (h : progR l = some g) : g.seed < 4294967296 := by
  unfold progR at h
  split at h
  · simp at h
  · rename_i h1
    obtain ⟨rows, -, rfl⟩ := Option.map_eq_some_iff.1 h
    exact fld_lt _ 12 4 (by omega)

/-- the document's answer is the program's -/
theorem dec_same (t : ByteArray) : rdecR t = decR t := by
  unfold rdecR decR
  cases hp : parseR t with
  | error k => rfl
  | ok l =>
    have key : ∀ g : Gr, g.seed < 4294967296 → encG g = .tuple #[.string t, .int .i64 0] → progR l = some g ∧ refR l = some g := fun g hs h => by
      rw [chunks_of t l g hp h]
      obtain ⟨h1, h2, -, -⟩ := encG_ok g t h
      exact told_read g h1 hs h2
    simp only
    cases h1 : refR l with
    | some g =>
      by_cases h2 : encG g = .tuple #[.string t, .int .i64 0]
      · rw [(key g (refR_seed l g h1) h2).1]
      · simp only [if_neg h2]
        cases h3 : progR l with
        | none => rfl
        | some g' =>
          simp only
          rw [if_neg fun q => h2 ?_]
          have := (key g' (progR_seed l g' h3) q).2
          rw [h1] at this
          obtain rfl := Option.some.inj this
          exact q
    | none =>
      cases h3 : progR l with
      | none => rfl
      | some g' =>
        simp only
        rw [if_neg fun q => ?_]
        have := (key g' (progR_seed l g' h3) q).2
        rw [h1] at this
        simp at this

def DecPost (w : World) (r : Except Nat Gr) (e : Ending) (w' : World) : Prop :=
  Turned (fun _ => False) w w' ∧ match r with
    | .error k => e = .returned (.tuple #[.agg zeroG, .int .i64 (k : Nat)])
    | .ok g => ∃ a c, e = .returned (.tuple #[grv a c g, .int .i64 0]) ∧ NewRows w' (fun b => w.heap.size ≤ b) (fun b => w.heap.size ≤ b) (.slice a g.rows.length c) g.rows

theorem parse_err (t : ByteArray) (k : Nat) (h : parseR t = .error k) : k ≠ 0 := by
  unfold parseR at h
  intro hk
  subst hk
  repeat' split at h
  all_goals first
    | (simp at h; done)
    | (revert h; cases progT (t.extract 5 (t.size - 4)) <;> simp [finR])

theorem datC_le (l : List Ch) (id : Nat) : (datC l id).size ≤ dataSize l := by
  unfold datC findCh
  induction l with
  | nil => exact Nat.le_refl _
  | cons c l ih =>
    rw [List.find?_cons]
    by_cases hc : c.1 = id
    · simp [hc, dataSize]
    · simp only [hc, decide_false]
      rw [dataSize]
      omega

theorem six_same (w : World) (p : Nat) (x0 x1 x2 x3 x4 x5 y0 y1 y2 y3 y4 y5 : Value) (h : w.heap[p]? = some (.cells #[x0, x1, x2, x3, x4, x5] 40 (0, 0))) : (((((((w.setCell ⟨p, 0, none⟩ (y0)).setCell ⟨p, 1, none⟩ (y1)).setCell ⟨p, 2, none⟩ (y2)).setCell ⟨p, 3, none⟩ (y3)).setCell ⟨p, 4, none⟩ (y4)).setCell ⟨p, 5, none⟩ (y5))).heap[p]? = some (.cells #[y0, y1, y2, y3, y4, y5] 40 (0, 0)) :=
  (Go.Mine.heap_setCell_same (Go.Mine.heap_setCell_same (Go.Mine.heap_setCell_same (Go.Mine.heap_setCell_same (Go.Mine.heap_setCell_same (Go.Mine.heap_setCell_same h _) _) _) _) _) _)
theorem six_turned (w : World) (p : Nat) (y0 y1 y2 y3 y4 y5 : Value) : Turned (· = p) w (((((((w.setCell ⟨p, 0, none⟩ (y0)).setCell ⟨p, 1, none⟩ (y1)).setCell ⟨p, 2, none⟩ (y2)).setCell ⟨p, 3, none⟩ (y3)).setCell ⟨p, 4, none⟩ (y4)).setCell ⟨p, 5, none⟩ (y5))) :=
  (((((((Turned.refl (· = p) w).set (p := ⟨p, 0, none⟩) rfl _).set (p := ⟨p, 1, none⟩) rfl _).set (p := ⟨p, 2, none⟩) rfl _).set (p := ⟨p, 3, none⟩) rfl _).set (p := ⟨p, 4, none⟩) rfl _).set (p := ⟨p, 5, none⟩) rfl _)
theorem heap_drew_at (w : World) (b : Nat) : w.drew.heap[b]? = w.heap[b]? := rfl
theorem encG_form (g : Gr) : ∃ (s : ByteArray) (k : Nat), encG g = .tuple #[.string s, .int .i64 (k : Nat)] := by
  unfold encG
  split
  · split
    · exact ⟨_, 5, rfl⟩
    · unfold buildV
      split
      · exact ⟨_, 0, rfl⟩
      · exact ⟨_, _, rfl⟩
  · exact ⟨_, 1, rfl⟩

theorem rowG_ok (P : Nat → Nat → ByteArray → Option (List Int)) (hP : ∀ f s E l, f < 4294967296 → P f s E = some l → ParOk l) (cA cE cN cB : ByteArray) (j la : Nat) (r : Rw) (nx : Nat) (hA : 15 * j + 15 ≤ cA.size) (hB : cB.size ≤ 4194304) (h : rowG P cA cE cN cB j la = some (r, nx)) : RdOk r := by
  unfold rowG at h
  have k0 := fld_lt cA (15 * j) 4 (by omega)
  have k1 := fld_lt cA (15 * j + 4) 4 (by omega)
  have k2 := fld_lt cA (15 * j + 12) 2 (by omega)
  have k3 := fld_lt cA (15 * j + 14) 1 (by omega)
  split at h
  · simp at h
  · rename_i par hp
    have hpo := hP _ _ _ _ k1 hp
    split at h
    · simp at h
    · split at h
      · simp at h
      · obtain ⟨rfl, rfl⟩ := Prod.mk.inj (Option.some.inj h)
        refine ⟨⟨?_, ?_, ?_, ?_⟩, hpo⟩
        · simp only [I64]; omega
        · simp only [I64]; omega
        · simp only [I64]; omega
        · simp only [ByteArray.size_extract]; omega
theorem refPar_ok (f s : Nat) (E : ByteArray) (l : List Int) (hf : f < 4294967296) (h : refPar f s E = some l) : ParOk l := by
  unfold refPar at h
  have h0 : ∀ x ∈ [(f : Int)], I64 x := fun x hx => by
    rw [List.mem_singleton] at hx; subst hx; unfold I64; omega
  split at h
  · split at h
    · obtain rfl := Option.some.inj h
      exact ⟨fun x hx => by simp at hx, by simp⟩
    · simp at h
  · split at h
    · obtain rfl := Option.some.inj h
      exact ⟨h0, by simp⟩
    · split at h
      · obtain rfl := Option.some.inj h
        refine ⟨fun x hx => ?_, by simp⟩
        simp only [List.mem_cons, List.not_mem_nil, or_false] at hx
        rcases hx with rfl | rfl <;> (unfold I64; omega)
      · exact parLoop_ok _ _ _ _ _ h h0 (by simp)
end Go.Proofs.Ytfeljngmidhajaa

namespace Go.Proofs.Ytfeljngmidhajaa
open Go.RowKit Go.Mine

theorem dec_end (w1 : World) (p q : Nat) (x k : Value) (x0 x1 x2 x3 x4 x5 : Value) (hne : p ≠ q) (h1 : w1.heap[p]? = some (.cells #[x0, x1, x2, x3, x4, x5] 40 (0, 0))) (h2 : w1.heap[q]? = some (.cells #[x] 25 (0, 0))) :
    (((((((((w1.setCell ⟨q, 0, none⟩ k).setCell ⟨p, 0, none⟩ (.int .i64 0)).setCell ⟨p, 1, none⟩ (.int .i64 0)).setCell ⟨p, 2, none⟩ (.int .i64 0)).setCell ⟨p, 3, none⟩ (.int .i64 0)).setCell ⟨p, 4, none⟩ (.int .u32 0)).setCell ⟨p, 5, none⟩ (.slice none 0 0)).setCell ⟨q, 0, none⟩ k).drew).heap[p]? = some (.cells #[.int .i64 0, .int .i64 0, .int .i64 0, .int .i64 0, .int .u32 0, .slice none 0 0] 40 (0, 0)) ∧ (((((((((w1.setCell ⟨q, 0, none⟩ k).setCell ⟨p, 0, none⟩ (.int .i64 0)).setCell ⟨p, 1, none⟩ (.int .i64 0)).setCell ⟨p, 2, none⟩ (.int .i64 0)).setCell ⟨p, 3, none⟩ (.int .i64 0)).setCell ⟨p, 4, none⟩ (.int .u32 0)).setCell ⟨p, 5, none⟩ (.slice none 0 0)).setCell ⟨q, 0, none⟩ k).drew).heap[q]? = some (.cells #[k] 25 (0, 0)) ∧ Turned (fun b => b = p ∨ b = q) w1 (((((((((w1.setCell ⟨q, 0, none⟩ k).setCell ⟨p, 0, none⟩ (.int .i64 0)).setCell ⟨p, 1, none⟩ (.int .i64 0)).setCell ⟨p, 2, none⟩ (.int .i64 0)).setCell ⟨p, 3, none⟩ (.int .i64 0)).setCell ⟨p, 4, none⟩ (.int .u32 0)).setCell ⟨p, 5, none⟩ (.slice none 0 0)).setCell ⟨q, 0, none⟩ k).drew) := by
  have a1 : ((w1.setCell ⟨q, 0, none⟩ k)).heap[p]? = some (.cells #[x0, x1, x2, x3, x4, x5] 40 (0, 0)) := (Go.Mine.heap_setCell_ne _ hne).trans h1
  have a2 : ((w1.setCell ⟨q, 0, none⟩ k)).heap[q]? = some (.cells #[k] 25 (0, 0)) := Go.Mine.heap_setCell_same h2 _
  have a3 : Turned (fun b => b = p ∨ b = q) w1 ((w1.setCell ⟨q, 0, none⟩ k)) := (Turned.refl (fun b => b = p ∨ b = q) w1).set (p := ⟨q, 0, none⟩) (.inr rfl) _
  generalize (w1.setCell ⟨q, 0, none⟩ k) = wA at *
  have b1 := six_same wA p _ _ _ _ _ _ (.int .i64 0) (.int .i64 0) (.int .i64 0) (.int .i64 0) (.int .u32 0) (.slice none 0 0) a1
  have b3 := six_turned wA p (.int .i64 0) (.int .i64 0) (.int .i64 0) (.int .i64 0) (.int .u32 0) (.slice none 0 0)
  have b2 := (b3.block q (lt_of_block a2) (fun z => hne z.symm)).trans a2
  generalize ((((((wA.setCell ⟨p, 0, none⟩ (.int .i64 0)).setCell ⟨p, 1, none⟩ (.int .i64 0)).setCell ⟨p, 2, none⟩ (.int .i64 0)).setCell ⟨p, 3, none⟩ (.int .i64 0)).setCell ⟨p, 4, none⟩ (.int .u32 0)).setCell ⟨p, 5, none⟩ (.slice none 0 0)) = wB at *
  rw [heap_drew_at, heap_drew_at]
  have c1 := (Go.Mine.heap_setCell_ne (w := wB) (a := ⟨q, 0, none⟩) k hne).trans b1
  have c2 : (wB.setCell ⟨q, 0, none⟩ k).heap[q]? = some (.cells #[k] 25 (0, 0)) := Go.Mine.heap_setCell_same b2 k
  exact ⟨c1, c2, ((a3.trans b3 (fun _ _ z => .inl z)).set (p := ⟨q, 0, none⟩) (.inr rfl) _).draw⟩

set_option maxRecDepth 100000 in
set_option maxHeartbeats 4000000 in
theorem decode_err (t : ByteArray) (k : Nat) (w : World) (hs : t.size ≤ 4611686018427387904) (hpr : parseR t = .error k) : Calls Try.prog 34 #[.string t] w (DecPost w (.error k)) := by
  have hmf : ∀ (fn : Fn) (first cap : Array Value) (w : World), (Instr.makeFunc fn first cap).run Try.prog w = .ok (.func fn first cap) w := fun _ _ _ _ => rfl
  have hp := fun W => parse_any t W hs
  have hk := parse_err t k hpr
  rw [hpr] at hp
  have hd := int_neb (k : Int) 0 (by omega)
  have hd2 := int_bne2 (k : Int) 0 (by omega)
  clear hk hpr hs
  go_enter_defers Try.func34, Try.ntmps34
  go_wp2_with (go_at_call 29; (with_reducible refine (hp _).mono ?_); rintro e w1 ⟨ht, rfl⟩; have A1 : Hid (w1.heap[w.heap.size]? = some (.cells #[.int .i64 0, .int .i64 0, .int .i64 0, .int .i64 0, .int .u32 0, .slice none 0 0] 40 (0, 0)) ∧ w1.heap[w.heap.size + 1]? = some (.cells #[.int .i64 0] 25 (0, 0)) ∧ Turned (fun _ => False) w w1) := ⟨(ht.block _ (by simp; omega) id).trans (Go.Mine.heap_alloc_old (heap_alloc_last w _)), (ht.block _ (by simp) id).trans (by simpa using heap_alloc_last (w.alloc _) _), (((Turned.refl (fun _ => False) w).new _).new _).trans ht (fun _ _ q => q)⟩; clear ht; have c0 := cell_of A1.out.1 0 _ rfl; have c1 := cell_of A1.out.1 1 _ rfl; have c2 := cell_of A1.out.1 2 _ rfl; have c3 := cell_of A1.out.1 3 _ rfl; have c4 := cell_of A1.out.1 4 _ rfl; have c5 := cell_of A1.out.1 5 _ rfl; have f0 := free_of A1.out.1 0; have f1 := free_of A1.out.1 1; have f2 := free_of A1.out.1 2; have f3 := free_of A1.out.1 3; have f4 := free_of A1.out.1 4; have f5 := free_of A1.out.1 5; have d0 := cell_of A1.out.2.1 0 _ rfl; have g0 := free_of A1.out.2.1 0; have l0 := lt_of_block A1.out.1; have l1 := lt_of_block A1.out.2.1)
  go_region
  all_goals go_wp2
  have key := dec_end w1 w.heap.size (w.heap.size + 1) (.int .i64 0) (.int .i64 (k : Nat)) _ _ _ _ _ _ (by omega) A1.out.1 A1.out.2.1
  revert key
  generalize ((((((((w1.setCell ⟨w.heap.size + 1, 0, none⟩ (.int .i64 (k : Nat))).setCell ⟨w.heap.size, 0, none⟩ (.int .i64 0)).setCell ⟨w.heap.size, 1, none⟩ (.int .i64 0)).setCell ⟨w.heap.size, 2, none⟩ (.int .i64 0)).setCell ⟨w.heap.size, 3, none⟩ (.int .i64 0)).setCell ⟨w.heap.size, 4, none⟩ (.int .u32 0)).setCell ⟨w.heap.size, 5, none⟩ (.slice none 0 0)).setCell ⟨w.heap.size + 1, 0, none⟩ (.int .i64 (k : Nat))).drew = wE
  intro key
  have TT : Turned (fun _ => False) w wE := A1.out.2.2.comp key.2.2 fun b hb z => z.elim id fun z => by omega
  have KK : Hid (wE.heap[w.heap.size]? = some (.cells #[.int .i64 0, .int .i64 0, .int .i64 0, .int .i64 0, .int .u32 0, .slice none 0 0] 40 (0, 0)) ∧ wE.heap[w.heap.size + 1]? = some (.cells #[.int .i64 (k : Nat)] 25 (0, 0)) ∧ Turned (fun _ => False) w wE) := ⟨key.1, key.2.1, TT⟩
  have r0 := cell_of key.1 0 _ rfl
  have r1 := cell_of key.1 1 _ rfl
  have r2 := cell_of key.1 2 _ rfl
  have r3 := cell_of key.1 3 _ rfl
  have r4 := cell_of key.1 4 _ rfl
  have r5 := cell_of key.1 5 _ rfl
  have r6 := cell_of key.2.1 0 _ rfl
  clear key TT A1 c0 c1 c2 c3 c4 c5 d0 f0 f1 f2 f3 f4 f5 g0 l0 l1 hp hmf hd hd2
  simp only [List.getElem_toArray, List.getElem_cons_zero, List.getElem_cons_succ] at r0 r1 r2 r3 r4 r5 r6
  simp [bodyPostD, Leaves, settle, results, Try.results34, go_sem, r0, r1, r2, r3, r4, r5, r6]
  exact ⟨KK.out.2.2, rfl⟩
set_option maxRecDepth 100000 in
set_option maxHeartbeats 4000000 in
theorem decode_no (t : ByteArray) (l : List Ch) (L : Nat) (w : World)
    (P1 : Hid (∀ W, Calls Try.prog 29 #[.string t] W fun e w' => Turned (fun _ => False) W w' ∧ ∃ a cap, e = .returned (.tuple #[.slice a L cap, .int .i64 0]) ∧ Sl w' (fun b => W.heap.size ≤ b) 31 2 (.slice a L cap) (ccells l) L))
    (HRD : Hid (∀ W S a cap, Sl W S 31 2 (.slice a L cap) (ccells l) L → Calls Try.prog 69 #[.slice a L cap] W fun e w' => Turned (fun _ => False) W w' ∧ e = .panicked [formE])) :
    Calls Try.prog 34 #[.string t] w (DecPost w (.error 3)) := by
  have hmf : ∀ (fn : Fn) (first cap : Array Value) (w : World), (Instr.makeFunc fn first cap).run Try.prog w = .ok (.func fn first cap) w := fun _ _ _ _ => rfl
  go_enter_defers Try.func34, Try.ntmps34
  go_wp2_with (first
    | (go_at_call 29; (with_reducible refine (P1.out _).mono ?_); rintro e w1 ⟨ht, a, cap, rfl, hsl⟩; have A1 : Hid (w1.heap[w.heap.size]? = some (.cells #[.int .i64 0, .int .i64 0, .int .i64 0, .int .i64 0, .int .u32 0, .slice none 0 0] 40 (0, 0)) ∧ w1.heap[w.heap.size + 1]? = some (.cells #[.int .i64 0] 25 (0, 0)) ∧ Turned (fun _ => False) w w1 ∧ Sl w1 (fun b => w.heap.size + 2 ≤ b) 31 2 (.slice a L cap) (ccells l) L) := ⟨(ht.block _ (by simp; omega) id).trans (Go.Mine.heap_alloc_old (heap_alloc_last w _)), (ht.block _ (by simp) id).trans (by simpa using heap_alloc_last (w.alloc _) _), (((Turned.refl (fun _ => False) w).new _).new _).trans ht (fun _ _ q => q), hsl.widen fun b q => by simpa using q⟩; clear ht hsl; have d0 := cell_of A1.out.2.1 0 _ rfl; have g0 := free_of A1.out.2.1 0; have l0 := lt_of_block A1.out.1; have l1 := lt_of_block A1.out.2.1; have h69 := HRD.out (w1.setCell ⟨w.heap.size + 1, 0, none⟩ (.int .i64 0)) _ a cap (A1.out.2.2.2.turned (Turned.setCell (S := (· = w.heap.size + 1)) (p := ⟨w.heap.size + 1, 0, none⟩) rfl _) (fun b q z => by omega)))
    | (go_at_call 69; (with_reducible refine h69.mono ?_); rintro e w2 ⟨ht2, rfl⟩; have ts : Turned (· = w.heap.size + 1) w1 (w1.setCell ⟨w.heap.size + 1, 0, none⟩ (.int .i64 0)) := Turned.setCell (S := (· = w.heap.size + 1)) (p := ⟨w.heap.size + 1, 0, none⟩) rfl _; have sz : (w1.setCell ⟨w.heap.size + 1, 0, none⟩ (.int .i64 0)).heap.size = w1.heap.size := setCell_size _ _ _; have B2 : Hid (w2.heap[w.heap.size]? = some (.cells #[.int .i64 0, .int .i64 0, .int .i64 0, .int .i64 0, .int .u32 0, .slice none 0 0] 40 (0, 0)) ∧ w2.heap[w.heap.size + 1]? = some (.cells #[.int .i64 0] 25 (0, 0)) ∧ Turned (fun _ => False) w w2 ∧ w.heap.size + 2 ≤ w1.heap.size) := ⟨(ht2.block _ (by omega) id).trans ((Go.Mine.heap_setCell_ne _ (by simp)).trans A1.out.1), (ht2.block _ (by omega) id).trans (Go.Mine.heap_setCell_same A1.out.2.1 _), (A1.out.2.2.1.comp ts fun b hb q => q.elim id fun q => by omega).trans ht2 fun _ _ q => q, by omega⟩; clear ht2 ts sz h69 d0 g0))
  have X0 : Hid (w.heap.size ≠ w.heap.size + 1) := (by omega : w.heap.size ≠ w.heap.size + 1)
  refine leaves_cons (f := 68) (args := #[pt w.heap.size, pt (w.heap.size + 1)]) (by simp) (by simp [go_sem]) ?_
  refine (catch_form w.heap.size (w.heap.size + 1) _ _ _ _ _ _ _ [] _ B2.out.1 B2.out.2.1 X0.out).mono ?_
  rintro e u' w9 ⟨rfl, rfl, hz, hq, ht9⟩
  have KK : Hid (Turned (fun _ => False) w w9) := B2.out.2.2.1.comp ht9 fun b hb q => q.elim id fun q => by omega
  have r0 := cell_of hz 0 _ rfl
  have r1 := cell_of hz 1 _ rfl
  have r2 := cell_of hz 2 _ rfl
  have r3 := cell_of hz 3 _ rfl
  have r4 := cell_of hz 4 _ rfl
  have r5 := cell_of hz 5 _ rfl
  have r6 := cell_of hq 0 _ rfl
  clear hz hq ht9
  simp only [List.getElem_toArray, List.getElem_cons_zero, List.getElem_cons_succ] at r0 r1 r2 r3 r4 r5 r6
  simp [Leaves, settle, results, Try.results34, go_sem, r0, r1, r2, r3, r4, r5, r6]
  exact ⟨KK.out, rfl⟩
set_option maxRecDepth 100000 in
set_option maxHeartbeats 4000000 in
theorem decode_bad (t : ByteArray) (l : List Ch) (L R v4 k : Nat) (s : ByteArray) (v0 v1 v2 v3 : Int) (w : World)
    (P1 : Hid (∀ W, Calls Try.prog 29 #[.string t] W fun e w' => Turned (fun _ => False) W w' ∧ ∃ a cap, e = .returned (.tuple #[.slice a L cap, .int .i64 0]) ∧ Sl w' (fun b => W.heap.size ≤ b) 31 2 (.slice a L cap) (ccells l) L))
    (RR : World → Option Addr → Nat → Nat → Prop)
    (HRT : Hid (∀ (W W' : World) (a : Option Addr) (c B : Nat) (S : Nat → Prop), RR W a c B → Turned S W W' → (∀ b, B ≤ b → ¬ S b) → RR W' a c B))
    (HRD : Hid (∀ W S a cap, Sl W S 31 2 (.slice a L cap) (ccells l) L → Calls Try.prog 69 #[.slice a L cap] W fun e w' => Turned (fun _ => False) W w' ∧ ∃ a2 c2, e = .returned (.agg #[.int .i64 v0, .int .i64 v1, .int .i64 v2, .int .i64 v3, .int .u32 (v4 : Nat), .slice a2 R c2]) ∧ RR w' a2 c2 W.heap.size))
    (HEN : Hid (∀ (w2 : World) a2 c2 (B p : Nat), RR w2 a2 c2 B → p < B → Calls Try.prog 24 #[.agg #[.int .i64 v0, .int .i64 v1, .int .i64 v2, .int .i64 v3, .int .u32 (v4 : Nat), .slice a2 R c2]] (((((((w2.setCell ⟨p, 0, none⟩ (.int .i64 v0)).setCell ⟨p, 1, none⟩ (.int .i64 v1)).setCell ⟨p, 2, none⟩ (.int .i64 v2)).setCell ⟨p, 3, none⟩ (.int .i64 v3)).setCell ⟨p, 4, none⟩ (.int .u32 (v4 : Nat))).setCell ⟨p, 5, none⟩ (.slice a2 R c2))) fun e w' => e = .returned (.tuple #[.string s, .int .i64 (k : Nat)]) ∧ Turned (fun _ => False) (((((((w2.setCell ⟨p, 0, none⟩ (.int .i64 v0)).setCell ⟨p, 1, none⟩ (.int .i64 v1)).setCell ⟨p, 2, none⟩ (.int .i64 v2)).setCell ⟨p, 3, none⟩ (.int .i64 v3)).setCell ⟨p, 4, none⟩ (.int .u32 (v4 : Nat))).setCell ⟨p, 5, none⟩ (.slice a2 R c2))) w'))
    (hk : k ≠ 0)
    : Calls Try.prog 34 #[.string t] w (DecPost w (.error 3)) := by
  have hmf : ∀ (fn : Fn) (first cap : Array Value) (w : World), (Instr.makeFunc fn first cap).run Try.prog w = .ok (.func fn first cap) w := fun _ _ _ _ => rfl
  have hd := int_neb (k : Int) 0 (by omega)
  have hd2 := int_bne2 (k : Int) 0 (by omega)
  clear hk
  go_enter_defers Try.func34, Try.ntmps34
  go_wp2_with (first
    | (go_at_call 29; (with_reducible refine (P1.out _).mono ?_); rintro e w1 ⟨ht, a, cap, rfl, hsl⟩; have A1 : Hid (w1.heap[w.heap.size]? = some (.cells #[.int .i64 0, .int .i64 0, .int .i64 0, .int .i64 0, .int .u32 0, .slice none 0 0] 40 (0, 0)) ∧ w1.heap[w.heap.size + 1]? = some (.cells #[.int .i64 0] 25 (0, 0)) ∧ Turned (fun _ => False) w w1 ∧ Sl w1 (fun b => w.heap.size + 2 ≤ b) 31 2 (.slice a L cap) (ccells l) L) := ⟨(ht.block _ (by simp; omega) id).trans (Go.Mine.heap_alloc_old (heap_alloc_last w _)), (ht.block _ (by simp) id).trans (by simpa using heap_alloc_last (w.alloc _) _), (((Turned.refl (fun _ => False) w).new _).new _).trans ht (fun _ _ q => q), hsl.widen fun b q => by simpa using q⟩; clear ht hsl; have d0 := cell_of A1.out.2.1 0 _ rfl; have g0 := free_of A1.out.2.1 0; have l0 := lt_of_block A1.out.1; have l1 := lt_of_block A1.out.2.1; have h69 := HRD.out (w1.setCell ⟨w.heap.size + 1, 0, none⟩ (.int .i64 0)) _ a cap (A1.out.2.2.2.turned (Turned.setCell (S := (· = w.heap.size + 1)) (p := ⟨w.heap.size + 1, 0, none⟩) rfl _) (fun b q z => by omega)))
    | (go_at_call 69; (with_reducible refine h69.mono ?_); rintro e w2 ⟨ht2, a2, c2, rfl, hrw⟩; have ts : Turned (· = w.heap.size + 1) w1 (w1.setCell ⟨w.heap.size + 1, 0, none⟩ (.int .i64 0)) := Turned.setCell (S := (· = w.heap.size + 1)) (p := ⟨w.heap.size + 1, 0, none⟩) rfl _; have sz : (w1.setCell ⟨w.heap.size + 1, 0, none⟩ (.int .i64 0)).heap.size = w1.heap.size := setCell_size _ _ _; have B2 : Hid (w2.heap[w.heap.size]? = some (.cells #[.int .i64 0, .int .i64 0, .int .i64 0, .int .i64 0, .int .u32 0, .slice none 0 0] 40 (0, 0)) ∧ w2.heap[w.heap.size + 1]? = some (.cells #[.int .i64 0] 25 (0, 0)) ∧ Turned (fun _ => False) w w2 ∧ w.heap.size + 2 ≤ w1.heap.size) := ⟨(ht2.block _ (by omega) id).trans ((Go.Mine.heap_setCell_ne _ (by simp)).trans A1.out.1), (ht2.block _ (by omega) id).trans (Go.Mine.heap_setCell_same A1.out.2.1 _), (A1.out.2.2.1.comp ts fun b hb q => q.elim id fun q => by omega).trans ht2 fun _ _ q => q, by omega⟩; have SR : Hid (RR w2 a2 c2 w1.heap.size) := (by rw [sz] at hrw; exact hrw); clear ht2 ts sz h69 d0 g0 hrw; have c0 := cell_of B2.out.1 0 _ rfl; have c1 := cell_of B2.out.1 1 _ rfl; have c2x := cell_of B2.out.1 2 _ rfl; have c3 := cell_of B2.out.1 3 _ rfl; have c4 := cell_of B2.out.1 4 _ rfl; have c5 := cell_of B2.out.1 5 _ rfl; have f0 := free_of B2.out.1 0; have f1 := free_of B2.out.1 1; have f2 := free_of B2.out.1 2; have f3 := free_of B2.out.1 3; have f4 := free_of B2.out.1 4; have f5 := free_of B2.out.1 5; have d0 := cell_of B2.out.2.1 0 _ rfl; have g0 := free_of B2.out.2.1 0; have l2 := lt_of_block B2.out.1; have l3 := lt_of_block B2.out.2.1; have h24 := HEN.out w2 a2 c2 w1.heap.size w.heap.size SR.out (by have := B2.out.2.2.2; omega))
    | (go_at_call 24; (with_reducible refine h24.mono ?_); rintro e w3 ⟨rfl, ht3⟩; have B3 : Hid (w3.heap[w.heap.size]? = some (.cells #[.int .i64 v0, .int .i64 v1, .int .i64 v2, .int .i64 v3, .int .u32 (v4 : Nat), .slice a2 R c2] 40 (0, 0)) ∧ w3.heap[w.heap.size + 1]? = some (.cells #[.int .i64 0] 25 (0, 0)) ∧ Turned (fun _ => False) w w3 ∧ RR w3 a2 c2 w1.heap.size) := (by have t6 := six_turned w2 w.heap.size (.int .i64 v0) (.int .i64 v1) (.int .i64 v2) (.int .i64 v3) (.int .u32 (v4 : Nat)) (.slice a2 R c2); have e6 : (((((((w2.setCell ⟨w.heap.size, 0, none⟩ (.int .i64 v0)).setCell ⟨w.heap.size, 1, none⟩ (.int .i64 v1)).setCell ⟨w.heap.size, 2, none⟩ (.int .i64 v2)).setCell ⟨w.heap.size, 3, none⟩ (.int .i64 v3)).setCell ⟨w.heap.size, 4, none⟩ (.int .u32 (v4 : Nat))).setCell ⟨w.heap.size, 5, none⟩ (.slice a2 R c2))).heap.size = w2.heap.size := (by simp only [setCell_size]); exact ⟨(ht3.block _ (by rw [e6]; exact l2) id).trans (six_same w2 w.heap.size _ _ _ _ _ _ (.int .i64 v0) (.int .i64 v1) (.int .i64 v2) (.int .i64 v3) (.int .u32 (v4 : Nat)) (.slice a2 R c2) B2.out.1), (ht3.block _ (by rw [e6]; exact l3) id).trans ((t6.block _ l3 (fun z => by omega)).trans B2.out.2.1), (B2.out.2.2.1.comp t6 fun b hb q => q.elim id fun q => by omega).trans ht3 fun _ _ q => q, HRT.out _ _ _ _ _ _ (HRT.out _ _ _ _ _ _ SR.out t6 (fun b q z => by have := B2.out.2.2.2; omega)) ht3 (fun _ _ q => q)⟩); clear ht3 h24 c0 c1 c2x c3 c4 c5 f0 f1 f2 f3 f4 f5 d0 g0 l2 l3))
  have X0 : Hid (w.heap.size ≠ w.heap.size + 1) := (by omega : w.heap.size ≠ w.heap.size + 1)
  refine leaves_cons (f := 68) (args := #[pt w.heap.size, pt (w.heap.size + 1)]) (by simp) (by simp [go_sem]) ?_
  refine (catch_form w.heap.size (w.heap.size + 1) _ _ _ _ _ _ _ [] _ B3.out.1 B3.out.2.1 X0.out).mono ?_
  rintro e u' w9 ⟨rfl, rfl, hz, hq, ht9⟩
  have KK : Hid (Turned (fun _ => False) w w9) := B3.out.2.2.1.comp ht9 fun b hb q => q.elim id fun q => by omega
  have r0 := cell_of hz 0 _ rfl
  have r1 := cell_of hz 1 _ rfl
  have r2 := cell_of hz 2 _ rfl
  have r3 := cell_of hz 3 _ rfl
  have r4 := cell_of hz 4 _ rfl
  have r5 := cell_of hz 5 _ rfl
  have r6 := cell_of hq 0 _ rfl
  clear hz hq ht9
  simp only [List.getElem_toArray, List.getElem_cons_zero, List.getElem_cons_succ] at r0 r1 r2 r3 r4 r5 r6
  simp [Leaves, settle, results, Try.results34, go_sem, r0, r1, r2, r3, r4, r5, r6]
  exact ⟨KK.out, rfl⟩
set_option maxRecDepth 100000 in
set_option maxHeartbeats 4000000 in
theorem decode_other (t : ByteArray) (l : List Ch) (L R v4 k : Nat) (s : ByteArray) (v0 v1 v2 v3 : Int) (w : World)
    (P1 : Hid (∀ W, Calls Try.prog 29 #[.string t] W fun e w' => Turned (fun _ => False) W w' ∧ ∃ a cap, e = .returned (.tuple #[.slice a L cap, .int .i64 0]) ∧ Sl w' (fun b => W.heap.size ≤ b) 31 2 (.slice a L cap) (ccells l) L))
    (RR : World → Option Addr → Nat → Nat → Prop)
    (HRT : Hid (∀ (W W' : World) (a : Option Addr) (c B : Nat) (S : Nat → Prop), RR W a c B → Turned S W W' → (∀ b, B ≤ b → ¬ S b) → RR W' a c B))
    (HRD : Hid (∀ W S a cap, Sl W S 31 2 (.slice a L cap) (ccells l) L → Calls Try.prog 69 #[.slice a L cap] W fun e w' => Turned (fun _ => False) W w' ∧ ∃ a2 c2, e = .returned (.agg #[.int .i64 v0, .int .i64 v1, .int .i64 v2, .int .i64 v3, .int .u32 (v4 : Nat), .slice a2 R c2]) ∧ RR w' a2 c2 W.heap.size))
    (HEN : Hid (∀ (w2 : World) a2 c2 (B p : Nat), RR w2 a2 c2 B → p < B → Calls Try.prog 24 #[.agg #[.int .i64 v0, .int .i64 v1, .int .i64 v2, .int .i64 v3, .int .u32 (v4 : Nat), .slice a2 R c2]] (((((((w2.setCell ⟨p, 0, none⟩ (.int .i64 v0)).setCell ⟨p, 1, none⟩ (.int .i64 v1)).setCell ⟨p, 2, none⟩ (.int .i64 v2)).setCell ⟨p, 3, none⟩ (.int .i64 v3)).setCell ⟨p, 4, none⟩ (.int .u32 (v4 : Nat))).setCell ⟨p, 5, none⟩ (.slice a2 R c2))) fun e w' => e = .returned (.tuple #[.string s, .int .i64 (k : Nat)]) ∧ Turned (fun _ => False) (((((((w2.setCell ⟨p, 0, none⟩ (.int .i64 v0)).setCell ⟨p, 1, none⟩ (.int .i64 v1)).setCell ⟨p, 2, none⟩ (.int .i64 v2)).setCell ⟨p, 3, none⟩ (.int .i64 v3)).setCell ⟨p, 4, none⟩ (.int .u32 (v4 : Nat))).setCell ⟨p, 5, none⟩ (.slice a2 R c2))) w'))
    (hk : k = 0) (hst : s ≠ t)
    : Calls Try.prog 34 #[.string t] w (DecPost w (.error 3)) := by
  have hmf : ∀ (fn : Fn) (first cap : Array Value) (w : World), (Instr.makeFunc fn first cap).run Try.prog w = .ok (.func fn first cap) w := fun _ _ _ _ => rfl
  subst hk
  have hd := ba_ne2 s t hst
  clear hst
  go_enter_defers Try.func34, Try.ntmps34
  go_wp2_with (first
    | (go_at_call 29; (with_reducible refine (P1.out _).mono ?_); rintro e w1 ⟨ht, a, cap, rfl, hsl⟩; have A1 : Hid (w1.heap[w.heap.size]? = some (.cells #[.int .i64 0, .int .i64 0, .int .i64 0, .int .i64 0, .int .u32 0, .slice none 0 0] 40 (0, 0)) ∧ w1.heap[w.heap.size + 1]? = some (.cells #[.int .i64 0] 25 (0, 0)) ∧ Turned (fun _ => False) w w1 ∧ Sl w1 (fun b => w.heap.size + 2 ≤ b) 31 2 (.slice a L cap) (ccells l) L) := ⟨(ht.block _ (by simp; omega) id).trans (Go.Mine.heap_alloc_old (heap_alloc_last w _)), (ht.block _ (by simp) id).trans (by simpa using heap_alloc_last (w.alloc _) _), (((Turned.refl (fun _ => False) w).new _).new _).trans ht (fun _ _ q => q), hsl.widen fun b q => by simpa using q⟩; clear ht hsl; have d0 := cell_of A1.out.2.1 0 _ rfl; have g0 := free_of A1.out.2.1 0; have l0 := lt_of_block A1.out.1; have l1 := lt_of_block A1.out.2.1; have h69 := HRD.out (w1.setCell ⟨w.heap.size + 1, 0, none⟩ (.int .i64 0)) _ a cap (A1.out.2.2.2.turned (Turned.setCell (S := (· = w.heap.size + 1)) (p := ⟨w.heap.size + 1, 0, none⟩) rfl _) (fun b q z => by omega)))
    | (go_at_call 69; (with_reducible refine h69.mono ?_); rintro e w2 ⟨ht2, a2, c2, rfl, hrw⟩; have ts : Turned (· = w.heap.size + 1) w1 (w1.setCell ⟨w.heap.size + 1, 0, none⟩ (.int .i64 0)) := Turned.setCell (S := (· = w.heap.size + 1)) (p := ⟨w.heap.size + 1, 0, none⟩) rfl _; have sz : (w1.setCell ⟨w.heap.size + 1, 0, none⟩ (.int .i64 0)).heap.size = w1.heap.size := setCell_size _ _ _; have B2 : Hid (w2.heap[w.heap.size]? = some (.cells #[.int .i64 0, .int .i64 0, .int .i64 0, .int .i64 0, .int .u32 0, .slice none 0 0] 40 (0, 0)) ∧ w2.heap[w.heap.size + 1]? = some (.cells #[.int .i64 0] 25 (0, 0)) ∧ Turned (fun _ => False) w w2 ∧ w.heap.size + 2 ≤ w1.heap.size) := ⟨(ht2.block _ (by omega) id).trans ((Go.Mine.heap_setCell_ne _ (by simp)).trans A1.out.1), (ht2.block _ (by omega) id).trans (Go.Mine.heap_setCell_same A1.out.2.1 _), (A1.out.2.2.1.comp ts fun b hb q => q.elim id fun q => by omega).trans ht2 fun _ _ q => q, by omega⟩; have SR : Hid (RR w2 a2 c2 w1.heap.size) := (by rw [sz] at hrw; exact hrw); clear ht2 ts sz h69 d0 g0 hrw; have c0 := cell_of B2.out.1 0 _ rfl; have c1 := cell_of B2.out.1 1 _ rfl; have c2x := cell_of B2.out.1 2 _ rfl; have c3 := cell_of B2.out.1 3 _ rfl; have c4 := cell_of B2.out.1 4 _ rfl; have c5 := cell_of B2.out.1 5 _ rfl; have f0 := free_of B2.out.1 0; have f1 := free_of B2.out.1 1; have f2 := free_of B2.out.1 2; have f3 := free_of B2.out.1 3; have f4 := free_of B2.out.1 4; have f5 := free_of B2.out.1 5; have d0 := cell_of B2.out.2.1 0 _ rfl; have g0 := free_of B2.out.2.1 0; have l2 := lt_of_block B2.out.1; have l3 := lt_of_block B2.out.2.1; have h24 := HEN.out w2 a2 c2 w1.heap.size w.heap.size SR.out (by have := B2.out.2.2.2; omega))
    | (go_at_call 24; (with_reducible refine h24.mono ?_); rintro e w3 ⟨rfl, ht3⟩; have B3 : Hid (w3.heap[w.heap.size]? = some (.cells #[.int .i64 v0, .int .i64 v1, .int .i64 v2, .int .i64 v3, .int .u32 (v4 : Nat), .slice a2 R c2] 40 (0, 0)) ∧ w3.heap[w.heap.size + 1]? = some (.cells #[.int .i64 0] 25 (0, 0)) ∧ Turned (fun _ => False) w w3 ∧ RR w3 a2 c2 w1.heap.size) := (by have t6 := six_turned w2 w.heap.size (.int .i64 v0) (.int .i64 v1) (.int .i64 v2) (.int .i64 v3) (.int .u32 (v4 : Nat)) (.slice a2 R c2); have e6 : (((((((w2.setCell ⟨w.heap.size, 0, none⟩ (.int .i64 v0)).setCell ⟨w.heap.size, 1, none⟩ (.int .i64 v1)).setCell ⟨w.heap.size, 2, none⟩ (.int .i64 v2)).setCell ⟨w.heap.size, 3, none⟩ (.int .i64 v3)).setCell ⟨w.heap.size, 4, none⟩ (.int .u32 (v4 : Nat))).setCell ⟨w.heap.size, 5, none⟩ (.slice a2 R c2))).heap.size = w2.heap.size := (by simp only [setCell_size]); exact ⟨(ht3.block _ (by rw [e6]; exact l2) id).trans (six_same w2 w.heap.size _ _ _ _ _ _ (.int .i64 v0) (.int .i64 v1) (.int .i64 v2) (.int .i64 v3) (.int .u32 (v4 : Nat)) (.slice a2 R c2) B2.out.1), (ht3.block _ (by rw [e6]; exact l3) id).trans ((t6.block _ l3 (fun z => by omega)).trans B2.out.2.1), (B2.out.2.2.1.comp t6 fun b hb q => q.elim id fun q => by omega).trans ht3 fun _ _ q => q, HRT.out _ _ _ _ _ _ (HRT.out _ _ _ _ _ _ SR.out t6 (fun b q z => by have := B2.out.2.2.2; omega)) ht3 (fun _ _ q => q)⟩); clear ht3 h24 c0 c1 c2x c3 c4 c5 f0 f1 f2 f3 f4 f5 d0 g0 l2 l3))
  have X0 : Hid (w.heap.size ≠ w.heap.size + 1) := (by omega : w.heap.size ≠ w.heap.size + 1)
  refine leaves_cons (f := 68) (args := #[pt w.heap.size, pt (w.heap.size + 1)]) (by simp) (by simp [go_sem]) ?_
  refine (catch_form w.heap.size (w.heap.size + 1) _ _ _ _ _ _ _ [] _ B3.out.1 B3.out.2.1 X0.out).mono ?_
  rintro e u' w9 ⟨rfl, rfl, hz, hq, ht9⟩
  have KK : Hid (Turned (fun _ => False) w w9) := B3.out.2.2.1.comp ht9 fun b hb q => q.elim id fun q => by omega
  have r0 := cell_of hz 0 _ rfl
  have r1 := cell_of hz 1 _ rfl
  have r2 := cell_of hz 2 _ rfl
  have r3 := cell_of hz 3 _ rfl
  have r4 := cell_of hz 4 _ rfl
  have r5 := cell_of hz 5 _ rfl
  have r6 := cell_of hq 0 _ rfl
  clear hz hq ht9
  simp only [List.getElem_toArray, List.getElem_cons_zero, List.getElem_cons_succ] at r0 r1 r2 r3 r4 r5 r6
  simp [Leaves, settle, results, Try.results34, go_sem, r0, r1, r2, r3, r4, r5, r6]
  exact ⟨KK.out, rfl⟩
set_option maxRecDepth 100000 in
set_option maxHeartbeats 4000000 in
theorem decode_good (t : ByteArray) (l : List Ch) (L R v4 k : Nat) (s : ByteArray) (v0 v1 v2 v3 : Int) (w : World)
    (P1 : Hid (∀ W, Calls Try.prog 29 #[.string t] W fun e w' => Turned (fun _ => False) W w' ∧ ∃ a cap, e = .returned (.tuple #[.slice a L cap, .int .i64 0]) ∧ Sl w' (fun b => W.heap.size ≤ b) 31 2 (.slice a L cap) (ccells l) L))
    (RR : World → Option Addr → Nat → Nat → Prop)
    (HRT : Hid (∀ (W W' : World) (a : Option Addr) (c B : Nat) (S : Nat → Prop), RR W a c B → Turned S W W' → (∀ b, B ≤ b → ¬ S b) → RR W' a c B))
    (HRD : Hid (∀ W S a cap, Sl W S 31 2 (.slice a L cap) (ccells l) L → Calls Try.prog 69 #[.slice a L cap] W fun e w' => Turned (fun _ => False) W w' ∧ ∃ a2 c2, e = .returned (.agg #[.int .i64 v0, .int .i64 v1, .int .i64 v2, .int .i64 v3, .int .u32 (v4 : Nat), .slice a2 R c2]) ∧ RR w' a2 c2 W.heap.size))
    (HEN : Hid (∀ (w2 : World) a2 c2 (B p : Nat), RR w2 a2 c2 B → p < B → Calls Try.prog 24 #[.agg #[.int .i64 v0, .int .i64 v1, .int .i64 v2, .int .i64 v3, .int .u32 (v4 : Nat), .slice a2 R c2]] (((((((w2.setCell ⟨p, 0, none⟩ (.int .i64 v0)).setCell ⟨p, 1, none⟩ (.int .i64 v1)).setCell ⟨p, 2, none⟩ (.int .i64 v2)).setCell ⟨p, 3, none⟩ (.int .i64 v3)).setCell ⟨p, 4, none⟩ (.int .u32 (v4 : Nat))).setCell ⟨p, 5, none⟩ (.slice a2 R c2))) fun e w' => e = .returned (.tuple #[.string s, .int .i64 (k : Nat)]) ∧ Turned (fun _ => False) (((((((w2.setCell ⟨p, 0, none⟩ (.int .i64 v0)).setCell ⟨p, 1, none⟩ (.int .i64 v1)).setCell ⟨p, 2, none⟩ (.int .i64 v2)).setCell ⟨p, 3, none⟩ (.int .i64 v3)).setCell ⟨p, 4, none⟩ (.int .u32 (v4 : Nat))).setCell ⟨p, 5, none⟩ (.slice a2 R c2))) w'))
    (hk : k = 0) (hst : s = t)
    : Calls Try.prog 34 #[.string t] w fun e w' => Turned (fun _ => False) w w' ∧ ∃ a2 c2 B, w.heap.size ≤ B ∧ e = .returned (.tuple #[.agg #[.int .i64 v0, .int .i64 v1, .int .i64 v2, .int .i64 v3, .int .u32 (v4 : Nat), .slice a2 R c2], .int .i64 0]) ∧ RR w' a2 c2 B := by
  have hmf : ∀ (fn : Fn) (first cap : Array Value) (w : World), (Instr.makeFunc fn first cap).run Try.prog w = .ok (.func fn first cap) w := fun _ _ _ _ => rfl
  subst hk
  subst hst
  go_enter_defers Try.func34, Try.ntmps34
  go_wp2_with (first
    | (go_at_call 29; (with_reducible refine (P1.out _).mono ?_); rintro e w1 ⟨ht, a, cap, rfl, hsl⟩; have A1 : Hid (w1.heap[w.heap.size]? = some (.cells #[.int .i64 0, .int .i64 0, .int .i64 0, .int .i64 0, .int .u32 0, .slice none 0 0] 40 (0, 0)) ∧ w1.heap[w.heap.size + 1]? = some (.cells #[.int .i64 0] 25 (0, 0)) ∧ Turned (fun _ => False) w w1 ∧ Sl w1 (fun b => w.heap.size + 2 ≤ b) 31 2 (.slice a L cap) (ccells l) L) := ⟨(ht.block _ (by simp; omega) id).trans (Go.Mine.heap_alloc_old (heap_alloc_last w _)), (ht.block _ (by simp) id).trans (by simpa using heap_alloc_last (w.alloc _) _), (((Turned.refl (fun _ => False) w).new _).new _).trans ht (fun _ _ q => q), hsl.widen fun b q => by simpa using q⟩; clear ht hsl; have d0 := cell_of A1.out.2.1 0 _ rfl; have g0 := free_of A1.out.2.1 0; have l0 := lt_of_block A1.out.1; have l1 := lt_of_block A1.out.2.1; have h69 := HRD.out (w1.setCell ⟨w.heap.size + 1, 0, none⟩ (.int .i64 0)) _ a cap (A1.out.2.2.2.turned (Turned.setCell (S := (· = w.heap.size + 1)) (p := ⟨w.heap.size + 1, 0, none⟩) rfl _) (fun b q z => by omega)))
    | (go_at_call 69; (with_reducible refine h69.mono ?_); rintro e w2 ⟨ht2, a2, c2, rfl, hrw⟩; have ts : Turned (· = w.heap.size + 1) w1 (w1.setCell ⟨w.heap.size + 1, 0, none⟩ (.int .i64 0)) := Turned.setCell (S := (· = w.heap.size + 1)) (p := ⟨w.heap.size + 1, 0, none⟩) rfl _; have sz : (w1.setCell ⟨w.heap.size + 1, 0, none⟩ (.int .i64 0)).heap.size = w1.heap.size := setCell_size _ _ _; have B2 : Hid (w2.heap[w.heap.size]? = some (.cells #[.int .i64 0, .int .i64 0, .int .i64 0, .int .i64 0, .int .u32 0, .slice none 0 0] 40 (0, 0)) ∧ w2.heap[w.heap.size + 1]? = some (.cells #[.int .i64 0] 25 (0, 0)) ∧ Turned (fun _ => False) w w2 ∧ w.heap.size + 2 ≤ w1.heap.size) := ⟨(ht2.block _ (by omega) id).trans ((Go.Mine.heap_setCell_ne _ (by simp)).trans A1.out.1), (ht2.block _ (by omega) id).trans (Go.Mine.heap_setCell_same A1.out.2.1 _), (A1.out.2.2.1.comp ts fun b hb q => q.elim id fun q => by omega).trans ht2 fun _ _ q => q, by omega⟩; have SR : Hid (RR w2 a2 c2 w1.heap.size) := (by rw [sz] at hrw; exact hrw); clear ht2 ts sz h69 d0 g0 hrw; have c0 := cell_of B2.out.1 0 _ rfl; have c1 := cell_of B2.out.1 1 _ rfl; have c2x := cell_of B2.out.1 2 _ rfl; have c3 := cell_of B2.out.1 3 _ rfl; have c4 := cell_of B2.out.1 4 _ rfl; have c5 := cell_of B2.out.1 5 _ rfl; have f0 := free_of B2.out.1 0; have f1 := free_of B2.out.1 1; have f2 := free_of B2.out.1 2; have f3 := free_of B2.out.1 3; have f4 := free_of B2.out.1 4; have f5 := free_of B2.out.1 5; have d0 := cell_of B2.out.2.1 0 _ rfl; have g0 := free_of B2.out.2.1 0; have l2 := lt_of_block B2.out.1; have l3 := lt_of_block B2.out.2.1; have h24 := HEN.out w2 a2 c2 w1.heap.size w.heap.size SR.out (by have := B2.out.2.2.2; omega))
    | (go_at_call 24; (with_reducible refine h24.mono ?_); rintro e w3 ⟨rfl, ht3⟩; have B3 : Hid (w3.heap[w.heap.size]? = some (.cells #[.int .i64 v0, .int .i64 v1, .int .i64 v2, .int .i64 v3, .int .u32 (v4 : Nat), .slice a2 R c2] 40 (0, 0)) ∧ w3.heap[w.heap.size + 1]? = some (.cells #[.int .i64 0] 25 (0, 0)) ∧ Turned (fun _ => False) w w3 ∧ RR w3 a2 c2 w1.heap.size) := (by have t6 := six_turned w2 w.heap.size (.int .i64 v0) (.int .i64 v1) (.int .i64 v2) (.int .i64 v3) (.int .u32 (v4 : Nat)) (.slice a2 R c2); have e6 : (((((((w2.setCell ⟨w.heap.size, 0, none⟩ (.int .i64 v0)).setCell ⟨w.heap.size, 1, none⟩ (.int .i64 v1)).setCell ⟨w.heap.size, 2, none⟩ (.int .i64 v2)).setCell ⟨w.heap.size, 3, none⟩ (.int .i64 v3)).setCell ⟨w.heap.size, 4, none⟩ (.int .u32 (v4 : Nat))).setCell ⟨w.heap.size, 5, none⟩ (.slice a2 R c2))).heap.size = w2.heap.size := (by simp only [setCell_size]); exact ⟨(ht3.block _ (by rw [e6]; exact l2) id).trans (six_same w2 w.heap.size _ _ _ _ _ _ (.int .i64 v0) (.int .i64 v1) (.int .i64 v2) (.int .i64 v3) (.int .u32 (v4 : Nat)) (.slice a2 R c2) B2.out.1), (ht3.block _ (by rw [e6]; exact l3) id).trans ((t6.block _ l3 (fun z => by omega)).trans B2.out.2.1), (B2.out.2.2.1.comp t6 fun b hb q => q.elim id fun q => by omega).trans ht3 fun _ _ q => q, HRT.out _ _ _ _ _ _ (HRT.out _ _ _ _ _ _ SR.out t6 (fun b q z => by have := B2.out.2.2.2; omega)) ht3 (fun _ _ q => q)⟩); clear ht3 h24 c0 c1 c2x c3 c4 c5 f0 f1 f2 f3 f4 f5 d0 g0 l2 l3; have y0 := cell_of B3.out.1 0 _ rfl; have f0 := free_of B3.out.1 0; have y1 := cell_of B3.out.1 1 _ rfl; have f1 := free_of B3.out.1 1; have y2 := cell_of B3.out.1 2 _ rfl; have f2 := free_of B3.out.1 2; have y3 := cell_of B3.out.1 3 _ rfl; have f3 := free_of B3.out.1 3; have y4 := cell_of B3.out.1 4 _ rfl; have f4 := free_of B3.out.1 4; have y5 := cell_of B3.out.1 5 _ rfl; have f5 := free_of B3.out.1 5; have d0 := cell_of B3.out.2.1 0 _ rfl; have g0 := free_of B3.out.2.1 0; have l2 := lt_of_block B3.out.1; have l3 := lt_of_block B3.out.2.1))
  have b1 := six_same w3 w.heap.size _ _ _ _ _ _ (.int .i64 v0) (.int .i64 v1) (.int .i64 v2) (.int .i64 v3) (.int .u32 (v4 : Nat)) (.slice a2 R c2) B3.out.1
  have t1 := six_turned w3 w.heap.size (.int .i64 v0) (.int .i64 v1) (.int .i64 v2) (.int .i64 v3) (.int .u32 (v4 : Nat)) (.slice a2 R c2)
  have b2 := (t1.block _ l3 (fun z => by omega)).trans B3.out.2.1
  have rr := HRT.out _ _ _ _ _ _ B3.out.2.2.2 t1 (fun b q z => by have := B2.out.2.2.2; omega)
  have tt := B3.out.2.2.1.comp t1 (T := fun _ => False) fun b hb q => q.elim id fun q => by omega
  clear y0 y1 y2 y3 y4 y5 f0 f1 f2 f3 f4 f5 d0 g0
  revert b1 b2 t1 rr tt
  generalize ((((((w3.setCell ⟨w.heap.size, 0, none⟩ (.int .i64 v0)).setCell ⟨w.heap.size, 1, none⟩ (.int .i64 v1)).setCell ⟨w.heap.size, 2, none⟩ (.int .i64 v2)).setCell ⟨w.heap.size, 3, none⟩ (.int .i64 v3)).setCell ⟨w.heap.size, 4, none⟩ (.int .u32 (v4 : Nat))).setCell ⟨w.heap.size, 5, none⟩ (.slice a2 R c2)) = w4
  intro b1 t1 b2 rr tt
  have e1 := (Go.Mine.heap_setCell_ne (w := w4) (a := ⟨w.heap.size + 1, 0, none⟩) (.int .i64 0) (by simp)).trans b1
  have e2 : (w4.setCell ⟨w.heap.size + 1, 0, none⟩ (.int .i64 0)).heap[w.heap.size + 1]? = some (.cells #[.int .i64 0] 25 (0, 0)) := Go.Mine.heap_setCell_same b2 _
  have t2 : Turned (· = w.heap.size + 1) w4 (w4.setCell ⟨w.heap.size + 1, 0, none⟩ (.int .i64 0)) := Turned.setCell (S := (· = w.heap.size + 1)) (p := ⟨w.heap.size + 1, 0, none⟩) rfl _
  have rr2 := HRT.out _ _ _ _ _ _ rr t2 (fun b q z => by have := B2.out.2.2.2; omega)
  have tt2 := tt.comp t2 (T := fun _ => False) fun b hb q => q.elim id fun q => by omega
  revert e1 e2 t2 rr2 tt2
  generalize w4.setCell ⟨w.heap.size + 1, 0, none⟩ (.int .i64 0) = w5
  intro e1 e2 t2 rr2 tt2
  refine leaves_cons (f := 68) (args := #[pt w.heap.size, pt (w.heap.size + 1)]) (by simp) (by simp [go_sem]) ?_
  refine (catch_idle w.heap.size (w.heap.size + 1) _).mono ?_
  rintro e u' w9 ⟨rfl, rfl, rfl⟩
  have KK : Hid (Turned (fun _ => False) w w9 ∧ RR w9 a2 c2 w1.heap.size) := ⟨tt2, rr2⟩
  have HB : Hid (w.heap.size ≤ w1.heap.size) := (by have := B2.out.2.2.2; omega : w.heap.size ≤ w1.heap.size)
  have r0 := cell_of e1 0 _ rfl
  have r1 := cell_of e1 1 _ rfl
  have r2 := cell_of e1 2 _ rfl
  have r3 := cell_of e1 3 _ rfl
  have r4 := cell_of e1 4 _ rfl
  have r5 := cell_of e1 5 _ rfl
  have r6 := cell_of e2 0 _ rfl
  clear e1 e2 t2 rr2 tt2 b1 t1 b2 rr tt
  simp only [List.getElem_toArray, List.getElem_cons_zero, List.getElem_cons_succ] at r0 r1 r2 r3 r4 r5 r6
  simp [Leaves, settle, results, Try.results34, go_sem, r0, r1, r2, r3, r4, r5, r6]
  exact ⟨KK.out.1, a2, c2, w1.heap.size, HB.out, ⟨rfl, rfl⟩, KK.out.2⟩
theorem NewRows.turned {w w' : World} {R Q S : Nat → Prop} {v : Value} {l : List Rw} (h : NewRows w R Q v l) (ht : Turned S w w') (hR : ∀ b, R b → ¬ S b) (hQ : ∀ b, Q b → ¬ S b) : NewRows w' R Q v l := by
  obtain ⟨vs, h1, h2, h3⟩ := h
  exact ⟨vs, h1, h2.turned ht hR, fun i r u hr hu => (h3 i r u hr hu).turned ht hQ⟩
theorem NewRows.widen {w : World} {R Q R' Q' : Nat → Prop} {v : Value} {l : List Rw} (h : NewRows w R Q v l) (hR : ∀ b, R b → R' b) (hQ : ∀ b, Q b → Q' b) : NewRows w R' Q' v l := by
  obtain ⟨vs, h1, h2, h3⟩ := h
  exact ⟨vs, h1, h2.widen hR, fun i r u hr hu => (h3 i r u hr hu).widen hQ⟩

theorem decode_any (t : ByteArray) (w : World) (hs : t.size ≤ 4611686018427387904) : Calls Try.prog 34 #[.string t] w (DecPost w (decR t)) := by
  cases hpr : parseR t with
  | error k =>
    have e : decR t = .error k := by unfold decR; rw [hpr]
    rw [e]
    exact decode_err t k w hs hpr
  | ok l =>
    obtain ⟨hsm, h16, hbe, hbt, hri⟩ := parse_small t l hpr
    have hz : ∀ id, (datC l id).size ≤ 4194304 := fun id => by
      have h1 := datC_le l id
      have h2 := ((buildErr_iff l).1 hbe).2.2
      omega
    have P1 : Hid (∀ W, Calls Try.prog 29 #[.string t] W fun e w' => Turned (fun _ => False) W w' ∧ ∃ a cap, e = .returned (.tuple #[.slice a l.length cap, .int .i64 0]) ∧ Sl w' (fun b => W.heap.size ≤ b) 31 2 (.slice a l.length cap) (ccells l) l.length) := by
      have q : ∀ W, Calls Try.prog 29 #[.string t] W fun e w' => Turned (fun _ => False) W w' ∧ ∃ a cap, e = .returned (.tuple #[.slice a l.length cap, .int .i64 0]) ∧ Sl w' (fun b => W.heap.size ≤ b) 31 2 (.slice a l.length cap) (ccells l) l.length := fun W => by
        have h := parse_any t W hs
        rw [hpr] at h
        refine h.mono ?_
        rintro e w' ⟨h1, v, rfl, hsl⟩
        obtain ⟨a, cap, rfl, -, -⟩ := hsl.value
        exact ⟨h1, a, cap, rfl, hsl⟩
      exact q
    have hrd : ∀ (W : World) (S : Nat → Prop) (a : Option Addr) (cap : Nat), Sl W S 31 2 (.slice a l.length cap) (ccells l) l.length → Calls Try.prog 69 #[.slice a l.length cap] W (ReadPost (progR l) W) := fun W S a cap h => by
      obtain ⟨a', cap', hv, hc⟩ := sl_chIs h hsm
      injection hv with e1 _ e3
      subst e1
      subst e3
      exact read_any _ _ l W hc hz
    cases hg : progR l with
    | none =>
      have e : decR t = .error 3 := by unfold decR; rw [hpr]; simp only; rw [hg]
      rw [e]
      refine decode_no t l l.length w P1 ?_
      have q : ∀ (W : World) (S : Nat → Prop) (a : Option Addr) (cap : Nat), Sl W S 31 2 (.slice a l.length cap) (ccells l) l.length → Calls Try.prog 69 #[.slice a l.length cap] W fun e w' => Turned (fun _ => False) W w' ∧ e = .panicked [formE] := fun W S a cap h => by
        have h1 := hrd W S a cap h
        rw [hg] at h1
        refine h1.mono ?_
        rintro e w' ⟨h2, ⟨-, h3⟩ | ⟨_, _, _, h3, _⟩⟩
        · exact ⟨h2, h3⟩
        · simp at h3
      exact q
    | some g =>
      obtain ⟨s, k, he⟩ := encG_form g
      obtain ⟨hok, hrows, -⟩ := progR_ok l g hz hg
      have HRT : Hid (∀ (W W' : World) (a : Option Addr) (c B : Nat) (S : Nat → Prop), NewRows W (fun b => B ≤ b) (fun b => B ≤ b) (.slice a g.rows.length c) g.rows → Turned S W W' → (∀ b, B ≤ b → ¬ S b) → NewRows W' (fun b => B ≤ b) (fun b => B ≤ b) (.slice a g.rows.length c) g.rows) := fun W W' a c B S h1 h2 h3 => h1.turned h2 h3 h3
      have HRD : Hid (∀ (W : World) (S : Nat → Prop) (a : Option Addr) (cap : Nat), Sl W S 31 2 (.slice a l.length cap) (ccells l) l.length → Calls Try.prog 69 #[.slice a l.length cap] W fun e w' => Turned (fun _ => False) W w' ∧ ∃ a2 c2, e = .returned (grv a2 c2 g) ∧ NewRows w' (fun b => W.heap.size ≤ b) (fun b => W.heap.size ≤ b) (.slice a2 g.rows.length c2) g.rows) := fun W S a cap h => by
        have h1 := hrd W S a cap h
        rw [hg] at h1
        refine h1.mono ?_
        rintro e w' ⟨h2, ⟨h3, -⟩ | ⟨g', a2, c2, h3, h4, h5⟩⟩
        · simp at h3
        · obtain rfl := Option.some.inj h3
          exact ⟨h2, a2, c2, h4, h5⟩
      have HEN : Hid (∀ (w2 : World) (a2 : Option Addr) (c2 B p : Nat), NewRows w2 (fun b => B ≤ b) (fun b => B ≤ b) (.slice a2 g.rows.length c2) g.rows → p < B → Calls Try.prog 24 #[grv a2 c2 g] (((((((w2.setCell ⟨p, 0, none⟩ (.int .i64 g.base)).setCell ⟨p, 1, none⟩ (.int .i64 g.h)).setCell ⟨p, 2, none⟩ (.int .i64 g.p)).setCell ⟨p, 3, none⟩ (.int .i64 g.m)).setCell ⟨p, 4, none⟩ (.int .u32 (g.seed : Nat))).setCell ⟨p, 5, none⟩ (.slice a2 g.rows.length c2))) fun e w' => e = .returned (.tuple #[.string s, .int .i64 (k : Nat)]) ∧ Turned (fun _ => False) (((((((w2.setCell ⟨p, 0, none⟩ (.int .i64 g.base)).setCell ⟨p, 1, none⟩ (.int .i64 g.h)).setCell ⟨p, 2, none⟩ (.int .i64 g.p)).setCell ⟨p, 3, none⟩ (.int .i64 g.m)).setCell ⟨p, 4, none⟩ (.int .u32 (g.seed : Nat))).setCell ⟨p, 5, none⟩ (.slice a2 g.rows.length c2))) w') := fun w2 a2 c2 B p h1 h2 => by
        have h3 : NewRows (((((((w2.setCell ⟨p, 0, none⟩ (.int .i64 g.base)).setCell ⟨p, 1, none⟩ (.int .i64 g.h)).setCell ⟨p, 2, none⟩ (.int .i64 g.p)).setCell ⟨p, 3, none⟩ (.int .i64 g.m)).setCell ⟨p, 4, none⟩ (.int .u32 (g.seed : Nat))).setCell ⟨p, 5, none⟩ (.slice a2 g.rows.length c2))) (fun b => B ≤ b) (fun b => B ≤ b) (.slice a2 g.rows.length c2) g.rows := h1.turned (six_turned w2 p _ _ _ _ _ _) (fun b q z => by omega) (fun b q z => by omega)
        have h4 := encode_any _ a2 c2 g _ (h3.rows hrows) hok
        rw [he] at h4
        exact h4
      by_cases hk : k = 0
      · by_cases hst : s = t
        · have e : decR t = .ok g := by unfold decR; rw [hpr]; simp only; rw [hg]; simp only; rw [if_pos (by rw [he, hk, hst]; rfl)]
          rw [e]
          refine (decode_good t l l.length g.rows.length g.seed k s g.base g.h g.p g.m w P1 (fun W a c B => NewRows W (fun b => B ≤ b) (fun b => B ≤ b) (.slice a g.rows.length c) g.rows) HRT HRD HEN hk hst).mono ?_
          rintro e w' ⟨h1, a2, c2, B, h2, h3, h4⟩
          exact ⟨h1, a2, c2, h3, h4.widen (fun b q => Nat.le_trans h2 q) (fun b q => Nat.le_trans h2 q)⟩
        · have e : decR t = .error 3 := by
            unfold decR
            rw [hpr]
            simp only
            rw [hg]
            simp only
            rw [if_neg]
            rw [he]
            intro q
            simp only [Value.tuple.injEq, Array.mk.injEq, List.cons.injEq, Value.string.injEq] at q
            exact hst q.1
          rw [e]
          exact decode_other t l l.length g.rows.length g.seed k s g.base g.h g.p g.m w P1 (fun W a c B => NewRows W (fun b => B ≤ b) (fun b => B ≤ b) (.slice a g.rows.length c) g.rows) HRT HRD HEN hk hst
      · have e : decR t = .error 3 := by
          unfold decR
          rw [hpr]
          simp only
          rw [hg]
          simp only
          rw [if_neg]
          rw [he]
          intro q
          simp only [Value.tuple.injEq, Array.mk.injEq, List.cons.injEq, Value.int.injEq, true_and, and_true] at q
          omega
        rw [e]
        exact decode_bad t l l.length g.rows.length g.seed k s g.base g.h g.p g.m w P1 (fun W a c B => NewRows W (fun b => B ≤ b) (fun b => B ≤ b) (.slice a g.rows.length c) g.rows) HRT HRD HEN hk
end Go.Proofs.Ytfeljngmidhajaa

namespace Go.Proofs.Ytfeljngmidhajaa
open Go.RowKit Go.Mine

def RparPost (o : Option (List Int)) (w : World) (e : Ending) (w' : World) : Prop :=
  Turned (fun _ => False) w w' ∧ ((o = none ∧ ∃ a n c, e = .returned (.tuple #[.slice a n c, .bool false])) ∨ ∃ l a c, o = some l ∧ e = .returned (.tuple #[.slice a l.length c, .bool true]) ∧ Sl w' (fun b => w.heap.size ≤ b) 3 1 (.slice a l.length c) (ncells l) l.length)

def RprRel (E : ByteArray) (w : World) (o : Option (List Int)) (g : Nat) (v at_ : Value) (wr : World) : Prop :=
  ∃ (l : List Int) (p : Nat) (R : Nat → Prop), l.length + g = 17 ∧ Sl wr R 3 1 v (ncells l) l.length ∧ (∀ b, R b → w.heap.size ≤ b ∧ b < wr.heap.size) ∧ at_ = .int .i64 (p : Nat) ∧ p ≤ 8589934592 + 4 * l.length ∧ o = parLoop E g l (p, 0) ∧ Turned (fun _ => False) w wr

theorem fld_sub (s : ByteArray) (p : Nat) (h : p + 4 ≤ s.size) : rdNum (s.extract p (p + 4)) (0, 0) 4 = (fld s p 4, (4, 0)) := by
  have hz : 0 + 4 ≤ (s.extract p (p + 4)).size := by rw [ByteArray.size_extract]; omega
  have e : fld (s.extract p (p + 4)) 0 4 = fld s p 4 := by
    unfold fld
    rw [toList_extract, toList_extract]
    simp only [Nat.add_sub_cancel_left, List.take_take, Nat.min_self, List.drop_zero]
  rw [rdNum_fld _ 0 4 hz, e]

set_option maxRecDepth 100000 in
set_option maxHeartbeats 4000000 in
theorem rparents_any (first second : Nat) (E : ByteArray) (w : World) (hf : first < 4294967296) (hs : second < 4294967296) (hz : E.size ≤ 4611686018427387904) :
    Calls Try.prog 98 #[.int .i64 (first : Nat), .int .i64 (second : Nat), .string E] w (RparPost (refPar first second E) w) := by
  by_cases h1 : first = 4294967295
  · subst h1
    by_cases h2 : second = 4294967295
    · subst h2
      have HR : Hid (refPar 4294967295 4294967295 E = some []) := by
        have q : refPar 4294967295 4294967295 E = some [] := by unfold refPar; rw [if_pos rfl, if_pos rfl]
        exact q
      clear hf hs hz
      go_enter Try.func98, Try.ntmps98
      go_wp2
      go_ret2
      exact ⟨Turned.refl (fun _ => False) w, .inr ⟨[], _, _, HR.out, rfl, (Sl.nil w (fun b => w.heap.size ≤ b) 3 1)⟩⟩
    · have y1 : ((second : Int) == 4294967295) = false := int_neb _ _ (by omega)
      have HR : Hid (refPar 4294967295 second E = none) := by
        have q : refPar 4294967295 second E = none := by unfold refPar; rw [if_pos rfl, if_neg h2]
        exact q
      clear hf hs hz h2
      go_enter Try.func98, Try.ntmps98
      go_wp2
      go_ret2
      exact ⟨Turned.refl (fun _ => False) w, .inl ⟨HR.out, _, _, _, rfl⟩⟩
  have y0 : ((first : Int) == 4294967295) = false := int_neb _ _ (by omega)
  by_cases h2 : second = 4294967295
  · subst h2
    have HR : Hid (refPar first 4294967295 E = some ([] ++ [(first : Int)])) := by
      have q : refPar first 4294967295 E = some ([] ++ [(first : Int)]) := by unfold refPar; rw [if_neg h1, if_pos rfl]; rfl
      exact q
    clear hf hs hz h1
    go_enter Try.func98, Try.ntmps98
    go_wp2_with (first
      | (at_builtin; refine wpList_append rfl (.tmp 18) (.tmp 20) 57 57 rfl ((Sl.nil w (fun b => w.heap.size ≤ b ∧ b < w.heap.size) 3 1).turned (Turned.alloc (fun _ => False) _ _) fun _ _ q => q) Try.underlying57 info3i rfl (by decide) rfl (.slice (some ⟨w.heap.size, 0, none⟩) 1 1) rfl (src_one Try.underlying57 (.int .i64 (first : Nat)) rfl w) (by simp [maxLen]) (by decide) ?_; intro v2 w2 q2 t2; obtain ⟨a2, c2, rfl, -, -⟩ := q2.value; have A2 : Hid (Sl w2 (fun b => w.heap.size ≤ b ∧ b < w2.heap.size) 3 1 (.slice a2 1 c2) (ncells [(first : Int)]) 1 ∧ Turned (fun _ => False) w w2) := ⟨(sl_bound q2).widen (fun b q => ⟨q.1.elim (fun q => q.1) fun q => by have := (Turned.refl (fun _ => False) w).size; simp at q; omega, q.2⟩), ((Turned.refl (fun _ => False) w).trans (Turned.alloc _ _ _) fun _ _ q => q).comp t2 fun b hb q => q.elim id fun q => by omega⟩; clear q2 t2))
    go_ret2
    exact ⟨A2.out.2, .inr ⟨[] ++ [(first : Int)], a2, c2, HR.out, rfl, A2.out.1.widen fun b q => q.1⟩⟩
  have y1 : ((second : Int) == 4294967295) = false := int_neb _ _ (by omega)
  by_cases h3 : second < 2147483648
  · have d3 : decide ((second : Int) < 2147483648) = true := decide_eq_true (by omega)
    have d3n : decide (second < 2147483648) = true := decide_eq_true (by omega)
    have HR : Hid (refPar first second E = some ([(first : Int)] ++ [(second : Int)])) := by
      have q : refPar first second E = some ([(first : Int)] ++ [(second : Int)]) := by unfold refPar; rw [if_neg h1, if_neg h2, if_pos h3]; rfl
      exact q
    have m1 : Hid (1 + 1 ≤ maxLen ∧ (1 + 1) * 8 ≤ 140737488355328) := (by simp only [maxLen]; omega : 1 + 1 ≤ maxLen ∧ (1 + 1) * 8 ≤ 140737488355328)
    clear hf hs hz h1 h2 h3
    go_enter Try.func98, Try.ntmps98
    go_wp2_with (first
      | (at_builtin; refine wpList_append rfl (.tmp 18) (.tmp 20) 57 57 rfl ((Sl.nil w (fun b => w.heap.size ≤ b ∧ b < w.heap.size) 3 1).turned (Turned.alloc (fun _ => False) _ _) fun _ _ q => q) Try.underlying57 info3i rfl (by decide) rfl (.slice (some ⟨w.heap.size, 0, none⟩) 1 1) rfl (src_one Try.underlying57 (.int .i64 (first : Nat)) rfl w) (by simp [maxLen]) (by decide) ?_; intro v2 w2 q2 t2; obtain ⟨a2, c2, rfl, -, -⟩ := q2.value; have A2 : Hid (Sl w2 (fun b => w.heap.size ≤ b ∧ b < w2.heap.size) 3 1 (.slice a2 1 c2) (ncells [(first : Int)]) 1 ∧ Turned (fun _ => False) w w2) := ⟨(sl_bound q2).widen (fun b q => ⟨q.1.elim (fun q => q.1) fun q => by have := (Turned.refl (fun _ => False) w).size; simp at q; omega, q.2⟩), ((Turned.refl (fun _ => False) w).trans (Turned.alloc _ _ _) fun _ _ q => q).comp t2 fun b hb q => q.elim id fun q => by omega⟩; clear q2 t2)
      | (at_builtin; refine wpList_append rfl (.tmp 27) (.tmp 29) 57 57 rfl (A2.out.1.turned (Turned.alloc (fun _ => False) _ _) fun _ _ q => q) Try.underlying57 info3i rfl (by decide) rfl (.slice (some ⟨w2.heap.size, 0, none⟩) 1 1) rfl (src_one Try.underlying57 (.int .i64 (second : Nat)) rfl w2) m1.out.1 m1.out.2 ?_; intro v3 w3 q3 t3; obtain ⟨a3, c3, rfl, -, -⟩ := q3.value; have A3 : Hid (Sl w3 (fun b => w.heap.size ≤ b ∧ b < w3.heap.size) 3 1 (.slice a3 2 c3) (ncells ([(first : Int)] ++ [(second : Int)])) 2 ∧ Turned (fun _ => False) w w3) := ⟨(sl_bound q3).widen (fun b q => ⟨q.1.elim (fun q => q.1) fun q => by have := A2.out.2.size; simp at q; omega, q.2⟩), (A2.out.2.new _).comp t3 fun b hb q => q.elim id fun q => by omega⟩; clear q3 t3))
    go_ret2
    exact ⟨A3.out.2, .inr ⟨[(first : Int)] ++ [(second : Int)], a3, c3, HR.out, rfl, A3.out.1.widen fun b q => q.1⟩⟩
  have d3 : decide ((second : Int) < 2147483648) = false := decide_eq_false (by omega)
  have d3n : decide (second < 2147483648) = false := decide_eq_false (by omega)
  obtain ⟨d, hd⟩ : ∃ d, d = second - 2147483648 := ⟨_, rfl⟩
  have e1 : wrap64 ((second : Int) - 2147483648) = (d : Int) := by simp [wrap64]; omega
  obtain ⟨at_, hat⟩ : ∃ at_, at_ = 4 * d := ⟨_, rfl⟩
  have e2 : wrap64 (4 * (d : Int)) = (at_ : Int) := by simp [wrap64]; omega
  obtain ⟨o, ho⟩ : ∃ o, o = parLoop E 16 [(first : Int)] (at_, 0) := ⟨_, rfl⟩
  have HR : Hid (refPar first second E = o) := by
    have q : refPar first second E = o := by unfold refPar; rw [if_neg h1, if_neg h2, if_neg h3, ← hd, ← hat, ho]
    exact q
  rw [HR.out]
  have HAT : Hid (at_ ≤ 8589934592) := (by omega : at_ ≤ 8589934592)
  have HO : Hid (o = parLoop E 16 [(first : Int)] (at_, 0)) := ho
  have SZ : Hid (E.size ≤ 4611686018427387904) := hz
  clear hz h1 h2 h3 hat hs hf ho HR hd
  go_enter Try.func98, Try.ntmps98
  go_wp2_with (first
    | (at_builtin; refine wpList_append rfl (.tmp 18) (.tmp 20) 57 57 rfl ((Sl.nil w (fun b => w.heap.size ≤ b ∧ b < w.heap.size) 3 1).turned (Turned.alloc (fun _ => False) _ _) fun _ _ q => q) Try.underlying57 info3i rfl (by decide) rfl (.slice (some ⟨w.heap.size, 0, none⟩) 1 1) rfl (src_one Try.underlying57 (.int .i64 (first : Nat)) rfl w) (by simp [maxLen]) (by decide) ?_; intro v2 w2 q2 t2; obtain ⟨a2, c2, rfl, -, -⟩ := q2.value; have A2 : Hid (Sl w2 (fun b => w.heap.size ≤ b ∧ b < w2.heap.size) 3 1 (.slice a2 1 c2) (ncells [(first : Int)]) 1 ∧ Turned (fun _ => False) w w2) := ⟨(sl_bound q2).widen (fun b q => ⟨q.1.elim (fun q => q.1) fun q => by have := (Turned.refl (fun _ => False) w).size; simp at q; omega, q.2⟩), ((Turned.refl (fun _ => False) w).trans (Turned.alloc _ _ _) fun _ _ q => q).comp t2 fun b hb q => q.elim id fun q => by omega⟩; clear q2 t2))
  have HS : Hid (RprRel E w o 16 (.slice a2 1 c2) (.int .i64 (at_ : Nat)) w2) := ⟨[(first : Int)], at_, _, rfl, A2.out.1, fun b q => q, rfl, by have := HAT.out; omega, HO.out, A2.out.2⟩
  clear A2 e1 y0 y1 d3 d3n
  go_loopg [8, 9] 16 (fun g v i wr => RprRel E w o g v i wr)
  case atStart => rw [e2]; exact HS.out
  case round =>
    obtain ⟨l, p, R, hlg, hsl, hR, rfl, hp, ho, htr⟩ := hrel
    obtain ⟨a, c, rfl, -, -⟩ := hsl.value
    obtain ⟨n, hn⟩ : ∃ n, n = l.length := ⟨_, rfl⟩
    rw [← hn]
    have SLH : Hid (Sl wr R 3 1 (.slice a n c) (ncells l) n) := by
      have q : Sl wr R 3 1 (.slice a n c) (ncells l) n := by rw [hn]; exact hsl
      exact q
    have G : Hid (n + gk = 17 ∧ n = l.length) := ⟨by rw [hn]; exact hlg, hn⟩
    have RR : Hid (∀ b, R b → w.heap.size ≤ b ∧ b < wr.heap.size) := hR
    have T : Hid (Turned (fun _ => False) w wr) := htr
    obtain ⟨p4, hp4⟩ : ∃ q, q = p + 4 := ⟨_, rfl⟩
    have hw : wrap64 ((p : Int) + 4) = (p4 : Int) := by simp [wrap64]; omega
    have HP : Hid (p ≤ 8589934592 + 4 * l.length ∧ p4 = p + 4) := ⟨hp, hp4⟩
    clear hlg hsl hR htr hn hp HS e2
    by_cases hz : p4 ≤ E.size
    · have d4 : decide ((p4 : Int) ≤ (E.size : Int)) = true := decide_eq_true (by omega)
      have d4n : decide (p4 ≤ E.size) = true := decide_eq_true hz
      by_cases hg : gk = 0
      · have d5 : decide ((n : Int) ≤ 16) = false := decide_eq_false (by have := G.out; omega)
        have d5n : decide (n ≤ 16) = false := decide_eq_false (by have := G.out; omega)
        subst hg
        have HN : Hid (o = none) := ho
        clear ho hp4 hz
        go_wp2
        go_ret2
        exact ⟨T.out, .inl ⟨HN.out, _, _, _, rfl⟩⟩
      · have d5 : decide ((n : Int) ≤ 16) = true := decide_eq_true (by have := G.out; omega)
        have d5n : decide (n ≤ 16) = true := decide_eq_true (by have := G.out; omega)
        obtain ⟨g2, rfl⟩ : ∃ g2, gk = g2 + 1 := ⟨gk - 1, by omega⟩
        have hfit : p + 4 ≤ E.size := by omega
        rw [parLoop, rdNum_fld E p 4 hfit] at ho
        have hb := fld_lt E p 4 hfit
        have hsl : ∀ W, (Instr.slice 9 (.string E) (some (.int .i64 (p : Nat))) (some (.int .i64 (p4 : Nat))) none).run Try.prog W = .ok (.string (E.extract p p4)) W := fun W => by
          have := run_slice_string (P := Try.prog) W 9 E .i64 .i64 (p : Int) (p4 : Int) Try.underlying9 (by omega) (by omega) (by omega)
          rw [Int.toNat_natCast, Int.toNat_natCast] at this
          exact this
        have hsub := fld_sub E p hfit
        rw [← hp4] at hsub
        have hss : (E.extract p p4).size = 4 := by rw [ByteArray.size_extract]; omega
        have hnw := fun W => rnew_any (E.extract p p4) W
        have hnum : ∀ W q, RrIs W q (E.extract p p4) (0, 0) → Calls Try.prog 87 #[pt q, .int .i64 4] W fun e w' => e = .returned (.tuple #[.int .u64 (fld E p 4 : Nat), .int .i64 0]) ∧ Turned (· = q) W w' := fun W q h => by
          have := rnum_r 4 h (Nat.zero_le _) (by omega) (by omega)
          rw [hsub] at this
          exact this.mono fun e w' k => ⟨k.1, k.2.2⟩
        simp only at ho
        rw [if_neg (by simp), ← hp4] at ho
        have m1 : Hid (n + 1 ≤ maxLen ∧ (n + 1) * 8 ≤ 140737488355328) := (by have := G.out; simp only [maxLen]; omega : n + 1 ≤ maxLen ∧ (n + 1) * 8 ≤ 140737488355328)
        generalize fld E p 4 = x at *
        generalize E.extract p p4 = sub at *
        obtain ⟨y, hy⟩ : ∃ y, y = x % 2147483648 := ⟨_, rfl⟩
        rw [← hy] at ho
        have HXY : Hid (x < 4294967296 ∧ y = x % 2147483648) := ⟨hb, hy⟩
        have HNW : Hid (∀ W, Calls Try.prog 86 #[.string sub] W fun e w' => e = .returned (pt W.heap.size) ∧ RrIs w' W.heap.size sub (0, 0) ∧ Turned (fun _ => False) W w' ∧ w'.heap.size = W.heap.size + 1) := hnw
        have HNM : Hid (∀ W q, RrIs W q sub (0, 0) → Calls Try.prog 87 #[pt q, .int .i64 4] W fun e w' => e = .returned (.tuple #[.int .u64 (x : Nat), .int .i64 0]) ∧ Turned (· = q) W w') := hnum
        have h86 := HNW.out wr
        by_cases hx : 2147483648 ≤ x
        · have d6 : decide ((2147483648 : Int) ≤ (x : Int)) = true := decide_eq_true (by omega)
          have d6n : decide (2147483648 ≤ x) = true := decide_eq_true hx
          have e3 : IntKind.u64.wrap ((x : Int) - 2147483648) = (y : Int) := by simp [IntKind.wrap, IntKind.bits, IntKind.signed]; omega
          have e4 : ((x : Int) - 2147483648) % 18446744073709551616 = (y : Int) := by omega
          have e5 : wrap64 (y : Int) = (y : Int) := by simp [wrap64]; omega
          rw [if_pos hx] at ho
          have HO2 : Hid (o = some (l ++ [(y : Int)])) := ho
          clear ho hx hsub hss hnw hnum hg hfit hz hp4 hb hy
          go_wp2_with (first
            | (go_at_call 86; (with_reducible refine h86.mono ?_); rintro e w2 ⟨rfl, hr2, ht2, hz2⟩; have h87 := HNM.out w2 _ hr2; have Z2 : Hid (Turned (fun _ => False) wr w2 ∧ w2.heap.size = wr.heap.size + 1) := ⟨ht2, hz2⟩; clear hr2 ht2 hz2 h86)
            | (go_at_call 87; (with_reducible refine h87.mono ?_); rintro e w3 ⟨rfl, ht3⟩; have Z3 : Hid (Turned (fun _ => False) w w3 ∧ Sl w3 R 3 1 (.slice a n c) (ncells l) n ∧ wr.heap.size + 1 ≤ w3.heap.size) := ⟨(T.out.trans Z2.out.1 fun _ _ q => q).comp ht3 (fun b hb q => q.elim id fun q => by have := T.out.size; have q2 : b = wr.heap.size := q; omega), (SLH.out.turned Z2.out.1 fun _ _ q => q).turned ht3 (fun b q z => by have := (RR.out b q).2; have z2 : b = wr.heap.size := z; omega), by have := ht3.size; have := Z2.out.2; omega⟩; clear ht3 h87)
            | (at_builtin; refine wpList_append rfl (.tmp 59) (.tmp 63) 57 57 rfl (Z3.out.2.1.turned (Turned.alloc (fun _ => False) _ _) fun _ _ q => q) Try.underlying57 info3i rfl (by decide) rfl (.slice (some ⟨w3.heap.size, 0, none⟩) 1 1) rfl (src_one Try.underlying57 (.int .i64 (y : Nat)) rfl w3) m1.out.1 m1.out.2 ?_; intro v4 w4 q4 t4; obtain ⟨a4, c4, rfl, -, -⟩ := q4.value; have B4 : Hid (Sl w4 (fun b => w.heap.size ≤ b ∧ b < w4.heap.size) 3 1 (.slice a4 (n + 1) c4) (ncells l ++ [.int .i64 (y : Nat)]) (n + 1) ∧ Turned (fun _ => False) w w4) := ⟨(sl_bound q4).widen (fun b q => ⟨q.1.elim (fun q => (RR.out b q).1) (fun q => by have h1 := T.out.size; have h2 := Z3.out.2.2; simp at q; omega), q.2⟩), (Z3.out.1.new _).comp t4 (fun b hb q => q.elim id fun q => by have := (RR.out b q).1; omega)⟩; clear q4 t4))
          go_ret2
          have e : (l ++ [(y : Int)]).length = n + 1 := by rw [List.length_append, ← G.out.2]; rfl
          refine ⟨B4.out.2, .inr ⟨l ++ [(y : Int)], a4, c4, HO2.out, by rw [e]; rfl, ?_⟩⟩
          rw [e, ncells_snoc]
          exact B4.out.1.widen fun b q => q.1
        · have d6 : decide ((2147483648 : Int) ≤ (x : Int)) = false := decide_eq_false (by omega)
          have d6n : decide (2147483648 ≤ x) = false := decide_eq_false hx
          obtain rfl : x = y := by omega
          have e5 : wrap64 (x : Int) = (x : Int) := by simp [wrap64]; omega
          rw [if_neg hx] at ho
          have HO2 : Hid (o = parLoop E g2 (l ++ [(x : Int)]) (p4, 0)) := ho
          clear ho hx hsub hss hnw hnum hg hfit hz hp4 hb hy
          go_wp2_with (first
            | (go_at_call 86; (with_reducible refine h86.mono ?_); rintro e w2 ⟨rfl, hr2, ht2, hz2⟩; have h87 := HNM.out w2 _ hr2; have Z2 : Hid (Turned (fun _ => False) wr w2 ∧ w2.heap.size = wr.heap.size + 1) := ⟨ht2, hz2⟩; clear hr2 ht2 hz2 h86)
            | (go_at_call 87; (with_reducible refine h87.mono ?_); rintro e w3 ⟨rfl, ht3⟩; have Z3 : Hid (Turned (fun _ => False) w w3 ∧ Sl w3 R 3 1 (.slice a n c) (ncells l) n ∧ wr.heap.size + 1 ≤ w3.heap.size) := ⟨(T.out.trans Z2.out.1 fun _ _ q => q).comp ht3 (fun b hb q => q.elim id fun q => by have := T.out.size; have q2 : b = wr.heap.size := q; omega), (SLH.out.turned Z2.out.1 fun _ _ q => q).turned ht3 (fun b q z => by have := (RR.out b q).2; have z2 : b = wr.heap.size := z; omega), by have := ht3.size; have := Z2.out.2; omega⟩; clear ht3 h87)
            | (at_builtin; refine wpList_append rfl (.tmp 65) (.tmp 68) 57 57 rfl (Z3.out.2.1.turned (Turned.alloc (fun _ => False) _ _) fun _ _ q => q) Try.underlying57 info3i rfl (by decide) rfl (.slice (some ⟨w3.heap.size, 0, none⟩) 1 1) rfl (src_one Try.underlying57 (.int .i64 (x : Nat)) rfl w3) m1.out.1 m1.out.2 ?_; intro v4 w4 q4 t4; obtain ⟨a4, c4, rfl, -, -⟩ := q4.value; have B4 : Hid (Sl w4 (fun b => w.heap.size ≤ b ∧ b < w4.heap.size) 3 1 (.slice a4 (n + 1) c4) (ncells l ++ [.int .i64 (x : Nat)]) (n + 1) ∧ Turned (fun _ => False) w w4) := ⟨(sl_bound q4).widen (fun b q => ⟨q.1.elim (fun q => (RR.out b q).1) (fun q => by have h1 := T.out.size; have h2 := Z3.out.2.2; simp at q; omega), q.2⟩), (Z3.out.1.new _).comp t4 (fun b hb q => q.elim id fun q => by have := (RR.out b q).1; omega)⟩; clear q4 t4))
          go_roundg g2
          case measure => omega
          case rel =>
            have e : (l ++ [(x : Int)]).length = n + 1 := by rw [List.length_append, ← G.out.2]; rfl
            refine ⟨l ++ [(x : Int)], p4, _, by have := G.out; omega, ?_, fun b q => q, by first | rfl | rw [hw], by have := HP.out; have := G.out; omega, HO2.out, B4.out.2⟩
            rw [e, ncells_snoc]
            exact B4.out.1
    · have d4 : decide ((p4 : Int) ≤ (E.size : Int)) = false := decide_eq_false (by omega)
      have d4n : decide (p4 ≤ E.size) = false := decide_eq_false hz
      have HN : Hid (o = none) := by
        have q : o = none := by
          rw [ho]
          cases gk with
          | zero => rfl
          | succ g2 => rw [parLoop, rdNum_short E p 4 (by omega)]; simp
        exact q
      clear ho hz hp4
      go_wp2
      go_ret2
      exact ⟨T.out, .inl ⟨HN.out, _, _, _, rfl⟩⟩
end Go.Proofs.Ytfeljngmidhajaa

namespace Go.Proofs.Ytfeljngmidhajaa
open Go.RowKit Go.Mine

theorem dec_drewN {S : Nat → Prop} {a w : World} (h : Turned S a w) (n : Nat) : Turned S a (w.drewN n) := ⟨h.os, h.tape, h.output, h.size, h.block⟩

theorem rnumOk {w : World} {p : Nat} {s : ByteArray} {a : Nat} (n v a2 : Nat) (h : RrIs w p s (a, 0)) (hle : a + n ≤ s.size) (hs : s.size ≤ 4611686018427387904) (hn : n ≤ 8) (hv : v = fld s a n) (ha : a2 = a + n) :
    Calls Try.prog 87 #[pt p, .int .i64 (n : Nat)] w fun e w' => e = .returned (.tuple #[.int .u64 (v : Nat), .int .i64 0]) ∧ RrIs w' p s (a2, 0) ∧ Turned (· = p) w w' := by
  subst hv
  subst ha
  refine (rnum_r n h (by simp only; omega) hs hn).mono ?_
  rintro e w' ⟨h1, h2, h3⟩
  rw [rdNum_fld s a n hle] at h1 h2
  exact ⟨h1, h2, h3⟩

set_option maxRecDepth 100000 in
set_option maxHeartbeats 4000000 in
theorem rdecode_err (t : ByteArray) (k : Nat) (w : World) (hs : t.size ≤ 4611686018427387904) (hpr : rparseR t = .error k) : Calls Try.prog 70 #[.string t] w (DecPost w (.error k)) := by
  have hp := rparse_any t (w.alloc (.cells #[.int .i64 0, .int .i64 0, .int .i64 0, .int .i64 0, .int .u32 0, .slice none 0 0] 40)) hs
  have hk := parse_err t k (by rw [parse_same]; exact hpr)
  rw [hpr] at hp
  have hd := int_neb (k : Int) 0 (by omega)
  have hd2 := int_bne2 (k : Int) 0 (by omega)
  clear hk hpr hs
  go_enter Try.func70, Try.ntmps70
  go_wp2_with (go_at_call 62; (with_reducible refine hp.mono ?_); rintro e w1 ⟨ht, rfl⟩; have A1 : Hid (w1.heap[w.heap.size]? = some (.cells #[.int .i64 0, .int .i64 0, .int .i64 0, .int .i64 0, .int .u32 0, .slice none 0 0] 40 (0, 0)) ∧ Turned (fun _ => False) w w1 ∧ w.heap.size + 1 ≤ w1.heap.size) := ⟨(ht.block _ (by simp) id).trans (heap_alloc_last w _), ((Turned.refl (fun _ => False) w).new _).trans ht (fun _ _ q => q), by have := ht.size; simpa using this⟩; have l0 := lt_of_block A1.out.1; clear ht; have c0 := cell_of A1.out.1 0 _ rfl; have f0 := free_of A1.out.1 0; have c1 := cell_of A1.out.1 1 _ rfl; have f1 := free_of A1.out.1 1; have c2 := cell_of A1.out.1 2 _ rfl; have f2 := free_of A1.out.1 2; have c3 := cell_of A1.out.1 3 _ rfl; have f3 := free_of A1.out.1 3; have c4 := cell_of A1.out.1 4 _ rfl; have f4 := free_of A1.out.1 4; have c5 := cell_of A1.out.1 5 _ rfl; have f5 := free_of A1.out.1 5)
  refine bodyPost_ret (v := .tuple #[.agg zeroG, .int .i64 (k : Nat)]) (by simp [results, Try.results70, go_sem, c0, c1, c2, c3, c4, c5]) rfl ?_
  exact ⟨A1.out.2.1.comp (six_turned _ w.heap.size _ _ _ _ _ _) fun b hb q => q.elim id fun q => by omega, rfl⟩

set_option maxRecDepth 100000 in
set_option maxHeartbeats 4000000 in
theorem rdecode_len (t : ByteArray) (L : Nat) (w : World) (P1 : Hid (∀ W, Calls Try.prog 62 #[.string t] W fun e w' => Turned (fun _ => False) W w' ∧ ∃ a cap, e = .returned (.tuple #[.slice a L cap, .int .i64 0]))) (hL : L ≠ 5) : Calls Try.prog 70 #[.string t] w (DecPost w (.error 3)) := by
  have hp := P1.out (w.alloc (.cells #[.int .i64 0, .int .i64 0, .int .i64 0, .int .i64 0, .int .u32 0, .slice none 0 0] 40))
  have hd := int_neb (L : Int) 5 (by omega)
  have hd2 := int_bne2 (L : Int) 5 (by omega)
  clear hL
  go_enter Try.func70, Try.ntmps70
  go_wp2_with (go_at_call 62; (with_reducible refine hp.mono ?_); rintro e w1 ⟨ht, a, cap, rfl⟩; have A1 : Hid (w1.heap[w.heap.size]? = some (.cells #[.int .i64 0, .int .i64 0, .int .i64 0, .int .i64 0, .int .u32 0, .slice none 0 0] 40 (0, 0)) ∧ Turned (fun _ => False) w w1 ∧ w.heap.size + 1 ≤ w1.heap.size) := ⟨(ht.block _ (by simp) id).trans (heap_alloc_last w _), ((Turned.refl (fun _ => False) w).new _).trans ht (fun _ _ q => q), by have := ht.size; simpa using this⟩; have l0 := lt_of_block A1.out.1; clear ht; have c0 := cell_of A1.out.1 0 _ rfl; have f0 := free_of A1.out.1 0; have c1 := cell_of A1.out.1 1 _ rfl; have f1 := free_of A1.out.1 1; have c2 := cell_of A1.out.1 2 _ rfl; have f2 := free_of A1.out.1 2; have c3 := cell_of A1.out.1 3 _ rfl; have f3 := free_of A1.out.1 3; have c4 := cell_of A1.out.1 4 _ rfl; have f4 := free_of A1.out.1 4; have c5 := cell_of A1.out.1 5 _ rfl; have f5 := free_of A1.out.1 5)
  go_quiet (fail)
  go_wp2
  refine bodyPost_ret (v := .tuple #[.agg zeroG, .int .i64 3]) (by simp [results, Try.results70, go_sem, c0, c1, c2, c3, c4, c5]) rfl ?_
  exact ⟨(dec_drewN A1.out.2.1 _).comp (six_turned _ w.heap.size _ _ _ _ _ _) fun b hb q => q.elim id fun q => by omega, rfl⟩

set_option maxRecDepth 100000 in
set_option maxHeartbeats 4000000 in
theorem rdecode_h1 (t : ByteArray) (ch ca ce cn cb : ByteArray) (w : World) (P5 : Hid (∀ W, Calls Try.prog 62 #[.string t] W fun e w' => Turned (fun _ => False) W w' ∧ ∃ a cap g off, e = .returned (.tuple #[.slice a 5 cap, .int .i64 0]) ∧ a = some ⟨g, off, none⟩ ∧ g < w'.heap.size ∧ w'.cell? ⟨g, off + 1, none⟩ = some (.string ch) ∧ w'.cell? ⟨g, off + 3, none⟩ = some (.string ca) ∧ w'.cell? ⟨g, off + 5, none⟩ = some (.string ce) ∧ w'.cell? ⟨g, off + 7, none⟩ = some (.string cn) ∧ w'.cell? ⟨g, off + 9, none⟩ = some (.string cb)))
    (h : ch.size ≠ 16) : Calls Try.prog 70 #[.string t] w (DecPost w (.error 3)) := by
  have hp := P5.out (w.alloc (.cells #[.int .i64 0, .int .i64 0, .int .i64 0, .int .i64 0, .int .u32 0, .slice none 0 0] 40))
  have hd := int_neb (ch.size : Int) 16 (by omega)
  have hd2 := int_bne2 (ch.size : Int) 16 (by omega)
  clear h
  go_enter Try.func70, Try.ntmps70
  go_wp2_with (go_at_call 62; (with_reducible refine hp.mono ?_); rintro e w1 ⟨ht, a, cap, g, off, rfl, rfl, hg, k0, k1, k2, k3, k4⟩; have A1 : Hid (w1.heap[w.heap.size]? = some (.cells #[.int .i64 0, .int .i64 0, .int .i64 0, .int .i64 0, .int .u32 0, .slice none 0 0] 40 (0, 0)) ∧ Turned (fun _ => False) w w1 ∧ w.heap.size + 1 ≤ w1.heap.size) := ⟨(ht.block _ (by simp) id).trans (heap_alloc_last w _), ((Turned.refl (fun _ => False) w).new _).trans ht (fun _ _ q => q), by have := ht.size; simpa using this⟩; have l0 := lt_of_block A1.out.1; clear ht; have c0 := cell_of A1.out.1 0 _ rfl; have f0 := free_of A1.out.1 0; have c1 := cell_of A1.out.1 1 _ rfl; have f1 := free_of A1.out.1 1; have c2 := cell_of A1.out.1 2 _ rfl; have f2 := free_of A1.out.1 2; have c3 := cell_of A1.out.1 3 _ rfl; have f3 := free_of A1.out.1 3; have c4 := cell_of A1.out.1 4 _ rfl; have f4 := free_of A1.out.1 4; have c5 := cell_of A1.out.1 5 _ rfl; have f5 := free_of A1.out.1 5)
  go_quiet (fail)
  clear hg k0 k1 k2 k3 k4
  go_wp2
  refine bodyPost_ret (v := .tuple #[.agg zeroG, .int .i64 3]) (by simp [results, Try.results70, go_sem, c0, c1, c2, c3, c4, c5]) rfl ?_
  exact ⟨(dec_drewN A1.out.2.1 _).comp (six_turned _ w.heap.size _ _ _ _ _ _) fun b hb q => q.elim id fun q => by omega, rfl⟩

set_option maxRecDepth 100000 in
set_option maxHeartbeats 4000000 in
theorem rdecode_h2 (t : ByteArray) (ch ca ce cn cb : ByteArray) (w : World) (P5 : Hid (∀ W, Calls Try.prog 62 #[.string t] W fun e w' => Turned (fun _ => False) W w' ∧ ∃ a cap g off, e = .returned (.tuple #[.slice a 5 cap, .int .i64 0]) ∧ a = some ⟨g, off, none⟩ ∧ g < w'.heap.size ∧ w'.cell? ⟨g, off + 1, none⟩ = some (.string ch) ∧ w'.cell? ⟨g, off + 3, none⟩ = some (.string ca) ∧ w'.cell? ⟨g, off + 5, none⟩ = some (.string ce) ∧ w'.cell? ⟨g, off + 7, none⟩ = some (.string cn) ∧ w'.cell? ⟨g, off + 9, none⟩ = some (.string cb)))
    (hq : ((ch.size : Int) != 16) = false) (hq2 : ((ch.size : Int) == 16) = true) (m : Nat) (hm : ((ca.size : Int)).tmod 15 = (m : Int)) (h : m ≠ 0) : Calls Try.prog 70 #[.string t] w (DecPost w (.error 3)) := by
  have hp := P5.out (w.alloc (.cells #[.int .i64 0, .int .i64 0, .int .i64 0, .int .i64 0, .int .u32 0, .slice none 0 0] 40))
  have hd := int_neb (m : Int) 0 (by omega)
  have hd2 := int_bne2 (m : Int) 0 (by omega)
  have hd3 : (m == 0) = false := by simpa using h
  have hd4 : (m != 0) = true := by simpa using h
  have hd5 : decide (m = 0) = false := by simpa using h
  clear h
  go_enter Try.func70, Try.ntmps70
  go_wp2_with (go_at_call 62; (with_reducible refine hp.mono ?_); rintro e w1 ⟨ht, a, cap, g, off, rfl, rfl, hg, k0, k1, k2, k3, k4⟩; have A1 : Hid (w1.heap[w.heap.size]? = some (.cells #[.int .i64 0, .int .i64 0, .int .i64 0, .int .i64 0, .int .u32 0, .slice none 0 0] 40 (0, 0)) ∧ Turned (fun _ => False) w w1 ∧ w.heap.size + 1 ≤ w1.heap.size) := ⟨(ht.block _ (by simp) id).trans (heap_alloc_last w _), ((Turned.refl (fun _ => False) w).new _).trans ht (fun _ _ q => q), by have := ht.size; simpa using this⟩; have l0 := lt_of_block A1.out.1; clear ht; have c0 := cell_of A1.out.1 0 _ rfl; have f0 := free_of A1.out.1 0; have c1 := cell_of A1.out.1 1 _ rfl; have f1 := free_of A1.out.1 1; have c2 := cell_of A1.out.1 2 _ rfl; have f2 := free_of A1.out.1 2; have c3 := cell_of A1.out.1 3 _ rfl; have f3 := free_of A1.out.1 3; have c4 := cell_of A1.out.1 4 _ rfl; have f4 := free_of A1.out.1 4; have c5 := cell_of A1.out.1 5 _ rfl; have f5 := free_of A1.out.1 5)
  go_quiet (fail)
  clear hg k0 k1 k2 k3 k4
  go_wp2
  refine bodyPost_ret (v := .tuple #[.agg zeroG, .int .i64 3]) (by simp [results, Try.results70, go_sem, c0, c1, c2, c3, c4, c5]) rfl ?_
  exact ⟨(dec_drewN A1.out.2.1 _).comp (six_turned _ w.heap.size _ _ _ _ _ _) fun b hb q => q.elim id fun q => by omega, rfl⟩

set_option maxRecDepth 100000 in
set_option maxHeartbeats 4000000 in
theorem rdecode_h3 (t : ByteArray) (ch ca ce cn cb : ByteArray) (w : World) (P5 : Hid (∀ W, Calls Try.prog 62 #[.string t] W fun e w' => Turned (fun _ => False) W w' ∧ ∃ a cap g off, e = .returned (.tuple #[.slice a 5 cap, .int .i64 0]) ∧ a = some ⟨g, off, none⟩ ∧ g < w'.heap.size ∧ w'.cell? ⟨g, off + 1, none⟩ = some (.string ch) ∧ w'.cell? ⟨g, off + 3, none⟩ = some (.string ca) ∧ w'.cell? ⟨g, off + 5, none⟩ = some (.string ce) ∧ w'.cell? ⟨g, off + 7, none⟩ = some (.string cn) ∧ w'.cell? ⟨g, off + 9, none⟩ = some (.string cb)))
    (hq : ((ch.size : Int) != 16) = false) (hq2 : ((ch.size : Int) == 16) = true) (e15 : ((ca.size : Int)).tmod 15 = 0) (m : Nat) (hm : ((cn.size : Int)).tmod 4 = (m : Int)) (h : m ≠ 0) : Calls Try.prog 70 #[.string t] w (DecPost w (.error 3)) := by
  have hp := P5.out (w.alloc (.cells #[.int .i64 0, .int .i64 0, .int .i64 0, .int .i64 0, .int .u32 0, .slice none 0 0] 40))
  have hd := int_neb (m : Int) 0 (by omega)
  have hd2 := int_bne2 (m : Int) 0 (by omega)
  have hd3 : (m == 0) = false := by simpa using h
  have hd4 : (m != 0) = true := by simpa using h
  have hd5 : decide (m = 0) = false := by simpa using h
  clear h
  go_enter Try.func70, Try.ntmps70
  go_wp2_with (go_at_call 62; (with_reducible refine hp.mono ?_); rintro e w1 ⟨ht, a, cap, g, off, rfl, rfl, hg, k0, k1, k2, k3, k4⟩; have A1 : Hid (w1.heap[w.heap.size]? = some (.cells #[.int .i64 0, .int .i64 0, .int .i64 0, .int .i64 0, .int .u32 0, .slice none 0 0] 40 (0, 0)) ∧ Turned (fun _ => False) w w1 ∧ w.heap.size + 1 ≤ w1.heap.size) := ⟨(ht.block _ (by simp) id).trans (heap_alloc_last w _), ((Turned.refl (fun _ => False) w).new _).trans ht (fun _ _ q => q), by have := ht.size; simpa using this⟩; have l0 := lt_of_block A1.out.1; clear ht; have c0 := cell_of A1.out.1 0 _ rfl; have f0 := free_of A1.out.1 0; have c1 := cell_of A1.out.1 1 _ rfl; have f1 := free_of A1.out.1 1; have c2 := cell_of A1.out.1 2 _ rfl; have f2 := free_of A1.out.1 2; have c3 := cell_of A1.out.1 3 _ rfl; have f3 := free_of A1.out.1 3; have c4 := cell_of A1.out.1 4 _ rfl; have f4 := free_of A1.out.1 4; have c5 := cell_of A1.out.1 5 _ rfl; have f5 := free_of A1.out.1 5)
  go_quiet (fail)
  clear hg k0 k1 k2 k3 k4
  go_wp2
  refine bodyPost_ret (v := .tuple #[.agg zeroG, .int .i64 3]) (by simp [results, Try.results70, go_sem, c0, c1, c2, c3, c4, c5]) rfl ?_
  exact ⟨(dec_drewN A1.out.2.1 _).comp (six_turned _ w.heap.size _ _ _ _ _ _) fun b hb q => q.elim id fun q => by omega, rfl⟩

set_option maxRecDepth 100000 in
set_option maxHeartbeats 4000000 in
theorem rdecode_h4 (t : ByteArray) (ch ca ce cn cb : ByteArray) (w : World) (P5 : Hid (∀ W, Calls Try.prog 62 #[.string t] W fun e w' => Turned (fun _ => False) W w' ∧ ∃ a cap g off, e = .returned (.tuple #[.slice a 5 cap, .int .i64 0]) ∧ a = some ⟨g, off, none⟩ ∧ g < w'.heap.size ∧ w'.cell? ⟨g, off + 1, none⟩ = some (.string ch) ∧ w'.cell? ⟨g, off + 3, none⟩ = some (.string ca) ∧ w'.cell? ⟨g, off + 5, none⟩ = some (.string ce) ∧ w'.cell? ⟨g, off + 7, none⟩ = some (.string cn) ∧ w'.cell? ⟨g, off + 9, none⟩ = some (.string cb)))
    (hq : ((ch.size : Int) != 16) = false) (hq2 : ((ch.size : Int) == 16) = true) (e15 : ((ca.size : Int)).tmod 15 = 0) (e4 : ((cn.size : Int)).tmod 4 = 0) (m n : Nat) (hm : ((ca.size : Int)).tdiv 15 = (m : Int)) (hn : ((cn.size : Int)).tdiv 4 = (n : Int)) (wm : wrap64 (m : Int) = (m : Int)) (wn : wrap64 (n : Int) = (n : Int)) (h : m ≠ n) : Calls Try.prog 70 #[.string t] w (DecPost w (.error 3)) := by
  have hp := P5.out (w.alloc (.cells #[.int .i64 0, .int .i64 0, .int .i64 0, .int .i64 0, .int .u32 0, .slice none 0 0] 40))
  have hd := int_neb (m : Int) n (by omega)
  have hd2 := int_bne2 (m : Int) n (by omega)
  have hd3 : (m == n) = false := by simpa using h
  have hd4 : (m != n) = true := by simpa using h
  have hd5 : decide (m = n) = false := by simpa using h
  clear h
  go_enter Try.func70, Try.ntmps70
  go_wp2_with (go_at_call 62; (with_reducible refine hp.mono ?_); rintro e w1 ⟨ht, a, cap, g, off, rfl, rfl, hg, k0, k1, k2, k3, k4⟩; have A1 : Hid (w1.heap[w.heap.size]? = some (.cells #[.int .i64 0, .int .i64 0, .int .i64 0, .int .i64 0, .int .u32 0, .slice none 0 0] 40 (0, 0)) ∧ Turned (fun _ => False) w w1 ∧ w.heap.size + 1 ≤ w1.heap.size) := ⟨(ht.block _ (by simp) id).trans (heap_alloc_last w _), ((Turned.refl (fun _ => False) w).new _).trans ht (fun _ _ q => q), by have := ht.size; simpa using this⟩; have l0 := lt_of_block A1.out.1; clear ht; have c0 := cell_of A1.out.1 0 _ rfl; have f0 := free_of A1.out.1 0; have c1 := cell_of A1.out.1 1 _ rfl; have f1 := free_of A1.out.1 1; have c2 := cell_of A1.out.1 2 _ rfl; have f2 := free_of A1.out.1 2; have c3 := cell_of A1.out.1 3 _ rfl; have f3 := free_of A1.out.1 3; have c4 := cell_of A1.out.1 4 _ rfl; have f4 := free_of A1.out.1 4; have c5 := cell_of A1.out.1 5 _ rfl; have f5 := free_of A1.out.1 5)
  go_quiet (fail)
  clear hg k0 k1 k2 k3 k4
  go_wp2
  refine bodyPost_ret (v := .tuple #[.agg zeroG, .int .i64 3]) (by simp [results, Try.results70, go_sem, c0, c1, c2, c3, c4, c5]) rfl ?_
  exact ⟨(dec_drewN A1.out.2.1 _).comp (six_turned _ w.heap.size _ _ _ _ _ _) fun b hb q => q.elim id fun q => by omega, rfl⟩

end Go.Proofs.Ytfeljngmidhajaa

namespace Go.Proofs.Ytfeljngmidhajaa
open Go.RowKit Go.Mine

def rowO (op : Option (List Int)) (cB : ByteArray) (la nx u0 u4 u5 : Nat) : Option (Rw × Nat) := match op with
  | none => none
  | some par => if nx < la then none else if cB.size < nx then none else some (⟨par, u0, u4, u5, cB.extract la nx⟩, nx)
theorem rowG_rowO (P : Nat → Nat → ByteArray → Option (List Int)) (cA cE cN cB : ByteArray) (j la : Nat) : rowG P cA cE cN cB j la = rowO (P (fld cA (15 * j + 4) 4) (fld cA (15 * j + 8) 4) cE) cB la (fld cN (4 * j) 4) (fld cA (15 * j) 4) (fld cA (15 * j + 12) 2) (fld cA (15 * j + 14) 1) := rfl
theorem rowsG_none {P : Nat → Nat → ByteArray → Option (List Int)} {cA cE cN cB : ByteArray} {k j la : Nat} {l : List Rw} (h : rowG P cA cE cN cB j la = none) : rowsG P cA cE cN cB (k + 1) j la l = none := by
  rw [rowsG, h]
theorem rowsG_some {P : Nat → Nat → ByteArray → Option (List Int)} {cA cE cN cB : ByteArray} {k j la nx : Nat} {l : List Rw} {r : Rw} (h : rowG P cA cE cN cB j la = some (r, nx)) : rowsG P cA cE cN cB (k + 1) j la l = rowsG P cA cE cN cB k (j + 1) nx (l ++ [r]) := by
  rw [rowsG, h]

def RdRel (w1 : World) (pH : Nat) (cA cE cN cB : ByteArray) (pA pN gB N : Nat) (o : Option (List Rw)) (v0 v1 v2 v3 v4 : Value) (g : Nat) (last i : Value) (wr : World) : Prop :=
  ∃ (j la : Nat) (l : List Rw) (rv : Value) (R Q : Nat → Prop), (j + g = N ∧ i = .int .i64 (j : Nat) ∧ last = .int .i64 (la : Nat) ∧ l.length = j) ∧ la ≤ cB.size ∧ o = rowsG refPar cA cE cN cB g j la l ∧ (∀ r ∈ l, RdOk r) ∧
    wr.heap[gB]? = some (.cells #[v0, v1, v2, v3, v4, rv] 40 (0, 0)) ∧ RrIs wr pA cA (15 * j, 0) ∧ RrIs wr pN cN (4 * j, 0) ∧
    NewRows wr R Q rv l ∧ (∀ b, R b ∨ Q b → pN < b ∧ b < wr.heap.size) ∧ (∀ b, R b → ¬ Q b) ∧ Turned (fun b => pH ≤ b) w1 wr

set_option maxRecDepth 100000 in
set_option maxHeartbeats 8000000 in
theorem rdecode_main (t ch ca ce cn cb : ByteArray) (w : World) (N : Nat) (o : Option (List Rw)) (R0 : Except Nat Gr) (P5 : Hid (∀ W, Calls Try.prog 62 #[.string t] W fun e w' => Turned (fun _ => False) W w' ∧ ∃ a cap g off, e = .returned (.tuple #[.slice a 5 cap, .int .i64 0]) ∧ a = some ⟨g, off, none⟩ ∧ g < w'.heap.size ∧ w'.cell? ⟨g, off + 1, none⟩ = some (.string ch) ∧ w'.cell? ⟨g, off + 3, none⟩ = some (.string ca) ∧ w'.cell? ⟨g, off + 5, none⟩ = some (.string ce) ∧ w'.cell? ⟨g, off + 7, none⟩ = some (.string cn) ∧ w'.cell? ⟨g, off + 9, none⟩ = some (.string cb)))
    (hq : ((ch.size : Int) != 16) = false) (hq2 : ((ch.size : Int) == 16) = true) (e15 : ((ca.size : Int)).tmod 15 = 0) (e4 : ((cn.size : Int)).tmod 4 = 0)
    (d15 : ((ca.size : Int)).tdiv 15 = (N : Int)) (d4 : ((cn.size : Int)).tdiv 4 = (N : Int)) (wN : wrap64 (N : Int) = (N : Int))
    (SZ : Hid (ch.size = 16 ∧ ca.size = 15 * N ∧ cn.size = 4 * N ∧ ca.size ≤ 4194304 ∧ ce.size ≤ 4194304 ∧ cn.size ≤ 4194304 ∧ cb.size ≤ 4194304))
    (HO : Hid (o = rowsG refPar ca ce cn cb N 0 0 []))
    (HRES : Hid ((o = none → R0 = .error 3) ∧ (∀ rows, o = some rows → encG (headR ch rows) = .tuple #[.string t, .int .i64 0] → R0 = .ok (headR ch rows)) ∧ (∀ rows, o = some rows → encG (headR ch rows) ≠ .tuple #[.string t, .int .i64 0] → R0 = .error 3))) :
    Calls Try.prog 70 #[.string t] w (DecPost w R0) := by
  have hp := P5.out (w.alloc (.cells #[.int .i64 0, .int .i64 0, .int .i64 0, .int .i64 0, .int .u32 0, .slice none 0 0] 40))
  obtain ⟨v0, hv0⟩ : ∃ v, v = fld ch 0 4 := ⟨_, rfl⟩
  obtain ⟨v1, hv1⟩ : ∃ v, v = fld ch 4 4 := ⟨_, rfl⟩
  obtain ⟨v2, hv2⟩ : ∃ v, v = fld ch 8 1 := ⟨_, rfl⟩
  obtain ⟨v3, hv3⟩ : ∃ v, v = fld ch 9 1 := ⟨_, rfl⟩
  obtain ⟨v4, hv4⟩ : ∃ v, v = fld ch 10 2 := ⟨_, rfl⟩
  obtain ⟨v5, hv5⟩ : ∃ v, v = fld ch 12 4 := ⟨_, rfl⟩
  have HV : Hid (v0 = fld ch 0 4 ∧ v1 = fld ch 4 4 ∧ v2 = fld ch 8 1 ∧ v3 = fld ch 9 1 ∧ v4 = fld ch 10 2 ∧ v5 = fld ch 12 4) := ⟨hv0, hv1, hv2, hv3, hv4, hv5⟩
  have bv0 : v0 < 4294967296 := by rw [hv0]; exact fld_lt ch 0 4 (by have := SZ.out; omega)
  have bv2 : v2 < 256 := by rw [hv2]; exact fld_lt ch 8 1 (by have := SZ.out; omega)
  have bv3 : v3 < 256 := by rw [hv3]; exact fld_lt ch 9 1 (by have := SZ.out; omega)
  have bv4 : v4 < 65536 := by rw [hv4]; exact fld_lt ch 10 2 (by have := SZ.out; omega)
  have bv5 : v5 < 4294967296 := by rw [hv5]; exact fld_lt ch 12 4 (by have := SZ.out; omega)
  have wv0 : wrap64 ((v0 : Nat) : Int) = (v0 : Int) := by simp [wrap64]; omega
  have wv2 : wrap64 ((v2 : Nat) : Int) = (v2 : Int) := by simp [wrap64]; omega
  have wv3 : wrap64 ((v3 : Nat) : Int) = (v3 : Int) := by simp [wrap64]; omega
  have wv4 : wrap64 ((v4 : Nat) : Int) = (v4 : Int) := by simp [wrap64]; omega
  have wv5 : ((v5 : Nat) : Int) % 4294967296 = (v5 : Int) := by omega
  have HB : Hid (v0 < 4294967296 ∧ v2 < 256 ∧ v3 < 256 ∧ v4 < 65536 ∧ v5 < 4294967296) := ⟨bv0, bv2, bv3, bv4, bv5⟩
  clear hv0 hv1 hv2 hv3 hv4 hv5 bv0 bv2 bv3 bv4 bv5
  have hnH := fun W => rnew_any ch W
  have hnA := fun W => rnew_any ca W
  have hnN := fun W => rnew_any cn W
  go_enter Try.func70, Try.ntmps70
  go_wp2_with (go_at_call 62; (with_reducible refine hp.mono ?_); rintro e w1 ⟨ht, a, cap, g, off, rfl, rfl, hg, k0, k1, k2, k3, k4⟩; have A1 : Hid (w1.heap[w.heap.size]? = some (.cells #[.int .i64 0, .int .i64 0, .int .i64 0, .int .i64 0, .int .u32 0, .slice none 0 0] 40 (0, 0)) ∧ Turned (fun _ => False) w w1 ∧ w.heap.size + 1 ≤ w1.heap.size) := ⟨(ht.block _ (by simp) id).trans (heap_alloc_last w _), ((Turned.refl (fun _ => False) w).new _).trans ht (fun _ _ q => q), by have := ht.size; simpa using this⟩; have l0 := lt_of_block A1.out.1; clear ht; have HCC : Hid (∀ W, Turned (fun b => w1.heap.size ≤ b) w1 W → W.cell? ⟨g, off + 1, none⟩ = some (.string ch) ∧ W.cell? ⟨g, off + 3, none⟩ = some (.string ca) ∧ W.cell? ⟨g, off + 5, none⟩ = some (.string ce) ∧ W.cell? ⟨g, off + 7, none⟩ = some (.string cn) ∧ W.cell? ⟨g, off + 9, none⟩ = some (.string cb) ∧ g < W.heap.size) := fun W tw => (by have e : ∀ o, W.cell? ⟨g, o, none⟩ = w1.cell? ⟨g, o, none⟩ := fun o => World.cell?_of_block (w' := W) (tw.block g hg (fun z => by have z2 : w1.heap.size ≤ g := z; omega)); have sz := tw.size; exact ⟨(e _).trans k0, (e _).trans k1, (e _).trans k2, (e _).trans k3, (e _).trans k4, by omega⟩); have HP0 : Hid (∀ W, Turned (fun b => w1.heap.size ≤ b) w1 W → W.heap[w.heap.size]? = some (.cells #[.int .i64 0, .int .i64 0, .int .i64 0, .int .i64 0, .int .u32 0, .slice none 0 0] 40 (0, 0)) ∧ Turned (fun _ => False) w W) := fun W tw => ⟨(tw.block _ l0 (fun z => by have z2 : w1.heap.size ≤ w.heap.size := z; omega)).trans A1.out.1, A1.out.2.1.comp tw fun b hb q => q.elim id fun q => by have q2 : w1.heap.size ≤ b := q; omega⟩)
  go_quiet (fail)
  go_wp2_with (first
    | (go_at_call 86; (with_reducible refine (hnH _).mono ?_); rintro e w2 ⟨rfl, hr2, ht2, hz2⟩; have Z2 : Hid (RrIs w2 w1.heap.size ch (0, 0) ∧ Turned (fun b => w1.heap.size ≤ b) w1 w2 ∧ w2.heap.size = w1.heap.size + 1) := ⟨hr2, (dec_drewN (Turned.refl (fun b => w1.heap.size ≤ b) w1) _).trans ht2 (fun _ _ q => q.elim), hz2⟩; clear hr2 ht2 hz2 k0 k1 k2 k3 k4; have h0 : Calls Try.prog 87 #[pt w1.heap.size, .int .i64 4] w2 _ := rnumOk 4 v0 (4) Z2.out.1 (by have := SZ.out; omega) (by have := SZ.out; omega) (by omega) HV.out.1 (by omega))
    | (go_at_call 87; (with_reducible refine h0.mono ?_); rintro e y0 ⟨rfl, hr, ht⟩; have S0 : Hid (RrIs y0 w1.heap.size ch (4, 0) ∧ Turned (fun b => w1.heap.size ≤ b) w1 y0 ∧ w1.heap.size < y0.heap.size) := ⟨hr, Z2.out.2.1.trans ht (fun b _ q => by have q2 : b = w1.heap.size := q; exact Nat.le_of_eq q2.symm), lt_of_block hr⟩; clear hr ht h0; have h1 : Calls Try.prog 87 #[pt w1.heap.size, .int .i64 4] y0 _ := rnumOk 4 v1 (8) S0.out.1 (by have := SZ.out; omega) (by have := SZ.out; omega) (by omega) HV.out.2.1 (by omega))
    | (go_at_call 87; (with_reducible refine h1.mono ?_); rintro e y1 ⟨rfl, hr, ht⟩; have S1 : Hid (RrIs y1 w1.heap.size ch (8, 0) ∧ Turned (fun b => w1.heap.size ≤ b) w1 y1 ∧ w1.heap.size < y1.heap.size) := ⟨hr, S0.out.2.1.trans ht (fun b _ q => by have q2 : b = w1.heap.size := q; exact Nat.le_of_eq q2.symm), lt_of_block hr⟩; clear hr ht h1; have h2 : Calls Try.prog 87 #[pt w1.heap.size, .int .i64 1] y1 _ := rnumOk 1 v2 (9) S1.out.1 (by have := SZ.out; omega) (by have := SZ.out; omega) (by omega) HV.out.2.2.1 (by omega))
    | (go_at_call 87; (with_reducible refine h2.mono ?_); rintro e y2 ⟨rfl, hr, ht⟩; have S2 : Hid (RrIs y2 w1.heap.size ch (9, 0) ∧ Turned (fun b => w1.heap.size ≤ b) w1 y2 ∧ w1.heap.size < y2.heap.size) := ⟨hr, S1.out.2.1.trans ht (fun b _ q => by have q2 : b = w1.heap.size := q; exact Nat.le_of_eq q2.symm), lt_of_block hr⟩; clear hr ht h2; have h3 : Calls Try.prog 87 #[pt w1.heap.size, .int .i64 1] y2 _ := rnumOk 1 v3 (10) S2.out.1 (by have := SZ.out; omega) (by have := SZ.out; omega) (by omega) HV.out.2.2.2.1 (by omega))
    | (go_at_call 87; (with_reducible refine h3.mono ?_); rintro e y3 ⟨rfl, hr, ht⟩; have S3 : Hid (RrIs y3 w1.heap.size ch (10, 0) ∧ Turned (fun b => w1.heap.size ≤ b) w1 y3 ∧ w1.heap.size < y3.heap.size) := ⟨hr, S2.out.2.1.trans ht (fun b _ q => by have q2 : b = w1.heap.size := q; exact Nat.le_of_eq q2.symm), lt_of_block hr⟩; clear hr ht h3; have h4 : Calls Try.prog 87 #[pt w1.heap.size, .int .i64 2] y3 _ := rnumOk 2 v4 (12) S3.out.1 (by have := SZ.out; omega) (by have := SZ.out; omega) (by omega) HV.out.2.2.2.2.1 (by omega))
    | (go_at_call 87; (with_reducible refine h4.mono ?_); rintro e y4 ⟨rfl, hr, ht⟩; have S4 : Hid (RrIs y4 w1.heap.size ch (12, 0) ∧ Turned (fun b => w1.heap.size ≤ b) w1 y4 ∧ w1.heap.size < y4.heap.size) := ⟨hr, S3.out.2.1.trans ht (fun b _ q => by have q2 : b = w1.heap.size := q; exact Nat.le_of_eq q2.symm), lt_of_block hr⟩; clear hr ht h4; have h5 : Calls Try.prog 87 #[pt w1.heap.size, .int .i64 4] y4 _ := rnumOk 4 v5 (16) S4.out.1 (by have := SZ.out; omega) (by have := SZ.out; omega) (by omega) HV.out.2.2.2.2.2 (by omega))
    | (go_at_call 87; (with_reducible refine h5.mono ?_); rintro e y5 ⟨rfl, hr, ht⟩; have S5 : Hid (RrIs y5 w1.heap.size ch (16, 0) ∧ Turned (fun b => w1.heap.size ≤ b) w1 y5 ∧ w1.heap.size < y5.heap.size) := ⟨hr, S4.out.2.1.trans ht (fun b _ q => by have q2 : b = w1.heap.size := q; exact Nat.le_of_eq q2.symm), lt_of_block hr⟩; clear hr ht h5; obtain ⟨-, q1, -, -, -, q5⟩ := HCC.out y5 S5.out.2.1)
    | (go_at_call 86; (with_reducible refine (hnA _).mono ?_); rintro e w7 ⟨rfl, hr7, ht7, hz7⟩; have S7 : Hid (RrIs w7 (y5.heap.size + 1) ca (0, 0) ∧ w7.heap[y5.heap.size]? = some (.cells #[.int .i64 (v0 : Nat), .int .i64 (v2 : Nat), .int .i64 (v3 : Nat), .int .i64 (v4 : Nat), .int .u32 (v5 : Nat), .slice none 0 0] 40 (0, 0)) ∧ Turned (fun b => w1.heap.size ≤ b) w1 w7 ∧ w7.heap.size = y5.heap.size + 2 ∧ w1.heap.size < y5.heap.size) := (by have t13 : Turned (fun b => w1.heap.size ≤ b) w1 (y5.alloc (.cells #[.int .i64 (v0 : Nat), .int .i64 (v2 : Nat), .int .i64 (v3 : Nat), .int .i64 (v4 : Nat), .int .u32 (v5 : Nat), .slice none 0 0] 40)) := S5.out.2.1.new _; have e13 : (y5.alloc (.cells #[.int .i64 (v0 : Nat), .int .i64 (v2 : Nat), .int .i64 (v3 : Nat), .int .i64 (v4 : Nat), .int .u32 (v5 : Nat), .slice none 0 0] 40)).heap.size = y5.heap.size + 1 := (by simp); have b13 : (y5.alloc (.cells #[.int .i64 (v0 : Nat), .int .i64 (v2 : Nat), .int .i64 (v3 : Nat), .int .i64 (v4 : Nat), .int .u32 (v5 : Nat), .slice none 0 0] 40)).heap[y5.heap.size]? = some (.cells #[.int .i64 (v0 : Nat), .int .i64 (v2 : Nat), .int .i64 (v3 : Nat), .int .i64 (v4 : Nat), .int .u32 (v5 : Nat), .slice none 0 0] 40 (0, 0)) := heap_alloc_last y5 _; rw [e13] at hr7 hz7; exact ⟨hr7, (ht7.block _ (by rw [e13]; omega) id).trans b13, t13.trans ht7 (fun _ _ q => q.elim), hz7, S5.out.2.2⟩); clear hr7 ht7 hz7 q1 q5; obtain ⟨-, -, -, q3, -, q5⟩ := HCC.out w7 S7.out.2.2.1)
    | (go_at_call 86; (with_reducible refine (hnN _).mono ?_); rintro e w8 ⟨rfl, hr8, ht8, hz8⟩; have S8 : Hid (RrIs w8 (y5.heap.size + 1) ca (0, 0) ∧ RrIs w8 w7.heap.size cn (0, 0) ∧ w8.heap[y5.heap.size]? = some (.cells #[.int .i64 (v0 : Nat), .int .i64 (v2 : Nat), .int .i64 (v3 : Nat), .int .i64 (v4 : Nat), .int .u32 (v5 : Nat), .slice none 0 0] 40 (0, 0)) ∧ Turned (fun b => w1.heap.size ≤ b) w1 w8 ∧ (w7.heap.size = y5.heap.size + 2 ∧ w1.heap.size < y5.heap.size ∧ w7.heap.size < w8.heap.size)) := ⟨S7.out.1.turned ht8 id, hr8, (ht8.block _ (lt_of_block S7.out.2.1) id).trans S7.out.2.1, S7.out.2.2.1.trans ht8 (fun _ _ q => q.elim), S7.out.2.2.2.1, S7.out.2.2.2.2, by omega⟩; clear hr8 ht8 hz8 q3 q5))
  generalize w1.heap.size = pH at *
  generalize y5.heap.size = gB at *
  generalize w7.heap.size = pN at *
  have OR : Hid (pN = gB + 2 ∧ pH < gB ∧ w.heap.size < pH ∧ g < pH) := ⟨S8.out.2.2.2.2.1, S8.out.2.2.2.2.2.1, l0, hg⟩
  have HS : Hid (RdRel w1 pH ca ce cn cb (gB + 1) pN gB N o (.int .i64 (v0 : Nat)) (.int .i64 (v2 : Nat)) (.int .i64 (v3 : Nat)) (.int .i64 (v4 : Nat)) (.int .u32 (v5 : Nat)) N (.int .i64 0) (.int .i64 0) w8) := ⟨0, 0, [], .slice none 0 0, fun _ => False, fun _ => False, ⟨Nat.zero_add _, rfl, rfl, rfl⟩, Nat.zero_le _, HO.out, fun r hr => by simp at hr, S8.out.2.2.1, S8.out.1, S8.out.2.1, ⟨[], rfl, Sl.nil _ _ _ _, fun i r u hr => by simp at hr⟩, fun b q => q.elim (fun q => q.elim) (fun q => q.elim), fun b q => q.elim, S8.out.2.2.2.1⟩
  clear Z2 S0 S1 S2 S3 S4 S5 S7 S8 A1 hnH hnA hnN hp hq hq2 e15 e4 d15 wv0 wv2 wv3 wv4 wv5 l0 hg
  go_loopg [20, 21] N (fun g la i wr => RdRel w1 pH ca ce cn cb (gB + 1) pN gB N o (.int .i64 (v0 : Nat)) (.int .i64 (v2 : Nat)) (.int .i64 (v3 : Nat)) (.int .i64 (v4 : Nat)) (.int .u32 (v5 : Nat)) g la i wr)
  case atStart => exact HS.out
  case round =>
    obtain ⟨j, la, l, rv, R, Q, ⟨hjg, rfl, rfl, hlj⟩, hla, ho2, hok, hb0, hrA, hrN, hnew, hRQ, hdis, htr⟩ := hrel
    have hsl := hnew
    obtain ⟨vs, hvs, hsl, hlists⟩ := hsl
    rw [hlj] at hsl
    obtain ⟨ra, rc, rfl, -, -⟩ := hsl.value
    have NW : Hid (NewRows wr R Q (.slice ra j rc) l) := hnew
    have G : Hid (j + gk = N ∧ l.length = j) := ⟨hjg, hlj⟩
    have LA : Hid (la ≤ cb.size) := hla
    have BB : Hid (wr.heap[gB]? = some (.cells #[.int .i64 (v0 : Nat), .int .i64 (v2 : Nat), .int .i64 (v3 : Nat), .int .i64 (v4 : Nat), .int .u32 (v5 : Nat), .slice ra j rc] 40 (0, 0))) := hb0
    have RD : Hid (RrIs wr (gB + 1) ca (15 * j, 0) ∧ RrIs wr pN cn (4 * j, 0)) := ⟨hrA, hrN⟩
    have SL : Hid (vs.length = l.length ∧ Sl wr R 61 5 (.slice ra j rc) (rowCs l vs) j ∧ ∀ (i : Nat) (r : Rw) (u : Value), l[i]? = some r → vs[i]? = some u → Sl wr Q 3 1 u (ncells r.par) r.par.length) := ⟨hvs, hsl, hlists⟩
    have RQ : Hid ((∀ b, R b ∨ Q b → pN < b ∧ b < wr.heap.size) ∧ (∀ b, R b → ¬ Q b)) := ⟨hRQ, hdis⟩
    have TR : Hid (Turned (fun b => pH ≤ b) w1 wr) := htr
    have OK : Hid (∀ r ∈ l, RdOk r) := hok
    have LT : Hid (gB < wr.heap.size ∧ pN < wr.heap.size ∧ pN = gB + 2 ∧ pH < gB ∧ w.heap.size < pH ∧ g < pH) := ⟨lt_of_block hb0, lt_of_block hrN, OR.out⟩
    clear hvs hsl hlists hRQ hdis htr hrA hrN hb0 hla HS hjg hlj hnew hok
    obtain ⟨-, -, -, kn, -, kg⟩ := HCC.out wr TR.out
    by_cases hg : gk = 0
    · have hjv : decide ((j : Int) < (N : Int)) = false := decide_eq_false (by have := G.out; omega)
      have hjvn : decide (j < N) = false := decide_eq_false (by have := G.out; omega)
      have HO3 : Hid (o = some l) := by rw [ho2, hg, rowsG]; exact rfl
      have hd0 : headR ch l = ⟨v0, v2, v3, v4, v5, l⟩ := by
        have hv := HV.out
        unfold headR
        rw [← hv.1, ← hv.2.2.1, ← hv.2.2.2.1, ← hv.2.2.2.2.1, ← hv.2.2.2.2.2]
      obtain ⟨s, k, he⟩ := encG_form (headR ch l)
      have HE : Hid (encG (headR ch l) = .tuple #[.string s, .int .i64 (k : Nat)] ∧ headR ch l = ⟨v0, v2, v3, v4, v5, l⟩) := ⟨he, hd0⟩
      have h25 : Calls Try.prog 25 #[.agg #[.int .i64 (v0 : Nat), .int .i64 (v2 : Nat), .int .i64 (v3 : Nat), .int .i64 (v4 : Nat), .int .u32 (v5 : Nat), .slice ra j rc]] wr fun e w' => e = .returned (.tuple #[.string s, .int .i64 (k : Nat)]) ∧ Turned (fun _ => False) wr w' := by
        have hrw : RwIs wr (fun b => R b ∨ Q b) ra rc l := by
          have q := NW.out
          rw [← G.out.2] at q
          exact (q.widen (fun b q => .inl q) (fun b q => .inr q)).rows OK.out
        have hok2 : GrOk (⟨v0, v2, v3, v4, v5, l⟩ : Gr) := by
          have hb := HB.out
          refine ⟨?_, ?_, ?_, ?_, hb.2.2.2.2⟩
          all_goals (simp only [I64]; omega)
        have q := rencode_any _ ra rc (⟨v0, v2, v3, v4, v5, l⟩ : Gr) wr hrw hok2
        rw [← hd0, he, hd0] at q
        rw [← G.out.2]
        exact q
      have x0 := cell_of BB.out 0 _ rfl
      have x1 := cell_of BB.out 1 _ rfl
      have x2 := cell_of BB.out 2 _ rfl
      have x3 := cell_of BB.out 3 _ rfl
      have x4 := cell_of BB.out 4 _ rfl
      have x5 := cell_of BB.out 5 _ rfl
      have xl := LT.out.1
      clear ho2 hg he hd0
      by_cases hk : k = 0
      · subst hk
        by_cases hst : s = t
        · subst hst
          have HR1 : Hid (R0 = .ok ⟨v0, v2, v3, v4, v5, l⟩) := by
            have q := HRES.out.2.1 l HO3.out HE.out.1
            rw [HE.out.2] at q
            exact q
          go_wp2_with (go_at_call 25; (with_reducible refine h25.mono ?_); rintro e w9 ⟨rfl, ht9⟩; have P9 : Hid (w9.heap[w.heap.size]? = some (.cells #[.int .i64 0, .int .i64 0, .int .i64 0, .int .i64 0, .int .u32 0, .slice none 0 0] 40 (0, 0)) ∧ Turned (fun _ => False) w w9 ∧ w.heap.size < w9.heap.size) := ⟨(HP0.out w9 (TR.out.trans ht9 (fun _ _ q => q.elim))).1, (HP0.out w9 (TR.out.trans ht9 (fun _ _ q => q.elim))).2, lt_of_block (HP0.out w9 (TR.out.trans ht9 (fun _ _ q => q.elim))).1⟩; have c0 := cell_of P9.out.1 0 _ rfl; have f0 := free_of P9.out.1 0; have c1 := cell_of P9.out.1 1 _ rfl; have f1 := free_of P9.out.1 1; have c2 := cell_of P9.out.1 2 _ rfl; have f2 := free_of P9.out.1 2; have c3 := cell_of P9.out.1 3 _ rfl; have f3 := free_of P9.out.1 3; have c4 := cell_of P9.out.1 4 _ rfl; have f4 := free_of P9.out.1 4; have c5 := cell_of P9.out.1 5 _ rfl; have f5 := free_of P9.out.1 5; have l9 := P9.out.2.2; have g9 := (ht9.block _ xl id).trans BB.out; have m0 := cell_of g9 0 _ rfl; have m1 := cell_of g9 1 _ rfl; have m2 := cell_of g9 2 _ rfl; have m3 := cell_of g9 3 _ rfl; have m4 := cell_of g9 4 _ rfl; have m5 := cell_of g9 5 _ rfl; have ml := lt_of_block g9; have N9 : Hid (NewRows w9 R Q (.slice ra j rc) l) := NW.out.turned ht9 (fun _ _ q => q) (fun _ _ q => q); clear ht9 g9 x0 x1 x2 x3 x4 x5 xl)
          refine bodyPost_ret (v := .tuple #[.agg #[.int .i64 (v0 : Nat), .int .i64 (v2 : Nat), .int .i64 (v3 : Nat), .int .i64 (v4 : Nat), .int .u32 (v5 : Nat), .slice ra j rc], .int .i64 0]) (by simp [results, Try.results70, go_sem, c0, c1, c2, c3, c4, c5]) rfl ?_
          have t9 := six_turned w9 w.heap.size (.int .i64 (v0 : Nat)) (.int .i64 (v2 : Nat)) (.int .i64 (v3 : Nat)) (.int .i64 (v4 : Nat)) (.int .u32 (v5 : Nat)) (.slice ra j rc)
          have HF : Hid (∀ b, R b ∨ Q b → w.heap.size < b) := fun b q => by have h1 := RQ.out.1 b q; have h2 := LT.out; omega
          rw [HR1.out]
          refine ⟨P9.out.2.1.comp t9 fun b hb q => q.elim id fun q => by omega, ra, rc, by rw [← G.out.2], ?_⟩
          have q := N9.out.turned t9 (fun b q z => by have h1 := HF.out b (.inl q); have z2 : b = w.heap.size := z; omega) (fun b q z => by have h1 := HF.out b (.inr q); have z2 : b = w.heap.size := z; omega)
          show NewRows _ (fun b => w.heap.size ≤ b) (fun b => w.heap.size ≤ b) (.slice ra l.length rc) l
          rw [G.out.2]
          exact q.widen (fun b q => Nat.le_of_lt (HF.out b (.inl q))) (fun b q => Nat.le_of_lt (HF.out b (.inr q)))
        · have HR1 : Hid (R0 = .error 3) := HRES.out.2.2 l HO3.out (by
            rw [HE.out.1]
            intro q
            simp only [Value.tuple.injEq, Array.mk.injEq, List.cons.injEq, Value.string.injEq] at q
            exact hst q.1)
          have hd := ba_ne2 s t hst
          clear hst
          go_wp2_with (go_at_call 25; (with_reducible refine h25.mono ?_); rintro e w9 ⟨rfl, ht9⟩; have P9 : Hid (w9.heap[w.heap.size]? = some (.cells #[.int .i64 0, .int .i64 0, .int .i64 0, .int .i64 0, .int .u32 0, .slice none 0 0] 40 (0, 0)) ∧ Turned (fun _ => False) w w9 ∧ w.heap.size < w9.heap.size) := ⟨(HP0.out w9 (TR.out.trans ht9 (fun _ _ q => q.elim))).1, (HP0.out w9 (TR.out.trans ht9 (fun _ _ q => q.elim))).2, lt_of_block (HP0.out w9 (TR.out.trans ht9 (fun _ _ q => q.elim))).1⟩; have c0 := cell_of P9.out.1 0 _ rfl; have f0 := free_of P9.out.1 0; have c1 := cell_of P9.out.1 1 _ rfl; have f1 := free_of P9.out.1 1; have c2 := cell_of P9.out.1 2 _ rfl; have f2 := free_of P9.out.1 2; have c3 := cell_of P9.out.1 3 _ rfl; have f3 := free_of P9.out.1 3; have c4 := cell_of P9.out.1 4 _ rfl; have f4 := free_of P9.out.1 4; have c5 := cell_of P9.out.1 5 _ rfl; have f5 := free_of P9.out.1 5; have l9 := P9.out.2.2; clear ht9 x0 x1 x2 x3 x4 x5 xl)
          refine bodyPost_ret (v := .tuple #[.agg zeroG, .int .i64 3]) (by simp [results, Try.results70, go_sem, c0, c1, c2, c3, c4, c5]) rfl ?_
          rw [HR1.out]
          exact ⟨P9.out.2.1.comp (six_turned _ w.heap.size _ _ _ _ _ _) fun b hb q => q.elim id fun q => by omega, rfl⟩
      · have HR1 : Hid (R0 = .error 3) := HRES.out.2.2 l HO3.out (by
          rw [HE.out.1]
          intro q
          simp only [Value.tuple.injEq, Array.mk.injEq, List.cons.injEq, Value.int.injEq, true_and, and_true] at q
          omega)
        have hd := int_neb (k : Int) 0 (by omega)
        have hd2 := int_bne2 (k : Int) 0 (by omega)
        clear hk
        go_wp2_with (go_at_call 25; (with_reducible refine h25.mono ?_); rintro e w9 ⟨rfl, ht9⟩; have P9 : Hid (w9.heap[w.heap.size]? = some (.cells #[.int .i64 0, .int .i64 0, .int .i64 0, .int .i64 0, .int .u32 0, .slice none 0 0] 40 (0, 0)) ∧ Turned (fun _ => False) w w9 ∧ w.heap.size < w9.heap.size) := ⟨(HP0.out w9 (TR.out.trans ht9 (fun _ _ q => q.elim))).1, (HP0.out w9 (TR.out.trans ht9 (fun _ _ q => q.elim))).2, lt_of_block (HP0.out w9 (TR.out.trans ht9 (fun _ _ q => q.elim))).1⟩; have c0 := cell_of P9.out.1 0 _ rfl; have f0 := free_of P9.out.1 0; have c1 := cell_of P9.out.1 1 _ rfl; have f1 := free_of P9.out.1 1; have c2 := cell_of P9.out.1 2 _ rfl; have f2 := free_of P9.out.1 2; have c3 := cell_of P9.out.1 3 _ rfl; have f3 := free_of P9.out.1 3; have c4 := cell_of P9.out.1 4 _ rfl; have f4 := free_of P9.out.1 4; have c5 := cell_of P9.out.1 5 _ rfl; have f5 := free_of P9.out.1 5; have l9 := P9.out.2.2; clear ht9 x0 x1 x2 x3 x4 x5 xl)
        refine bodyPost_ret (v := .tuple #[.agg zeroG, .int .i64 3]) (by simp [results, Try.results70, go_sem, c0, c1, c2, c3, c4, c5]) rfl ?_
        rw [HR1.out]
        exact ⟨P9.out.2.1.comp (six_turned _ w.heap.size _ _ _ _ _ _) fun b hb q => q.elim id fun q => by omega, rfl⟩
    · have hjv : decide ((j : Int) < (N : Int)) = true := decide_eq_true (by have := G.out; omega)
      have hjvn : decide (j < N) = true := decide_eq_true (by have := G.out; omega)
      obtain ⟨g2, rfl⟩ : ∃ g2, gk = g2 + 1 := ⟨gk - 1, by omega⟩
      have HC : Hid (15 * j + 15 ≤ ca.size ∧ 4 * j + 4 ≤ cn.size) := (by have h1 := SZ.out; have h2 := G.out; omega : 15 * j + 15 ≤ ca.size ∧ 4 * j + 4 ≤ cn.size)
      obtain ⟨u0, hu0⟩ : ∃ u, u = fld ca (15 * j) 4 := ⟨_, rfl⟩
      obtain ⟨u1, hu1⟩ : ∃ u, u = fld ca (15 * j + 4) 4 := ⟨_, rfl⟩
      obtain ⟨u2, hu2⟩ : ∃ u, u = fld ca (15 * j + 8) 4 := ⟨_, rfl⟩
      obtain ⟨u4, hu4⟩ : ∃ u, u = fld ca (15 * j + 12) 2 := ⟨_, rfl⟩
      obtain ⟨u5, hu5⟩ : ∃ u, u = fld ca (15 * j + 14) 1 := ⟨_, rfl⟩
      obtain ⟨nx, hnx⟩ : ∃ u, u = fld cn (4 * j) 4 := ⟨_, rfl⟩
      have HU : Hid (u0 = fld ca (15 * j) 4 ∧ u1 = fld ca (15 * j + 4) 4 ∧ u2 = fld ca (15 * j + 8) 4 ∧ u4 = fld ca (15 * j + 12) 2 ∧ u5 = fld ca (15 * j + 14) 1 ∧ nx = fld cn (4 * j) 4) := ⟨hu0, hu1, hu2, hu4, hu5, hnx⟩
      have bu0 : u0 < 4294967296 := by rw [hu0]; exact fld_lt ca (15 * j) 4 (by have := HC.out; omega)
      have bu1 : u1 < 4294967296 := by rw [hu1]; exact fld_lt ca (15 * j + 4) 4 (by have := HC.out; omega)
      have bu2 : u2 < 4294967296 := by rw [hu2]; exact fld_lt ca (15 * j + 8) 4 (by have := HC.out; omega)
      have bu4 : u4 < 65536 := by rw [hu4]; exact fld_lt ca (15 * j + 12) 2 (by have := HC.out; omega)
      have bu5 : u5 < 256 := by rw [hu5]; exact fld_lt ca (15 * j + 14) 1 (by have := HC.out; omega)
      have bnx : nx < 4294967296 := by rw [hnx]; exact fld_lt cn (4 * j) 4 (by have := HC.out; omega)
      have wu0 : wrap64 ((u0 : Nat) : Int) = (u0 : Int) := by simp [wrap64]; omega
      have wu1 : wrap64 ((u1 : Nat) : Int) = (u1 : Int) := by simp [wrap64]; omega
      have wu2 : wrap64 ((u2 : Nat) : Int) = (u2 : Int) := by simp [wrap64]; omega
      have wu4 : wrap64 ((u4 : Nat) : Int) = (u4 : Int) := by simp [wrap64]; omega
      have wu5 : wrap64 ((u5 : Nat) : Int) = (u5 : Int) := by simp [wrap64]; omega
      have wnx : wrap64 ((nx : Nat) : Int) = (nx : Int) := by simp [wrap64]; omega
      have HM : Hid (u0 < 4294967296 ∧ u4 < 65536 ∧ u5 < 256 ∧ nx < 4294967296) := ⟨bu0, bu4, bu5, bnx⟩
      have hP := fun W => rparents_any u1 u2 ce W bu1 bu2 (by have := SZ.out; omega)
      obtain ⟨op, hop⟩ : ∃ op, op = refPar u1 u2 ce := ⟨_, rfl⟩
      rw [← hop] at hP
      have HPO : Hid (op = refPar u1 u2 ce) := hop
      have HRG : Hid (rowG refPar ca ce cn cb j la = rowO op cb la nx u0 u4 u5) := by
        have q : rowG refPar ca ce cn cb j la = rowO op cb la nx u0 u4 u5 := by
          rw [rowG_rowO, ← hu0, ← hu1, ← hu2, ← hu4, ← hu5, ← hnx, ← hop]
        exact q
      have HO2 : Hid (o = rowsG refPar ca ce cn cb (g2 + 1) j la l) := ho2
      clear hu0 hu1 hu2 hu4 hu5 hnx hop ho2 bu0 bu1 bu2 bu4 bu5 bnx hg
      have h0 : Calls Try.prog 87 #[pt (gB + 1), .int .i64 4] wr _ := rnumOk 4 u0 (15 * j + 4) RD.out.1 (by have := HC.out; omega) (by have := SZ.out; omega) (by omega) HU.out.1 (by omega)
      by_cases hon : op = none
      · have hQ : ∀ W, Calls Try.prog 98 #[.int .i64 (u1 : Nat), .int .i64 (u2 : Nat), .string ce] W fun e w' => (∃ a n c, e = .returned (.tuple #[.slice a n c, .bool false])) ∧ Turned (fun _ => False) W w' := fun W => by
          refine (hP W).mono ?_
          rintro e w' ⟨h1, ⟨-, h2⟩ | ⟨_, _, _, h2, _⟩⟩
          · exact ⟨h2, h1⟩
          · rw [hon] at h2
            simp at h2
        have HN : Hid (o = none) := by
          have q : o = none := by
            rw [HO2.out]
            refine rowsG_none (HRG.out.trans ?_)
            rw [hon]; rfl
          exact q
        have HR1 : Hid (R0 = .error 3) := HRES.out.1 HN.out
        clear hon hP
        go_wp2_with (first
          | (go_at_call 87; (with_reducible refine h0.mono ?_); rintro e x0 ⟨rfl, hr, ht⟩; have Y0 : Hid (RrIs x0 (gB + 1) ca (15 * j + 4, 0) ∧ Turned (fun b => b = gB + 1) wr x0 ∧ True) := ⟨hr, (Turned.refl (fun b => b = gB + 1) wr).trans ht (fun _ _ q => q), trivial⟩; clear hr ht h0; have h1 : Calls Try.prog 87 #[pt (gB + 1), .int .i64 4] x0 _ := rnumOk 4 u1 (15 * j + 8) Y0.out.1 (by have := HC.out; omega) (by have := SZ.out; omega) (by omega) HU.out.2.1 (by omega))
          | (go_at_call 87; (with_reducible refine h1.mono ?_); rintro e x1 ⟨rfl, hr, ht⟩; have Y1 : Hid (RrIs x1 (gB + 1) ca (15 * j + 8, 0) ∧ Turned (fun b => b = gB + 1) wr x1 ∧ True) := ⟨hr, Y0.out.2.1.trans ht (fun _ _ q => q), trivial⟩; clear hr ht h1; have h2 : Calls Try.prog 87 #[pt (gB + 1), .int .i64 4] x1 _ := rnumOk 4 u2 (15 * j + 12) Y1.out.1 (by have := HC.out; omega) (by have := SZ.out; omega) (by omega) HU.out.2.2.1 (by omega))
          | (go_at_call 87; (with_reducible refine h2.mono ?_); rintro e x2 ⟨rfl, hr, ht⟩; have Y2 : Hid (RrIs x2 (gB + 1) ca (15 * j + 12, 0) ∧ Turned (fun b => b = gB + 1) wr x2 ∧ True) := ⟨hr, Y1.out.2.1.trans ht (fun _ _ q => q), trivial⟩; clear hr ht h2; have h3 : Calls Try.prog 87 #[pt (gB + 1), .int .i64 2] x2 _ := rnumOk 2 u4 (15 * j + 14) Y2.out.1 (by have := HC.out; omega) (by have := SZ.out; omega) (by omega) HU.out.2.2.2.1 (by omega))
          | (go_at_call 87; (with_reducible refine h3.mono ?_); rintro e x3 ⟨rfl, hr, ht⟩; have Y3 : Hid (RrIs x3 (gB + 1) ca (15 * j + 14, 0) ∧ Turned (fun b => b = gB + 1) wr x3 ∧ True) := ⟨hr, Y2.out.2.1.trans ht (fun _ _ q => q), trivial⟩; clear hr ht h3; have h4 : Calls Try.prog 87 #[pt (gB + 1), .int .i64 1] x3 _ := rnumOk 1 u5 (15 * j + 15) Y3.out.1 (by have := HC.out; omega) (by have := SZ.out; omega) (by omega) HU.out.2.2.2.2.1 (by omega))
          | (go_at_call 87; (with_reducible refine h4.mono ?_); rintro e x4 ⟨rfl, hr, ht⟩; have Y4 : Hid (RrIs x4 (gB + 1) ca (15 * j + 15, 0) ∧ Turned (fun b => b = gB + 1) wr x4 ∧ True) := ⟨hr, Y3.out.2.1.trans ht (fun _ _ q => q), trivial⟩; clear hr ht h4; have h5 : Calls Try.prog 87 #[pt pN, .int .i64 4] x4 _ := rnumOk 4 nx (4 * j + 4) (RrIs.turned RD.out.2 Y4.out.2.1 (fun q => by have h := LT.out; have q2 : pN = gB + 1 := q; omega)) (by have := HC.out; omega) (by have := SZ.out; omega) (by omega) HU.out.2.2.2.2.2 (by omega))
          | (go_at_call 87; (with_reducible refine h5.mono ?_); rintro e x5 ⟨rfl, hr, ht⟩; have Y5 : Hid (RrIs x5 (gB + 1) ca (15 * j + 15, 0) ∧ RrIs x5 pN cn (4 * j + 4, 0) ∧ Turned (fun b => b = gB + 1 ∨ b = pN) wr x5 ∧ True) := ⟨Y4.out.1.turned ht (fun q => by have h := LT.out; have q2 : gB + 1 = pN := q; omega), hr, Y4.out.2.1.comp ht (fun b _ q => q.elim (fun q => .inl q) fun q => .inr q), trivial⟩; clear hr ht h5; obtain ⟨-, -, ke, -, -, kg5⟩ := HCC.out x5 (TR.out.comp Y5.out.2.2.1 (T := (fun b => pH ≤ b)) (fun b _ q => q.elim id fun q => by have h := LT.out; have q2 : b = gB + 1 ∨ b = pN := q; show pH ≤ b; omega)))
          | (go_at_call 98; (with_reducible refine (hQ _).mono ?_); rintro e x6 ⟨⟨pa, pn, pc, rfl⟩, ht6⟩; have Y6 : Hid (Turned (fun b => b = gB + 1 ∨ b = pN) wr x6) := Y5.out.2.2.1.trans ht6 (fun _ _ q => q.elim); have P9 : Hid (x6.heap[w.heap.size]? = some (.cells #[.int .i64 0, .int .i64 0, .int .i64 0, .int .i64 0, .int .u32 0, .slice none 0 0] 40 (0, 0)) ∧ Turned (fun _ => False) w x6 ∧ w.heap.size < x6.heap.size) := ⟨(HP0.out x6 (TR.out.comp Y6.out (T := (fun b => pH ≤ b)) (fun b _ q => q.elim id fun q => by have h := LT.out; have q2 : b = gB + 1 ∨ b = pN := q; show pH ≤ b; omega))).1, (HP0.out x6 (TR.out.comp Y6.out (T := (fun b => pH ≤ b)) (fun b _ q => q.elim id fun q => by have h := LT.out; have q2 : b = gB + 1 ∨ b = pN := q; show pH ≤ b; omega))).2, lt_of_block (HP0.out x6 (TR.out.comp Y6.out (T := (fun b => pH ≤ b)) (fun b _ q => q.elim id fun q => by have h := LT.out; have q2 : b = gB + 1 ∨ b = pN := q; show pH ≤ b; omega))).1⟩; have c0 := cell_of P9.out.1 0 _ rfl; have f0 := free_of P9.out.1 0; have c1 := cell_of P9.out.1 1 _ rfl; have f1 := free_of P9.out.1 1; have c2 := cell_of P9.out.1 2 _ rfl; have f2 := free_of P9.out.1 2; have c3 := cell_of P9.out.1 3 _ rfl; have f3 := free_of P9.out.1 3; have c4 := cell_of P9.out.1 4 _ rfl; have f4 := free_of P9.out.1 4; have c5 := cell_of P9.out.1 5 _ rfl; have f5 := free_of P9.out.1 5; have l9 := P9.out.2.2; clear ht6))
        refine bodyPost_ret (v := .tuple #[.agg zeroG, .int .i64 3]) (by simp [results, Try.results70, go_sem, c0, c1, c2, c3, c4, c5]) rfl ?_
        rw [HR1.out]
        exact ⟨P9.out.2.1.comp (six_turned _ w.heap.size _ _ _ _ _ _) fun b hb q => q.elim id fun q => by omega, rfl⟩
      obtain ⟨par, hpar⟩ : ∃ par, op = some par := Option.ne_none_iff_exists'.1 hon
      obtain ⟨np, hnp⟩ : ∃ np, np = par.length := ⟨_, rfl⟩
      have HNP : Hid (np = par.length ∧ op = some par) := ⟨hnp, hpar⟩
      have hQ : ∀ W, Calls Try.prog 98 #[.int .i64 (u1 : Nat), .int .i64 (u2 : Nat), .string ce] W fun e w' => (∃ a c, e = .returned (.tuple #[.slice a np c, .bool true]) ∧ Sl w' (fun b => W.heap.size ≤ b) 3 1 (.slice a np c) (ncells par) np) ∧ Turned (fun _ => False) W w' := fun W => by
        refine (hP W).mono ?_
        rintro e w' ⟨h1, ⟨h2, -⟩ | ⟨l', a, c, h2, h3, h4⟩⟩
        · exact absurd h2 hon
        · rw [hpar] at h2
          obtain rfl := Option.some.inj h2
          rw [hnp]
          exact ⟨⟨a, c, h3, h4⟩, h1⟩
      clear hP hpar hnp
      by_cases hnl : nx < la
      · have q1 : decide ((nx : Int) < (la : Int)) = true := decide_eq_true (by omega)
        have q2 : decide (nx < la) = true := decide_eq_true hnl
        have HN : Hid (o = none) := by
          have q : o = none := by
            rw [HO2.out]
            refine rowsG_none (HRG.out.trans ?_)
            rw [HNP.out.2]; unfold rowO; simp only; rw [if_pos hnl]
          exact q
        have HR1 : Hid (R0 = .error 3) := HRES.out.1 HN.out
        clear hon hnl
        go_wp2_with (first
          | (go_at_call 87; (with_reducible refine h0.mono ?_); rintro e x0 ⟨rfl, hr, ht⟩; have Y0 : Hid (RrIs x0 (gB + 1) ca (15 * j + 4, 0) ∧ Turned (fun b => b = gB + 1) wr x0 ∧ True) := ⟨hr, (Turned.refl (fun b => b = gB + 1) wr).trans ht (fun _ _ q => q), trivial⟩; clear hr ht h0; have h1 : Calls Try.prog 87 #[pt (gB + 1), .int .i64 4] x0 _ := rnumOk 4 u1 (15 * j + 8) Y0.out.1 (by have := HC.out; omega) (by have := SZ.out; omega) (by omega) HU.out.2.1 (by omega))
          | (go_at_call 87; (with_reducible refine h1.mono ?_); rintro e x1 ⟨rfl, hr, ht⟩; have Y1 : Hid (RrIs x1 (gB + 1) ca (15 * j + 8, 0) ∧ Turned (fun b => b = gB + 1) wr x1 ∧ True) := ⟨hr, Y0.out.2.1.trans ht (fun _ _ q => q), trivial⟩; clear hr ht h1; have h2 : Calls Try.prog 87 #[pt (gB + 1), .int .i64 4] x1 _ := rnumOk 4 u2 (15 * j + 12) Y1.out.1 (by have := HC.out; omega) (by have := SZ.out; omega) (by omega) HU.out.2.2.1 (by omega))
          | (go_at_call 87; (with_reducible refine h2.mono ?_); rintro e x2 ⟨rfl, hr, ht⟩; have Y2 : Hid (RrIs x2 (gB + 1) ca (15 * j + 12, 0) ∧ Turned (fun b => b = gB + 1) wr x2 ∧ True) := ⟨hr, Y1.out.2.1.trans ht (fun _ _ q => q), trivial⟩; clear hr ht h2; have h3 : Calls Try.prog 87 #[pt (gB + 1), .int .i64 2] x2 _ := rnumOk 2 u4 (15 * j + 14) Y2.out.1 (by have := HC.out; omega) (by have := SZ.out; omega) (by omega) HU.out.2.2.2.1 (by omega))
          | (go_at_call 87; (with_reducible refine h3.mono ?_); rintro e x3 ⟨rfl, hr, ht⟩; have Y3 : Hid (RrIs x3 (gB + 1) ca (15 * j + 14, 0) ∧ Turned (fun b => b = gB + 1) wr x3 ∧ True) := ⟨hr, Y2.out.2.1.trans ht (fun _ _ q => q), trivial⟩; clear hr ht h3; have h4 : Calls Try.prog 87 #[pt (gB + 1), .int .i64 1] x3 _ := rnumOk 1 u5 (15 * j + 15) Y3.out.1 (by have := HC.out; omega) (by have := SZ.out; omega) (by omega) HU.out.2.2.2.2.1 (by omega))
          | (go_at_call 87; (with_reducible refine h4.mono ?_); rintro e x4 ⟨rfl, hr, ht⟩; have Y4 : Hid (RrIs x4 (gB + 1) ca (15 * j + 15, 0) ∧ Turned (fun b => b = gB + 1) wr x4 ∧ True) := ⟨hr, Y3.out.2.1.trans ht (fun _ _ q => q), trivial⟩; clear hr ht h4; have h5 : Calls Try.prog 87 #[pt pN, .int .i64 4] x4 _ := rnumOk 4 nx (4 * j + 4) (RrIs.turned RD.out.2 Y4.out.2.1 (fun q => by have h := LT.out; have q2 : pN = gB + 1 := q; omega)) (by have := HC.out; omega) (by have := SZ.out; omega) (by omega) HU.out.2.2.2.2.2 (by omega))
          | (go_at_call 87; (with_reducible refine h5.mono ?_); rintro e x5 ⟨rfl, hr, ht⟩; have Y5 : Hid (RrIs x5 (gB + 1) ca (15 * j + 15, 0) ∧ RrIs x5 pN cn (4 * j + 4, 0) ∧ Turned (fun b => b = gB + 1 ∨ b = pN) wr x5 ∧ True) := ⟨Y4.out.1.turned ht (fun q => by have h := LT.out; have q2 : gB + 1 = pN := q; omega), hr, Y4.out.2.1.comp ht (fun b _ q => q.elim (fun q => .inl q) fun q => .inr q), trivial⟩; clear hr ht h5; obtain ⟨-, -, ke, -, -, kg5⟩ := HCC.out x5 (TR.out.comp Y5.out.2.2.1 (T := (fun b => pH ≤ b)) (fun b _ q => q.elim id fun q => by have h := LT.out; have q2 : b = gB + 1 ∨ b = pN := q; show pH ≤ b; omega)))
          | (go_at_call 98; (with_reducible refine (hQ _).mono ?_); rintro e x6 ⟨⟨pa, pc, rfl, hs6⟩, ht6⟩; have Y6 : Hid (Turned (fun b => b = gB + 1 ∨ b = pN) wr x6) := Y5.out.2.2.1.trans ht6 (fun _ _ q => q.elim); obtain ⟨-, -, -, -, kb, kg6⟩ := HCC.out x6 (TR.out.comp Y6.out (T := (fun b => pH ≤ b)) (fun b _ q => q.elim id fun q => by have h := LT.out; have q2 : b = gB + 1 ∨ b = pN := q; show pH ≤ b; omega)); have P9 : Hid (x6.heap[w.heap.size]? = some (.cells #[.int .i64 0, .int .i64 0, .int .i64 0, .int .i64 0, .int .u32 0, .slice none 0 0] 40 (0, 0)) ∧ Turned (fun _ => False) w x6 ∧ w.heap.size < x6.heap.size) := ⟨(HP0.out x6 (TR.out.comp Y6.out (T := (fun b => pH ≤ b)) (fun b _ q => q.elim id fun q => by have h := LT.out; have q2 : b = gB + 1 ∨ b = pN := q; show pH ≤ b; omega))).1, (HP0.out x6 (TR.out.comp Y6.out (T := (fun b => pH ≤ b)) (fun b _ q => q.elim id fun q => by have h := LT.out; have q2 : b = gB + 1 ∨ b = pN := q; show pH ≤ b; omega))).2, lt_of_block (HP0.out x6 (TR.out.comp Y6.out (T := (fun b => pH ≤ b)) (fun b _ q => q.elim id fun q => by have h := LT.out; have q2 : b = gB + 1 ∨ b = pN := q; show pH ≤ b; omega))).1⟩; have c0 := cell_of P9.out.1 0 _ rfl; have f0 := free_of P9.out.1 0; have c1 := cell_of P9.out.1 1 _ rfl; have f1 := free_of P9.out.1 1; have c2 := cell_of P9.out.1 2 _ rfl; have f2 := free_of P9.out.1 2; have c3 := cell_of P9.out.1 3 _ rfl; have f3 := free_of P9.out.1 3; have c4 := cell_of P9.out.1 4 _ rfl; have f4 := free_of P9.out.1 4; have c5 := cell_of P9.out.1 5 _ rfl; have f5 := free_of P9.out.1 5; have l9 := P9.out.2.2; clear ht6 hs6))
        refine bodyPost_ret (v := .tuple #[.agg zeroG, .int .i64 3]) (by simp [results, Try.results70, go_sem, c0, c1, c2, c3, c4, c5]) rfl ?_
        rw [HR1.out]
        exact ⟨P9.out.2.1.comp (six_turned _ w.heap.size _ _ _ _ _ _) fun b hb q => q.elim id fun q => by omega, rfl⟩
      have q1 : decide ((nx : Int) < (la : Int)) = false := decide_eq_false (by omega)
      have q2 : decide (nx < la) = false := decide_eq_false hnl
      by_cases hbn : cb.size < nx
      · have q3 : decide ((cb.size : Int) < (nx : Int)) = true := decide_eq_true (by omega)
        have q4 : decide (cb.size < nx) = true := decide_eq_true hbn
        have HN : Hid (o = none) := by
          have q : o = none := by
            rw [HO2.out]
            refine rowsG_none (HRG.out.trans ?_)
            rw [HNP.out.2]; unfold rowO; simp only; rw [if_neg hnl, if_pos hbn]
          exact q
        have HR1 : Hid (R0 = .error 3) := HRES.out.1 HN.out
        clear hon hbn
        go_wp2_with (first
          | (go_at_call 87; (with_reducible refine h0.mono ?_); rintro e x0 ⟨rfl, hr, ht⟩; have Y0 : Hid (RrIs x0 (gB + 1) ca (15 * j + 4, 0) ∧ Turned (fun b => b = gB + 1) wr x0 ∧ True) := ⟨hr, (Turned.refl (fun b => b = gB + 1) wr).trans ht (fun _ _ q => q), trivial⟩; clear hr ht h0; have h1 : Calls Try.prog 87 #[pt (gB + 1), .int .i64 4] x0 _ := rnumOk 4 u1 (15 * j + 8) Y0.out.1 (by have := HC.out; omega) (by have := SZ.out; omega) (by omega) HU.out.2.1 (by omega))
          | (go_at_call 87; (with_reducible refine h1.mono ?_); rintro e x1 ⟨rfl, hr, ht⟩; have Y1 : Hid (RrIs x1 (gB + 1) ca (15 * j + 8, 0) ∧ Turned (fun b => b = gB + 1) wr x1 ∧ True) := ⟨hr, Y0.out.2.1.trans ht (fun _ _ q => q), trivial⟩; clear hr ht h1; have h2 : Calls Try.prog 87 #[pt (gB + 1), .int .i64 4] x1 _ := rnumOk 4 u2 (15 * j + 12) Y1.out.1 (by have := HC.out; omega) (by have := SZ.out; omega) (by omega) HU.out.2.2.1 (by omega))
          | (go_at_call 87; (with_reducible refine h2.mono ?_); rintro e x2 ⟨rfl, hr, ht⟩; have Y2 : Hid (RrIs x2 (gB + 1) ca (15 * j + 12, 0) ∧ Turned (fun b => b = gB + 1) wr x2 ∧ True) := ⟨hr, Y1.out.2.1.trans ht (fun _ _ q => q), trivial⟩; clear hr ht h2; have h3 : Calls Try.prog 87 #[pt (gB + 1), .int .i64 2] x2 _ := rnumOk 2 u4 (15 * j + 14) Y2.out.1 (by have := HC.out; omega) (by have := SZ.out; omega) (by omega) HU.out.2.2.2.1 (by omega))
          | (go_at_call 87; (with_reducible refine h3.mono ?_); rintro e x3 ⟨rfl, hr, ht⟩; have Y3 : Hid (RrIs x3 (gB + 1) ca (15 * j + 14, 0) ∧ Turned (fun b => b = gB + 1) wr x3 ∧ True) := ⟨hr, Y2.out.2.1.trans ht (fun _ _ q => q), trivial⟩; clear hr ht h3; have h4 : Calls Try.prog 87 #[pt (gB + 1), .int .i64 1] x3 _ := rnumOk 1 u5 (15 * j + 15) Y3.out.1 (by have := HC.out; omega) (by have := SZ.out; omega) (by omega) HU.out.2.2.2.2.1 (by omega))
          | (go_at_call 87; (with_reducible refine h4.mono ?_); rintro e x4 ⟨rfl, hr, ht⟩; have Y4 : Hid (RrIs x4 (gB + 1) ca (15 * j + 15, 0) ∧ Turned (fun b => b = gB + 1) wr x4 ∧ True) := ⟨hr, Y3.out.2.1.trans ht (fun _ _ q => q), trivial⟩; clear hr ht h4; have h5 : Calls Try.prog 87 #[pt pN, .int .i64 4] x4 _ := rnumOk 4 nx (4 * j + 4) (RrIs.turned RD.out.2 Y4.out.2.1 (fun q => by have h := LT.out; have q2 : pN = gB + 1 := q; omega)) (by have := HC.out; omega) (by have := SZ.out; omega) (by omega) HU.out.2.2.2.2.2 (by omega))
          | (go_at_call 87; (with_reducible refine h5.mono ?_); rintro e x5 ⟨rfl, hr, ht⟩; have Y5 : Hid (RrIs x5 (gB + 1) ca (15 * j + 15, 0) ∧ RrIs x5 pN cn (4 * j + 4, 0) ∧ Turned (fun b => b = gB + 1 ∨ b = pN) wr x5 ∧ True) := ⟨Y4.out.1.turned ht (fun q => by have h := LT.out; have q2 : gB + 1 = pN := q; omega), hr, Y4.out.2.1.comp ht (fun b _ q => q.elim (fun q => .inl q) fun q => .inr q), trivial⟩; clear hr ht h5; obtain ⟨-, -, ke, -, -, kg5⟩ := HCC.out x5 (TR.out.comp Y5.out.2.2.1 (T := (fun b => pH ≤ b)) (fun b _ q => q.elim id fun q => by have h := LT.out; have q2 : b = gB + 1 ∨ b = pN := q; show pH ≤ b; omega)))
          | (go_at_call 98; (with_reducible refine (hQ _).mono ?_); rintro e x6 ⟨⟨pa, pc, rfl, hs6⟩, ht6⟩; have Y6 : Hid (Turned (fun b => b = gB + 1 ∨ b = pN) wr x6) := Y5.out.2.2.1.trans ht6 (fun _ _ q => q.elim); obtain ⟨-, -, -, -, kb, kg6⟩ := HCC.out x6 (TR.out.comp Y6.out (T := (fun b => pH ≤ b)) (fun b _ q => q.elim id fun q => by have h := LT.out; have q2 : b = gB + 1 ∨ b = pN := q; show pH ≤ b; omega)); have P9 : Hid (x6.heap[w.heap.size]? = some (.cells #[.int .i64 0, .int .i64 0, .int .i64 0, .int .i64 0, .int .u32 0, .slice none 0 0] 40 (0, 0)) ∧ Turned (fun _ => False) w x6 ∧ w.heap.size < x6.heap.size) := ⟨(HP0.out x6 (TR.out.comp Y6.out (T := (fun b => pH ≤ b)) (fun b _ q => q.elim id fun q => by have h := LT.out; have q2 : b = gB + 1 ∨ b = pN := q; show pH ≤ b; omega))).1, (HP0.out x6 (TR.out.comp Y6.out (T := (fun b => pH ≤ b)) (fun b _ q => q.elim id fun q => by have h := LT.out; have q2 : b = gB + 1 ∨ b = pN := q; show pH ≤ b; omega))).2, lt_of_block (HP0.out x6 (TR.out.comp Y6.out (T := (fun b => pH ≤ b)) (fun b _ q => q.elim id fun q => by have h := LT.out; have q2 : b = gB + 1 ∨ b = pN := q; show pH ≤ b; omega))).1⟩; have c0 := cell_of P9.out.1 0 _ rfl; have f0 := free_of P9.out.1 0; have c1 := cell_of P9.out.1 1 _ rfl; have f1 := free_of P9.out.1 1; have c2 := cell_of P9.out.1 2 _ rfl; have f2 := free_of P9.out.1 2; have c3 := cell_of P9.out.1 3 _ rfl; have f3 := free_of P9.out.1 3; have c4 := cell_of P9.out.1 4 _ rfl; have f4 := free_of P9.out.1 4; have c5 := cell_of P9.out.1 5 _ rfl; have f5 := free_of P9.out.1 5; have l9 := P9.out.2.2; clear ht6 hs6))
        refine bodyPost_ret (v := .tuple #[.agg zeroG, .int .i64 3]) (by simp [results, Try.results70, go_sem, c0, c1, c2, c3, c4, c5]) rfl ?_
        rw [HR1.out]
        exact ⟨P9.out.2.1.comp (six_turned _ w.heap.size _ _ _ _ _ _) fun b hb q => q.elim id fun q => by omega, rfl⟩
      have q3 : decide ((cb.size : Int) < (nx : Int)) = false := decide_eq_false (by omega)
      have q4 : decide (cb.size < nx) = false := decide_eq_false hbn
      have HLN : Hid (la ≤ nx ∧ nx ≤ cb.size) := (by omega : la ≤ nx ∧ nx ≤ cb.size)
      obtain ⟨bt, hbt⟩ : ∃ b, b = cb.extract la nx := ⟨_, rfl⟩
      have hsl : ∀ W, (Instr.slice 9 (.string cb) (some (.int .i64 (la : Nat))) (some (.int .i64 (nx : Nat))) none).run Try.prog W = .ok (.string bt) W := fun W => by
        have := run_slice_string (P := Try.prog) W 9 cb .i64 .i64 (la : Int) (nx : Int) Try.underlying9 (by omega) (by omega) (by omega)
        rw [Int.toNat_natCast, Int.toNat_natCast, ← hbt] at this
        exact this
      have HRW : Hid (o = rowsG refPar ca ce cn cb g2 (j + 1) nx (l ++ [⟨par, u0, u4, u5, bt⟩]) ∧ RdOk ⟨par, u0, u4, u5, bt⟩) := by
        have e : rowG refPar ca ce cn cb j la = some (⟨par, u0, u4, u5, bt⟩, nx) := by
          rw [HRG.out, HNP.out.2]
          unfold rowO
          simp only
          rw [if_neg hnl, if_neg hbn, ← hbt]
        have q : o = rowsG refPar ca ce cn cb g2 (j + 1) nx (l ++ [⟨par, u0, u4, u5, bt⟩]) := by rw [HO2.out]; exact rowsG_some e
        exact ⟨q, rowG_ok refPar refPar_ok ca ce cn cb j la _ _ HC.out.1 (by have := SZ.out; omega) e⟩
      have M1 : Hid (j + 1 ≤ maxLen ∧ (j + 1) * 64 ≤ 140737488355328) := (by have h1 := HC.out; have h2 := SZ.out; simp only [maxLen]; omega : j + 1 ≤ maxLen ∧ (j + 1) * 64 ≤ 140737488355328)
      clear hon hnl hbn hbt
      have iu0 : IntKind.i64.wrap ((u0 : Nat) : Int) = (u0 : Int) := by rw [IntKind.wrap_i64]; have := HM.out; omega
      have iu4 : IntKind.i64.wrap ((u4 : Nat) : Int) = (u4 : Int) := by rw [IntKind.wrap_i64]; have := HM.out; omega
      have iu5 : IntKind.i64.wrap ((u5 : Nat) : Int) = (u5 : Int) := by rw [IntKind.wrap_i64]; have := HM.out; omega
      have inx : IntKind.i64.wrap ((nx : Nat) : Int) = (nx : Int) := by rw [IntKind.wrap_i64]; have := HM.out; omega
      go_wp2_with (first
        | (go_at_call 87; (with_reducible refine h0.mono ?_); rintro e x0 ⟨rfl, hr, ht⟩; have Y0 : Hid (RrIs x0 (gB + 1) ca (15 * j + 4, 0) ∧ Turned (fun b => b = gB + 1) wr x0 ∧ True) := ⟨hr, (Turned.refl (fun b => b = gB + 1) wr).trans ht (fun _ _ q => q), trivial⟩; clear hr ht h0; have h1 : Calls Try.prog 87 #[pt (gB + 1), .int .i64 4] x0 _ := rnumOk 4 u1 (15 * j + 8) Y0.out.1 (by have := HC.out; omega) (by have := SZ.out; omega) (by omega) HU.out.2.1 (by omega))
        | (go_at_call 87; (with_reducible refine h1.mono ?_); rintro e x1 ⟨rfl, hr, ht⟩; have Y1 : Hid (RrIs x1 (gB + 1) ca (15 * j + 8, 0) ∧ Turned (fun b => b = gB + 1) wr x1 ∧ True) := ⟨hr, Y0.out.2.1.trans ht (fun _ _ q => q), trivial⟩; clear hr ht h1; have h2 : Calls Try.prog 87 #[pt (gB + 1), .int .i64 4] x1 _ := rnumOk 4 u2 (15 * j + 12) Y1.out.1 (by have := HC.out; omega) (by have := SZ.out; omega) (by omega) HU.out.2.2.1 (by omega))
        | (go_at_call 87; (with_reducible refine h2.mono ?_); rintro e x2 ⟨rfl, hr, ht⟩; have Y2 : Hid (RrIs x2 (gB + 1) ca (15 * j + 12, 0) ∧ Turned (fun b => b = gB + 1) wr x2 ∧ True) := ⟨hr, Y1.out.2.1.trans ht (fun _ _ q => q), trivial⟩; clear hr ht h2; have h3 : Calls Try.prog 87 #[pt (gB + 1), .int .i64 2] x2 _ := rnumOk 2 u4 (15 * j + 14) Y2.out.1 (by have := HC.out; omega) (by have := SZ.out; omega) (by omega) HU.out.2.2.2.1 (by omega))
        | (go_at_call 87; (with_reducible refine h3.mono ?_); rintro e x3 ⟨rfl, hr, ht⟩; have Y3 : Hid (RrIs x3 (gB + 1) ca (15 * j + 14, 0) ∧ Turned (fun b => b = gB + 1) wr x3 ∧ True) := ⟨hr, Y2.out.2.1.trans ht (fun _ _ q => q), trivial⟩; clear hr ht h3; have h4 : Calls Try.prog 87 #[pt (gB + 1), .int .i64 1] x3 _ := rnumOk 1 u5 (15 * j + 15) Y3.out.1 (by have := HC.out; omega) (by have := SZ.out; omega) (by omega) HU.out.2.2.2.2.1 (by omega))
        | (go_at_call 87; (with_reducible refine h4.mono ?_); rintro e x4 ⟨rfl, hr, ht⟩; have Y4 : Hid (RrIs x4 (gB + 1) ca (15 * j + 15, 0) ∧ Turned (fun b => b = gB + 1) wr x4 ∧ True) := ⟨hr, Y3.out.2.1.trans ht (fun _ _ q => q), trivial⟩; clear hr ht h4; have h5 : Calls Try.prog 87 #[pt pN, .int .i64 4] x4 _ := rnumOk 4 nx (4 * j + 4) (RrIs.turned RD.out.2 Y4.out.2.1 (fun q => by have h := LT.out; have q2 : pN = gB + 1 := q; omega)) (by have := HC.out; omega) (by have := SZ.out; omega) (by omega) HU.out.2.2.2.2.2 (by omega))
        | (go_at_call 87; (with_reducible refine h5.mono ?_); rintro e x5 ⟨rfl, hr, ht⟩; have Y5 : Hid (RrIs x5 (gB + 1) ca (15 * j + 15, 0) ∧ RrIs x5 pN cn (4 * j + 4, 0) ∧ Turned (fun b => b = gB + 1 ∨ b = pN) wr x5 ∧ True) := ⟨Y4.out.1.turned ht (fun q => by have h := LT.out; have q2 : gB + 1 = pN := q; omega), hr, Y4.out.2.1.comp ht (fun b _ q => q.elim (fun q => .inl q) fun q => .inr q), trivial⟩; clear hr ht h5; obtain ⟨-, -, ke, -, -, kg5⟩ := HCC.out x5 (TR.out.comp Y5.out.2.2.1 (T := (fun b => pH ≤ b)) (fun b _ q => q.elim id fun q => by have h := LT.out; have q2 : b = gB + 1 ∨ b = pN := q; show pH ≤ b; omega)))
        | (go_at_call 98; (with_reducible refine (hQ _).mono ?_); rintro e x6 ⟨⟨pa, pc, rfl, hs6⟩, ht6⟩; have Y6 : Hid (Turned (fun b => b = gB + 1 ∨ b = pN) wr x6) := Y5.out.2.2.1.trans ht6 (fun _ _ q => q.elim); obtain ⟨-, -, -, -, kb, kg6⟩ := HCC.out x6 (TR.out.comp Y6.out (T := (fun b => pH ≤ b)) (fun b _ q => q.elim id fun q => by have h := LT.out; have q2 : b = gB + 1 ∨ b = pN := q; show pH ≤ b; omega)); have Z6 : Hid (x6.heap[gB]? = some (.cells #[.int .i64 (v0 : Nat), .int .i64 (v2 : Nat), .int .i64 (v3 : Nat), .int .i64 (v4 : Nat), .int .u32 (v5 : Nat), .slice ra j rc] 40 (0, 0)) ∧ Sl x6 R 61 5 (.slice ra j rc) (rowCs l vs) j ∧ Sl x6 (fun b => x5.heap.size ≤ b ∧ b < x6.heap.size) 3 1 (.slice pa np pc) (ncells par) np ∧ wr.heap.size ≤ x5.heap.size ∧ RrIs x6 (gB + 1) ca (15 * j + 15, 0) ∧ RrIs x6 pN cn (4 * j + 4, 0)) := ⟨(Y6.out.block _ LT.out.1 (fun q => by have h := LT.out; have q2 : gB = gB + 1 ∨ gB = pN := q; omega)).trans BB.out, SL.out.2.1.turned Y6.out (fun b q z => by have h := LT.out; have h2 := RQ.out.1 b (.inl q); have q2 : b = gB + 1 ∨ b = pN := z; omega), sl_bound hs6, Y5.out.2.2.1.size, Y5.out.1.turned ht6 id, Y5.out.2.1.turned ht6 id⟩; have S56 : Hid (x5.heap.size ≤ x6.heap.size) := ht6.size; clear ht6 hs6; have e5 := cell_of Z6.out.1 5 _ rfl; have k5 := free_of Z6.out.1 5; have z5 := lt_of_block Z6.out.1; have SRC : Hid (Src Try.prog 5 38 (.slice (some ⟨x6.heap.size, 0, none⟩) 1 1) 1 [.slice pa np pc, .int .i64 (u0 : Nat), .int .i64 (u4 : Nat), .int .i64 (u5 : Nat), .string bt] ((x6.alloc (.cells #[.slice pa np pc, .int .i64 (u0 : Nat), .int .i64 (u4 : Nat), .int .i64 (u5 : Nat), .string bt] 61)).drew)) := (by have q := src_row x6.drew (.slice pa np pc) (u0 : Nat) (u4 : Nat) (u5 : Nat) bt rfl; exact q); have HSL : Hid (Sl ((x6.alloc (.cells #[.slice pa np pc, .int .i64 (u0 : Nat), .int .i64 (u4 : Nat), .int .i64 (u5 : Nat), .string bt] 61)).drew) R 61 5 (.slice ra j rc) (rowCs l vs) j) := (Z6.out.2.1.turned (Turned.alloc (fun _ => False) _ _) (fun _ _ q => q)).drew))
      go_region_law ((refine step_append (by rfl) _ _ 38 38 (by rfl) HSL.out Try.underlying38 info61 rfl (by decide) (by rfl) (.slice (some ⟨x6.heap.size, 0, none⟩) 1 1) (by rfl) SRC.out M1.out.1 M1.out.2 ?_; intro v' x9 q9 t9; obtain ⟨ra9, rc9, hv2, -, -⟩ := q9.value; subst hv2; have tt := ((Turned.alloc R x6 (.cells #[.slice pa np pc, .int .i64 (u0 : Nat), .int .i64 (u4 : Nat), .int .i64 (u5 : Nat), .string bt] 61)).draw).trans t9 (fun _ _ q => q); have A9 : Hid (Sl x9 (fun b => (R b ∨ x6.heap.size ≤ b) ∧ b < x9.heap.size) 61 5 (.slice ra9 (j + 1) rc9) (rowCs l vs ++ [.slice pa np pc, .int .i64 (u0 : Nat), .int .i64 (u4 : Nat), .int .i64 (u5 : Nat), .string bt]) (j + 1) ∧ Turned R x6 x9 ∧ x9.heap[gB]? = some (.cells #[.int .i64 (v0 : Nat), .int .i64 (v2 : Nat), .int .i64 (v3 : Nat), .int .i64 (v4 : Nat), .int .u32 (v5 : Nat), .slice ra j rc] 40 (0, 0))) := ⟨(sl_bound q9).widen fun b q => ⟨q.1.elim .inl fun q => .inr (by simp at q; omega), q.2⟩, tt, (tt.block _ z5 (fun q => by have h := LT.out; have h2 := RQ.out.1 _ (.inl q); omega)).trans Z6.out.1⟩; clear q9 t9 tt; have k9 := free_of A9.out.2.2 5; have c9 := cell_of A9.out.2.2 5 _ rfl; have z9 := lt_of_block A9.out.2.2))
      all_goals go_wp2
      all_goals
        go_roundg g2
        case measure => omega
        case rel =>
          have od := LT.out
          have g := G.out
          have s56 := Z6.out.2.2.2.1
          have s6 := Y6.out.size
          have s69 := A9.out.2.1.size
          have l56 : x5.heap.size ≤ x6.heap.size := S56.out
          have nR : ∀ b, R b → pN < b ∧ b < wr.heap.size := fun b q => RQ.out.1 b (.inl q)
          have nQ : ∀ b, Q b → pN < b ∧ b < wr.heap.size := fun b q => RQ.out.1 b (.inr q)
          have TE6 : Turned (fun b => R b ∨ b = gB) x6 (x9.setCell ⟨gB, 5, none⟩ (.slice ra9 (j + 1) rc9)) := (A9.out.2.1.mono fun b _ q => .inl q).set (p := ⟨gB, 5, none⟩) (.inr rfl) _
          have TE : Turned (fun b => (b = gB + 1 ∨ b = pN) ∨ (R b ∨ b = gB)) wr (x9.setCell ⟨gB, 5, none⟩ (.slice ra9 (j + 1) rc9)) := Y6.out.comp TE6 fun b _ q => q
          have n6 : ∀ b, ¬ R b → b ≠ gB → ¬ (R b ∨ b = gB) := fun b h1 h2 q => q.elim h1 h2
          have hlen : (l ++ [(⟨par, u0, u4, u5, bt⟩ : Rw)]).length = j + 1 := by rw [List.length_append, g.2]; rfl
          have hws : (x9.setCell ⟨gB, 5, none⟩ (.slice ra9 (j + 1) rc9)).heap.size = x9.heap.size := setCell_size _ _ _
          refine ⟨j + 1, nx, l ++ [⟨par, u0, u4, u5, bt⟩], .slice ra9 (j + 1) rc9, fun b => (R b ∨ x6.heap.size ≤ b) ∧ b < x9.heap.size, fun b => Q b ∨ (x5.heap.size ≤ b ∧ b < x6.heap.size), ⟨by omega, ?_, rfl, hlen⟩, HLN.out.2, HRW.out.1, ?_, Go.Mine.heap_setCell_same A9.out.2.2 _, ?_, ?_, ⟨vs ++ [.slice pa np pc], by rw [List.length_append, List.length_append, SL.out.1]; rfl, ?_, ?_⟩, ?_, ?_, ?_⟩
          · have hj : wrap64 ((j : Int) + 1) = ((j + 1 : Nat) : Int) := by
              have h1 := HC.out
              have h2 := SZ.out
              simp [wrap64]
              omega
            rw [hj]
          · intro r hr
            rcases List.mem_append.1 hr with hr | hr
            · exact OK.out r hr
            · rw [List.mem_singleton] at hr
              rw [hr]
              exact HRW.out.2
          · have q := Z6.out.2.2.2.2.1.turned TE6 (n6 _ (fun q => by have := nR _ q; omega) (by omega))
            rw [show 15 * (j + 1) = 15 * j + 15 by omega]; exact q
          · have q := Z6.out.2.2.2.2.2.turned TE6 (n6 _ (fun q => by have := nR _ q; omega) (by omega))
            rw [show 4 * (j + 1) = 4 * j + 4 by omega]; exact q
          · rw [rowCs_snoc l vs _ _ SL.out.1, hlen]
            exact A9.out.1.turned (Turned.setCell (S := (· = gB)) (p := ⟨gB, 5, none⟩) rfl _) (fun b q z => by
              have z2 : b = gB := z
              rcases q.1 with q1 | q1
              · have := nR b q1; omega
              · omega)
          · intro i r u hr hu
            by_cases hi : i < l.length
            · rw [List.getElem?_append_left hi] at hr
              rw [List.getElem?_append_left (by rw [SL.out.1]; exact hi)] at hu
              refine ((SL.out.2.2 i r u hr hu).turned TE (fun b q z => ?_)).widen fun b q => .inl q
              have h1 := nQ b q
              rcases z with (z | z) | (z | z)
              · omega
              · omega
              · exact RQ.out.2 b z q
              · omega
            · have hi2 := (List.getElem?_eq_some_iff.1 hr).1
              rw [hlen, ← g.2] at hi2
              obtain rfl : i = l.length := by omega
              rw [List.getElem?_append_right (Nat.le_refl _), Nat.sub_self] at hr
              rw [List.getElem?_append_right (by rw [SL.out.1]; exact Nat.le_refl _), SL.out.1, Nat.sub_self] at hu
              obtain rfl := Option.some.inj hr
              obtain rfl := Option.some.inj hu
              show Sl _ _ 3 1 (.slice pa np pc) (ncells par) par.length
              rw [← HNP.out.1]
              exact (Z6.out.2.2.1.turned TE6 (fun b q => n6 b (fun z => by have := nR b z; omega) (by omega))).widen fun b q => .inr q
          · intro b q
            rw [hws]
            rcases q with ⟨q | q, q2⟩ | q | q
            · have := nR b q; omega
            · omega
            · have := nQ b q; omega
            · omega
          · intro b q z
            rcases q with ⟨q | q, q2⟩
            · rcases z with z | z
              · exact RQ.out.2 b q z
              · have := nR b q; omega
            · rcases z with z | z
              · have := nQ b z; omega
              · omega
          · exact TR.out.comp TE fun b hb q => q.elim id fun q => by
              show pH ≤ b
              rcases q with (q | q) | (q | q)
              · omega
              · omega
              · have := nR b q; omega
              · omega
end Go.Proofs.Ytfeljngmidhajaa

/- slices.SortFunc of the chunks, at whatever length: what the slice reads as behind it. -/
import Derived.Test.YtfeljngmidhajaaSortF
namespace Go.Proofs.Ytfeljngmidhajaa
open Go.RowKit Go.Mine Go.Shelf Go.Sort

theorem ltV (x y : Ch) : ltOf (fun x y : Ch => cmpV x.1 y.1) x y = decide (x.1 < y.1) := by
  unfold ltOf cmpV
  by_cases h1 : x.1 < y.1
  · simp [h1]
  · by_cases h2 : y.1 < x.1 <;> simp [h1, h2]

theorem swoV : SWO (ltOf fun x y : Ch => cmpV x.1 y.1) where
  irrefl x := by rw [ltV]; simp
  trans x y z h1 h2 := by rw [ltV] at *; simp at *; omega
  ntrans x y z h1 h2 := by rw [ltV] at *; simp at *; omega

theorem flat_ccells (l : List Ch) : flatK encCh 2 l.toArray = (ccells l).toArray := by
  refine ext_get! (by simp [ccells_length]) fun t ht => ?_
  have ht2 : t < l.length * 2 := by simpa using ht
  rw [get_flatK _ _ _ _ (by simpa using ht2)]
  have hi : t / 2 < l.length := by omega
  obtain ⟨g1, g2⟩ := ccells_get l (t / 2) l[t / 2] (List.getElem?_eq_getElem hi)
  have e0 : (l.toArray)[t / 2]! = l[t / 2] := by simp [hi]
  rw [e0]
  rcases Nat.mod_two_eq_zero_or_one t with hm | hm
  · have e : t = t / 2 * 2 := by omega
    rw [← e] at g1
    simp [hm, encCh, g1]
  · have e : t = t / 2 * 2 + 1 := by omega
    rw [← e] at g2
    simp [hm, encCh, g2]

theorem sorted_row (l : List Ch) (d : Array Ch) (hn : (l.map (·.1)).Nodup) (hp : PermIn 0 l.toArray.size l.toArray d) (hs : SortedIn (ltOf fun x y : Ch => cmpV x.1 y.1) 0 l.toArray.size d) : d = (sortCh l).toArray := by
  have hsz : d.size = l.length := by simpa using hp.1
  have hperm : d.toList.Perm l := by
    have h := hp.2.2
    have e1 : d.extract 0 l.toArray.size = d := by
      rw [← hp.1]; exact Array.extract_size
    rw [e1, Array.extract_size] at h
    simpa using h
  have hnd : (d.toList.map (·.1)).Nodup := (List.Perm.map _ hperm).nodup_iff.2 hn
  have hris : Rising d.toList := by
    rw [Rising, List.pairwise_iff_getElem]
    intro i j hi hj hij
    have hi2 : i < d.size := by simpa using hi
    have hj2 : j < d.size := by simpa using hj
    have h := hs i j (Nat.zero_le _) hij (by simp; omega)
    rw [ltV, getElem!_pos d j hj2, getElem!_pos d i hi2] at h
    have h1 : ¬ d[j].1 < d[i].1 := by simpa using h
    have h2 : d[i].1 ≠ d[j].1 := by
      intro q
      have := (List.pairwise_iff_getElem.1 hnd) i j (by simpa using hi2) (by simpa using hj2) hij
      simp at this
      exact this q
    simp only [Array.getElem_toList]
    omega
  have := rising_unique d.toList (sortCh l) hris (sortCh_rising l hn) (hperm.trans (sortCh_perm l).symm)
  rw [← this]

theorem cmpLays (g off n : Nat) (w : World) : CmpLays Try.prog 41 #[] encCh 2 (fun x y : Ch => cmpV x.1 y.1) g off n w :=
  fun _ _ _ _ x y => closure41 x y _

theorem putCells_list (F cur : Array Value) (off : Nat) (h : off + F.size ≤ cur.size) : ((putCells id off F cur).toList.drop off).take F.size = F.toList := by
  apply List.ext_getElem?
  intro k
  rw [List.getElem?_take]
  split
  · rename_i hk
    rw [List.getElem?_drop]
    have h1 : off + k < cur.size := by omega
    have h2 : cur[off + k]? = some cur[off + k] := Array.getElem?_eq_getElem h1
    simp only [putCells, Array.getElem?_toList, Array.getElem?_mapIdx, h2, Option.map_some]
    rw [if_pos ⟨by omega, by omega⟩, show off + k - off = k by omega]
    simp [hk]
  · rename_i hk
    rw [List.getElem?_eq_none (by simp; omega)]

set_option maxHeartbeats 1000000 in
theorem sortf_some {w : World} {S : Nat → Prop} {g off cap : Nat} {cur : Array Value} (l : List Ch) (hg : w.heap[g]? = some (.cells cur 31 (0, 0))) (hS : S g) (hnc : l.length ≤ cap) (hcm : cap ≤ maxLen) (hcs : off + cap * 2 ≤ cur.size) (ht : (cur.toList.drop off).take (l.length * 2) = ccells l)
    (hn : (l.map (·.1)).Nodup) (hl : l.length ≤ 100000) : Calls Try.prog 40 #[.slice (some ⟨g, off, none⟩) l.length cap, .func (.func 41) #[] #[]] w fun e w' => e = .returned (.tuple #[]) ∧ Sl w' S 31 2 (.slice (some ⟨g, off, none⟩) l.length cap) (ccells (sortCh l)) l.length ∧ Turned S w w' := by
  have eg : ∀ args w, (callFunc 41 args).run Try.prog w = .ok (.enter 41 args) w := enters_of Try.func41 (by kernel_rfl) rfl
  have hH : HoldsK encCh 2 w g off l.toArray := by
    intro j hj
    rw [flat_ccells] at hj ⊢
    have hj2 : j < l.length * 2 := by simpa [ccells_length] using hj
    refine ⟨?_, free_of hg _⟩
    have : (ccells l)[j]? = cur[off + j]? := by
      rw [← ht, List.getElem?_take, if_pos hj2, List.getElem?_drop]; simp
    have h3 : (ccells l)[j]? = some (ccells l)[j]! := by
      have h4 : j < (ccells l).length := by rw [ccells_length]; exact hj2
      simp [h4]
    refine cell_of hg _ _ ?_
    rw [← this, h3]; simp
  have hcon := AnyQ.slices_SortFunc Try.sortCh 2 Try.isAgg31 Try.sizeOf31 encCh (fun _ => rfl) (fun x v hv => by simp [encCh] at hv; rcases hv with rfl | rfl <;> rfl) (fun x y : Ch => cmpV x.1 y.1) swoV 41 #[] g off cap l.toArray w eg (cmpLays g off l.toArray.size w) hH (lt_of_block hg) (by simp; omega)
  change Calls Try.prog 40 _ _ _ at hcon
  have es : l.toArray.size = l.length := by simp
  rw [es] at hcon
  refine hcon.mono ?_
  rintro e w' ⟨rfl, d', n, os, hp, hs, rfl⟩
  rw [← es] at hp hs
  have hd := sorted_row l d' hn hp hs
  subst hd
  have hlt := lt_of_block hg
  have hb : (mapBlock (Sort.ahead w n) g (putCells id off (flatK encCh 2 (sortCh l).toArray))).heap[g]? = some (.cells (putCells id off (flatK encCh 2 (sortCh l).toArray) cur) 31 (0, 0)) := by
    simp only [mapBlock, heap_ahead, Array.getElem?_modify, if_true, hg, Option.map_some, onCells]
  have hsl : (sortCh l).length = l.length := (sortCh_perm l).length_eq
  refine ⟨rfl, ⟨by rw [ccells_length, hsl], .inr ⟨g, off, cap, putCells id off (flatK encCh 2 (sortCh l).toArray) cur, rfl, hS, ?_, hnc, hcm, ?_, ?_⟩⟩, ?_⟩
  · rw [sortWorldK, heap_grow_old _ _ (by simpa [putRowK] using hlt)]
    exact hb
  · simpa [putCells] using hcs
  · rw [flat_ccells]
    have := putCells_list (ccells (sortCh l)).toArray cur off (by simp only [List.size_toArray, ccells_length, hsl]; omega)
    simpa [ccells_length, hsl] using this
  · refine ⟨rfl, rfl, rfl, by simp [sortWorldK, putRowK], fun k hk hnS => ?_⟩
    rw [sortWorldK, heap_grow_old _ _ (by simpa [putRowK] using hk)]
    have hne : g ≠ k := fun q => hnS (q ▸ hS)
    simp [putRowK, putRow, mapBlock, Array.getElem?_modify, hne]
end Go.Proofs.Ytfeljngmidhajaa

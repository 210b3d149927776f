/- Chunks that came in, as the walks want them. -/
import Derived.Test.YtfeljngmidhajaaUp
import Derived.WalkKit
import Derived.ProofKit
import Derived.OpenShut
import Derived.ShutString
import Derived.ChangeOld
import Derived.Below
import Derived.Deep.Slices
import Derived.Deep.Fields
import Derived.ChangeSame
import Derived.SizedLaws
namespace Go.Proofs.Ytfeljngmidhajaa
open Go.ChangeShapes Go.WideShapes Go.ChangeAt Go.RowKit Go.Deep Go.Mine

theorem weightsAll_mem {H : Type} {P : Program} {e : TypeId} : ∀ {ds : List (DataW H)} {d : DataW H}, d ∈ ds → ∀ n ∈ d.weights P e, n ∈ DataW.weightsAll P e ds
  | [], d, h, n, _ => by simp at h
  | d0 :: ds, d, h, n, hn => by
    simp only [DataW.weightsAll, List.mem_append]
    rcases List.mem_cons.1 h with rfl | h
    · exact .inl hn
    · exact .inr (weightsAll_mem h n hn)

theorem listOf {α : Type} {p : Nat → α → Prop} : ∀ n, (∀ i, i < n → ∃ c, p i c) → ∃ l : List α, l.length = n ∧ ∀ i c, l[i]? = some c → p i c
  | 0, _ => ⟨[], rfl, fun i c h => by simp at h⟩
  | n + 1, h => by
    obtain ⟨l, hl, hp⟩ := listOf n fun i hi => h i (by omega)
    obtain ⟨c, hc⟩ := h n (by omega)
    refine ⟨l ++ [c], by simp [hl], fun i d hd => ?_⟩
    rw [List.getElem?_append] at hd
    split at hd
    · exact hp i d hd
    · have : i = n := by
        have := (List.getElem?_eq_some_iff.1 hd).1
        simp at this
        omega
      subst this
      rw [hl, Nat.sub_self] at hd
      simp at hd
      subst hd
      exact hc

section
variable {H : Type} {enc : TypeId × Value → H} {P : Program} {w : World} {base : Nat} {spare : Nat → Bool} {held : Bool}
theorem open_slice_fields {t e : TypeId} {fs : Array Field} {fuel : Nat} {cs : List Value} {x : DataW H × List MemPlace} (ht : P.underlying t = some (.slice e)) (he : P.underlying e = some (.struct fs))
    (hone : oneCellFields P fs = true) (hC : P.cellsOf e = fs.size) (h : DataW.trod enc P w base spare held fuel t cs = some x) :
    (cs = [.slice none 0 0] ∧ x = (.nil, [])) ∨
    ∃ (a : Addr) (len cap m : Nat) (D : Nat → DataW H) (Pl : Nat → List MemPlace), cs = [.slice (some a) len cap] ∧ base ≤ a.block ∧ len ≤ cap ∧ cap ≤ maxLen ∧ m = (if spare a.block then cap else len) ∧
      x = (.slice ((List.range len).map D) ((List.range (m - len)).map fun j => D (len + j)), MemPlace.row a (m * fs.size) ++ (List.range m).flatMap Pl) ∧
      ∀ i, i < m → ∃ (ys : List (DataW H × List MemPlace)) (n : Nat), D i = .agg (ys.map (·.1)) ∧ Pl i = ys.flatMap (·.2) ∧ ys.length = fs.size ∧
        ∀ (j : Nat) (f : Field), fs[j]? = some f → ∃ (v : Value) (y : DataW H × List MemPlace), w.cell? (a.add (i * fs.size + j)) = some v ∧ ys[j]? = some y ∧ DataW.trod enc P w base spare held n f.type [v] = some y := by
  rcases open_slice ht h with h0 | ⟨a, len, cap, m, n, D, Pl, hcs, hb, hl, hm, hmm, hx, hi⟩
  · exact .inl h0
  · refine .inr ⟨a, len, cap, m, D, Pl, hcs, hb, hl, hm, hmm, by rw [hC] at hx; exact hx, fun i him => ?_⟩
    obtain ⟨cs', hc, ht'⟩ := hi i him
    rw [hC] at hc
    obtain ⟨ys, n', hn', hy, hlen, hyl, hf⟩ := DataW.trod_struct he ht'
    obtain ⟨_, hcl, hat⟩ := World.cells?_some hc
    simp only [Prod.mk.injEq] at hy
    refine ⟨ys, n', hy.1, hy.2, hyl, fun j f hj => ?_⟩
    obtain ⟨ho, hk⟩ := hone_of hone j f hj
    have hjl : j < fs.size := (Array.getElem?_eq_some_iff.1 hj).1
    have hcell := hat j hjl
    have hv : cs'[j]? = some (cs'[j]'(by omega)) := List.getElem?_eq_getElem (by omega)
    have h1 := hf j f hj
    rw [ho, hk] at h1
    have hone' : (cs'.drop j).take 1 = [cs'[j]'(by omega)] := by
      rw [List.drop_eq_getElem_cons (by omega)]
      rfl
    rw [hone'] at h1
    have hys : ys[j]? = some (ys[j]'(by omega)) := List.getElem?_eq_getElem (by omega)
    refine ⟨_, _, ?_, hys, h1.trans hys⟩
    rw [← Go.Deep.add_add, hcell, hv]
end

theorem own : ownKnob Try.prog.godebug = none := by kernel_rfl
theorem laidOut : laidOutB Try.prog = true := by kernel_rfl
theorem reach_le : reachBytes ≤ 140737488355328 := Nat.le_of_lt reachBytes_lt

/-- the chunks that came in -/
theorem isChunks {H : Type} {enc : TypeId × Value → H} {W : World} {held : Bool} {a : Option Addr} {len cap fuel : Nat} {x : DataW H × List MemPlace}
    (h : DataW.trod enc Try.prog W 0 (fun _ => true) held fuel 22 (Value.slice a len cap).cells.toList = some x) (hw : ∀ n ∈ x.1.weights Try.prog 22, n ≤ reachBytes) :
    ∃ l : List Ch, l.length = len ∧ ChIs W a cap l ∧ cap * 24 ≤ 140737488355328 ∧ (a = none → cap = 0) := by
  rcases open_slice_fields Try.underlying22 Try.underlying31 (by kernel_rfl) (by kernel_rfl) h with ⟨hcs, _⟩ | ⟨ad, l, c, m, D, Pl, hcs, _, hl, hm, hmm, hx, hi⟩
  · simp [Value.cells] at hcs
    obtain ⟨rfl, rfl, rfl⟩ := hcs
    exact ⟨[], rfl, ⟨Nat.le_refl _, by simp [maxLen], fun c hc => by simp at hc, fun h => by simp at h⟩, by simp, fun _ => rfl⟩
  · simp [Value.cells] at hcs
    obtain ⟨rfl, rfl, rfl⟩ := hcs
    simp only [if_true] at hmm
    subst hmm
    have hb : (Try.prog.bytesOf 31) = 24 := by kernel_rfl
    rw [hx] at hw
    have hwts : ∀ n ∈ (len + (m - len)) * 24 :: (DataW.weightsAll Try.prog 31 ((List.range len).map D) ++ DataW.weightsAll Try.prog 31 ((List.range (m - len)).map fun j => D (len + j))), n ≤ reachBytes := by
      intro n hn
      refine hw n ?_
      simp only [DataW.weights, Try.underlying22, List.length_map, List.length_range, hb]
      exact hn
    have hel : ∀ i, i < len → ∃ c : Ch, c.1 < 4294967296 ∧ c.2.size ≤ 140737488355328 ∧ W.cell? (ad.add (i * 2)) = some (.int .u32 (c.1 : Nat)) ∧ W.cell? (ad.add (i * 2 + 1)) = some (.string c.2) := by
      intro i hi'
      obtain ⟨ys, n, hD, -, -, hf⟩ := hi i (by omega)
      obtain ⟨v0, y0, hc0, -, ht0⟩ := hf 0 _ rfl
      obtain ⟨v1, y1, hc1, hy1, ht1⟩ := hf 1 _ rfl
      obtain ⟨k, e0, -, w0⟩ := DataW.trod_int Try.underlying29 ht0
      obtain ⟨s, e1, hx1, -⟩ := DataW.trod_string Try.underlying9 ht1
      simp at e0 e1
      subst e0; subst e1
      have hb := _root_.Go.bounds_u32 w0
      have hs : s.size ≤ reachBytes := by
        refine hwts s.size (List.mem_cons_of_mem _ (List.mem_append_left _ (weightsAll_mem (d := D i) (List.mem_map.2 ⟨i, by simpa using hi', rfl⟩) _ ?_)))
        rw [hD]
        simp only [DataW.weights, Try.underlying31]
        refine DataW.weights_mem_each (j := 1) (t := 9) (d := y1.1) rfl (by simp [hy1]) _ ?_
        rw [hx1]
        simp [DataW.weights]
      refine ⟨(k.toNat, s), by simp; omega, Nat.le_trans hs reach_le, ?_, hc1⟩
      rw [show ((k.toNat : Nat) : Int) = k by omega]
      exact hc0
    obtain ⟨l, hll, hlp⟩ := listOf len hel
    have hcap : m * 24 ≤ 140737488355328 := by
      have := hwts _ (List.mem_cons_self)
      rw [show len + (m - len) = m by omega] at this
      exact Nat.le_trans this reach_le
    refine ⟨l, hll, ⟨by omega, hm, fun c hc => ?_, fun h0 => ?_⟩, hcap, fun q => by simp at q⟩
    · obtain ⟨i, hi'⟩ := List.getElem?_of_mem hc
      have := hlp i c hi'
      exact ⟨this.1, this.2.1⟩
    · obtain ⟨b, off, sp⟩ := ad
      have h00 : l[0]? = some (l[0]'h0) := List.getElem?_eq_getElem h0
      obtain ⟨-, -, c0, -⟩ := hlp 0 _ h00
      have hsp : sp = none := by
        cases sp with
        | none => rfl
        | some x =>
          exfalso
          simp only [Addr.add, World.cell?] at c0
          split at c0 <;> simp at c0
      subst hsp
      refine ⟨b, off, rfl, ?_, fun i c hc => ?_⟩
      · simp only [Addr.add, World.cell?] at c0
        split at c0
        · rename_i h; exact lt_of_block h
        · simp at c0
      · obtain ⟨-, -, c0, c1⟩ := hlp i c hc
        simp only [Addr.add_lit] at c0 c1
        exact ⟨c0, by rw [Nat.add_assoc]; exact c1⟩
end Go.Proofs.Ytfeljngmidhajaa

/- Links that came in, as the walks want them. -/
import Derived.Test.YtfeljngmidhajaaDoorLn
import Derived.WalkKit
import Derived.ProofKit
import Derived.OpenShut
import Derived.ShutString
import Derived.ChangeOld
import Derived.Below
import Derived.Deep.Slices
import Derived.Deep.Fields
import Derived.ChangeSame
import Derived.SizedLaws
namespace Go.Proofs.YtfeljngmidhajaaDoor
open Go.ChangeShapes Go.WideShapes Go.ChangeAt Go.RowKit Go.Deep Go.Mine

theorem weightsAll_mem {H : Type} {P : Program} {e : TypeId} : ∀ {ds : List (DataW H)} {d : DataW H}, d ∈ ds → ∀ n ∈ d.weights P e, n ∈ DataW.weightsAll P e ds
  | [], d, h, n, _ => by simp at h
  | d0 :: ds, d, h, n, hn => by
    simp only [DataW.weightsAll, List.mem_append]
    rcases List.mem_cons.1 h with rfl | h
    · exact .inl hn
    · exact .inr (weightsAll_mem h n hn)

theorem listOf {α : Type} {p : Nat → α → Prop} : ∀ n, (∀ i, i < n → ∃ c, p i c) → ∃ l : List α, l.length = n ∧ ∀ i c, l[i]? = some c → p i c
  | 0, _ => ⟨[], rfl, fun i c h => by simp at h⟩
  | n + 1, h => by
    obtain ⟨l, hl, hp⟩ := listOf n fun i hi => h i (by omega)
    obtain ⟨c, hc⟩ := h n (by omega)
    refine ⟨l ++ [c], by simp [hl], fun i d hd => ?_⟩
    rw [List.getElem?_append] at hd
    split at hd
    · exact hp i d hd
    · have : i = n := by
        have := (List.getElem?_eq_some_iff.1 hd).1
        simp at this
        omega
      subst this
      rw [hl, Nat.sub_self] at hd
      simp at hd
      subst hd
      exact hc

section
variable {H : Type} {enc : TypeId × Value → H} {P : Program} {w : World} {base : Nat} {spare : Nat → Bool} {held : Bool}
theorem open_slice_fields {t e : TypeId} {fs : Array Field} {fuel : Nat} {cs : List Value} {x : DataW H × List MemPlace} (ht : P.underlying t = some (.slice e)) (he : P.underlying e = some (.struct fs))
    (hone : oneCellFields P fs = true) (hC : P.cellsOf e = fs.size) (h : DataW.trod enc P w base spare held fuel t cs = some x) :
    (cs = [.slice none 0 0] ∧ x = (.nil, [])) ∨
    ∃ (a : Addr) (len cap m : Nat) (D : Nat → DataW H) (Pl : Nat → List MemPlace), cs = [.slice (some a) len cap] ∧ base ≤ a.block ∧ len ≤ cap ∧ cap ≤ maxLen ∧ m = (if spare a.block then cap else len) ∧
      x = (.slice ((List.range len).map D) ((List.range (m - len)).map fun j => D (len + j)), MemPlace.row a (m * fs.size) ++ (List.range m).flatMap Pl) ∧
      ∀ i, i < m → ∃ (ys : List (DataW H × List MemPlace)) (n : Nat), D i = .agg (ys.map (·.1)) ∧ Pl i = ys.flatMap (·.2) ∧ ys.length = fs.size ∧
        ∀ (j : Nat) (f : Field), fs[j]? = some f → ∃ (v : Value) (y : DataW H × List MemPlace), w.cell? (a.add (i * fs.size + j)) = some v ∧ ys[j]? = some y ∧ DataW.trod enc P w base spare held n f.type [v] = some y := by
  rcases open_slice ht h with h0 | ⟨a, len, cap, m, n, D, Pl, hcs, hb, hl, hm, hmm, hx, hi⟩
  · exact .inl h0
  · refine .inr ⟨a, len, cap, m, D, Pl, hcs, hb, hl, hm, hmm, by rw [hC] at hx; exact hx, fun i him => ?_⟩
    obtain ⟨cs', hc, ht'⟩ := hi i him
    rw [hC] at hc
    obtain ⟨ys, n', hn', hy, hlen, hyl, hf⟩ := DataW.trod_struct he ht'
    obtain ⟨_, hcl, hat⟩ := World.cells?_some hc
    simp only [Prod.mk.injEq] at hy
    refine ⟨ys, n', hy.1, hy.2, hyl, fun j f hj => ?_⟩
    obtain ⟨ho, hk⟩ := hone_of hone j f hj
    have hjl : j < fs.size := (Array.getElem?_eq_some_iff.1 hj).1
    have hcell := hat j hjl
    have hv : cs'[j]? = some (cs'[j]'(by omega)) := List.getElem?_eq_getElem (by omega)
    have h1 := hf j f hj
    rw [ho, hk] at h1
    have hone' : (cs'.drop j).take 1 = [cs'[j]'(by omega)] := by
      rw [List.drop_eq_getElem_cons (by omega)]
      rfl
    rw [hone'] at h1
    have hys : ys[j]? = some (ys[j]'(by omega)) := List.getElem?_eq_getElem (by omega)
    refine ⟨_, _, ?_, hys, h1.trans hys⟩
    rw [← Go.Deep.add_add, hcell, hv]
end

theorem laidOut : laidOutB Tryd.prog = true := by kernel_rfl
theorem reach_le : reachBytes ≤ 140737488355328 := Nat.le_of_lt reachBytes_lt

/-- the links that came in -/
theorem isLinks {H : Type} {enc : TypeId × Value → H} {W : World} {held : Bool} {a : Option Addr} {len cap fuel : Nat} {x : DataW H × List MemPlace}
    (h : DataW.trod enc Tryd.prog W 0 (fun _ => true) held fuel 25 (Value.slice a len cap).cells.toList = some x) :
    ∃ l : List Ln, l.length = len ∧ LnIs W a cap l := by
  rcases open_slice_fields Tryd.underlying25 Tryd.underlying43 (by kernel_rfl) (by kernel_rfl) h with ⟨hcs, _⟩ | ⟨ad, l, c, m, D, Pl, hcs, _, hl, hm, hmm, hx, hi⟩
  · simp [Value.cells] at hcs
    obtain ⟨rfl, rfl, rfl⟩ := hcs
    exact ⟨[], rfl, ⟨Nat.le_refl _, by simp [maxLen], fun c hc => by simp at hc, fun h => by simp at h⟩⟩
  · simp [Value.cells] at hcs
    obtain ⟨rfl, rfl, rfl⟩ := hcs
    simp only [if_true] at hmm
    subst hmm
    have hel : ∀ i, i < len → ∃ c : Ln, (I64 c.1 ∧ I64 c.2.1 ∧ c.2.2 < 4294967296) ∧ W.cell? (ad.add (i * 3)) = some (.int .i64 c.1) ∧ W.cell? (ad.add (i * 3 + 1)) = some (.int .i64 c.2.1) ∧ W.cell? (ad.add (i * 3 + 2)) = some (.int .u32 (c.2.2 : Nat)) := by
      intro i hi'
      obtain ⟨ys, n, hD, -, -, hf⟩ := hi i (by omega)
      obtain ⟨v0, y0, hc0, -, ht0⟩ := hf 0 _ rfl
      obtain ⟨v1, y1, hc1, -, ht1⟩ := hf 1 _ rfl
      obtain ⟨v2, y2, hc2, -, ht2⟩ := hf 2 _ rfl
      obtain ⟨k0, e0, -, w0⟩ := DataW.trod_int Tryd.underlying3 ht0
      obtain ⟨k1, e1, -, w1⟩ := DataW.trod_int Tryd.underlying3 ht1
      obtain ⟨k2, e2, -, w2⟩ := DataW.trod_int Tryd.underlying41 ht2
      simp at e0 e1 e2
      subst e0; subst e1; subst e2
      have b0 := _root_.Go.bounds_i64 w0
      have b1 := _root_.Go.bounds_i64 w1
      have b2 := _root_.Go.bounds_u32 w2
      refine ⟨(k0, k1, k2.toNat), ⟨⟨by simp only; omega, by simp only; omega⟩, ⟨by simp only; omega, by simp only; omega⟩, by simp only; omega⟩, hc0, hc1, ?_⟩
      rw [show ((k2.toNat : Nat) : Int) = k2 by omega]
      exact hc2
    obtain ⟨l, hll, hlp⟩ := listOf len hel
    refine ⟨l, hll, ⟨by omega, hm, fun c hc => ?_, fun h0 => ?_⟩⟩
    · obtain ⟨i, hi'⟩ := List.getElem?_of_mem hc
      exact (hlp i c hi').1
    · obtain ⟨b, off, sp⟩ := ad
      have h00 : l[0]? = some (l[0]'h0) := List.getElem?_eq_getElem h0
      obtain ⟨-, c0, -⟩ := hlp 0 _ h00
      have hsp : sp = none := by
        cases sp with
        | none => rfl
        | some x =>
          exfalso
          simp only [Addr.add, World.cell?] at c0
          split at c0 <;> simp at c0
      subst hsp
      refine ⟨b, off, rfl, ?_, fun i c hc => ?_⟩
      · simp only [Addr.add, World.cell?] at c0
        split at c0
        · rename_i h; exact lt_of_block h
        · simp at c0
      · obtain ⟨-, c0, c1, c2⟩ := hlp i c hc
        simp only [Addr.add_lit] at c0 c1 c2
        exact ⟨c0, by rw [Nat.add_assoc]; exact c1, by rw [Nat.add_assoc]; exact c2⟩
end Go.Proofs.YtfeljngmidhajaaDoor

/- Graph files: the walk of the document's Encode. -/
import Derived.Test.YtfeljngmidhajaaMc
import Derived.Deep.RegionHeld3
import Derived.BigQuiet
import Derived.StillTailTactics
namespace Go.Proofs.Ytfeljngmidhajaa
open Go.RowKit Go.Mine

/-- n slices of bytes v 0, v 1, .. that hold f 0, f 1, ..; the blocks of K are none of theirs -/
def Bufs (w : World) (K : Nat → Prop) (n : Nat) (v : Nat → Value) (f : Nat → List UInt8) : Prop :=
  ∃ own : Nat → Nat, (∀ b, K b → n ≤ own b ∧ b < w.heap.size) ∧ ∀ i, i < n → Sl w (fun b => own b = i ∧ b < w.heap.size) 5 1 (v i) (bcells (f i)) (f i).length

theorem Bufs.step {w : World} {K : Nat → Prop} {n : Nat} {v : Nat → Value} {f : Nat → List UInt8} (h : Bufs w K n v f) (i : Nat) (hi : i < n) :
    ∃ S : Nat → Prop, Sl w S 5 1 (v i) (bcells (f i)) (f i).length ∧ (∀ b, S b → ¬ K b) ∧ ∀ w' v' bs', Sl w' (More S w) 5 1 v' (bcells bs') bs'.length → Turned S w w' → Bufs w' K n (upd v i v') (upd f i bs') ∧ Turned (fun b => ¬ K b) w w' := by
  obtain ⟨own, hK, hw⟩ := h
  have hS : ∀ b, own b = i ∧ b < w.heap.size → ¬ K b := fun b q k => by have := (hK b k).1; omega
  refine ⟨fun b => own b = i ∧ b < w.heap.size, hw i hi, hS, fun w' v' bs' h1 ht => ⟨⟨fun b => if b < w.heap.size then own b else i, fun b k => ?_, fun j hj => ?_⟩, ht.mono fun b _ q => hS b q⟩⟩
  · have hk := hK b k
    have := ht.size
    simp only [if_pos hk.2]
    exact ⟨hk.1, by omega⟩
  · by_cases hji : j = i
    · subst hji
      rw [upd_same, upd_same]
      refine (sl_bound h1).widen fun b ⟨q, hb⟩ => ⟨?_, hb⟩
      by_cases hlt : b < w.heap.size
      · simp only [if_pos hlt]
        rcases q with q | q
        · exact q.1
        · omega
      · simp only [if_neg hlt]
    · rw [upd_other _ _ _ _ hji, upd_other _ _ _ _ hji]
      refine ((hw j hj).turned ht fun b q z => hji (q.1.symm.trans z.1)).widen fun b q => ?_
      have := ht.size
      simp only [if_pos q.2]
      exact ⟨q.1, by omega⟩
theorem Bufs.turned {w w' : World} {K : Nat → Prop} {n : Nat} {v : Nat → Value} {f : Nat → List UInt8} (h : Bufs w K n v f) (ht : Turned (fun b => K b) w w') :
    Bufs w' (fun b => K b ∨ (w.heap.size ≤ b ∧ b < w'.heap.size)) n v f := by
  obtain ⟨own, hK, hw⟩ := h
  refine ⟨fun b => if b < w.heap.size then own b else n, fun b k => ?_, fun j hj => ?_⟩
  · rcases k with k | k
    · have hk := hK b k
      have := ht.size
      simp only [if_pos hk.2]
      exact ⟨hk.1, by omega⟩
    · simp only [if_neg (show ¬ b < w.heap.size by omega)]
      exact ⟨Nat.le_refl _, k.2⟩
  · refine ((hw j hj).turned ht fun b q z => by have := (hK b z).1; omega).widen fun b q => ?_
    have := ht.size
    simp only [if_pos q.2]
    exact ⟨q.1, by omega⟩
theorem Bufs.mono {w : World} {K K' : Nat → Prop} {n : Nat} {v : Nat → Value} {f : Nat → List UInt8} (h : Bufs w K n v f) (hK : ∀ b, K' b → K b) : Bufs w K' n v f := by
  obtain ⟨own, h1, h2⟩ := h
  exact ⟨own, fun b q => h1 b (hK b q), h2⟩
/-- behind a call that only makes new memory -/
theorem Bufs.later {w w' : World} {K : Nat → Prop} {n : Nat} {v : Nat → Value} {f : Nat → List UInt8} (h : Bufs w K n v f) (ht : Turned (fun _ => False) w w') : Bufs w' K n v f :=
  (h.turned (ht.mono fun _ _ q => q.elim)).mono fun _ q => .inl q
theorem Bufs.nil (w : World) (K : Nat → Prop) (hK : ∀ b, K b → b < w.heap.size) : Bufs w K 4 (fun _ => .slice none 0 0) (fun _ => []) :=
  ⟨fun _ => 4, fun b q => ⟨Nat.le_refl _, hK b q⟩, fun _i _ => Sl.nil _ _ _ _⟩
theorem Bufs.congr {w : World} {K : Nat → Prop} {n : Nat} {v v' : Nat → Value} {f f' : Nat → List UInt8} (h : Bufs w K n v f) (hv : ∀ i, i < n → v' i = v i) (hf : ∀ i, i < n → f' i = f i) : Bufs w K n v' f' := by
  obtain ⟨own, h1, h2⟩ := h
  exact ⟨own, h1, fun i hi => by rw [hv i hi, hf i hi]; exact h2 i hi⟩

def quad {α : Type} (a b c d : α) : Nat → α
  | 0 => a
  | 1 => b
  | 2 => c
  | _ + 3 => d
section
variable {α : Type} (a b c d x : α)
theorem quad0 : upd (quad a b c d) 0 x = quad x b c d := by funext i; rcases i with _ | _ | _ | i <;> simp [upd, quad]
theorem quad1 : upd (quad a b c d) 1 x = quad a x c d := by funext i; rcases i with _ | _ | _ | i <;> simp [upd, quad]
theorem quad2 : upd (quad a b c d) 2 x = quad a b x d := by funext i; rcases i with _ | _ | _ | i <;> simp [upd, quad]
theorem quad3 (i : Nat) (hi : i < 4) : upd (quad a b c d) 3 x i = quad a b c x i := by rcases i with _ | _ | _ | _ | i <;> first | (exfalso; omega) | simp [upd, quad]
end

section
variable {w : World} {K : Nat → Prop} {va vb vc vd : Value} {R E N B : List UInt8} {ops : Array Oper} {rest : List Oper} {o : Oper} {a : Act} {Q : Exit → Act → World → Prop}
theorem Bufs.lens (h : Bufs w K 4 (quad va vb vc vd) (quad R E N B)) : (∃ p c, va = .slice p R.length c) ∧ (∃ p c, vb = .slice p E.length c) ∧ (∃ p c, vc = .slice p N.length c) ∧ ∃ p c, vd = .slice p B.length c := by
  obtain ⟨own, -, h⟩ := h
  have q : ∀ i, i < 4 → ∃ p c, (quad va vb vc vd) i = .slice p ((quad R E N B) i).length c := fun i hi => by
    obtain ⟨p, c, e, -, -⟩ := (h i hi).value
    exact ⟨p, c, e⟩
  exact ⟨q 0 (by decide), q 1 (by decide), q 2 (by decide), q 3 (by decide)⟩
theorem Bufs.back (h : Bufs w K 4 (quad va vb vc vd) (quad R E N B)) (W : World) (ht : Turned (fun _ => False) w W) :
    (convert 51 9 va).run Try.prog W = .ok (.string ⟨R.toArray⟩) W ∧ (convert 51 9 vb).run Try.prog W = .ok (.string ⟨E.toArray⟩) W ∧ (convert 51 9 vc).run Try.prog W = .ok (.string ⟨N.toArray⟩) W ∧ (convert 51 9 vd).run Try.prog W = .ok (.string ⟨B.toArray⟩) W := by
  obtain ⟨own, -, h⟩ := h.later ht
  exact ⟨sl_back (h 0 (by decide)), sl_back (h 1 (by decide)), sl_back (h 2 (by decide)), sl_back (h 3 (by decide))⟩

theorem wpList_app (hgd : o.guard = none) (so xo : Operand) (tx : TypeId) {n : Nat} {v : Nat → Value} {f : Nat → List UInt8}
    (ho : o.op = .call { callee := .builtin .append, args := #[so, xo], argTypes := #[51, tx] }) (h : Bufs w K n v f) (i : Nat) (hi : i < n)
    (hs : a.eval so = v i) (x : Value) (hx : a.eval xo = x) (bs : List UInt8) (hsrc : Src Try.prog 1 tx x bs.length (bcells bs) w) (hL : (f i).length + bs.length ≤ 1099511627776)
    (hK : ∀ v' w', Bufs w' K n (upd v i v') (upd f i (f i ++ bs)) → Turned (fun b => ¬ K b) w w' → wpList Try.prog ops Q rest (a.put o.dst v') w') : wpList Try.prog ops Q (o :: rest) a w := by
  obtain ⟨S, h1, h2, h3⟩ := h.step i hi
  refine wpList_append hgd so xo 51 tx ho h1 Try.underlying51 info5 rfl (by decide) hs x hx hsrc (by simp only [maxLen]; omega) (by omega) fun v' w' hsl ht => ?_
  rw [← bcells_append, ← List.length_append] at hsl
  obtain ⟨k1, k2⟩ := h3 w' v' _ hsl ht
  exact hK v' w' k1 k2
theorem wpList_app0 (hgd : o.guard = none) (so xo : Operand) (tx : TypeId) (ho : o.op = .call { callee := .builtin .append, args := #[so, xo], argTypes := #[51, tx] }) (h : Bufs w K 4 (quad va vb vc vd) (quad R E N B))
    (hs : a.eval so = va) (x : Value) (hx : a.eval xo = x) (bs : List UInt8) (hsrc : Src Try.prog 1 tx x bs.length (bcells bs) w) (hL : R.length + bs.length ≤ 1099511627776)
    (hK : ∀ v' w', Bufs w' K 4 (quad v' vb vc vd) (quad (R ++ bs) E N B) → Turned (fun b => ¬ K b) w w' → wpList Try.prog ops Q rest (a.put o.dst v') w') : wpList Try.prog ops Q (o :: rest) a w :=
  wpList_app hgd so xo tx ho h 0 (by decide) hs x hx bs hsrc hL fun v' w' h1 => by rw [quad0, quad0] at h1; exact hK v' w' h1
theorem wpList_app1 (hgd : o.guard = none) (so xo : Operand) (tx : TypeId) (ho : o.op = .call { callee := .builtin .append, args := #[so, xo], argTypes := #[51, tx] }) (h : Bufs w K 4 (quad va vb vc vd) (quad R E N B))
    (hs : a.eval so = vb) (x : Value) (hx : a.eval xo = x) (bs : List UInt8) (hsrc : Src Try.prog 1 tx x bs.length (bcells bs) w) (hL : E.length + bs.length ≤ 1099511627776)
    (hK : ∀ v' w', Bufs w' K 4 (quad va v' vc vd) (quad R (E ++ bs) N B) → Turned (fun b => ¬ K b) w w' → wpList Try.prog ops Q rest (a.put o.dst v') w') : wpList Try.prog ops Q (o :: rest) a w :=
  wpList_app hgd so xo tx ho h 1 (by decide) hs x hx bs hsrc hL fun v' w' h1 => by rw [quad1, quad1] at h1; exact hK v' w' h1
theorem wpList_app2 (hgd : o.guard = none) (so xo : Operand) (tx : TypeId) (ho : o.op = .call { callee := .builtin .append, args := #[so, xo], argTypes := #[51, tx] }) (h : Bufs w K 4 (quad va vb vc vd) (quad R E N B))
    (hs : a.eval so = vc) (x : Value) (hx : a.eval xo = x) (bs : List UInt8) (hsrc : Src Try.prog 1 tx x bs.length (bcells bs) w) (hL : N.length + bs.length ≤ 1099511627776)
    (hK : ∀ v' w', Bufs w' K 4 (quad va vb v' vd) (quad R E (N ++ bs) B) → Turned (fun b => ¬ K b) w w' → wpList Try.prog ops Q rest (a.put o.dst v') w') : wpList Try.prog ops Q (o :: rest) a w :=
  wpList_app hgd so xo tx ho h 2 (by decide) hs x hx bs hsrc hL fun v' w' h1 => by rw [quad2, quad2] at h1; exact hK v' w' h1
theorem wpList_app3 (hgd : o.guard = none) (so xo : Operand) (tx : TypeId) (ho : o.op = .call { callee := .builtin .append, args := #[so, xo], argTypes := #[51, tx] }) (h : Bufs w K 4 (quad va vb vc vd) (quad R E N B))
    (hs : a.eval so = vd) (x : Value) (hx : a.eval xo = x) (bs : List UInt8) (hsrc : Src Try.prog 1 tx x bs.length (bcells bs) w) (hL : B.length + bs.length ≤ 1099511627776)
    (hK : ∀ v' w', Bufs w' K 4 (quad va vb vc v') (quad R E N (B ++ bs)) → Turned (fun b => ¬ K b) w w' → wpList Try.prog ops Q rest (a.put o.dst v') w') : wpList Try.prog ops Q (o :: rest) a w :=
  wpList_app hgd so xo tx ho h 3 (by decide) hs x hx bs hsrc hL fun v' w' h1 => hK v' w' (h1.congr (fun i hi => (quad3 _ _ _ _ _ i hi).symm) fun i hi => (quad3 _ _ _ _ _ i hi).symm)
end

theorem src_str (w : World) (s : ByteArray) : Src Try.prog 1 9 (.string s) s.data.toList.length (bcells s.data.toList) w := by
  have := Src.ofString (P := Try.prog) w Try.underlying9 s
  rw [byteCells_eq, ← ba_len] at this
  exact this
theorem src_num (w : World) (v n : Nat) : Src Try.prog 1 9 (.string ⟨(num v n).toArray⟩) (num v n).length (bcells (num v n)) w := src_str w ⟨(num v n).toArray⟩
theorem num_one (v : Nat) (_hv : v < 256) : num v 1 = [UInt8.ofNat v] := by simp [num]
theorem src_byte (w : World) (v : Nat) (hv : v < 256) : Src Try.prog 1 51 (.slice (some ⟨w.heap.size, 0, none⟩) 1 1) (num v 1).length (bcells (num v 1)) (w.alloc (.cells #[.int .u8 (v : Nat)] 5)) := by
  have h := src_one (P := Try.prog) (te := 5) Try.underlying51 (.int .u8 (v : Nat)) rfl w
  have e : bcells (num v 1) = [.int .u8 (v : Nat)] := by
    rw [num_one v hv]
    simp only [bcells, List.map_cons, List.map_nil, List.cons.injEq, and_true]
    congr 1
    simp [UInt8.toNat_ofNat']
    omega
  rw [e, num_length]
  exact h

set_option maxRecDepth 100000 in
theorem four_any (k : Nat) (w : World) (hk : k < 4294967296) : Calls Try.prog 54 #[.int .i64 (k : Nat)] w fun e w' => e = .returned (.string ⟨(num k 4).toArray⟩) ∧ Turned (fun _ => False) w w' := by
  have hn : Calls Try.prog 50 #[.int .u64 (k : Nat), .int .i64 4] w fun e w' => e = .returned (.string ⟨(num k 4).toArray⟩) ∧ Turned (fun _ => False) w w' := number_any k 4 w (by omega) (by decide)
  have hm : ((k : Nat) : Int) % 18446744073709551616 = (k : Int) := by omega
  generalize (⟨(num k 4).toArray⟩ : ByteArray) = q at *
  clear hk
  go_enter Try.func54, Try.ntmps54
  go_wp2_with (go_at_call 50; (with_reducible refine hn.mono ?_); rintro e w2 ⟨rfl, ht⟩)
  go_ret
  exact ⟨rfl, ht⟩
end Go.Proofs.Ytfeljngmidhajaa

namespace Go.Proofs.Ytfeljngmidhajaa
open Go.RowKit Go.Mine

def RnRel (rows : List Rw) (K : Nat → Prop) (w : World) (g : Nat) (va vb vc vd i : Value) (wr : World) : Prop :=
  ∃ j : Nat, j + g = rows.length ∧ i = .int .i64 j ∧ Bufs wr K 4 (quad va vb vc vd) (quad (tellT (rows.take j)).R (tellT (rows.take j)).E (tellT (rows.take j)).N (tellT (rows.take j)).B) ∧ (tellT (rows.take j)).B.length ≤ 4194304 ∧ Turned (fun b => ¬ K b) w wr
/-- the list's bytes ahead of place i -/
def epB (r : Rw) (i : Nat) : List UInt8 := if i = r.par.length then edgeB r else midB ((r.par.drop 1).take (i - 1))
theorem epB_next (r : Rw) (i y : Nat) (h1 : 1 ≤ i) (hL : 2 < r.par.length) (hy : r.par[i]? = some (y : Int)) : epB r (i + 1) = epB r i ++ num (if i + 1 = r.par.length then y + 2147483648 else y) 4 := by
  have hi := (List.getElem?_eq_some_iff.1 hy).1
  unfold epB
  rw [if_neg (show ¬ i = r.par.length by omega)]
  by_cases h : i + 1 = r.par.length
  · rw [if_pos h, if_pos h]
    unfold edgeB
    rw [if_pos hL, show r.par.length - 1 = i by omega, hy, show r.par.length - 2 = i - 1 by omega]
    simp
  · rw [if_neg h, if_neg h, show i + 1 - 1 = i - 1 + 1 by omega, midB_snoc _ (i - 1) (y : Int) (by rw [List.getElem?_drop, show 1 + (i - 1) = i by omega]; exact hy)]
    simp
def IeRel (r : Rw) (K : Nat → Prop) (w : World) (va vc vd : Value) (R E N B : List UInt8) (g : Nat) (vb i : Value) (wr : World) : Prop :=
  ∃ k : Nat, 1 ≤ k ∧ k + g = r.par.length ∧ i = .int .i64 k ∧ Bufs wr K 4 (quad va vb vc vd) (quad R (E ++ epB r k) N B) ∧ Turned (fun b => ¬ K b) w wr

set_option maxRecDepth 100000 in
set_option maxHeartbeats 4000000 in
theorem rencode_any (S0 : Nat → Prop) (a : Option Addr) (cap : Nat) (g : Gr) (w : World) (h0 : RwIs w S0 a cap g.rows) (hok : GrOk g) :
    Calls Try.prog 25 #[grv a cap g] w fun e w' => e = .returned (encG g) ∧ Turned (fun _ => False) w w' := by
  have h := h0.bound
  obtain ⟨L, hL⟩ : ∃ L, L = g.rows.length := ⟨_, rfl⟩
  have HL : Hid (L = g.rows.length) := hL
  have hck : Calls Try.prog 27 #[.agg #[.int .i64 g.base, .int .i64 g.h, .int .i64 g.p, .int .i64 g.m, .int .u32 (g.seed : Nat), .slice a L cap]] (w.alloc (.cells #[.int .i64 g.base, .int .i64 g.h, .int .i64 g.p, .int .i64 g.m, .int .u32 (g.seed : Nat), .slice a L cap] 40)) fun e w' => e = .returned (.int .i64 (grErr g : Nat)) ∧ Turned (fun _ => False) (w.alloc (.cells #[.int .i64 g.base, .int .i64 g.h, .int .i64 g.p, .int .i64 g.m, .int .u32 (g.seed : Nat), .slice a L cap] 40)) w' := by
    rw [hL]
    exact rcheck_any S0 a cap g _ (h0.turned (Turned.alloc (fun _ => False) w _) fun _ _ q => q)
  unfold grv
  rw [← hL]
  by_cases hg : goodG g
  · rw [grErr_yes hg] at hck
    have hgg := hg
    obtain ⟨⟨n1, n2, n3⟩, ⟨s1, s2, s3, s4, s5, s6⟩, hrows⟩ := hgg
    rw [← hL] at n3
    obtain ⟨bn, hbn⟩ : ∃ k : Nat, g.base = (k : Int) := ⟨g.base.toNat, by omega⟩
    obtain ⟨hn, hhn⟩ : ∃ k : Nat, g.h = (k : Int) := ⟨g.h.toNat, by omega⟩
    obtain ⟨pn, hpn⟩ : ∃ k : Nat, g.p = (k : Int) := ⟨g.p.toNat, by omega⟩
    obtain ⟨mn, hmn⟩ : ∃ k : Nat, g.m = (k : Int) := ⟨g.m.toNat, by omega⟩
    obtain ⟨sn, hsn⟩ : ∃ k, k = g.seed := ⟨_, rfl⟩
    have hseed : sn < 4294967296 := by rw [hsn]; exact hok.2.2.2.2
    have HH : Hid (headB g = num bn 4 ++ num L 4 ++ num hn 1 ++ num pn 1 ++ num mn 2 ++ num sn 4) := by
      have q : headB g = num bn 4 ++ num L 4 ++ num hn 1 ++ num pn 1 ++ num mn 2 ++ num sn 4 := by unfold headB; rw [hbn, hhn, hpn, hmn, ← hL, ← hsn]; simp
      exact q
    have LONG : Hid (4194304 < (tellT g.rows).B.length → encG g = .tuple #[.string ⟨#[]⟩, .int .i64 5]) := by
      have q : 4194304 < (tellT g.rows).B.length → encG g = .tuple #[.string ⟨#[]⟩, .int .i64 5] := fun q => by unfold encG; rw [if_pos (grErr_yes hg), if_pos q]
      exact q
    have WELL : Hid (¬ 4194304 < (tellT g.rows).B.length → encG g = buildV (chunksG g)) := by
      have q : ¬ 4194304 < (tellT g.rows).B.length → encG g = buildV (chunksG g) := fun q => by unfold encG; rw [if_pos (grErr_yes hg), if_neg q]
      exact q
    have CHK : Hid (chunksG g = [(1, ⟨(headB g).toArray⟩), (2, ⟨(tellT g.rows).R.toArray⟩), (3, ⟨(tellT g.rows).E.toArray⟩), (4, ⟨(tellT g.rows).N.toArray⟩), (5, ⟨(tellT g.rows).B.toArray⟩)]) := rfl
    have GR : Hid (∀ (i : Nat) (r : Rw), g.rows[i]? = some r → goodR r ((bn : Int) + i) ∧ ((bn : Int) + i) ≤ 131072) := by
      have q : ∀ (i : Nat) (r : Rw), g.rows[i]? = some r → goodR r ((bn : Int) + i) ∧ ((bn : Int) + i) ≤ 131072 := fun i r hr => by
        rw [← hbn]
        refine ⟨hrows i r hr, ?_⟩
        have := (List.getElem?_eq_some_iff.1 hr).1
        omega
      exact q
    rw [hbn, hhn, hpn, hmn, ← hsn] at hck ⊢
    have m1 : ((bn : Nat) : Int) % 4294967296 = (bn : Int) := by omega
    have m2 : ((L : Nat) : Int) % 4294967296 = (L : Int) := by omega
    have m3 : ((hn : Nat) : Int) % 256 = (hn : Int) := by omega
    have m4 : ((pn : Nat) : Int) % 256 = (pn : Int) := by omega
    have m5 : ((mn : Nat) : Int) % 65536 = (mn : Int) := by omega
    have NB : Hid (bn ≤ 65536 ∧ L ≤ 65536 ∧ hn ≤ 16 ∧ pn ≤ 64 ∧ mn ≤ 512 ∧ sn < 4294967296) := (by omega : bn ≤ 65536 ∧ L ≤ 65536 ∧ hn ≤ 16 ∧ pn ≤ 64 ∧ mn ≤ 512 ∧ sn < 4294967296)
    have HI : Hid (RwIs w (fun b => b < w.heap.size) a cap g.rows) := h
    generalize encG g = EV at *
    generalize headB g = HB at *
    generalize chunksG g = CG at *
    generalize g.rows = rows at *
    clear hbn hhn hpn hmn hsn hL h h0 hok hg n1 n2 n3 s1 s2 s3 s4 s5 s6 hrows hseed
    have nb := NB.out
    have u3 : ((hn : Nat) : Int) % 18446744073709551616 = (hn : Int) := by omega
    have u4 : ((pn : Nat) : Int) % 18446744073709551616 = (pn : Int) := by omega
    have u5 : ((mn : Nat) : Int) % 18446744073709551616 = (mn : Int) := by omega
    have u6 : ((sn : Nat) : Int) % 18446744073709551616 = (sn : Int) := by omega
    have p3 : IntKind.u64.wrap (hn : Int) = (hn : Int) := by simp [IntKind.wrap, IntKind.bits, IntKind.signed]; omega
    have p4 : IntKind.u64.wrap (pn : Int) = (pn : Int) := by simp [IntKind.wrap, IntKind.bits, IntKind.signed]; omega
    have p5 : IntKind.u64.wrap (mn : Int) = (mn : Int) := by simp [IntKind.wrap, IntKind.bits, IntKind.signed]; omega
    have p6 : IntKind.u64.wrap (sn : Int) = (sn : Int) := by simp [IntKind.wrap, IntKind.bits, IntKind.signed]; omega
    have f1 : ∀ W, Calls Try.prog 54 #[.int .i64 (bn : Nat)] W fun e w' => e = .returned (.string ⟨(num bn 4).toArray⟩) ∧ Turned (fun _ => False) W w' := fun W => four_any bn W (by omega)
    have f2 : ∀ W, Calls Try.prog 54 #[.int .i64 (L : Nat)] W fun e w' => e = .returned (.string ⟨(num L 4).toArray⟩) ∧ Turned (fun _ => False) W w' := fun W => four_any L W (by have := NB.out; omega)
    have f3 : ∀ W, Calls Try.prog 50 #[.int .u64 (IntKind.u64.wrap (hn : Nat)), .int .i64 1] W fun e w' => e = .returned (.string ⟨(num hn 1).toArray⟩) ∧ Turned (fun _ => False) W w' := fun W => by rw [p3]; exact number_any hn 1 W (by have := NB.out; omega) (by decide)
    have f4 : ∀ W, Calls Try.prog 50 #[.int .u64 (IntKind.u64.wrap (pn : Nat)), .int .i64 1] W fun e w' => e = .returned (.string ⟨(num pn 1).toArray⟩) ∧ Turned (fun _ => False) W w' := fun W => by rw [p4]; exact number_any pn 1 W (by have := NB.out; omega) (by decide)
    have f5 : ∀ W, Calls Try.prog 50 #[.int .u64 (IntKind.u64.wrap (mn : Nat)), .int .i64 2] W fun e w' => e = .returned (.string ⟨(num mn 2).toArray⟩) ∧ Turned (fun _ => False) W w' := fun W => by rw [p5]; exact number_any mn 2 W (by have := NB.out; omega) (by decide)
    have f6 : ∀ W, Calls Try.prog 50 #[.int .u64 (IntKind.u64.wrap (sn : Nat)), .int .i64 4] W fun e w' => e = .returned (.string ⟨(num sn 4).toArray⟩) ∧ Turned (fun _ => False) W w' := fun W => by rw [p6]; exact number_any sn 4 W (by have := NB.out; omega) (by decide)
    have a1 := add_ba (num bn 4) (num L 4) (by simp [num_length])
    have a2 := add_ba (num bn 4 ++ num L 4) (num hn 1) (by simp [num_length])
    have a3 := add_ba (num bn 4 ++ num L 4 ++ num hn 1) (num pn 1) (by simp [num_length])
    have a4 := add_ba (num bn 4 ++ num L 4 ++ num hn 1 ++ num pn 1) (num mn 2) (by simp [num_length])
    have a5 := add_ba (num bn 4 ++ num L 4 ++ num hn 1 ++ num pn 1 ++ num mn 2) (num sn 4) (by simp [num_length])
    rw [← HH.out] at a5
    generalize (⟨(num bn 4 ++ num L 4 ++ num hn 1 ++ num pn 1 ++ num mn 2).toArray⟩ : ByteArray) = t4 at *
    generalize (⟨(num bn 4 ++ num L 4 ++ num hn 1 ++ num pn 1).toArray⟩ : ByteArray) = t3 at *
    generalize (⟨(num bn 4 ++ num L 4 ++ num hn 1).toArray⟩ : ByteArray) = t2 at *
    generalize (⟨(num bn 4 ++ num L 4).toArray⟩ : ByteArray) = t1 at *
    generalize (⟨(num bn 4).toArray⟩ : ByteArray) = n1 at *
    generalize (⟨(num L 4).toArray⟩ : ByteArray) = n2 at *
    generalize (⟨(num hn 1).toArray⟩ : ByteArray) = n3 at *
    generalize (⟨(num pn 1).toArray⟩ : ByteArray) = n4 at *
    generalize (⟨(num mn 2).toArray⟩ : ByteArray) = n5 at *
    generalize (⟨(num sn 4).toArray⟩ : ByteArray) = n6 at *
    obtain ⟨hb, hhb⟩ : ∃ hb : ByteArray, hb = ⟨HB.toArray⟩ := ⟨_, rfl⟩
    have HHB : Hid (hb = ⟨HB.toArray⟩) := hhb
    rw [← hhb] at a5
    clear nb hhb u3 u4 u5 u6 p3 p4 p5 p6 m1 m2 m3 m4 m5
    go_enter Try.func25, Try.ntmps25
    go_wp2_with (go_at_call 27; (with_reducible refine hck.mono ?_); rintro e w1 ⟨rfl, ht1⟩; have W1 : Hid (w1.heap[w.heap.size]? = some (.cells #[.int .i64 (bn : Nat), .int .i64 (hn : Nat), .int .i64 (pn : Nat), .int .i64 (mn : Nat), .int .u32 (sn : Nat), .slice a L cap] 40 (0, 0)) ∧ Turned (fun _ => False) w w1) := ⟨(ht1.block _ (by simp) fun q => q).trans (heap_alloc_last w _), (Turned.alloc _ _ _).trans ht1 fun _ _ q => q⟩; have x1 := cell_of W1.out.1 1 _ rfl; have x2 := cell_of W1.out.1 2 _ rfl; have x3 := cell_of W1.out.1 3 _ rfl; have x4 := cell_of W1.out.1 4 _ rfl; have xl := lt_of_block W1.out.1; clear ht1)
    have W2 : Hid ((w1.alloc (.cells #[.int .i64 (hn : Nat), .int .i64 (pn : Nat), .int .i64 (mn : Nat), .int .u32 (sn : Nat)] 37)).heap[w.heap.size]? = some (.cells #[.int .i64 (bn : Nat), .int .i64 (hn : Nat), .int .i64 (pn : Nat), .int .i64 (mn : Nat), .int .u32 (sn : Nat), .slice a L cap] 40 (0, 0)) ∧ (w1.alloc (.cells #[.int .i64 (hn : Nat), .int .i64 (pn : Nat), .int .i64 (mn : Nat), .int .u32 (sn : Nat)] 37)).heap[w1.heap.size]? = some (.cells #[.int .i64 (hn : Nat), .int .i64 (pn : Nat), .int .i64 (mn : Nat), .int .u32 (sn : Nat)] 37 (0, 0)) ∧ Turned (fun _ => False) w (w1.alloc (.cells #[.int .i64 (hn : Nat), .int .i64 (pn : Nat), .int .i64 (mn : Nat), .int .u32 (sn : Nat)] 37))) := ⟨Go.Mine.heap_alloc_old W1.out.1, heap_alloc_last w1 _, W1.out.2.new _⟩
    generalize hw2 : w1.alloc (.cells #[.int .i64 (hn : Nat), .int .i64 (pn : Nat), .int .i64 (mn : Nat), .int .u32 (sn : Nat)] 37) = w2 at *
    clear hw2 x1 x2 x3 x4 xl
    generalize w1.heap.size = b1 at *
    have KS : Hid (∀ W, Turned (fun _ => False) w2 W → Turned (fun _ => False) w2 W ∧ W.cell? ⟨w.heap.size, 0, none⟩ = some (.int .i64 (bn : Nat)) ∧ W.cell? ⟨w.heap.size, 5, none⟩ = some (.slice a L cap) ∧ W.cell? ⟨b1, 0, none⟩ = some (.int .i64 (hn : Nat)) ∧ W.cell? ⟨b1, 1, none⟩ = some (.int .i64 (pn : Nat)) ∧ W.cell? ⟨b1, 2, none⟩ = some (.int .i64 (mn : Nat)) ∧ W.cell? ⟨b1, 3, none⟩ = some (.int .u32 (sn : Nat))) := fun W t => by
      have h1 := (t.block _ (lt_of_block W2.out.1) fun q => q).trans W2.out.1
      have h2 := (t.block _ (lt_of_block W2.out.2.1) fun q => q).trans W2.out.2.1
      exact ⟨t, cell_of h1 0 _ rfl, cell_of h1 5 _ rfl, cell_of h2 0 _ rfl, cell_of h2 1 _ rfl, cell_of h2 2 _ rfl, cell_of h2 3 _ rfl⟩
    obtain ⟨_, y1, y2, y3, y4, y5, y6⟩ := KS.out w2 (Turned.refl _ _)
    clear hck
    go_region_held3 (fun W => Turned (fun _ => False) w2 W ∧ W.cell? ⟨w.heap.size, 0, none⟩ = some (.int .i64 (bn : Nat)) ∧ W.cell? ⟨w.heap.size, 5, none⟩ = some (.slice a L cap) ∧ W.cell? ⟨b1, 0, none⟩ = some (.int .i64 (hn : Nat)) ∧ W.cell? ⟨b1, 1, none⟩ = some (.int .i64 (pn : Nat)) ∧ W.cell? ⟨b1, 2, none⟩ = some (.int .i64 (mn : Nat)) ∧ W.cell? ⟨b1, 3, none⟩ = some (.int .u32 (sn : Nat)))
      (first | (exact KS.out _ (Turned.drew _ _)) | (exact KS.out _ (by assumption)) | go_keep)
      (first
        | (go_at_call 54; (with_reducible refine (f1 _).mono ?_); rintro e v1 ⟨rfl, hv⟩; have V1 : Turned (fun _ => False) w2 v1 := Turned.trans (by first | assumption | exact Turned.drew _ _) hv (fun _ _ q => q))
        | (go_at_call 54; (with_reducible refine (f2 _).mono ?_); rintro e v2 ⟨rfl, hv⟩; have V2 : Turned (fun _ => False) w2 v2 := Turned.trans (by first | assumption | exact Turned.drew _ _) hv (fun _ _ q => q))
        | (go_at_call 50; (with_reducible refine (f3 _).mono ?_); rintro e v3 ⟨rfl, hv⟩; have V3 : Turned (fun _ => False) w2 v3 := Turned.trans (by first | assumption | exact Turned.drew _ _) hv (fun _ _ q => q))
        | (go_at_call 50; (with_reducible refine (f4 _).mono ?_); rintro e v4 ⟨rfl, hv⟩; have V4 : Turned (fun _ => False) w2 v4 := Turned.trans (by first | assumption | exact Turned.drew _ _) hv (fun _ _ q => q))
        | (go_at_call 50; (with_reducible refine (f5 _).mono ?_); rintro e v5 ⟨rfl, hv⟩; have V5 : Turned (fun _ => False) w2 v5 := Turned.trans (by first | assumption | exact Turned.drew _ _) hv (fun _ _ q => q))
        | (go_at_call 50; (with_reducible refine (f6 _).mono ?_); rintro e v6 ⟨rfl, hv⟩; have V6 : Turned (fun _ => False) w2 v6 := Turned.trans (by first | assumption | exact Turned.drew _ _) hv (fun _ _ q => q)))
    go_wp2
    have HS : Hid (RnRel rows (fun b => b < v6.heap.size) v6 L (.slice none 0 0) (.slice none 0 0) (.slice none 0 0) (.slice none 0 0) (.int .i64 0) v6) := ⟨0, by rw [HL.out, Nat.zero_add], rfl, (Bufs.nil v6 _ fun _ q => q).congr (fun i hi => by rcases i with _ | _ | _ | i <;> rfl) (fun i hi => by rcases i with _ | _ | _ | i <;> rfl), by simp [tellT], Turned.refl _ _⟩
    have V6W : Hid (Turned (fun _ => False) w v6 ∧ v6.heap[w.heap.size]? = some (.cells #[.int .i64 (bn : Nat), .int .i64 (hn : Nat), .int .i64 (pn : Nat), .int .i64 (mn : Nat), .int .u32 (sn : Nat), .slice a L cap] 40 (0, 0))) := ⟨W2.out.2.2.trans V6 fun _ _ q => q, (V6.block _ (lt_of_block W2.out.1) fun q => q).trans W2.out.1⟩
    have BX : Hid (∀ W, Turned (fun b => ¬ b < v6.heap.size) v6 W → W.cell? ⟨w.heap.size, 5, none⟩ = some (.slice a L cap) ∧ w.heap.size < W.heap.size) := fun W t => by
      have h1 := (t.block _ (lt_of_block V6W.out.2) fun q => q (lt_of_block V6W.out.2)).trans V6W.out.2
      exact ⟨cell_of h1 5 _ rfl, lt_of_block h1⟩
    clear y1 y2 y3 y4 y5 y6 f1 f2 f3 f4 f5 f6 a1 a2 a3 a4 a5 KS
    go_loopg [6, 7, 8, 9, 10] L (fun g va vb vc vd i wr => RnRel rows (fun b => b < v6.heap.size) v6 g va vb vc vd i wr)
    case atStart => exact HS.out
    case round =>
      obtain ⟨j, hjg, rfl, hws, hbl, htr⟩ := hrel
      have G : Hid (j + gk = rows.length) := hjg
      have T : Hid (Turned (fun b => ¬ b < v6.heap.size) v6 wr) := htr
      have BL : Hid ((tellT (rows.take j)).B.length ≤ 4194304) := hbl
      have WS : Hid (Bufs wr (fun b => b < v6.heap.size) 4 (quad u6 u7 u8 u9) (quad (tellT (rows.take j)).R (tellT (rows.take j)).E (tellT (rows.take j)).N (tellT (rows.take j)).B)) := hws
      have hLm : j + gk ≤ 65536 := by have := NB.out; have := HL.out; omega
      obtain ⟨hbc, hbl2⟩ := BX.out wr T.out
      have hsz := htr.size
      clear hjg hws htr hbl HS
      by_cases hlt : j < L
      · obtain ⟨r, hr⟩ : ∃ r, rows[j]? = some r := ⟨_, List.getElem?_eq_getElem (by rw [← HL.out]; exact hlt)⟩
        obtain ⟨hgr, hgn⟩ := GR.out j r hr
        have hrows16 : ∀ x ∈ rows.take j, x.par.length ≤ 16 := fun x hx => by
          obtain ⟨i, hi⟩ := List.getElem?_of_mem (List.mem_of_mem_take hx)
          exact (GR.out i x hi).1.1
        have hE := tellT_E (rows.take j) hrows16
        have hR := tellT_R (rows.take j)
        have hN := tellT_N (rows.take j)
        have htk : (rows.take j).length ≤ 65536 := by have := NB.out; have := HL.out; simp only [List.length_take]; omega
        have hst := tellT_take rows j r hr
        have hmono := tellT_B_mono rows (j + 1)
        have hbits : r.bits.size ≤ 4096 := (goodF_state hgr.2.2.2.2.2.2).2.2
        obtain ⟨s0, s2, -⟩ := goodF_state hgr.2.2.2.2.2.2
        obtain ⟨tn, htn⟩ : ∃ k : Nat, r.tree = (k : Int) := ⟨r.tree.toNat, by have := hgr.2.1; omega⟩
        obtain ⟨gn, hgn2⟩ : ∃ k : Nat, r.gen = (k : Int) := ⟨r.gen.toNat, by have := hgr.2.2.2.1; omega⟩
        obtain ⟨rs, hrs⟩ : ∃ k : Nat, r.state = (k : Int) := ⟨r.state.toNat, by omega⟩
        have RB : Hid (tn < 65536 ∧ gn ≤ 1023 ∧ rs ≤ 2) := (by have := hgr.2.2.1; have := hgr.2.2.2.2.1; omega : tn < 65536 ∧ gn ≤ 1023 ∧ rs ≤ 2)
        have HRB : Hid (∀ e, rowB r e = num tn 4 ++ num (firstN r) 4 ++ num (secondN r e) 4 ++ num gn 2 ++ num rs 1) := by
          have q : ∀ e, rowB r e = num tn 4 ++ num (firstN r) 4 ++ num (secondN r e) 4 ++ num gn 2 ++ num rs 1 := fun e => by unfold rowB; rw [htn, hgn2, hrs]; simp
          exact q
        have hpb := goodP_bound hgr.2.2.2.2.2.1
        have HP : Hid (∀ x ∈ r.par, 0 ≤ x ∧ x < 131072) := by
          have q : ∀ x ∈ r.par, 0 ≤ x ∧ x < 131072 := fun x hx => by have := hpb x hx; omega
          exact q
        have HPL : Hid (r.par.length ≤ 16) := hgr.1
        obtain ⟨b, off, rfl, hS, hbw, ra, rcap, hints, c0, c1, c2, c3, c4⟩ := rows_at ((HI.out.turned V6W.out.1 fun _ _ q => q).turned T.out fun b q z => z (Nat.lt_of_lt_of_le q V6W.out.1.size)) j r hr
        have SZ : Hid ((tellT (rows.take j)).N.length ≤ 262144 ∧ r.bits.size ≤ 4096 ∧ (tellT (rows.take j)).R.length ≤ 1048576 ∧ (tellT (rows.take j)).E.length ≤ 4194304 ∧ (tellT (rows.take j)).B.length ≤ 4194304) := ⟨by omega, hbits, by omega, by omega, BL.out⟩
        rw [htn] at c1
        rw [hgn2] at c2
        rw [hrs] at c3
        obtain ⟨LL, hLL⟩ : ∃ LL, LL = r.par.length := ⟨_, rfl⟩
        have HLL : Hid (LL = r.par.length) := hLL
        rw [← hLL] at c0
        generalize hu0 : wr.alloc (.cells #[.slice ra LL rcap, .int .i64 (tn : Nat), .int .i64 (gn : Nat), .int .i64 (rs : Nat), .string r.bits] 61) = u0
        have hbx : u0.heap[wr.heap.size]? = some (.cells #[.slice ra LL rcap, .int .i64 (tn : Nat), .int .i64 (gn : Nat), .int .i64 (rs : Nat), .string r.bits] 61 (0, 0)) := by rw [← hu0]; exact heap_alloc_last wr _
        have htu0 : Turned (fun _ => False) wr u0 := by rw [← hu0]; exact Turned.alloc _ _ _
        have hzu : u0.heap.size = wr.heap.size + 1 := by rw [← hu0]; simp
        obtain ⟨K2, hK2⟩ : ∃ K2 : Nat → Prop, K2 = fun b => b < v6.heap.size ∨ (wr.heap.size ≤ b ∧ b < u0.heap.size) := ⟨_, rfl⟩
        have B0 : Hid (Bufs u0 K2 4 (quad u6 u7 u8 u9) (quad (tellT (rows.take j)).R (tellT (rows.take j)).E (tellT (rows.take j)).N (tellT (rows.take j)).B)) := by
          have q : Bufs u0 K2 4 (quad u6 u7 u8 u9) (quad (tellT (rows.take j)).R (tellT (rows.take j)).E (tellT (rows.take j)).N (tellT (rows.take j)).B) := by rw [hK2]; exact WS.out.turned (htu0.mono fun _ _ q => q.elim)
          exact q
        have T0 : Hid (Turned (fun b => ¬ K2 b) u0 u0) := Turned.refl _ _
        have RC : Hid (∀ W, Turned (fun b => ¬ K2 b) u0 W → W.cell? ⟨wr.heap.size, 0, none⟩ = some (.slice ra LL rcap) ∧ W.cell? ⟨wr.heap.size, 1, none⟩ = some (.int .i64 (tn : Nat)) ∧ W.cell? ⟨wr.heap.size, 2, none⟩ = some (.int .i64 (gn : Nat)) ∧ W.cell? ⟨wr.heap.size, 3, none⟩ = some (.int .i64 (rs : Nat)) ∧ W.cell? ⟨wr.heap.size, 4, none⟩ = some (.string r.bits) ∧ wr.heap.size < W.heap.size) := by
          have q : ∀ W, Turned (fun b => ¬ K2 b) u0 W → W.cell? ⟨wr.heap.size, 0, none⟩ = some (.slice ra LL rcap) ∧ W.cell? ⟨wr.heap.size, 1, none⟩ = some (.int .i64 (tn : Nat)) ∧ W.cell? ⟨wr.heap.size, 2, none⟩ = some (.int .i64 (gn : Nat)) ∧ W.cell? ⟨wr.heap.size, 3, none⟩ = some (.int .i64 (rs : Nat)) ∧ W.cell? ⟨wr.heap.size, 4, none⟩ = some (.string r.bits) ∧ wr.heap.size < W.heap.size := fun W t => by
            have h1 := (t.block wr.heap.size (by omega) fun q => q (by rw [hK2]; exact .inr ⟨Nat.le_refl _, by omega⟩)).trans hbx
            exact ⟨cell_of h1 0 _ rfl, cell_of h1 1 _ rfl, cell_of h1 2 _ rfl, cell_of h1 3 _ rfl, cell_of h1 4 _ rfl, lt_of_block h1⟩
          exact q
        have PI : Hid (∀ W, Turned (fun b => ¬ K2 b) u0 W → Ints W (fun b => b < w.heap.size) ra rcap r.par) := by
          have q : ∀ W, Turned (fun b => ¬ K2 b) u0 W → Ints W (fun b => b < w.heap.size) ra rcap r.par := fun W t => (hints.turned htu0 fun _ _ q => q).turned t fun b q z => z (by rw [hK2]; exact .inl (Nat.lt_of_lt_of_le q V6W.out.1.size))
          exact q
        have FIN : Hid (∀ W (v : Nat → Value) (f : Nat → List UInt8), Bufs W K2 4 v f → Turned (fun b => ¬ K2 b) u0 W → Bufs W (fun b => b < v6.heap.size) 4 v f ∧ Turned (fun b => ¬ b < v6.heap.size) v6 W) := by
          have q : ∀ W (v : Nat → Value) (f : Nat → List UInt8), Bufs W K2 4 v f → Turned (fun b => ¬ K2 b) u0 W → Bufs W (fun b => b < v6.heap.size) 4 v f ∧ Turned (fun b => ¬ b < v6.heap.size) v6 W := fun W v f h1 h2 =>
            ⟨h1.mono fun b q => by rw [hK2]; exact .inl q, T.out.comp (htu0.comp h2 (T := fun b => ¬ b < v6.heap.size) fun b _ q => q.elim (fun q => q.elim) fun q k => q (by rw [hK2]; exact .inl k)) fun b _ q => q.elim id id⟩
          exact q
        have HU0 : Hid (wr.alloc (.cells #[.slice ra LL rcap, .int .i64 (tn : Nat), .int .i64 (gn : Nat), .int .i64 (rs : Nat), .string r.bits] 61) = u0) := hu0
        have T0' : Hid (Turned (fun b => ¬ K2 b) u0 (wr.alloc (.cells #[.slice ra LL rcap, .int .i64 (tn : Nat), .int .i64 (gn : Nat), .int .i64 (rs : Nat), .string r.bits] 61))) := by
          have q : Turned (fun b => ¬ K2 b) u0 (wr.alloc (.cells #[.slice ra LL rcap, .int .i64 (tn : Nat), .int .i64 (gn : Nat), .int .i64 (rs : Nat), .string r.bits] 61)) := by rw [hu0]; exact Turned.refl _ _
          exact q
        have B0' : Hid (Bufs (wr.alloc (.cells #[.slice ra LL rcap, .int .i64 (tn : Nat), .int .i64 (gn : Nat), .int .i64 (rs : Nat), .string r.bits] 61)) K2 4 (quad u6 u7 u8 u9) (quad (tellT (rows.take j)).R (tellT (rows.take j)).E (tellT (rows.take j)).N (tellT (rows.take j)).B)) := by
          have q : Bufs (wr.alloc (.cells #[.slice ra LL rcap, .int .i64 (tn : Nat), .int .i64 (gn : Nat), .int .i64 (rs : Nat), .string r.bits] 61)) K2 4 (quad u6 u7 u8 u9) (quad (tellT (rows.take j)).R (tellT (rows.take j)).E (tellT (rows.take j)).N (tellT (rows.take j)).B) := by rw [hu0]; exact B0.out
          exact q
        obtain ⟨-, ⟨pb, cb, hvb⟩, -⟩ := B0.out.lens
        generalize htt : tellT (rows.take j) = tt at *
        have ST : Hid (tellT (rows.take (j + 1)) = stepT tt r) := hst
        obtain ⟨lb, hlb⟩ : ∃ lb, lb = (tt.B ++ r.bits.data.toList).length := ⟨_, rfl⟩
        have hlbb : lb ≤ 4198400 := by
          have := SZ.out
          rw [hlb, List.length_append]
          have e := ba_len r.bits
          omega
        have MONO : Hid (lb ≤ (tellT rows).B.length) := by
          have q : lb ≤ (tellT rows).B.length := by rw [hst] at hmono; rw [hlb]; exact hmono
          exact q
        have LB : Hid (lb = (tt.B ++ r.bits.data.toList).length ∧ lb ≤ 4198400) := ⟨hlb, hlbb⟩
        obtain ⟨m, hm⟩ : ∃ m, m = tt.E.length := ⟨_, rfl⟩
        rw [← hm] at hvb
        subst hvb
        have HM : Hid (m = tt.E.length ∧ m ≤ 4194304) := ⟨hm, by have := SZ.out; omega⟩
        have g1 : ∀ W, Calls Try.prog 54 #[.int .i64 (tn : Nat)] W fun e w' => e = .returned (.string ⟨(num tn 4).toArray⟩) ∧ Turned (fun _ => False) W w' := fun W => four_any tn W (by have := RB.out; omega)
        have g4 : ∀ W, Calls Try.prog 50 #[.int .u64 (gn : Nat), .int .i64 2] W fun e w' => e = .returned (.string ⟨(num gn 2).toArray⟩) ∧ Turned (fun _ => False) W w' := fun W => number_any gn 2 W (by have := RB.out; omega) (by decide)
        have g5 : ∀ W, Calls Try.prog 54 #[.int .i64 (lb : Nat)] W fun e w' => e = .returned (.string ⟨(num lb 4).toArray⟩) ∧ Turned (fun _ => False) W w' := fun W => four_any lb W (by omega)
        have mm1 : ((gn : Nat) : Int) % 18446744073709551616 = (gn : Int) := by have := RB.out; omega
        have mm2 : ((rs : Nat) : Int) % 256 = (rs : Int) := by have := RB.out; omega
        have SAY : Hid (∀ f s, firstN r = f → secondN r tt.E.length = s → stepT tt r = ⟨tt.R ++ num tn 4 ++ num f 4 ++ num s 4 ++ num gn 2 ++ num rs 1, tt.E ++ edgeB r, tt.N ++ num lb 4, tt.B ++ r.bits.data.toList⟩) := by
          have q : ∀ f s, firstN r = f → secondN r tt.E.length = s → stepT tt r = ⟨tt.R ++ num tn 4 ++ num f 4 ++ num s 4 ++ num gn 2 ++ num rs 1, tt.E ++ edgeB r, tt.N ++ num lb 4, tt.B ++ r.bits.data.toList⟩ := fun f s h1 h2 => by
            unfold stepT
            rw [HRB.out, h1, h2, ← hlb]
            simp only [List.append_assoc]
          exact q
        clear hr hgr hgn hrows16 hE hR hN htk hst hmono hbits hlb htt htn hgn2 hrs s0 s2 hpb hbx htu0 hzu hK2 hu0 hlbb hLL hm hsz
        by_cases h0 : LL = 0
        · have HPAR : Hid (r.par = []) := List.eq_nil_of_length_eq_zero (by rw [← HLL.out]; exact h0)
          subst h0
          have hfn : firstN r = 4294967295 := by unfold firstN; rw [HPAR.out]
          have hsn : secondN r tt.E.length = 4294967295 := by unfold secondN; rw [if_neg (by rw [HPAR.out]; simp), if_neg (by rw [HPAR.out]; simp)]
          have hed : edgeB r = [] := by unfold edgeB; rw [if_neg (by rw [HPAR.out]; simp)]
          have FN : Hid (firstN r = 4294967295 ∧ secondN r tt.E.length = 4294967295 ∧ edgeB r = []) := ⟨hfn, hsn, hed⟩
          clear hfn hsn hed hints
          have g2 : ∀ W, Calls Try.prog 54 #[.int .i64 4294967295] W fun e w' => e = .returned (.string ⟨(num 4294967295 4).toArray⟩) ∧ Turned (fun _ => False) W w' := fun W => four_any 4294967295 W (by decide)
          have g3 : ∀ W, Calls Try.prog 54 #[.int .i64 4294967295] W fun e w' => e = .returned (.string ⟨(num 4294967295 4).toArray⟩) ∧ Turned (fun _ => False) W w' := fun W => four_any 4294967295 W (by decide)
          go_wp2_with (first
            | (go_at_call 54; (with_reducible refine (g1 _).mono ?_); rintro e c1 ⟨rfl, htu⟩; have TC1 : Hid (Turned (fun b => ¬ K2 b) u0 c1) := T0'.out.trans (htu.mono fun _ _ q => q.elim) (fun _ _ q => q); have BC1 : Hid (Bufs c1 K2 4 (quad u6 (.slice pb m cb) u8 u9) (quad tt.R tt.E tt.N tt.B)) := B0'.out.later htu; clear htu)
            | (at_builtin; refine wpList_app0 rfl (.tmp 109) (.tmp 112) 9 rfl BC1.out rfl (.string ⟨(num tn 4).toArray⟩) rfl (num tn 4) (src_num _ _ _) (by have := SZ.out; simp only [num_length]; omega) ?_; intro d2 c2 hbu htu; have TC2 : Hid (Turned (fun b => ¬ K2 b) u0 c2) := TC1.out.trans htu (fun _ _ q => q); have BC2 : Hid (Bufs c2 K2 4 (quad d2 (.slice pb m cb) u8 u9) (quad (tt.R ++ (num tn 4)) tt.E tt.N tt.B)) := hbu; clear hbu htu)
            | (go_at_call 54; (with_reducible refine (g2 _).mono ?_); rintro e c3 ⟨rfl, htu⟩; have TC3 : Hid (Turned (fun b => ¬ K2 b) u0 c3) := TC2.out.trans (htu.mono fun _ _ q => q.elim) (fun _ _ q => q); have BC3 : Hid (Bufs c3 K2 4 (quad d2 (.slice pb m cb) u8 u9) (quad (tt.R ++ (num tn 4)) tt.E tt.N tt.B)) := BC2.out.later htu; clear htu)
            | (at_builtin; refine wpList_app0 rfl (.tmp 114) (.tmp 116) 9 rfl BC3.out rfl (.string ⟨(num 4294967295 4).toArray⟩) rfl (num 4294967295 4) (src_num _ _ _) (by have := SZ.out; simp only [List.length_append, num_length]; omega) ?_; intro d4 c4 hbu htu; have TC4 : Hid (Turned (fun b => ¬ K2 b) u0 c4) := TC3.out.trans htu (fun _ _ q => q); have BC4 : Hid (Bufs c4 K2 4 (quad d4 (.slice pb m cb) u8 u9) (quad ((tt.R ++ (num tn 4)) ++ (num 4294967295 4)) tt.E tt.N tt.B)) := hbu; clear hbu htu)
            | (go_at_call 54; (with_reducible refine (g3 _).mono ?_); rintro e c5 ⟨rfl, htu⟩; have TC5 : Hid (Turned (fun b => ¬ K2 b) u0 c5) := TC4.out.trans (htu.mono fun _ _ q => q.elim) (fun _ _ q => q); have BC5 : Hid (Bufs c5 K2 4 (quad d4 (.slice pb m cb) u8 u9) (quad ((tt.R ++ (num tn 4)) ++ (num 4294967295 4)) tt.E tt.N tt.B)) := BC4.out.later htu; clear htu)
            | (at_builtin; refine wpList_app0 rfl (.tmp 118) (.tmp 120) 9 rfl BC5.out rfl (.string ⟨(num 4294967295 4).toArray⟩) rfl (num 4294967295 4) (src_num _ _ _) (by have := SZ.out; simp only [List.length_append, num_length]; omega) ?_; intro d6 c6 hbu htu; have TC6 : Hid (Turned (fun b => ¬ K2 b) u0 c6) := TC5.out.trans htu (fun _ _ q => q); have BC6 : Hid (Bufs c6 K2 4 (quad d6 (.slice pb m cb) u8 u9) (quad (((tt.R ++ (num tn 4)) ++ (num 4294967295 4)) ++ (num 4294967295 4)) tt.E tt.N tt.B)) := hbu; obtain ⟨-, -, e2, -, -, el⟩ := RC.out c6 TC6.out; clear hbu htu)
            | (go_at_call 50; (with_reducible refine (g4 _).mono ?_); rintro e c7 ⟨rfl, htu⟩; have TC7 : Hid (Turned (fun b => ¬ K2 b) u0 c7) := TC6.out.trans (htu.mono fun _ _ q => q.elim) (fun _ _ q => q); have BC7 : Hid (Bufs c7 K2 4 (quad d6 (.slice pb m cb) u8 u9) (quad (((tt.R ++ (num tn 4)) ++ (num 4294967295 4)) ++ (num 4294967295 4)) tt.E tt.N tt.B)) := BC6.out.later htu; clear htu)
            | (at_builtin; refine wpList_app0 rfl (.tmp 122) (.tmp 126) 9 rfl BC7.out rfl (.string ⟨(num gn 2).toArray⟩) rfl (num gn 2) (src_num _ _ _) (by have := SZ.out; simp only [List.length_append, num_length]; omega) ?_; intro d8 c8 hbu htu; have TC8 : Hid (Turned (fun b => ¬ K2 b) u0 c8) := TC7.out.trans htu (fun _ _ q => q); have BC8 : Hid (Bufs c8 K2 4 (quad d8 (.slice pb m cb) u8 u9) (quad ((((tt.R ++ (num tn 4)) ++ (num 4294967295 4)) ++ (num 4294967295 4)) ++ (num gn 2)) tt.E tt.N tt.B)) := hbu; obtain ⟨-, -, -, e3, -, el3⟩ := RC.out c8 TC8.out; clear hbu htu)
            | (at_builtin; refine wpList_app0 rfl (.tmp 128) (.tmp 133) 51 rfl (BC8.out.later (Turned.alloc _ _ _)) rfl _ rfl (num rs 1) (src_byte _ _ (by have := RB.out; omega)) (by have := SZ.out; simp only [List.length_append, num_length]; omega) ?_; intro d9 c9 hbu htu; have TC9 : Hid (Turned (fun b => ¬ K2 b) u0 c9) := (TC8.out.new _).trans htu (fun _ _ q => q); have BC9 : Hid (Bufs c9 K2 4 (quad d9 (.slice pb m cb) u8 u9) (quad (((((tt.R ++ (num tn 4)) ++ (num 4294967295 4)) ++ (num 4294967295 4)) ++ (num gn 2)) ++ (num rs 1)) tt.E tt.N tt.B)) := hbu; obtain ⟨-, -, -, -, e4, el4⟩ := RC.out c9 TC9.out; clear hbu htu)
            | (at_builtin; refine wpList_app3 rfl (.tmp 135) (.tmp 138) 9 rfl BC9.out rfl (.string r.bits) rfl r.bits.data.toList (src_str _ _) (by have := SZ.out; rw [ba_len]; omega) ?_; intro d10 c10 hbu htu; have TC10 : Hid (Turned (fun b => ¬ K2 b) u0 c10) := TC9.out.trans htu (fun _ _ q => q); have BC10 : Hid (Bufs c10 K2 4 (quad d9 (.slice pb m cb) u8 d10) (quad (((((tt.R ++ (num tn 4)) ++ (num 4294967295 4)) ++ (num 4294967295 4)) ++ (num gn 2)) ++ (num rs 1)) tt.E tt.N (tt.B ++ r.bits.data.toList))) := hbu; obtain ⟨-, -, -, pz, cz, hdz⟩ := BC10.out.lens; rw [← LB.out.1] at hdz; subst hdz; clear hbu htu)
            | (go_at_call 54; (with_reducible refine (g5 _).mono ?_); rintro e c11 ⟨rfl, htu⟩; have TC11 : Hid (Turned (fun b => ¬ K2 b) u0 c11) := TC10.out.trans (htu.mono fun _ _ q => q.elim) (fun _ _ q => q); have BC11 : Hid (Bufs c11 K2 4 (quad d9 (.slice pb m cb) u8 (.slice pz lb cz)) (quad (((((tt.R ++ (num tn 4)) ++ (num 4294967295 4)) ++ (num 4294967295 4)) ++ (num gn 2)) ++ (num rs 1)) tt.E tt.N (tt.B ++ r.bits.data.toList))) := BC10.out.later htu; clear htu)
            | (at_builtin; refine wpList_app2 rfl (.tmp 140) (.tmp 143) 9 rfl BC11.out rfl (.string ⟨(num lb 4).toArray⟩) rfl (num lb 4) (src_num _ _ _) (by have := SZ.out; simp only [num_length]; omega) ?_; intro d12 c12 hbu htu; have TC12 : Hid (Turned (fun b => ¬ K2 b) u0 c12) := TC11.out.trans htu (fun _ _ q => q); have BC12 : Hid (Bufs c12 K2 4 (quad d9 (.slice pb m cb) d12 (.slice pz lb cz)) (quad (((((tt.R ++ (num tn 4)) ++ (num 4294967295 4)) ++ (num 4294967295 4)) ++ (num gn 2)) ++ (num rs 1)) tt.E (tt.N ++ (num lb 4)) (tt.B ++ r.bits.data.toList))) := hbu; clear hbu htu))
          · have HLT : Hid (4194304 < lb) := (by have q : (4194304 : Int) < (lb : Int) := (by assumption); omega : 4194304 < lb)
            go_ret2
            obtain ⟨z1, z2⟩ := FIN.out _ _ _ BC12.out TC12.out
            exact ⟨by rw [LONG.out (Nat.lt_of_lt_of_le HLT.out MONO.out)]; rfl, V6W.out.1.comp z2 (T := fun _ => False) fun b hb q => q.elim id fun q => q (Nat.lt_of_lt_of_le hb V6W.out.1.size)⟩
          · have HGE : Hid (¬ 4194304 < lb) := (by have q : (lb : Int) ≤ 4194304 := (by assumption); omega : ¬ 4194304 < lb)
            go_roundg (gk - 1)
            case measure => have := G.out; have := HL.out; omega
            case rel =>
              obtain ⟨z1, z2⟩ := FIN.out _ _ _ BC12.out TC12.out
              refine ⟨j + 1, by have := G.out; have := HL.out; omega, by simp <;> omega, ?_, ?_, z2⟩
              · rw [ST.out, SAY.out _ _ FN.out.1 FN.out.2.1]
                rw [FN.out.2.2, List.append_nil]
                simpa only [List.append_assoc] using z1
              · rw [ST.out]
                show (tt.B ++ r.bits.data.toList).length ≤ 4194304
                rw [← LB.out.1]; have := HGE.out; omega
        by_cases h1 : LL = 1
        · obtain ⟨x, hx⟩ : ∃ x, r.par = [x] := List.length_eq_one_iff.1 (by rw [← HLL.out]; exact h1)
          have hxb := HP.out x (by rw [hx]; simp)
          obtain ⟨y, rfl⟩ : ∃ y : Nat, x = (y : Int) := ⟨x.toNat, by omega⟩
          have HPAR : Hid (r.par = [(y : Int)]) := hx
          obtain ⟨g, goff, rfl, hSg, hgl, cc⟩ := ints_at hints 0 (y : Int) (by rw [hx]; rfl)
          rw [Nat.add_zero] at cc
          have hne : g ≠ wr.heap.size := by omega
          subst h1
          have FN : Hid (firstN r = y ∧ secondN r tt.E.length = 4294967295 ∧ edgeB r = []) := ⟨by unfold firstN; rw [HPAR.out]; rfl, by unfold secondN; rw [if_neg (by rw [HPAR.out]; simp), if_neg (by rw [HPAR.out]; simp)], by unfold edgeB; rw [if_neg (by rw [HPAR.out]; simp)]⟩
          have g2 : ∀ W, Calls Try.prog 54 #[.int .i64 (y : Nat)] W fun e w' => e = .returned (.string ⟨(num y 4).toArray⟩) ∧ Turned (fun _ => False) W w' := fun W => four_any y W (by omega)
          have g3 : ∀ W, Calls Try.prog 54 #[.int .i64 4294967295] W fun e w' => e = .returned (.string ⟨(num 4294967295 4).toArray⟩) ∧ Turned (fun _ => False) W w' := fun W => four_any 4294967295 W (by decide)
          clear hx hxb hSg hints h0
          go_wp2_with (first
            | (go_at_call 54; (with_reducible refine (g1 _).mono ?_); rintro e c1 ⟨rfl, htu⟩; have TC1 : Hid (Turned (fun b => ¬ K2 b) u0 c1) := T0'.out.trans (htu.mono fun _ _ q => q.elim) (fun _ _ q => q); have BC1 : Hid (Bufs c1 K2 4 (quad u6 (.slice pb m cb) u8 u9) (quad tt.R tt.E tt.N tt.B)) := B0'.out.later htu; clear htu)
            | (at_builtin; refine wpList_app0 rfl (.tmp 109) (.tmp 112) 9 rfl BC1.out rfl (.string ⟨(num tn 4).toArray⟩) rfl (num tn 4) (src_num _ _ _) (by have := SZ.out; simp only [num_length]; omega) ?_; intro d2 c2 hbu htu; have TC2 : Hid (Turned (fun b => ¬ K2 b) u0 c2) := TC1.out.trans htu (fun _ _ q => q); have BC2 : Hid (Bufs c2 K2 4 (quad d2 (.slice pb m cb) u8 u9) (quad (tt.R ++ (num tn 4)) tt.E tt.N tt.B)) := hbu; clear hbu htu)
            | (go_at_call 54; (with_reducible refine (g2 _).mono ?_); rintro e c3 ⟨rfl, htu⟩; have TC3 : Hid (Turned (fun b => ¬ K2 b) u0 c3) := TC2.out.trans (htu.mono fun _ _ q => q.elim) (fun _ _ q => q); have BC3 : Hid (Bufs c3 K2 4 (quad d2 (.slice pb m cb) u8 u9) (quad (tt.R ++ (num tn 4)) tt.E tt.N tt.B)) := BC2.out.later htu; clear htu)
            | (at_builtin; refine wpList_app0 rfl (.tmp 114) (.tmp 116) 9 rfl BC3.out rfl (.string ⟨(num y 4).toArray⟩) rfl (num y 4) (src_num _ _ _) (by have := SZ.out; simp only [List.length_append, num_length]; omega) ?_; intro d4 c4 hbu htu; have TC4 : Hid (Turned (fun b => ¬ K2 b) u0 c4) := TC3.out.trans htu (fun _ _ q => q); have BC4 : Hid (Bufs c4 K2 4 (quad d4 (.slice pb m cb) u8 u9) (quad ((tt.R ++ (num tn 4)) ++ (num y 4)) tt.E tt.N tt.B)) := hbu; clear hbu htu)
            | (go_at_call 54; (with_reducible refine (g3 _).mono ?_); rintro e c5 ⟨rfl, htu⟩; have TC5 : Hid (Turned (fun b => ¬ K2 b) u0 c5) := TC4.out.trans (htu.mono fun _ _ q => q.elim) (fun _ _ q => q); have BC5 : Hid (Bufs c5 K2 4 (quad d4 (.slice pb m cb) u8 u9) (quad ((tt.R ++ (num tn 4)) ++ (num y 4)) tt.E tt.N tt.B)) := BC4.out.later htu; clear htu)
            | (at_builtin; refine wpList_app0 rfl (.tmp 118) (.tmp 120) 9 rfl BC5.out rfl (.string ⟨(num 4294967295 4).toArray⟩) rfl (num 4294967295 4) (src_num _ _ _) (by have := SZ.out; simp only [List.length_append, num_length]; omega) ?_; intro d6 c6 hbu htu; have TC6 : Hid (Turned (fun b => ¬ K2 b) u0 c6) := TC5.out.trans htu (fun _ _ q => q); have BC6 : Hid (Bufs c6 K2 4 (quad d6 (.slice pb m cb) u8 u9) (quad (((tt.R ++ (num tn 4)) ++ (num y 4)) ++ (num 4294967295 4)) tt.E tt.N tt.B)) := hbu; obtain ⟨-, -, e2, -, -, el⟩ := RC.out c6 TC6.out; clear hbu htu)
            | (go_at_call 50; (with_reducible refine (g4 _).mono ?_); rintro e c7 ⟨rfl, htu⟩; have TC7 : Hid (Turned (fun b => ¬ K2 b) u0 c7) := TC6.out.trans (htu.mono fun _ _ q => q.elim) (fun _ _ q => q); have BC7 : Hid (Bufs c7 K2 4 (quad d6 (.slice pb m cb) u8 u9) (quad (((tt.R ++ (num tn 4)) ++ (num y 4)) ++ (num 4294967295 4)) tt.E tt.N tt.B)) := BC6.out.later htu; clear htu)
            | (at_builtin; refine wpList_app0 rfl (.tmp 122) (.tmp 126) 9 rfl BC7.out rfl (.string ⟨(num gn 2).toArray⟩) rfl (num gn 2) (src_num _ _ _) (by have := SZ.out; simp only [List.length_append, num_length]; omega) ?_; intro d8 c8 hbu htu; have TC8 : Hid (Turned (fun b => ¬ K2 b) u0 c8) := TC7.out.trans htu (fun _ _ q => q); have BC8 : Hid (Bufs c8 K2 4 (quad d8 (.slice pb m cb) u8 u9) (quad ((((tt.R ++ (num tn 4)) ++ (num y 4)) ++ (num 4294967295 4)) ++ (num gn 2)) tt.E tt.N tt.B)) := hbu; obtain ⟨-, -, -, e3, -, el3⟩ := RC.out c8 TC8.out; clear hbu htu)
            | (at_builtin; refine wpList_app0 rfl (.tmp 128) (.tmp 133) 51 rfl (BC8.out.later (Turned.alloc _ _ _)) rfl _ rfl (num rs 1) (src_byte _ _ (by have := RB.out; omega)) (by have := SZ.out; simp only [List.length_append, num_length]; omega) ?_; intro d9 c9 hbu htu; have TC9 : Hid (Turned (fun b => ¬ K2 b) u0 c9) := (TC8.out.new _).trans htu (fun _ _ q => q); have BC9 : Hid (Bufs c9 K2 4 (quad d9 (.slice pb m cb) u8 u9) (quad (((((tt.R ++ (num tn 4)) ++ (num y 4)) ++ (num 4294967295 4)) ++ (num gn 2)) ++ (num rs 1)) tt.E tt.N tt.B)) := hbu; obtain ⟨-, -, -, -, e4, el4⟩ := RC.out c9 TC9.out; clear hbu htu)
            | (at_builtin; refine wpList_app3 rfl (.tmp 135) (.tmp 138) 9 rfl BC9.out rfl (.string r.bits) rfl r.bits.data.toList (src_str _ _) (by have := SZ.out; rw [ba_len]; omega) ?_; intro d10 c10 hbu htu; have TC10 : Hid (Turned (fun b => ¬ K2 b) u0 c10) := TC9.out.trans htu (fun _ _ q => q); have BC10 : Hid (Bufs c10 K2 4 (quad d9 (.slice pb m cb) u8 d10) (quad (((((tt.R ++ (num tn 4)) ++ (num y 4)) ++ (num 4294967295 4)) ++ (num gn 2)) ++ (num rs 1)) tt.E tt.N (tt.B ++ r.bits.data.toList))) := hbu; obtain ⟨-, -, -, pz, cz, hdz⟩ := BC10.out.lens; rw [← LB.out.1] at hdz; subst hdz; clear hbu htu)
            | (go_at_call 54; (with_reducible refine (g5 _).mono ?_); rintro e c11 ⟨rfl, htu⟩; have TC11 : Hid (Turned (fun b => ¬ K2 b) u0 c11) := TC10.out.trans (htu.mono fun _ _ q => q.elim) (fun _ _ q => q); have BC11 : Hid (Bufs c11 K2 4 (quad d9 (.slice pb m cb) u8 (.slice pz lb cz)) (quad (((((tt.R ++ (num tn 4)) ++ (num y 4)) ++ (num 4294967295 4)) ++ (num gn 2)) ++ (num rs 1)) tt.E tt.N (tt.B ++ r.bits.data.toList))) := BC10.out.later htu; clear htu)
            | (at_builtin; refine wpList_app2 rfl (.tmp 140) (.tmp 143) 9 rfl BC11.out rfl (.string ⟨(num lb 4).toArray⟩) rfl (num lb 4) (src_num _ _ _) (by have := SZ.out; simp only [num_length]; omega) ?_; intro d12 c12 hbu htu; have TC12 : Hid (Turned (fun b => ¬ K2 b) u0 c12) := TC11.out.trans htu (fun _ _ q => q); have BC12 : Hid (Bufs c12 K2 4 (quad d9 (.slice pb m cb) d12 (.slice pz lb cz)) (quad (((((tt.R ++ (num tn 4)) ++ (num y 4)) ++ (num 4294967295 4)) ++ (num gn 2)) ++ (num rs 1)) tt.E (tt.N ++ (num lb 4)) (tt.B ++ r.bits.data.toList))) := hbu; clear hbu htu))
          · have HLT : Hid (4194304 < lb) := (by have q : (4194304 : Int) < (lb : Int) := (by assumption); omega : 4194304 < lb)
            go_ret2
            obtain ⟨z1, z2⟩ := FIN.out _ _ _ BC12.out TC12.out
            exact ⟨by rw [LONG.out (Nat.lt_of_lt_of_le HLT.out MONO.out)]; rfl, V6W.out.1.comp z2 (T := fun _ => False) fun b hb q => q.elim id fun q => q (Nat.lt_of_lt_of_le hb V6W.out.1.size)⟩
          · have HGE : Hid (¬ 4194304 < lb) := (by have q : (lb : Int) ≤ 4194304 := (by assumption); omega : ¬ 4194304 < lb)
            go_roundg (gk - 1)
            case measure => have := G.out; have := HL.out; omega
            case rel =>
              obtain ⟨z1, z2⟩ := FIN.out _ _ _ BC12.out TC12.out
              refine ⟨j + 1, by have := G.out; have := HL.out; omega, by simp <;> omega, ?_, ?_, z2⟩
              · rw [ST.out, SAY.out _ _ FN.out.1 FN.out.2.1]
                rw [FN.out.2.2, List.append_nil]
                simpa only [List.append_assoc] using z1
              · rw [ST.out]
                show (tt.B ++ r.bits.data.toList).length ≤ 4194304
                rw [← LB.out.1]; have := HGE.out; omega
        by_cases h2 : LL = 2
        · obtain ⟨x, x', hx⟩ : ∃ x x', r.par = [x, x'] := len_two (by rw [← HLL.out]; exact h2)
          have hxb := HP.out x (by rw [hx]; simp)
          have hxb' := HP.out x' (by rw [hx]; simp)
          obtain ⟨y, rfl⟩ : ∃ y : Nat, x = (y : Int) := ⟨x.toNat, by omega⟩
          obtain ⟨y', rfl⟩ : ∃ y : Nat, x' = (y : Int) := ⟨x'.toNat, by omega⟩
          have HPAR : Hid (r.par = [(y : Int), (y' : Int)]) := hx
          obtain ⟨g, goff, rfl, hSg, hgl, cc⟩ := ints_at hints 0 (y : Int) (by rw [hx]; rfl)
          rw [Nat.add_zero] at cc
          obtain ⟨g', goff', hgg, -, -, cc1⟩ := ints_at hints 1 (y' : Int) (by rw [hx]; rfl)
          injection hgg with hgg
          injection hgg with q1 q2
          subst q1
          subst q2
          have hne : g ≠ wr.heap.size := by omega
          subst h2
          have FN : Hid (firstN r = y ∧ secondN r tt.E.length = y' ∧ edgeB r = []) := ⟨by unfold firstN; rw [HPAR.out]; rfl, by unfold secondN; rw [if_neg (by rw [HPAR.out]; simp), if_pos (by rw [HPAR.out]; rfl), HPAR.out]; simp, by unfold edgeB; rw [if_neg (by rw [HPAR.out]; simp)]⟩
          have g2 : ∀ W, Calls Try.prog 54 #[.int .i64 (y : Nat)] W fun e w' => e = .returned (.string ⟨(num y 4).toArray⟩) ∧ Turned (fun _ => False) W w' := fun W => four_any y W (by omega)
          have g3 : ∀ W, Calls Try.prog 54 #[.int .i64 (y' : Nat)] W fun e w' => e = .returned (.string ⟨(num y' 4).toArray⟩) ∧ Turned (fun _ => False) W w' := fun W => four_any y' W (by omega)
          clear hx hxb hxb' hSg hints h0 h1
          go_wp2_with (first
            | (go_at_call 54; (with_reducible refine (g1 _).mono ?_); rintro e c1 ⟨rfl, htu⟩; have TC1 : Hid (Turned (fun b => ¬ K2 b) u0 c1) := T0'.out.trans (htu.mono fun _ _ q => q.elim) (fun _ _ q => q); have BC1 : Hid (Bufs c1 K2 4 (quad u6 (.slice pb m cb) u8 u9) (quad tt.R tt.E tt.N tt.B)) := B0'.out.later htu; clear htu)
            | (at_builtin; refine wpList_app0 rfl (.tmp 109) (.tmp 112) 9 rfl BC1.out rfl (.string ⟨(num tn 4).toArray⟩) rfl (num tn 4) (src_num _ _ _) (by have := SZ.out; simp only [num_length]; omega) ?_; intro d2 c2 hbu htu; have TC2 : Hid (Turned (fun b => ¬ K2 b) u0 c2) := TC1.out.trans htu (fun _ _ q => q); have BC2 : Hid (Bufs c2 K2 4 (quad d2 (.slice pb m cb) u8 u9) (quad (tt.R ++ (num tn 4)) tt.E tt.N tt.B)) := hbu; clear hbu htu)
            | (go_at_call 54; (with_reducible refine (g2 _).mono ?_); rintro e c3 ⟨rfl, htu⟩; have TC3 : Hid (Turned (fun b => ¬ K2 b) u0 c3) := TC2.out.trans (htu.mono fun _ _ q => q.elim) (fun _ _ q => q); have BC3 : Hid (Bufs c3 K2 4 (quad d2 (.slice pb m cb) u8 u9) (quad (tt.R ++ (num tn 4)) tt.E tt.N tt.B)) := BC2.out.later htu; clear htu)
            | (at_builtin; refine wpList_app0 rfl (.tmp 114) (.tmp 116) 9 rfl BC3.out rfl (.string ⟨(num y 4).toArray⟩) rfl (num y 4) (src_num _ _ _) (by have := SZ.out; simp only [List.length_append, num_length]; omega) ?_; intro d4 c4 hbu htu; have TC4 : Hid (Turned (fun b => ¬ K2 b) u0 c4) := TC3.out.trans htu (fun _ _ q => q); have BC4 : Hid (Bufs c4 K2 4 (quad d4 (.slice pb m cb) u8 u9) (quad ((tt.R ++ (num tn 4)) ++ (num y 4)) tt.E tt.N tt.B)) := hbu; clear hbu htu)
            | (go_at_call 54; (with_reducible refine (g3 _).mono ?_); rintro e c5 ⟨rfl, htu⟩; have TC5 : Hid (Turned (fun b => ¬ K2 b) u0 c5) := TC4.out.trans (htu.mono fun _ _ q => q.elim) (fun _ _ q => q); have BC5 : Hid (Bufs c5 K2 4 (quad d4 (.slice pb m cb) u8 u9) (quad ((tt.R ++ (num tn 4)) ++ (num y 4)) tt.E tt.N tt.B)) := BC4.out.later htu; clear htu)
            | (at_builtin; refine wpList_app0 rfl (.tmp 118) (.tmp 120) 9 rfl BC5.out rfl (.string ⟨(num y' 4).toArray⟩) rfl (num y' 4) (src_num _ _ _) (by have := SZ.out; simp only [List.length_append, num_length]; omega) ?_; intro d6 c6 hbu htu; have TC6 : Hid (Turned (fun b => ¬ K2 b) u0 c6) := TC5.out.trans htu (fun _ _ q => q); have BC6 : Hid (Bufs c6 K2 4 (quad d6 (.slice pb m cb) u8 u9) (quad (((tt.R ++ (num tn 4)) ++ (num y 4)) ++ (num y' 4)) tt.E tt.N tt.B)) := hbu; obtain ⟨-, -, e2, -, -, el⟩ := RC.out c6 TC6.out; clear hbu htu)
            | (go_at_call 50; (with_reducible refine (g4 _).mono ?_); rintro e c7 ⟨rfl, htu⟩; have TC7 : Hid (Turned (fun b => ¬ K2 b) u0 c7) := TC6.out.trans (htu.mono fun _ _ q => q.elim) (fun _ _ q => q); have BC7 : Hid (Bufs c7 K2 4 (quad d6 (.slice pb m cb) u8 u9) (quad (((tt.R ++ (num tn 4)) ++ (num y 4)) ++ (num y' 4)) tt.E tt.N tt.B)) := BC6.out.later htu; clear htu)
            | (at_builtin; refine wpList_app0 rfl (.tmp 122) (.tmp 126) 9 rfl BC7.out rfl (.string ⟨(num gn 2).toArray⟩) rfl (num gn 2) (src_num _ _ _) (by have := SZ.out; simp only [List.length_append, num_length]; omega) ?_; intro d8 c8 hbu htu; have TC8 : Hid (Turned (fun b => ¬ K2 b) u0 c8) := TC7.out.trans htu (fun _ _ q => q); have BC8 : Hid (Bufs c8 K2 4 (quad d8 (.slice pb m cb) u8 u9) (quad ((((tt.R ++ (num tn 4)) ++ (num y 4)) ++ (num y' 4)) ++ (num gn 2)) tt.E tt.N tt.B)) := hbu; obtain ⟨-, -, -, e3, -, el3⟩ := RC.out c8 TC8.out; clear hbu htu)
            | (at_builtin; refine wpList_app0 rfl (.tmp 128) (.tmp 133) 51 rfl (BC8.out.later (Turned.alloc _ _ _)) rfl _ rfl (num rs 1) (src_byte _ _ (by have := RB.out; omega)) (by have := SZ.out; simp only [List.length_append, num_length]; omega) ?_; intro d9 c9 hbu htu; have TC9 : Hid (Turned (fun b => ¬ K2 b) u0 c9) := (TC8.out.new _).trans htu (fun _ _ q => q); have BC9 : Hid (Bufs c9 K2 4 (quad d9 (.slice pb m cb) u8 u9) (quad (((((tt.R ++ (num tn 4)) ++ (num y 4)) ++ (num y' 4)) ++ (num gn 2)) ++ (num rs 1)) tt.E tt.N tt.B)) := hbu; obtain ⟨-, -, -, -, e4, el4⟩ := RC.out c9 TC9.out; clear hbu htu)
            | (at_builtin; refine wpList_app3 rfl (.tmp 135) (.tmp 138) 9 rfl BC9.out rfl (.string r.bits) rfl r.bits.data.toList (src_str _ _) (by have := SZ.out; rw [ba_len]; omega) ?_; intro d10 c10 hbu htu; have TC10 : Hid (Turned (fun b => ¬ K2 b) u0 c10) := TC9.out.trans htu (fun _ _ q => q); have BC10 : Hid (Bufs c10 K2 4 (quad d9 (.slice pb m cb) u8 d10) (quad (((((tt.R ++ (num tn 4)) ++ (num y 4)) ++ (num y' 4)) ++ (num gn 2)) ++ (num rs 1)) tt.E tt.N (tt.B ++ r.bits.data.toList))) := hbu; obtain ⟨-, -, -, pz, cz, hdz⟩ := BC10.out.lens; rw [← LB.out.1] at hdz; subst hdz; clear hbu htu)
            | (go_at_call 54; (with_reducible refine (g5 _).mono ?_); rintro e c11 ⟨rfl, htu⟩; have TC11 : Hid (Turned (fun b => ¬ K2 b) u0 c11) := TC10.out.trans (htu.mono fun _ _ q => q.elim) (fun _ _ q => q); have BC11 : Hid (Bufs c11 K2 4 (quad d9 (.slice pb m cb) u8 (.slice pz lb cz)) (quad (((((tt.R ++ (num tn 4)) ++ (num y 4)) ++ (num y' 4)) ++ (num gn 2)) ++ (num rs 1)) tt.E tt.N (tt.B ++ r.bits.data.toList))) := BC10.out.later htu; clear htu)
            | (at_builtin; refine wpList_app2 rfl (.tmp 140) (.tmp 143) 9 rfl BC11.out rfl (.string ⟨(num lb 4).toArray⟩) rfl (num lb 4) (src_num _ _ _) (by have := SZ.out; simp only [num_length]; omega) ?_; intro d12 c12 hbu htu; have TC12 : Hid (Turned (fun b => ¬ K2 b) u0 c12) := TC11.out.trans htu (fun _ _ q => q); have BC12 : Hid (Bufs c12 K2 4 (quad d9 (.slice pb m cb) d12 (.slice pz lb cz)) (quad (((((tt.R ++ (num tn 4)) ++ (num y 4)) ++ (num y' 4)) ++ (num gn 2)) ++ (num rs 1)) tt.E (tt.N ++ (num lb 4)) (tt.B ++ r.bits.data.toList))) := hbu; clear hbu htu))
          · have HLT : Hid (4194304 < lb) := (by have q : (4194304 : Int) < (lb : Int) := (by assumption); omega : 4194304 < lb)
            go_ret2
            obtain ⟨z1, z2⟩ := FIN.out _ _ _ BC12.out TC12.out
            exact ⟨by rw [LONG.out (Nat.lt_of_lt_of_le HLT.out MONO.out)]; rfl, V6W.out.1.comp z2 (T := fun _ => False) fun b hb q => q.elim id fun q => q (Nat.lt_of_lt_of_le hb V6W.out.1.size)⟩
          · have HGE : Hid (¬ 4194304 < lb) := (by have q : (lb : Int) ≤ 4194304 := (by assumption); omega : ¬ 4194304 < lb)
            go_roundg (gk - 1)
            case measure => have := G.out; have := HL.out; omega
            case rel =>
              obtain ⟨z1, z2⟩ := FIN.out _ _ _ BC12.out TC12.out
              refine ⟨j + 1, by have := G.out; have := HL.out; omega, by simp <;> omega, ?_, ?_, z2⟩
              · rw [ST.out, SAY.out _ _ FN.out.1 FN.out.2.1]
                rw [FN.out.2.2, List.append_nil]
                simpa only [List.append_assoc] using z1
              · rw [ST.out]
                show (tt.B ++ r.bits.data.toList).length ≤ 4194304
                rw [← LB.out.1]; have := HGE.out; omega
        have h3 : 2 < LL := by omega
        have d2 : decide ((2 : Int) < (LL : Int)) = true := decide_eq_true (by omega)
        have d0 : decide ((0 : Int) < (LL : Int)) = true := decide_eq_true (by omega)
        have dq := int_neb (LL : Int) 2 (by omega)
        have d0n : decide (0 < LL) = true := decide_eq_true (by omega)
        have d2n : decide (2 < LL) = true := decide_eq_true (by omega)
        have hLL16 : LL ≤ 16 := by have := HPL.out; have := HLL.out; omega
        obtain ⟨x, hx⟩ : ∃ x, r.par[0]? = some x := ⟨_, List.getElem?_eq_getElem (by have := HLL.out; omega)⟩
        have hxb := HP.out x (List.mem_of_getElem? hx)
        obtain ⟨y, rfl⟩ : ∃ y : Nat, x = (y : Int) := ⟨x.toNat, by omega⟩
        obtain ⟨g, goff, rfl, hSg, hgl, cc⟩ := ints_at hints 0 (y : Int) hx
        rw [Nat.add_zero] at cc
        have hne : g ≠ wr.heap.size := by omega
        obtain ⟨q4, hq4⟩ : ∃ q4, q4 = m / 4 := ⟨_, rfl⟩
        have hm4 : ((m : Nat) : Int) / 4 = (q4 : Int) := by omega
        obtain ⟨s4, hs4⟩ : ∃ s4, s4 = 2147483648 + q4 := ⟨_, rfl⟩
        have hm6 : 2147483648 + ((q4 : Nat) : Int) = (s4 : Int) := by omega
        have hmm := HM.out.2
        have hq4b : q4 ≤ 2000000 := by omega
        have FN : Hid (firstN r = y ∧ secondN r tt.E.length = s4 ∧ s4 < 4294967296) := by
          have q : firstN r = y ∧ secondN r tt.E.length = s4 ∧ s4 < 4294967296 := by
            refine ⟨?_, ?_, by omega⟩
            · unfold firstN
              cases hp : r.par with
              | nil => rw [hp] at hx; simp at hx
              | cons u l => rw [hp] at hx; obtain rfl := Option.some.inj hx; simp
            · unfold secondN
              rw [if_pos (by have := HLL.out; omega), hs4, hq4, HM.out.1]
          exact q
        have YB : Hid (y < 131072) := (by omega : y < 131072)
        have IE0 : Hid (IeRel r K2 u0 u6 u8 u9 tt.R tt.E tt.N tt.B (LL - 1) (.slice pb m cb) (.int .i64 1) (wr.alloc (.cells #[.slice (some ⟨g, goff, none⟩) LL rcap, .int .i64 (tn : Nat), .int .i64 (gn : Nat), .int .i64 (rs : Nat), .string r.bits] 61))) := by
          have e : epB r 1 = [] := by unfold epB; rw [if_neg (by have := HLL.out; omega)]; simp [midB]
          exact ⟨1, Nat.le_refl _, by have := HLL.out; omega, rfl, by rw [e, List.append_nil]; exact B0'.out, T0'.out⟩
        clear hx hxb hSg hints h0 h1 h2 hq4 hs4 hmm
        go_wp2
        obtain ⟨wo, rfl⟩ : ∃ x : World, x = wr := ⟨wr, rfl⟩
        clear cc hgl hne hbc c0 c1 c2 c3 c4
        go_loopg [7, 14] (LL - 1) (fun gg vb i wr => IeRel r K2 u0 u6 u8 u9 tt.R tt.E tt.N tt.B gg vb i wr)
        case atStart => exact IE0.out
        case round =>
          obtain ⟨k, hk1, hkg, rfl, hbu, htu⟩ := hrel
          have GK : Hid (1 ≤ k ∧ k + gk = r.par.length) := ⟨hk1, hkg⟩
          have BB : Hid (Bufs wr K2 4 (quad u6 u7 u8 u9) (quad tt.R (tt.E ++ epB r k) tt.N tt.B)) := hbu
          have TT : Hid (Turned (fun b => ¬ K2 b) u0 wr) := htu
          clear hk1 hkg hbu htu IE0
          by_cases hkl : k < LL
          · obtain ⟨x, hx⟩ : ∃ x, r.par[k]? = some x := ⟨_, List.getElem?_eq_getElem (by have := HLL.out; omega)⟩
            have hxb := HP.out x (List.mem_of_getElem? hx)
            obtain ⟨z, rfl⟩ : ∃ y : Nat, x = (y : Int) := ⟨x.toNat, by omega⟩
            obtain ⟨g', goff', hgg, -, hgl, cc⟩ := ints_at (PI.out wr TT.out) k (z : Int) hx
            injection hgg with hgg
            injection hgg with q1 q2
            subst q1
            subst q2
            obtain ⟨e0, -, -, -, -, el⟩ := RC.out wr TT.out
            have NX := epB_next r k z GK.out.1 (by have := HLL.out; omega) hx
            have ELEN : Hid ((tt.E ++ epB r k).length ≤ 8388608) := by
              have q : (tt.E ++ epB r k).length ≤ 8388608 := by
                have h1 := HM.out
                have h2 := edgeB_length r
                have h3 := HPL.out
                have h4 : (epB r k).length ≤ 64 := by
                  unfold epB
                  split
                  · omega
                  · rw [midB_length]; simp only [List.length_take, List.length_drop]; have := HLL.out; omega
                rw [List.length_append]; omega
              exact q
            by_cases hkn : k + 1 = LL
            · have hd := int_eqb ((k : Int) + 1) (LL : Int) (by omega)
              obtain ⟨y2, hy2⟩ : ∃ y2, y2 = z + 2147483648 := ⟨_, rfl⟩
              rw [if_pos (by have := HLL.out; omega), ← hy2] at NX
              have g7 : ∀ W, Calls Try.prog 54 #[.int .i64 ((z : Int) + 2147483648)] W fun e w' => e = .returned (.string ⟨(num y2 4).toArray⟩) ∧ Turned (fun _ => False) W w' := fun W => by rw [show (z : Int) + 2147483648 = (y2 : Int) by omega]; exact four_any y2 W (by omega)
              have hzb : z < 131072 := by omega
              have NXH : Hid (epB r (k + 1) = epB r k ++ num y2 4) := NX
              clear hx hxb NX hy2 hkn
              go_wp2_with (first
                | (go_at_call 54; (with_reducible refine (g7 _).mono ?_); rintro e x1 ⟨rfl, htu⟩; have TE1 : Hid (Turned (fun b => ¬ K2 b) u0 x1) := TT.out.trans (htu.mono fun _ _ q => q.elim) (fun _ _ q => q); have BE1 : Hid (Bufs x1 K2 4 (quad u6 u7 u8 u9) (quad tt.R (tt.E ++ epB r k) tt.N tt.B)) := BB.out.later htu; clear htu)
                | (at_builtin; refine wpList_app1 rfl (.tmp 105) (.tmp 107) 9 rfl BE1.out rfl (.string ⟨(num y2 4).toArray⟩) rfl (num y2 4) (src_num _ _ _) (by have := ELEN.out; simp only [num_length]; omega) ?_; intro z7 x2 hbu htu; have TE2 : Hid (Turned (fun b => ¬ K2 b) u0 x2) := TE1.out.trans htu (fun _ _ q => q); have BE2 : Hid (Bufs x2 K2 4 (quad u6 z7 u8 u9) (quad tt.R (tt.E ++ epB r k ++ num y2 4) tt.N tt.B)) := hbu; clear hbu htu))
              go_roundg (gk - 1)
              case measure => have := GK.out; have := HLL.out; omega
              case rel => exact ⟨k + 1, by omega, by have := GK.out; have := HLL.out; omega, by simp <;> omega, by rw [NXH.out, ← List.append_assoc]; exact BE2.out, TE2.out⟩
            · have hd := int_neb ((k : Int) + 1) (LL : Int) (by omega)
              rw [if_neg (by have := HLL.out; omega)] at NX
              have g7 : ∀ W, Calls Try.prog 54 #[.int .i64 (z : Nat)] W fun e w' => e = .returned (.string ⟨(num z 4).toArray⟩) ∧ Turned (fun _ => False) W w' := fun W => four_any z W (by omega)
              have NXH : Hid (epB r (k + 1) = epB r k ++ num z 4) := NX
              clear hx hxb NX hkn
              go_wp2_with (first
                | (go_at_call 54; (with_reducible refine (g7 _).mono ?_); rintro e x1 ⟨rfl, htu⟩; have TE1 : Hid (Turned (fun b => ¬ K2 b) u0 x1) := TT.out.trans (htu.mono fun _ _ q => q.elim) (fun _ _ q => q); have BE1 : Hid (Bufs x1 K2 4 (quad u6 u7 u8 u9) (quad tt.R (tt.E ++ epB r k) tt.N tt.B)) := BB.out.later htu; clear htu)
                | (at_builtin; refine wpList_app1 rfl (.tmp 105) (.tmp 107) 9 rfl BE1.out rfl (.string ⟨(num z 4).toArray⟩) rfl (num z 4) (src_num _ _ _) (by have := ELEN.out; simp only [num_length]; omega) ?_; intro z7 x2 hbu htu; have TE2 : Hid (Turned (fun b => ¬ K2 b) u0 x2) := TE1.out.trans htu (fun _ _ q => q); have BE2 : Hid (Bufs x2 K2 4 (quad u6 z7 u8 u9) (quad tt.R (tt.E ++ epB r k ++ num z 4) tt.N tt.B)) := hbu; clear hbu htu))
              go_roundg (gk - 1)
              case measure => have := GK.out; have := HLL.out; omega
              case rel => exact ⟨k + 1, by omega, by have := GK.out; have := HLL.out; omega, by simp <;> omega, by rw [NXH.out, ← List.append_assoc]; exact BE2.out, TE2.out⟩
          · have hbb := BB.out
            have he : epB r k = edgeB r := by unfold epB; rw [if_pos (by have := GK.out; have := HLL.out; omega)]
            rw [he] at hbb
            have BT : Hid (Bufs wr K2 4 (quad u6 u7 u8 u9) (quad tt.R (tt.E ++ edgeB r) tt.N tt.B)) := hbb
            obtain ⟨e0, e1, -, -, -, el⟩ := RC.out wr TT.out
            clear hbb he BB
            have g2 : ∀ W, Calls Try.prog 54 #[.int .i64 (y : Nat)] W fun e w' => e = .returned (.string ⟨(num y 4).toArray⟩) ∧ Turned (fun _ => False) W w' := fun W => four_any y W (by have := YB.out; omega)
            have g3 : ∀ W, Calls Try.prog 54 #[.int .i64 (s4 : Nat)] W fun e w' => e = .returned (.string ⟨(num s4 4).toArray⟩) ∧ Turned (fun _ => False) W w' := fun W => four_any s4 W (by have := FN.out; omega)
            go_wp2_with (first
              | (go_at_call 54; (with_reducible refine (g1 _).mono ?_); rintro e c1 ⟨rfl, htu⟩; have TC1 : Hid (Turned (fun b => ¬ K2 b) u0 c1) := TT.out.trans (htu.mono fun _ _ q => q.elim) (fun _ _ q => q); have BC1 : Hid (Bufs c1 K2 4 (quad u6 u7 u8 u9) (quad tt.R (tt.E ++ edgeB r) tt.N tt.B)) := BT.out.later htu; clear htu)
              | (at_builtin; refine wpList_app0 rfl (.tmp 109) (.tmp 112) 9 rfl BC1.out rfl (.string ⟨(num tn 4).toArray⟩) rfl (num tn 4) (src_num _ _ _) (by have := SZ.out; simp only [num_length]; omega) ?_; intro d2 c2 hbu htu; have TC2 : Hid (Turned (fun b => ¬ K2 b) u0 c2) := TC1.out.trans htu (fun _ _ q => q); have BC2 : Hid (Bufs c2 K2 4 (quad d2 u7 u8 u9) (quad (tt.R ++ (num tn 4)) (tt.E ++ edgeB r) tt.N tt.B)) := hbu; clear hbu htu)
              | (go_at_call 54; (with_reducible refine (g2 _).mono ?_); rintro e c3 ⟨rfl, htu⟩; have TC3 : Hid (Turned (fun b => ¬ K2 b) u0 c3) := TC2.out.trans (htu.mono fun _ _ q => q.elim) (fun _ _ q => q); have BC3 : Hid (Bufs c3 K2 4 (quad d2 u7 u8 u9) (quad (tt.R ++ (num tn 4)) (tt.E ++ edgeB r) tt.N tt.B)) := BC2.out.later htu; clear htu)
              | (at_builtin; refine wpList_app0 rfl (.tmp 114) (.tmp 116) 9 rfl BC3.out rfl (.string ⟨(num y 4).toArray⟩) rfl (num y 4) (src_num _ _ _) (by have := SZ.out; simp only [List.length_append, num_length]; omega) ?_; intro d4 c4 hbu htu; have TC4 : Hid (Turned (fun b => ¬ K2 b) u0 c4) := TC3.out.trans htu (fun _ _ q => q); have BC4 : Hid (Bufs c4 K2 4 (quad d4 u7 u8 u9) (quad ((tt.R ++ (num tn 4)) ++ (num y 4)) (tt.E ++ edgeB r) tt.N tt.B)) := hbu; clear hbu htu)
              | (go_at_call 54; (with_reducible refine (g3 _).mono ?_); rintro e c5 ⟨rfl, htu⟩; have TC5 : Hid (Turned (fun b => ¬ K2 b) u0 c5) := TC4.out.trans (htu.mono fun _ _ q => q.elim) (fun _ _ q => q); have BC5 : Hid (Bufs c5 K2 4 (quad d4 u7 u8 u9) (quad ((tt.R ++ (num tn 4)) ++ (num y 4)) (tt.E ++ edgeB r) tt.N tt.B)) := BC4.out.later htu; clear htu)
              | (at_builtin; refine wpList_app0 rfl (.tmp 118) (.tmp 120) 9 rfl BC5.out rfl (.string ⟨(num s4 4).toArray⟩) rfl (num s4 4) (src_num _ _ _) (by have := SZ.out; simp only [List.length_append, num_length]; omega) ?_; intro d6 c6 hbu htu; have TC6 : Hid (Turned (fun b => ¬ K2 b) u0 c6) := TC5.out.trans htu (fun _ _ q => q); have BC6 : Hid (Bufs c6 K2 4 (quad d6 u7 u8 u9) (quad (((tt.R ++ (num tn 4)) ++ (num y 4)) ++ (num s4 4)) (tt.E ++ edgeB r) tt.N tt.B)) := hbu; obtain ⟨-, -, e2, -, -, el⟩ := RC.out c6 TC6.out; clear hbu htu)
              | (go_at_call 50; (with_reducible refine (g4 _).mono ?_); rintro e c7 ⟨rfl, htu⟩; have TC7 : Hid (Turned (fun b => ¬ K2 b) u0 c7) := TC6.out.trans (htu.mono fun _ _ q => q.elim) (fun _ _ q => q); have BC7 : Hid (Bufs c7 K2 4 (quad d6 u7 u8 u9) (quad (((tt.R ++ (num tn 4)) ++ (num y 4)) ++ (num s4 4)) (tt.E ++ edgeB r) tt.N tt.B)) := BC6.out.later htu; clear htu)
              | (at_builtin; refine wpList_app0 rfl (.tmp 122) (.tmp 126) 9 rfl BC7.out rfl (.string ⟨(num gn 2).toArray⟩) rfl (num gn 2) (src_num _ _ _) (by have := SZ.out; simp only [List.length_append, num_length]; omega) ?_; intro d8 c8 hbu htu; have TC8 : Hid (Turned (fun b => ¬ K2 b) u0 c8) := TC7.out.trans htu (fun _ _ q => q); have BC8 : Hid (Bufs c8 K2 4 (quad d8 u7 u8 u9) (quad ((((tt.R ++ (num tn 4)) ++ (num y 4)) ++ (num s4 4)) ++ (num gn 2)) (tt.E ++ edgeB r) tt.N tt.B)) := hbu; obtain ⟨-, -, -, e3, -, el3⟩ := RC.out c8 TC8.out; clear hbu htu)
              | (at_builtin; refine wpList_app0 rfl (.tmp 128) (.tmp 133) 51 rfl (BC8.out.later (Turned.alloc _ _ _)) rfl _ rfl (num rs 1) (src_byte _ _ (by have := RB.out; omega)) (by have := SZ.out; simp only [List.length_append, num_length]; omega) ?_; intro d9 c9 hbu htu; have TC9 : Hid (Turned (fun b => ¬ K2 b) u0 c9) := (TC8.out.new _).trans htu (fun _ _ q => q); have BC9 : Hid (Bufs c9 K2 4 (quad d9 u7 u8 u9) (quad (((((tt.R ++ (num tn 4)) ++ (num y 4)) ++ (num s4 4)) ++ (num gn 2)) ++ (num rs 1)) (tt.E ++ edgeB r) tt.N tt.B)) := hbu; obtain ⟨-, -, -, -, e4, el4⟩ := RC.out c9 TC9.out; clear hbu htu)
              | (at_builtin; refine wpList_app3 rfl (.tmp 135) (.tmp 138) 9 rfl BC9.out rfl (.string r.bits) rfl r.bits.data.toList (src_str _ _) (by have := SZ.out; rw [ba_len]; omega) ?_; intro d10 c10 hbu htu; have TC10 : Hid (Turned (fun b => ¬ K2 b) u0 c10) := TC9.out.trans htu (fun _ _ q => q); have BC10 : Hid (Bufs c10 K2 4 (quad d9 u7 u8 d10) (quad (((((tt.R ++ (num tn 4)) ++ (num y 4)) ++ (num s4 4)) ++ (num gn 2)) ++ (num rs 1)) (tt.E ++ edgeB r) tt.N (tt.B ++ r.bits.data.toList))) := hbu; obtain ⟨-, -, -, pz, cz, hdz⟩ := BC10.out.lens; rw [← LB.out.1] at hdz; subst hdz; clear hbu htu)
              | (go_at_call 54; (with_reducible refine (g5 _).mono ?_); rintro e c11 ⟨rfl, htu⟩; have TC11 : Hid (Turned (fun b => ¬ K2 b) u0 c11) := TC10.out.trans (htu.mono fun _ _ q => q.elim) (fun _ _ q => q); have BC11 : Hid (Bufs c11 K2 4 (quad d9 u7 u8 (.slice pz lb cz)) (quad (((((tt.R ++ (num tn 4)) ++ (num y 4)) ++ (num s4 4)) ++ (num gn 2)) ++ (num rs 1)) (tt.E ++ edgeB r) tt.N (tt.B ++ r.bits.data.toList))) := BC10.out.later htu; clear htu)
              | (at_builtin; refine wpList_app2 rfl (.tmp 140) (.tmp 143) 9 rfl BC11.out rfl (.string ⟨(num lb 4).toArray⟩) rfl (num lb 4) (src_num _ _ _) (by have := SZ.out; simp only [num_length]; omega) ?_; intro d12 c12 hbu htu; have TC12 : Hid (Turned (fun b => ¬ K2 b) u0 c12) := TC11.out.trans htu (fun _ _ q => q); have BC12 : Hid (Bufs c12 K2 4 (quad d9 u7 d12 (.slice pz lb cz)) (quad (((((tt.R ++ (num tn 4)) ++ (num y 4)) ++ (num s4 4)) ++ (num gn 2)) ++ (num rs 1)) (tt.E ++ edgeB r) (tt.N ++ (num lb 4)) (tt.B ++ r.bits.data.toList))) := hbu; clear hbu htu))
            · have HLT : Hid (4194304 < lb) := (by have q : (4194304 : Int) < (lb : Int) := (by assumption); omega : 4194304 < lb)
              go_ret2
              obtain ⟨z1, z2⟩ := FIN.out _ _ _ BC12.out TC12.out
              exact ⟨by rw [LONG.out (Nat.lt_of_lt_of_le HLT.out MONO.out)]; rfl, V6W.out.1.comp z2 (T := fun _ => False) fun b hb q => q.elim id fun q => q (Nat.lt_of_lt_of_le hb V6W.out.1.size)⟩
            · have HGE : Hid (¬ 4194304 < lb) := (by have q : (lb : Int) ≤ 4194304 := (by assumption); omega : ¬ 4194304 < lb)
              go_roundg (L - (j + 1))
              case measure => have := G.out; have := HL.out; omega
              case rel =>
                obtain ⟨z1, z2⟩ := FIN.out _ _ _ BC12.out TC12.out
                refine ⟨j + 1, by have := G.out; have := HL.out; omega, by simp <;> omega, ?_, ?_, z2⟩
                · rw [ST.out, SAY.out _ _ FN.out.1 FN.out.2.1]
                  skip
                  simpa only [List.append_assoc] using z1
                · rw [ST.out]
                  show (tt.B ++ r.bits.data.toList).length ≤ 4194304
                  rw [← LB.out.1]; have := HGE.out; omega
      · have hj : rows.take j = rows := List.take_of_length_le (by have := HL.out; omega)
        have hws := WS.out
        have hbl := BL.out
        rw [hj] at hws hbl
        have HEV : Hid (EV = buildV CG) := WELL.out (by omega)
        have hrows16 : ∀ x ∈ rows, x.par.length ≤ 16 := fun x hx => by
          obtain ⟨i, hi⟩ := List.getElem?_of_mem hx
          exact (GR.out i x hi).1.1
        have hE := tellT_E rows hrows16
        have hR := tellT_R rows
        have hN := tellT_N rows
        have hrl : rows.length ≤ 65536 := by have := NB.out; have := HL.out; omega
        have hHB : HB.length ≤ 100 := by rw [HH.out]; simp [num_length]
        obtain ⟨k1, k2, k3, k4⟩ := hws.back wr (Turned.refl _ _)
        have hbu : Calls Try.prog 18 #[.slice (some ⟨wr.heap.size, 0, none⟩) 5 5] (wr.alloc (.cells #[.int .u32 1, .string ⟨HB.toArray⟩, .int .u32 2, .string ⟨(tellT rows).R.toArray⟩, .int .u32 3, .string ⟨(tellT rows).E.toArray⟩, .int .u32 4, .string ⟨(tellT rows).N.toArray⟩, .int .u32 5, .string ⟨(tellT rows).B.toArray⟩] 31)) fun e w' => e = .returned (buildV CG) ∧ Turned (fun _ => False) (wr.alloc (.cells #[.int .u32 1, .string ⟨HB.toArray⟩, .int .u32 2, .string ⟨(tellT rows).R.toArray⟩, .int .u32 3, .string ⟨(tellT rows).E.toArray⟩, .int .u32 4, .string ⟨(tellT rows).N.toArray⟩, .int .u32 5, .string ⟨(tellT rows).B.toArray⟩] 31)) w' := by
          rw [CHK.out]
          exact rbuild_any _ _ _ _ (chIs_five wr ⟨HB.toArray⟩ ⟨(tellT rows).R.toArray⟩ ⟨(tellT rows).E.toArray⟩ ⟨(tellT rows).N.toArray⟩ ⟨(tellT rows).B.toArray⟩ ⟨by rw [ba_size]; omega, by rw [ba_size]; omega, by rw [ba_size]; omega, by rw [ba_size]; omega, by rw [ba_size]; omega⟩)
        have hbv : ∃ s e, buildV CG = .tuple #[.string s, .int .i64 e] := by
          unfold buildV
          split
          · exact ⟨_, _, rfl⟩
          · exact ⟨_, _, rfl⟩
        obtain ⟨bs, be, hbv⟩ := hbv
        rw [hbv] at hbu HEV
        rw [← HHB.out] at hbu
        clear hj hws hbl hrows16 hE hR hN hrl hHB hbv CHK hsz
        generalize (⟨(tellT rows).R.toArray⟩ : ByteArray) = q1 at *
        generalize (⟨(tellT rows).E.toArray⟩ : ByteArray) = q2 at *
        generalize (⟨(tellT rows).N.toArray⟩ : ByteArray) = q3 at *
        generalize (⟨(tellT rows).B.toArray⟩ : ByteArray) = q4 at *
        go_wp2_with (go_at_call 18; (with_reducible refine hbu.mono ?_); rintro e z2 ⟨rfl, htv⟩)
        go_ret2
        exact ⟨by rw [HEV.out]; rfl, V6W.out.1.comp ((T.out.new _).comp htv (T := fun b => ¬ b < v6.heap.size) fun b hb q => q.elim id fun q => q.elim) (T := fun _ => False) fun b hb q => q.elim id fun q => q (Nat.lt_of_lt_of_le hb V6W.out.1.size)⟩
  · rw [grErr_no hg] at hck
    have HEV : Hid (encG g = .tuple #[.string ⟨#[]⟩, .int .i64 1]) := by
      have q : encG g = .tuple #[.string ⟨#[]⟩, .int .i64 1] := by unfold encG; rw [if_neg (by rw [grErr_no hg]; decide)]
      exact q
    generalize encG g = EV at *
    generalize g.base = x0 at *
    generalize g.h = x1 at *
    generalize g.p = x2 at *
    generalize g.m = x3 at *
    generalize g.seed = x4 at *
    clear h h0 hok hg hL HL
    go_enter Try.func25, Try.ntmps25
    go_wp2_with (go_at_call 27; (with_reducible refine hck.mono ?_); rintro e w1 ⟨rfl, ht1⟩)
    go_ret2
    exact ⟨by rw [HEV.out]; rfl, (Turned.alloc _ _ _).trans ht1 fun _ _ q => q⟩
end Go.Proofs.Ytfeljngmidhajaa

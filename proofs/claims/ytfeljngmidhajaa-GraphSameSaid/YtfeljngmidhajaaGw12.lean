/- Lists of bytes beside one another: each has a row of its own; what an append to one of them makes. -/
import Derived.Test.YtfeljngmidhajaaGw11
namespace Go.Proofs.Ytfeljngmidhajaa
open Go.RowKit Go.Mine

/-- n slices of bytes v 0, v 1, .. that hold f 0, f 1, ..; the blocks of K are none of theirs -/
def Bufs (w : World) (K : Nat → Prop) (n : Nat) (v : Nat → Value) (f : Nat → List UInt8) : Prop :=
  ∃ own : Nat → Nat, (∀ b, K b → n ≤ own b ∧ b < w.heap.size) ∧ ∀ i, i < n → Sl w (fun b => own b = i ∧ b < w.heap.size) 5 1 (v i) (bcells (f i)) (f i).length

theorem Bufs.step {w : World} {K : Nat → Prop} {n : Nat} {v : Nat → Value} {f : Nat → List UInt8} (h : Bufs w K n v f) (i : Nat) (hi : i < n) :
    ∃ S : Nat → Prop, Sl w S 5 1 (v i) (bcells (f i)) (f i).length ∧ (∀ b, S b → ¬ K b) ∧ ∀ w' v' bs', Sl w' (More S w) 5 1 v' (bcells bs') bs'.length → Turned S w w' → Bufs w' K n (upd v i v') (upd f i bs') ∧ Turned (fun b => ¬ K b) w w' := by
  obtain ⟨own, hK, hw⟩ := h
  have hS : ∀ b, own b = i ∧ b < w.heap.size → ¬ K b := fun b q k => by have := (hK b k).1; omega
  refine ⟨fun b => own b = i ∧ b < w.heap.size, hw i hi, hS, fun w' v' bs' h1 ht => ⟨⟨fun b => if b < w.heap.size then own b else i, fun b k => ?_, fun j hj => ?_⟩, ht.mono fun b _ q => hS b q⟩⟩
  · have hk := hK b k
    have := ht.size
    simp only [if_pos hk.2]
    exact ⟨hk.1, by omega⟩
  · by_cases hji : j = i
    · subst hji
      rw [upd_same, upd_same]
      refine (sl_bound h1).widen fun b ⟨q, hb⟩ => ⟨?_, hb⟩
      by_cases hlt : b < w.heap.size
      · simp only [if_pos hlt]
        rcases q with q | q
        · exact q.1
        · omega
      · simp only [if_neg hlt]
    · rw [upd_other _ _ _ _ hji, upd_other _ _ _ _ hji]
      refine ((hw j hj).turned ht fun b q z => hji (q.1.symm.trans z.1)).widen fun b q => ?_
      have := ht.size
      simp only [if_pos q.2]
      exact ⟨q.1, by omega⟩
theorem Bufs.turned {w w' : World} {K : Nat → Prop} {n : Nat} {v : Nat → Value} {f : Nat → List UInt8} (h : Bufs w K n v f) (ht : Turned (fun b => K b) w w') :
    Bufs w' (fun b => K b ∨ (w.heap.size ≤ b ∧ b < w'.heap.size)) n v f := by
  obtain ⟨own, hK, hw⟩ := h
  refine ⟨fun b => if b < w.heap.size then own b else n, fun b k => ?_, fun j hj => ?_⟩
  · rcases k with k | k
    · have hk := hK b k
      have := ht.size
      simp only [if_pos hk.2]
      exact ⟨hk.1, by omega⟩
    · simp only [if_neg (show ¬ b < w.heap.size by omega)]
      exact ⟨Nat.le_refl _, k.2⟩
  · refine ((hw j hj).turned ht fun b q z => by have := (hK b z).1; omega).widen fun b q => ?_
    have := ht.size
    simp only [if_pos q.2]
    exact ⟨q.1, by omega⟩
theorem Bufs.mono {w : World} {K K' : Nat → Prop} {n : Nat} {v : Nat → Value} {f : Nat → List UInt8} (h : Bufs w K n v f) (hK : ∀ b, K' b → K b) : Bufs w K' n v f := by
  obtain ⟨own, h1, h2⟩ := h
  exact ⟨own, fun b q => h1 b (hK b q), h2⟩
/-- behind a call that only makes new memory -/
theorem Bufs.later {w w' : World} {K : Nat → Prop} {n : Nat} {v : Nat → Value} {f : Nat → List UInt8} (h : Bufs w K n v f) (ht : Turned (fun _ => False) w w') : Bufs w' K n v f :=
  (h.turned (ht.mono fun _ _ q => q.elim)).mono fun _ q => .inl q
theorem Bufs.nil (w : World) (K : Nat → Prop) (hK : ∀ b, K b → b < w.heap.size) : Bufs w K 4 (fun _ => .slice none 0 0) (fun _ => []) :=
  ⟨fun _ => 4, fun b q => ⟨Nat.le_refl _, hK b q⟩, fun i _ => Sl.nil _ _ _ _⟩
theorem Bufs.congr {w : World} {K : Nat → Prop} {n : Nat} {v v' : Nat → Value} {f f' : Nat → List UInt8} (h : Bufs w K n v f) (hv : ∀ i, i < n → v' i = v i) (hf : ∀ i, i < n → f' i = f i) : Bufs w K n v' f' := by
  obtain ⟨own, h1, h2⟩ := h
  exact ⟨own, h1, fun i hi => by rw [hv i hi, hf i hi]; exact h2 i hi⟩

def quad {α : Type} (a b c d : α) : Nat → α
  | 0 => a
  | 1 => b
  | 2 => c
  | _ + 3 => d
section
variable {α : Type} (a b c d x : α)
theorem quad0 : upd (quad a b c d) 0 x = quad x b c d := by funext i; rcases i with _ | _ | _ | i <;> simp [upd, quad]
theorem quad1 : upd (quad a b c d) 1 x = quad a x c d := by funext i; rcases i with _ | _ | _ | i <;> simp [upd, quad]
theorem quad2 : upd (quad a b c d) 2 x = quad a b x d := by funext i; rcases i with _ | _ | _ | i <;> simp [upd, quad]
theorem quad3 (i : Nat) (hi : i < 4) : upd (quad a b c d) 3 x i = quad a b c x i := by rcases i with _ | _ | _ | _ | i <;> first | (exfalso; omega) | simp [upd, quad]
end

section
variable {w : World} {K : Nat → Prop} {va vb vc vd : Value} {R E N B : List UInt8} {ops : Array Oper} {rest : List Oper} {o : Oper} {a : Act} {Q : Exit → Act → World → Prop}
theorem Bufs.lens (h : Bufs w K 4 (quad va vb vc vd) (quad R E N B)) : (∃ p c, va = .slice p R.length c) ∧ (∃ p c, vb = .slice p E.length c) ∧ (∃ p c, vc = .slice p N.length c) ∧ ∃ p c, vd = .slice p B.length c := by
  obtain ⟨own, -, h⟩ := h
  have q : ∀ i, i < 4 → ∃ p c, (quad va vb vc vd) i = .slice p ((quad R E N B) i).length c := fun i hi => by
    obtain ⟨p, c, e, -, -⟩ := (h i hi).value
    exact ⟨p, c, e⟩
  exact ⟨q 0 (by decide), q 1 (by decide), q 2 (by decide), q 3 (by decide)⟩
theorem Bufs.back (h : Bufs w K 4 (quad va vb vc vd) (quad R E N B)) (W : World) (ht : Turned (fun _ => False) w W) :
    (convert 51 9 va).run Try.prog W = .ok (.string ⟨R.toArray⟩) W ∧ (convert 51 9 vb).run Try.prog W = .ok (.string ⟨E.toArray⟩) W ∧ (convert 51 9 vc).run Try.prog W = .ok (.string ⟨N.toArray⟩) W ∧ (convert 51 9 vd).run Try.prog W = .ok (.string ⟨B.toArray⟩) W := by
  obtain ⟨own, -, h⟩ := h.later ht
  exact ⟨sl_back (h 0 (by decide)), sl_back (h 1 (by decide)), sl_back (h 2 (by decide)), sl_back (h 3 (by decide))⟩

theorem wpList_app (hgd : o.guard = none) (so xo : Operand) (tx : TypeId) {n : Nat} {v : Nat → Value} {f : Nat → List UInt8}
    (ho : o.op = .call { callee := .builtin .append, args := #[so, xo], argTypes := #[51, tx] }) (h : Bufs w K n v f) (i : Nat) (hi : i < n)
    (hs : a.eval so = v i) (x : Value) (hx : a.eval xo = x) (bs : List UInt8) (hsrc : Src Try.prog 1 tx x bs.length (bcells bs) w) (hL : (f i).length + bs.length ≤ 1099511627776)
    (hK : ∀ v' w', Bufs w' K n (upd v i v') (upd f i (f i ++ bs)) → Turned (fun b => ¬ K b) w w' → wpList Try.prog ops Q rest (a.put o.dst v') w') : wpList Try.prog ops Q (o :: rest) a w := by
  obtain ⟨S, h1, h2, h3⟩ := h.step i hi
  refine wpList_append hgd so xo 51 tx ho h1 Try.underlying51 info5 rfl (by decide) hs x hx hsrc (by simp only [maxLen]; omega) (by omega) fun v' w' hsl ht => ?_
  rw [← bcells_append, ← List.length_append] at hsl
  obtain ⟨k1, k2⟩ := h3 w' v' _ hsl ht
  exact hK v' w' k1 k2
theorem wpList_app0 (hgd : o.guard = none) (so xo : Operand) (tx : TypeId) (ho : o.op = .call { callee := .builtin .append, args := #[so, xo], argTypes := #[51, tx] }) (h : Bufs w K 4 (quad va vb vc vd) (quad R E N B))
    (hs : a.eval so = va) (x : Value) (hx : a.eval xo = x) (bs : List UInt8) (hsrc : Src Try.prog 1 tx x bs.length (bcells bs) w) (hL : R.length + bs.length ≤ 1099511627776)
    (hK : ∀ v' w', Bufs w' K 4 (quad v' vb vc vd) (quad (R ++ bs) E N B) → Turned (fun b => ¬ K b) w w' → wpList Try.prog ops Q rest (a.put o.dst v') w') : wpList Try.prog ops Q (o :: rest) a w :=
  wpList_app hgd so xo tx ho h 0 (by decide) hs x hx bs hsrc hL fun v' w' h1 => by rw [quad0, quad0] at h1; exact hK v' w' h1
theorem wpList_app1 (hgd : o.guard = none) (so xo : Operand) (tx : TypeId) (ho : o.op = .call { callee := .builtin .append, args := #[so, xo], argTypes := #[51, tx] }) (h : Bufs w K 4 (quad va vb vc vd) (quad R E N B))
    (hs : a.eval so = vb) (x : Value) (hx : a.eval xo = x) (bs : List UInt8) (hsrc : Src Try.prog 1 tx x bs.length (bcells bs) w) (hL : E.length + bs.length ≤ 1099511627776)
    (hK : ∀ v' w', Bufs w' K 4 (quad va v' vc vd) (quad R (E ++ bs) N B) → Turned (fun b => ¬ K b) w w' → wpList Try.prog ops Q rest (a.put o.dst v') w') : wpList Try.prog ops Q (o :: rest) a w :=
  wpList_app hgd so xo tx ho h 1 (by decide) hs x hx bs hsrc hL fun v' w' h1 => by rw [quad1, quad1] at h1; exact hK v' w' h1
theorem wpList_app2 (hgd : o.guard = none) (so xo : Operand) (tx : TypeId) (ho : o.op = .call { callee := .builtin .append, args := #[so, xo], argTypes := #[51, tx] }) (h : Bufs w K 4 (quad va vb vc vd) (quad R E N B))
    (hs : a.eval so = vc) (x : Value) (hx : a.eval xo = x) (bs : List UInt8) (hsrc : Src Try.prog 1 tx x bs.length (bcells bs) w) (hL : N.length + bs.length ≤ 1099511627776)
    (hK : ∀ v' w', Bufs w' K 4 (quad va vb v' vd) (quad R E (N ++ bs) B) → Turned (fun b => ¬ K b) w w' → wpList Try.prog ops Q rest (a.put o.dst v') w') : wpList Try.prog ops Q (o :: rest) a w :=
  wpList_app hgd so xo tx ho h 2 (by decide) hs x hx bs hsrc hL fun v' w' h1 => by rw [quad2, quad2] at h1; exact hK v' w' h1
theorem wpList_app3 (hgd : o.guard = none) (so xo : Operand) (tx : TypeId) (ho : o.op = .call { callee := .builtin .append, args := #[so, xo], argTypes := #[51, tx] }) (h : Bufs w K 4 (quad va vb vc vd) (quad R E N B))
    (hs : a.eval so = vd) (x : Value) (hx : a.eval xo = x) (bs : List UInt8) (hsrc : Src Try.prog 1 tx x bs.length (bcells bs) w) (hL : B.length + bs.length ≤ 1099511627776)
    (hK : ∀ v' w', Bufs w' K 4 (quad va vb vc v') (quad R E N (B ++ bs)) → Turned (fun b => ¬ K b) w w' → wpList Try.prog ops Q rest (a.put o.dst v') w') : wpList Try.prog ops Q (o :: rest) a w :=
  wpList_app hgd so xo tx ho h 3 (by decide) hs x hx bs hsrc hL fun v' w' h1 => hK v' w' (h1.congr (fun i hi => (quad3 _ _ _ _ _ i hi).symm) fun i hi => (quad3 _ _ _ _ _ i hi).symm)
end

theorem src_str (w : World) (s : ByteArray) : Src Try.prog 1 9 (.string s) s.data.toList.length (bcells s.data.toList) w := by
  have := Src.ofString (P := Try.prog) w Try.underlying9 s
  rw [byteCells_eq, ← ba_len] at this
  exact this
theorem src_num (w : World) (v n : Nat) : Src Try.prog 1 9 (.string ⟨(num v n).toArray⟩) (num v n).length (bcells (num v n)) w := src_str w ⟨(num v n).toArray⟩
theorem num_one (v : Nat) (hv : v < 256) : num v 1 = [UInt8.ofNat v] := by simp [num]
theorem src_byte (w : World) (v : Nat) (hv : v < 256) : Src Try.prog 1 51 (.slice (some ⟨w.heap.size, 0, none⟩) 1 1) (num v 1).length (bcells (num v 1)) (w.alloc (.cells #[.int .u8 (v : Nat)] 5)) := by
  have h := src_one (P := Try.prog) (te := 5) Try.underlying51 (.int .u8 (v : Nat)) rfl w
  have e : bcells (num v 1) = [.int .u8 (v : Nat)] := by
    rw [num_one v hv]
    simp only [bcells, List.map_cons, List.map_nil, List.cons.injEq, and_true]
    congr 1
    simp [UInt8.toNat_ofNat']
    omega
  rw [e, num_length]
  exact h

set_option maxRecDepth 100000 in
theorem four_any (k : Nat) (w : World) (hk : k < 4294967296) : Calls Try.prog 54 #[.int .i64 (k : Nat)] w fun e w' => e = .returned (.string ⟨(num k 4).toArray⟩) ∧ Turned (fun _ => False) w w' := by
  have hn : Calls Try.prog 50 #[.int .u64 (k : Nat), .int .i64 4] w fun e w' => e = .returned (.string ⟨(num k 4).toArray⟩) ∧ Turned (fun _ => False) w w' := number_any k 4 w (by omega) (by decide)
  have hm : ((k : Nat) : Int) % 18446744073709551616 = (k : Int) := by omega
  generalize (⟨(num k 4).toArray⟩ : ByteArray) = q at *
  clear hk
  go_enter Try.func54, Try.ntmps54
  go_wp2_with (go_at_call 50; (with_reducible refine hn.mono ?_); rintro e w2 ⟨rfl, ht⟩)
  go_ret
  exact ⟨rfl, ht⟩
end Go.Proofs.Ytfeljngmidhajaa

/- A script read: the walk of Parse, its loop. -/
import Derived.Test.YteblabpplaaddaaGreatDoorPb
import Derived.Test.YteblabpplaaddaaGreatDoorRow
import Derived.RangeFuncCalls
set_option linter.unusedVariables false
set_option linter.unusedSimpArgs false
namespace Go.Proofs.YteblabpplaaddaaGreatDoor
open Go.RowKit Go.Mine Go.Mine.Sc
attribute [local go_sem] Oper.semAt_some

def ParsePost (w : World) (r : List Cmd × Nat) (e : Ending) (w' : World) : Prop :=
  (∃ v, e = .returned (.tuple #[v, .int .i64 (r.2 : Nat)]) ∧ CmdsAt w' (fun b => w.heap.size ≤ b) 39 v r.1) ∧ Turned (fun _ => False) w w'

/-- what Parse makes of lines -/
def linesS (t : B) : List Cmd × Nat := match pLines (parts t) with | none => ([], 14) | some l => (l, 0)

theorem nLines_ends {t : B} (h : t = [] ∨ t.getLast? = some 10) : nLines t = t.count 10 := by unfold nLines; rw [if_pos h]
theorem nLines_open {t : B} (h : ¬ (t = [] ∨ t.getLast? = some 10)) : nLines t = t.count 10 + 1 := by unfold nLines; rw [if_neg h]

section
variable {P : Program} {w : World} {S : Nat → Prop} {e t tx : TypeId} {size bytes : Nat} {v x z : Value} {xs news : List Value} {n m : Nat}
theorem step_append_in {F : Fence} {N : Nat} {ops : Array Oper} {o : Oper} {a : Act} {K : Act → World → Prop} {Q : Exit → Act → World → Prop} {E : Prop} (hgd : o.guard = none) (so xo : Operand) (t tx : TypeId)
    (ho : o.op = .call { callee := .builtin .append, args := #[so, xo], argTypes := #[t, tx] })
    (h : Sl w S e size v xs n) (ht : P.underlying t = some (.slice e)) (hinf : (P.info? e).map (fun i => (i.zero, i.size, i.bytes)) = some (some z, size, bytes)) (hzs : z.cells.size = size) (hs0 : 0 < size)
    (hs : a.eval so = v) (x : Value) (hx : a.eval xo = x) (hsrc : Src P size tx x m news w) (h63 : n + m ≤ maxLen) (hbytes : (n + m) * bytes ≤ 140737488355328)
    (hK : ∀ v' w', Sl w' (More S w) e size v' (xs ++ news) (n + m) → Turned S w w' → K (a.put o.dst v') w') :
    if Region.wanted o (yielded ops a.tmps) = true then Oper.wpIn F N P o a w K Q else E := by
  have hw : Region.wanted o (yielded ops a.tmps) = true := by simp [Region.wanted, hgd]
  rw [if_pos hw]
  obtain ⟨i, hi, hz0, hz1, hz2⟩ := info_parts hinf
  obtain ⟨v', w', hrun, r1, r2⟩ := h.append ht hi hz0 hz1 hz2 hzs hs0 hsrc h63 hbytes o.type
  unfold Oper.wpIn
  refine ⟨?_, ?_⟩
  · simp [Oper.about, ho, resolve, Target.leads, Sem.run_pure]
  · rw [Oper.semAt_plain F _ _ (by rw [ho]; intro c hc'; cases hc')]
    simp [execOp, ho, resolve, invoke, builtin, hs, hx, hrun, Result.andThen]
    exact hK _ _ r1 r2
end

/-- between two rounds: k lines have come -/
def PI (w0 w : World) (t : B) (k : Nat) (W : World) : Prop :=
  ∃ (l : List Cmd) (a : Option Addr) (cap : Nat), pLines ((parts t).take k) = some l ∧ W.heap[w.heap.size]? = some (.cells #[.slice a l.length cap] 29 (0, 0)) ∧ W.heap[w.heap.size + 1]? = some (.cells #[.int .i64 0] 30 (0, 0)) ∧
    CmdsAt W (fun b => w.heap.size + 7 ≤ b) 39 (.slice a l.length cap) l ∧ Turned (fun _ => False) w W ∧ Lw w0 W ∧ l.length ≤ k
/-- a line is none -/
def PX (w : World) (t : B) (ch : List PanicEntry) (W : World) : Prop :=
  ch = [wrongE] ∧ pLines (parts t) = none ∧ (∃ x, W.heap[w.heap.size]? = some (.cells #[x] 29 (0, 0))) ∧ W.heap[w.heap.size + 1]? = some (.cells #[.int .i64 0] 30 (0, 0)) ∧ Turned (fun _ => False) w W
theorem PI.turned {w0 w : World} {t : B} {k : Nat} {W W' : World} {T : Nat → Prop} (h : PI w0 w t k W) (ht : Turned T W W') (hlow : w0.heap.size ≤ w.heap.size) (hT : ∀ b, T b → w.heap.size + 2 ≤ b ∧ b < w.heap.size + 7) : PI w0 w t k W' := by
  obtain ⟨l, a, cap, h1, h2, h3, h4, h5, h6, h7⟩ := h
  exact ⟨l, a, cap, h1, (ht.block _ (lt_of_block h2) fun q => by have := hT _ q; omega).trans h2, (ht.block _ (lt_of_block h3) fun q => by have := hT _ q; omega).trans h3,
    h4.turned ht fun b q z => by have := hT _ z; omega, h5.comp ht fun b hb q => q.elim id fun q => by have := hT _ q; omega, h6.turned ht fun b q => by have := hT _ q; omega, h7⟩

theorem pLines_none_take {ls : List B} (k : Nat) (h : pLines (ls.take k) = none) : pLines ls = none := by
  have := pLines_app (ls.take k) (ls.drop k)
  rw [List.take_append_drop, h] at this
  exact this
theorem parts_le : ∀ (t : B), ∀ l ∈ parts t, l.length ≤ t.length
  | [], l, h => by
    rw [parts_nil] at h
    simp at h
    simp [h]
  | c :: r, l, h => by
    by_cases hc : c = 10
    · subst hc
      rw [parts_10] at h
      rcases List.mem_cons.1 h with rfl | h
      · simp
      · have := parts_le r l h; simp; omega
    · obtain ⟨x, xs, h1, h2⟩ := parts_c c r hc
      rw [h2] at h
      rcases List.mem_cons.1 h with rfl | h
      · have := parts_le r x (by rw [h1]; simp); simp; omega
      · have := parts_le r l (by rw [h1]; exact List.mem_cons_of_mem _ h); simp; omega

theorem hid_of {p : Prop} (h : p) : Hid p := h
theorem px_of {w W WA w4 : World} {t : B} {l0 : Value} {D : Nat} (hN : pLines (parts t) = none) (h0 : W.heap[w.heap.size]? = some (.cells #[l0] 29 (0, 0))) (h1 : W.heap[w.heap.size + 1]? = some (.cells #[.int .i64 0] 30 (0, 0)))
    (ht : Turned (fun _ => False) w W) (ta : Turned (fun _ => False) W WA) (t4 : Turned (· = W.heap.size) WA w4) (hD : D = w.heap.size + 5) (hW : D + 2 ≤ W.heap.size) {a : Act} (ha : a.defers = [] := by rfl) :
    a.defers = [] ∧ PX w t [wrongE] w4 ∧ w4.heap[D]? = W.heap[D]? := by
  have t5 : Turned (fun _ => False) W w4 := ta.comp t4 fun b hb q => q.elim id fun q => by omega
  exact ⟨ha, ⟨rfl, hN, ⟨_, (t5.block _ (lt_of_block h0) id).trans h0⟩, (t5.block _ (lt_of_block h1) id).trans h1, ht.trans t5 fun _ _ q => q⟩, t5.block _ (by omega) id⟩
/-- a command has been read -/
theorem ok_of {w W WA w4 : World} {l0 : Value} {c : Cmd} {cs : Array Value} {D : Nat} (h0 : W.heap[w.heap.size]? = some (.cells #[l0] 29 (0, 0))) (h1 : W.heap[w.heap.size + 1]? = some (.cells #[.int .i64 0] 30 (0, 0)))
    (ta : Turned (fun _ => False) W WA) (t4 : Turned (· = W.heap.size) WA w4) (hD : D = w.heap.size + 5) (hW : D + 2 ≤ W.heap.size) (hA : WA.heap.size = W.heap.size + 1) (hc : CmdV w4 (fun b => WA.heap.size ≤ b) c cs) :
    Hid (Turned (fun _ => False) W w4 ∧ CmdV w4 (fun b => W.heap.size ≤ b) c cs ∧ w4.heap[w.heap.size]? = some (.cells #[l0] 29 (0, 0)) ∧ w4.heap[w.heap.size + 1]? = some (.cells #[.int .i64 0] 30 (0, 0))) := by
  have t5 : Turned (fun _ => False) W w4 := ta.comp t4 fun b hb q => q.elim id fun q => by omega
  exact ⟨t5, hc.widen fun b q => by omega, (t5.block _ (lt_of_block h0) id).trans h0, (t5.block _ (lt_of_block h1) id).trans h1⟩
theorem src_cmd (w4 : World) {S : Nat → Prop} {c : Cmd} (cs : Array Value) (hc : CmdV w4 S c cs) : Src Tryz.prog 11 29 (.slice (some ⟨w4.heap.size, 0, none⟩) 1 1) 1 cs.toList (w4.alloc (.cells cs 39)) := by
  have hs : cs.toList.length = 11 := by rw [Array.length_toList]; exact hc.size
  have : Sl (w4.alloc (.cells cs 39)) (fun _ => True) 39 11 (.slice (some ⟨w4.heap.size, 0, none⟩) 1 1) cs.toList 1 :=
    ⟨by omega, .inr ⟨w4.heap.size, 0, 1, cs, rfl, trivial, heap_alloc_new w4 _, Nat.le_refl _, by simp [maxLen], by have := hc.size; omega, by simp only [List.drop_zero, Nat.one_mul]; exact List.take_of_length_le (by omega)⟩⟩
  exact this.src Tryz.underlying29 hc.one
/-- it has been laid behind the others -/
theorem app_of {w W w4 w5 : World} {R : Nat → Prop} {l : List Cmd} {xs : List Value} {c : Cmd} {cs : Array Value} {l0 a5 : Value} {D : Nat} (hR : ∀ b, R b → w.heap.size + 7 ≤ b) (hx : CmdsV W (fun b => w.heap.size + 7 ≤ b ∧ ¬ R b) l xs)
    (t4 : Turned (fun _ => False) W w4) (hc : CmdV w4 (fun b => W.heap.size ≤ b) c cs) (h0 : w4.heap[w.heap.size]? = some (.cells #[l0] 29 (0, 0))) (h1 : w4.heap[w.heap.size + 1]? = some (.cells #[.int .i64 0] 30 (0, 0))) (hD : D = w.heap.size + 5) (hW : D + 2 ≤ W.heap.size)
    (hRW : ∀ b, R b → b < W.heap.size) (q5 : Sl w5 (More R (w4.alloc (.cells cs 39))) 39 11 a5 (xs ++ cs.toList) (l.length + 1)) (t5 : Turned R (w4.alloc (.cells cs 39)) w5) :
    Hid (w5.heap[w.heap.size]? = some (.cells #[l0] 29 (0, 0)) ∧ w5.heap[w.heap.size + 1]? = some (.cells #[.int .i64 0] 30 (0, 0)) ∧ CmdsAt w5 (fun b => w.heap.size + 7 ≤ b) 39 a5 (l ++ [c]) ∧ Turned R w4 w5 ∧ ∀ b, R b → w.heap.size + 7 ≤ b) := by
  have hsz : (w4.alloc (.cells cs 39)).heap.size = w4.heap.size + 1 := by simp
  have t6 : Turned R w4 w5 := (Turned.alloc R w4 _).trans t5 fun _ _ q => q
  have hs := t4.size
  refine ⟨(t6.block _ (lt_of_block h0) fun q => by have := hR _ q; omega).trans h0, (t6.block _ (lt_of_block h1) fun q => by have := hR _ q; omega).trans h1, ?_, t6, hR⟩
  refine ⟨xs ++ cs.toList, More R (w4.alloc (.cells cs 39)), ?_, by simpa using q5, ?_⟩
  · rintro b (q | q)
    · exact hR b q
    · omega
  · have y1 : CmdsV w5 (fun b => w.heap.size + 7 ≤ b ∧ ¬ More R (w4.alloc (.cells cs 39)) b) l xs :=
      (((hx.turned t4 fun _ _ q => q).bound).turned t6 fun b q z => q.1.2 z).widen fun b q => ⟨q.1.1, fun z => z.elim q.1.2 fun z => by omega⟩
    have y2 : CmdV w5 (fun b => w.heap.size + 7 ≤ b ∧ ¬ More R (w4.alloc (.cells cs 39)) b) c cs :=
      (hc.bound.turned t6 fun b q z => by have := hRW b z; omega).widen fun b q => ⟨by omega, fun z => z.elim (fun z => by have := hRW b z; omega) fun z => by omega⟩
    exact y1.snoc y2
theorem step_of {w0 w W w4 w5 : World} {t : B} {k D : Nat} {l : List Cmd} {c : Cmd} {l0 : Value} {a5 : Option Addr} {cap5 : Nat} {R : Nat → Prop} (hl : pLines ((parts t).take (k + 1)) = some (l ++ [c])) (ht : Turned (fun _ => False) w W) (hL : Lw w0 W) (hk : l.length ≤ k) (hD : D = w.heap.size + 5) (hlow : w0.heap.size ≤ w.heap.size) (hW : D + 2 ≤ W.heap.size)
    (t4 : Turned (fun _ => False) W w4)
    (h5 : w5.heap[w.heap.size]? = some (.cells #[l0] 29 (0, 0)) ∧ w5.heap[w.heap.size + 1]? = some (.cells #[.int .i64 0] 30 (0, 0)) ∧ CmdsAt w5 (fun b => w.heap.size + 7 ≤ b) 39 (.slice a5 (l.length + 1) cap5) (l ++ [c]) ∧ Turned R w4 w5 ∧ ∀ b, R b → w.heap.size + 7 ≤ b) :
    PI w0 w t (k + 1) (w5.setCell ⟨w.heap.size, 0, none⟩ (.slice a5 (l.length + 1) cap5)) ∧ (w5.setCell ⟨w.heap.size, 0, none⟩ (.slice a5 (l.length + 1) cap5)).heap[D + 1]? = W.heap[D + 1]? ∧
      (w5.setCell ⟨w.heap.size, 0, none⟩ (.slice a5 (l.length + 1) cap5)).heap[D]? = W.heap[D]? ∧ ∀ b, b = w.heap.size + 2 ∨ b = w.heap.size + 2 + 1 ∨ b = w.heap.size + 2 + 2 → (w5.setCell ⟨w.heap.size, 0, none⟩ (.slice a5 (l.length + 1) cap5)).heap[b]? = W.heap[b]? := by
  obtain ⟨p0, p1, p2, p3, p4⟩ := h5
  have z0 : (w5.setCell ⟨w.heap.size, 0, none⟩ (.slice a5 (l.length + 1) cap5)).heap[w.heap.size]? = some (.cells #[.slice a5 (l.length + 1) cap5] 29 (0, 0)) := Go.Mine.heap_setCell_same p0 _
  have ts : Turned (· = w.heap.size) w5 (w5.setCell ⟨w.heap.size, 0, none⟩ (.slice a5 (l.length + 1) cap5)) := Turned.setCell (S := (· = w.heap.size)) (p := ⟨w.heap.size, 0, none⟩) rfl _
  generalize w5.setCell ⟨w.heap.size, 0, none⟩ (.slice a5 (l.length + 1) cap5) = wE at *
  have tE : Turned (fun b => R b ∨ b = w.heap.size) W wE := (t4.comp p3 (T := R) fun b _ q => q.elim False.elim id).comp ts fun b _ q => q
  refine ⟨⟨l ++ [c], a5, cap5, hl, by simpa using z0, (ts.block _ (lt_of_block p1) (by omega)).trans p1, ?_, ht.comp tE fun b hb q => q.elim id fun q => q.elim (fun q => by have := p4 b q; omega) fun q => by omega, ?_, by simp; omega⟩, tE.block _ (by omega) fun q => q.elim (fun q => by have := p4 _ q; omega) fun q => by omega,
    tE.block _ (by omega) fun q => q.elim (fun q => by have := p4 _ q; omega) fun q => by omega, fun b hb => tE.block _ (by omega) fun q => q.elim (fun q => by have := p4 _ q; omega) fun q => by omega⟩
  · have := p2.turned ts fun b q z => by omega
    simpa using this
  · exact hL.turned tE fun b q => q.elim (fun q => by have := p4 b q; omega) fun q => by omega

def seqSnd : Code → Code | .seq _ y => y | c => c
/-- the lines' iterator is made -/
def SplitMade (t : B) (W W' : World) : Prop :=
  W'.heap[W.heap.size]? = some (.cells #[.string (bs t)] 9 (0, 0)) ∧ W'.heap[W.heap.size + 1]? = some (.cells #[.string ⟨#[10]⟩] 9 (0, 0)) ∧ W'.heap[W.heap.size + 2]? = some (.cells #[.int .i64 0] 3 (0, 0)) ∧ W'.heap.size = W.heap.size + 3 ∧ Turned (fun _ => False) W W'
set_option maxRecDepth 100000 in
theorem split29 (t : B) (W : World) : Calls Tryz.prog 29 #[.string (bs t), .string ⟨#[10]⟩] W fun e W' => e = .returned (.func (.func 81) #[] #[pt (W.heap.size + 1), pt W.heap.size, pt (W.heap.size + 2)]) ∧ SplitMade t W W' := by
  have hmf : ∀ (fn : Fn) (first cap : Array Value) (w : World), (Instr.makeFunc fn first cap).run Tryz.prog w = .ok (.func fn first cap) w := fun _ _ _ _ => rfl
  go_enter Tryz.func29, Tryz.ntmps29
  go_wp2
  go_ret
  have a0 : (((W.alloc (.cells #[.string (bs t)] 9)).alloc (.cells #[.string ⟨#[10]⟩] 9)).alloc (.cells #[.int .i64 0] 3)).heap[W.heap.size]? = some (.cells #[.string (bs t)] 9 (0, 0)) := Go.Mine.heap_alloc_old (Go.Mine.heap_alloc_old (heap_alloc_new _ _))
  have a1 : (((W.alloc (.cells #[.string (bs t)] 9)).alloc (.cells #[.string ⟨#[10]⟩] 9)).alloc (.cells #[.int .i64 0] 3)).heap[W.heap.size + 1]? = some (.cells #[.string ⟨#[10]⟩] 9 (0, 0)) := Go.Mine.heap_alloc_old (by simpa using heap_alloc_new (W.alloc (.cells #[.string (bs t)] 9)) (.cells #[.string ⟨#[10]⟩] 9))
  have a2 : (((W.alloc (.cells #[.string (bs t)] 9)).alloc (.cells #[.string ⟨#[10]⟩] 9)).alloc (.cells #[.int .i64 0] 3)).heap[W.heap.size + 2]? = some (.cells #[.int .i64 0] 3 (0, 0)) := by simpa using heap_alloc_new ((W.alloc (.cells #[.string (bs t)] 9)).alloc (.cells #[.string ⟨#[10]⟩] 9)) (.cells #[.int .i64 0] 3)
  exact ⟨rfl, a0, a1, a2, by simp, (((Turned.refl _ W).new _).new _).new _⟩

set_option maxRecDepth 100000 in
set_option maxHeartbeats 4000000 in
theorem parse_tail (w0 w : World) (t : B) (hL : Lw w0 w) (hs' : t.length ≤ 65536) (x1 x4 x5 x6 x7 x8 x9 x10 x11 x12 x13 x14 x15 x16 x17 x18 x19 x20 x21 x22 x23 x24 x25 x26 x27 x28 x29 x30 x31 x32 x33 x34 x35 x36 x37 x38 x39 x40 x41 x42 : Value) (W1 : World) (h0 : W1.heap[w.heap.size]? = some (.cells #[.slice none 0 0] 29 (0, 0))) (h1 : W1.heap[w.heap.size + 1]? = some (.cells #[.int .i64 0] 30 (0, 0)))
    (hsz : W1.heap.size = w.heap.size + 2) (ht : Turned (fun _ => False) w W1) :
    wpAt 12 3 Tryz.prog (seqSnd (seqSnd (seqSnd (seqSnd (Tryz.f12.body.getD .skip))))) (bodyPostM Fence.wide 3 Tryz.prog Tryz.f12 (ParsePost w (linesS t))) { tmps := #[.string (bs t), x1, pt w.heap.size, pt (w.heap.size + 1), x4, x5, x6, x7, x8, x9, x10, x11, x12, x13, x14, x15, x16, x17, x18, x19, x20, x21, x22, x23, x24, x25, x26, x27, x28, x29, x30, x31, x32, x33, x34, x35, x36, x37, x38, x39, x40, x41, x42], defers := [] } W1 := by
  have hmf : ∀ (fn : Fn) (first cap : Array Value) (w : World), (Instr.makeFunc fn first cap).run Tryz.prog w = .ok (.func fn first cap) w := fun _ _ _ _ => rfl
  have h29 := fun W => split29 t W
  obtain ⟨Q, hQ⟩ : ∃ Q, Q = bodyPostM Fence.wide 3 Tryz.prog Tryz.f12 (ParsePost w (linesS t)) := ⟨_, rfl⟩
  rw [← hQ]
  dsimp only [Tryz.f12, seqSnd, Option.getD]
  refine wpAt_seq (wpAt_of_wpIn ?_)
  gi_wp2
  refine wpAt_seq (wpAt_seq (wpAt_of_wpIn ?_))
  gi_wp2_with (refine ⟨trivial, (callsIn_wide.2 (h29 _)).mono ?_⟩; rintro e w1 ⟨rfl, hm⟩)
  refine wpAt_block ?_
  obtain ⟨m0, m1, m2, msz, mt⟩ := hm
  have hlow := hL.size
  rw [hsz] at m0 m1 m2 msz
  have hD : w1.heap.size = w.heap.size + 5 := by omega
  have tw1 : Turned (fun _ => False) w w1 := ht.trans mt fun _ _ q => q
  have e0 : w1.heap[w.heap.size]? = some (.cells #[.slice none 0 0] 29 (0, 0)) := (mt.block _ (lt_of_block h0) id).trans h0
  have e1 : w1.heap[w.heap.size + 1]? = some (.cells #[.int .i64 0] 30 (0, 0)) := (mt.block _ (lt_of_block h1) id).trans h1
  have hlen : t.length ≤ 4611686018427387904 := by omega
  refine wpAt_range_panics (gf := 81) (lb := #[pt ((w.heap.size + 2) + 1), pt (w.heap.size + 2), pt ((w.heap.size + 2) + 2)]) rfl (enters_of Tryz.func81 (by kernel_rfl) rfl) ((parts t).map lineV) (fun x => x = (w.heap.size + 2) ∨ x = (w.heap.size + 2) + 1 ∨ x = (w.heap.size + 2) + 2)
    (split_iter (3 - 1) t (w.heap.size + 2) w1 hlen m0 m1 m2) (fun b q => by omega) rfl ⟨_, Tryz.func12⟩ (PI w0 w t) (PX w t) (fun k A C h q => h.turned q hlow fun b z => by omega)
    ⟨[], none, 0, by simp [pLines], e0, e1, CmdsAt.nil _ _ _, tw1, (hL.turned0 tw1), Nat.le_refl _⟩ (fun x => { tmps := #[.string (bs t), x1, pt w.heap.size, pt (w.heap.size + 1), x4, x, x6, x7, x8, x9, x10, x11, x12, x13, x14, x15, x16, x17, x18, x19, x20, x21, x22, x23, .func (.func 28) #[] #[pt w.heap.size, pt (w.heap.size + 1)], .string (bs t), .func (.func 81) #[] #[pt (w.heap.size + 2 + 1), pt (w.heap.size + 2), pt (w.heap.size + 2 + 2)], x, x28, x29, x30, x31, x32, x33, x34, x35, x36, x37, x38, x39, x40, x41, x42], defers := [] }) ?assign ?body ?done ?pan
  case assign =>
    intro x W K hK
    gi_wp2
    exact hK
  case body =>
    rintro k x W hx hI hW
    obtain ⟨s, hs, rfl⟩ : ∃ s, (parts t)[k]? = some s ∧ x = lineV s := by
      rw [List.getElem?_map] at hx
      obtain ⟨s, h, rfl⟩ := Option.map_eq_some_iff.1 hx
      exact ⟨s, h, rfl⟩
    have htk : (parts t).take (k + 1) = (parts t).take k ++ [s] := by rw [List.take_add_one, hs]; rfl
    have hsl : s.length ≤ 65536 := Nat.le_trans (parts_le t s (List.mem_of_getElem? hs)) hs'
    have hkl : k ≤ 65536 := by
      have h1 := (List.getElem?_eq_some_iff.1 hs).1
      have h2 := parts_count t
      have h3 := List.count_le_length (a := (10 : UInt8)) (l := t)
      omega
    clear hx
    have hsay : ∀ c, says s → pLine s = c → pLines ((parts t).take (k + 1)) = match pLines ((parts t).take k) with | none => none | some l => (match c with | none => none | some c => some (l ++ [c])) := fun c h1 h2 => by
      rw [htk, pLines_app]
      cases pLines ((parts t).take k) with
      | none => rfl
      | some l =>
        simp only [pLines, if_pos h1, h2]
        cases c <;> rfl
    by_cases hsy : says s
    · obtain ⟨c0, r, hsr, hne⟩ : ∃ c0 r, s = c0 :: r ∧ c0 ≠ 35 := by
        obtain ⟨q1, q2⟩ := hsy
        cases s with
        | nil => exact absurd rfl q1
        | cons c0 r => exact ⟨c0, r, rfl, fun q => q2 (by rw [q]; rfl)⟩
      subst hsr
      obtain ⟨l, a, cap, q1, q2, q3, q4, q5, q6, q7⟩ := hI
      have hix : ∀ W, (Instr.index 9 (.string (bs (c0 :: r))) (.int .i64 0)).run Tryz.prog W = .ok (.int .u8 (c0.toNat : Nat)) W := ix_str (c0 :: r) 0 c0 rfl
      have hne1 : ((bs (c0 :: r)).toList == []) = false := by rw [ByteArray.toList_eq, bs_list]; rfl
      have hc35 : ((c0.toNat : Int) != 35) = true := by
        have : c0.toNat ≠ 35 := fun q => hne (UInt8.toNat_inj.1 q)
        simp; omega
      have HW : Hid (w1.heap.size = w.heap.size + 5 ∧ w1.heap.size + 2 ≤ W.heap.size ∧ w0.heap.size ≤ w.heap.size ∧ k ≤ 65536) := ⟨hD, hW, hlow, hkl⟩
      have HQ : Hid (pLines ((parts t).take k) = some l ∧ W.heap[w.heap.size]? = some (.cells #[.slice a l.length cap] 29 (0, 0)) ∧ W.heap[w.heap.size + 1]? = some (.cells #[.int .i64 0] 30 (0, 0)) ∧ CmdsAt W (fun b => w.heap.size + 7 ≤ b) 39 (.slice a l.length cap) l ∧ Turned (fun _ => False) w W ∧ Lw w0 W ∧ l.length ≤ k) := ⟨q1, q2, q3, q4, q5, q6, q7⟩
      have tB : Turned (fun _ => False) W (W.alloc (.cells #[.string (bs (c0 :: r))] 69)).drew := ((Turned.refl _ W).new _).draw
      have hat : At w0 (W.alloc (.cells #[.string (bs (c0 :: r))] 69)).drew W.heap.size (c0 :: r) := ⟨q6.turned0 tB, by omega, heap_alloc_new W _, by omega⟩
      have hcm := command_any w0 _ _ _ hat
      have hsz2 : (W.alloc (.cells #[.string (bs (c0 :: r))] 69)).drew.heap.size = W.heap.size + 1 := by simp
      have TB : Hid (Turned (fun _ => False) W (W.alloc (.cells #[.string (bs (c0 :: r))] 69)).drew ∧ (W.alloc (.cells #[.string (bs (c0 :: r))] 69)).drew.heap.size = W.heap.size + 1) := ⟨tB, hsz2⟩
      clear hsz2
      have k0 := cell_of q2 0 _ rfl
      have g0 := free_of q2 0
      have j0 := lt_of_block q2
      cases hp : pLine (c0 :: r) with
      | none =>
        have HN : Hid (pLines (parts t) = none) := pLines_none_take (k + 1) (by rw [hsay none hsy hp, q1])
        rw [hp] at hcm
        have hcm : Calls Tryz.prog 30 #[pt W.heap.size] (W.alloc (.cells #[.string (bs (c0 :: r))] 69)).drew fun e w' => e = .panicked [wrongE] ∧ Turned (· = W.heap.size) (W.alloc (.cells #[.string (bs (c0 :: r))] 69)).drew w' := hcm
        clear q1 q2 q3 q4 q5 q6 q7 tB hat hp hsay hs htk h29 hsl hkl hsy hne h0 h1 hsz ht hL m0 m1 m2 msz mt hlow hD tw1 e0 e1 hlen hW hs'
        dsimp only [lineV]
        generalize bs (c0 :: r) = z at *
        gi_wp2
        refine wpIn_region_any (by kernel_rfl) ?_
        change wpAnyIn _ _ _ _ _ _ _ _ _ (World.drew _)
        refine wpAnyIn_ready (rs := [0, 1]) (by kernel_rfl) (by simp) ?_
        refine AllReadyIn.cons rfl (fun K hK => ?_) (AllReadyIn.cons rfl (fun K hK => ?_) (AllReadyIn.nil))
        · go_simp
          refine hK _ _ ?_
          clear hK K
          refine wpAnyIn_ready (rs := [1]) (by kernel_rfl) (by simp) ?_
          refine AllReadyIn.cons rfl (fun K hK => ?_) (AllReadyIn.nil)
          · go_simp
            refine hK _ _ ?_
            clear hK K
            refine wpAnyIn_ready (rs := [2]) (by kernel_rfl) (by simp) ?_
            refine AllReadyIn.cons rfl (fun K hK => ?_) (AllReadyIn.nil)
            · go_simp
              refine hK _ _ ?_
              clear hK K
              refine wpAnyIn_ready (rs := [3]) (by kernel_rfl) (by simp) ?_
              refine AllReadyIn.cons rfl (fun K hK => ?_) (AllReadyIn.nil)
              · go_simp
                refine hK _ _ ?_
                clear hK K
                refine wpAnyIn_ready (rs := [4]) (by kernel_rfl) (by simp) ?_
                refine AllReadyIn.cons rfl (fun K hK => ?_) (AllReadyIn.nil)
                · go_simp
                  refine ⟨trivial, (CallsIn.inRound _ (callsIn_wide.2 hcm)).mono ?_⟩
                  rintro e w4 ⟨rfl, ht4⟩
                  exact px_of HN.out HQ.out.2.1 HQ.out.2.2.1 HQ.out.2.2.2.2.1 TB.out.1 ht4 HW.out.1 HW.out.2.1
        · go_simp
          refine hK _ _ ?_
          clear hK K
          refine wpAnyIn_ready (rs := [0, 2]) (by kernel_rfl) (by simp) ?_
          refine AllReadyIn.cons rfl (fun K hK => ?_) (AllReadyIn.cons rfl (fun K hK => ?_) (AllReadyIn.nil))
          · go_simp
            refine hK _ _ ?_
            clear hK K
            refine wpAnyIn_ready (rs := [2]) (by kernel_rfl) (by simp) ?_
            refine AllReadyIn.cons rfl (fun K hK => ?_) (AllReadyIn.nil)
            · go_simp
              refine hK _ _ ?_
              clear hK K
              refine wpAnyIn_ready (rs := [3]) (by kernel_rfl) (by simp) ?_
              refine AllReadyIn.cons rfl (fun K hK => ?_) (AllReadyIn.nil)
              · go_simp
                refine hK _ _ ?_
                clear hK K
                refine wpAnyIn_ready (rs := [4]) (by kernel_rfl) (by simp) ?_
                refine AllReadyIn.cons rfl (fun K hK => ?_) (AllReadyIn.nil)
                · go_simp
                  refine ⟨trivial, (CallsIn.inRound _ (callsIn_wide.2 hcm)).mono ?_⟩
                  rintro e w4 ⟨rfl, ht4⟩
                  exact px_of HN.out HQ.out.2.1 HQ.out.2.2.1 HQ.out.2.2.2.2.1 TB.out.1 ht4 HW.out.1 HW.out.2.1
          · go_simp
            refine hK _ _ ?_
            clear hK K
            refine wpAnyIn_ready (rs := [0, 3]) (by kernel_rfl) (by simp) ?_
            refine AllReadyIn.cons rfl (fun K hK => ?_) (AllReadyIn.cons rfl (fun K hK => ?_) (AllReadyIn.nil))
            · go_simp
              refine hK _ _ ?_
              clear hK K
              refine wpAnyIn_ready (rs := [3]) (by kernel_rfl) (by simp) ?_
              refine AllReadyIn.cons rfl (fun K hK => ?_) (AllReadyIn.nil)
              · go_simp
                refine hK _ _ ?_
                clear hK K
                refine wpAnyIn_ready (rs := [4]) (by kernel_rfl) (by simp) ?_
                refine AllReadyIn.cons rfl (fun K hK => ?_) (AllReadyIn.nil)
                · go_simp
                  refine ⟨trivial, (CallsIn.inRound _ (callsIn_wide.2 hcm)).mono ?_⟩
                  rintro e w4 ⟨rfl, ht4⟩
                  exact px_of HN.out HQ.out.2.1 HQ.out.2.2.1 HQ.out.2.2.2.2.1 TB.out.1 ht4 HW.out.1 HW.out.2.1
            · go_simp
              refine hK _ _ ?_
              clear hK K
              refine wpAnyIn_ready (rs := [0, 4]) (by kernel_rfl) (by simp) ?_
              refine AllReadyIn.cons rfl (fun K hK => ?_) (AllReadyIn.cons rfl (fun K hK => ?_) (AllReadyIn.nil))
              · go_simp
                refine hK _ _ ?_
                clear hK K
                refine wpAnyIn_ready (rs := [4]) (by kernel_rfl) (by simp) ?_
                refine AllReadyIn.cons rfl (fun K hK => ?_) (AllReadyIn.nil)
                · go_simp
                  refine ⟨trivial, (CallsIn.inRound _ (callsIn_wide.2 hcm)).mono ?_⟩
                  rintro e w4 ⟨rfl, ht4⟩
                  exact px_of HN.out HQ.out.2.1 HQ.out.2.2.1 HQ.out.2.2.2.2.1 TB.out.1 ht4 HW.out.1 HW.out.2.1
              · go_simp
                refine ⟨trivial, (CallsIn.inRound _ (callsIn_wide.2 hcm)).mono ?_⟩
                rintro e w4 ⟨rfl, ht4⟩
                exact px_of HN.out HQ.out.2.1 HQ.out.2.2.1 HQ.out.2.2.2.2.1 TB.out.1 ht4 HW.out.1 HW.out.2.1
      | some c =>
        have HL : Hid (pLines ((parts t).take (k + 1)) = some (l ++ [c])) := hid_of (by rw [hsay (some c) hsy hp, q1])
        rw [hp] at hcm
        have hcm : Calls Tryz.prog 30 #[pt W.heap.size] (W.alloc (.cells #[.string (bs (c0 :: r))] 69)).drew fun e w' => (∃ cs, e = .returned (.agg cs) ∧ CmdV w' (fun b => (W.alloc (.cells #[.string (bs (c0 :: r))] 69)).drew.heap.size ≤ b) c cs) ∧ Turned (· = W.heap.size) (W.alloc (.cells #[.string (bs (c0 :: r))] 69)).drew w' := hcm
        obtain ⟨xs, R, r1, r2, r3⟩ := q4
        have HR : Hid ((∀ b, (R b ∧ b < W.heap.size) → w.heap.size + 7 ≤ b) ∧ Sl W (fun b => R b ∧ b < W.heap.size) 39 11 (.slice a l.length cap) xs l.length ∧ CmdsV W (fun b => w.heap.size + 7 ≤ b ∧ ¬ (R b ∧ b < W.heap.size)) l xs ∧ ∀ b, (R b ∧ b < W.heap.size) → b < W.heap.size) := ⟨fun b q => r1 b q.1, r2.bound, r3.widen fun b q => ⟨q.1, fun z => q.2 z.1⟩, fun b q => q.2⟩
        have c6 : Hid (l.length + 1 ≤ maxLen ∧ (l.length + 1) * 160 ≤ 140737488355328) := hid_of (by simp only [maxLen]; omega)
        clear q1 q2 q3 q5 q6 q7 tB hat hp hsay hs htk h29 hsl hkl hsy hne h0 h1 hsz ht hL m0 m1 m2 msz mt hlow hD tw1 e0 e1 hlen hW hs' r1 r2 r3
        dsimp only [lineV]
        generalize bs (c0 :: r) = z at *
        gi_wp2
        refine wpIn_region_any (by kernel_rfl) ?_
        change wpAnyIn _ _ _ _ _ _ _ _ _ (World.drew _)
        refine wpAnyIn_ready (rs := [0, 1]) (by kernel_rfl) (by simp) ?_
        refine AllReadyIn.cons rfl (fun K hK => ?_) (AllReadyIn.cons rfl (fun K hK => ?_) (AllReadyIn.nil))
        · go_simp
          refine hK _ _ ?_
          clear hK K
          refine wpAnyIn_ready (rs := [1]) (by kernel_rfl) (by simp) ?_
          refine AllReadyIn.cons rfl (fun K hK => ?_) (AllReadyIn.nil)
          · go_simp
            refine hK _ _ ?_
            clear hK K
            refine wpAnyIn_ready (rs := [2]) (by kernel_rfl) (by simp) ?_
            refine AllReadyIn.cons rfl (fun K hK => ?_) (AllReadyIn.nil)
            · go_simp
              refine hK _ _ ?_
              clear hK K
              refine wpAnyIn_ready (rs := [3]) (by kernel_rfl) (by simp) ?_
              refine AllReadyIn.cons rfl (fun K hK => ?_) (AllReadyIn.nil)
              · go_simp
                refine hK _ _ ?_
                clear hK K
                refine wpAnyIn_ready (rs := [4]) (by kernel_rfl) (by simp) ?_
                refine AllReadyIn.cons rfl (fun K hK => ?_) (AllReadyIn.nil)
                · go_simp
                  refine ⟨trivial, (CallsIn.inRound _ (callsIn_wide.2 hcm)).mono ?_⟩
                  rintro e w4 ⟨⟨cs, rfl, hcv⟩, ht4⟩
                  obtain ⟨b1, n1, b4, n4, b9, n9, rfl, s1, s2, s3⟩ := hcv
                  have Z4 := ok_of HQ.out.2.1 HQ.out.2.2.1 TB.out.1 ht4 HW.out.1 HW.out.2.1 TB.out.2 ⟨b1, n1, b4, n4, b9, n9, rfl, s1, s2, s3⟩
                  have k4 := cell_of Z4.out.2.2.1 0 _ rfl; have j4 := lt_of_block Z4.out.2.2.1
                  clear s1 s2 s3 ht4
                  refine hK _ _ ?_
                  clear hK K
                  refine wpAnyIn_ready (rs := [5]) (by kernel_rfl) (by simp) ?_
                  refine AllReadyIn.cons rfl (fun K hK => ?_) (AllReadyIn.nil)
                  · go_simp
                    refine hK _ _ ?_
                    clear hK K
                    refine wpAnyIn_ready (rs := [6]) (by kernel_rfl) (by simp) ?_
                    refine AllReadyIn.cons rfl (fun K hK => ?_) (AllReadyIn.nil)
                    · refine step_append_in (by rfl) _ _ 29 29 (by rfl) (HR.out.2.1.turned ((Z4.out.1).new _) fun _ _ q => q) Tryz.underlying29 info39' rfl (by decide) (by rfl) (.slice (some ⟨w4.heap.size, 0, none⟩) 1 1) (by rfl) (src_cmd w4 _ Z4.out.2.1) c6.out.1 c6.out.2 ?_
                      intro v5 w5 q5 t5
                      obtain ⟨a5, cap5, hv5, -, -⟩ := q5.value
                      subst hv5
                      have Z5 := app_of HR.out.1 HR.out.2.2.1 Z4.out.1 Z4.out.2.1 Z4.out.2.2.1 Z4.out.2.2.2 HW.out.1 HW.out.2.1 HR.out.2.2.2 q5 t5
                      have k5 := cell_of Z5.out.1 0 _ rfl
                      have g5 := free_of Z5.out.1 0
                      have j5 := lt_of_block Z5.out.1
                      clear q5 t5
                      refine hK _ _ ?_
                      clear hK K
                      refine wpAnyIn_ready (rs := [7]) (by kernel_rfl) (by simp) ?_
                      refine AllReadyIn.cons rfl (fun K hK => ?_) (AllReadyIn.nil)
                      · go_simp
                        refine hK _ _ ?_
                        clear hK K
                        refine wpAnyIn_done (by kernel_rfl) ?_ _
                        exact step_of HL.out HQ.out.2.2.2.2.1 HQ.out.2.2.2.2.2.1 HQ.out.2.2.2.2.2.2 HW.out.1 HW.out.2.2.1 HW.out.2.1 Z4.out.1 Z5.out
        · go_simp
          refine hK _ _ ?_
          clear hK K
          refine wpAnyIn_ready (rs := [0, 2]) (by kernel_rfl) (by simp) ?_
          refine AllReadyIn.cons rfl (fun K hK => ?_) (AllReadyIn.cons rfl (fun K hK => ?_) (AllReadyIn.nil))
          · go_simp
            refine hK _ _ ?_
            clear hK K
            refine wpAnyIn_ready (rs := [2]) (by kernel_rfl) (by simp) ?_
            refine AllReadyIn.cons rfl (fun K hK => ?_) (AllReadyIn.nil)
            · go_simp
              refine hK _ _ ?_
              clear hK K
              refine wpAnyIn_ready (rs := [3]) (by kernel_rfl) (by simp) ?_
              refine AllReadyIn.cons rfl (fun K hK => ?_) (AllReadyIn.nil)
              · go_simp
                refine hK _ _ ?_
                clear hK K
                refine wpAnyIn_ready (rs := [4]) (by kernel_rfl) (by simp) ?_
                refine AllReadyIn.cons rfl (fun K hK => ?_) (AllReadyIn.nil)
                · go_simp
                  refine ⟨trivial, (CallsIn.inRound _ (callsIn_wide.2 hcm)).mono ?_⟩
                  rintro e w4 ⟨⟨cs, rfl, hcv⟩, ht4⟩
                  obtain ⟨b1, n1, b4, n4, b9, n9, rfl, s1, s2, s3⟩ := hcv
                  have Z4 := ok_of HQ.out.2.1 HQ.out.2.2.1 TB.out.1 ht4 HW.out.1 HW.out.2.1 TB.out.2 ⟨b1, n1, b4, n4, b9, n9, rfl, s1, s2, s3⟩
                  have k4 := cell_of Z4.out.2.2.1 0 _ rfl; have j4 := lt_of_block Z4.out.2.2.1
                  clear s1 s2 s3 ht4
                  refine hK _ _ ?_
                  clear hK K
                  refine wpAnyIn_ready (rs := [5]) (by kernel_rfl) (by simp) ?_
                  refine AllReadyIn.cons rfl (fun K hK => ?_) (AllReadyIn.nil)
                  · go_simp
                    refine hK _ _ ?_
                    clear hK K
                    refine wpAnyIn_ready (rs := [6]) (by kernel_rfl) (by simp) ?_
                    refine AllReadyIn.cons rfl (fun K hK => ?_) (AllReadyIn.nil)
                    · refine step_append_in (by rfl) _ _ 29 29 (by rfl) (HR.out.2.1.turned ((Z4.out.1).new _) fun _ _ q => q) Tryz.underlying29 info39' rfl (by decide) (by rfl) (.slice (some ⟨w4.heap.size, 0, none⟩) 1 1) (by rfl) (src_cmd w4 _ Z4.out.2.1) c6.out.1 c6.out.2 ?_
                      intro v5 w5 q5 t5
                      obtain ⟨a5, cap5, hv5, -, -⟩ := q5.value
                      subst hv5
                      have Z5 := app_of HR.out.1 HR.out.2.2.1 Z4.out.1 Z4.out.2.1 Z4.out.2.2.1 Z4.out.2.2.2 HW.out.1 HW.out.2.1 HR.out.2.2.2 q5 t5
                      have k5 := cell_of Z5.out.1 0 _ rfl
                      have g5 := free_of Z5.out.1 0
                      have j5 := lt_of_block Z5.out.1
                      clear q5 t5
                      refine hK _ _ ?_
                      clear hK K
                      refine wpAnyIn_ready (rs := [7]) (by kernel_rfl) (by simp) ?_
                      refine AllReadyIn.cons rfl (fun K hK => ?_) (AllReadyIn.nil)
                      · go_simp
                        refine hK _ _ ?_
                        clear hK K
                        refine wpAnyIn_done (by kernel_rfl) ?_ _
                        exact step_of HL.out HQ.out.2.2.2.2.1 HQ.out.2.2.2.2.2.1 HQ.out.2.2.2.2.2.2 HW.out.1 HW.out.2.2.1 HW.out.2.1 Z4.out.1 Z5.out
          · go_simp
            refine hK _ _ ?_
            clear hK K
            refine wpAnyIn_ready (rs := [0, 3]) (by kernel_rfl) (by simp) ?_
            refine AllReadyIn.cons rfl (fun K hK => ?_) (AllReadyIn.cons rfl (fun K hK => ?_) (AllReadyIn.nil))
            · go_simp
              refine hK _ _ ?_
              clear hK K
              refine wpAnyIn_ready (rs := [3]) (by kernel_rfl) (by simp) ?_
              refine AllReadyIn.cons rfl (fun K hK => ?_) (AllReadyIn.nil)
              · go_simp
                refine hK _ _ ?_
                clear hK K
                refine wpAnyIn_ready (rs := [4]) (by kernel_rfl) (by simp) ?_
                refine AllReadyIn.cons rfl (fun K hK => ?_) (AllReadyIn.nil)
                · go_simp
                  refine ⟨trivial, (CallsIn.inRound _ (callsIn_wide.2 hcm)).mono ?_⟩
                  rintro e w4 ⟨⟨cs, rfl, hcv⟩, ht4⟩
                  obtain ⟨b1, n1, b4, n4, b9, n9, rfl, s1, s2, s3⟩ := hcv
                  have Z4 := ok_of HQ.out.2.1 HQ.out.2.2.1 TB.out.1 ht4 HW.out.1 HW.out.2.1 TB.out.2 ⟨b1, n1, b4, n4, b9, n9, rfl, s1, s2, s3⟩
                  have k4 := cell_of Z4.out.2.2.1 0 _ rfl; have j4 := lt_of_block Z4.out.2.2.1
                  clear s1 s2 s3 ht4
                  refine hK _ _ ?_
                  clear hK K
                  refine wpAnyIn_ready (rs := [5]) (by kernel_rfl) (by simp) ?_
                  refine AllReadyIn.cons rfl (fun K hK => ?_) (AllReadyIn.nil)
                  · go_simp
                    refine hK _ _ ?_
                    clear hK K
                    refine wpAnyIn_ready (rs := [6]) (by kernel_rfl) (by simp) ?_
                    refine AllReadyIn.cons rfl (fun K hK => ?_) (AllReadyIn.nil)
                    · refine step_append_in (by rfl) _ _ 29 29 (by rfl) (HR.out.2.1.turned ((Z4.out.1).new _) fun _ _ q => q) Tryz.underlying29 info39' rfl (by decide) (by rfl) (.slice (some ⟨w4.heap.size, 0, none⟩) 1 1) (by rfl) (src_cmd w4 _ Z4.out.2.1) c6.out.1 c6.out.2 ?_
                      intro v5 w5 q5 t5
                      obtain ⟨a5, cap5, hv5, -, -⟩ := q5.value
                      subst hv5
                      have Z5 := app_of HR.out.1 HR.out.2.2.1 Z4.out.1 Z4.out.2.1 Z4.out.2.2.1 Z4.out.2.2.2 HW.out.1 HW.out.2.1 HR.out.2.2.2 q5 t5
                      have k5 := cell_of Z5.out.1 0 _ rfl
                      have g5 := free_of Z5.out.1 0
                      have j5 := lt_of_block Z5.out.1
                      clear q5 t5
                      refine hK _ _ ?_
                      clear hK K
                      refine wpAnyIn_ready (rs := [7]) (by kernel_rfl) (by simp) ?_
                      refine AllReadyIn.cons rfl (fun K hK => ?_) (AllReadyIn.nil)
                      · go_simp
                        refine hK _ _ ?_
                        clear hK K
                        refine wpAnyIn_done (by kernel_rfl) ?_ _
                        exact step_of HL.out HQ.out.2.2.2.2.1 HQ.out.2.2.2.2.2.1 HQ.out.2.2.2.2.2.2 HW.out.1 HW.out.2.2.1 HW.out.2.1 Z4.out.1 Z5.out
            · go_simp
              refine hK _ _ ?_
              clear hK K
              refine wpAnyIn_ready (rs := [0, 4]) (by kernel_rfl) (by simp) ?_
              refine AllReadyIn.cons rfl (fun K hK => ?_) (AllReadyIn.cons rfl (fun K hK => ?_) (AllReadyIn.nil))
              · go_simp
                refine hK _ _ ?_
                clear hK K
                refine wpAnyIn_ready (rs := [4]) (by kernel_rfl) (by simp) ?_
                refine AllReadyIn.cons rfl (fun K hK => ?_) (AllReadyIn.nil)
                · go_simp
                  refine ⟨trivial, (CallsIn.inRound _ (callsIn_wide.2 hcm)).mono ?_⟩
                  rintro e w4 ⟨⟨cs, rfl, hcv⟩, ht4⟩
                  obtain ⟨b1, n1, b4, n4, b9, n9, rfl, s1, s2, s3⟩ := hcv
                  have Z4 := ok_of HQ.out.2.1 HQ.out.2.2.1 TB.out.1 ht4 HW.out.1 HW.out.2.1 TB.out.2 ⟨b1, n1, b4, n4, b9, n9, rfl, s1, s2, s3⟩
                  have k4 := cell_of Z4.out.2.2.1 0 _ rfl; have j4 := lt_of_block Z4.out.2.2.1
                  clear s1 s2 s3 ht4
                  refine hK _ _ ?_
                  clear hK K
                  refine wpAnyIn_ready (rs := [5]) (by kernel_rfl) (by simp) ?_
                  refine AllReadyIn.cons rfl (fun K hK => ?_) (AllReadyIn.nil)
                  · go_simp
                    refine hK _ _ ?_
                    clear hK K
                    refine wpAnyIn_ready (rs := [6]) (by kernel_rfl) (by simp) ?_
                    refine AllReadyIn.cons rfl (fun K hK => ?_) (AllReadyIn.nil)
                    · refine step_append_in (by rfl) _ _ 29 29 (by rfl) (HR.out.2.1.turned ((Z4.out.1).new _) fun _ _ q => q) Tryz.underlying29 info39' rfl (by decide) (by rfl) (.slice (some ⟨w4.heap.size, 0, none⟩) 1 1) (by rfl) (src_cmd w4 _ Z4.out.2.1) c6.out.1 c6.out.2 ?_
                      intro v5 w5 q5 t5
                      obtain ⟨a5, cap5, hv5, -, -⟩ := q5.value
                      subst hv5
                      have Z5 := app_of HR.out.1 HR.out.2.2.1 Z4.out.1 Z4.out.2.1 Z4.out.2.2.1 Z4.out.2.2.2 HW.out.1 HW.out.2.1 HR.out.2.2.2 q5 t5
                      have k5 := cell_of Z5.out.1 0 _ rfl
                      have g5 := free_of Z5.out.1 0
                      have j5 := lt_of_block Z5.out.1
                      clear q5 t5
                      refine hK _ _ ?_
                      clear hK K
                      refine wpAnyIn_ready (rs := [7]) (by kernel_rfl) (by simp) ?_
                      refine AllReadyIn.cons rfl (fun K hK => ?_) (AllReadyIn.nil)
                      · go_simp
                        refine hK _ _ ?_
                        clear hK K
                        refine wpAnyIn_done (by kernel_rfl) ?_ _
                        exact step_of HL.out HQ.out.2.2.2.2.1 HQ.out.2.2.2.2.2.1 HQ.out.2.2.2.2.2.2 HW.out.1 HW.out.2.2.1 HW.out.2.1 Z4.out.1 Z5.out
              · go_simp
                refine ⟨trivial, (CallsIn.inRound _ (callsIn_wide.2 hcm)).mono ?_⟩
                rintro e w4 ⟨⟨cs, rfl, hcv⟩, ht4⟩
                obtain ⟨b1, n1, b4, n4, b9, n9, rfl, s1, s2, s3⟩ := hcv
                have Z4 := ok_of HQ.out.2.1 HQ.out.2.2.1 TB.out.1 ht4 HW.out.1 HW.out.2.1 TB.out.2 ⟨b1, n1, b4, n4, b9, n9, rfl, s1, s2, s3⟩
                have k4 := cell_of Z4.out.2.2.1 0 _ rfl; have j4 := lt_of_block Z4.out.2.2.1
                clear s1 s2 s3 ht4
                refine hK _ _ ?_
                clear hK K
                refine wpAnyIn_ready (rs := [0, 5]) (by kernel_rfl) (by simp) ?_
                refine AllReadyIn.cons rfl (fun K hK => ?_) (AllReadyIn.cons rfl (fun K hK => ?_) (AllReadyIn.nil))
                · go_simp
                  refine hK _ _ ?_
                  clear hK K
                  refine wpAnyIn_ready (rs := [5]) (by kernel_rfl) (by simp) ?_
                  refine AllReadyIn.cons rfl (fun K hK => ?_) (AllReadyIn.nil)
                  · go_simp
                    refine hK _ _ ?_
                    clear hK K
                    refine wpAnyIn_ready (rs := [6]) (by kernel_rfl) (by simp) ?_
                    refine AllReadyIn.cons rfl (fun K hK => ?_) (AllReadyIn.nil)
                    · refine step_append_in (by rfl) _ _ 29 29 (by rfl) (HR.out.2.1.turned ((Z4.out.1).new _) fun _ _ q => q) Tryz.underlying29 info39' rfl (by decide) (by rfl) (.slice (some ⟨w4.heap.size, 0, none⟩) 1 1) (by rfl) (src_cmd w4 _ Z4.out.2.1) c6.out.1 c6.out.2 ?_
                      intro v5 w5 q5 t5
                      obtain ⟨a5, cap5, hv5, -, -⟩ := q5.value
                      subst hv5
                      have Z5 := app_of HR.out.1 HR.out.2.2.1 Z4.out.1 Z4.out.2.1 Z4.out.2.2.1 Z4.out.2.2.2 HW.out.1 HW.out.2.1 HR.out.2.2.2 q5 t5
                      have k5 := cell_of Z5.out.1 0 _ rfl
                      have g5 := free_of Z5.out.1 0
                      have j5 := lt_of_block Z5.out.1
                      clear q5 t5
                      refine hK _ _ ?_
                      clear hK K
                      refine wpAnyIn_ready (rs := [7]) (by kernel_rfl) (by simp) ?_
                      refine AllReadyIn.cons rfl (fun K hK => ?_) (AllReadyIn.nil)
                      · go_simp
                        refine hK _ _ ?_
                        clear hK K
                        refine wpAnyIn_done (by kernel_rfl) ?_ _
                        exact step_of HL.out HQ.out.2.2.2.2.1 HQ.out.2.2.2.2.2.1 HQ.out.2.2.2.2.2.2 HW.out.1 HW.out.2.2.1 HW.out.2.1 Z4.out.1 Z5.out
                · go_simp
                  refine hK _ _ ?_
                  clear hK K
                  refine wpAnyIn_ready (rs := [0]) (by kernel_rfl) (by simp) ?_
                  refine AllReadyIn.cons rfl (fun K hK => ?_) (AllReadyIn.nil)
                  · go_simp
                    refine hK _ _ ?_
                    clear hK K
                    refine wpAnyIn_ready (rs := [6]) (by kernel_rfl) (by simp) ?_
                    refine AllReadyIn.cons rfl (fun K hK => ?_) (AllReadyIn.nil)
                    · refine step_append_in (by rfl) _ _ 29 29 (by rfl) (HR.out.2.1.turned ((Z4.out.1).new _) fun _ _ q => q) Tryz.underlying29 info39' rfl (by decide) (by rfl) (.slice (some ⟨w4.heap.size, 0, none⟩) 1 1) (by rfl) (src_cmd w4 _ Z4.out.2.1) c6.out.1 c6.out.2 ?_
                      intro v5 w5 q5 t5
                      obtain ⟨a5, cap5, hv5, -, -⟩ := q5.value
                      subst hv5
                      have Z5 := app_of HR.out.1 HR.out.2.2.1 Z4.out.1 Z4.out.2.1 Z4.out.2.2.1 Z4.out.2.2.2 HW.out.1 HW.out.2.1 HR.out.2.2.2 q5 t5
                      have k5 := cell_of Z5.out.1 0 _ rfl
                      have g5 := free_of Z5.out.1 0
                      have j5 := lt_of_block Z5.out.1
                      clear q5 t5
                      refine hK _ _ ?_
                      clear hK K
                      refine wpAnyIn_ready (rs := [7]) (by kernel_rfl) (by simp) ?_
                      refine AllReadyIn.cons rfl (fun K hK => ?_) (AllReadyIn.nil)
                      · go_simp
                        refine hK _ _ ?_
                        clear hK K
                        refine wpAnyIn_done (by kernel_rfl) ?_ _
                        exact step_of HL.out HQ.out.2.2.2.2.1 HQ.out.2.2.2.2.2.1 HQ.out.2.2.2.2.2.2 HW.out.1 HW.out.2.2.1 HW.out.2.1 Z4.out.1 Z5.out
    · have hskip : pLines ((parts t).take (k + 1)) = pLines ((parts t).take k) := by
        rw [htk, pLines_app]
        cases pLines ((parts t).take k) with
        | none => rfl
        | some l => simp [pLines, hsy]
      have hI2 : PI w0 w t (k + 1) W := by
        obtain ⟨l, a, cap, q1, q2, q3, q4, q5, q6, q7⟩ := hI
        exact ⟨l, a, cap, hskip.trans q1, q2, q3, q4, q5, q6, by omega⟩
      have HI : Hid (PI w0 w t (k + 1) W) := hI2
      cases s with
      | nil =>
        clear hskip hI2 hI hsay hs htk h29
        gi_wp2
        exact ⟨HI.out, rfl, rfl, fun _ _ => rfl⟩
      | cons c0 r =>
        have hc0 : c0 = 35 := by
          by_cases q : c0 = 35
          · exact q
          · exact absurd ⟨by simp, by simpa using q⟩ hsy
        subst hc0
        have hix : ∀ W, (Instr.index 9 (.string (bs (35 :: r))) (.int .i64 0)).run Tryz.prog W = .ok (.int .u8 35) W := ix_str (35 :: r) 0 35 rfl
        have hne : ((bs (35 :: r)).toList == []) = false := by rw [ByteArray.toList_eq, bs_list]; rfl
        clear hskip hI2 hI hsay hs htk h29
        dsimp only [lineV]
        generalize bs (35 :: r) = z at *
        gi_wp2
        exact ⟨HI.out, rfl, rfl, fun _ _ => rfl⟩
  case done =>
    rintro W hI hK
    obtain ⟨l, a, cap, hl, b0, b1, hc, htt, hlw, -⟩ := hI
    have hln : ((parts t).map lineV).length = (parts t).length := by simp
    rw [hln, List.take_length] at hl
    have HR : linesS t = (l, 0) := by unfold linesS; rw [hl]
    rw [HR] at hQ
    have HC : Hid (CmdsAt W (fun b => w.heap.size + 7 ≤ b) 39 (.slice a l.length cap) l ∧ Turned (fun _ => False) w W ∧ W.heap[w.heap.size]? = some (.cells #[.slice a l.length cap] 29 (0, 0)) ∧ W.heap[w.heap.size + 1]? = some (.cells #[.int .i64 0] 30 (0, 0)) ∧ W.heap[w1.heap.size]? = some (.deferred (some [])) ∧ w1.heap.size = w.heap.size + 5) := ⟨hc, htt, b0, b1, hK, hD⟩
    have c0 := cell_of b0 0 _ rfl
    have f0 := free_of b0 0
    have l0 := lt_of_block b0
    have c1 := cell_of b1 0 _ rfl
    have f1 := free_of b1 0
    have l1 := lt_of_block b1
    show wpAt 12 3 Tryz.prog _ Q _ W
    refine wpAt_of_wpIn ?_
    clear h0 h1 hsz ht m0 m1 m2 msz mt hlow hD tw1 e0 e1 hlen hL hs' h29 hmf hln hl HR hc htt hlw b0 b1 hK
    gi_wp2
    obtain ⟨hc, htt, b0, b1, hK, hD⟩ := HC.out
    clear HC c0 f0 l0 c1 f1 l1
    have a1 : (W.setCell ⟨w.heap.size, 0, none⟩ (.slice a l.length cap)).heap[w.heap.size]? = some (.cells #[.slice a l.length cap] 29 (0, 0)) := Go.Mine.heap_setCell_same b0 _
    have a2 : (W.setCell ⟨w.heap.size, 0, none⟩ (.slice a l.length cap)).heap[w.heap.size + 1]? = some (.cells #[.int .i64 0] 30 (0, 0)) := (Go.Mine.heap_setCell_ne _ (by simp)).trans b1
    have a3 : ((W.setCell ⟨w.heap.size, 0, none⟩ (.slice a l.length cap)).setCell ⟨w.heap.size + 1, 0, none⟩ (.int .i64 0)).heap[w.heap.size]? = some (.cells #[.slice a l.length cap] 29 (0, 0)) := (Go.Mine.heap_setCell_ne _ (by simp)).trans a1
    have a4 : ((W.setCell ⟨w.heap.size, 0, none⟩ (.slice a l.length cap)).setCell ⟨w.heap.size + 1, 0, none⟩ (.int .i64 0)).heap[w.heap.size + 1]? = some (.cells #[.int .i64 0] 30 (0, 0)) := Go.Mine.heap_setCell_same a2 _
    have a5 : Turned (fun b => b = w.heap.size ∨ b = w.heap.size + 1) W ((W.setCell ⟨w.heap.size, 0, none⟩ (.slice a l.length cap)).setCell ⟨w.heap.size + 1, 0, none⟩ (.int .i64 0)) := ((Turned.refl (fun b => b = w.heap.size ∨ b = w.heap.size + 1) W).set (p := ⟨w.heap.size, 0, none⟩) (.inl rfl) _).set (p := ⟨w.heap.size + 1, 0, none⟩) (.inr rfl) _
    generalize ((W.setCell ⟨w.heap.size, 0, none⟩ (.slice a l.length cap)).setCell ⟨w.heap.size + 1, 0, none⟩ (.int .i64 0)) = WS at *
    have hKS := (a5.block _ (lt_of_block hK) (by omega)).trans hK
    rw [hQ]
    refine ⟨by simp, .inl ⟨_, _, rfl, run_takeDeferred hKS, ?_⟩⟩
    have tk := Turned.putObj (S := (· = w1.heap.size)) WS w1.heap.size (.deferred none) rfl
    have b0' := (tk.block _ (lt_of_block a3) (by omega)).trans a3
    have b1' := (tk.block _ (lt_of_block a4) (by omega)).trans a4
    have tE : Turned (fun b => b = w.heap.size ∨ b = w.heap.size + 1 ∨ b = w.heap.size + 5) W (WS.putObj w1.heap.size (.deferred none)) := a5.comp tk fun b _ q => by omega
    refine ⟨by simp, .inr ⟨fun h => (by cases h), _, _, 28, #[pt w.heap.size, pt (w.heap.size + 1)], rfl, (by simp [invoke, go_sem]), fun _ _ => trivial, ?_⟩⟩
    refine (catch_idle _ w.heap.size (w.heap.size + 1) _).mono ?_
    rintro e u' w9 ⟨rfl, rfl, rfl⟩
    have KK : Hid (CmdsAt (WS.putObj w1.heap.size (.deferred none)) (fun b => w.heap.size ≤ b) 39 (.slice a l.length cap) l ∧ Turned (fun _ => False) w (WS.putObj w1.heap.size (.deferred none))) :=
      ⟨(hc.turned tE fun b q z => by omega).widen fun b q => by omega, htt.comp tE fun b hb q => q.elim id fun q => by omega⟩
    generalize WS.putObj w1.heap.size (.deferred none) = WE at *
    have r0 := cell_of b0' 0 _ rfl
    have r1 := cell_of b1' 0 _ rfl
    clear hc htt b0 b1 hK a1 a2 a3 a4 a5 hKS tk b0' b1' tE
    simp only [List.getElem_toArray, List.getElem_cons_zero] at r0 r1
    simp [LeavesInM, LeavesIn, settle, results, Tryz.results12, go_sem, r0, r1]
    exact ⟨⟨_, rfl, KK.out.1⟩, KK.out.2⟩
  case pan =>
    rintro ch W ⟨rfl, hno, ⟨x, b0⟩, b1, htt⟩ hK
    have HR : linesS t = ([], 14) := by unfold linesS; rw [hno]
    rw [HR] at hQ
    show Q (.panic [wrongE]) _ W
    rw [hQ]
    refine ⟨by simp, .inl ⟨_, _, rfl, run_takeDeferred hK, ?_⟩⟩
    have tk := Turned.putObj (S := (· = w1.heap.size)) W w1.heap.size (.deferred none) rfl
    have b0' := (tk.block _ (lt_of_block b0) (by omega)).trans b0
    have b1' := (tk.block _ (lt_of_block b1) (by omega)).trans b1
    refine ⟨by simp, .inr ⟨fun h => (by cases h), _, _, 28, #[pt w.heap.size, pt (w.heap.size + 1)], rfl, (by simp [invoke, go_sem]), fun _ _ => trivial, ?_⟩⟩
    refine (catch_wrong _ w.heap.size (w.heap.size + 1) _ _ [] _ b0' b1' (by omega)).mono ?_
    rintro e u' w9 ⟨rfl, rfl, z0, z1, zt⟩
    have KK : Hid (Turned (fun _ => False) w w9) := (htt.comp tk fun b hb q => q.elim id fun q => by omega : Turned (fun _ => False) w (W.putObj w1.heap.size (.deferred none))).comp zt fun b hb q => q.elim id fun q => by omega
    have r0 := cell_of z0 0 _ rfl
    have r1 := cell_of z1 0 _ rfl
    clear z0 z1 zt tk b0' b1' b0 b1 htt hK
    simp only [List.getElem_toArray, List.getElem_cons_zero] at r0 r1
    simp [LeavesInM, LeavesIn, settle, results, Tryz.results12, go_sem, r0, r1]
    exact ⟨⟨_, rfl, CmdsAt.nil _ _ _⟩, KK.out⟩
end Go.Proofs.YteblabpplaaddaaGreatDoor

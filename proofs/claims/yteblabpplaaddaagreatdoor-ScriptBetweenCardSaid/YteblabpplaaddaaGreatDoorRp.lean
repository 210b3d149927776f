/- A range over a function whose body may panic: the law of the statement, at the wide fence. -/
import Derived.Test.YteblabpplaaddaaGreatDoorLib
import Derived.RangeFuncSeq
set_option linter.unusedVariables false
set_option linter.unusedSimpArgs false
namespace Go.Mine
open Go.RowKit

theorem Turned.putObj {S : Nat → Prop} (w : World) (r : Nat) (o : Obj) (hr : S r) : Turned S w (w.putObj r o) :=
  ⟨rfl, rfl, rfl, by simp, fun k _ hk => World.putObj_heap_other (fun q => hk (q ▸ hr))⟩

/-- a round's end, a panic let through -/
def roundPostP (P : Program) (f : FuncId) (l : Nat) (R : Ending → World → Prop) : Exit → Act → World → Prop
  | .normal, _, w => ∃ v w', (Instr.endRound l none).run P w = .ok v w' ∧ R (.returned v) w'
  | .panic chain, a, w => a.defers = [] ∧ (∃ fn, P.funcs[f]? = some fn) ∧ R (.panicked chain) w
  | _, _, _ => False

section
variable {F : Fence} {n : Nat} {P : Program}

theorem roundIn_of_wpIn_panics {l : Nat} {f : FuncId} {tmps : Array Value} {assign body : Code} {w : World} {R : Ending → World → Prop} (hF : F.fn f)
    (h : assign.wpIn (F.inRound l) n P (Exit.then (fun a₁ w₁ => ∃ w₂, (Instr.beginRound l).run P w₁ = .ok () w₂ ∧ body.wpIn (F.inRound l) n P (roundPostP P f l R) a₁ w₂) (fun _ _ _ => False))
      { tmps := tmps, defers := [] } w) :
    RoundIn F n P l f tmps assign body w R := by
  refine ⟨hF, fun c cs hr => ?_⟩
  let b : Frame := { (default : Frame) with fn := f, kind := .normal, roundOf := some l }
  have hb0 : Frame.round l f tmps assign body .normal = b.atR { tmps := tmps, defers := [] } [.code assign, .beginRound, .code body] := by
    simp [Frame.round, Frame.atR, b]
  have hr' : (F.inRound l).room ((c :: cs).length + 1 + n) := hr
  have hF' : (F.inRound l).fn b.fn := hF
  obtain ⟨e, a₁, w₁, hq, harr⟩ := h b [.beginRound, .code body] (c :: cs) rfl hF' hr'
  rw [← hb0] at harr
  cases e with
  | normal =>
    obtain ⟨w₂, hbr, hbody⟩ := hq
    have s1 : StepsIn (Machine.fenced P (F.inRound l)) P (lone (b.atR a₁ [.beginRound, .code body]) (c :: cs) w₁) (lone (b.atR a₁ [.code body]) (c :: cs) w₂) :=
      .one (fenced_calm (fr := b.atR a₁ [.beginRound, .code body]) hF' hr' rfl) (stepR_beginRound rfl hbr)
    obtain ⟨e₂, a₂, w₃, hq₂, harr₂⟩ := hbody b [] (c :: cs) rfl hF' hr'
    cases e₂ with
    | normal =>
      obtain ⟨v, w₄, hend, hR⟩ := hq₂
      exact ⟨.returned v, w₄, hR, (StepsIn.trans harr s1).trans (StepsIn.trans harr₂ (.one (fenced_calm (fr := b.atR a₂ []) hF' hr' rfl) (stepR_round_end rfl rfl hend)))⟩
    | panic chain =>
      obtain ⟨hd, hfn, hR⟩ := hq₂
      obtain ⟨todo, hs⟩ := harr₂
      have hl : ({ b.atR a₂ todo with mode := .panicking chain } : Frame).leaving P w₃ (.panicked chain) := ⟨rfl, hd, hfn⟩
      exact ⟨.panicked chain, w₃, hR, (StepsIn.trans harr s1).trans (StepsIn.trans hs (.one (fenced_leaving (F := F.inRound l) (n := n) hF' hr' hl) (step_leave_panicked hl)))⟩
    | ret => exact hq₂.elim
    | exit id => exact hq₂.elim
    | goto t => exact hq₂.elim
    | outgrown => exact hq₂.elim
  | exit id => exact hq.elim
  | goto t => exact hq.elim
  | ret => exact hq.elim
  | panic chain => exact hq.elim
  | outgrown => exact hq.elim
end

/-- code, walked in an activation of one function, at the wide fence -/
def wpAt (fn0 : FuncId) (n : Nat) (P : Program) (c : Code) (Q : Exit → Act → World → Prop) (a : Act) (w : World) : Prop :=
  ∀ (b : Frame) (k : List Item) (cs : List Frame), b.roundOf = none → b.fn = fn0 → Fence.wide.room (cs.length + 1 + n) →
    ∃ e a' w', Q e a' w' ∧ ArrivesIn (Machine.fenced P Fence.wide) P (lone (b.atR a (.code c :: k)) cs w) b k cs e a' w'

section
variable {fn0 : FuncId} {n : Nat} {P : Program} {Q : Exit → Act → World → Prop} {a : Act} {w : World}

theorem wpAt_of_wpIn {c : Code} (h : c.wpIn Fence.wide n P Q a w) : wpAt fn0 n P c Q a w :=
  fun b k cs hr _ hroom => h b k cs hr trivial hroom

theorem wpAt_seq {x y : Code} (h : wpAt fn0 n P x (Exit.then (wpAt fn0 n P y Q) Q) a w) : wpAt fn0 n P (Code.seq x y) Q a w := by
  intro b k cs hr hb hroom
  have i0 : (lone (b.atR a (.code (.seq x y) :: k)) cs w).fenced P Fence.wide := fenced_wide _ _
  obtain ⟨e, a₁, w₁, hq, harr⟩ := h b (.code y :: k) cs hr hb hroom
  cases e with
  | normal =>
    obtain ⟨e₂, a₂, w₂, hq₂, harr₂⟩ := hq b k cs hr hb hroom
    exact ⟨e₂, a₂, w₂, hq₂, .of_steps (.head i0 stepR_seq harr) harr₂⟩
  | exit id => exact ⟨_, a₁, w₁, hq, .of_steps (.one i0 stepR_seq) (.pass (x := .code y) rfl (fun _ _ => .inl (by simp)) harr)⟩
  | goto l => exact ⟨_, a₁, w₁, hq, .of_steps (.one i0 stepR_seq) (.pass (x := .code y) rfl (fun _ _ => .inl (by simp)) harr)⟩
  | ret => exact ⟨_, a₁, w₁, hq, .of_steps (.one i0 stepR_seq) (.pass (x := .code y) rfl (fun _ _ => .inl (by simp)) harr)⟩
  | panic ch => exact ⟨_, a₁, w₁, hq, .of_steps (.one i0 stepR_seq) (.pass (x := .code y) rfl (fun _ _ => .inl (by simp)) harr)⟩
  | outgrown => exact ⟨_, a₁, w₁, hq, .of_steps (.one i0 stepR_seq) (.pass (x := .code y) rfl (fun _ _ => .inl (by simp)) harr)⟩

theorem wpAt_rangeFunc {g : Operand} {ps : Array Tmp} {assign body : Code}
    (h : ∃ (l : Nat) (mark : List Deferred) (w₁ : World) (d : Deferred) (w₁' : World) (f : FuncId) (args : Array Value) (w₂ : World),
      (Instr.enterLoop fn0 a.tmps ps assign body none).run P w = .ok (l, mark) w₁ ∧
      (resolve a.eval (rangeCall g l) 0).run P w₁ = .ok d w₁' ∧
      (invoke d.target d.args).run P w₁' = .ok (.enter f args) w₂ ∧
      CallsIn Fence.wide (n - 1) P f args w₂ (rangePost Fence.wide n P l Q { a with defers := mark ++ a.defers })) :
    wpAt fn0 n P (Code.rangeFunc g ps assign body) Q a w := by
  intro b k cs hro hb hr
  obtain ⟨l, mark, w₁, d, w₁', f, args, w₂, he, hres, hinv, hF, hcall⟩ := h
  rw [← hro, ← hb] at he
  have henter := stepR_rangeFunc (P := P) (b := b) (a := a) (k := k) (cs := cs) (w := w) he hres hinv
  have hroom : Fence.wide.room ((b.atR { a with defers := mark ++ a.defers } (.inRangeFunc l :: k) :: cs).length + 1 + (n - 1)) := room_wide _
  obtain ⟨e, w₃, fr, hR, hsteps, hfn, hleave⟩ := hcall (b.atR { a with defers := mark ++ a.defers } (.inRangeFunc l :: k) :: cs) hroom
  cases e with
  | outgrown =>
    obtain ⟨a₀, w₀, hq⟩ := hR
    exact ⟨.outgrown, a₀, w₀, hq, .inr (Outgrown.of_steps (.one henter) hsteps)⟩
  | returned v =>
    obtain ⟨jump, w₄, hend, hj⟩ := hR
    have sback : StepsIn (Machine.fenced P Fence.wide) P (lone (b.atR a (.code (.rangeFunc g ps assign body) :: k)) cs w) (lone (b.atR { a with defers := mark ++ a.defers } ((jump.map Item.code).toList ++ k)) cs w₄) := by
      refine .head (fenced_wide _ _) henter (StepsIn.trans hsteps (.head (fenced_wide _ _) ?_ (.one (fenced_wide _ _) (stepR_endRangeFunc hend))))
      rw [← finish_atR_inRangeFunc l v]; exact step_leave_returned hleave
    cases jump with
    | none => exact ⟨.normal, _, w₄, hj, sback⟩
    | some c =>
      obtain ⟨e', a'', w₅, hq, harr⟩ := hj b k cs hro trivial hr
      exact ⟨e', a'', w₅, hq, .of_steps sback harr⟩
  | panicked chain =>
    refine ⟨.panic chain, _, w₃, hR, .inRangeFunc l :: k, .head (fenced_wide _ _) henter (StepsIn.trans hsteps (.one (fenced_wide _ _) ?_))⟩
    rw [← Frame.raise_atR]; exact step_leave_panicked hleave

theorem calls_of_wpAt_marks {f : FuncId} {fn : Func} {c : Code} {args : Array Value} {R : Ending → World → Prop}
    (hf : P.funcs[f]? = some fn) (hb : fn.body = some c)
    (h : wpAt f n P c (bodyPostM Fence.wide n P fn R) { tmps := args ++ Array.replicate (fn.ntmps - args.size) undef, defers := [] } w) : Calls P f args w R := by
  refine (callsIn_wide (n := n)).1 ⟨trivial, fun cs hr => ?_⟩
  let b : Frame := { (default : Frame) with fn := f, kind := .normal, roundOf := none }
  have henter : Frame.enter P f args .normal =
      b.atR { tmps := args ++ Array.replicate (fn.ntmps - args.size) undef, defers := [] } [.code c] := by
    simp [Frame.enter, Frame.atR, hf, hb, b]
  obtain ⟨e, a', w', hq, harr⟩ := h b [] cs rfl rfl hr
  rw [← henter] at harr
  cases e with
  | normal =>
    obtain ⟨e', w'', fr', hR, hs, hfn, hl⟩ := leaves_stepsInM a'.defers .returning w' { b.atR a' [] with mode := .returning } cs rfl rfl rfl hf rfl trivial hr hq
    exact ⟨e', w'', fr', hR, ComesIn.of_steps (StepsIn.trans harr (.one (fenced_wide _ _) (stepR_end rfl))) hs, hfn, hl⟩
  | ret =>
    obtain ⟨todo, hs₀⟩ := harr.1 rfl
    obtain ⟨e', w'', fr', hR, hs, hfn, hl⟩ := leaves_stepsInM a'.defers .returning w' { b.atR a' todo with mode := .returning } cs rfl rfl rfl hf rfl trivial hr hq
    exact ⟨e', w'', fr', hR, ComesIn.of_steps hs₀ hs, hfn, hl⟩
  | panic chain =>
    obtain ⟨todo, hs₀⟩ := harr
    obtain ⟨e', w'', fr', hR, hs, hfn, hl⟩ := leaves_stepsInM a'.defers (.panicking chain) w' { b.atR a' todo with mode := .panicking chain } cs rfl rfl rfl hf rfl trivial hr hq
    exact ⟨e', w'', fr', hR, ComesIn.of_steps hs₀ hs, hfn, hl⟩
  | exit id => exact hq.elim
  | goto l => exact hq.elim
  | outgrown => exact ⟨.outgrown, w', b, hq, harr.resolve_left (by simp [b]), rfl, trivial⟩
end

/-- how a body's round may be left -/
def bodyP (I : World → Prop) (Px : List PanicEntry → World → Prop) : Exit → Act → World → Prop
  | .normal, _, w => I w
  | .panic ch, a, w => a.defers = [] ∧ Px ch w
  | _, _, _ => False

/-- an iterator's contract: it hands over the elements xs, one behind the other; T: its own blocks -/
def Iter (n : Nat) (P : Program) (gf : Nat) (lb : Array Value) (xs : List Value) (T : Nat → Prop) (w : World) : Prop :=
  ∀ (l : Nat) (J : Nat → World → Prop) (Px : List PanicEntry → World → Prop) (W : World), Turned (fun _ => False) w W →
    (∀ k W1 W2, J k W1 → Turned T W1 W2 → J k W2) →
    (∀ k x W1, xs[k]? = some x → J k W1 → YieldAt Fence.wide n P l #[x] W1 fun e W2 =>
      (e = .returned (.bool true) ∧ J (k + 1) W2 ∧ ∀ b, T b → W2.heap[b]? = W1.heap[b]?) ∨ (∃ ch, e = .panicked ch ∧ Px ch W2)) →
    J 0 W → CallsIn Fence.wide n P gf (#[.func (.yield l) #[] #[]] ++ lb) W fun e W' => ((∃ v, e = .returned v) ∧ J xs.length W') ∨ (∃ ch, e = .panicked ch ∧ Px ch W')

theorem wpAt_range_panics {fn0 : FuncId} {n : Nat} {P : Program} {g : Operand} {ps : Array Tmp} {assign body : Code} {Q : Exit → Act → World → Prop} {a : Act} {w : World} {gf : Nat} {lb : Array Value}
    (hg : a.eval g = .func (.func gf) #[] lb) (eg : ∀ args w, (callFunc gf args).run P w = .ok (.enter gf args) w) (xs : List Value) (T : Nat → Prop) (hseq : Iter (n - 1) P gf lb xs T w)
    (hT : ∀ b, T b → b < w.heap.size) (hps : ps.size = 1) (hfn : ∃ fn, P.funcs[fn0]? = some fn)
    (I : Nat → World → Prop) (Px : List PanicEntry → World → Prop)
    (hI : ∀ k W1 W2, I k W1 → Turned (fun b => T b ∨ b = w.heap.size ∨ b = w.heap.size + 1) W1 W2 → I k W2)
    (h0 : I 0 w) (a₁ : Value → Act)
    (hassign : ∀ (x : Value) (W : World) (K : Act → World → Prop), K (a₁ x) W →
      assign.wpIn (Fence.wide.inRound (w.heap.size + 1)) (n - 1) P (Exit.then K (fun _ _ _ => False)) { tmps := (ps.zip #[x]).foldl (fun t (p, v) => t.setIfInBounds p v) a.tmps, defers := [] } W)
    (hbody : ∀ (k : Nat) (x : Value) (W : World), xs[k]? = some x → I k W → w.heap.size + 2 ≤ W.heap.size →
      body.wpIn (Fence.wide.inRound (w.heap.size + 1)) (n - 1) P (bodyP (fun W' => I (k + 1) W' ∧ W'.heap[w.heap.size + 1]? = W.heap[w.heap.size + 1]? ∧ W'.heap[w.heap.size]? = W.heap[w.heap.size]? ∧ ∀ b, T b → W'.heap[b]? = W.heap[b]?)
        (fun ch W' => Px ch W' ∧ W'.heap[w.heap.size]? = W.heap[w.heap.size]?)) (a₁ x) W)
    (hdone : ∀ W : World, I xs.length W → W.heap[w.heap.size]? = some (.deferred (some [])) → Q .normal { a with defers := { target := .collected w.heap.size, args := #[] } :: a.defers } W)
    (hpan : ∀ (ch : List PanicEntry) (W : World), Px ch W → W.heap[w.heap.size]? = some (.deferred (some [])) → Q (.panic ch) { a with defers := { target := .collected w.heap.size, args := #[] } :: a.defers } W) :
    wpAt fn0 n P (Code.rangeFunc g ps assign body) Q a w := by
  refine wpAt_rangeFunc ?_
  obtain ⟨rec, hrec⟩ : ∃ rec : LoopState → Option Code → Loop, rec = fun st pe => { state := st, pending := pe, fn := fn0, tmps := a.tmps, params := ps, assign, body, defers := w.heap.size } := ⟨_, rfl⟩
  obtain ⟨W1, hW1⟩ : ∃ W1, (w.alloc (.deferred (some []))).alloc (.loop (rec .ready none)) = W1 := ⟨_, rfl⟩
  have t1 : Turned (fun _ => False) w W1 := by rw [← hW1]; exact ((Turned.refl _ w).new _).new _
  have hsz : W1.heap.size = w.heap.size + 2 := by rw [← hW1]; simp
  have hL1 : W1.heap[w.heap.size + 1]? = some (.loop (rec .ready none)) := by
    rw [← hW1]; have := World.alloc_heap_new (w.alloc (.deferred (some []))) (.loop (rec .ready none)); rwa [World.size_alloc] at this
  have hK1 : W1.heap[w.heap.size]? = some (.deferred (some [])) := by
    rw [← hW1]; exact heap_alloc_old (heap_alloc_new w _)
  have hI1 : I 0 W1 := hI _ _ _ h0 (t1.mono fun _ _ q => q.elim)
  refine ⟨w.heap.size + 1, [{ target := .collected w.heap.size, args := #[] }], W1, { target := .fn (.func gf) lb, args := #[.func (.yield (w.heap.size + 1)) #[] #[]] }, W1, gf,
    #[.func (.yield (w.heap.size + 1)) #[] #[]] ++ lb, W1, ?_, ?_, ?_, ?_⟩
  · rw [← hW1, hrec]; exact run_enterLoop_outer _ _ _ _ _
  · simp only [resolve, hg]
    simp [go_sem]
  · simp [invoke, go_sem, eg]
  · refine callsIn_wide.2 (callsIn_wide.1 ((hseq (w.heap.size + 1)
      (fun k W => I k W ∧ w.heap.size + 2 ≤ W.heap.size ∧ W.heap[w.heap.size + 1]? = some (.loop (rec .ready none)) ∧ W.heap[w.heap.size]? = some (.deferred (some [])))
      (fun ch W => Px ch W ∧ W.heap[w.heap.size]? = some (.deferred (some []))) W1 t1 ?_ ?_ ⟨hI1, by omega, hL1, hK1⟩).mono ?_))
    · rintro k A B ⟨hi, hs, hl, hd⟩ ht
      exact ⟨hI _ _ _ hi (ht.mono fun _ _ q => .inl q), Nat.le_trans hs ht.size, (ht.block _ (by omega) (fun q => by have := hT _ q; omega)).trans hl, (ht.block _ (by omega) (fun q => by have := hT _ q; omega)).trans hd⟩
    · rintro k x W hx ⟨hi, hs, hl, hd⟩
      have hy := run_yield (P := P) (args := #[x]) hl (by rw [hrec]; exact hps.symm)
      rw [hrec] at hy
      refine ⟨fn0, _, assign, body, hy, roundIn_of_wpIn_panics trivial (hassign x W _ ⟨_, run_beginRound hl (by rw [hrec]), ?_⟩)⟩
      have t2 := Turned.putObj (S := (· = w.heap.size + 1)) W (w.heap.size + 1) (.loop { rec .ready none with state := .busy }) rfl
      have hl2 : (W.putObj (w.heap.size + 1) (.loop { rec .ready none with state := .busy })).heap[w.heap.size + 1]? = some (.loop { rec .ready none with state := .busy }) := World.putObj_heap_same (by omega)
      have hk2 : (W.putObj (w.heap.size + 1) (.loop { rec .ready none with state := .busy })).heap[w.heap.size]? = some (.deferred (some [])) := (World.putObj_heap_other (by omega)).trans hd
      refine wpIn_mono (hbody k x _ hx (hI _ _ _ hi (t2.mono fun _ _ q => .inr (.inr q))) (by simpa using hs)) ?_
      rintro e a3 W3 hp
      cases e with
      | normal =>
        obtain ⟨hi3, hl3, hd3, hT3⟩ := hp
        rw [hl2] at hl3
        rw [hk2] at hd3
        have hr := run_endRound (P := P) none hl3
        have hlt := (Array.getElem?_eq_some_iff.1 hl3).1
        have t3 := Turned.putObj (S := (· = w.heap.size + 1)) W3 (w.heap.size + 1) (.loop { rec .ready none with state := .ready, pending := none }) rfl
        refine ⟨_, _, hr, .inl ⟨rfl, ⟨hI _ _ _ hi3 (t3.mono fun _ _ q => .inr (.inr q)), ?_, ?_, ?_⟩, ?_⟩⟩
        · simp; omega
        · rw [hrec]; exact World.putObj_heap_same hlt
        · exact (World.putObj_heap_other (by omega)).trans hd3
        · intro b hb
          have hne : b ≠ w.heap.size + 1 := by have := hT _ hb; omega
          exact (World.putObj_heap_other hne).trans ((hT3 b hb).trans (World.putObj_heap_other hne))
      | panic ch =>
        obtain ⟨h1, h2, h4⟩ := hp
        exact ⟨h1, hfn, .inr ⟨ch, rfl, h2, h4.trans hk2⟩⟩
      | ret => exact hp.elim
      | exit id => exact hp.elim
      | goto t => exact hp.elim
      | outgrown => exact hp.elim
    · rintro e W2 (⟨⟨v, rfl⟩, hi, hs, hl, hd⟩ | ⟨ch, rfl, hp, hd⟩)
      · have hr := run_endLoop (P := P) hl (by rw [hrec]; simp)
        rw [hrec] at hr
        have t3 := Turned.putObj (S := (· = w.heap.size + 1)) W2 (w.heap.size + 1) (.loop { rec .ready none with state := .exhausted }) rfl
        rw [hrec] at t3
        exact ⟨none, _, hr, hdone _ (hI _ _ _ hi (t3.mono fun _ _ q => .inr (.inr q))) ((World.putObj_heap_other (by omega)).trans hd)⟩
      · exact hpan _ _ hp hd
end Go.Mine

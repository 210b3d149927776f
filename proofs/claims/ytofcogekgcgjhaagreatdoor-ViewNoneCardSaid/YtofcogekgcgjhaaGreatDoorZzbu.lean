/- Packed. -/
import Derived.Test.YtofcogekgcgjhaaGreatDoorZzbs
import Derived.Test.YtofcogekgcgjhaaGreatDoorZzbt
set_option linter.unusedVariables false
set_option linter.unusedSimpArgs false
set_option maxRecDepth 100000
namespace Go.Proofs.YtofcogekgcgjhaaGreatDoor
open Go.RowKit Go.Mine Go.Mine.Ac
structure PW (w0 w : World) (S : Nat → Prop) (rs rx : Nat → Nat) (d q p : Nat) (D : Dk) (s : St) (x : Ix) : Prop where
 disk : FsIs w S d D
 dok : D.Ok
 sb : ∀ b, S b → w0.heap.size ≤ b ∧ b < w.heap.size
 st : ∃ tv cv, StAt 140 w rs q (pt d) tv cv s
 good : StGood s
 ix : ∃ lv gv, IxAt w rx p (pt d) lv gv x
 iok : IxOk x
 low : Ch.Low x.links
 b1 : ∀ b, rs b ≠ 0 → w0.heap.size ≤ b
 b2 : ∀ b, rx b ≠ 0 → w0.heap.size ≤ b
 d1 : ∀ b, S b → rs b = 0 ∧ rx b = 0
 d2 : ∀ b, rs b ≠ 0 → rx b = 0
 tw : Turned (fun _ => False) w0 w
def PwAt (w0 w : World) (O : Nat → Prop) (d q p : Nat) (D : Dk) (s : St) (x : Ix) : Prop :=
 ∃ S rs rx, PW w0 w S rs rx d q p D s x ∧ ∀ b, S b ∨ rs b ≠ 0 ∨ rx b ≠ 0 → O b
theorem PwAt.turned {w0 w w' : World} {O T : Nat → Prop} {d q p : Nat} {D : Dk} {s : St} {x : Ix} (h : PwAt w0 w O d q p D s x) (t : Turned T w w') (hT : ∀ b, O b → ¬ T b) (h0 : ∀ b, T b → w0.heap.size ≤ b) : PwAt w0 w' O d q p D s x := by
 obtain ⟨S, rs, rx, h, ho⟩ := h
 obtain ⟨tv, cv, h1⟩ := h.st
 obtain ⟨lv, gv, h2⟩ := h.ix
 exact ⟨S, rs, rx, ⟨h.disk.turned t fun b z => hT b (ho b (.inl z)), h.dok, fun b z => ⟨(h.sb b z).1, Nat.lt_of_lt_of_le (h.sb b z).2 t.size⟩, ⟨tv, cv, h1.turned t fun b z => hT b (ho b (.inr (.inl z)))⟩, h.good, ⟨lv, gv, h2.turned t fun b z => hT b (ho b (.inr (.inr z)))⟩, h.iok, h.low, h.b1, h.b2, h.d1, h.d2,
  h.tw.comp t fun i hi z => z.elim id fun z => by have := h0 i z; omega⟩, ho⟩
theorem PwAt.still {w0 w w' : World} {O : Nat → Prop} {d q p : Nat} {D : Dk} {s : St} {x : Ix} (h : PwAt w0 w O d q p D s x) (t : Turned (fun _ => False) w w') : PwAt w0 w' O d q p D s x := h.turned t (fun _ _ z => z) fun _ z => z.elim
abbrev Mre (O : Nat → Prop) (w : World) : Nat → Prop := fun b => O b ∨ w.heap.size ≤ b
def PwTo (w0 w : World) (O : Nat → Prop) (d q p : Nat) (D : Dk) (s : St) (x : Ix) (w' : World) : Prop := PwAt w0 w' (Mre O w) d q p D s x ∧ Turned O w w'
theorem PwAt.new_le {w0 w : World} {O : Nat → Prop} {d q p : Nat} {D : Dk} {s : St} {x : Ix} (h : PwAt w0 w O d q p D s x) : Turned (fun _ => False) w0 w := by
 obtain ⟨S, rs, rx, h, ho⟩ := h
 exact h.tw
theorem AdTo.pw {w0 w w' : World} {O S : Nat → Prop} {rs rx : Nat → Nat} {d q p : Nat} {D D' : Dk} {s s' : St} {x : Ix} (h : PW w0 w S rs rx d q p D s x) (ho : ∀ b, S b ∨ rs b ≠ 0 ∨ rx b ≠ 0 → O b) (a : AdTo w S rs d q D' s' w') (hok : D'.Ok) (hg : StGood s') : PwTo w0 w O d q p D' s' x w' := by
 obtain ⟨S', rs', tv', cv', a1, a2, a3, a4, a5, a6, a7⟩ := a
 obtain ⟨lv, gv, h2⟩ := h.ix
 have z0 := h.tw.size
 have hx : ∀ b, rx b ≠ 0 → b < w.heap.size := h2.bnd
 refine ⟨⟨S', rs', rx, ⟨a1, hok, fun b z => ⟨?_, a3 b z⟩, ⟨tv', cv', a4⟩, hg, ⟨lv, gv, h2.turned a7 fun b z y => ?_⟩, h.iok, h.low, fun b z => ?_, h.b2, fun b z => ⟨a6 b z, ?_⟩, fun b z => ?_, h.tw.comp a7 fun i hi z => ?_⟩, fun b z => ?_⟩, a7.mono fun b _ z => ho b (z.imp id .inl)⟩
 ·rcases a2 b z with y | y
  ·exact (h.sb b y).1
  ·omega
 ·rcases y with y | y
  ·exact z (h.d1 b y).2
  ·exact z (h.d2 b y)
 ·rcases a5 b z with y | y
  ·exact h.b1 b y
  ·omega
 ·rcases a2 b z with y | y
  ·exact (h.d1 b y).2
  ·apply Classical.byContradiction
   intro k
   have := hx b k
   omega
 ·rcases a5 b z with y | y
  ·exact h.d2 b y
  ·apply Classical.byContradiction
   intro k
   have := hx b k
   omega
 ·rcases z with z | z | z
  ·exact z
  ·have := (h.sb i z).1; omega
  ·have := h.b1 i z; omega
 ·rcases z with z | z | z
  ·exact (a2 b z).imp (fun y => ho b (.inl y)) id
  ·exact (a5 b z).imp (fun y => ho b (.inr (.inl y))) id
  ·exact .inl (ho b (.inr (.inr z)))
theorem pw_addTree {w0 w : World} {O S0 : Nat → Prop} {d q p : Nat} {D : Dk} {s : St} {x : Ix} {a : Option Addr} {cap : Nat} {t : List Ent} (h : PwAt w0 w O d q p D s x) (hi : Ents w S0 a cap t) (hS : ∀ b, S0 b → ¬ O b) (htl : t.length ≤ 1000000000) :
  Calls Tryz.prog 21 #[pt q, .slice a t.length cap] w fun e w' => e = .returned (.tuple #[.int .i64 (addTree D s t).2.2.1, .int .i64 ((addTree D s t).2.2.2 : Nat)]) ∧ PwTo w0 w O d q p (addTree D s t).1 (addTree D s t).2.1 x w' := by
 obtain ⟨S, rs, rx, h, ho⟩ := h
 obtain ⟨tv, cv, h1⟩ := h.st
 refine (saddTree_any h.disk h.dok h1 (fun b z => (h.d1 b z).1) (fun b z => (h.sb b z).2) hi (fun b z => ⟨fun y => hS b z (ho b (.inl y)), ?_⟩) htl).mono fun e w' ⟨x1, x2⟩ => ⟨x1, x2.pw h ho (addTree_disk s t h.dok fun b => writeS_ok h.dok s 1 b) (h.good.addTree hi.2.2.1)⟩
 apply Classical.byContradiction
 intro y
 exact hS b z (ho b (.inr (.inl y)))
theorem pw_addCommit {w0 w : World} {O S0 : Nat → Prop} {d q p : Nat} {D : Dk} {s : St} {x : Ix} {a : Option Addr} {cap : Nat} {c : Cm} (h : PwAt w0 w O d q p D s x) (hi : Ints w S0 a cap c.par) (hS : ∀ b, S0 b → ¬ O b) (htl : c.par.length ≤ 1000000000) :
  Calls Tryz.prog 22 #[pt q, cmv a cap c] w fun e w' => e = .returned (.tuple #[.int .i64 (addCommit D s c).2.2.1, .int .i64 ((addCommit D s c).2.2.2 : Nat)]) ∧ PwTo w0 w O d q p (addCommit D s c).1 (addCommit D s c).2.1 x w' := by
 obtain ⟨S, rs, rx, h, ho⟩ := h
 obtain ⟨tv, cv, h1⟩ := h.st
 refine (saddCommit_any h.disk h.dok h1 (fun b z => (h.d1 b z).1) (fun b z => (h.sb b z).2) hi (fun b z => ⟨fun y => hS b z (ho b (.inl y)), ?_⟩) htl).mono fun e w' ⟨x1, x2⟩ => ⟨x1, x2.pw h ho (addCommit_disk s c h.dok fun b => writeS_ok h.dok s 2 b) h.good.addCommit⟩
 apply Classical.byContradiction
 intro y
 exact hS b z (ho b (.inr (.inl y)))
theorem LayPost.pw {w0 w w' : World} {O S : Nat → Prop} {rs rx : Nat → Nat} {d q p : Nat} {D : Dk} {s : St} {x : Ix} {r : Dk × Ix × Nat} {e : Ending} (h : PW w0 w S rs rx d q p D s x) (ho : ∀ b, S b ∨ rs b ≠ 0 ∨ rx b ≠ 0 → O b) (a : LayPost w S (fun _ => False) rx d p r e w') (hok : r.1.Ok) (hio : IxOk r.2.1) (hlow : Ch.Low r.2.1.links) : PwTo w0 w O d q p r.1 s r.2.1 w' := by
 obtain ⟨-, S', rx', lv', gv', a1, a2, a3, a4, a5, a6, a7⟩ := a
 obtain ⟨tv, cv, h1⟩ := h.st
 obtain ⟨lv, gv, h2⟩ := h.ix
 have z0 := h.tw.size
 have hs : ∀ b, rs b ≠ 0 → b < w.heap.size := h1.bnd
 have hp : rx p ≠ 0 := by rw [h2.r1]; decide
 refine ⟨⟨S', rs, rx', ⟨a1, hok, fun b z => ⟨?_, a3 b z⟩, ⟨tv, cv, h1.turned a7 fun b z y => ?_⟩, h.good, ⟨lv', gv', a4⟩, hio, hlow, h.b1, fun b z => ?_, fun b z => ⟨?_, a6 b z⟩, fun b z => ?_, h.tw.comp a7 fun i hi z => ?_⟩, fun b z => ?_⟩, a7.mono fun b _ z => ho b (z.elim .inl fun z => .inr (.inr (z ▸ hp)))⟩
 ·rcases a2 b z with y | y
  ·exact (h.sb b y).1
  ·omega
 ·rcases y with y | y
  ·exact z (h.d1 b y).1
  ·rw [y] at z; exact hp (h.d2 p z)
 ·rcases a5 b z with y | y | y
  ·exact h.b2 b y
  ·exact y.elim
  ·omega
 ·rcases a2 b z with y | y
  ·exact (h.d1 b y).1
  ·apply Classical.byContradiction
   intro k
   have := hs b k
   omega
 ·apply Classical.byContradiction
  intro k
  rcases a5 b k with y | y | y
  ·exact y (h.d2 b z)
  ·exact y.elim
  ·have := hs b z; omega
 ·rcases z with z | z | z
  ·exact z
  ·have := (h.sb i z).1; omega
  ·rw [z] at hi; have := h.b2 p hp; omega
 ·rcases z with z | z | z
  ·exact (a2 b z).imp (fun y => ho b (.inl y)) id
  ·exact .inl (ho b (.inr (.inl z)))
  ·rcases a5 b z with y | y | y
   ·exact .inl (ho b (.inr (.inr y)))
   ·exact y.elim
   ·exact .inr y
theorem pw_update {w0 w : World} {O : Nat → Prop} {d q p : Nat} {D : Dk} {s : St} {x : Ix} (h : PwAt w0 w O d q p D s x) (tab : ∀ W, Turned (fun _ => False) w0 W → Ch.Tab W ∧ Ch.Errs W) (hf : Few D 800000000) (g : Stg) (hsd : g.seed < 4294967296) (hl : Ch.Low (updateX D x s g).2.1.links) :
  Calls Tryz.prog 18 #[pt p, .iface 34 (pt q), stgv g] w fun e w' => e = .returned (.int .i64 ((updateX D x s g).2.2 : Nat)) ∧ PwTo w0 w O d q p (updateX D x s g).1 s (updateX D x s g).2.1 w' := by
 obtain ⟨S, rs, rx, h, ho⟩ := h
 obtain ⟨tv, cv, h1⟩ := h.st
 obtain ⟨lv, gv, h2⟩ := h.ix
 have hp : rx p ≠ 0 := by rw [h2.r1]; decide
 refine (xupdate_any h.disk h.dok hf (fun b z => (h.sb b z).2) h1 h.good h2 h.iok h.low (fun b z => (h.d1 b z).2) g hsd fun W t => tab W (h.tw.comp t fun i hi z => ?_)).mono fun e w' y => ⟨y.1, y.pw h ho (updateX_few hf h.dok x s g).2.1 (updateX_ix h.iok s g) hl⟩
 rcases z with z | z | z
 ·exact z
 ·have := (h.sb i z).1; omega
 ·rw [z] at hi; have := h.b2 p hp; omega
/-! ### What a view tells -/
theorem pw_commits {w0 w : World} {O : Nat → Prop} {d q p v : Nat} {D : Dk} {s : St} {x : Ix} (h : PwAt w0 w O d q p D s x) (hv : Blk w v #[pt q, pt p] 174) : ∀ W, Turned (fun _ => False) w W → Calls Tryz.prog 43 #[pt v] W fun e w' => e = .returned (.int .i64 (s.commits.length : Nat)) ∧ W = w' := fun W t => by
 obtain ⟨S, rs, rx, h, ho⟩ := h.still t
 obtain ⟨tv, cv, h1⟩ := h.st
 exact vcommits_any (hv.turned t id) (scommits_any h1)
theorem pw_indexed {w0 w : World} {O : Nat → Prop} {d q p v : Nat} {D : Dk} {s : St} {x : Ix} (h : PwAt w0 w O d q p D s x) (hv : Blk w v #[pt q, pt p] 174) : ∀ W, Turned (fun _ => False) w W → Calls Tryz.prog 44 #[pt v] W fun e w' => e = .returned (.int .i64 (min x.len (s.commits.length : Nat))) ∧ Turned (fun _ => False) W w' := fun W t =>
 vindexed_any (hv.turned t id) (fun W2 t2 => by
  obtain ⟨S, rs, rx, h, ho⟩ := (h.still t).still t2
  obtain ⟨tv, cv, h1⟩ := h.st
  exact scommits_any h1) fun W2 t2 => by
  obtain ⟨S, rs, rx, h, ho⟩ := (h.still t).still t2
  obtain ⟨lv, gv, h2⟩ := h.ix
  exact xlen_any h2 h.iok
theorem pw_rowix {w0 w : World} {O : Nat → Prop} {d q p v : Nat} {D : Dk} {s : St} {x : Ix} {n : Int} {g : Gr} {r : Rw} (h : PwAt w0 w O d q p D s x) (hv : Blk w v #[pt q, pt p] 174) (h0 : 0 ≤ n) (h1 : n < s.commits.length) (h2 : n < x.len) (hf : findX x n = some (g, r)) : Calls Tryz.prog 103 #[pt v, .int .i64 n] w (VrPost w r.par r.tree r.gen) :=
 vrow_ix hv (pw_commits h hv) (pw_indexed h hv) h0 h1 (by omega) fun W t => by
  obtain ⟨S, rs, rx, h, ho⟩ := h.still t
  obtain ⟨lv, gv, h2⟩ := h.ix
  exact xrow_some h2 h.iok n hf
theorem pw_rowst {w0 w : World} {O : Nat → Prop} {d q p v : Nat} {D : Dk} {s : St} {x : Ix} {n : Int} (h : PwAt w0 w O d q p D s x) (hv : Blk w v #[pt q, pt p] 174) (h0 : 0 ≤ n) (h1 : n < s.commits.length) (h2 : x.len ≤ n) : Calls Tryz.prog 103 #[pt v, .int .i64 n] w (VrPost w (commitS s n).1.par (commitS s n).1.tree 1024) :=
 vrow_st hv (pw_commits h hv) (pw_indexed h hv) h0 h1 (by omega) fun W t => by
  obtain ⟨S, rs, rx, h, ho⟩ := h.still t
  obtain ⟨tv, cv, h1⟩ := h.st
  exact scommit_any h1 n (by have := h.good.commits; omega) fun c hc => by
   obtain ⟨i, hi⟩ := List.getElem?_of_mem hc
   have := (h.good.commit i c hi).1
   omega
theorem pw_content {w0 w : World} {O : Nat → Prop} {d q p v : Nat} {D : Dk} {s : St} {x : Ix} {n t g : Int} {par : List Int} (h : PwAt w0 w O d q p D s x) (hv : Blk w v #[pt q, pt p] 174) (hr : Calls Tryz.prog 103 #[pt v, .int .i64 n] w (VrPost w par t g)) : Calls Tryz.prog 46 #[pt v, .int .i64 n] w (TreeTo w s t) :=
 vcontent_in hv hr fun W tt => by
  obtain ⟨S, rs, rx, h, ho⟩ := h.still tt
  obtain ⟨tv, cv, h1⟩ := h.st
  exact stree_any h1 t (by have := h.good.trees; omega) fun y hy => by have := (h.good.tree y hy).1.1; omega
theorem pw_may {w0 w : World} {O : Nat → Prop} {d q p v : Nat} {D : Dk} {s : St} {x : Ix} {n : Int} {path : ByteArray} {g : Gr} {r : Rw} (h : PwAt w0 w O d q p D s x) (hv : Blk w v #[pt q, pt p] 174) (h0 : 0 ≤ n) (h1 : n < s.commits.length) (h2 : n < x.len) (hf : findX x n = some (g, r)) (hp : path.size ≤ 1000000000) :
  Calls Tryz.prog 48 #[pt v, .int .i64 n, .string path] w fun e w' => e = .returned (.bool (mayF (stgOf g) (fltOf r) path)) ∧ Turned (fun _ => False) w w' :=
 vmay_in hv (pw_indexed h hv) h0 (by omega) fun W t => by
  obtain ⟨S, rs, rx, h, ho⟩ := h.still t
  obtain ⟨lv, gv, h2⟩ := h.ix
  exact xmay_some h2 h.iok n path hp hf
theorem dk1_read (Q : Nat) : (dk1 Q emp).read chainB = (emp, 6) := rfl
def A1 (w w' : World) (d Q : Nat) : Prop := FsIs w' (fun b => w.heap.size ≤ b ∧ b < w'.heap.size) d ⟨Q, [], [], [], [], 0, false⟩ ∧ Turned (fun _ => False) w w'
theorem dk0_ok (Q : Nat) (h : Q ≤ 16777216) : (⟨Q, [], [], [], [], 0, false⟩ : Dk).Ok := newDk_ok (q := Q) (by unfold newDk; rw [if_neg (by omega)]; rfl)
theorem dk1_ok (Q : Nat) (h : Q ≤ 16777216) : (dk1 Q emp).Ok := by
 have := (dk0_ok Q h).createOk logB
 have h2 : ((⟨Q, [], [], [], [], 0, false⟩ : Dk).create logB).1 = ⟨Q, [⟨emp, 0⟩], [(logB, 0)], [], [⟨emp, logB, 0⟩], 0, false⟩ := rfl
 rw [h2] at this
 exact this.syncNamesOk
theorem st_new (Q : Nat) (h : Q ≤ 16777216) (w : World) : Calls Tryz.prog 24 #[.int .i64 (Q : Nat)] w fun e w' => ∃ d, e = .returned (.tuple #[pt d, .int .i64 0]) ∧ A1 w w' d Q :=
 (fnew_any (Q : Nat) w).mono fun e w' y => by
  have hn : newDk (Q : Nat) = some ⟨Q, [], [], [], [], 0, false⟩ := by unfold newDk; rw [if_neg (by omega)]; rfl
  rcases y with ⟨y, -, -⟩ | ⟨D, d, y, h1, h2, h3⟩
  ·rw [hn] at y; cases y
  ·rw [hn] at y
   obtain rfl := Option.some.inj y
   exact ⟨d, h1, h2.widen fun b hb z => ⟨z, hb⟩, h3⟩
def A2 (w w' : World) (d r Q : Nat) : Prop := ∃ S rs tv cv, FsIs w' S d (dk1 Q emp) ∧ (∀ b, S b → w.heap.size ≤ b ∧ b < w'.heap.size) ∧ StAt 140 w' rs r (pt d) tv cv noSt ∧ (∀ b, rs b ≠ 0 → w.heap.size ≤ b ∧ ¬ S b) ∧ Turned (fun _ => False) w w'
theorem st_open {w w1 : World} {d Q : Nat} (hQ : Q ≤ 16777216) (h : A1 w w1 d Q) : Calls Tryz.prog 25 #[pt d] w1 fun e w' => ∃ r, e = .returned (.tuple #[pt r, .int .i64 0]) ∧ A2 w w' d r Q := by
 obtain ⟨h1, h2⟩ := h
 refine (sopenNew_any h1 (dk0_ok Q hQ) (by simp) (by simp) (fun b hb => hb.2) rfl).mono fun e w' y => ?_
 have z := h2.size
 rw [open_new] at y
 obtain ⟨S, a1, a2, a3, a4, r, rs, tv, cv, a5, a6, a7⟩ := y
 refine ⟨r, a5, S, rs, tv, cv, a1, fun b hb => ⟨?_, a3 b hb⟩, a6, fun b hb => ⟨Nat.le_trans z (a7 b hb).1, (a7 b hb).2⟩, h2.comp a4 fun i hi y => y.elim False.elim fun y => by omega⟩
 rcases a2 b hb with y | y
 ·exact y.1
 ·omega
theorem st_index {w w2 : World} {d r Q : Nat} (hQ : Q ≤ 16777216) (h : A2 w w2 d r Q) (n : Int) : Calls Tryz.prog 13 #[pt d, .int .i64 n] w2 fun e w' => ∃ p, e = .returned (.tuple #[pt p, .int .i64 0]) ∧ PwAt w w' (fun b => w.heap.size ≤ b ∧ b < w'.heap.size) d r p (dk1 Q emp) noSt noIx := by
 obtain ⟨S, rs, tv, cv, a1, a2, a3, a4, a5⟩ := h
 refine (xopenNew_any a1 rfl (dk1_read Q) (by decide) n).mono fun e w' ⟨p, b1, b2, b3, b4, b5⟩ => ?_
 have z := a5.size
 have hrs : ∀ b, rs b ≠ 0 → b < w2.heap.size := a3.bnd
 have hrx : ∀ b, (if b = p then 1 else 0) ≠ 0 → b = p := fun b hb => by
  apply Classical.byContradiction
  intro q
  rw [if_neg q] at hb
  exact hb rfl
 refine ⟨p, b1, S, rs, fun b => if b = p then 1 else 0, ⟨a1.turned b5 fun _ _ z => z, dk1_ok Q hQ, fun b hb => ⟨(a2 b hb).1, Nat.lt_of_lt_of_le (a2 b hb).2 b5.size⟩, ⟨tv, cv, a3.turned b5 fun _ _ z => z⟩, noSt_good, ⟨_, _, b4⟩, noIx_ok, fun x hx => by simp [noIx] at hx, fun b hb => (a4 b hb).1, fun b hb => ?_, fun b hb => ⟨?_, ?_⟩, fun b hb => ?_, a5.trans b5 fun _ _ z => z⟩, fun b hb => ?_⟩
 ·rw [hrx b hb]; omega
 ·apply Classical.byContradiction
  intro q
  exact (a4 b q).2 hb
 ·show (if b = p then 1 else 0) = 0
  rw [if_neg (by have := (a2 b hb).2; omega)]
 ·show (if b = p then 1 else 0) = 0
  rw [if_neg (by have := hrs b hb; omega)]
 ·have hz := b5.size
  rcases hb with y | y | y
  ·exact ⟨(a2 b y).1, by have := (a2 b y).2; omega⟩
  ·exact ⟨(a4 b y).1, by have := hrs b y; omega⟩
  ·rw [hrx b y]; exact ⟨by omega, b3⟩
theorem PwAt.bound {w0 w : World} {O : Nat → Prop} {d q p : Nat} {D : Dk} {s : St} {x : Ix} (h : PwAt w0 w O d q p D s x) : PwAt w0 w (fun b => O b ∧ b < w.heap.size) d q p D s x := by
 obtain ⟨S, rs, rx, h, ho⟩ := h
 refine ⟨S, rs, rx, h, fun b hb => ⟨ho b hb, ?_⟩⟩
 obtain ⟨tv, cv, h1⟩ := h.st
 obtain ⟨lv, gv, h2⟩ := h.ix
 rcases hb with y | y | y
 ·exact (h.sb b y).2
 ·exact h1.bnd b y
 ·exact h2.bnd b y
def Sc (w W0 W : World) (K : Nat → Prop) (d q p : Nat) (D : Dk) (s : St) (x : Ix) : Prop := ∃ O, PwAt w W O d q p D s x ∧ (∀ b, O b → b < W.heap.size) ∧ (∀ b, K b → ¬ O b ∧ b < W0.heap.size) ∧ Turned (fun b => ¬ K b) W0 W
theorem Sc.still {w W0 W W' : World} {K : Nat → Prop} {d q p : Nat} {D : Dk} {s : St} {x : Ix} (h : Sc w W0 W K d q p D s x) (t : Turned (fun _ => False) W W') : Sc w W0 W' K d q p D s x := by
 obtain ⟨O, h1, h2, h3, h4⟩ := h
 exact ⟨O, h1.still t, fun b hb => Nat.lt_of_lt_of_le (h2 b hb) t.size, h3, h4.trans t fun _ _ z => z.elim⟩
theorem Sc.to {w W0 W W' : World} {K O : Nat → Prop} {d q p : Nat} {D' : Dk} {s' : St} {x' : Ix} (h1 : PwTo w W O d q p D' s' x' W') (h3 : ∀ b, K b → ¬ O b ∧ b < W0.heap.size) (h4 : Turned (fun b => ¬ K b) W0 W) : Sc w W0 W' K d q p D' s' x' := by
 have z := h4.size
 exact ⟨_, h1.1.bound, fun b hb => hb.2, fun b hb => ⟨fun y => y.1.elim (h3 b hb).1 fun y => by have := (h3 b hb).2; omega, (h3 b hb).2⟩, h4.trans h1.2 fun b _ z y => (h3 b y).1 z⟩
theorem Sc.blk {w W0 W : World} {K : Nat → Prop} {d q p : Nat} {D : Dk} {s : St} {x : Ix} {b : Nat} {o : Obj} (h : Sc w W0 W K d q p D s x) (hb : W0.heap[b]? = some o) (hK : K b) : W.heap[b]? = some o := by
 obtain ⟨O, h1, h2, h3, h4⟩ := h
 exact (h4.block b (h3 b hK).2 fun z => z hK).trans hb
theorem sc_tree {w W0 W : World} {K : Nat → Prop} {d q p Q : Nat} (hQ : 1000 ≤ Q) (h : Sc w W0 W K d q p (dk1 Q emp) noSt noIx) :
  Calls Tryz.prog 21 #[pt q, .slice (some ⟨W.heap.size, 0, none⟩) 1 1] (W.alloc (.cells #[.string ⟨#[97]⟩, .int .u32 1] 96)) fun e w' => e = .returned (.tuple #[.int .i64 0, .int .i64 0]) ∧ Sc w W0 w' K d q p (dk1 Q L1) sA noIx := by
 obtain ⟨O, h1, h2, h3, h4⟩ := h
 obtain ⟨tA, xA⟩ := one_box (w := W) (.cells #[.string ⟨#[97]⟩, .int .u32 1] 96)
 have hi : Ents (W.alloc (.cells #[.string ⟨#[97]⟩, .int .u32 1] 96)) (fun b => b = W.heap.size) (some ⟨W.heap.size, 0, none⟩) 1 t1 := by
  refine ⟨by decide, by simp [maxLen], t1_ok, fun _ => ⟨_, _, rfl, rfl, lt_of_block xA, fun i y hy => ?_⟩⟩
  match i, hy with
  | 0, hy =>
   obtain rfl : (aB, 1) = y := by simpa [t1] using hy
   exact ⟨cell_of xA 0 _ rfl, cell_of xA 1 _ rfl⟩
  | i + 1, hy => simp [t1] at hy
 have := pw_addTree (h1.still tA) hi (fun b hb z => by have := h2 b z; omega) (by decide)
 rw [step_A hQ] at this
 exact this.mono fun e w' ⟨a, b⟩ => ⟨a, Sc.to b h3 (h4.trans tA fun _ _ z => z.elim)⟩
theorem sc_c0 {w W0 W : World} {K : Nat → Prop} {d q p Q : Nat} (hQ : 1000 ≤ Q) (h : Sc w W0 W K d q p (dk1 Q L1) sA noIx) :
  Calls Tryz.prog 22 #[pt q, .agg #[.slice none 0 0, .int .i64 0]] W fun e w' => e = .returned (.tuple #[.int .i64 0, .int .i64 0]) ∧ Sc w W0 w' K d q p (dk1 Q L2) sB noIx := by
 obtain ⟨O, h1, h2, h3, h4⟩ := h
 have := pw_addCommit (S0 := fun _ => False) (a := none) (cap := 0) (c := c0) h1 ⟨by decide, by simp [maxLen], fun x hx => by simp [c0] at hx, fun z => by simp [c0] at z⟩ (fun b z => z.elim) (by decide)
 rw [step_B hQ] at this
 exact this.mono fun e w' ⟨a, b⟩ => ⟨a, Sc.to b h3 h4⟩
theorem ints_zero {W : World} {b : Nat} (hb : W.heap[b]? = some (.cells #[.int .i64 0] 3)) : Ints W (fun y => y = b) (some ⟨b, 0, none⟩) 1 c1.par := by
 refine ⟨by decide, by simp [maxLen], fun x hx => ?_, fun _ => ⟨_, _, rfl, rfl, lt_of_block hb, fun i x hx => ?_⟩⟩
 ·obtain rfl : x = 0 := by simpa [c1] using hx
  exact ⟨by decide, by decide⟩
 ·match i, hx with
  | 0, hx =>
   obtain rfl : 0 = x := by simpa [c1] using hx
   exact cell_of hb 0 _ rfl
  | i + 1, hx => simp [c1] at hx
theorem sc_c1 {w W0 W : World} {K : Nat → Prop} {d q p : Nat} {D D' : Dk} {x : Ix} (h : Sc w W0 W K d q p D sB x) (hs : addCommit D sB c1 = (D', sC, 1, 0)) :
  Calls Tryz.prog 22 #[pt q, .agg #[.slice (some ⟨W.heap.size, 0, none⟩) 1 1, .int .i64 0]] (W.alloc (.cells #[.int .i64 0] 3)) fun e w' => e = .returned (.tuple #[.int .i64 1, .int .i64 0]) ∧ Sc w W0 w' K d q p D' sC x := by
 obtain ⟨O, h1, h2, h3, h4⟩ := h
 obtain ⟨tA, xA⟩ := one_box (w := W) (.cells #[.int .i64 0] 3)
 have := pw_addCommit (c := c1) (h1.still tA) (ints_zero xA) (fun b hb z => by have := h2 b z; omega) (by decide)
 rw [hs] at this
 exact this.mono fun e w' ⟨a, b⟩ => ⟨a, Sc.to b h3 (h4.trans tA fun _ _ z => z.elim)⟩
def ix1 (n : Int) (sm : Nat) (g : Gr) : Ix := ⟨[(0, n, sm)], [g]⟩
theorem dk1_few (Q : Nat) (L : ByteArray) : Few (dk1 Q L) 800000000 := ⟨by simp [dk1], by simp [dk1]⟩
theorem sc_update {w W0 W : World} {K : Nat → Prop} {d q p Q : Nat} {L : ByteArray} {s : St} (tab : ∀ W, Turned (fun _ => False) w W → Ch.Tab W ∧ Ch.Errs W) (h : Sc w W0 W K d q p (dk1 Q L) s noIx) (h1 : 1 ≤ s.commits.length) (h2 : s.commits.length ≤ 100) (hq : L.size + 1066 + 95 * s.commits.length ≤ Q) :
  Calls Tryz.prog 18 #[pt p, .iface 34 (pt q), .agg #[.int .i64 3, .int .i64 10, .int .i64 9, .int .u32 0]] W fun e w' => e = .returned (.int .i64 0) ∧ ∃ T C sm, T = (encE (newG s usualG 0 [])).1 ∧ C = (encL [(0, (s.commits.length : Int), sm)]).1 ∧ sm = Crc.sum (nums T) ∧ T.size ≤ 66 + 95 * s.commits.length ∧ C.size ≤ 1000 ∧ (encE (newG s usualG 0 [])).2 = 0 ∧ (encL [(0, (s.commits.length : Int), sm)]).2 = 0 ∧ Sc w W0 w' K d q p (dk3 Q L T C) s (ix1 s.commits.length sm (newG s usualG 0 [])) := by
 obtain ⟨O, g1, g2, g3, g4⟩ := h
 have hg : StGood s := by obtain ⟨_, _, _, y, _⟩ := g1; exact y.good
 obtain ⟨T, C, sm, e1, e2, e3, e4, e5, e6, e7, e8⟩ := update_first hg h1 h2 hq
 have := pw_update g1 tab (dk1_few Q L) usualG (by decide) (by rw [e8]; intro y hy; simp only [List.mem_singleton] at hy; rw [hy]; exact ⟨Int.le_refl 0, (by decide : (0 : Int) < 1073741824)⟩)
 rw [e8] at this
 exact this.mono fun e w' ⟨a, b⟩ => ⟨a, T, C, sm, e1, e2, e3, e4, e5, e6, e7, Sc.to b g3 g4⟩
theorem ixB_ok {w w0 : World} {O : Nat → Prop} {d q p : Nat} {D : Dk} {s : St} {x : Ix} (h : PwAt w0 w O d q p D s x) : IxOk x := by
 obtain ⟨S, rs, rx, h, ho⟩ := h
 exact h.iok
theorem findB {sm : Nat} (h : IxOk (ix1 1 sm ⟨0, 3, 10, 9, 0, [rA]⟩)) : findX (ix1 1 sm ⟨0, 3, 10, 9, 0, [rA]⟩) 0 = some (⟨0, 3, 10, 9, 0, [rA]⟩, rA) := by
 obtain ⟨r, h1, h2⟩ := findX_at h (n := 0) (i := 0) (g := ⟨0, 3, 10, 9, 0, [rA]⟩) rfl (by simp [ix1, Ch.totLn]) (by decide)
 have e : (([rA] : List Rw)[((0 : Int) - 0).toNat]?) = some rA := rfl
 have : some rA = some r := e.symm.trans h1
 rw [h2, ← Option.some.inj this]
structure See2 (v : Nat) (W : World) : Prop where
 h43 : ∀ W', Turned (fun _ => False) W W' → Calls Tryz.prog 43 #[pt v] W' fun e w' => e = .returned (.int .i64 2) ∧ W' = w'
 h44 : ∀ W', Turned (fun _ => False) W W' → Calls Tryz.prog 44 #[pt v] W' fun e w' => e = .returned (.int .i64 1) ∧ Turned (fun _ => False) W w'
 h450 : ∀ W', Turned (fun _ => False) W W' → Calls Tryz.prog 45 #[pt v, .int .i64 0] W' fun e w' => e = .returned (.int .i64 1) ∧ Turned (fun _ => False) W w'
 h451 : ∀ W', Turned (fun _ => False) W W' → Calls Tryz.prog 45 #[pt v, .int .i64 1] W' fun e w' => e = .returned (.int .i64 1024) ∧ Turned (fun _ => False) W w'
 h471 : ∀ W', Turned (fun _ => False) W W' → Calls Tryz.prog 47 #[pt v, .int .i64 1] W' fun e w' => (∃ a c, e = .returned (.slice a 1 c)) ∧ Turned (fun _ => False) W w'
 h461 : ∀ W', Turned (fun _ => False) W W' → Calls Tryz.prog 46 #[pt v, .int .i64 1] W' fun e w' => (∃ a c, e = .returned (.slice a 1 c)) ∧ Turned (fun _ => False) W w'
 h481 : ∀ W', Turned (fun _ => False) W W' → Calls Tryz.prog 48 #[pt v, .int .i64 1, .string ⟨#[120]⟩] W' fun e w' => e = .returned (.bool true) ∧ Turned (fun _ => False) W w'
 h480 : ∀ W', Turned (fun _ => False) W W' → Calls Tryz.prog 48 #[pt v, .int .i64 0, .string ⟨#[120]⟩] W' fun e w' => e = .returned (.bool false) ∧ Turned (fun _ => False) W w'
theorem see2 {w W : World} {O : Nat → Prop} {d q p v sm : Nat} {D : Dk} (h : PwAt w W O d q p D sC (ix1 1 sm ⟨0, 3, 10, 9, 0, [rA]⟩)) (hv : Blk W v #[pt q, pt p] 174) : See2 v W := by
 have hio := ixB_ok h
 have hlen : (ix1 1 sm ⟨0, 3, 10, 9, 0, [rA]⟩).len = 1 := by simp [ix1, Ix.len, Ch.totLn]
 have hcl : ((sC.commits.length : Nat) : Int) = 2 := rfl
 have S : ∀ {W'}, Turned (fun _ => False) W W' → PwAt w W' O d q p D sC (ix1 1 sm ⟨0, 3, 10, 9, 0, [rA]⟩) ∧ Blk W' v #[pt q, pt p] 174 := fun t => ⟨h.still t, hv.turned t id⟩
 have R0 : ∀ {W'}, Turned (fun _ => False) W W' → Calls Tryz.prog 103 #[pt v, .int .i64 0] W' (VrPost W' [] 0 1) := fun t => pw_rowix (S t).1 (S t).2 (by decide) (by decide) (by rw [hlen]; decide) (findB hio)
 have R1 : ∀ {W'}, Turned (fun _ => False) W W' → Calls Tryz.prog 103 #[pt v, .int .i64 1] W' (VrPost W' [0] 0 1024) := fun t => pw_rowst (n := 1) (S t).1 (S t).2 (by decide) (by decide) (by rw [hlen]; decide)
 have I44 : ∀ {W'}, Turned (fun _ => False) W W' → ∀ W2, Turned (fun _ => False) W' W2 → Calls Tryz.prog 44 #[pt v] W2 fun e w' => e = .returned (.int .i64 1) ∧ Turned (fun _ => False) W2 w' := fun t W2 t2 => by
  have := pw_indexed (S t).1 (S t).2 W2 t2
  rw [hlen, hcl] at this
  exact this
 refine ⟨fun W' t => ?_, fun W' t => ?_, fun W' t => ?_, fun W' t => ?_, fun W' t => ?_, fun W' t => ?_, fun W' t => ?_, fun W' t => ?_⟩
 ·exact pw_commits (S t).1 (S t).2 W' (Turned.refl _ _)
 ·exact (I44 t W' (Turned.refl _ _)).mono fun e w' ⟨a, b⟩ => ⟨a, t.trans b fun _ _ z => z⟩
 ·exact (vgen_in (R0 t)).mono fun e w' ⟨a, b⟩ => ⟨a, t.trans b fun _ _ z => z⟩
 ·exact (vgen_in (R1 t)).mono fun e w' ⟨a, b⟩ => ⟨a, t.trans b fun _ _ z => z⟩
 ·exact (vparents_in (R1 t)).mono fun e w' ⟨a, c, h1, h2, h3⟩ => ⟨⟨a, c, h1⟩, t.trans h3 fun _ _ z => z⟩
 ·exact (pw_content (S t).1 (S t).2 (R1 t)).mono fun e w' ⟨a, c, h1, h2, h3⟩ => ⟨⟨a, c, h1⟩, t.trans h3 fun _ _ z => z⟩
 ·exact (vmay_out (k := 1) (fun W2 t2 => (I44 t W2 t2).mono fun e w' ⟨a, b⟩ => ⟨a, t2.trans b fun _ _ z => z⟩) (.inr (Int.le_refl 1))).mono fun e w' ⟨a, b⟩ => ⟨a, t.trans b fun _ _ z => z⟩
 ·refine (pw_may (path := xB) (S t).1 (S t).2 (by decide) (by decide) (by rw [hlen]; decide) (findB hio) (by decide)).mono fun e w' ⟨a, b⟩ => ⟨?_, t.trans b fun _ _ z => z⟩
  rw [a]
  exact congrArg (fun b => Ending.returned (.bool b)) may_x
set_option maxHeartbeats 4000000 in
theorem sees_any (w : World) (tab : ∀ W, Turned (fun _ => False) w W → Ch.Tab W ∧ Ch.Errs W) : Calls Tryz.prog 39 #[] w fun e w' => e = .returned (.bool true) ∧ Turned (fun _ => False) w w' := by
 have HN : Hid (Calls Tryz.prog 24 #[.int .i64 10000] w fun e w' => ∃ d, e = .returned (.tuple #[pt d, .int .i64 0]) ∧ A1 w w' d 10000) := hidS (st_new 10000 (by decide) w)
 have HO : Hid (∀ w1 d, A1 w w1 d 10000 → Calls Tryz.prog 25 #[pt d] w1 fun e w' => ∃ r, e = .returned (.tuple #[pt r, .int .i64 0]) ∧ A2 w w' d r 10000) := fun w1 d h => st_open (by decide) h
 have HI : Hid (∀ w2 d r, A2 w w2 d r 10000 → Calls Tryz.prog 13 #[pt d, .int .i64 0] w2 fun e w' => ∃ p, e = .returned (.tuple #[pt p, .int .i64 0]) ∧ PwAt w w' (fun b => w.heap.size ≤ b ∧ b < w'.heap.size) d r p (dk1 10000 emp) noSt noIx) := fun w2 d r h => st_index (by decide) h 0
 have HB : Hid (∀ w3 d q p, PwAt w w3 (fun b => w.heap.size ≤ b ∧ b < w3.heap.size) d q p (dk1 10000 emp) noSt noIx → Sc w (w3.alloc (.cells #[pt q, pt p] 174)) (w3.alloc (.cells #[pt q, pt p] 174)) (fun b => b = w3.heap.size) d q p (dk1 10000 emp) noSt noIx) := fun w3 d q p h => by
  obtain ⟨tA, xA⟩ := one_box (w := w3) (.cells #[pt q, pt p] 174)
  exact ⟨_, h.still tA, fun b hb => Nat.lt_of_lt_of_le hb.2 tA.size, fun b hb => ⟨fun y => by omega, by rw [hb]; exact lt_of_block xA⟩, Turned.refl _ _⟩
 have HT : Hid (∀ W0 W K d q p, Sc w W0 W K d q p (dk1 10000 emp) noSt noIx → Calls Tryz.prog 21 #[pt q, .slice (some ⟨W.heap.size, 0, none⟩) 1 1] (W.alloc (.cells #[.string ⟨#[97]⟩, .int .u32 1] 96)) fun e w' => e = .returned (.tuple #[.int .i64 0, .int .i64 0]) ∧ Sc w W0 w' K d q p (dk1 10000 L1) sA noIx) := fun W0 W K d q p h => sc_tree (by decide) h
 have HC0 : Hid (∀ W0 W K d q p, Sc w W0 W K d q p (dk1 10000 L1) sA noIx → Calls Tryz.prog 22 #[pt q, .agg #[.slice none 0 0, .int .i64 0]] W fun e w' => e = .returned (.tuple #[.int .i64 0, .int .i64 0]) ∧ Sc w W0 w' K d q p (dk1 10000 L2) sB noIx) := fun W0 W K d q p h => sc_c0 (by decide) h
 have HU : Hid (∀ W, Calls Tryz.prog 41 #[] W fun e w' => e = .returned (.agg #[.int .i64 3, .int .i64 10, .int .i64 9, .int .u32 0]) ∧ Turned (fun _ => False) W w') := fun W => usual41_any W
 have HUP : Hid (∀ W0 W K d q p, Sc w W0 W K d q p (dk1 10000 L2) sB noIx → Calls Tryz.prog 18 #[pt p, .iface 34 (pt q), .agg #[.int .i64 3, .int .i64 10, .int .i64 9, .int .u32 0]] W fun e w' => e = .returned (.int .i64 0) ∧ ∃ T C sm, T.size ≤ 300 ∧ C.size ≤ 1000 ∧ Sc w W0 w' K d q p (dk3 10000 L2 T C) sB (ix1 1 sm ⟨0, 3, 10, 9, 0, [rA]⟩)) := fun W0 W K d q p h => by
  refine (sc_update tab h (by decide) (by decide) (by rw [L2_size]; decide)).mono fun e w' ⟨a, T, C, sm, h1, h2, h3, h4, h5, h6, h7, h8⟩ => ⟨a, T, C, sm, Nat.le_trans h4 (by decide), h5, ?_⟩
  rw [newG_B] at h8
  exact h8
 have HC1 : Hid (∀ W0 W K d q p T C x, T.size ≤ 300 → C.size ≤ 1000 → Sc w W0 W K d q p (dk3 10000 L2 T C) sB x → Calls Tryz.prog 22 #[pt q, .agg #[.slice (some ⟨W.heap.size, 0, none⟩) 1 1, .int .i64 0]] (W.alloc (.cells #[.int .i64 0] 3)) fun e w' => e = .returned (.tuple #[.int .i64 1, .int .i64 0]) ∧ Sc w W0 w' K d q p (dk3 10000 L3 T C) sC x) := fun W0 W K d q p T C x h1 h2 h => sc_c1 h (step_C3 (q := 10000) (by omega))
 have HV : Hid (∀ (w3 W : World) d q p T C sm, Sc w (w3.alloc (.cells #[pt q, pt p] 174)) W (fun b => b = w3.heap.size) d q p (dk3 10000 L3 T C) sC (ix1 1 sm ⟨0, 3, 10, 9, 0, [rA]⟩) → See2 w3.heap.size W ∧ Turned (fun _ => False) w W) := fun w3 W d q p T C sm h => by
  have hb := h.blk (one_box (w := w3) (.cells #[pt q, pt p] 174)).2 rfl
  obtain ⟨O, h1, h2, h3, h4⟩ := h
  exact ⟨see2 h1 hb, h1.new_le⟩
 clear tab
 go_enter Tryz.func39, Tryz.ntmps39
 go_wp2_with (first
  | (go_at_call 24; (with_reducible refine HN.out.mono ?_); rintro e w1 ⟨d, rfl, y1⟩; replace y1 : Hid _ := hidS y1)
  | (go_at_call 25; (with_reducible refine (HO.out _ d y1.out).mono ?_); rintro e w2 ⟨q, rfl, y2⟩; replace y2 : Hid _ := hidS y2)
  | (go_at_call 13; (with_reducible refine (HI.out _ d q y2.out).mono ?_); rintro e w3 ⟨p, rfl, y3⟩; replace y3 := HB.out _ d q p y3; replace y3 : Hid _ := hidS y3)
  | (go_at_call 42; (with_reducible refine (vnew_any (some ⟨q, 0, none⟩) (some ⟨p, 0, none⟩) w3).mono ?_); rintro e w4 ⟨rfl, hw4⟩; have y4 := y3.out; have HVV := fun W => HV.out w3 W d q p; rw [← hw4] at y4 HVV; replace y4 : Hid _ := hidS y4; replace HVV : Hid _ := hidS HVV; clear hw4 y3 HV HB)
  | (go_at_call 21; (with_reducible refine (HT.out _ _ _ d q p y4.out).mono ?_); rintro e w5 ⟨rfl, y5⟩; replace y5 : Hid _ := hidS y5)
  | (go_at_call 22; (with_reducible refine (HC0.out _ _ _ d q p y5.out).mono ?_); rintro e w6 ⟨rfl, y6⟩; replace y6 : Hid _ := hidS y6)
  | (go_at_call 41; (with_reducible refine (HU.out w6).mono ?_); rintro e w7 ⟨rfl, y7⟩; replace y7 : Hid _ := hidS (y6.out.still y7))
  | (go_at_call 18; (with_reducible refine (HUP.out _ _ _ d q p y7.out).mono ?_); rintro e w8 ⟨rfl, T, C, sm, hT, hC, y8⟩; replace y8 : Hid _ := hidS (And.intro hT (And.intro hC y8)); clear hT hC)
  | (go_at_call 22; (with_reducible refine (HC1.out _ _ _ d q p T C _ y8.out.1 y8.out.2.1 y8.out.2.2).mono ?_); rintro e w9 ⟨rfl, y9⟩; replace y9 : Hid _ := hidS (HVV.out _ _ _ _ y9); have Q0 : Hid (Turned (fun _ => False) w9 w9) := hidS (Turned.refl _ _))
  | (go_at_call 43; (with_reducible refine (y9.out.1.h43 _ Q0.out).mono ?_); rintro e wx ⟨rfl, rfl⟩)
  | (go_at_call 44; (with_reducible refine (y9.out.1.h44 _ Q0.out).mono ?_); rintro e wx ⟨rfl, qx⟩; clear Q0; have Q0 : Hid _ := hidS qx; clear qx)
  | (go_at_call 45; (with_reducible refine (y9.out.1.h450 _ Q0.out).mono ?_); rintro e wx ⟨rfl, qx⟩; clear Q0; have Q0 : Hid _ := hidS qx; clear qx)
  | (go_at_call 45; (with_reducible refine (y9.out.1.h451 _ Q0.out).mono ?_); rintro e wx ⟨rfl, qx⟩; clear Q0; have Q0 : Hid _ := hidS qx; clear qx)
  | (go_at_call 47; (with_reducible refine (y9.out.1.h471 _ Q0.out).mono ?_); rintro e wx ⟨⟨a9, c9, rfl⟩, qx⟩; clear Q0; have Q0 : Hid _ := hidS qx; clear qx)
  | (go_at_call 46; (with_reducible refine (y9.out.1.h461 _ Q0.out).mono ?_); rintro e wx ⟨⟨a9, c9, rfl⟩, qx⟩; clear Q0; have Q0 : Hid _ := hidS qx; clear qx)
  | (go_at_call 48; (with_reducible refine (y9.out.1.h481 _ Q0.out).mono ?_); rintro e wx ⟨rfl, qx⟩; clear Q0; have Q0 : Hid _ := hidS qx; clear qx)
  | (go_at_call 48; (with_reducible refine (y9.out.1.h480 _ Q0.out).mono ?_); rintro e wx ⟨rfl, qx⟩; clear Q0; have Q0 : Hid _ := hidS qx; clear qx))
 go_ret
 exact ⟨rfl, y9.out.2.trans Q0.out fun _ _ z => z⟩
end Go.Proofs.YtofcogekgcgjhaaGreatDoor

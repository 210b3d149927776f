/- Packed. -/
import Derived.Test.YtofcogekgcgjhaaGreatDoorZzbe
import Derived.Test.YtofcogekgcgjhaaGreatDoorZzai
set_option linter.unusedVariables false
set_option linter.unusedSimpArgs false
set_option maxRecDepth 100000
namespace Go.Proofs.YtofcogekgcgjhaaGreatDoor
open Go.RowKit Go.Mine Go.Mine.Ac
/-! ### What is right of a store -/
structure StGood (s : St) : Prop where
 trees : s.trees.length ≤ 65536
 commits : s.commits.length ≤ 65536
 tree : ∀ t ∈ s.trees, TreeOk t ∧ ∀ x ∈ t, x.2 < 4294967296
 commit : ∀ (n : Nat) (c : Cm), s.commits[n]? = some c → c.par.length ≤ 16 ∧ goodP n c.par ∧ 0 ≤ c.tree ∧ c.tree < s.trees.length
theorem noSt_good : StGood noSt := ⟨by simp [noSt], by simp [noSt], by simp [noSt], by simp [noSt]⟩
theorem StGood.dead {s : St} (h : StGood s) (b : Bool) : StGood { s with dead := b } := ⟨h.trees, h.commits, h.tree, h.commit⟩
theorem checkP_in : ∀ (l seen : List Int), checkP seen l = 0 → ∀ (i : Nat) (p : Int), l[i]? = some p → inR p ∧ p ∉ seen ∧ p ∉ l.take i
 | [], _, _, i, p, hp => by simp at hp
 | q :: l, seen, h, i, p, hp => by
  rw [checkP] at h
  split at h
  ·simp at h
  rename_i h1
  split at h
  ·simp at h
  rename_i h2
  cases i with
  | zero =>
   simp only [List.getElem?_cons_zero, Option.some.injEq] at hp
   subst hp
   exact ⟨Classical.not_not.1 h1, h2, by simp⟩
  | succ i =>
   obtain ⟨a, b, c⟩ := checkP_in l _ h i p (by simpa using hp)
   rw [List.mem_append, List.mem_singleton, not_or] at b
   refine ⟨a, b.1, ?_⟩
   rw [List.take_succ_cons, List.mem_cons, not_or]
   exact ⟨b.2, c⟩
theorem checkC_good {s : St} {c : Cm} (h : checkC c = 0) (hk : knownS s c = true) : c.par.length ≤ 16 ∧ goodP s.commits.length c.par ∧ 0 ≤ c.tree ∧ c.tree < s.trees.length := by
 unfold checkC at h
 split at h
 ·simp at h
 rename_i h1
 split at h
 ·simp at h
 rename_i h2
 unfold knownS at hk
 rw [Bool.and_eq_true, decide_eq_true_eq, List.all_eq_true] at hk
 have h3 : inR c.tree := Classical.not_not.1 h2
 refine ⟨by omega, fun i p hp => ?_, h3.1, hk.1⟩
 obtain ⟨a, -, b⟩ := checkP_in c.par [] h i p hp
 have := hk.2 p (List.mem_of_getElem? hp)
 exact ⟨a.1, by simpa using this, b⟩
theorem StGood.addTree {s : St} {d : Dk} {t : List Ent} (h : StGood s) (ht : ∀ x ∈ t, x.2 < 4294967296) : StGood (addTree d s t).2.1 := by
 by_cases hd : s.dead = true
 ·rw [addTree_dead hd]; exact h
 replace hd : s.dead = false := by simpa using hd
 cases he : encT t with
 | error k => rw [addTree_err hd he]; exact h
 | ok b =>
  by_cases hm : 65536 ≤ s.trees.length
  ·rw [addTree_full hd he hm]; exact h
  obtain ⟨D1, s1, k, hw⟩ : ∃ D1 s1 k, writeS d s 1 b = (D1, s1, k) := ⟨_, _, _, rfl⟩
  obtain ⟨e1, e2⟩ := writeS_trees d s 1 b
  rw [hw] at e1 e2
  simp only at e1 e2
  by_cases hk : k = 0
  ·subst hk
   rw [addTree_good hd he hm hw]
   refine ⟨?_, ?_, ?_, ?_⟩
   ·simp only [List.length_append, e1, List.length_cons, List.length_nil]; omega
   ·simp only [e2]; exact h.commits
   ·intro y hy
    simp only [e1] at hy
    rcases List.mem_append.1 hy with q | q
    ·exact h.tree y q
    ·rw [List.mem_singleton] at q
     subst q
     exact ⟨(encT_ok he).1, ht⟩
   ·intro n c hc
    simp only [e2] at hc
    obtain ⟨a1, a2, a3, a4⟩ := h.commit n c hc
    refine ⟨a1, a2, a3, ?_⟩
    simp only [List.length_append, e1, List.length_cons, List.length_nil]; omega
  ·rw [addTree_bad hd he hm hw hk]
   exact ⟨by simp only [e1]; exact h.trees, by simp only [e2]; exact h.commits, by simp only [e1]; exact h.tree, by simp only [e1, e2]; exact h.commit⟩
theorem StGood.addCommit {s : St} {d : Dk} {c : Cm} (h : StGood s) : StGood (addCommit d s c).2.1 := by
 by_cases hd : s.dead = true
 ·rw [addCommit_dead hd]; exact h
 replace hd : s.dead = false := by simpa using hd
 cases he : encC c with
 | error k => rw [addCommit_err hd he]; exact h
 | ok b =>
  by_cases hk : knownS s c = false
  ·rw [addCommit_unk hd he hk]; exact h
  replace hk : knownS s c = true := by simpa using hk
  by_cases hm : 65536 ≤ s.commits.length
  ·rw [addCommit_full hd he hk hm]; exact h
  obtain ⟨D1, s1, k, hw⟩ : ∃ D1 s1 k, writeS d s 2 b = (D1, s1, k) := ⟨_, _, _, rfl⟩
  obtain ⟨e1, e2⟩ := writeS_trees d s 2 b
  rw [hw] at e1 e2
  simp only at e1 e2
  by_cases h0 : k = 0
  ·subst h0
   rw [addCommit_good hd he hk hm hw]
   refine ⟨by simp only [e1]; exact h.trees, ?_, by simp only [e1]; exact h.tree, ?_⟩
   ·simp only [List.length_append, e2, List.length_cons, List.length_nil]; omega
   ·intro n x hx
    simp only [e1, e2] at hx ⊢
    rw [List.getElem?_append] at hx
    split at hx
    ·exact h.commit n x hx
    ·rename_i q
     have h1 : n = s.commits.length := by
      have := (List.getElem?_eq_some_iff.1 hx).1
      simp only [List.length_cons, List.length_nil] at this
      omega
     subst h1
     simp only [Nat.sub_self, List.getElem?_cons_zero, Option.some.injEq] at hx
     subst hx
     exact checkC_good (encC_ok he).1 hk
  ·rw [addCommit_bad hd he hk hm hw h0]
   exact ⟨by simp only [e1]; exact h.trees, by simp only [e2]; exact h.commits, by simp only [e1]; exact h.tree, by simp only [e1, e2]; exact h.commit⟩
/-! ### Rows -/
def chainT : ByteArray := ⟨#[99, 104, 97, 105, 110, 46, 116, 109, 112]⟩
def graphT : ByteArray := ⟨#[103, 114, 97, 112, 104, 46, 116, 109, 112]⟩
def stgOf (g : Gr) : Stg := ⟨g.h, g.p, g.m, g.seed⟩
def fltOf (r : Rw) : Flt := ⟨r.state, r.bits⟩
def oldS (s : St) (c : Cm) : List Ent := match c.par with | [] => [] | p :: _ => contentS s p
def genOf (all : List Int) (c : Cm) : Int := nextG (c.par.map fun p => all.getD p.toNat 0)
def rowOf (s : St) (g : Stg) (n : Nat) (gen : Int) : Rw := ⟨(commitS s n).1.par, (commitS s n).1.tree, gen, (ofF g (oldS s (commitS s n).1) (contentS s n)).state, (ofF g (oldS s (commitS s n).1) (contentS s n)).bits⟩
def rowsX (s : St) (g : Stg) : Nat → List Int → List Rw
 | 0, _ => []
 | k + 1, known => rowOf s g known.length (genOf known (commitS s known.length).1) :: rowsX s g k (known ++ [genOf known (commitS s known.length).1])
def gensX (x : Ix) : List Int := x.graphs.flatMap fun g => g.rows.map (·.gen)
theorem rowsX_len (s : St) (g : Stg) : ∀ (k : Nat) (known : List Int), (rowsX s g k known).length = k
 | 0, _ => rfl
 | k + 1, known => by rw [rowsX, List.length_cons, rowsX_len s g k]
theorem manyB_le {s : Stg} (hs : goodStg s) {k : Nat} (hk : k ≤ s.m.toNat) : 1 ≤ manyB s k ∧ manyB s k ≤ 4096 := by
 obtain ⟨h1, h2, h3, h4, h5, h6⟩ := hs
 unfold manyB
 have e1 : s.p.toNat ≤ 64 := by omega
 have e2 : k ≤ 512 := by omega
 have e3 : k * s.p.toNat ≤ 512 * 64 := Nat.mul_le_mul e2 e1
 omega
theorem goodF_large : goodF 2 ⟨#[]⟩ = true := by decide
theorem goodF_small {b : ByteArray} (h : 1 ≤ b.size ∧ b.size ≤ 4096) : goodF 1 b = true := by
 unfold goodF
 rw [if_neg (by decide), if_pos rfl]
 simpa using h
theorem makeF_good {s : Stg} (hs : goodStg s) (l : List ByteArray) : goodF (makeF s l).state (makeF s l).bits = true := by
 by_cases h : s.m.toNat < (once l).length
 ·rw [makeF_large h]; exact goodF_large
 ·rw [makeF_small h]
  refine goodF_small ?_
  have h1 := manyB_le hs (k := (once l).length) (by omega)
  have h2 : ∀ (u : List UInt8), (⟨u.toArray⟩ : ByteArray).size = u.length := fun u => by simp [ByteArray.size]
  rw [h2, bytesU_len]
  exact h1
theorem makeF_state (s : Stg) (l : List ByteArray) : (makeF s l).state = 1 ∨ (makeF s l).state = 2 := by
 by_cases h : s.m.toNat < (once l).length
 ·rw [makeF_large h]; exact .inr rfl
 ·rw [makeF_small h]; exact .inl rfl
theorem goodF_size {n : Int} {b : ByteArray} (h : goodF n b = true) : b.size ≤ 4096 := by
 unfold goodF at h
 split at h
 ·have := of_decide_eq_true h; omega
 ·split at h
  ·have := of_decide_eq_true h; omega
  ·simp at h
def GenOk (l : List Int) : Prop := ∀ x ∈ l, 1 ≤ x ∧ x ≤ 1023
theorem counted_low {n : Int} (h : n ≤ 1023) : counted n ≤ 1023 := by unfold counted; rw [if_neg (by omega)]; omega
theorem nextG_low {l : List Int} (h : ∀ x ∈ l, x ≤ 1023) : 1 ≤ nextG l ∧ nextG l ≤ 1023 := by
 have h1 : ∀ (l : List Int) (a : Int), (∀ x ∈ l, x ≤ 1023) → 0 ≤ a → a ≤ 1023 → 0 ≤ l.foldl (fun h p => max h (counted p)) a ∧ l.foldl (fun h p => max h (counted p)) a ≤ 1023 := by
  intro l
  induction l with
  | nil => intro a _ h1 h2; exact ⟨h1, h2⟩
  | cons y l ih =>
   intro a hl h1 h2
   rw [List.foldl_cons]
   have := counted_low (hl y (List.mem_cons_self ..))
   exact ih _ (fun x hx => hl x (List.mem_cons_of_mem _ hx)) (by omega) (by omega)
 have := h1 l 0 h (by omega) (by omega)
 unfold nextG
 simp only []
 split <;> omega
theorem genOf_ok {all : List Int} (h : GenOk all) (c : Cm) : 1 ≤ genOf all c ∧ genOf all c ≤ 1023 := by
 refine nextG_low fun x hx => ?_
 obtain ⟨p, -, rfl⟩ := List.mem_map.1 hx
 rw [List.getD_eq_getElem?_getD]
 cases hp : all[p.toNat]? with
 | none => simp
 | some y => exact (h y (List.mem_of_getElem? hp)).2
theorem commitS_get {s : St} {n : Nat} (h : n < s.commits.length) : ∃ c, s.commits[n]? = some c ∧ (commitS s n).1 = c := by
 refine ⟨_, List.getElem?_eq_getElem h, ?_⟩
 rw [commitS_some (List.getElem?_eq_getElem h)]
theorem rowOf_good {s : St} (hs : StGood s) {g : Stg} (hg : goodStg g) {n : Nat} (hn : n < s.commits.length) {gen : Int} (h : 1 ≤ gen ∧ gen ≤ 1023) : goodR (rowOf s g n gen) n := by
 obtain ⟨c, h1, h2⟩ := commitS_get hn
 obtain ⟨a1, a2, a3, a4⟩ := hs.commit n c h1
 have := hs.trees
 unfold rowOf
 rw [h2]
 exact ⟨a1, a3, by simp only; omega, h.1, h.2, a2, makeF_good hg _⟩
theorem rowsX_good {s : St} (hs : StGood s) {g : Stg} (hg : goodStg g) : ∀ (k : Nat) (known : List Int), GenOk known → known.length + k ≤ s.commits.length → ∀ (i : Nat) (r : Rw), (rowsX s g k known)[i]? = some r → goodR r ((known.length + i : Nat) : Int)
 | 0, known, _, _, i, r, hr => by simp [rowsX] at hr
 | k + 1, known, hk, hl, i, r, hr => by
  rw [rowsX] at hr
  have hge := genOf_ok hk (commitS s known.length).1
  cases i with
  | zero =>
   simp only [List.getElem?_cons_zero, Option.some.injEq] at hr
   subst hr
   exact rowOf_good hs hg (by omega) hge
  | succ i =>
   have := rowsX_good hs hg k (known ++ [genOf known (commitS s known.length).1]) (fun x hx => by
    rcases List.mem_append.1 hx with q | q
    ·exact hk x q
    ·rw [List.mem_singleton] at q; subst q; exact hge) (by simp; omega) i r (by simpa using hr)
   have e : ((known ++ [genOf known (commitS s known.length).1]).length + i : Nat) = known.length + (i + 1) := by simp; omega
   rw [e] at this
   exact this
theorem gensX_ok {x : Ix} (h : IxOk x) : GenOk (gensX x) := fun z hz => by
 obtain ⟨g, hg, hz⟩ := List.mem_flatMap.1 hz
 obtain ⟨r, hr, rfl⟩ := List.mem_map.1 hz
 obtain ⟨i, hi⟩ := List.getElem?_of_mem hg
 obtain ⟨j, hj⟩ := List.getElem?_of_mem hr
 obtain ⟨_, _, _, h4, h5, _⟩ := (h.graph i g hi).1.2.2 j r hj
 exact ⟨h4, h5⟩
theorem tot_take_succ (l : List Ch.Ln) (i : Nat) (y : Ch.Ln) (h : l[i]? = some y) : Ch.totLn (l.take (i + 1)) = Ch.totLn (l.take i) + y.2.1 := by
 rw [List.take_add_one, h, Ch.totLn_append]
 simp [Ch.totLn]
theorem gensX_take {x : Ix} (h : IxOk x) : ∀ i, i ≤ x.links.length → (((x.graphs.take i).flatMap fun g => g.rows.map (·.gen)).length : Int) = Ch.totLn (x.links.take i)
 | 0, _ => by simp [Ch.totLn]
 | i + 1, hi => by
  have hi' : i < x.graphs.length := by rw [h.both]; omega
  have e := List.getElem?_eq_getElem hi'
  obtain ⟨-, -, l, hl, hc⟩ := h.graph i _ e
  have ih := gensX_take h i (by omega)
  rw [tot_take_succ _ _ _ hl, List.take_add_one, e, List.flatMap_append, List.length_append]
  push_cast
  rw [ih, hc]
  simp
theorem gensX_len {x : Ix} (h : IxOk x) : ((gensX x).length : Int) = x.len := by
 have := gensX_take h x.links.length (Nat.le_refl _)
 rw [List.take_of_length_le (by rw [h.both]; exact Nat.le_refl _), List.take_of_length_le (Nat.le_refl _)] at this
 exact this
/-! ### How many changes and files a disk has -/
def Few (d : Dk) (n : Nat) : Prop := d.pend.length ≤ n ∧ d.files.length ≤ n
theorem Few.mono {d : Dk} {n m : Nat} (h : Few d n) (hm : n ≤ m) : Few d m := ⟨Nat.le_trans h.1 hm, Nat.le_trans h.2 hm⟩
theorem Few.then {d : Dk} {n m : Nat} {f : Dk → Dk} (h : Few d n) (hm : n ≤ m) (hf : ∀ k, Few { d with falls := k } n → Few (f { d with falls := k }) m) : Few (d.then f).1 m := by
 by_cases h1 : d.falls = 1
 ·rw [Dk.then_dies h1]; exact h.mono hm
 ·rw [Dk.then_goes h1]; exact hf _ h
theorem Few.create {d : Dk} {n : Nat} (h : Few d n) (name : ByteArray) : Few (d.create name).1 (n + 1) := by
 unfold Dk.create
 split
 ·exact h.mono (Nat.le_succ _)
 split
 ·exact h.mono (Nat.le_succ _)
 split
 ·exact h.mono (Nat.le_succ _)
 refine h.then (Nat.le_succ _) fun k q => ?_
 have h1 := h.1
 have h2 := h.2
 constructor
 ·simp only [Dk.change, List.length_append, List.length_cons, List.length_nil]; omega
 ·simp only [Dk.change, List.length_append, List.length_cons, List.length_nil]; omega
theorem Few.append {d : Dk} {n : Nat} (h : Few d n) (name text : ByteArray) : Few (d.append name text).1 n := by
 unfold Dk.append
 split
 ·exact h
 split
 ·exact h
 exact h.then (Nat.le_refl _) fun k q => ⟨q.1, by simp only [Dk.setF, List.length_set]; exact q.2⟩
theorem Few.sync {d : Dk} {n : Nat} (h : Few d n) (name : ByteArray) : Few (d.sync name).1 n := by
 unfold Dk.sync
 split
 ·exact h
 exact h.then (Nat.le_refl _) fun k q => ⟨q.1, by simp only [Dk.setF, List.length_set]; exact q.2⟩
theorem Few.syncNames {d : Dk} {n : Nat} (h : Few d n) : Few d.syncNames.1 n := by
 unfold Dk.syncNames
 split
 ·exact h
 exact h.then (Nat.le_refl _) fun k q => ⟨Nat.zero_le _, q.2⟩
theorem Few.rename {d : Dk} {n : Nat} (h : Few d n) (a b : ByteArray) : Few (d.rename a b).1 (n + 1) := by
 unfold Dk.rename
 split
 ·exact h.mono (Nat.le_succ _)
 split
 ·exact h.mono (Nat.le_succ _)
 refine h.then (Nat.le_succ _) fun k q => ?_
 have h1 := h.1
 have h2 := h.2
 split
 ·exact q.mono (Nat.le_succ _)
 ·constructor
  ·simp only [Dk.change, List.length_append, List.length_cons, List.length_nil]; omega
  ·simp only [Dk.change]; omega
theorem Few.remove {d : Dk} {n : Nat} (h : Few d n) (a : ByteArray) : Few (d.remove a).1 (n + 1) := by
 unfold Dk.remove
 split
 ·exact h.mono (Nat.le_succ _)
 refine h.then (Nat.le_succ _) fun k q => ?_
 have h1 := h.1
 have h2 := h.2
 constructor
 ·simp only [Dk.change, List.length_append, List.length_cons, List.length_nil]; omega
 ·simp only [Dk.change]; omega
theorem Few.writeS {d : Dk} {n : Nat} (h : Few d n) (s : St) (k : Nat) (b : ByteArray) : Few (writeS d s k b).1 n := by
 obtain ⟨D1, k1, h1⟩ : ∃ D1 k1, d.append logB (toldF ⟨k, b⟩) = (D1, k1) := ⟨_, _, rfl⟩
 have f1 := h.append logB (toldF ⟨k, b⟩)
 rw [h1] at f1
 by_cases q : k1 = 0
 ·subst q
  rw [writeS_goes h1 rfl]
  exact f1.sync _
 ·rw [writeS_dies h1 q]
  exact f1
theorem writeS_ok {d : Dk} (h : d.Ok) (s : St) (k : Nat) (b : ByteArray) : (writeS d s k b).1.Ok := by
 obtain ⟨D1, k1, h1⟩ : ∃ D1 k1, d.append logB (toldF ⟨k, b⟩) = (D1, k1) := ⟨_, _, rfl⟩
 have f1 := h.appendOk logB (toldF ⟨k, b⟩)
 rw [h1] at f1
 by_cases q : k1 = 0
 ·subst q
  rw [writeS_goes h1 rfl]
  exact f1.syncOk _
 ·rw [writeS_dies h1 q]
  exact f1
theorem addTree_disk {P : Dk → Prop} {d : Dk} (s : St) (t : List Ent) (h : P d) (hw : ∀ b, P (writeS d s 1 b).1) : P (addTree d s t).1 := by
 by_cases hd : s.dead = true
 ·rw [addTree_dead hd]; exact h
 replace hd : s.dead = false := by simpa using hd
 cases he : encT t with
 | error k => rw [addTree_err hd he]; exact h
 | ok b =>
  by_cases hm : 65536 ≤ s.trees.length
  ·rw [addTree_full hd he hm]; exact h
  have := hw b
  obtain ⟨D1, s1, k, hw⟩ : ∃ D1 s1 k, Ac.writeS d s 1 b = (D1, s1, k) := ⟨_, _, _, rfl⟩
  rw [hw] at this
  by_cases hk : k = 0
  ·subst hk
   rw [addTree_good hd he hm hw]; exact this
  ·rw [addTree_bad hd he hm hw hk]; exact this
theorem addCommit_disk {P : Dk → Prop} {d : Dk} (s : St) (c : Cm) (h : P d) (hw : ∀ b, P (writeS d s 2 b).1) : P (addCommit d s c).1 := by
 by_cases hd : s.dead = true
 ·rw [addCommit_dead hd]; exact h
 replace hd : s.dead = false := by simpa using hd
 cases he : encC c with
 | error k => rw [addCommit_err hd he]; exact h
 | ok b =>
  by_cases hk : knownS s c = false
  ·rw [addCommit_unk hd he hk]; exact h
  replace hk : knownS s c = true := by simpa using hk
  by_cases hm : 65536 ≤ s.commits.length
  ·rw [addCommit_full hd he hk hm]; exact h
  have := hw b
  obtain ⟨D1, s1, k, hw⟩ : ∃ D1 s1 k, Ac.writeS d s 2 b = (D1, s1, k) := ⟨_, _, _, rfl⟩
  rw [hw] at this
  by_cases h0 : k = 0
  ·subst h0
   rw [addCommit_good hd he hk hm hw]; exact this
  ·rw [addCommit_bad hd he hk hm hw h0]; exact this
/-! ### What graph files and chains are told -/
noncomputable def encE (g : Gr) : ByteArray × Nat :=
 if grErr g = 0 then if 4194304 < (tellT g.rows).B.length then (emp, 5) else if buildErr (chunksG g) = 0 then (built (chunksG g), 0) else (emp, buildErr (chunksG g)) else (emp, 1)
theorem encG_eq (g : Gr) : encG g = .tuple #[.string (encE g).1, .int .i64 ((encE g).2 : Nat)] := by
 unfold encG encE buildV
 split
 ·split
  ·rfl
  ·split <;> rfl
 ·rfl
theorem encE_ok {g : Gr} (h : (encE g).2 = 0) : goodG g := by
 unfold encE at h
 split at h
 ·rename_i q
  unfold grErr at q
  split at q
  ·assumption
  ·simp at q
 ·simp at h
def encL (l : List Ch.Ln) : ByteArray × Nat := if Ch.lnErr l = 0 then (Ch.toldLn l, 0) else (emp, Ch.lnErr l)
theorem encV_eq (l : List Ch.Ln) : Ch.encV l = .tuple #[.string (encL l).1, .int .i64 ((encL l).2 : Nat)] := by
 unfold Ch.encV encL
 split <;> rfl
theorem encL_ok {l : List Ch.Ln} (h : (encL l).2 = 0) : Ch.lnErr l = 0 := by
 unfold encL at h
 split at h
 ·assumption
 ·exact h
/-! ### Files -/
def writeX (d : Dk) (tmp text name : ByteArray) : Dk × Nat :=
 match d.create tmp with
 | (d1, 0) => match d1.append tmp text with
  | (d2, 0) => match d2.sync tmp with
   | (d3, 0) => d3.rename tmp name
   | r => r
  | r => r
 | r => r
theorem writeX_keeps {P : Nat → Dk → Prop} (hm : ∀ n d, P n d → P (n + 1) d) (h1 : ∀ n d s, P n d → P (n + 1) (d.create s).1) (h2 : ∀ n d s t, P n d → P n (d.append s t).1) (h3 : ∀ n d s, P n d → P n (d.sync s).1) (h4 : ∀ n d s t, P n d → P (n + 1) (d.rename s t).1)
  {n : Nat} {d : Dk} (h : P n d) (tmp text name : ByteArray) : P (n + 2) (writeX d tmp text name).1 := by
 unfold writeX
 have a1 := h1 n d tmp h
 split
 ·rename_i d1 e1
  rw [e1] at a1
  have a2 := h2 _ d1 tmp text a1
  split
  ·rename_i d2 e2
   rw [e2] at a2
   have a3 := h3 _ d2 tmp a2
   split
   ·rename_i d3 e3
    rw [e3] at a3
    exact h4 _ d3 tmp name a3
   ·exact hm _ _ a3
  ·exact hm _ _ a2
 ·exact hm _ _ a1
def sweepX (links : List Ch.Ln) : List ByteArray → Dk → Dk
 | [], d => d
 | name :: l, d => sweepX links l (if (Ch.progN name).2 = true ∧ Ch.hasLn links (Ch.progN name).1 = false then (d.remove name).1 else d)
theorem sweepX_keeps {P : Nat → Dk → Prop} (hm : ∀ n d, P n d → P (n + 1) d) (h1 : ∀ n d s, P n d → P (n + 1) (d.remove s).1) (links : List Ch.Ln) : ∀ (l : List ByteArray) (n : Nat) (d : Dk), P n d → P (n + l.length) (sweepX links l d)
 | [], n, d, h => h
 | name :: l, n, d, h => by
  rw [sweepX, List.length_cons]
  have e : n + (l.length + 1) = (n + 1) + l.length := by omega
  rw [e]
  refine sweepX_keeps hm h1 links l (n + 1) _ ?_
  split
  ·exact h1 n d name h
  ·exact hm n d h
def layTail (d : Dk) (n : Int) (text list : ByteArray) : Dk × Nat :=
 match writeX d graphT text (Ch.nameS n) with
 | (d1, 0) => match writeX d1 chainT list chainB with
  | (d2, 0) => d2.syncNames
  | r => r
 | r => r
theorem layTail_keeps {P : Nat → Dk → Prop} (hm : ∀ n d, P n d → P (n + 1) d) (h1 : ∀ n d s, P n d → P (n + 1) (d.create s).1) (h2 : ∀ n d s t, P n d → P n (d.append s t).1) (h3 : ∀ n d s, P n d → P n (d.sync s).1) (h4 : ∀ n d s t, P n d → P (n + 1) (d.rename s t).1) (h5 : ∀ n d, P n d → P n d.syncNames.1)
  {n : Nat} {d : Dk} (h : P n d) (k : Int) (text list : ByteArray) : P (n + 4) (layTail d k text list).1 := by
 unfold layTail
 have a1 := writeX_keeps hm h1 h2 h3 h4 h graphT text (Ch.nameS k)
 split
 ·rename_i d1 e1
  rw [e1] at a1
  have a2 := writeX_keeps hm h1 h2 h3 h4 a1 chainT list chainB
  split
  ·rename_i d2 e2
   rw [e2] at a2
   exact h5 _ _ a2
  ·exact a2
 ·exact hm _ _ (hm _ _ a1)
def failX (d : Dk) (n : Int) : Dk := (((d.remove graphT).1.remove chainT).1.remove (Ch.nameS n)).1
noncomputable def linkX (x : Ix) (links : List Ch.Ln) (g : Gr) : List Ch.Ln := links ++ [(Ch.nxt x.links, (g.rows.length : Int), Crc.sum (nums (encE g).1))]
noncomputable def layX (d : Dk) (x : Ix) (links : List Ch.Ln) (graphs : List Gr) (g : Gr) : Dk × Ix × Nat :=
 if (encE g).2 ≠ 0 then (d, x, (encE g).2)
 else if (encL (linkX x links g)).2 ≠ 0 then (d, x, (encL (linkX x links g)).2)
 else match layTail d (Ch.nxt x.links) (encE g).1 (encL (linkX x links g)).1 with
  | (d1, 0) => (sweepX (linkX x links g) d1.names d1, ⟨linkX x links g, graphs ++ [g]⟩, 0)
  | (d1, e) => (failX d1 (Ch.nxt x.links), x, e)
def newG (s : St) (g : Stg) (base : Int) (known : List Int) : Gr := ⟨base, g.h, g.p, g.m, g.seed, rowsX s g (s.commits.length - known.length) known⟩
noncomputable def compactX (d : Dk) (x : Ix) (s : St) (g : Stg) : Dk × Ix × Nat :=
 if readyE x s g ≠ 0 then (d, x, readyE x s g)
 else if s.commits.length = 0 then (d, x, 0)
 else layX d x [] [] (newG s g 0 [])
noncomputable def updateX (d : Dk) (x : Ix) (s : St) (g : Stg) : Dk × Ix × Nat :=
 if readyE x s g ≠ 0 then (d, x, readyE x s g)
 else if (s.commits.length : Int) = x.len then (d, x, 0)
 else if 8 ≤ x.links.length then compactX d x s g
 else layX d x x.links x.graphs (newG s g x.len (gensX x))
/-! ### What stays -/
theorem insN_len (s : ByteArray) : ∀ l, (insN s l).length = l.length + 1
 | [] => rfl
 | x :: l => by
  rw [insN]
  split
  ·rfl
  ·rw [List.length_cons, insN_len s l, List.length_cons]
theorem sortN_len (l : List ByteArray) : (sortN l).length = l.length := by
 induction l with
 | nil => rfl
 | cons x l ih =>
  have : sortN (x :: l) = insN x (sortN l) := rfl
  rw [this, insN_len, ih, List.length_cons]
theorem names_len {d : Dk} (h : d.Ok) : d.names.length ≤ 64 := by
 unfold Dk.names
 split
 ·simp
 ·rw [sortN_len, List.length_map]; exact h.seenOk.many
theorem failX_keeps {P : Nat → Dk → Prop} (h1 : ∀ n d s, P n d → P (n + 1) (d.remove s).1) {n : Nat} {d : Dk} (h : P n d) (k : Int) : P (n + 3) (failX d k) := h1 _ _ _ (h1 _ _ _ (h1 _ _ _ h))
theorem layX_keeps {P : Nat → Dk → Prop} (hm : ∀ n d, P n d → P (n + 1) d) (h1 : ∀ n d s, P n d → P (n + 1) (d.create s).1) (h2 : ∀ n d s t, P n d → P n (d.append s t).1) (h3 : ∀ n d s, P n d → P n (d.sync s).1) (h4 : ∀ n d s t, P n d → P (n + 1) (d.rename s t).1) (h5 : ∀ n d, P n d → P n d.syncNames.1) (h6 : ∀ n d s, P n d → P (n + 1) (d.remove s).1)
  (h7 : ∀ n d, P n d → d.names.length ≤ 64) {n : Nat} {d : Dk} (h : P n d) (x : Ix) (links : List Ch.Ln) (graphs : List Gr) (g : Gr) : P (n + 68) (layX d x links graphs g).1 := by
 have up : ∀ k n d, P n d → P (n + k) d := by
  intro k
  induction k with
  | zero => intro n d h; exact h
  | succ k ih => intro n d h; exact hm _ _ (ih n d h)
 unfold layX
 split
 ·exact up 68 _ _ h
 split
 ·exact up 68 _ _ h
 have a1 := layTail_keeps hm h1 h2 h3 h4 h5 h (Ch.nxt x.links) (encE g).1 (encL (linkX x links g)).1
 split
 ·rename_i d1 e1
  rw [e1] at a1
  have a2 := sweepX_keeps hm h6 (linkX x links g) d1.names _ _ a1
  have a3 : d1.names.length ≤ 64 := h7 _ _ a1
  have a4 := up (64 - d1.names.length) _ _ a2
  have e : n + 4 + d1.names.length + (64 - d1.names.length) = n + 68 := by omega
  rw [e] at a4
  exact a4
 ·rename_i d1 e1 e2 e3
  rw [e3] at a1
  exact up 61 _ _ (failX_keeps h6 a1 _)
theorem layX_few {n : Nat} {d : Dk} (h : Few d n) (hok : d.Ok) (x : Ix) (links : List Ch.Ln) (graphs : List Gr) (g : Gr) : Few (layX d x links graphs g).1 (n + 68) ∧ (layX d x links graphs g).1.Ok :=
 layX_keeps (P := fun n d => Few d n ∧ d.Ok) (fun n d q => ⟨q.1.mono (Nat.le_succ _), q.2⟩) (fun n d s q => ⟨q.1.create s, q.2.createOk s⟩) (fun n d s t q => ⟨q.1.append s t, q.2.appendOk s t⟩) (fun n d s q => ⟨q.1.sync s, q.2.syncOk s⟩)
  (fun n d s t q => ⟨q.1.rename s t, q.2.renameOk s t⟩) (fun n d q => ⟨q.1.syncNames, q.2.syncNamesOk⟩) (fun n d s q => ⟨q.1.remove s, q.2.removeOk s⟩) (fun n d q => names_len q.2) ⟨h, hok⟩ x links graphs g
theorem updateX_few {n : Nat} {d : Dk} (h : Few d n) (hok : d.Ok) (x : Ix) (s : St) (g : Stg) : Few (updateX d x s g).1 (n + 68) ∧ (updateX d x s g).1.Ok ∧ Few (compactX d x s g).1 (n + 68) ∧ (compactX d x s g).1.Ok := by
 have hs : Few d (n + 68) ∧ d.Ok := ⟨h.mono (Nat.le_add_right _ _), hok⟩
 have hc : Few (compactX d x s g).1 (n + 68) ∧ (compactX d x s g).1.Ok := by
  unfold compactX
  split
  ·exact hs
  split
  ·exact hs
  exact layX_few h hok _ _ _ _
 have hu : Few (updateX d x s g).1 (n + 68) ∧ (updateX d x s g).1.Ok := by
  unfold updateX
  split
  ·exact hs
  split
  ·exact hs
  split
  ·exact hc
  exact layX_few h hok _ _ _ _
 exact ⟨hu.1, hu.2, hc.1, hc.2⟩
theorem layX_ix {d : Dk} {x : Ix} {links : List Ch.Ln} {graphs : List Gr} {g : Gr} (hx : IxOk x) (hl : ∀ l ∈ links, l.2.2 < 4294967296) (hb : graphs.length = links.length)
  (hg : ∀ (i : Nat) (g' : Gr), graphs[i]? = some g' → goodG g' ∧ g'.base = Ch.totLn (links.take i) ∧ ∃ l, links[i]? = some l ∧ l.2.1 = g'.rows.length) (hbase : g.base = Ch.totLn links) : IxOk (layX d x links graphs g).2.1 := by
 unfold layX
 split
 ·exact hx
 rename_i h1
 split
 ·exact hx
 rename_i h2
 have e1 := encE_ok (Classical.not_not.1 h1)
 have e2 := Ch.lnErr_ok _ (encL_ok (Classical.not_not.1 h2))
 split
 ·refine ⟨e2.1, by simp [linkX, hb], fun l hm => ?_, fun i g' hi => ?_⟩
  ·obtain ⟨a, b, c, e⟩ := e2.2.2 l hm
   refine ⟨a, b, c, e, ?_⟩
   rcases List.mem_append.1 hm with q | q
   ·exact hl l q
   ·rw [List.mem_singleton] at q
    subst q
    exact crcsum_lt _
  ·simp only at hi ⊢
   unfold linkX
   rw [List.getElem?_append] at hi
   split at hi
   ·rename_i q
    obtain ⟨a, b, l, c, e⟩ := hg i g' hi
    have hi2 : i < links.length := by omega
    exact ⟨a, by rw [b, List.take_append_of_le_length (by omega)], l, by rw [List.getElem?_append_left hi2]; exact c, e⟩
   ·rename_i q
    have hie : i = graphs.length := by
     have := (List.getElem?_eq_some_iff.1 hi).1
     simp only [List.length_cons, List.length_nil] at this
     omega
    subst hie
    simp only [Nat.sub_self, List.getElem?_cons_zero, Option.some.injEq] at hi
    subst hi
    exact ⟨e1, by rw [hb, List.take_append_of_le_length (Nat.le_refl _), List.take_length]; exact hbase, _, by rw [hb, List.getElem?_append_right (Nat.le_refl _), Nat.sub_self]; rfl, rfl⟩
 ·exact hx
theorem compactX_ix {d : Dk} {x : Ix} (hx : IxOk x) (s : St) (g : Stg) : IxOk (compactX d x s g).2.1 := by
 unfold compactX
 split
 ·exact hx
 split
 ·exact hx
 exact layX_ix hx (fun l h => by simp at h) rfl (fun i g' h => by simp at h) rfl
theorem updateX_ix {d : Dk} {x : Ix} (hx : IxOk x) (s : St) (g : Stg) : IxOk (updateX d x s g).2.1 := by
 unfold updateX
 split
 ·exact hx
 split
 ·exact hx
 split
 ·exact compactX_ix hx s g
 exact layX_ix hx (fun l h => (hx.link l h).2.2.2.2) hx.both hx.graph rfl
theorem noIx_ok : IxOk noIx := ⟨by simp [noIx], rfl, fun l h => by simp [noIx] at h, fun i g h => by simp [noIx] at h⟩
end Go.Proofs.YtofcogekgcgjhaaGreatDoor

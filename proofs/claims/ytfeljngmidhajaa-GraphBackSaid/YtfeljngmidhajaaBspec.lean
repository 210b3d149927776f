/- What a container is, in plain words: the checks, the order, the bytes. -/
import Derived.Test.YtfeljngmidhajaaClone
namespace Go.Proofs.Ytfeljngmidhajaa
open Go.RowKit Go.Mine

/-- the first fault of the chunks: an ID that is 0 (1), one that stands before (11); 0: none -/
def checkCh : List Ch → List Ch → Nat
  | _, [] => 0
  | pre, c :: r => if c.1 = 0 then 1 else if hasCh pre c.1 then 11 else checkCh (pre ++ [c]) r

/-- how many bytes the data have -/
def dataSize : List Ch → Nat
  | [] => 0
  | c :: l => c.2.size + dataSize l
theorem dataSize_append (a b : List Ch) : dataSize (a ++ b) = dataSize a + dataSize b := by
  induction a with
  | nil => simp [dataSize]
  | cons c a ih => simp [dataSize, ih]; omega

/-- what is wrong with a list of chunks -/
def buildErr (l : List Ch) : Nat :=
  if 16 < l.length then 5
  else if checkCh [] l ≠ 0 then checkCh [] l
  else if 4194304 < 10 + 8 * l.length + dataSize l then 5 else 0

/-- a chunk put in ahead of the first one whose ID is not less -/
def insCh (c : Ch) : List Ch → List Ch
  | [] => [c]
  | d :: l => if d.1 < c.1 then d :: insCh c l else c :: d :: l
/-- by rising IDs, as the document sorts -/
def sortCh (l : List Ch) : List Ch := l.foldl (fun out c => insCh c out) []

theorem insCh_perm (c : Ch) (l : List Ch) : (insCh c l).Perm (c :: l) := by
  induction l with
  | nil => exact List.Perm.refl _
  | cons d l ih =>
    unfold insCh
    split
    · exact (List.Perm.cons d ih).trans (List.Perm.swap c d l)
    · exact List.Perm.refl _
theorem foldl_ins_perm (l : List Ch) : ∀ out : List Ch, (l.foldl (fun out c => insCh c out) out).Perm (l ++ out) := by
  induction l with
  | nil => intro out; exact List.Perm.refl _
  | cons c l ih =>
    intro out
    refine (ih _).trans ?_
    refine (List.Perm.append_left l (insCh_perm c out)).trans ?_
    exact List.perm_middle
theorem sortCh_perm (l : List Ch) : (sortCh l).Perm l := by
  have := foldl_ins_perm l []
  rwa [List.append_nil] at this

abbrev Rising (l : List Ch) : Prop := l.Pairwise (fun a b => a.1 < b.1)

theorem insCh_rising (c : Ch) (l : List Ch) (h : Rising l) (hc : ∀ d ∈ l, d.1 ≠ c.1) : Rising (insCh c l) := by
  induction l with
  | nil => simp [insCh, Rising]
  | cons d l ih =>
    unfold insCh
    have hd := List.pairwise_cons.1 h
    split
    · rename_i hlt
      refine List.pairwise_cons.2 ⟨fun e he => ?_, ih hd.2 fun e he => hc e (List.mem_cons_of_mem _ he)⟩
      rcases List.mem_cons.1 ((insCh_perm c l).mem_iff.1 he) with rfl | he
      · exact hlt
      · exact hd.1 e he
    · rename_i hlt
      have hlt2 : c.1 < d.1 := by have := hc d List.mem_cons_self; omega
      refine List.pairwise_cons.2 ⟨fun e he => ?_, h⟩
      rcases List.mem_cons.1 he with rfl | he
      · exact hlt2
      · have := hd.1 e he; omega

theorem sortCh_rising (l : List Ch) (h : (l.map (·.1)).Nodup) : Rising (sortCh l) := by
  have : ∀ (l out : List Ch), Rising out → ((out ++ l).map (·.1)).Nodup → Rising (l.foldl (fun out c => insCh c out) out) := by
    intro l
    induction l with
    | nil => intro out h _; exact h
    | cons c l ih =>
      intro out h hn
      have hp : ((insCh c out ++ l).map (·.1)).Perm ((out ++ c :: l).map (·.1)) :=
        List.Perm.map _ ((List.Perm.append_right l (insCh_perm c out)).trans (List.perm_middle.symm))
      refine ih _ (insCh_rising c out h fun d hd q => ?_) (hp.nodup_iff.2 hn)
      rw [List.map_append, List.nodup_append] at hn
      exact hn.2.2 d.1 (List.mem_map.2 ⟨d, hd, rfl⟩) c.1 (by simp) q
  exact this l [] List.Pairwise.nil (by simpa using h)

/-- two rising lists of the same chunks are one -/
theorem rising_unique : ∀ (a b : List Ch), Rising a → Rising b → a.Perm b → a = b
  | [], b, _, _, hp => (List.Perm.nil_eq hp)
  | c :: a, [], _, _, hp => absurd hp.symm (by simp)
  | c :: a, d :: b, ha, hb, hp => by
    have h1 := List.pairwise_cons.1 ha
    have h2 := List.pairwise_cons.1 hb
    have hcd : c = d := by
      rcases List.mem_cons.1 (hp.mem_iff.1 (List.mem_cons_self : c ∈ c :: a)) with q | q
      · exact q
      · rcases List.mem_cons.1 (hp.mem_iff.2 (List.mem_cons_self : d ∈ d :: b)) with z | z
        · exact z.symm
        · have := h2.1 c q; have := h1.1 d z; omega
    subst hcd
    rw [rising_unique a b h1.2 h2.2 (List.Perm.cons_inv hp)]

theorem checkCh_ok (l : List Ch) : ∀ pre : List Ch, checkCh pre l = 0 → (pre.map (·.1)).Nodup → ((pre ++ l).map (·.1)).Nodup ∧ ∀ c ∈ l, c.1 ≠ 0 := by
  induction l with
  | nil => intro pre _ hn; exact ⟨by simpa using hn, fun c hc => by simp at hc⟩
  | cons c l ih =>
    intro pre h hn
    unfold checkCh at h
    split at h
    · omega
    · split at h
      · omega
      · rename_i h0 hh
        have hnot : c.1 ∉ pre.map (·.1) := by
          intro q
          obtain ⟨d, hd, hdc⟩ := List.mem_map.1 q
          apply hh
          unfold hasCh
          rw [List.any_eq_true]
          exact ⟨d, hd, by simpa using hdc⟩
        have hn2 : ((pre ++ [c]).map (·.1)).Nodup := by
          rw [List.map_append, List.nodup_append]
          refine ⟨hn, by simp, fun x hx y hy q => ?_⟩
          simp at hy
          subst hy
          exact hnot (q ▸ hx)
        obtain ⟨q1, q2⟩ := ih _ h hn2
        rw [List.append_assoc] at q1
        refine ⟨q1, fun d hd => ?_⟩
        rcases List.mem_cons.1 hd with rfl | hd
        · exact h0
        · exact q2 d hd

/-- the table of sorted chunks -/
def tableCh : List Ch → List UInt8
  | [] => []
  | c :: l => num c.1 4 ++ num c.2.size 4 ++ tableCh l
/-- their data -/
def dataCh : List Ch → List UInt8
  | [] => []
  | c :: l => c.2.data.toList ++ dataCh l
def magicC : List UInt8 := [80, 68, 71, 67, 1]
/-- a container's bytes ahead of its sum -/
def bodyCh (l : List Ch) : List UInt8 := magicC ++ num l.length 1 ++ tableCh l ++ dataCh l
/-- a container -/
def built (l : List Ch) : ByteArray := sealed ⟨(bodyCh (sortCh l)).toArray⟩
/-- what Build answers -/
def buildV (l : List Ch) : Value :=
  if buildErr l = 0 then .tuple #[.string (built l), .int .i64 0] else .tuple #[.string ⟨#[]⟩, .int .i64 (buildErr l : Nat)]

theorem tableCh_append (a b : List Ch) : tableCh (a ++ b) = tableCh a ++ tableCh b := by
  induction a with
  | nil => rfl
  | cons c a ih => simp [tableCh, ih]
theorem dataCh_append (a b : List Ch) : dataCh (a ++ b) = dataCh a ++ dataCh b := by
  induction a with
  | nil => rfl
  | cons c a ih => simp [dataCh, ih]
theorem tableCh_length (l : List Ch) : (tableCh l).length = 8 * l.length := by
  induction l with
  | nil => rfl
  | cons c l ih => simp [tableCh, ih, num_length]; omega
theorem dataCh_length (l : List Ch) : (dataCh l).length = dataSize l := by
  induction l with
  | nil => rfl
  | cons c l ih => simp [dataCh, dataSize, ih]
theorem dataSize_perm {a b : List Ch} (h : a.Perm b) : dataSize a = dataSize b := by
  induction h with
  | nil => rfl
  | cons c _ ih => simp [dataSize, ih]
  | swap c d l => simp [dataSize]; omega
  | trans _ _ i1 i2 => exact i1.trans i2
end Go.Proofs.Ytfeljngmidhajaa

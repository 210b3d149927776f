/- Lists of chunks as they lie in memory; the search for an ID, the program's and the document's. -/
import Derived.Test.YtfeljngmidhajaaPackX
namespace Go.Proofs.Ytfeljngmidhajaa
open Go.RowKit Go.Mine

/-- an ID and its data -/
abbrev Ch := Nat × ByteArray

/-- the slice of n elements at a reads as the chunks l -/
def ChIs (w : World) (a : Option Addr) (cap : Nat) (l : List Ch) : Prop :=
  l.length ≤ cap ∧ cap ≤ maxLen ∧ (∀ c ∈ l, c.1 < 4294967296 ∧ c.2.size ≤ 140737488355328) ∧ (0 < l.length → ∃ b off, a = some ⟨b, off, none⟩ ∧ b < w.heap.size ∧
    ∀ i c, l[i]? = some c → w.cell? ⟨b, off + i * 2, none⟩ = some (.int .u32 (c.1 : Nat)) ∧ w.cell? ⟨b, off + i * 2 + 1, none⟩ = some (.string c.2))

theorem ChIs.turned {w w' : World} {a : Option Addr} {cap : Nat} {l : List Ch} (h : ChIs w a cap l) (ht : Turned (fun _ => False) w w') : ChIs w' a cap l := by
  refine ⟨h.1, h.2.1, h.2.2.1, fun h0 => ?_⟩
  obtain ⟨b, off, h1, h2, h3⟩ := h.2.2.2 h0
  refine ⟨b, off, h1, Nat.lt_of_lt_of_le h2 ht.size, fun i c hi => ?_⟩
  rw [World.cell?_of_block (w' := w') (ht.block b h2 fun q => q), World.cell?_of_block (w' := w') (ht.block b h2 fun q => q)]
  exact h3 i c hi

/-- the first chunk with the ID -/
def findCh (l : List Ch) (id : Nat) : Option Ch := l.find? (fun c => decide (c.1 = id))
def foundV (o : Option Ch) : Value := .tuple #[.string (match o with | some c => c.2 | none => ⟨#[]⟩), .bool o.isSome]

theorem findCh_none {l : List Ch} {id : Nat} (h : ∀ c ∈ l, c.1 ≠ id) : findCh l id = none := by
  unfold findCh
  rw [List.find?_eq_none]
  intro c hc
  simpa using h c hc
theorem findCh_at {l : List Ch} {id : Nat} (j : Nat) (c : Ch) (hc : l[j]? = some c) (h : ∀ i d, i < j → l[i]? = some d → d.1 ≠ id) (hid : c.1 = id) : findCh l id = some c := by
  unfold findCh
  have hj := (List.getElem?_eq_some_iff.1 hc).1
  have hsplit : l = l.take j ++ c :: l.drop (j + 1) := by
    have h2 := List.drop_eq_getElem_cons hj
    have h3 := (List.getElem?_eq_some_iff.1 hc).2
    rw [h3] at h2
    rw [← h2, List.take_append_drop]
  rw [hsplit, List.find?_append]
  have h1 : (l.take j).find? (fun c => decide (c.1 = id)) = none := by
    rw [List.find?_eq_none]
    intro d hd
    obtain ⟨i, hi⟩ := List.getElem?_of_mem hd
    have hlt : i < j := by
      have := (List.getElem?_eq_some_iff.1 hi).1
      rw [List.length_take] at this; omega
    rw [List.getElem?_take, if_pos hlt] at hi
    simpa using h i d hlt hi
  rw [h1]
  simp [hid]

def FindRel (w : World) (l : List Ch) (id : Nat) (g : Nat) (i : Value) (wr : World) : Prop :=
  ∃ j : Nat, j + g = l.length ∧ i = .int .i64 j ∧ (∀ t d, t < j → l[t]? = some d → d.1 ≠ id) ∧ Turned (fun _ => False) w wr

set_option maxRecDepth 100000 in
set_option maxHeartbeats 1000000 in
theorem find_any (a : Option Addr) (cap : Nat) (l : List Ch) (id : Nat) (w : World) (h : ChIs w a cap l) :
    Calls Try.prog 20 #[.slice a l.length cap, .int .u32 id] w fun e w' => e = .returned (foundV (findCh l id)) ∧ Turned (fun _ => False) w w' := by
  have H : Hid (ChIs w a cap l) := h
  obtain ⟨L, hL⟩ : ∃ L, L = l.length := ⟨_, rfl⟩
  have HL : Hid (L = l.length) := hL
  rw [← hL]
  have hcap : Hid (L ≤ 9223372036854775807) := (by rw [hL]; have := h.1; have := h.2.1; simp only [maxLen] at this; omega : L ≤ 9223372036854775807)
  clear h hL
  go_enter Try.func20, Try.ntmps20
  go_wp2
  have HS : Hid (FindRel w l id L (.int .i64 0) w) := ⟨0, by rw [HL.out, Nat.zero_add], rfl, fun t d ht => by omega, Turned.refl _ _⟩
  go_loopg [10] L (fun g i wr => FindRel w l id g i wr)
  case atStart => exact HS.out
  case round =>
    obtain ⟨j, hjg, rfl, hno, ht⟩ := hrel
    have N : Hid (∀ t d, t < j → l[t]? = some d → d.1 ≠ id) := hno
    have T : Hid (Turned (fun _ => False) w wr) := ht
    have G : Hid (j + gk = l.length) := hjg
    clear hno ht hjg HS
    by_cases hlt : j < L
    · obtain ⟨c, hc⟩ : ∃ c, l[j]? = some c := ⟨_, List.getElem?_eq_getElem (by rw [← HL.out]; exact hlt)⟩
      obtain ⟨b, off, rfl, hbw, hel⟩ := (H.out.turned T.out).2.2.2 (by rw [← HL.out]; omega)
      obtain ⟨c0, c1⟩ := hel j c hc
      have hw : wrap64 ((j : Int) + 1) = ((j + 1 : Nat) : Int) := by have := hcap.out; simp [wrap64]; omega
      have HW : Hid (wrap64 ((j : Int) + 1) = ((j + 1 : Nat) : Int)) := hw
      have C : Hid (l[j]? = some c) := hc
      clear hc hel hw
      by_cases hid : c.1 = id
      · subst hid
        go_wp2
        go_ret2
        refine ⟨?_, T.out.trans (Turned.alloc _ _ _) fun _ _ q => q⟩
        rw [findCh_at j c C.out N.out rfl]
        rfl
      · have hne : ((c.1 : Int) = (id : Int)) = False := by apply propext; exact ⟨fun q => hid (by omega), fun q => q.elim⟩
        go_wp2
        go_roundg (gk - 1)
        case measure => have := G.out; have := HL.out; omega
        case rel =>
          refine ⟨j + 1, by have := G.out; have := HL.out; omega, by rw [HW.out], fun t d ht hd => ?_, T.out.trans (Turned.alloc _ _ _) fun _ _ q => q⟩
          rcases Nat.lt_or_eq_of_le (Nat.le_of_lt_succ ht) with q | q
          · exact N.out t d q hd
          · rw [q, C.out] at hd; obtain rfl := Option.some.inj hd; exact hid
    · go_wp2
      go_ret2
      refine ⟨?_, T.out⟩
      rw [findCh_none fun c hc => ?_]
      · rfl
      · obtain ⟨t, ht⟩ := List.getElem?_of_mem hc
        have := (List.getElem?_eq_some_iff.1 ht).1
        exact N.out t c (by have := HL.out; omega) ht
end Go.Proofs.Ytfeljngmidhajaa

/- A script read: commands as they lie; a text's lines counted. -/
import Derived.Test.YteblabpplaaddaaGreatDoorPa
import Derived.Shelf.Strings.Prefix
set_option linter.unusedVariables false
set_option linter.unusedSimpArgs false
namespace Go.Mine
open Go.RowKit
theorem wpAt_block {fn0 : FuncId} {n : Nat} {P : Program} {Q : Exit → Act → World → Prop} {a : Act} {w : World} {id : Nat} {c : Code} (h : wpAt fn0 n P c (Exit.inBlock id Q) a w) : wpAt fn0 n P (Code.block id c) Q a w := by
  intro b k cs hro hb hr
  have h0 : (lone (b.atR a (.code (.block id c) :: k)) cs w).fenced P Fence.wide := fenced_wide _ _
  obtain ⟨e, a₁, w₁, hq, harr⟩ := h b (.inBlock id :: k) cs hro hb hr
  cases e with
  | normal => exact ⟨.normal, a₁, w₁, hq, .head h0 stepR_block (StepsIn.trans harr (.one (fenced_wide _ _) stepR_inBlock))⟩
  | exit id' =>
    by_cases hid : id' = id
    · simp only [Exit.inBlock, hid, if_true] at hq
      exact ⟨.normal, a₁, w₁, hq, .head h0 stepR_block (harr.1 k (by simp [exitTo, hid]))⟩
    · simp only [Exit.inBlock, hid, if_false] at hq
      have this : (id == id') = false := by simp; exact fun h => hid h.symm
      have hx : exitTo id' (.inBlock id :: k) = exitTo id' k := by simp [exitTo, this]
      exact ⟨.exit id', a₁, w₁, hq, fun k' hk => .head h0 stepR_block (harr.1 k' (by rw [hx]; exact hk)),
        fun hr' hk => let ⟨k₁, h1, h2⟩ := harr.2 hr' (by rw [hx]; exact hk); ⟨k₁, h1, .head h0 stepR_block h2⟩⟩
  | goto l =>
    have hx : gotoIn l (.inBlock id :: k) = gotoIn l k := by simp [gotoIn]
    exact ⟨_, a₁, w₁, hq, fun k' hk => .head h0 stepR_block (harr.1 k' (by rw [hx]; exact hk)),
      fun hr' hk => let ⟨k₁, h1, h2⟩ := harr.2 hr' (by rw [hx]; exact hk); ⟨k₁, h1, .head h0 stepR_block h2⟩⟩
  | ret => exact ⟨_, a₁, w₁, hq, .of_steps (.one h0 stepR_block) harr⟩
  | panic ch => exact ⟨_, a₁, w₁, hq, .of_steps (.one h0 stepR_block) harr⟩
  | outgrown => exact ⟨_, a₁, w₁, hq, .of_steps (.one h0 stepR_block) harr⟩

theorem Sl.bound {w : World} {S : Nat → Prop} {e : TypeId} {size : Nat} {v : Value} {xs : List Value} {n : Nat} (h : Sl w S e size v xs n) : Sl w (fun b => S b ∧ b < w.heap.size) e size v xs n := by
  refine ⟨h.1, ?_⟩
  rcases h.2 with h2 | ⟨g, off, cap, cur, h1, h2, h3, h4⟩
  · exact .inl h2
  · exact .inr ⟨g, off, cap, cur, h1, ⟨h2, lt_of_block h3⟩, h3, h4⟩
end Go.Mine
namespace Go.Proofs.YteblabpplaaddaaGreatDoor
open Go.RowKit Go.Mine Go.Mine.Sc

theorem CmdV.bound {w : World} {S : Nat → Prop} {c : Cmd} {cs : Array Value} (h : CmdV w S c cs) : CmdV w (fun b => S b ∧ b < w.heap.size) c cs := by
  obtain ⟨a1, k1, a4, k4, a9, k9, h0, h1, h2, h3⟩ := h
  exact ⟨a1, k1, a4, k4, a9, k9, h0, h1.bound, h2.bound, h3.bound⟩
theorem CmdV.size {w : World} {S : Nat → Prop} {c : Cmd} {cs : Array Value} (h : CmdV w S c cs) : cs.size = 11 := by
  obtain ⟨a1, k1, a4, k4, a9, k9, rfl, -⟩ := h
  rfl
theorem CmdV.one {w : World} {S : Nat → Prop} {c : Cmd} {cs : Array Value} (h : CmdV w S c cs) : ∀ u ∈ cs.toList, u.oneCell' = true := by
  obtain ⟨a1, k1, a4, k4, a9, k9, rfl, -⟩ := h
  intro u hu
  simp only [List.mem_cons, List.not_mem_nil, or_false] at hu
  rcases hu with rfl | rfl | rfl | rfl | rfl | rfl | rfl | rfl | rfl | rfl | rfl <;> rfl

/-- commands, cell by cell -/
def CmdsV (w : World) (S : Nat → Prop) : List Cmd → List Value → Prop
  | [], xs => xs = []
  | c :: l, xs => ∃ (cs : Array Value) (rest : List Value), xs = cs.toList ++ rest ∧ CmdV w S c cs ∧ CmdsV w S l rest
theorem CmdsV.turned {w w' : World} {S T : Nat → Prop} (ht : Turned T w w') (hS : ∀ b, S b → ¬ T b) : ∀ {l : List Cmd} {xs : List Value}, CmdsV w S l xs → CmdsV w' S l xs
  | [], _, h => h
  | _ :: _, _, ⟨cs, rest, h1, h2, h3⟩ => ⟨cs, rest, h1, h2.turned ht hS, h3.turned ht hS⟩
theorem CmdsV.widen {w : World} {S T : Nat → Prop} (hS : ∀ b, S b → T b) : ∀ {l : List Cmd} {xs : List Value}, CmdsV w S l xs → CmdsV w T l xs
  | [], _, h => h
  | _ :: _, _, ⟨cs, rest, h1, h2, h3⟩ => ⟨cs, rest, h1, h2.widen hS, h3.widen hS⟩
theorem CmdsV.bound {w : World} {S : Nat → Prop} : ∀ {l : List Cmd} {xs : List Value}, CmdsV w S l xs → CmdsV w (fun b => S b ∧ b < w.heap.size) l xs
  | [], _, h => h
  | _ :: _, _, ⟨cs, rest, h1, h2, h3⟩ => ⟨cs, rest, h1, h2.bound, h3.bound⟩
theorem CmdsV.snoc {w : World} {S : Nat → Prop} {c : Cmd} {cs : Array Value} (hc : CmdV w S c cs) : ∀ {l : List Cmd} {xs : List Value}, CmdsV w S l xs → CmdsV w S (l ++ [c]) (xs ++ cs.toList)
  | [], _, h => by subst h; exact ⟨cs, [], by simp, hc, rfl⟩
  | _ :: _, _, ⟨ds, rest, h1, h2, h3⟩ => ⟨ds, rest ++ cs.toList, by rw [h1, List.append_assoc], h2, h3.snoc hc⟩

/-- a list of commands: its row is among S, and so is what its elements hold -/
def CmdsAt (w : World) (S : Nat → Prop) (e : TypeId) (v : Value) (l : List Cmd) : Prop :=
  ∃ (xs : List Value) (R : Nat → Prop), (∀ b, R b → S b) ∧ Sl w R e 11 v xs l.length ∧ CmdsV w (fun b => S b ∧ ¬ R b) l xs
theorem CmdsAt.nil (w : World) (S : Nat → Prop) (e : TypeId) : CmdsAt w S e (.slice none 0 0) [] := ⟨[], fun _ => False, fun _ q => q.elim, Sl.nil _ _ _ _, rfl⟩
theorem CmdsAt.turned {w w' : World} {S T : Nat → Prop} {e : TypeId} {v : Value} {l : List Cmd} (h : CmdsAt w S e v l) (ht : Turned T w w') (hS : ∀ b, S b → ¬ T b) : CmdsAt w' S e v l := by
  obtain ⟨xs, R, h1, h2, h3⟩ := h
  exact ⟨xs, R, h1, h2.turned ht fun b q => hS b (h1 b q), h3.turned ht fun b q => hS b q.1⟩
theorem CmdsAt.widen {w : World} {S T : Nat → Prop} {e : TypeId} {v : Value} {l : List Cmd} (h : CmdsAt w S e v l) (hS : ∀ b, S b → T b) : CmdsAt w T e v l := by
  obtain ⟨xs, R, h1, h2, h3⟩ := h
  exact ⟨xs, R, fun b q => hS b (h1 b q), h2, h3.widen fun b q => ⟨hS b q.1, q.2⟩⟩
theorem CmdsAt.value {w : World} {S : Nat → Prop} {e : TypeId} {v : Value} {l : List Cmd} (h : CmdsAt w S e v l) : ∃ a cap, v = .slice a l.length cap := by
  obtain ⟨xs, R, h1, h2, h3⟩ := h
  obtain ⟨a, cap, hv, -, -⟩ := h2.value
  exact ⟨a, cap, hv⟩

theorem count10 (t : B) (w : World) : Calls Tryz.prog 10 #[.string (bs t), .string ⟨#[10]⟩] w fun e w' => e = .returned (.int .i64 (t.count 10 : Nat)) ∧ w' = w := by
  have := Any.strings_Count_one Tryz.ctLays (bs t) 10 w
  rw [bs_list] at this
  exact this
theorem suffix10 (t : B) (hs : t.length ≤ 4611686018427387904) (w : World) : Calls Tryz.prog 11 #[.string (bs t), .string ⟨#[10]⟩] w fun e w' => e = .returned (.bool (decide (t.getLast? = some 10))) ∧ w' = w := by
  refine (Any.strings_HasSuffix Tryz.hsLays (bs t) ⟨#[10]⟩ w (by rw [bs_size]; omega)).mono ?_
  rintro e w' ⟨rfl, rfl⟩
  refine ⟨?_, rfl⟩
  rw [bs_list]
  have : Lib.hasSuffix t [10] = decide (t.getLast? = some 10) := by
    unfold Lib.hasSuffix
    rw [Bool.eq_iff_iff, List.isSuffixOf_iff_suffix, decide_eq_true_iff]
    constructor
    · rintro ⟨r, rfl⟩; simp
    · intro h
      obtain ⟨ys, hy⟩ := List.getLast?_eq_some_iff.1 h
      exact ⟨ys, hy.symm⟩
  rw [show (ByteArray.data { data := #[10] }).toList = ([10] : List UInt8) from rfl, this]
theorem info39' : (Tryz.prog.info? 39).map (fun i => (i.zero, i.size, i.bytes)) = some (some (.agg zero11), 11, 160) := by kernel_rfl
end Go.Proofs.YteblabpplaaddaaGreatDoor

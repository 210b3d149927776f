/- The text that ScriptQuotes reads, in the program's reading (no program in sight). -/
import Derived.Test.YteblabpplaaddaaDoorPp
import Derived.Test.YteblabpplaaddaaDoorBn
set_option linter.unusedVariables false
set_option linter.unusedSimpArgs false
namespace Go.Mine.Sc

theorem itoa_7 : Lib.itoa 7 = [55] := by decide +kernel
theorem itoa_1 : Lib.itoa 1 = [49] := by decide +kernel
def quText (s t : B) : B := [100, 97, 109, 97, 103, 101, 32] ++ quote s ++ [32, 55, 32] ++ quote t ++ [10, 116, 114, 101, 101, 32] ++ quote s ++ [32, 49]
def quC1 (s t : B) : Cmd := { kind := 9, nums := [7], text := s, more := t }
def quC2 (s : B) : Cmd := { kind := 2, tree := [(s, 1)] }
theorem qu_l1 (s t : B) : lineS (quC1 s t) = [100, 97, 109, 97, 103, 101, 32] ++ quote s ++ [32, 55, 32] ++ quote t := by
  have n : nameIn cnames 9 = [100, 97, 109, 97, 103, 101] := by decide +kernel
  simp [lineS, nameC, quC1, n, cmdW, tailW, itoa_7]
theorem qu_l2 (s : B) : lineS (quC2 s) = [116, 114, 101, 101, 32] ++ quote s ++ [32, 49] := by
  have n : nameIn cnames 2 = [116, 114, 101, 101] := by decide +kernel
  simp [lineS, nameC, quC2, n, cmdW, treeW, tailW, itoa_1]
theorem qu_text (s t : B) : quText s t = lineS (quC1 s t) ++ 10 :: lineS (quC2 s) := by
  rw [qu_l1, qu_l2]
  simp [quText]
theorem qu_parse (s t : B) (hs : s.length ≤ 5000) (ht : t.length ≤ 5000) : parseS 5 14 (quText s t) = ([quC1 s t, quC2 s], 0) := by
  have f1 : fitS (quC1 s t) := by simp [fitS, quC1]
  have f2 : fitS (quC2 s) := by simp [fitS, quC2]
  have o1 : CmdOk (quC1 s t) := by
    refine ⟨?_, ?_, ?_, ?_, ?_, ?_⟩ <;> simp [quC1, I64]
  have o2 : CmdOk (quC2 s) := by
    refine ⟨?_, ?_, ?_, ?_, ?_, ?_⟩ <;> simp [quC2, I64]
  have n1 : normC (quC1 s t) = quC1 s t := by simp [normC, quC1]
  have n2 : normC (quC2 s) = quC2 s := by simp [normC, quC2]
  have p : parts (quText s t) = [lineS (quC1 s t), lineS (quC2 s)] := by
    rw [qu_text, parts_app _ _ (line_no10 _ f1), parts_no _ (line_no10 _ f2)]
  have c10 : (quText s t).count 10 = 1 := by
    have := parts_count (quText s t)
    rw [p] at this
    simp at this
    omega
  have q1 := (quote_len s).2
  have q2 := (quote_len t).2
  rw [parse_short (short_of (by simp [quText]; omega) (by omega)), p]
  have l1 := pLine_line _ f1 o1
  have l2 := pLine_line _ f2 o2
  rw [n1] at l1
  rw [n2] at l2
  have s1 := line_says _ f1
  have s2 := line_says _ f2
  simp [pLines, s1, s2, l1, l2]
end Go.Mine.Sc

/- Packed. -/
import Derived.Test.YtofcogekgcgjhaaGreatDoorZzab
set_option linter.unusedVariables false
set_option linter.unusedSimpArgs false
set_option maxRecDepth 100000
namespace Go.Mine
def rdRaw (s:ByteArray) (st:Nat×Nat) (n:Nat):ByteArray×(Nat×Nat):=
 if st.2≠0 then (⟨#[]⟩,st) else if s.size<st.1+n then (⟨#[]⟩,(st.1,2)) else (s.extract st.1 (st.1+n),(st.1+n,0))
def rdNum (s:ByteArray) (st:Nat×Nat) (n:Nat):Nat×(Nat×Nat):=(unnum (rdRaw s st n).1.data.toList,(rdRaw s st n).2)
theorem toList_extract (s:ByteArray) (a b:Nat):(s.extract a b).data.toList=(s.data.toList.drop a).take (b - a):=by
 rw [ByteArray.data_extract,Array.toList_extract]
theorem rdRaw_bad (s:ByteArray) (st:Nat×Nat) (n:Nat) (h:st.2≠0):rdRaw s st n=(⟨#[]⟩,st):=by
 unfold rdRaw;rw [if_pos h]
theorem rdRaw_short (s:ByteArray) (p n:Nat) (h:s.size<p+n):rdRaw s (p,0) n=(⟨#[]⟩,(p,2)):=by
 unfold rdRaw;rw [if_neg (by simp),if_pos h]
theorem rdRaw_good (s:ByteArray) (p n:Nat) (h:p+n≤s.size):rdRaw s (p,0) n=(s.extract p (p+n),(p+n,0)):=by
 unfold rdRaw;rw [if_neg (by simp),if_neg (by simp;omega)]
theorem rdRaw_ok (s:ByteArray) (st:Nat×Nat) (n:Nat) (h:(rdRaw s st n).2.2=0):st.2=0∧st.1+n≤s.size∧rdRaw s st n=(s.extract st.1 (st.1+n),(st.1+n,0)):=by
 obtain ⟨p,e⟩:=st
 by_cases he:e=0
 ·subst he
  by_cases hs:p+n≤s.size
  ·exact ⟨rfl,hs,rdRaw_good s p n hs⟩
  ·rw [rdRaw_short s p n (by omega)] at h
   simp at h
 ·rw [rdRaw_bad s _ n he] at h
  exact absurd h he
theorem rdRaw_at (s:ByteArray) (st:Nat×Nat) (n:Nat) (h:st.1≤s.size):(rdRaw s st n).2.1≤s.size:=by
 unfold rdRaw
 split
 ·exact h
 ·split
  ·exact h
  ·simp;omega
theorem rdRaw_size (s:ByteArray) (st:Nat×Nat) (n:Nat):(rdRaw s st n).1.size≤n:=by
 unfold rdRaw
 split
 ·exact Nat.zero_le _
 ·split
  ·exact Nat.zero_le _
  ·simp only [ByteArray.size_extract];omega
theorem rdNum_lt (s:ByteArray) (st:Nat×Nat) (n:Nat):(rdNum s st n).1<256 ^ n:=by
 have h1:=unnum_lt (rdRaw s st n).1.data.toList
 have h2:=rdRaw_size s st n
 have h3:(rdRaw s st n).1.data.toList.length=(rdRaw s st n).1.size:=by simp
 exact Nat.lt_of_lt_of_le h1 (Nat.pow_le_pow_right (by decide) (by omega))
theorem rdNum_next (s:ByteArray) (st:Nat×Nat) (n:Nat) (h:(rdNum s st n).2.2=0):st.2=0∧st.1+n≤s.size∧(rdNum s st n).2=(st.1+n,0):=by
 obtain ⟨h1,h2,h3⟩:=rdRaw_ok s st n h
 exact ⟨h1,h2,by rw [rdNum,h3]⟩
end Go.Mine

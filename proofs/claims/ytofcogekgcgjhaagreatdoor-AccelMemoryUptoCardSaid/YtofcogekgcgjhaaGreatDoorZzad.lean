/- Packed. -/
import Derived.Test.YtofcogekgcgjhaaGreatDoorZzab
set_option maxRecDepth 100000
namespace Go.Mine
def fo(s:ByteArray)(st:Nat×Nat)(n:Nat):ByteArray×(Nat×Nat):=if st.2≠0 then(⟨#[]⟩,st)else if s.size<st.1+n then(⟨#[]⟩,(st.1,2))else(s.extract st.1 (st.1+n),(st.1+n,0))
def M5(s:ByteArray)(st:Nat×Nat)(n:Nat):Nat×(Nat×Nat):=(Er (fo s st n).1.data.toList,(fo s st n).2)
theorem toList_extract(s:ByteArray)(a b:Nat):(s.extract a b).data.toList=(s.data.toList.drop a).take (b-a):=by rw[ByteArray.data_extract,Array.toList_extract]
theorem xk(s:ByteArray)(st:Nat×Nat)(n:Nat)(h:st.2≠0):fo s st n=(⟨#[]⟩,st):=by unfold fo;rw[if_pos h]
theorem qw(s:ByteArray)(p n:Nat)(h:s.size<p+n):fo s (p,0) n=(⟨#[]⟩,(p,2)):=by unfold fo;rw[if_neg (by simp),if_pos h]
theorem tH(s:ByteArray)(p n:Nat)(h:p+n<=s.size):fo s (p,0) n=(s.extract p (p+n),(p+n,0)):=by unfold fo;rw[if_neg (by simp),if_neg (by simp;omega)]
theorem za(s:ByteArray)(st:Nat×Nat)(n:Nat)(h:(fo s st n).2.2=0):st.2=0∧st.1+n<=s.size∧fo s st n=(s.extract st.1 (st.1+n),(st.1+n,0)):=by
 obtain⟨p,e⟩:=st;by_cases a:e=0
 ·subst a;by_cases b:p+n<=s.size
  ·exact⟨rfl,b,tH s p n b⟩
  ·rw[qw s p n (by omega)]at h;simp at h
 ·rw[xk s _ n a]at h;exact absurd h a
theorem tI(s:ByteArray)(st:Nat×Nat)(n:Nat)(h:(M5 s st n).2.2=0):st.2=0∧st.1+n<=s.size∧(M5 s st n).2=(st.1+n,0):=by obtain⟨h1,h2,h3⟩:=za s st n h;exact⟨h1,h2,by rw[M5,h3]⟩
end Go.Mine

/- Packed. -/
import Derived.Test.YtofcogekgcgjhaaGreatDoorZzbm
import Derived.Test.YtofcogekgcgjhaaGreatDoorZzbe
set_option maxRecDepth 100000
set_option maxHeartbeats 8000000
namespace Go.Proofs.YtofcogekgcgjhaaGreatDoor
open Go.RowKit Go.Mine Go.Mine.Ac Go.Proofs.Tryz
def g0B:ByteArray:=⟨#[103,114,97,112,104,45,48]⟩
def n1:Nms:=[(logB,0)]
def n3:Nms:=[(logB,0),(g0B,1),(chainB,2)]
def I4(q:Nat)(L:ByteArray):Dk:=⟨q,[⟨L,L.size⟩],n1,n1,[],0,false⟩
def jL(q:Nat)(L T C:ByteArray):Dk:=⟨q,[⟨L,L.size⟩,⟨T,T.size⟩,⟨C,C.size⟩],n3,n3,[],0,false⟩
theorem wQ(T:ByteArray):emp++T=T:=by apply ByteArray.ext;rw[ByteArray.data_append];simp[emp]
theorem itoa0:Lib.itoa 0=[48]:=by unfold Lib.itoa;rw[if_neg (by decide)];show Lib.decDigits 0=_;unfold Lib.decDigits;rfl
theorem name0:Ch.nameS 0=g0B:=by unfold Ch.nameS;rw[if_pos (by decide),itoa0];decide
theorem esz:emp.size=0:=rfl
theorem kZ(q:Nat)(L T C:ByteArray):(jL q L T C).names=[chainB,g0B,logB]:=by show Q4 (n3.map (·.1))=_;decide
theorem sY(q:Nat):fp ⟨q,[],[],[],[],0,false⟩=(I4 q emp,.ok noSt):=by rfl
theorem EF{q:Nat}{L F:ByteArray}(h:L.size+F.size<=q):(I4 q L).append logB F=(⟨q,[⟨L++F,L.size⟩],n1,n1,[],0,false⟩,0):=by
 unfold Dk.append;have e:(I4 q L).file logB=.ok 0:=by rfl
 have a:(I4 q L).used=L.size:=by simp[Dk.used,I4,n1,Dk.at]
 rw[e,a];simp only;rw[if_neg (by show¬(_∧q<_);omega)];rfl
theorem ld{q:Nat}{L:ByteArray}{s:St}{k:Nat}{b:ByteArray}(h:L.size+(E8 ⟨k,b⟩).size<=q):writeS (I4 q L) s k b=(I4 q (L++E8 ⟨k,b⟩),{s with dead:=false},0):=by rw[dQ (EF h) rfl];rfl
theorem AC(q:Nat)(b:List Fl)(a c:Nms)(p:List fC):(⟨q,b,a,c,p,0,false⟩:Dk).syncNames=(⟨q,b,a,a,[],0,false⟩,0):=by rfl
theorem vJ{q:Nat}{L T:ByteArray}(h:L.size+T.size<=q):D3 (I4 q L) graphT T g0B=(⟨q,[⟨L,L.size⟩,⟨T,T.size⟩],[(logB,0),(g0B,1)],n1,[⟨emp,graphT,1⟩,⟨graphT,g0B,1⟩],0,false⟩,0):=by
 have a:(I4 q L).create graphT=(⟨q,[⟨L,L.size⟩,⟨emp,0⟩],[(logB,0),(graphT,1)],n1,[⟨emp,graphT,1⟩],0,false⟩,0):=by rfl
 have b:(⟨q,[⟨L,L.size⟩,⟨emp,0⟩],[(logB,0),(graphT,1)],n1,[⟨emp,graphT,1⟩],0,false⟩:Dk).append graphT T=(⟨q,[⟨L,L.size⟩,⟨T,0⟩],[(logB,0),(graphT,1)],n1,[⟨emp,graphT,1⟩],0,false⟩,0):=by
  unfold Dk.append;have e:(⟨q,[⟨L,L.size⟩,⟨emp,0⟩],[(logB,0),(graphT,1)],n1,[⟨emp,graphT,1⟩],0,false⟩:Dk).file graphT=.ok 1:=by rfl
  have f:(⟨q,[⟨L,L.size⟩,⟨emp,0⟩],[(logB,0),(graphT,1)],n1,[⟨emp,graphT,1⟩],0,false⟩:Dk).used=L.size:=by simp[Dk.used,Dk.at,esz]
  rw[e,f];simp only;rw[if_neg (by show¬(_∧q<_);omega)];have:∀X,X=T->(⟨q,[⟨L,L.size⟩,⟨X,0⟩],[(logB,0),(graphT,1)],n1,[⟨emp,graphT,1⟩],0,false⟩,0)=((⟨q,[⟨L,L.size⟩,⟨T,0⟩],[(logB,0),(graphT,1)],n1,[⟨emp,graphT,1⟩],0,false⟩:Dk),0):=fun X h=>by rw[h]
  exact this _ (wQ T)
 have c:(⟨q,[⟨L,L.size⟩,⟨T,0⟩],[(logB,0),(graphT,1)],n1,[⟨emp,graphT,1⟩],0,false⟩:Dk).sync graphT=(⟨q,[⟨L,L.size⟩,⟨T,T.size⟩],[(logB,0),(graphT,1)],n1,[⟨emp,graphT,1⟩],0,false⟩,0):=by rfl
 have d:(⟨q,[⟨L,L.size⟩,⟨T,T.size⟩],[(logB,0),(graphT,1)],n1,[⟨emp,graphT,1⟩],0,false⟩:Dk).rename graphT g0B=(⟨q,[⟨L,L.size⟩,⟨T,T.size⟩],[(logB,0),(g0B,1)],n1,[⟨emp,graphT,1⟩,⟨graphT,g0B,1⟩],0,false⟩,0):=by rfl
 exact sP a b c d
theorem AE{q:Nat}{L T C:ByteArray}(h:L.size+T.size+C.size<=q):D3 ⟨q,[⟨L,L.size⟩,⟨T,T.size⟩],[(logB,0),(g0B,1)],n1,[⟨emp,graphT,1⟩,⟨graphT,g0B,1⟩],0,false⟩ chainT C chainB=
  (⟨q,[⟨L,L.size⟩,⟨T,T.size⟩,⟨C,C.size⟩],n3,n1,[⟨emp,graphT,1⟩,⟨graphT,g0B,1⟩,⟨emp,chainT,2⟩,⟨chainT,chainB,2⟩],0,false⟩,0):=by
 have a:(⟨q,[⟨L,L.size⟩,⟨T,T.size⟩],[(logB,0),(g0B,1)],n1,[⟨emp,graphT,1⟩,⟨graphT,g0B,1⟩],0,false⟩:Dk).create chainT=(⟨q,[⟨L,L.size⟩,⟨T,T.size⟩,⟨emp,0⟩],[(logB,0),(g0B,1),(chainT,2)],n1,[⟨emp,graphT,1⟩,⟨graphT,g0B,1⟩,⟨emp,chainT,2⟩],0,false⟩,0):=by rfl
 have b:(⟨q,[⟨L,L.size⟩,⟨T,T.size⟩,⟨emp,0⟩],[(logB,0),(g0B,1),(chainT,2)],n1,[⟨emp,graphT,1⟩,⟨graphT,g0B,1⟩,⟨emp,chainT,2⟩],0,false⟩:Dk).append chainT C=(⟨q,[⟨L,L.size⟩,⟨T,T.size⟩,⟨C,0⟩],[(logB,0),(g0B,1),(chainT,2)],n1,[⟨emp,graphT,1⟩,⟨graphT,g0B,1⟩,⟨emp,chainT,2⟩],0,false⟩,0):=by
  unfold Dk.append;have e:(⟨q,[⟨L,L.size⟩,⟨T,T.size⟩,⟨emp,0⟩],[(logB,0),(g0B,1),(chainT,2)],n1,[⟨emp,graphT,1⟩,⟨graphT,g0B,1⟩,⟨emp,chainT,2⟩],0,false⟩:Dk).file chainT=.ok 2:=by rfl
  have f:(⟨q,[⟨L,L.size⟩,⟨T,T.size⟩,⟨emp,0⟩],[(logB,0),(g0B,1),(chainT,2)],n1,[⟨emp,graphT,1⟩,⟨graphT,g0B,1⟩,⟨emp,chainT,2⟩],0,false⟩:Dk).used=L.size+T.size:=by simp[Dk.used,Dk.at,esz]
  rw[e,f];simp only;rw[if_neg (by show¬(_∧q<_);omega)];have:∀X,X=C->(⟨q,[⟨L,L.size⟩,⟨T,T.size⟩,⟨X,0⟩],[(logB,0),(g0B,1),(chainT,2)],n1,[⟨emp,graphT,1⟩,⟨graphT,g0B,1⟩,⟨emp,chainT,2⟩],0,false⟩,0)=((⟨q,[⟨L,L.size⟩,⟨T,T.size⟩,⟨C,0⟩],[(logB,0),(g0B,1),(chainT,2)],n1,[⟨emp,graphT,1⟩,⟨graphT,g0B,1⟩,⟨emp,chainT,2⟩],0,false⟩:Dk),0):=fun X h=>by rw[h]
  exact this _ (wQ C)
 have c:(⟨q,[⟨L,L.size⟩,⟨T,T.size⟩,⟨C,0⟩],[(logB,0),(g0B,1),(chainT,2)],n1,[⟨emp,graphT,1⟩,⟨graphT,g0B,1⟩,⟨emp,chainT,2⟩],0,false⟩:Dk).sync chainT=(⟨q,[⟨L,L.size⟩,⟨T,T.size⟩,⟨C,C.size⟩],[(logB,0),(g0B,1),(chainT,2)],n1,[⟨emp,graphT,1⟩,⟨graphT,g0B,1⟩,⟨emp,chainT,2⟩],0,false⟩,0):=by rfl
 have d:(⟨q,[⟨L,L.size⟩,⟨T,T.size⟩,⟨C,C.size⟩],[(logB,0),(g0B,1),(chainT,2)],n1,[⟨emp,graphT,1⟩,⟨graphT,g0B,1⟩,⟨emp,chainT,2⟩],0,false⟩:Dk).rename chainT chainB=(⟨q,[⟨L,L.size⟩,⟨T,T.size⟩,⟨C,C.size⟩],n3,n1,[⟨emp,graphT,1⟩,⟨graphT,g0B,1⟩,⟨emp,chainT,2⟩,⟨chainT,chainB,2⟩],0,false⟩,0):=by rfl
 exact sP a b c d
theorem AF{q:Nat}{L T C:ByteArray}(h:L.size+T.size+C.size<=q):L5 (I4 q L) 0 T C=(jL q L T C,0):=by rw[jJ (by rw[name0];exact vJ (by omega)) (AE h)];rfl
theorem wR{links:List Ch.Ln}(h:Ch.H2 links 0=true)(q:Nat)(L T C:ByteArray):F7 links (jL q L T C).names (jL q L T C)=jL q L T C:=by
 have a:Ch.H7 chainB=(0,false):=by decide
 have b:Ch.H7 logB=(0,false):=by decide
 have c:Ch.H7 g0B=(0,true):=by
  unfold Ch.H7;have h1:g0B.extract 0 6=Ch.prefBA:=by decide
  have h2:Lib.atoiAll (g0B.extract 6 g0B.size).data.toList=.ok 0:=by decide
  rw[if_pos h1,h2];simp only[name0,if_true]
 rw[kZ];simp only[F7,a,b,c,h];simp
def usualG:I2:=⟨3,10,9,0⟩
theorem AG{g:Gr}(h:Y2 g):jZ g=0:=by unfold jZ;rw[if_pos h]
theorem AH{z:Nat}(l:List Rw):(∀r∈l,r.par.length<=16∧r.bits.size<=z)->(n9 l).R.length=15*l.length∧(n9 l).E.length<=64*l.length∧(n9 l).N.length=4*l.length∧(n9 l).B.length<=z*l.length:=by
 have:∀(l:List Rw)(t:Tl),(∀r∈l,r.par.length<=16∧r.bits.size<=z)->(l.foldl N8 t).R.length=t.R.length+15*l.length∧(l.foldl N8 t).E.length<=t.E.length+64*l.length∧(l.foldl N8 t).N.length=t.N.length+4*l.length∧(l.foldl N8 t).B.length<=t.B.length+z*l.length:=by
  intro l
  induction l with
  |nil=>intro t _;simp
  |cons r l f=>
   intro t h;obtain⟨a,b,c,d⟩:=f (N8 t r) fun y e=>h y (LP _ e)
   obtain⟨h1,h2⟩:=h r (List.mem_cons_self ..);have g:(N8 t r).R.length=t.R.length+15:=by show(t.R++kI r _).length=_;rw[List.length_append,ku]
   have i:(N8 t r).E.length<=t.E.length+64:=by have:=iU r;simp only[N8,List.length_append];omega
   have j:(N8 t r).N.length=t.N.length+4:=by show(t.N++m9 _ 4).length=_;rw[List.length_append,j6]
   have k:(N8 t r).B.length<=t.B.length+z:=by
    have:r.bits.data.toList.length=r.bits.size:=by rw[Array.length_toList];rfl
    simp only[N8,List.length_append,this];omega
   have m:z*(l.length+1)=z*l.length+z:=by rw[Nat.mul_add,Nat.mul_one]
   rw[List.foldl_cons,List.length_cons];refine⟨by omega,by omega,by omega,by omega⟩
 intro h;have:=this l ⟨[],[],[],[]⟩ h;simpa[n9]using this
theorem pT(a b c d e:ByteArray):checkCh [] [(1,a),(2,b),(3,c),(4,d),(5,e)]=0:=by simp[checkCh,X1]
theorem oh{g:Gr}{z:Nat}(c:Y2 g)(l:∀r∈g.rows,r.bits.size<=z)(n:66+g.rows.length*(83+z)<=4194304):(K9 g).2=0∧(K9 g).1.size<=66+g.rows.length*(83+z):=by
 obtain⟨h1,h2,h3,h4⟩:=AH (z:=z) g.rows fun r d=>by obtain⟨i,k⟩:=LM d;exact⟨(c.2.2 i r k).1,l r d⟩
 have e:g.rows.length*(83+z)=15*g.rows.length+64*g.rows.length+4*g.rows.length+z*g.rows.length:=by rw[Nat.mul_add,Nat.mul_comm g.rows.length z];omega
 have m:∀(a:List UInt8),(⟨a.toArray⟩:ByteArray).size=a.length:=fun a=>by simp[ByteArray.size]
 have b:dataSize (H6 g)=16+(n9 g.rows).R.length+(n9 g.rows).E.length+(n9 g.rows).N.length+(n9 g.rows).B.length:=by
  have j:(fZ g).length=16:=by simp[fZ,j6]
  simp only[H6,dataSize,m,j];omega
 have f:t7 (H6 g)=0:=by unfold t7;rw[if_neg (by simp[H6]),if_neg (by unfold H6;rw[pT];simp),if_neg (by rw[b];simp only[H6,List.length_cons,List.length_nil];omega)]
 have h:K9 g=(er (H6 g),0):=by unfold K9;rw[if_pos (AG c),if_neg (by omega),if_pos f]
 rw[h];refine⟨rfl,?_⟩;rw[kG,b];simp only[H6,List.length_cons,List.length_nil];omega
theorem EG(k:Nat)(a:k<=9):ep usualG k<=12:=by unfold ep usualG;simp only;have:(10:Int).toNat=10:=rfl;rw[this];omega
theorem sZ(l:List ByteArray):(H3 usualG l).bits.size<=12:=by
 by_cases h:usualG.m.toNat<(once l).length
 ·rw[Y3 h];simp[ByteArray.size]
 ·rw[Y7 h];have b:∀(a:List UInt8),(⟨a.toArray⟩:ByteArray).size=a.length:=fun a=>by simp[ByteArray.size]
  rw[b,dp];exact EG _ (by have:usualG.m.toNat=9:=rfl;omega)
theorem usualG_ok:n0 usualG:=by decide
theorem Dx{s:St}:∀(k:Nat)(known:List Int),∀r∈E4 s usualG k known,r.bits.size<=12
 |0,_,r,h=>by simp[E4]at h
 |k+1,known,r,h=>by
  rw[E4,List.mem_cons]at h;rcases h with rfl|h
  ·exact sZ _
  ·exact Dx k _ r h
theorem yG{s:St}(a:B9 s){base:Int}{known:List Int}(e:fx known)(c:base=known.length)(g:known.length<=s.commits.length):Y2 (D9 s usualG base known):=by
 have f:=a.commits;have b:=usualG_ok;refine⟨⟨by simp only[D9];omega,by simp only[D9];omega,?_⟩,b,fun i r d=>?_⟩
 ·simp only[D9,M0];omega
 ·have:=io a b (s.commits.length-known.length) known e (by omega) i r d;simp only[D9];rw[c];simpa using this
theorem wS(n:Int)(h:1<=n∧n<=65536)(m:Nat):Ch.G1 [(0,n,m)]=0:=by unfold Ch.G1;rw[if_neg (by simp)];unfold Ch.chkLn;rw[if_neg (by simp[Ch.fL,Ch.cO];omega),if_neg (by simp[Ch.H2]),if_neg (by simp[Ch.totLn];omega)];rfl
theorem pU{q:Nat}{L:ByteArray}{s:St}(p:B9 s)(h1:1<=s.commits.length)(h2:s.commits.length<=100)(v:L.size+1066+95*s.commits.length<=q):
  ∃T C a,T=(K9 (D9 s usualG 0 [])).1∧C=(L4 [(0,(s.commits.length:Int),a)]).1∧a=Crc.sum (p6 T)∧T.size<=66+95*s.commits.length∧C.size<=1000∧(K9 (D9 s usualG 0 [])).2=0∧(L4 [(0,(s.commits.length:Int),a)]).2=0∧D6 (I4 q L) noIx s usualG=(jL q L T C,⟨[(0,(s.commits.length:Int),a)],[D9 s usualG 0 []]⟩,0):=by
 have e:(D9 s usualG 0 []).rows.length=s.commits.length:=by simp[D9,M0]
 have l:Y2 (D9 s usualG 0 []):=yG p (fun y u=>by simp at u) rfl (Nat.zero_le _);obtain⟨f,g⟩:=oh (z:=12) l (fun r n=>Dx _ _ r n) (by rw[e];omega);rw[e]at g;obtain⟨T,b⟩:=EX ((K9 (D9 s usualG 0 [])).1);obtain⟨a,j⟩:=EX (Crc.sum (p6 T));have d:r7 noIx [] (D9 s usualG 0 [])=[(0,(s.commits.length:Int),a)]:=by unfold r7;rw[e,<-b,<-j];rfl
 obtain⟨C,c⟩:=EX ((L4 [(0,(s.commits.length:Int),a)]).1);have h:(L4 [(0,(s.commits.length:Int),a)]).2=0:=by unfold L4;rw[if_pos (wS _ (by omega) _)]
 have k:C.size<=1000:=by rw[c];exact jK _
 rw[<-b]at g;refine⟨T,C,a,b,c,j,by omega,k,f,h,?_⟩;have o:H9 noIx s usualG=0:=by unfold H9;rw[if_neg (fun z=>z.elim (fun z=>z usualG_ok) fun z=>by simp only[Ix.len,noIx,Ch.totLn]at z;omega)]
 have i:noIx.len=0:=rfl;unfold D6;rw[if_neg (by rw[o];simp),if_neg (by rw[i];omega),if_neg (by simp[noIx])];have m:dx noIx=[]:=rfl;rw[m,i];have t:L5 (I4 q L) (Ch.iy noIx.links) (K9 (D9 s usualG 0 [])).1 (L4 (r7 noIx noIx.links (D9 s usualG 0 []))).1=(jL q L T C,0):=by have:noIx.links=[]:=rfl;rw[this,d,<-b,<-c];exact AF (by omega)
 rw[pO f (by have:noIx.links=[]:=rfl;rw[this,d];exact h) t];have:noIx.links=[]:=rfl;rw[this,d,wR (by simp[Ch.H2])];rfl
def aB:ByteArray:=⟨#[97]⟩
def t1:List Ent:=[(aB,1)]
def c0:Cm:=⟨[],0⟩
def c1:Cm:=⟨[0],0⟩
def AI(t:List Ent):ByteArray:=E8 ⟨1,mP (gL t)⟩
def pV(c:Cm):ByteArray:=E8 ⟨2,mP (gM c)⟩
theorem encT1:O9 t1=.ok (mP (gL t1)):=rfl
theorem encC0:U0 c0=.ok (mP (gM c0)):=rfl
theorem encC1:U0 c1=.ok (mP (gM c1)):=rfl
theorem logT1_size:(AI t1).size=18:=by unfold AI;rw[K0];rfl
theorem logC0_size:(pV c0).size=14:=by unfold pV;rw[K0];rfl
theorem logC1_size:(pV c1).size=18:=by unfold pV;rw[K0];rfl
def L1:ByteArray:=emp++AI t1
def L2:ByteArray:=L1++pV c0
def L3:ByteArray:=L2++pV c1
theorem L1_size:L1.size=18:=by unfold L1;rw[ByteArray.size_append,logT1_size,esz]
theorem L2_size:L2.size=32:=by unfold L2;rw[ByteArray.size_append,L1_size,logC0_size]
theorem L3_size:L3.size=50:=by unfold L3;rw[ByteArray.size_append,L2_size,logC1_size]
def sA:St:=⟨[t1],[],false⟩
def sB:St:=⟨[t1],[c0],false⟩
def sC:St:=⟨[t1],[c0,c1],false⟩
theorem Eg{q:Nat}(a:1000<=q):addTree (I4 q emp) noSt t1=(I4 q L1,sA,0,0):=O5 rfl encT1 (by simp[noSt]) (ld (s:=noSt) (k:=1) (b:=mP (gL t1)) (by show emp.size+(AI t1).size<=q;rw[esz,logT1_size];omega))
theorem Eh{q:Nat}(a:1000<=q):addCommit (I4 q L1) sA c0=(I4 q L2,sB,0,0):=H4 rfl encC0 rfl (by simp[sA]) (ld (s:=sA) (k:=2) (b:=mP (gM c0)) (by show L1.size+(pV c0).size<=q;rw[L1_size,logC0_size];omega))
theorem BY{q:Nat}(a:1000<=q):addCommit (I4 q L2) sB c1=(I4 q L3,sC,1,0):=H4 rfl encC1 rfl (by simp[sB]) (ld (s:=sB) (k:=2) (b:=mP (gM c1)) (by show L2.size+(pV c1).size<=q;rw[L2_size,logC1_size];omega))
theorem t1_ok:∀x∈t1,x.2<4294967296:=by decide
theorem filt1:tE usualG [] t1=H3 usualG [aB]:=by unfold tE;rw[diffP];rfl
theorem filt0:tE usualG t1 t1=H3 usualG []:=by
 have:diffP t1 t1=[]:=by
  have a:ei aB aB=false:=by
   rcases iq aB aB with⟨-,-,-,h⟩|⟨-,-,h,-⟩|⟨-,-,-,h⟩
   ·exact absurd rfl h
   ·exact h
   ·exact absurd rfl h
  unfold t1;rw[diffP];simp[diffP,a]
 unfold tE;rw[this]
theorem may_a:U6 usualG (H3 usualG [aB]) aB=true:=by decide+kernel
theorem may_0:U6 usualG (H3 usualG []) aB=false:=by decide+kernel
def rA:Rw:=⟨[],0,1,(H3 usualG [aB]).state,(H3 usualG [aB]).bits⟩
def rB:Rw:=⟨[0],0,2,(H3 usualG []).state,(H3 usualG []).bits⟩
theorem newG_C:D9 sC usualG 0 []=⟨0,3,10,9,0,[rA,rB]⟩:=by
 have h1:J8 sC usualG 0 1=rA:=by have e:(tE usualG (M4 sC c0) (o7 sC (0:Nat)))=H3 usualG [aB]:=filt1;show(⟨[],0,1,(tE usualG (M4 sC c0) (o7 sC (0:Nat))).state,(tE usualG (M4 sC c0) (o7 sC (0:Nat))).bits⟩:Rw)=rA;rw[e];rfl
 have h2:J8 sC usualG 1 2=rB:=by have e:(tE usualG (M4 sC c1) (o7 sC (1:Nat)))=H3 usualG []:=filt0;show(⟨[0],0,2,(tE usualG (M4 sC c1) (o7 sC (1:Nat))).state,(tE usualG (M4 sC c1) (o7 sC (1:Nat))).bits⟩:Rw)=rB;rw[e];rfl
 show(⟨0,3,10,9,0,[J8 sC usualG 0 1,J8 sC usualG 1 2]⟩:Gr)=_;rw[h1,h2]
theorem BZ{s:St}{i:Nat}(h:i<s.commits.length):(H5 s).getD i []=(A8 s i).1.par:=by obtain⟨c,h1,h2⟩:=Z1 h;rw[h2,List.getD_eq_getElem?_getD,H5,List.getElem?_map,h1];rfl
theorem it{s:St}{i:Nat}(h:i<s.commits.length):E5 (H5 s) (i+1)=E5 (H5 s) i++[fw (E5 (H5 s) i) (A8 s i).1]:=by rw[E5,BZ h];rfl
theorem oi(l:List (List Int))(i:Nat):∀k,∃m,E5 l (i+k)=E5 l i++m
 |0=>⟨[],by simp⟩
 |k+1=>by obtain⟨m,a⟩:=oi l i k;exact⟨m++_,by rw[<-Nat.add_assoc,E5,a,List.append_assoc]⟩
def eI(s:St)(n:Nat):Int:=(E5 (H5 s) s.commits.length).getD n 0
theorem wT{s:St}{i:Nat}(h:i<s.commits.length):eI s i=fw (E5 (H5 s) i) (A8 s i).1:=by obtain⟨m,a⟩:=oi (H5 s) (i+1) (s.commits.length-(i+1));rw[show i+1+(s.commits.length-(i+1))=s.commits.length by omega,it h]at a;have b:(E5 (H5 s) i).length=i:=dd _ _;unfold eI;rw[a,List.getD_eq_getElem?_getD,List.append_assoc,List.getElem?_append_right (by omega),b,Nat.sub_self];rfl
theorem tb(s:St)(g:I2):∀k i,i+k=s.commits.length->E4 s g k (E5 (H5 s) i)=(List.range' i k).map fun n=>J8 s g n (eI s n)
 |0,i,_=>rfl
 |k+1,i,h=>by have a:(E5 (H5 s) i).length=i:=dd _ _;rw[E4,a,<-it (by omega),tb s g k (i+1) (by omega),<-wT (by omega)];rfl
theorem yH(s:St)(g:I2):E4 s g s.commits.length []=(List.range s.commits.length).map fun n=>J8 s g n (eI s n):=by have:=tb s g s.commits.length 0 (by omega);rw[List.range_eq_range'];exact this
theorem pW(s:St):∀i,i<=s.commits.length->fx (E5 (H5 s) i)
 |0,_=>fun x hx=>by simp[E5]at hx
 |i+1,h=>by
  rw[it (by omega)];intro x hx;rcases List.mem_append.1 hx with hx|hx
  ·exact pW s i (by omega) x hx
  ·rw[List.mem_singleton.1 hx];exact iY (pW s i (by omega)) _
theorem wU{s:St}{n:Nat}(h:n<s.commits.length):1<=eI s n∧eI s n<=1023:=by rw[wT h];exact iY (pW s n (by omega)) _
theorem AJ{s:St}(h:B9 s):Ak (H5 s):=fun i c a=>by
 rw[H5,List.getElem?_map]at a;cases b:s.commits[i]?with
 |none=>rw[b]at a;simp at a
 |some f=>
  rw[b]at a;obtain rfl:=Option.some.inj a;obtain⟨h1,h2,-,-⟩:=h.commit i f b;refine⟨h1,?_,fun x hx=>N2 h2 x hx⟩;have key:∀(l e:List Int),(∀(i:Nat)(p:Int),l[i]?=some p->p ∉ e++l.take i)->l.Nodup:=by
   intro l
   induction l with
   |nil=>intro _ _;exact List.nodup_nil
   |cons x l g=>
    intro e h;refine List.nodup_cons.2 ⟨fun hx=>?_,g (e++[x]) fun i p d=>?_⟩
    ·obtain⟨i,b⟩:=LM hx;exact h (i+1) x (by simpa using b) (by simp)
    ·have:=h (i+1) p (by simpa using d);simpa using this
  exact key f.par [] fun i p d=>by simpa using(h2 i p d).2.2
def jk(w:World)(r:Rw)(e:Ending)(w':World):Prop:=∃a cap,e=.returned (dD a cap r)∧Sl w' (fun b=>w.heap.size<=b) 3 1 (.slice a r.par.length cap) (ic r.par) r.par.length∧TF w w'
theorem F4.tree_at{T:TypeId}{w:World}{e:Nat->Nat}{p:Nat}{k f j:Value}{s:St}(h:F4 T w e p k f j s){i:Nat}{t:List Ent}(d:s.trees[i]?=some t):∃g off cap a c,f=.slice (some ⟨g,off,none⟩) s.trees.length cap∧g<w.heap.size∧w.cell? ⟨g,off+i,none⟩=some (.slice a t.length c)∧H1 w (fun b=>e b=4) a c t:=by obtain⟨r,h1,h2⟩:=h.trees;have q:=(LA.1 d).1;obtain⟨g,off,cap,rfl,-,-,-,n,-,o⟩:=h1.opens (by omega);obtain⟨a,c,l,m⟩:=h2 i t d;exact⟨g,off,cap,a,c,rfl,o,by rw[n _ (by omega)];exact l,m⟩
theorem F4.commit_at{T:TypeId}{w:World}{j:Nat->Nat}{p:Nat}{l r d:Value}{s:St}(h:F4 T w j p l r d s){i:Nat}{c:Cm}(f:s.commits[i]?=some c):∃g off cap a k,d=.slice (some ⟨g,off,none⟩) s.commits.length cap∧g<w.heap.size∧w.cell? ⟨g,off+i*2,none⟩=some (.slice a c.par.length k)∧w.cell? ⟨g,off+i*2+1,none⟩=some (.int .i64 c.tree)∧p7 w (fun b=>j b=4) a k c.par:=by obtain⟨u,h1,h2⟩:=h.commits;have t:=(LA.1 f).1;obtain⟨g,off,cap,rfl,-,-,-,e,-,q⟩:=h1.opens (by omega);obtain⟨a,k,m,n,o⟩:=h2 i c f;exact⟨g,off,cap,a,k,rfl,q,by rw[e _ (by omega)];exact m,by rw[Nat.add_assoc,e _ (by omega)];exact n,o⟩
theorem mG{s:St}(h:B9 s){n:Nat}{c:Cm}(b:s.commits[n]?=some c):∃(tr:Nat)(t:List Ent),c.tree=(tr:Int)∧s.trees[tr]?=some t∧tr<s.trees.length∧o7 s n=t∧t.length<=100000∧∀x∈t,x.1.size<=1000000000:=by
 obtain⟨-,-,h1,h2⟩:=h.commit n c b;obtain⟨tr,f⟩:∃tr:Nat,c.tree=(tr:Int):=⟨c.tree.toNat,by omega⟩;have a:tr<s.trees.length:=by omega
 have d:=gp h n;have e:o7 s n=s.trees[tr]:=by
  have g:A8 s (n:Int)=(c,0):=by unfold A8;rw[if_neg (by omega),Int.toNat_natCast,b]
  have i:dL s (tr:Int)=(s.trees[tr],0):=by unfold dL;rw[if_neg (by omega),Int.toNat_natCast,List.getElem?_eq_getElem a]
  unfold o7;rw[g];show(dL s c.tree).1=_;rw[f,i]
 rw[e]at d;exact⟨tr,s.trees[tr],f,LB a,a,e,by omega,fun x hx=>(d.2 x hx).2⟩
theorem vK{w:World}{X:Nat->Nat}{p:Nat}{dv tv cv:Value}{s:St}(h:F4 78 w X p dv tv cv s)(P:B9 s)(g:I2)(hg:n0 g)(au:g.seed<4294967296){n:Nat}(hn:n<s.commits.length)(gen:Int):
  CZ 93 #[pt p,J3 g,.int .i64 n,.int .i64 gen] w (jk w (J8 s g n gen)):=by
 obtain⟨Z,hZ⟩:=EX (jk w (J8 s g n gen));have HZ:Hid (Z=jk w (J8 s g n gen)):=hZ;rw[<-hZ];obtain⟨c,hc,am⟩:=Z1 hn;obtain⟨tr,t,ay,ht,a8,ae,ax,az⟩:=mG P hc;obtain⟨aj,al,-,-⟩:=P.commit n c hc;obtain⟨g1,o1,aB,l,k1,rfl,ap,v0,v1,ag⟩:=h.commit_at hc;obtain⟨H,o2,ak,R,k2,rfl,aq,v2,an⟩:=h.tree_at ht;obtain⟨a,hV⟩:=EX (((w.alloc (.cells #[.int .i64 g.h,.int .i64 g.p,.int .i64 g.m,.int .u32 g.seed] 24)).alloc (.cells #[.slice none 0 0,.int .i64 0,.int .i64 0,.int .i64 0,.string ⟨#[]⟩] 48)).alloc (.cells #[.slice l c.par.length k1,.int .i64 c.tree] 55));have ac:Hid (a=((w.alloc (.cells #[.int .i64 g.h,.int .i64 g.p,.int .i64 g.m,.int .u32 g.seed] 24)).alloc (.cells #[.slice none 0 0,.int .i64 0,.int .i64 0,.int .i64 0,.string ⟨#[]⟩] 48)).alloc (.cells #[.slice l c.par.length k1,.int .i64 c.tree] 55)):=hV;obtain⟨Q,S,b1⟩:=p8 (w:=w) (.cells #[.int .i64 g.h,.int .i64 g.p,.int .i64 g.m,.int .u32 g.seed] 24) (.cells #[.slice none 0 0,.int .i64 0,.int .i64 0,.int .i64 0,.string ⟨#[]⟩] 48);have b2:=i8 ((w.alloc (.cells #[.int .i64 g.h,.int .i64 g.p,.int .i64 g.m,.int .u32 g.seed] 24)).alloc (.cells #[.slice none 0 0,.int .i64 0,.int .i64 0,.int .i64 0,.string ⟨#[]⟩] 48)) (.cells #[.slice l c.par.length k1,.int .i64 c.tree] 55);have f:=Q.new (.cells #[.slice l c.par.length k1,.int .i64 c.tree] 55);replace S:=j9 S (d7.alloc (fun _=>False) _ (.cells #[.slice l c.par.length k1,.int .i64 c.tree] 55)) id;replace b1:=j9 b1 (d7.alloc (fun _=>False) _ (.cells #[.slice l c.par.length k1,.int .i64 c.tree] 55)) id;have aw:((w.alloc (.cells #[.int .i64 g.h,.int .i64 g.p,.int .i64 g.m,.int .u32 g.seed] 24)).alloc (.cells #[.slice none 0 0,.int .i64 0,.int .i64 0,.int .i64 0,.string ⟨#[]⟩] 48)).heap.size=w.heap.size+1+1:=by simp
 rw[aw]at b2;rw[<-hV]at f S b1 b2;have TV:Hid (TF w a):=f;have J:Hid (∀W,TF a W->(W.cell? ⟨w.heap.size,0,none⟩=some (.int .i64 g.h)∧W.cell? ⟨w.heap.size,1,none⟩=some (.int .i64 g.p)∧W.cell? ⟨w.heap.size,2,none⟩=some (.int .i64 g.m)∧W.cell? ⟨w.heap.size,3,none⟩=some (.int .u32 g.seed)∧W.cell? ⟨p,1,none⟩=some (.slice (some ⟨H,o2,none⟩) s.trees.length ak)∧W.cell? ⟨w.heap.size+1+1,1,none⟩=some (.int .i64 c.tree)∧W.cell? ⟨H,o2+tr,none⟩=some (.slice R t.length k2))∧W.cell? ⟨w.heap.size+1+1,0,none⟩=some (.slice l c.par.length k1)∧W.heap[w.heap.size+1]?=some (.cells #[.slice none 0 0,.int .i64 0,.int .i64 0,.int .i64 0,.string ⟨#[]⟩] 48)):=i7 fun W q=>by have z0:=j9 S q id;have z1:=j9 b1 q id;have z2:=j9 b2 q id;have tt:=f.tr q;have zp:=j9 h.blk tt id;exact⟨⟨g9 z0 0 _ rfl,g9 z0 1 _ rfl,g9 z0 2 _ rfl,g9 z0 3 _ rfl,g9 zp 1 _ rfl,g9 z2 1 _ rfl,m6 v2 tt id⟩,g9 z2 0 _ rfl,z1⟩
 have aJ:Hid (∀W,TF a W->p7 W (fun b=>X b=4) l k1 c.par∧∀b,X b=4->b<w.heap.size):=i7 fun W q=>⟨ag.turned (f.tr q) fun _ _ z=>z,fun b N=>h.bnd b (by omega)⟩
 obtain⟨⟨f1,r⟩,hF⟩:∃F,F=tE g (M4 s c) (o7 s n):=⟨_,rfl⟩;have HF:Hid (J8 s g n gen=⟨c.par,c.tree,gen,f1,r⟩):=i7 (by unfold J8;rw[am,<-hF]);have ad:∀(W:World)(ao:Option Addr)(ko:Nat),TF a W->H1 W (fun b=>X b=4) ao ko (M4 s c)->CZ 177 #[.agg #[.int .i64 g.h,.int .i64 g.p,.int .i64 g.m,.int .u32 g.seed],.slice ao (M4 s c).length ko,.slice R t.length k2] W (RT (.tuple #[.agg #[.int .i64 f1,.string r],.int .i64 0]) W):=fun W ao ko q e2=>by
  refine(BK g hg au e2 (an.turned (f.tr q) fun _ _ z=>z) (fun x hx=>((pN P c).2 x hx).2) az (by have:=pN P c;omega) ax).mono fun e w'⟨x1,x2⟩=>⟨?_,x2⟩
  have:qq g (diffP (M4 s c) t)=.tuple #[.agg #[.int .i64 f1,.string r],.int .i64 0]:=by unfold qq;rw[if_pos hg];unfold tE at hF;rw[ae]at hF;rw[<-hF]
  rw[x1,this]
 have aH:a.cell? ⟨p,2,none⟩=some (.slice (some ⟨g1,o1,none⟩) s.commits.length aB):=g9 (j9 h.blk f id) 2 _ rfl;have wp:=i6 h.blk;have aI:w.cell? ⟨p,2,none⟩=some (.slice (some ⟨g1,o1,none⟩) s.commits.length aB):=g9 h.blk 2 _ rfl;have aZ:Hid (∀b,X b≠0->b<w.heap.size):=h.bnd;have HM:Hid (c.par.length<=16∧a.heap.size=w.heap.size+3):=i7 ⟨aj,by rw[hV];simp⟩;have m2:Hid (0+c.par.length<=maxLen∧(0+c.par.length)*8<=140737488355328):=i7 (by simp only[maxLen];omega);have ba:=hn;have ai:∀x,c.par[0]?=some x->∃(B Y:Nat)(Q:List Ent)(I V:Nat)(L:Option Addr)(k3:Nat),x=(B:Int)∧B<s.commits.length∧Y<s.trees.length∧l=some ⟨I,V,none⟩∧I<w.heap.size∧w.cell? ⟨I,V,none⟩=some (.int .i64 B)∧w.cell? ⟨g1,o1+B*2+1,none⟩=some (.int .i64 Y)∧w.cell? ⟨H,o2+Y,none⟩=some (.slice L (M4 s c).length k3)∧H1 w (fun b=>X b=4) L k3 (M4 s c):=fun x hx=>by
  have hr:=N2 al x (LI hx);obtain⟨B,rfl⟩:∃B:Nat,x=(B:Int):=⟨x.toNat,by omega⟩;have ah:B<s.commits.length:=by omega
  obtain⟨c',aE,-⟩:=Z1 ah;obtain⟨Y,Q,e1,e2,e3,e4,-,-⟩:=mG P aE;obtain⟨I,V,rfl,-,af,aG⟩:=B8 ag 0 _ hx;obtain⟨a6,bg,a4,a0,bf,aC,-,-,u1,-⟩:=h.commit_at aE;simp only[Value.slice.injEq,Option.some.injEq,Addr.mk.injEq,and_true,true_and]at aC;obtain⟨⟨rfl,rfl⟩,-⟩:=aC;obtain⟨a7,bh,a5,L,k3,aD,-,u2,u3⟩:=h.tree_at e2;simp only[Value.slice.injEq,Option.some.injEq,Addr.mk.injEq,and_true,true_and]at aD;obtain⟨⟨rfl,rfl⟩,-⟩:=aD;have ho:M4 s c=Q:=by rw[ob hx,e4]
  rw[ho];rw[Nat.add_zero]at aG;rw[e1]at u1;exact⟨B,Y,Q,I,V,L,k3,rfl,ah,e3,rfl,af,aG,u1,u2,u3⟩
 obtain⟨ct,aa⟩:=EX c.tree;have HC:Hid (ct=c.tree∧o7 s n=t):=⟨aa,ae⟩;have aR:ct=(tr:Int):=by rw[aa];exact ay
 rw[<-aa]at v1 J HF ac;generalize s.commits.length=NC at *;generalize s.trees.length=NT at *;obtain⟨j,hM⟩:=EX c.par.length;have aA:Hid (j=c.par.length):=hM;have aL:Hid (∀W,TF a W->Src prog 1 41 (.slice l j k1) j (ic c.par) W):=i7 fun W q=>by rw[hM];exact ez (aJ.o W q).1
 rw[<-hM]at v0 J ac m2;subst aR;have aK:Hid (p<a.heap.size):=i7 (LC wp f.size);by_cases h0:j=0
 case' pos=>
  have e3:decide ((0:Int)<(j:Int))=false:=LD (by omega);have e4:decide (0<j)=false:=LD (by omega);have hO:M4 s c=[]:=by have:c.par=[]:=LO (by omega);unfold M4;rw[this]
  have ab:Hid (∀W,TF a W->CZ 177 #[.agg #[.int .i64 g.h,.int .i64 g.p,.int .i64 g.m,.int .u32 g.seed],.slice none 0 0,.slice R t.length k2] W (RT (.tuple #[.agg #[.int .i64 f1,.string r],.int .i64 0]) W)):=i7 fun W q=>by have:=ad W none 0 q (by rw[hO];exact H1.nil _ _);rw[hO]at this;exact this
  obtain⟨k,U⟩:=EX a;have y:Hid (TF a k):=i7 (by rw[U];exact TQ);generalize t.length=TL at *;clear hZ h P hg au hc am ay ht ax az aj al ag an hV Q S b1 b2 f aw hF ad ai ae aa hM h0 hO v2 aq;go_enter func93,ntmps93;go_wp2;rw[<-ac.o,<-U];clear U v0 v1 wp aI ap aH
 case' neg=>
  have e3:decide ((0:Int)<(j:Int))=true:=LX (by omega);have e4:decide (0<j)=true:=LX (by omega);obtain⟨x,hx⟩:∃x,c.par[0]?=some x:=⟨_,LB (by omega)⟩;obtain⟨B,Y,bi,I,V,L,k3,-,ah,aS,rfl,af,x3,x1,x2,x4⟩:=ai x hx;have ab:Hid (∀W,TF a W->CZ 177 #[.agg #[.int .i64 g.h,.int .i64 g.p,.int .i64 g.m,.int .u32 g.seed],.slice L (M4 s c).length k3,.slice R t.length k2] W (RT (.tuple #[.agg #[.int .i64 f1,.string r],.int .i64 0]) W)):=i7 fun W q=>ad W L k3 q (x4.turned (f.tr q) fun _ _ z=>z)
  have y3:=m6 x3 f id;have y1:=m6 x1 f id;have y2:=m6 x2 f id;have aY:=(J.o a TQ).1.2.2.2.2.1;have yc:=(J.o a TQ).2.1;have l3:I<a.heap.size:=LC af f.size;have l1:g1<a.heap.size:=LC ap f.size;have l2:H<a.heap.size:=LC aq f.size;have lp:p<a.heap.size:=LC wp f.size;have lM:0<j:=by omega
  generalize t.length=TL at *;generalize(M4 s c).length=OL at *;clear hZ h P hg au hc am ay ht ax az aj al ag an hV Q S b1 b2 f aw hF ad ai ae aa hM h0 v2 x1 x2 x3 x4 hx;go_enter func93,ntmps93;go_wp2;rw[<-ac.o];go_quiet (fail);go_wp2;generalize U:a.drewN nq=k;have y:Hid (TF a k):=i7 (by rw[<-U];exact TQ.drawN _);clear U v0 v1 wp aI ap aH aq y1 y2 y3 aY yc l1 l2 l3 lp lM af ah aS;generalize(some ⟨I,V,none⟩:Option Addr)=l at *
 all_goals
  have K:Hid (∀W,TF k W->(W.cell? ⟨w.heap.size,0,none⟩=some (.int .i64 g.h)∧W.cell? ⟨w.heap.size,1,none⟩=some (.int .i64 g.p)∧W.cell? ⟨w.heap.size,2,none⟩=some (.int .i64 g.m)∧W.cell? ⟨w.heap.size,3,none⟩=some (.int .u32 g.seed)∧W.cell? ⟨p,1,none⟩=some (.slice (some ⟨H,o2,none⟩) NT ak)∧W.cell? ⟨w.heap.size+1+1,1,none⟩=some (.int .i64 tr)∧W.cell? ⟨H,o2+tr,none⟩=some (.slice R TL k2))):=i7 fun W q=>(J.o W (y.o.tr q)).1
  have aQ:p<k.heap.size:=LC aK.o y.o.size
  go_region_held3 (fun W=>W.cell? ⟨w.heap.size,0,none⟩=some (.int .i64 g.h)∧W.cell? ⟨w.heap.size,1,none⟩=some (.int .i64 g.p)∧W.cell? ⟨w.heap.size,2,none⟩=some (.int .i64 g.m)∧W.cell? ⟨w.heap.size,3,none⟩=some (.int .u32 g.seed)∧W.cell? ⟨p,1,none⟩=some (.slice (some ⟨H,o2,none⟩) NT ak)∧W.cell? ⟨w.heap.size+1+1,1,none⟩=some (.int .i64 tr)∧W.cell? ⟨H,o2+tr,none⟩=some (.slice R TL k2))
   (first|(exact K.o _ TD)|(exact K.o _ (TA.draw))|(exact K.o _ G)|(exact K.o _ (G.new _))|(exact K.o _ ((G.fresh (LS _) _).fresh (LS _) _))|(exact K.o _ (G.fresh (LS _) _))|go_keep)
   (first
    |(go_fit(ab.o k.drew (y.o.tr TD));rintro e6 w6⟨rfl,q6⟩;have G:TF k w6:=TD.tr q6)
    |(go_fit(ab.o (k.alloc (.cells #[.int .i64 0,.string ⟨#[]⟩] 46)).drew (y.o.tr (TA.draw)));rintro e6 w6⟨rfl,q6⟩;have G:TF k w6:=(TA.draw).tr q6;have D:=j9 (w:=(k.alloc (.cells #[.int .i64 0,.string ⟨#[]⟩] 46)).drew) (i8 k _) q6 id;have aV:=g9 D 0 _ rfl;have aW:=g9 D 1 _ rfl;have aT:=j7 D 0;have aU:=j7 D 1;have aX:=i6 D;replace D:=i7 D))
 all_goals first
  |(obtain⟨d,M⟩:=EX (w6.alloc (.cells #[.int .i64 f1,.string r] 46));obtain⟨C,O⟩:=EX w6.heap.size;have E:Hid (dS k d C f1 r):=i7 (by rw[M,O];exact dS.last G);rw[<-M,<-O];clear M O)
  |(obtain⟨d,M⟩:=EX ((w6.setCell ⟨k.heap.size,0,none⟩ (.int .i64 f1)).setCell ⟨k.heap.size,1,none⟩ (.string r));obtain⟨C,O⟩:=EX k.heap.size;have E:Hid (dS k d C f1 r):=i7 (by rw[M,O];exact dS.set G D.o (LS _));rw[<-M,<-O];clear M O aV aW aT aU aX D)
 all_goals
  have K6:Hid (∀W,TF d W->(W.cell? ⟨w.heap.size+1+1,0,none⟩=some (.slice l j k1)∧W.cell? ⟨w.heap.size+1+1,1,none⟩=some (.int .i64 tr)∧W.cell? ⟨C,0,none⟩=some (.int .i64 f1)∧W.cell? ⟨C,1,none⟩=some (.string r))):=i7 fun W q=>by obtain⟨h1,h2,-⟩:=J.o W (y.o.tr (E.o.tu.trans q fun _ _ z=>z));have N:=j9 E.o.at_ q id;exact⟨h2,h1.2.2.2.2.2.1,g9 N 0 _ rfl,g9 N 1 _ rfl⟩
  have S6:Hid (Src prog 1 41 (.slice l j k1) j (ic c.par) (d.alloc (.cells #[] 3)).drew):=i7 (aL.o _ (y.o.tr (E.o.tu.trans (TA.draw) fun _ _ z=>z)));have aP:¬C=w.heap.size+1:=by have h1:=E.o.new;have h2:=y.o.size;have h3:=HM.o.2;omega
  have a9:¬w.heap.size+1=C:=fun z=>aP z.symm
  clear K aQ G ab;have Ka:=i7 (K6.o d.drew TD);have Kb:=i7 (K6.o (d.alloc (.cells #[] 3)).drew (TA.draw));have SE:Hid (Sl (d.alloc (.cells #[] 3)).drew (fun b=>d.heap.size<=b) 3 1 (.slice (some ⟨d.heap.size,0,none⟩) 0 0) [] 0):=i7 (go d 3 1).drew;go_wp2
  go_region_held3 (fun W=>W.cell? ⟨w.heap.size+1+1,0,none⟩=some (.slice l j k1)∧W.cell? ⟨w.heap.size+1+1,1,none⟩=some (.int .i64 tr)∧W.cell? ⟨C,0,none⟩=some (.int .i64 f1)∧W.cell? ⟨C,1,none⟩=some (.string r))
   (first|(with_reducible exact Ka.o)|(with_reducible exact Kb.o)|(with_reducible exact K8.o)|go_keep)
   (first
    |(refine o5 (by rfl) _ _ 41 41 (by rfl) SE.o underlying41 info3k rfl (by decide) (by rfl) (.slice l j k1) (by rfl) S6.o m2.o.1 m2.o.2 ?_;intro v8 A av aF;have T8:TF d A:=((d7.alloc (fun b=>d.heap.size<=b) d (.cells #[] 3)).draw.tr aF).mono fun i hi z=>(by have z':d.heap.size<=i:=z;omega);have ar:Sl A (fun b=>d.heap.size<=b) 3 1 v8 (ic c.par) j:=(by rw[List.nil_append,Nat.zero_add]at av;exact av.widen fun b z=>z.elim id fun z=>LR (d7.alloc (fun _=>False) d (.cells #[] 3)).draw.size z);obtain⟨ca,cc,rfl,-,-⟩:=ar.value;have Y8:=i7 (And.intro ar T8);have K8:=i7 (K6.o A T8);have u:=(J.o A (y.o.tr (E.o.tu.trans T8 fun _ _ z=>z))).2.2;have x0:A.cell? ⟨w.heap.size+1,0,none⟩=some (.slice none 0 0):=g9 u 0 _ rfl;have x1:A.cell? ⟨w.heap.size+1,1,none⟩=some (.int .i64 0):=g9 u 1 _ rfl;have x2:A.cell? ⟨w.heap.size+1,2,none⟩=some (.int .i64 0):=g9 u 2 _ rfl;have x3:A.cell? ⟨w.heap.size+1,3,none⟩=some (.int .i64 0):=g9 u 3 _ rfl;have x4:A.cell? ⟨w.heap.size+1,4,none⟩=some (.string ⟨#[]⟩):=g9 u 4 _ rfl;have f0:=j7 u 0;have aM:=j7 u 1;have aN:=j7 u 2;have f3:=j7 u 3;have f4:=j7 u 4;have lx:=i6 u;clear av aF ar u))
  go_wp2;refine bodyPost_ret (v:=.agg #[.slice ca j cc,.int .i64 tr,.int .i64 gen,.int .i64 f1,.string r]) (by simp[results,Tryz.results93,go_sem,x0,x1,x2,x3,x4,f0,aM,aN,f3,f4,lx]) rfl ?_;rw[HZ.o,HF.o];have bb:=TV.o.size;have bc:=y.o.size;have bd:=E.o.tu.size;have be:=HM.o.2;have l0:w.heap.size<=w.heap.size+1:=Nat.le_succ _;have tt:TF w A:=TV.o.tr (y.o.trans (E.o.tu.trans T8 fun _ _ z=>z) fun _ _ z=>z);refine⟨ca,cc,by rw[aA.o],?_,((((tt.fresh l0 _).fresh l0 _).fresh l0 _).fresh l0 _).fresh l0 _⟩;show Sl _ _ 3 1 (.slice ca c.par.length cc) (ic c.par) c.par.length;rw[<-aA.o];refine(Y8.o.1.turned (T:=fun b=>b=w.heap.size+1) ?_ fun b N z=>?_).widen fun b N=>?_
  ·exact(((((d7.refl (fun b=>b=w.heap.size+1) A).set (p:=⟨w.heap.size+1,0,none⟩) rfl _).set (p:=⟨w.heap.size+1,1,none⟩) rfl _).set (p:=⟨w.heap.size+1,2,none⟩) rfl _).set (p:=⟨w.heap.size+1,3,none⟩) rfl _).set (p:=⟨w.heap.size+1,4,none⟩) rfl _
  ·have aO:d.heap.size<=b:=N;omega
  ·have aO:d.heap.size<=b:=N;show w.heap.size<=b;omega
def W9(s:St)(g:I2)(j:Nat):List Rw:=(List.range j).map fun n=>J8 s g n (eI s n)
theorem X7(s:St)(g:I2)(j:Nat):(W9 s g j).length=j:=by simp[W9]
theorem td(s:St)(g:I2)(j:Nat):W9 s g (j+1)=W9 s g j++[J8 s g j (eI s j)]:=by simp[W9,List.range_succ]
theorem vL(s:St)(g:I2):W9 s g s.commits.length=E4 s g s.commits.length []:=(yH s g).symm
abbrev vM(c wr:World)(a b:Nat->Prop)(e:Value)(d:List Rw):Prop:=gK c wr (fun _=>False) a b (.slice none 0 0) e [] d
def Dy(c:World)(s:St)(g:I2)(k:Nat)(d nv:Value)(wr:World):Prop:=∃(j:Nat)(a b:Nat->Prop),j+k=s.commits.length∧nv=.int .i64 j∧vM c wr a b d (W9 s g j)
theorem Ei{s:St}(c:B9 s){g:I2}(b:n0 g){n:Nat}(a:n<s.commits.length):ju (J8 s g n (eI s n)):=by obtain⟨e,f,h,i,j,k,d⟩:=eY c b a (wU a);have l:=dy d;have m:(J8 s g n (eI s n)).state=1∨(J8 s g n (eI s n)).state=2:=kx _ _;exact⟨⟨by omega,by omega⟩,⟨by omega,by omega⟩,⟨by omega,by omega⟩,by omega⟩
theorem yI{w:World}{rl:Nat->Nat}{p:Nat}{dv tv cv:Value}{s:St}(h:F4 78 w rl p dv tv cv s)(E:B9 s)(g:I2)(hg:n0 g)(ar:g.seed<4294967296):
  CZ 112 #[pt p,J3 g,.slice none 0 0] w (fh w (E4 s g s.commits.length [])):=by
 obtain⟨Z,hZ⟩:=EX (fh w (E4 s g s.commits.length []));have HZ:Hid (Z=fh w (E4 s g s.commits.length [])):=hZ;rw[<-hZ];obtain⟨l,hV⟩:=EX (w.alloc (.cells #[.int .i64 g.h,.int .i64 g.p,.int .i64 g.m,.int .u32 g.seed] 24));have az:Hid (l=w.alloc (.cells #[.int .i64 g.h,.int .i64 g.p,.int .i64 g.m,.int .u32 g.seed] 24)):=hV;obtain⟨I,Y⟩:=A0 (w:=w) (.cells #[.int .i64 g.h,.int .i64 g.p,.int .i64 g.m,.int .u32 g.seed] 24);rw[<-hV]at I Y;have TV:Hid (TF w l):=I;have HG:Hid (CZ 203 #[pt p] l fun e w'=>∃D f v J,e=.returned v∧fe l w' D f v J (H5 s)):=i7 (vh (h.turned I fun _ _ z=>z) E.commits fun c hc=>by obtain⟨i,hi⟩:=LM hc;exact(E.commit i c hi).1);obtain⟨N,P⟩:=EX s.commits.length;have d:Hid (N=s.commits.length∧(H5 s).length=N∧N<=65536∧B9 s∧n0 g):=i7 ⟨P,by rw[P];simp[H5],by rw[P];exact E.commits,E,hg⟩;have aw:Hid (∀W D f ga gc J,kB W D f (.slice ga N gc) J (H5 s)->CZ 202 #[.slice none 0 0,.slice ga N gc] W fun e w'=>∃a cap,e=.returned (.tuple #[.slice a N cap,.int .i64 0])∧Sl w' (fun b=>W.heap.size<=b) 3 1 (.slice a N cap) (ic (E5 (H5 s) N)) N∧TF W w'):=i7 fun W D f ga gc J t=>by have ad:(H5 s).length=N:=d.o.2.1;have:=vk (ga:=ga) (gc:=gc) (by rw[ad];exact t) (by rw[ad];exact d.o.2.2.1) (AJ E);rw[ad]at this;exact this
 have ac:∀W,TF l W->W.cell? ⟨w.heap.size,0,none⟩=some (.int .i64 g.h)∧W.cell? ⟨w.heap.size,1,none⟩=some (.int .i64 g.p)∧W.cell? ⟨w.heap.size,2,none⟩=some (.int .i64 g.m)∧W.cell? ⟨w.heap.size,3,none⟩=some (.int .u32 g.seed)∧w.heap.size<W.heap.size∧W.cell? ⟨p,2,none⟩=l.cell? ⟨p,2,none⟩∧p<W.heap.size:=fun W q=>by have T:=j9 Y q id;have zp:=j9 h.blk I id;have zq:=j9 zp q id;exact⟨g9 T 0 _ rfl,g9 T 1 _ rfl,g9 T 2 _ rfl,g9 T 3 _ rfl,i6 T,by rw[g9 zq 2 _ rfl,g9 zp 2 _ rfl],i6 zq⟩
 obtain⟨ca,cc,aj,-,-⟩:=h.commits.choose_spec.1.value;have vp:l.cell? ⟨p,2,none⟩=some (.slice ca N cc):=by rw[P,<-aj];exact g9 (j9 h.blk I id) 2 _ rfl
 rw[vp]at ac;have HB:=i7 ac;have ax:Hid (∀(j:Nat)(W:World),j<N->TF l W->CZ 93 #[pt p,.agg #[.int .i64 g.h,.int .i64 g.p,.int .i64 g.m,.int .u32 g.seed],.int .i64 (j:Nat),.int .i64 (eI s j)] W (jk W (J8 s g j (eI s j)))):=i7 fun j W hj q=>vK (h.turned (I.tr q) fun _ _ z=>z) E g hg ar (by rw[<-P];exact hj) _
 have VL:Hid (w.heap.size<l.heap.size):=i6 Y;clear hZ hV I Y h E hg ar ac vp P aj;go_enter func112,ntmps112;go_wp2_with fail;rw[<-az.o]
 go_wp2_with(first
  |(go_fit HG.o;rintro e w1⟨D,f,v,J,rfl,t⟩;have au:Sl w1 D 41 1 v J N:=(by rw[<-d.o.2.1];exact t.1.1);obtain⟨v',n,ab⟩:=au.run_from underlying261 info41 0 .i64 0 rfl (Nat.zero_le _);rw[Nat.zero_mul,List.drop_zero,Nat.sub_zero]at ab;obtain⟨ga,gc,rfl,-,-⟩:=ab.value;have af:Hid (kB w1 D f (.slice ga N gc) J (H5 s)∧TF l w1):=i7 ⟨⟨by rw[d.o.2.1];exact ab,t.1.2⟩,t.2.2.2⟩;clear t au ab)
  |(go_fit(aw.o _ _ _ _ _ _ af.o.1);rintro e w2⟨a2,c2,rfl,ap,t2⟩;have M:Hid (Sl w2 (fun b=>w1.heap.size<=b) 3 1 (.slice a2 N c2) (ic (E5 (H5 s) N)) N∧TF l w2):=i7 ⟨ap,af.o.2.tr t2⟩;obtain⟨-,-,-,-,-,k2,k3⟩:=HB.o w2 M.o.2;clear ap t2))
 have B0:Hid (Dy w2 s g N (.slice none 0 0) (.int .i64 0) w2):=i7 ⟨0,fun _=>False,fun _=>False,by have:=d.o.1;omega,rfl,⟨Sl.nil _ _ _ _,W7.nil _ _ _,fun _ z=>z.elim,fun _ z=>z.elim,fun _ z=>z.elim,fun _ z=>z.elim,fun _ z=>z.elim,fun _ z=>z.elim,TQ⟩⟩;go_loopg[7,11] N (fun k lv nv wr=>Dy w2 s g k lv nv wr)
 case atStart=>exact B0.o
 case round=>
  clear B0 k2 k3;obtain⟨j,f,S3,al,rfl,aa⟩:=hrel;have G:Hid (j+gk=s.commits.length):=al;have A:Hid (vM w2 wr f S3 _ (W9 s g j)):=aa;have TW:Hid (TF l wr):=i7 (M.o.2.comp aa.tu fun i hi z=>by have h1:=M.o.2.size;have z':w2.heap.size<=i:=z.elim False.elim id;omega);obtain⟨v0,v1,v2,v3,v4,v5,v6⟩:=HB.o wr TW.o;obtain⟨F,oc,rfl⟩:∃F oc,u7=.slice F j oc:=by obtain⟨u,h1,-⟩:=aa.ou;obtain⟨F,oc,e,-,-⟩:=h1.value;exact⟨F,oc,by rw[e,X7]⟩
  clear al aa;by_cases C:j<N
  ·have e3:decide ((j:Int)<(N:Int))=true:=LX (by omega);have e4:decide (j<N)=true:=LX C;obtain⟨O,o2,aL,hv,-,-,-,ai,-,ak⟩:=M.o.1.opens (by omega);simp only[Value.slice.injEq]at hv;obtain⟨rfl,-,-⟩:=hv
   have cg:w2.cell? ⟨O,o2+j,none⟩=some (.int .i64 (eI s j)):=by
    have t:j<(E5 (H5 s) N).length:=by rw[dd];exact C
    rw[ai j (by omega),ic,List.getElem?_map,List.getElem?_eq_getElem t];unfold eI;rw[<-d.o.1,List.getD_eq_getElem?_getD,List.getElem?_eq_getElem t];rfl
   have cr:=m6 cg A.o.tu (by omega);have aI:O<wr.heap.size:=LC ak A.o.tu.size;have S:¬f w.heap.size∧¬f O:=by have h1:=A.o.b2;have h2:=M.o.2.size;have h3:=VL.o;exact⟨fun z=>by have:=(h1 _ z).1;omega,fun z=>by have:=(h1 _ z).1;omega⟩
   have V:Hid (∀W,d7 f wr W->(W.cell? ⟨w.heap.size,0,none⟩=some (.int .i64 g.h)∧W.cell? ⟨w.heap.size,1,none⟩=some (.int .i64 g.p)∧W.cell? ⟨w.heap.size,2,none⟩=some (.int .i64 g.m)∧W.cell? ⟨w.heap.size,3,none⟩=some (.int .u32 g.seed)∧W.cell? ⟨O,o2+j,none⟩=some (.int .i64 (eI s j)))):=i7 fun W q=>⟨m6 v0 q S.1,m6 v1 q S.1,m6 v2 q S.1,m6 v3 q S.1,m6 cr q S.2⟩
   have Ka:=i7 (V.o wr.drew ((d7.drew (fun _=>False) wr).mono fun _ _ z=>z.elim));obtain⟨aJ,aK⟩:=dq j (by have:=d.o.2.2.1;omega);obtain⟨r,n⟩:=EX (J8 s g j (eI s j));have HC:Hid (CZ 93 #[pt p,.agg #[.int .i64 g.h,.int .i64 g.p,.int .i64 g.m,.int .u32 g.seed],.int .i64 (j:Nat),.int .i64 (eI s j)] wr.drew (jk wr.drew r)):=i7 (by rw[n];exact ax.o j wr.drew C (TW.o.tr TD))
   have Q:Hid (W9 s g (j+1)=W9 s g j++[r]∧ju r∧j<N∧∀x∈r.par,eO x):=i7 ⟨by rw[td,n],by rw[n];exact Ei d.o.2.2.2.1 d.o.2.2.2.2 (by rw[<-d.o.1];exact C),C,fun x hx=>by
    have hn:j<s.commits.length:=by rw[<-d.o.1];exact C
    rw[n]at hx;have:=N2 (eY d.o.2.2.2.1 d.o.2.2.2.2 hn (wU hn)).2.2.2.2.2.1 x hx;have:=d.o.2.2.1;exact⟨by omega,by omega⟩⟩
   obtain⟨u,an,am,ao⟩:=A.o.ou;have aE:=X7 s g j;have U:Hid (Sl wr f 48 5 (.slice F j oc) u (W9 s g j).length∧(∀r∈W9 s g j,ju r)∧(∀(i:Nat)(r:Rw),(W9 s g j)[i]?=some r->∃a cap,u[i*5]?=some (.slice a r.par.length cap)∧u[i*5+1]?=some (.int .i64 r.tree)∧u[i*5+2]?=some (.int .i64 r.gen)∧u[i*5+3]?=some (.int .i64 r.state)∧u[i*5+4]?=some (.string r.bits)∧p7 wr S3 a cap r.par)):=⟨an,am,ao⟩;have m3:Hid (j+1<=maxLen∧(j+1)*64<=140737488355328):=i7 (by have:=d.o.2.2.1;simp only[maxLen];omega);have HW:Hid (wrap64 ((j:Int)+1)=((j+1:Nat):Int)):=i7 (by have:=d.o.2.2.1;simp[wrap64];omega);obtain⟨H,rt,rg,rs,rb⟩:=r;clear ai cg n an am ao aE ak cr;go_wp2
   go_region_held3 (fun W=>W.cell? ⟨w.heap.size,0,none⟩=some (.int .i64 g.h)∧W.cell? ⟨w.heap.size,1,none⟩=some (.int .i64 g.p)∧W.cell? ⟨w.heap.size,2,none⟩=some (.int .i64 g.m)∧W.cell? ⟨w.heap.size,3,none⟩=some (.int .u32 g.seed)∧W.cell? ⟨O,o2+j,none⟩=some (.int .i64 (eI s j)))
    (first|(with_reducible exact Ka.o)|(with_reducible exact K5.o)|(with_reducible exact K6.o)|(exact V.o _ ((B.new _).mono fun _ _ z=>z.elim))|go_keep)
    (first
     |(go_fit HC.o;rintro e5 K⟨X,c5,rfl,aq,t5⟩;have B:TF wr K:=TD.tr t5;have K5:=i7 (V.o K (B.mono fun _ _ z=>z.elim));have ay:Hid (Sl K (fun b=>wr.heap.size<=b) 3 1 (.slice X H.length c5) (ic H) H.length):=i7 aq;have aC:=i7 (Dv (.slice X H.length c5) (.int .i64 rt) (.int .i64 rg) (.int .i64 rs) (.string rb) (by simp[Value.oneCell']) K);have aB:Hid (Sl (K.alloc (.cells #[.slice X H.length c5,.int .i64 rt,.int .i64 rg,.int .i64 rs,.string rb] 48)) f 48 5 (.slice F j oc) u j):=i7 (by rw[<-X7 s g j];rw[X7 s g j];exact((by have:=U.o.1;rw[X7 s g j]at this;exact this:Sl wr f 48 5 (.slice F j oc) u j).turned (B.new _) fun _ _ z=>z));clear aq t5)
     |(refine o5 (by rfl) _ _ 121 121 (by rfl) aB.o underlying121 info48r rfl (by decide) (by rfl) (.slice (some ⟨K.heap.size,0,none⟩) 1 1) (by rfl) aC.o.1 m3.o.1 m3.o.2 ?_;intro v6 L ae t6;obtain⟨a6,c6,rfl,-,-⟩:=ae.value;have Y6:=i7 (And.intro ae t6);have K6:Hid (L.cell? ⟨w.heap.size,0,none⟩=some (.int .i64 g.h)∧L.cell? ⟨w.heap.size,1,none⟩=some (.int .i64 g.p)∧L.cell? ⟨w.heap.size,2,none⟩=some (.int .i64 g.m)∧L.cell? ⟨w.heap.size,3,none⟩=some (.int .u32 g.seed)∧L.cell? ⟨O,o2+j,none⟩=some (.int .i64 (eI s j))):=i7 (V.o L (((B.new _).mono fun _ _ z=>z.elim).tr t6));clear ae t6))
   obtain⟨aG,aH,av,aD⟩:=gU ay.o.bound Q.o.2.2.2;simp only[Value.slice.injEq,true_and]at av;obtain⟨rfl,rfl⟩:=av;have aF:=A.o.tu.size;obtain⟨ag,ah,R9⟩:=(A.o.keep (B.mono fun _ _ z=>z.elim)).pushOut (r:=⟨H,rt,rg,rs,rb⟩) (U.o.1.turned B fun _ _ z=>z) U.o.2.1 (fun i r hi=>by obtain⟨a,cap,e0,e1,e2,e3,e4,e5⟩:=U.o.2.2 i r hi;exact⟨a,cap,e0,e1,e2,e3,e4,e5.turned B fun _ _ z=>z⟩) (d7.alloc (fun _=>False) K (.cells #[.slice X H.length c5,.int .i64 rt,.int .i64 rg,.int .i64 rs,.string rb] 48)) Y6.o.2 Q.o.2.1 aD (fun b z=>by have z1:wr.heap.size<=b:=z.1;exact⟨by omega,z.2,id,fun y=>by have:=(A.o.b2 b y).2;omega⟩) (by rw[X7 s g j];exact Y6.o.1);rw[<-Q.o.1]at R9;have aA:Hid (vM w2 L ag ah (.slice a6 (j+1) c6) (W9 s g (j+1))):=i7 R9;clear R9 B v0 v1 v2 v3;go_wp2;go_roundg (gk-1)
   case measure=>have:=G.o;have:=Q.o.2.2.1;have:=d.o.1;omega
   case rel=>exact⟨j+1,ag,ah,by have:=G.o;have:=Q.o.2.2.1;have:=d.o.1;omega,by rw[HW.o],aA.o⟩
  ·have e3:decide ((j:Int)<(N:Int))=false:=LD (by omega);have e4:decide (j<N)=false:=LD C;have HE:Hid (j=s.commits.length):=i7 (by have:=G.o;have:=d.o.1;omega);clear C v0 v1 v2 v3 v4;go_wp2;rw[HZ.o];have n:=A.o;have hz:=M.o.2.size;have aF:=TV.o.size;refine⟨_,f,S3,rfl,?_,fun b R=>?_,fun b R=>?_,fun b R=>?_,TV.o.tr TW.o⟩
   ·rw[<-vL,<-HE.o];exact n.ou
   ·have:=n.b2 b R;omega
   ·have:=n.b3 b R;omega
   ·exact R.elim (fun z=>(n.b2 b z).2) fun z=>(n.b3 b z).2
end Go.Proofs.YtofcogekgcgjhaaGreatDoor

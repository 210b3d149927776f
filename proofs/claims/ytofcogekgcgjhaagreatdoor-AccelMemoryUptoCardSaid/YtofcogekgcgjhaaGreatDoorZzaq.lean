/- Packed. -/
import Derived.Test.YtofcogekgcgjhaaGreatDoorZzap
import Derived.Deep.RegionWith
set_option maxRecDepth 100000
set_option maxHeartbeats 8000000
namespace Go.Proofs.YtofcogekgcgjhaaGreatDoor
open Go.RowKit Go.Mine Tryz
def R1(w:World)(l:List Ch)(g:Nat)(a i:Value)(wr:World):Prop:=∃j:Nat,j+g=l.length∧i=.int .i64 j∧a=.int .i64 ((10+8*l.length+dataSize (l.take j):Nat):Int)∧checkCh [] l=checkCh (l.take j) (l.drop j)∧TF w wr
def R2(w:World)(l:List Ch)(j a:Nat)(g:Nat)(k:Value)(wr:World):Prop:=∃t:Nat,t+g=j∧k=.int .i64 t∧(∀(q:Nat)(d:Ch),q<t->l[q]?=some d->d.1≠a)∧TF w wr
def R3(w:World)(L:Nat)(a:List UInt8)(f:Nat->List UInt8)(g:Nat)(s i:Value)(wr:World):Prop:=∃j:Nat,j+g=L∧i=.int .i64 j∧s=.string ⟨(a++f j).toArray⟩∧TF w wr
theorem nF(a b:List UInt8):(⟨a.toArray⟩:ByteArray)++⟨b.toArray⟩=⟨(a++b).toArray⟩:=by apply ByteArray.ext;simp
theorem G6(a:List UInt8):(⟨a.toArray⟩:ByteArray).size=a.length:=by simp[ByteArray.size]
theorem I6(a b:List UInt8)(h:a.length+b.length<=4611686018427387904)(W:World):(Op.stringOp .add ⟨a.toArray⟩ ⟨b.toArray⟩).run prog W=.ok (.string ⟨(a++b).toArray⟩) W:=by rw[<-nF];exact run_string_add_sum W _ _ (by rw[G6,G6];omega)
theorem un(a:Option Addr)(cap:Nat)(l:List Ch)(w:World)(h:dU w a cap l):
  CZ 277 #[.slice a l.length cap] w (RT (s7 l) w):=by
 have H:Hid (dU w a cap l):=h;obtain⟨L,J⟩:=EX l.length;have n:Hid (L=l.length):=J;by_cases a1:16<L
 ·have y:Hid (s7 l=.tuple #[.string ⟨#[]⟩,.int .i64 5]):=by
   have:t7 l=5:=by unfold t7;rw[if_pos (by omega)]
   show s7 l=_;unfold s7;rw[this];rfl
  rw[<-J];clear h J;go_enter func277,ntmps277;go_wp2;go_ret2;exact⟨by rw[y.o];rfl,TQ⟩
 ·have M:∀j,dataSize (l.take j)<=16*140737488355328:=fun j=>by
   have h1:=kf (l.take j) fun c f=>h.2.2.1 c (LY f)
   have h2:(l.take j).length<=16:=by simp;omega
   exact LR h1 (Nat.mul_le_mul_right _ h2)
  have DS:Hid (∀j,dataSize (l.take j)<=16*140737488355328):=M;have r:Hid (L<=16):=(by omega:L<=16);have HS:Hid (R1 w l L (.int .i64 (10+8*(L:Int))) (.int .i64 0) w):=⟨0,by omega,rfl,by rw[<-J];simp[dataSize],rfl,TQ⟩;rw[<-J];clear h J M;go_enter func277,ntmps277;go_wp2;go_loopg[4,5] L (fun g sz i wr=>R1 w l g sz i wr)
  case atStart=>exact HS.o
  case round=>
   obtain⟨j,aw,rfl,rfl,ao,O⟩:=hrel;have T:Hid (TF w wr):=O;have G:Hid (j+gk=l.length):=aw;have CK:Hid (checkCh [] l=checkCh (l.take j) (l.drop j)):=ao;clear aw ao O HS;by_cases E:j<L
   ·obtain⟨c,f⟩:∃c,l[j]?=some c:=⟨_,LB (by rw[<-n.o];exact E)⟩;obtain⟨b,off,rfl,ad,R,S⟩:=fM (H.o.turned T.o) j c f;have av:=(LA.1 f).1;have an:c=l[j]:=(LA.1 f).2.symm;have ar:l.drop j=c::l.drop (j+1):=by rw[List.drop_eq_getElem_cons av,an]
    have u:=CK.o;rw[ar,checkCh]at u;have DR:Hid (l[j]?=some c∧c∈l):=⟨f,LI f⟩;have af:=DS.o (j+1);have M:=gS l j c f;clear f av an ar;by_cases h0:c.1=0
    ·rw[if_pos h0]at u
     have y:Hid (s7 l=.tuple #[.string ⟨#[]⟩,.int .i64 1]):=by
      have:t7 l=1:=by unfold t7;rw[if_neg (by have:=r.o;have:=n.o;omega),if_pos (by omega),u]
      show s7 l=_;unfold s7;rw[this];rfl
     have hd:((c.1:Int)==0)=true:=by simp;omega
     clear u h0 af M;go_wp2;go_ret2;exact⟨by rw[y.o];rfl,T.o⟩
    ·rw[if_neg h0]at u;have hd:((c.1:Int)==0)=false:=by simp;omega
     have ai:Hid (checkCh [] l=if X1 (l.take j) c.1=true then 11 else checkCh (l.take j++[c]) (l.drop (j+1))):=u;have aJ:wrap64 (((10+8*l.length+dataSize (l.take j):Nat):Int)+(c.2.size:Int))=((10+8*l.length+dataSize (l.take (j+1)):Nat):Int):=by have:=r.o;have:=n.o;rw[M]at af ⊢;simp only[wrap64];omega
     have HZ:Hid (wrap64 (((10+8*l.length+dataSize (l.take j):Nat):Int)+(c.2.size:Int))=((10+8*l.length+dataSize (l.take (j+1)):Nat):Int)):=aJ;have ag:Hid (wr.cell? ⟨b,off+j*2,none⟩=some (.int .u32 c.1)∧wr.cell? ⟨b,off+j*2+1,none⟩=some (.string c.2)):=⟨R,S⟩;clear u aJ af M h0;generalize 10+8*l.length+dataSize (l.take j)=sz at *;go_wp2;obtain⟨wo,rfl⟩:∃x:World,x=wr:=⟨wr,rfl⟩;clear R S;go_loopg[6] j (fun g k wr=>R2 wo l j c.1 g k wr)
     case atStart=>exact⟨0,Nat.zero_add _,rfl,fun q d hq=>by omega,TQ⟩
     case round=>
      obtain⟨t,aH,rfl,aB,htq⟩:=hrel;have TQ:Hid (TF wo wr):=htq;have GT:Hid (t+gk=j):=aH;have NO:Hid (∀(q:Nat)(d:Ch),q<t->l[q]?=some d->d.1≠c.1):=aB;have aY:wr.cell? ⟨b,off+j*2,none⟩=some (.int .u32 c.1):=by rw[World.cell?_of_block (w':=wr) (TQ.o.block b ad fun q=>q)];exact ag.o.1
      have aZ:wr.cell? ⟨b,off+j*2+1,none⟩=some (.string c.2):=by rw[World.cell?_of_block (w':=wr) (TQ.o.block b ad fun q=>q)];exact ag.o.2
      have a5:b<wr.heap.size:=LC ad TQ.o.size;clear htq aH aB;by_cases aW:t<j
      ·obtain⟨d,C⟩:∃d,l[t]?=some d:=⟨_,LB (by rw[<-n.o];omega)⟩;obtain⟨b2,a9,ac,-,d0,-⟩:=fM ((H.o.turned T.o).turned TQ.o) t d C;injection ac with ac;injection ac with B e2;subst B;subst e2;have D:Hid (l[t]?=some d):=C;clear C;by_cases aa:d.1=c.1
       ·have hq:((d.1:Int)==(c.1:Int))=true:=by simp;omega
        have V:X1 (l.take j) c.1=true:=by unfold X1;rw[List.any_eq_true];refine⟨d,?_,by simpa using aa⟩;refine LI (i:=t) ?_;rw[List.getElem?_take,if_pos aW,D.o]
        have y:Hid (s7 l=.tuple #[.string ⟨#[]⟩,.int .i64 11]):=by
         have u:=ai.o;rw[if_pos V]at u;have:t7 l=11:=by unfold t7;rw[if_neg (by have:=r.o;have:=n.o;omega),if_pos (by omega),u]
         show s7 l=_;unfold s7;rw[this];rfl
        clear V aa;go_wp2;go_region
        all_goals go_wp2
        all_goals go_ret2
        all_goals exact⟨by rw[y.o];rfl,(T.o.tr TQ.o).draw⟩
       ·have hq:((d.1:Int)==(c.1:Int))=false:=by simp;omega
        have aM:Hid (d.1≠c.1):=aa;clear aa;go_wp2;go_region
        all_goals go_wp2
        all_goals
         go_roundg (gk-1)
         case measure=>have:=GT.o;omega
         case rel=>
          refine⟨t+1,by have:=GT.o;omega,by simp,fun q e hq he=>?_,TQ.o.draw⟩;rcases Nat.lt_or_eq_of_le (Nat.le_of_lt_succ hq)with z|z
          ·exact NO.o q e z he
          ·rw[z,D.o]at he;obtain rfl:=Option.some.inj he;exact aM.o
      ·have O:t=j:=by have:=GT.o;omega
       have V:¬X1 (l.take j) c.1=true:=by
        intro q;unfold X1 at q;rw[List.any_eq_true]at q;obtain⟨d,aP,C⟩:=q;obtain⟨i,I⟩:=LM aP;rw[List.getElem?_take]at I;split at I
        ·exact NO.o i d (by omega) I (by simpa using C)
        ·simp at I
       have aq:checkCh [] l=checkCh (l.take (j+1)) (l.drop (j+1)):=by have:=ai.o;rw[if_neg V]at this;rw[this,List.take_add_one,DR.o.1];rfl
       have aK:Hid (checkCh [] l=checkCh (l.take (j+1)) (l.drop (j+1))):=aq;subst O;clear V aq;go_wp2;go_roundg (l.length-t-1)
       case measure=>have:=G.o;have:=n.o;omega
       case rel=>exact⟨t+1,by have:=G.o;have:=n.o;omega,by simp,by rw[HZ.o],aK.o,T.o.tr TQ.o⟩
   ·have hj:j=L:=by have:=G.o;have:=n.o;omega
    subst hj;have aI:l.take j=l:=LQ (by have:=n.o;omega);have ap:checkCh [] l=0:=by rw[CK.o,List.drop_of_length_le (by have:=n.o;omega)];rfl
    rw[aI];obtain⟨N,hN⟩:=EX (10+8*l.length+dataSize l);have HN:Hid (N=10+8*l.length+dataSize l):=hN;have HK:Hid (checkCh [] l=0):=ap;rw[<-hN];clear hN ap aI E;by_cases am:4194304<N
    ·have hd:decide ((4194304:Int)<(N:Int))=true:=by simp;omega
     have C:decide (4194304<N)=true:=by simp;omega
     have y:Hid (s7 l=.tuple #[.string ⟨#[]⟩,.int .i64 5]):=by
      have:t7 l=5:=by unfold t7;rw[if_neg (by have:=r.o;have:=n.o;omega),if_neg (by rw[HK.o];simp),if_pos (by have:=HN.o;omega)]
      show s7 l=_;unfold s7;rw[this];rfl
     clear am;go_wp2;go_ret2;exact⟨by rw[y.o];rfl,T.o⟩
    ·have hd:decide ((4194304:Int)<(N:Int))=false:=by simp;omega
     have C:decide (4194304<N)=false:=by simp;omega
     have y:Hid (s7 l=.tuple #[.string (er l),.int .i64 0]):=by
      have:t7 l=0:=by unfold t7;rw[if_neg (by have:=r.o;have:=n.o;omega),if_neg (by rw[HK.o];simp),if_neg (by have:=HN.o;omega)]
      show s7 l=_;unfold s7;rw[this];rfl
     have HD:Hid (dataSize l<=4194304):=(by have:=HN.o;omega:dataSize l<=4194304);clear am;have K:=tU a cap l wr (H.o.turned T.o) (by have:=r.o;have:=n.o;omega);rw[<-n.o]at K;have aQ:((j:Nat):Int)% 18446744073709551616=(j:Int):=by have:=r.o;omega
     have aA:∀W,CZ 245 #[.int .u64 (j:Nat),.int .i64 1] W (RT (.string ⟨(m9 j 1).toArray⟩) W):=fun W=>p5 j 1 W (by have:=r.o;omega) (by omega)
     have aO:∀W,(Op.stringOp .add ⟨#[80,68,71,67,1]⟩ ⟨(m9 j 1).toArray⟩).run prog W=.ok (.string ⟨(magicC++m9 j 1).toArray⟩) W:=fun W=>I6 magicC (m9 j 1) (by simp[magicC,j6]) W
     have A:Hid (dataSize (m8 l)=dataSize l∧(m8 l).length=j):=⟨dW (J7 l),(Q6 l).trans n.o.symm⟩;have al:Hid (∀(i:Nat)(c:Ch),(m8 l)[i]?=some c->c.1<4294967296∧c.2.size<=4194304):=fun i c f=>by have hm:c∈l:=(J7 l).mem_iff.1 (LI f);exact⟨(H.o.2.2.1 c hm).1,LR (iJ l c hm) HD.o⟩
     generalize aC:magicC++m9 j 1=m at *;have P0:Hid (magicC++m9 j 1=m):=aC;clear aC
     go_wp2_with(first
      |(go_fit K;rintro e w1⟨v,rfl,ae,aE⟩;obtain⟨sa,aX,hv,a7,a8⟩:=ae.value;subst hv;have T1:Hid (TF w w1):=T.o.tr aE;have aN:Hid (Sl w1 _ 285 2 (.slice sa j aX) (ccells (m8 l)) j):=fP ae;clear ae aE)
      |(go_fit(aA _);rintro e w2⟨rfl,aF⟩;have T2:Hid (TF w1 w2):=aF;clear aF))
     have aj:Hid (R3 w2 j m (fun k=>tableCh ((m8 l).take k)) j (.string ⟨m.toArray⟩) (.int .i64 0) w2):=⟨0,by omega,rfl,by simp[tableCh],TQ⟩;have ah:Hid (∀(i:Nat)(c:Ch)(Z:World),(m8 l)[i]?=some c->TF w2 Z->∃g off,sa=some ⟨g,off,none⟩∧g<Z.heap.size∧Z.cell? ⟨g,off+i*2,none⟩=some (.int .u32 c.1)∧Z.cell? ⟨g,off+i*2+1,none⟩=some (.string c.2)):=fun i c Z f O=>by have I:=(LA.1 f).1;have a6:=A.o.2;obtain⟨g,off,a0,hv,-,-,-,K,-,U⟩:=((aN.o.turned T2.o fun _ _ q=>q).turned O fun _ _ q=>q).opens (by omega);injection hv with B e2 e3;exact⟨g,off,B,U,(K (i*2) (by omega)).trans (ccells_get _ i c f).1,(K (i*2+1) (by omega)).trans (ccells_get _ i c f).2⟩
     have PL:Hid (m.length=6):=by
      have:m.length=6:=by rw[<-P0.o];simp[magicC,j6]
      exact this
     clear K hd C aQ aA aO;obtain⟨wo,rfl⟩:∃x:World,x=wr:=⟨wr,rfl⟩;go_loopg[7,8] j (fun g s i wr=>R3 w2 j m (fun k=>tableCh ((m8 l).take k)) g s i wr)
     case atStart=>exact aj.o
     case round=>
      obtain⟨i,au,rfl,rfl,htq⟩:=hrel;have TQ:Hid (TF w2 wr):=htq;have GI:Hid (i+gk=j):=au;clear htq au aj;by_cases E:i<j
      ·obtain⟨c,f⟩:∃c,(m8 l)[i]?=some c:=⟨_,LB (by rw[A.o.2];exact E)⟩;obtain⟨g,off,rfl,U,R,S⟩:=ah.o i c wr f TQ.o;obtain⟨s1,s2⟩:=al.o i c f;have X:(m++tableCh ((m8 l).take i)).length<=1000:=by simp[PL.o,M9];have:=r.o;omega
       have ay:IntKind.u64.wrap ((c.1:Nat):Int)=(c.1:Int):=by simp[IntKind.wrap,IntKind.bits,IntKind.signed];omega
       have az:IntKind.u64.wrap ((c.2.size:Nat):Int)=(c.2.size:Int):=by simp[IntKind.wrap,IntKind.bits,IntKind.signed];omega
       have aR:∀W,CZ 245 #[.int .u64 (IntKind.u64.wrap (c.1:Nat)),.int .i64 4] W (RT (.string ⟨(m9 c.1 4).toArray⟩) W):=fun W=>by rw[ay];exact p5 c.1 4 W (by omega) (by omega)
       have aS:∀W,CZ 245 #[.int .u64 (IntKind.u64.wrap (c.2.size:Nat)),.int .i64 4] W (RT (.string ⟨(m9 c.2.size 4).toArray⟩) W):=fun W=>by rw[az];exact p5 c.2.size 4 W (by omega) (by omega)
       have a3:=I6 (m++tableCh ((m8 l).take i)) (m9 c.1 4) (by rw[j6];omega);have a4:=I6 (m++tableCh ((m8 l).take i)++m9 c.1 4) (m9 c.2.size 4) (by rw[List.length_append,j6,j6];omega);have B:m++tableCh ((m8 l).take i)++m9 c.1 4++m9 c.2.size 4=m++tableCh ((m8 l).take (i+1)):=by rw[List.take_add_one,f,fO];simp[tableCh]
       have E1:Hid (m++tableCh ((m8 l).take i)++m9 c.1 4++m9 c.2.size 4=m++tableCh ((m8 l).take (i+1))):=B;have CT:Hid (∀w3,TF wr.drew w3->w3.cell? ⟨g,off+i*2,none⟩=some (.int .u32 c.1)∧w3.cell? ⟨g,off+i*2+1,none⟩=some (.string c.2)∧g<w3.heap.size):=fun w3 t3=>by
        have hb:wr.heap.size<=w3.heap.size:=t3.size;refine⟨?_,?_,by omega⟩
        ·rw[World.cell?_of_block (w:=wr.drew) (w':=w3) (t3.block g U fun q=>q)];exact R
        ·rw[World.cell?_of_block (w:=wr.drew) (w':=w3) (t3.block g U fun q=>q)];exact S
       clear f X s1 s2 B ay az;generalize(⟨(m++tableCh ((m8 l).take i)).toArray⟩:ByteArray)=Q at *;generalize(⟨(m++tableCh ((m8 l).take i)++m9 c.1 4).toArray⟩:ByteArray)=q1 at *;generalize Y:(⟨(m++tableCh ((m8 l).take i)++m9 c.1 4++m9 c.2.size 4).toArray⟩:ByteArray)=q2 at *;have ab:Hid ((⟨(m++tableCh ((m8 l).take i)++m9 c.1 4++m9 c.2.size 4).toArray⟩:ByteArray)=q2):=Y;clear Y;generalize(⟨(m9 c.1 4).toArray⟩:ByteArray)=n1 at *;generalize(⟨(m9 c.2.size 4).toArray⟩:ByteArray)=n2 at *;go_wp2
       go_region_with (first
        |(go_fit(aR _);rintro e wA⟨rfl,aG⟩;obtain⟨f0,f1,f2⟩:=CT.o wA aG)
        |(go_fit(aS _);rintro e wB⟨rfl,aV⟩))
       all_goals go_wp2
       all_goals
        go_roundg (gk-1)
        case measure=>have:=GI.o;omega
        case rel=>exact⟨i+1,by have:=GI.o;omega,by simp,by rw[<-ab.o,E1.o],(TQ.o.draw.tr aG).tr aV⟩
      ·have I:i=j:=by have:=GI.o;omega
       subst I;have P:(m8 l).take i=m8 l:=LQ (by rw[A.o.2];exact LS _);generalize F:(⟨(m++tableCh ((m8 l).take i)).toArray⟩:ByteArray)=Q;rw[P]at F;have ak:Hid (R3 w2 i (m++tableCh (m8 l)) (fun k=>dataCh ((m8 l).take k)) i (.string Q) (.int .i64 0) wr):=⟨0,by omega,rfl,by rw[<-F];simp[dataCh],TQ.o⟩;clear P E TQ F;generalize aD:m++tableCh (m8 l)=p at *;have P1:Hid (m++tableCh (m8 l)=p):=aD;clear aD;go_wp2;obtain⟨ba,rfl⟩:∃x:World,x=wr:=⟨wr,rfl⟩;go_loopg[7,9] i (fun g s k wr=>R3 w2 i p (fun k=>dataCh ((m8 l).take k)) g s k wr)
       case atStart=>exact ak.o
       case round=>
        obtain⟨k,ax,rfl,rfl,htq⟩:=hrel;have TQ:Hid (TF w2 wr):=htq;have GK:Hid (k+gk=i):=ax;clear htq ax ak;have X:(p++dataCh ((m8 l).take k)).length<=4200000:=by
         have h1:=r.o;have h2:=A.o.2;have h3:dataSize ((m8 l).take k)<=4194304:=by
          have h4:=A.o.1;have h5:dataSize (m8 l)=dataSize ((m8 l).take k)+dataSize ((m8 l).drop k):=by rw[<-Z8,List.take_append_drop]
          have:=HD.o;omega
         rw[<-P1.o];simp only[List.length_append,M9,dV,PL.o];omega
        by_cases E:k<i
        ·obtain⟨c,f⟩:∃c,(m8 l)[k]?=some c:=⟨_,LB (by rw[A.o.2];exact E)⟩;obtain⟨g,off,rfl,U,R,S⟩:=ah.o k c wr f TQ.o
         have a2:∀W,(Op.stringOp .add ⟨(p++dataCh ((m8 l).take k)).toArray⟩ c.2).run prog W=.ok (.string ⟨(p++dataCh ((m8 l).take (k+1))).toArray⟩) W:=by
          have h2:=(al.o k c f).2;have:=I6 (p++dataCh ((m8 l).take k)) c.2.data.toList (by rw[show c.2.data.toList.length=c.2.size by simp];omega);have B:p++dataCh ((m8 l).take (k+1))=p++dataCh ((m8 l).take k)++c.2.data.toList:=by rw[List.take_add_one,f,gO];simp[dataCh]
          rw[B];simpa using this
         clear f X;generalize(⟨(p++dataCh ((m8 l).take k)).toArray⟩:ByteArray)=Q at *;generalize Y:(⟨(p++dataCh ((m8 l).take (k+1))).toArray⟩:ByteArray)=q2 at *;have ab:Hid ((⟨(p++dataCh ((m8 l).take (k+1))).toArray⟩:ByteArray)=q2):=Y;clear Y;go_wp2;go_roundg (gk-1)
         case measure=>have:=GK.o;omega
         case rel=>exact⟨k+1,by have:=GK.o;omega,by simp,by rw[<-ab.o],TQ.o⟩
        ·have hk:k=i:=by have:=GK.o;omega
         subst hk;have P:(m8 l).take k=m8 l:=LQ (by rw[A.o.2];exact LS _);rw[P]at X;generalize F:(⟨(p++dataCh ((m8 l).take k)).toArray⟩:ByteArray)=Q;rw[P]at F;have aT:=gY Q wr (by rw[<-F,G6];omega);have aL:Hid (er l=J9 Q):=by show er l=_;unfold er lq;rw[<-F,<-P1.o,<-P0.o,A.o.2]
         clear P X E F;go_wp2_with(go_fit aT;rintro e w4⟨rfl,aU⟩);go_ret2;exact⟨by rw[y.o,aL.o];rfl,((T1.o.tr T2.o).tr TQ.o).tr aU⟩
end Go.Proofs.YtofcogekgcgjhaaGreatDoor
namespace Go.Proofs.YtofcogekgcgjhaaGreatDoor.Ch
open Go.RowKit Go.Mine Tryz
def magicM:List UInt8:=[80,68,71,77,1]
def wh(x:Ln):List UInt8:=m9 x.1.toNat 4++m9 x.2.1.toNat 4++m9 x.2.2 4
def rowsLn:List Ln->List UInt8
 | []=>[]
 |x::l=>wh x++rowsLn l
def lK(l:List Ln):List UInt8:=magicM++m9 l.length 1++rowsLn l
def X4(l:List Ln):ByteArray:=J9 ⟨(lK l).toArray⟩
def dE(l:List Ln):Value:=if G1 l=0 then .tuple #[.string (X4 l),.int .i64 0]else .tuple #[.string ⟨#[]⟩,.int .i64 (G1 l:Nat)]
theorem gT(a b:List Ln):rowsLn (a++b)=rowsLn a++rowsLn b:=by
 induction a with|nil=>rfl|cons x a c=>simp[rowsLn,c]
theorem Q8(l:List Ln):(rowsLn l).length=12*l.length:=by
 induction l with|nil=>rfl|cons x l a=>simp[rowsLn,wh,a,j6];omega
theorem zI(l:List Ln):∀a,chkLn a l=0->∀x∈l,0<=x.1∧x.1<=1073741824∧1<=x.2.1∧x.2.1<=65536:=by
 induction l with
 |nil=>intro a _ x hx;simp at hx
 |cons y l c=>
  intro a h x hx;unfold chkLn at h;split at h
  ·omega
  ·rename_i b;split at h
   ·omega
   ·split at h
    ·omega
    ·rcases List.mem_cons.1 hx with rfl|hx
     ·unfold fL cO at b;simp at b;omega
     ·exact c _ h x hx
theorem fU(l:List Ln)(h:G1 l=0):l.length<=8∧chkLn [] l=0∧∀x∈l,0<=x.1∧x.1<=1073741824∧1<=x.2.1∧x.2.1<=65536:=by
 unfold G1 at h;split at h
 ·omega
 ·exact⟨by omega,h,zI l [] h⟩
def E2(w2:World)(l:List Ln)(g:Nat)(i:Value)(wr:World):Prop:=∃j:Nat,j+g=l.length∧i=.int .i64 j∧Wr wr (fun b=>w2.heap.size<=b) w2.heap.size (magicM++m9 l.length 1++rowsLn (l.take j))∧d7 (fun b=>w2.heap.size<=b) w2 wr
theorem uo(a:Option Addr)(cap:Nat)(l:List Ln)(w:World)(h:S7 w a cap l):
  CZ 135 #[.slice a l.length cap] w (RT (dE l) w):=by
 have H:Hid (S7 w a cap l):=h;have z:=xp a cap l w h;by_cases t:G1 l=0
 ·have O:Hid (dE l=.tuple #[.string (X4 l),.int .i64 0]):=by
   have:dE l=.tuple #[.string (X4 l),.int .i64 0]:=by unfold dE;rw[if_pos t]
   exact this
  obtain⟨R,-,af⟩:=fU l t;rw[t]at z;rw[O.o];obtain⟨L,T⟩:=EX l.length;rw[<-T]at z R ⊢;have j:Hid (L=l.length):=T;have F:Hid (L<=8):=R;have HG:Hid (∀x∈l,0<=x.1∧x.1<=1073741824∧1<=x.2.1∧x.2.1<=65536):=af;have aw:((L:Nat):Int)% 256=(L:Int):=by omega
  clear h T R af t;go_enter func135,ntmps135
  go_wp2_with(first
   |(go_fit z;rintro e w2⟨rfl,J⟩;have G:Hid (TF w w2):=J;have nw:=L9 w2;clear z J)
   |(go_fit nw;rintro e Z⟨rfl,ao,ak,aj⟩;have ah:=oV ⟨#[80,68,71,77,1]⟩ Z ao (by omega) (by simp[ByteArray.size]);have Z3:Hid (Z.heap.size=w2.heap.size+1∧TF w2 Z):=⟨aj,ak⟩;clear nw ao aj ak)
   |(go_fit ah;rintro e d⟨rfl,E,s⟩;have an:=wg L d E (by have:=s.size;have:=Z3.o.1;omega) (by have:=F.o;omega) (by simp);have Z4:Hid (d7 (fun b=>w2.heap.size<=b) w2 d):=(Z3.o.2.mono fun _ _ q=>q.elim).tr s;clear ah E s)
   |(go_fit an;rintro e u⟨rfl,ap,C⟩;have Z5:Hid (Wr u (fun b=>w2.heap.size<=b) w2.heap.size (magicM++m9 L 1)∧d7 (fun b=>w2.heap.size<=b) w2 u):=⟨ap,Z4.o.tr C⟩;clear an ap C))
  have ab:Hid (E2 w2 l L (.int .i64 0) u):=⟨0,by have:=j.o;omega,rfl,by rw[<-j.o];simpa[rowsLn]using Z5.o.1,Z5.o.2⟩;go_loopg[23] L (fun g i wr=>E2 w2 l g i wr)
  case atStart=>exact ab.o
  case round=>
   obtain⟨i,V,rfl,Y,am⟩:=hrel;rw[<-j.o]at Y V;have W:Hid (Wr wr (fun b=>w2.heap.size<=b) w2.heap.size (magicM++m9 L 1++rowsLn (l.take i))):=Y;have TQ:Hid (d7 (fun b=>w2.heap.size<=b) w2 wr):=am;have N:Hid (i+gk=L):=V;clear Y am V ab aw;have ac:TF w wr:=G.o.comp TQ.o fun i U q=>q.elim (fun q=>q) fun q=>by have:=G.o.size;omega
   have T0:Hid (TF w wr):=ac;clear ac;by_cases ag:i<L
   ·obtain⟨c,y⟩:∃c,l[i]?=some c:=⟨_,LB (by rw[<-j.o];exact ag)⟩;obtain⟨b,off,rfl,az,c0,c1,c2⟩:=M8 (H.o.turned T0.o) i c y;have hg:=HG.o c (LI y);have X:=(H.o.2.2.1 c (LI y)).2.2;have ar:Hid (l[i]?=some c):=y;obtain⟨cn,cc,f⟩:=c;simp only at hg X c0 c1 c2;obtain⟨n,rfl⟩:∃n:Nat,cn=(n:Int):=⟨cn.toNat,by omega⟩;obtain⟨m,rfl⟩:∃m:Nat,cc=(m:Int):=⟨cc.toNat,by omega⟩;have A:(magicM++m9 L 1++rowsLn (l.take i)).length<=1000:=by simp only[magicM,List.length_append,List.length_cons,List.length_nil,j6,Q8,List.length_take];have:=F.o;omega
    have hA:=gz n (wr.alloc (.cells #[.int .i64 (n:Int),.int .i64 (m:Int),.int .u32 f] 120)) ((fT W.o).turned (d7.alloc (fun _=>False) wr _) fun _ _ q=>q) (by omega) (by omega);have hz:(wr.alloc (.cells #[.int .i64 (n:Int),.int .i64 (m:Int),.int .u32 f] 120)).heap.size=wr.heap.size+1:=by simp
    have ad:∀(S:Nat->Prop)d,¬S wr.heap.size->d7 S (wr.alloc (.cells #[.int .i64 (n:Int),.int .i64 (m:Int),.int .u32 f] 120)) d->d.cell? ⟨wr.heap.size,1,none⟩=some (.int .i64 (m:Int))∧d.cell? ⟨wr.heap.size,2,none⟩=some (.int .u32 f)∧wr.heap.size<d.heap.size:=fun S d hS t4=>by
     have r:=fun o=>World.cell?_of_block (w':=d) (a:=⟨wr.heap.size,o,none⟩) (t4.block wr.heap.size (by omega) hS)
     refine⟨?_,?_,by have:=t4.size;omega⟩
     ·rw[r];exact g9 (heap_alloc_last wr _) 1 _ rfl
     ·rw[r];exact g9 (heap_alloc_last wr _) 2 _ rfl
    have HC:Hid (∀(S:Nat->Prop)d,¬S wr.heap.size->d7 S (wr.alloc (.cells #[.int .i64 (n:Int),.int .i64 (m:Int),.int .u32 f] 120)) d->d.cell? ⟨wr.heap.size,1,none⟩=some (.int .i64 (m:Int))∧d.cell? ⟨wr.heap.size,2,none⟩=some (.int .u32 f)∧wr.heap.size<d.heap.size):=ad;have p:Hid ((magicM++m9 L 1++rowsLn (l.take i)).length<=1000∧n<4294967296∧m<4294967296∧f<4294967296∧(wr.alloc (.cells #[.int .i64 (n:Int),.int .i64 (m:Int),.int .u32 f] 120)).heap.size=wr.heap.size+1):=⟨A,by omega,by omega,X,hz⟩;have aB:(n:Int)% 4294967296=(n:Int):=by omega
    have aC:(m:Int)% 4294967296=(m:Int):=by omega
    clear y ad A hg X hz
    go_wp2_with(first
     |(go_fit hA;rintro e d⟨rfl,E,s⟩;obtain⟨f1,f2,f3⟩:=HC.o _ d (fun q=>by have:=q.2;omega) s;have hB:=gz m d E p.o.2.2.1 (by have:=p.o.1;simp only[List.length_append,j6]at this ⊢;omega);have Z6:Hid (d7 (fun b=>w2.heap.size<=b∧b<wr.heap.size) (wr.alloc (.cells #[.int .i64 (n:Int),.int .i64 (m:Int),.int .u32 f] 120)) d):=s;clear E s hA)
     |(go_fit hB;rintro e v⟨rfl,M,K⟩;have Q:Hid (d7 (fun b=>w2.heap.size<=b∧b≠wr.heap.size) (wr.alloc (.cells #[.int .i64 (n:Int),.int .i64 (m:Int),.int .u32 f] 120)) v):=(Z6.o.mono fun b r q=>⟨q.1,by omega⟩).trans K (fun b r q=>q.elim (fun q=>⟨q.1,by omega⟩) (fun q=>by have:=p.o.2.2.2.2;have:=TQ.o.size;exact⟨by omega,by omega⟩));obtain⟨g1,g2,g3⟩:=HC.o _ v (fun q=>q.2 rfl) Q.o;have hD:=fS f v (B:=w2.heap.size) (M.widen fun b q=>by have z1:=p.o.2.2.2.2;have z2:=TQ.o.size;have z3:=Z6.o.size;rcases q with(q|q)|q<;>omega) (by have:=TQ.o.size;have:=Q.o.size;have:=p.o.2.2.2.2;omega) p.o.2.2.2.1 (by have:=p.o.1;simp only[List.length_append,j6]at this ⊢;omega);clear M K hB)
     |(go_fit hD;rintro e w7⟨rfl,ay,ax⟩))
    go_roundg (gk-1)
    case measure=>have:=N.o;omega
    case rel=>
     refine⟨i+1,by have:=N.o;have:=j.o;omega,by have:=F.o;simp[wrap64];omega,?_,((TQ.o.new _).tr (Q.o.mono fun b r q=>q.1)).tr ax⟩;have e1:rowsLn (l.take (i+1))=rowsLn (l.take i)++(m9 n 4++m9 m 4++m9 f 4):=by rw[List.take_add_one,ar.o,gT];simp[rowsLn,wh]
     rw[e1,<-j.o];simpa[List.append_assoc]using ay
   ·have U:i=L:=by have:=N.o;omega
    subst U;have al:l.take i=l:=LQ (by have:=j.o;omega);have D:=W.o;rw[al]at D;obtain⟨bs,I⟩:=EX (magicM++m9 i 1++rowsLn l);have A:bs.length<=1000:=by rw[I];simp only[magicM,List.length_append,List.length_cons,List.length_nil,j6,Q8];have:=F.o;have:=j.o;omega
    rw[<-I]at D;have aq:Hid (X4 l=⟨(bs++m9 (Crc.sum (p6 ⟨bs.toArray⟩)) 4).toArray⟩):=by
     have r:lK l=bs:=by rw[I,lK,j.o]
     show X4 l=_;unfold X4;rw[r,iK]
    have WB:Hid (Wr wr (fun b=>w2.heap.size<=b) w2.heap.size bs):=D;have ae:=O0 ⟨bs.toArray⟩;have au:=O3 wr D;have ai:=kO wr.heap.size 0 1 ⟨bs.toArray⟩ (wr.alloc (.cells #[.string ⟨bs.toArray⟩] 9)) (g9 (heap_alloc_last wr _) 0 _ rfl) (by simp) (by rw[G6];omega);have aa:Hid (bs.length<=1000∧Crc.sum (p6 ⟨bs.toArray⟩)<4294967296):=⟨A,ae⟩;clear D al I A ae W ag
    go_wp2_with(first
     |(go_fit au;rintro e d⟨rfl,rfl⟩)
     |(go_fit ai;rintro e u⟨rfl,C⟩;have P:Hid (TF wr u):=(d7.alloc (fun _=>False) wr _).tr C;have hA:=fS (Crc.sum (p6 ⟨bs.toArray⟩)) u (WB.o.turned P.o fun _ _ q=>q) (by have:=TQ.o.size;have:=P.o.size;omega) aa.o.2 (by have:=aa.o.1;omega);clear ai C)
     |(go_fit hA;rintro e v⟨rfl,M,K⟩;have av:=O3 v M)
     |(go_fit av;rintro e w7⟨rfl,rfl⟩))
    go_ret2;refine⟨by rw[aq.o];rfl,?_⟩;have q1:d7 (fun b=>w2.heap.size<=b) w2 v:=(TQ.o.tr (P.o.mono fun _ _ q=>q.elim)).tr K;exact G.o.comp q1 fun i U q=>q.elim (fun q=>q) fun q=>by have:=G.o.size;omega
 ·have O:Hid (dE l=.tuple #[.string ⟨#[]⟩,.int .i64 (G1 l:Nat)]):=by
   have:dE l=.tuple #[.string ⟨#[]⟩,.int .i64 (G1 l:Nat)]:=by unfold dE;rw[if_neg t]
   exact this
  rw[O.o];have aA:((G1 l:Int)==0)=false:=by simp;omega
  generalize G1 l=k at *;generalize l.length=L at *;clear h t;go_enter func135,ntmps135;go_wp2_with(go_fit z;rintro e w2⟨rfl,J⟩);go_ret2;exact⟨rfl,J⟩
def DQ(s:ByteArray)(st:Nat×Nat):Nat->List Ln×(Nat×Nat)
 |0=>([],st)
 |k+1=>((DQ s st k).1++[(((M5 s (DQ s st k).2 4).1:Int),((M5 s (M5 s (DQ s st k).2 4).2 4).1:Int),(M5 s (M5 s (M5 s (DQ s st k).2 4).2 4).2 4).1)],(M5 s (M5 s (M5 s (DQ s st k).2 4).2 4).2 4).2)
def lcells:List Ln->List Value
 | []=>[]
 |x::l=>.int .i64 x.1:: .int .i64 x.2.1:: .int .u32 x.2.2::lcells l
theorem lcells_get:∀(l:List Ln)(i:Nat)(x:Ln),l[i]?=some x->(lcells l)[i*3]?=some (.int .i64 x.1)∧(lcells l)[i*3+1]?=some (.int .i64 x.2.1)∧(lcells l)[i*3+2]?=some (.int .u32 x.2.2)
 | [],i,c,h=>by simp at h
 |d::l,0,c,h=>by simp at h;subst h;simp[lcells]
 |d::l,i+1,c,h=>by
  have:=lcells_get l i c (by simpa using h);have a:(i+1)*3=i*3+1+1+1:=by omega
  have b:(i+1)*3+1=i*3+1+1+1+1:=by omega
  have e:(i+1)*3+2=i*3+2+1+1+1:=by omega
  rw[e,b,a];simp only[lcells,List.getElem?_cons_succ];exact this
def jx(l:List Ln):Prop:=∀x∈l,eO x.1∧eO x.2.1∧x.2.2<4294967296
theorem cU{w:World}{S:Nat->Prop}{v:Value}{l:List Ln}(h:Sl w S 120 3 v (lcells l) l.length)(n:jx l):∃a cap,v=.slice a l.length cap∧S7 w a cap l:=by
 obtain⟨a,cap,rfl,h1,h2⟩:=h.value;refine⟨a,cap,rfl,h1,h2,n,fun k=>?_⟩;obtain⟨g,off,p,o,-,-,-,b,-,m⟩:=h.opens k;injection o with d _ q;refine⟨g,off,d,m,fun i x c=>?_⟩;have r:=(LA.1 c).1;obtain⟨e,f,j⟩:=lcells_get l i x c;refine⟨(b (i*3) (by omega)).trans e,?_,?_⟩
 ·rw[Nat.add_assoc];exact(b (i*3+1) (by omega)).trans f
 ·rw[Nat.add_assoc];exact(b (i*3+2) (by omega)).trans j
def D1(w:World)(p:Nat)(s:ByteArray)(st:Nat×Nat)(c:Nat)(g:Nat)(d i:Value)(wr:World):Prop:=∃(k:Nat)(a:Nat->Prop),k+g=c∧i=.int .u8 k∧Sl wr a 120 3 d (lcells (DQ s st k).1) k∧EZ wr p s (DQ s st k).2∧d7 (· =p) w wr∧(∀b,a b->w.heap.size<=b∧b<wr.heap.size)
end Go.Proofs.YtofcogekgcgjhaaGreatDoor.Ch
namespace Go.Mine
theorem Sl.bound{w:World}{S:Nat->Prop}{e:TypeId}{size:Nat}{v:Value}{xs:List Value}{n:Nat}(h:Sl w S e size v xs n):Sl w (fun b=>S b∧b<w.heap.size) e size v xs n:=by
 refine⟨h.1,?_⟩;rcases h.2 with h|⟨g,off,cap,a,h1,h2,h3,h4⟩
 ·exact .inl h
 ·exact .inr ⟨g,off,cap,a,h1,⟨h2,i6 h3⟩,h3,h4⟩
theorem Sl.set{w:World}{S:Nat->Prop}{e:TypeId}{size:Nat}{g off cap:Nat}{xs:List Value}{n:Nat}(h:Sl w S e size (.slice (some ⟨g,off,none⟩) n cap) xs n)(j:Nat)(B:j<n*size)(a:Value):
  Sl (w.setCell ⟨g,off+j,none⟩ a) S e size (.slice (some ⟨g,off,none⟩) n cap) (xs.set j a) n∧d7 S w (w.setCell ⟨g,off+j,none⟩ a)∧(w.setCell ⟨g,off+j,none⟩ a).heap.size=w.heap.size:=by
 rcases h.2 with⟨d,-⟩|⟨A,D,x,o,d,f,u,l,s,t,m⟩
 ·simp at d
 ·injection d with c y p;injection c with c;injection c with q r z;subst q;subst r;subst p;have C:n*size<=cap*size:=Nat.mul_le_mul_right _ l;refine⟨⟨by simpa using h.1,.inr ⟨g,off,cap,_,rfl,f,j8 u a,l,s,by simpa using t,?_⟩⟩,d7.setCell f a,n8 _ _ _⟩;rw[Array.toList_setIfInBounds,<-m];apply List.ext_getElem?;intro k;rw[List.getElem?_take,List.getElem?_drop,List.getElem?_set,List.getElem?_set,List.getElem?_take,List.getElem?_drop];have v:(List.take (n*size) (List.drop off o.toList)).length=n*size:=by rw[m];exact h.1
  by_cases b:k<n*size
  ·rw[if_pos b,if_pos b];by_cases i:j=k
   ·subst i;rw[if_pos rfl,if_pos rfl,if_pos (by simp;omega),if_pos (by rw[v];exact b)]
   ·rw[if_neg (by omega),if_neg i]
  ·rw[if_neg b,if_neg b,if_neg (by omega)]
end Go.Mine
namespace Go.Proofs.YtofcogekgcgjhaaGreatDoor.Ch
open Go.RowKit Go.Mine Tryz
def F3(w:World)(l:List Ln)(a:List UInt8)(g:Nat)(s i:Value)(wr:World):Prop:=∃j:Nat,j+g=l.length∧i=.int .i64 j∧s=.string ⟨(a++rowsLn (l.take j)).toArray⟩∧TF w wr
theorem rv(a:Option Addr)(cap:Nat)(l:List Ln)(w:World)(h:S7 w a cap l):
  CZ 199 #[.slice a l.length cap] w (RT (dE l) w):=by
 have K:Hid (S7 w a cap l):=h;have u:=tP a cap l w h;by_cases t:G1 l=0
 ·have B:Hid (dE l=.tuple #[.string (X4 l),.int .i64 0]):=by
   have:dE l=.tuple #[.string (X4 l),.int .i64 0]:=by unfold dE;rw[if_pos t]
   exact this
  obtain⟨C,-,X⟩:=fU l t;rw[t]at u;rw[B.o];obtain⟨L,D⟩:=EX l.length;rw[<-D]at u C ⊢;have p:Hid (L=l.length):=D;have A:Hid (L<=8):=C;have HG:Hid (∀x∈l,0<=x.1∧x.1<=1073741824∧1<=x.2.1∧x.2.1<=65536):=X;have an:((L:Nat):Int)% 18446744073709551616=(L:Int):=by omega
  have ac:∀W,CZ 245 #[.int .u64 L,.int .i64 1] W (RT (.string ⟨(m9 L 1).toArray⟩) W):=fun W=>p5 L 1 W (by omega) (by omega)
  have ak:∀W,(Op.stringOp .add ⟨#[80,68,71,77,1]⟩ ⟨(m9 L 1).toArray⟩).run prog W=.ok (.string ⟨(magicM++m9 L 1).toArray⟩) W:=fun W=>I6 magicM (m9 L 1) (by simp[magicM,j6]) W
  generalize G:magicM++m9 L 1=d at *;have P0:Hid (magicM++m9 L 1=d):=G;have N:Hid (d.length=6):=by
   have:d.length=6:=by rw[<-G];simp[magicM,j6]
   exact this
  clear G h D C X t;go_enter func199,ntmps199
  go_wp2_with(first
   |(go_fit u;rintro e w2⟨rfl,y⟩;have T2:Hid (TF w w2):=y;clear u y)
   |(go_fit(ac _);rintro e f⟨rfl,ae⟩;have O:Hid (TF w f):=T2.o.tr ae;clear ae))
  have M:Hid (F3 f l d L (.string ⟨d.toArray⟩) (.int .i64 0) f):=⟨0,by have:=p.o;omega,rfl,by simp[rowsLn],TQ⟩;clear an ac ak;go_loopg[5,6] L (fun g s i wr=>F3 f l d g s i wr)
  case atStart=>exact M.o
  case round=>
   obtain⟨i,F,rfl,rfl,ah⟩:=hrel;rw[<-p.o]at F;have TQ:Hid (TF f wr):=ah;have z:Hid (i+gk=L):=F;clear ah F M;by_cases Y:i<L
   ·obtain⟨c,r⟩:∃c,l[i]?=some c:=⟨_,LB (by rw[<-p.o];exact Y)⟩;obtain⟨b,off,rfl,al,P,Q,R⟩:=M8 (K.o.turned (O.o.tr TQ.o)) i c r;have V:=HG.o c (LI r);have hu:=(K.o.2.2.1 c (LI r)).2.2;have aw:Hid (l[i]?=some c):=r;obtain⟨T,S,j⟩:=c;simp only at V hu P Q R;obtain⟨n,rfl⟩:∃n:Nat,T=(n:Int):=⟨T.toNat,by omega⟩;obtain⟨m,rfl⟩:∃m:Nat,S=(m:Int):=⟨S.toNat,by omega⟩;have am:(d++rowsLn (l.take i)).length<=1000:=by rw[List.length_append,N.o,Q8,List.length_take];have:=A.o;omega
    have Z:IntKind.u64.wrap ((n:Nat):Int)=(n:Int):=by simp[IntKind.wrap,IntKind.bits,IntKind.signed];omega
    have aa:IntKind.u64.wrap ((m:Nat):Int)=(m:Int):=by simp[IntKind.wrap,IntKind.bits,IntKind.signed];omega
    have ab:IntKind.u64.wrap ((j:Nat):Int)=(j:Int):=by simp[IntKind.wrap,IntKind.bits,IntKind.signed];omega
    have ao:∀W,CZ 245 #[.int .u64 (IntKind.u64.wrap (n:Nat)),.int .i64 4] W (RT (.string ⟨(m9 n 4).toArray⟩) W):=fun W=>by rw[Z];exact p5 n 4 W (by omega) (by omega)
    have ap:∀W,CZ 245 #[.int .u64 (IntKind.u64.wrap (m:Nat)),.int .i64 4] W (RT (.string ⟨(m9 m 4).toArray⟩) W):=fun W=>by rw[aa];exact p5 m 4 W (by omega) (by omega)
    have aq:∀W,CZ 245 #[.int .u64 (IntKind.u64.wrap (j:Nat)),.int .i64 4] W (RT (.string ⟨(m9 j 4).toArray⟩) W):=fun W=>by rw[ab];exact p5 j 4 W (by omega) (by omega)
    have ax:=I6 (d++rowsLn (l.take i)) (m9 n 4) (by rw[j6];omega);have ay:=I6 (d++rowsLn (l.take i)++m9 n 4) (m9 m 4) (by rw[List.length_append,j6,j6];omega);have az:=I6 (d++rowsLn (l.take i)++m9 n 4++m9 m 4) (m9 j 4) (by rw[List.length_append,List.length_append,j6,j6,j6];omega);have U:d++rowsLn (l.take i)++m9 n 4++m9 m 4++m9 j 4=d++rowsLn (l.take (i+1)):=by rw[List.take_add_one,r,gT];simp[rowsLn,wh]
    have E1:Hid (d++rowsLn (l.take i)++m9 n 4++m9 m 4++m9 j 4=d++rowsLn (l.take (i+1))):=U;have J:Hid (∀f,TF wr.drew f->f.cell? ⟨b,off+i*3,none⟩=some (.int .i64 (n:Int))∧f.cell? ⟨b,off+i*3+1,none⟩=some (.int .i64 (m:Int))∧f.cell? ⟨b,off+i*3+2,none⟩=some (.int .u32 j)∧b<f.heap.size):=fun f t3=>by
     have hb:wr.heap.size<=f.heap.size:=t3.size;have E:=fun o=>World.cell?_of_block (w:=wr.drew) (w':=f) (a:=⟨b,o,none⟩) (t3.block b al fun q=>q)
     exact⟨(E _).trans P,(E _).trans Q,(E _).trans R,by omega⟩
    clear r am V hu U Z aa ab;generalize(⟨(d++rowsLn (l.take i)).toArray⟩:ByteArray)=I at *;generalize(⟨(d++rowsLn (l.take i)++m9 n 4).toArray⟩:ByteArray)=q1 at *;generalize(⟨(d++rowsLn (l.take i)++m9 n 4++m9 m 4).toArray⟩:ByteArray)=q2 at *;generalize ad:(⟨(d++rowsLn (l.take i)++m9 n 4++m9 m 4++m9 j 4).toArray⟩:ByteArray)=q3 at *;have aj:Hid ((⟨(d++rowsLn (l.take i)++m9 n 4++m9 m 4++m9 j 4).toArray⟩:ByteArray)=q3):=ad;clear ad;generalize(⟨(m9 n 4).toArray⟩:ByteArray)=n1 at *;generalize(⟨(m9 m 4).toArray⟩:ByteArray)=n2 at *;generalize(⟨(m9 j 4).toArray⟩:ByteArray)=n3 at *;go_wp2
    go_region_with (first
     |(go_fit(ao _);rintro e wA⟨rfl,H⟩;obtain⟨f0,f1,f2,f3⟩:=J.o wA H)
     |(go_fit(ap _);rintro e wB⟨rfl,af⟩;obtain⟨g0,g1,g2,g3⟩:=J.o wB (H.tr af))
     |(go_fit(aq _);rintro e wC⟨rfl,av⟩))
    all_goals go_wp2
    all_goals
     go_roundg (gk-1)
     case measure=>have:=z.o;omega
     case rel=>exact⟨i+1,by have:=z.o;have:=p.o;omega,by have:=A.o;first|(simp;done)|(simp[wrap64];omega),by rw[<-aj.o,E1.o],((TQ.o.draw.tr H).tr af).tr av⟩
   ·have hi:i=L:=by have:=z.o;omega
    subst hi;have ag:l.take i=l:=LQ (by have:=p.o;omega);generalize v:(⟨(d++rowsLn (l.take i)).toArray⟩:ByteArray)=I;rw[ag]at v;have ar:=gY I wr (by rw[<-v,G6,List.length_append,N.o,Q8];have:=A.o;have:=p.o;omega);have ai:Hid (X4 l=J9 I):=by show X4 l=_;unfold X4 lK;rw[<-v,<-P0.o,p.o]
    clear ag Y v;go_wp2_with(go_fit ar;rintro e w4⟨rfl,au⟩);go_ret2;exact⟨by rw[ai.o];rfl,(O.o.tr TQ.o).tr au⟩
 ·have B:Hid (dE l=.tuple #[.string ⟨#[]⟩,.int .i64 (G1 l:Nat)]):=by
   have:dE l=.tuple #[.string ⟨#[]⟩,.int .i64 (G1 l:Nat)]:=by unfold dE;rw[if_neg t]
   exact this
  rw[B.o];have aA:((G1 l:Int)==0)=false:=by simp;omega
  generalize G1 l=k at *;generalize l.length=L at *;clear h t;go_enter func199,ntmps199;go_wp2_with(go_fit u;rintro e w2⟨rfl,y⟩);go_ret2;exact⟨rfl,y⟩
end Go.Proofs.YtofcogekgcgjhaaGreatDoor.Ch

/- Packed. -/
import Derived.Test.YtofcogekgcgjhaaGreatDoorZzbh
import Derived.Test.YtofcogekgcgjhaaGreatDoorZzbi
import Derived.Test.YtofcogekgcgjhaaGreatDoorZzat
set_option maxRecDepth 100000
set_option maxHeartbeats 8000000
namespace Go.Proofs.YtofcogekgcgjhaaGreatDoor
open Go.RowKit Go.Mine Go.Mine.Ac Go.Proofs.Tryz
theorem infoS9:(prog.info? 9).map (fun i=>(i.zero,i.size,i.bytes))=some (some (.string ⟨#[]⟩),1,16):=by kernel_rfl
def Du(c:Array MapEntry)(a i r:Nat)(k:World)(g:Nat)(j:Value)(wr:World):Prop:=∃(seen:Array Nat)(d:List MapEntry)(h:Nat)(f:Nat->Prop),(leftOf c seen).size=g∧Sl wr f 9 1 j (d.map fun e=>e.key) d.length∧(∀b,f b->r<b)∧O8 c seen d∧wr.heap[r]?=some (.mapIter (some i) a seen h)∧a<=h∧wr.heap[i]?=some (.map c a)∧d7 (· =r) k wr
def J2(w:World)(D:Dk)(e:Ending)(w':World):Prop:=∃v,e=.returned v∧Sl w' (fun b=>w.heap.size<=b) 9 1 v (D.names.map Value.string) D.names.length∧TF w w'
theorem vw{D:Dk}{b:Array MapEntry}(m:D.off=false)(k:(b.toList.map (·.key)).Perm ((D.seen.map (·.1)).map Value.string))(h:(D.seen.map (·.1)).Nodup){w:World}{S:Nat->Prop}{v:Value}{f:List MapEntry}{n:Nat}
    (s:n=f.length) (i:f.Perm b.toList) (r:b.toList.length<=64) (o:Sl w S 9 1 v (f.map fun e=>e.key) n):
    CZ 99 #[v] w fun e w'=>e=.returned (.tuple #[])∧(Sl w' S 9 1 v (D.names.map Value.string) n∧D.names.length=n)∧d7 S w w':=by
  obtain⟨a,h1,h2⟩:=oq ((i.map (·.key)).trans k) (D.seen.map (·.1)) rfl;have d:a.Nodup:=(h1.nodup_iff).2 h;have c:a.length=n:=by have:=congrArg List.length h2;simp only[List.length_map]at this;omega
  have g:D.names=Q4 a:=by
    unfold Dk.names;rw[m];simp only[Bool.false_eq_true,if_false];refine qC d (sortN_rising _ h) fun x=>?_
    rw[sortN_mem];exact(h1.mem_iff).symm
  have l:D.names.length=n:=by rw[g,<-jI d,List.length_map,List.length_mergeSort,List.length_map,c]
  have t:=i.length_eq;have p:Sl w S 9 1 v (a.map Value.string) a.length:=by rw[<-h2,c];exact o
  refine(pJ p d (by omega)).mono ?_;rintro e w'⟨rfl,j,q⟩;rw[<-g,c]at j;exact⟨rfl,⟨j,l⟩,q⟩
theorem vx{w:World}{rl:Nat->Nat}{d l mf:Nat}{pv:Value}{F:Nat->Nat}{D:Dk}(h:p9 w rl d l mf pv F D)(C:D.Ok):
    CZ 36 #[pt d] w (J2 w D):=by
  obtain⟨P,S⟩:=EX (J2 w D);have HP:Hid (P=J2 w D):=S;rw[<-S];clear S;have c6:=g9 h.blk 6 _ rfl;have c2:=g9 h.blk 2 _ rfl;have W:=i6 h.blk;cases A:D.off with
  |true=>
    rw[A]at c6;have M:Hid (D.off=true):=A;clear h C A;go_enter func36,ntmps36;go_wp2;rw[HP.o];refine⟨_,rfl,?_,TQ⟩;have:D.names=[]:=by simp[Dk.names,M.o]
    rw[this];exact Sl.nil _ _ _ _
  |false=>
    rw[A]at c6;have M:Hid (D.off=false):=A;obtain⟨c,j,H,af,ae⟩:=h.bs;obtain⟨V,aj⟩:=nB h.seen C.seenOk.nodup H;have aB:=C.seenOk.many;have al:=V.length_eq;simp only[List.length_map]at al;have aC:(Instr.range 145 (.map (some l))).run prog w=.ok (.pointer (some ⟨w.heap.size,0,none⟩)) (w.alloc (.mapIter (some l) j #[] j)):=run_range_map w 145 9 153 l _ _ underlying145 H;have ar:=h.seen.lt;obtain⟨r,m⟩:=EX w.heap.size;obtain⟨p,z⟩:=EX (w.alloc (.mapIter (some l) j #[] j));have T1:TF w p:=by rw[z];exact TA
    have an:r<p.heap.size:=by rw[z,m];simp
    have B0:Hid (Du c j l r p (leftOf c #[]).size (.slice none 0 0) p):=⟨#[],[],j,fun _=>False,rfl,Sl.nil _ _ _ _,fun _ q=>q.elim,O8.start c,by rw[z,m];exact i8 _ _,LS _,by rw[z];exact(G8 _ ar).trans H,TQ⟩;have HE:Hid (∀e∈c.toList,∃s,e.key=.string s):=i7 fun e he=>by obtain⟨s,k,e1,-⟩:=aj e he;exact⟨s,e1⟩
    have HB:Hid (∀x∈c.toList,x.born<j):=af;have HN:Hid ((c.toList.map (·.born)).Nodup):=ae;have G:Hid ((c.toList.map (·.key)).Perm ((D.seen.map (·.1)).map Value.string)∧(D.seen.map (·.1)).Nodup∧c.toList.length<=64):=⟨V,C.seenOk.nodup,by omega⟩;have B:Hid (TF w p∧r=w.heap.size∧r<p.heap.size):=⟨T1,m,an⟩;have aw:Hid (p.heap.size=r+1):=i7 (by rw[z,m];simp);have av:Hid (l<r):=i7 (by omega);have aq:w.heap.size=r:=m.symm;rw[aq,<-z]at aC;clear H af ae V aj aB al T1 z h C m aq ar A an;go_enter func36,ntmps36;go_wp2;go_loopg[3] (leftOf c #[]).size (fun g lv wr=>Du c j l r p g lv wr)
    case atStart=>exact B0.o
    case round=>
      obtain⟨seen,t,c0,v,I,aa,ac,ap,m,U,y,J⟩:=hrel;have N:Hid (Sl wr v 9 1 u3 (t.map fun e=>e.key) t.length):=aa;have u:Hid (∀b,v b->r<b):=ac;have HG:Hid ((leftOf c seen).size=gk):=I;have O:Hid (O8 c seen t):=ap;have HT:Hid (d7 (· =r) p wr):=J;obtain⟨n,X⟩:=EX t.length;have L:Hid (n=t.length):=X;obtain⟨a,cap,aA,-,-⟩:=aa.value;subst aA;rw[<-X]at N ⊢;have HR:Hid (wr.heap[r]?=some (.mapIter (some l) j seen c0)):=m;clear X B0 ap aa ac
      go_wp2_with(first
        |(at_next;refine df wr rfl _ rfl r l j c0 seen c rfl m y HB.o HN.o U ?_ ?_
          (intro R;have H0:Hid ((leftOf c seen).size=0):=R;have aD:=vw M.o G.o.1 G.o.2.1 L.o (O.o.done R) G.o.2.2 N.o;clear R I m U y J)
          rotate_left
          intro e f ah ag ai am ad ab aF W;have HL:Hid ((leftOf c (seen.push e.born)).size<gk):=(by rw[<-I];exact W:(leftOf c (seen.push e.born)).size<gk);have R3:Hid (f.heap[r]?=some (.mapIter (some l) j (seen.push e.born) j)∧f.heap[l]?=some (.map c j)):=⟨am,ad⟩;have T3:Hid (d7 (· =r) p f):=J.tr ab;have V3:Hid (O8 c (seen.push e.born) (t++[e])):=O.o.step HN.o ag;obtain⟨s,Y⟩:=HE.o e ah;have au:Hid (e.key=.string s):=Y;have S3:Hid (Sl (f.alloc (.cells #[.string s] 9)) v 9 1 (.slice a n cap) (t.map fun e=>e.key) n):=(N.o.turned ab fun b y q=>by have:=u.o b y;omega).turned (d7.alloc (fun _=>False) _ _) fun _ _ q=>q
          have ax:Hid (Src prog 1 84 (.slice (some ⟨f.heap.size,0,none⟩) 1 1) 1 [.string s] (f.alloc (.cells #[.string s] 9))):=G5 9 underlying84 [.string s] (by simp[Value.oneCell']) f;have m1:Hid (n+1<=maxLen∧(n+1)*16<=140737488355328):=i7 (by have h1:=(O.o).length_eq;rw[List.length_append,<-L.o]at h1;have h2:=G.o.2.2;exact⟨by simp only[maxLen];omega,by omega⟩);have Q:Hid (r<f.heap.size):=i7 (by have h1:=B.o.2.2;have h2:=T3.o.size;omega);rw[Y]at ai ⊢;clear ah ag am ad ab aF W I m U y J Y;obtain⟨ev,ak⟩:=EX e.val;rw[<-ak]at ai ⊢;clear ak)
        |(at_builtin;refine m7 rfl _ _ 84 84 rfl S3.o underlying84 infoS9 rfl (by decide) rfl (.slice (some ⟨f.heap.size,0,none⟩) 1 1) rfl ax.o m1.o.1 m1.o.2 ?_
          intro v4 E Z ao;obtain⟨a4,ay,aE,-,-⟩:=Z.value;subst aE;have S4:Hid (Sl E _ 9 1 (.slice a4 (n+1) ay) _ (n+1)∧d7 v _ E):=⟨Z,ao⟩;clear Z ao)
        |(go_fit aD;rintro e w2⟨rfl,q1,q2⟩;have Q1:=i7 q1;have Q2:=i7 q2;clear q1 q2))
      all_goals first
        |(rw[HP.o]
          refine⟨_,rfl,?_,?_⟩
          ·rw[(Q1.o).2];exact(Q1.o).1.widen fun b q=>by have h1:=u.o b q;have h2:=B.o.2.1;omega
          ·refine(B.o.1.comp HT.o (T:=fun _=>False) fun i hi q=>q.elim id fun q=>by have h2:=B.o.2.1;omega).comp (Q2.o) fun i hi q=>q.elim id fun q=>by have h1:=u.o i q;have h2:=B.o.2.1;omega)
        |(go_roundg ((leftOf c (seen.push e.born)).size)
          case measure=>exact HL.o
          case rel=>
            have aH:r≠f.heap.size:=by have:=Q.o;omega
            have az:∀b,(f.alloc (.cells #[.string s] 9)).heap.size<=b->r<b:=fun b y=>by
              have h1:=Q.o;have h2:(f.alloc (.cells #[.string s] 9)).heap.size=f.heap.size+1:=by simp
              omega
            have K:d7 v f E:=(d7.alloc v f _).tr S4.o.2;have aG:∀b,b<=r->b<f.heap.size->E.heap[b]?=f.heap[b]?:=fun b y hl=>K.block b hl fun q=>by have:=u.o b q;omega
            refine⟨seen.push e.born,t++[e],j,F2 v (f.alloc (.cells #[.string s] 9)),rfl,?_,fun b q=>q.elim (u.o b) fun q=>az b q,V3.o,(K.block r (Q.o) fun q=>by have:=u.o r q;omega).trans R3.o.1,LS _,?_,?_⟩
            ·rw[List.map_append,List.length_append,<-L.o];show Sl E _ 9 1 _ ((t.map fun e=>e.key)++[e.key]) (n+1);rw[au.o];exact S4.o.1
            ·exact(K.block l (i6 R3.o.2) fun q=>by have h1:=u.o l q;have h2:=av.o;omega).trans R3.o.2
            ·exact T3.o.comp K fun i hi q=>q.elim id fun q=>by have h1:=u.o i q;have h2:=aw.o;omega)
def fg(last a s:ByteArray):ByteArray:=if ei last s=true∧(a=emp∨ei s a=true)then s else a
def N9(last:ByteArray)(l:Nms):ByteArray:=l.foldl (fun a s=>fg last a s.1) emp
def nZ(names:List ByteArray)(j:Nat):ByteArray:=if j=0 then emp else names.getD (j-1) emp
def ir(names:List ByteArray)(l:Nms):Prop:=names.length<=64∧(∀x∈names,x≠emp)∧∀j,j<=names.length->N9 (nZ names j) l=names.getD j emp
def An(w:World)(names:List ByteArray)(g:Nat)(c a:Value)(wr:World):Prop:=∃j:Nat,j+g=names.length∧a=.string (nZ names j)∧Sl wr (fun b=>w.heap.size<=b) 9 1 c ((names.take j).map Value.string) j∧d7 (fun b=>w.heap.size<=b) w wr
def Ea(b:World)(last:ByteArray)(l:Nms)(g:Nat)(nv a:Value)(wr:World):Prop:=∃i:Nat,i+g=l.length∧a=.int .i64 i∧nv=.string (N9 last (l.take i))∧wr=b
theorem sM(last:ByteArray)(l:Nms)(x:ByteArray×Nat):N9 last (l++[x])=fg last (N9 last l) x.1:=by simp[N9]
theorem mD{w:World}{N:Nat->Nat}{r:Nat}{fv sv av pv:Value}{D:Dk}(h:B6 w N r fv sv av pv D)(ae:D.off=false)(hl:D.seen.length<=100000){names:List ByteArray}(hn:ir names D.seen)(X:D.names=names):
  CZ 166 #[pt r] w (J2 w D):=by
 obtain⟨Z,I⟩:=EX (J2 w D);have HZ:Hid (Z=J2 w D):=I;rw[<-I];obtain⟨n,J⟩:=EX D.seen.length;have a:Hid (n=D.seen.length∧n<=100000):=i7 ⟨J,by omega⟩;have C:Hid (ir names D.seen):=hn;have ah:Hid (D.names=names):=X;have O:Hid (Sl w (fun b=>N b=3) 242 2 sv (D4 D.seen) D.seen.length∧∀b,N b=3->b<w.heap.size):=⟨h.seen,fun b Y=>h.bnd b (by omega)⟩;have S:=g9 h.blk 6 _ rfl;rw[ae]at S;have F:=g9 h.blk 2 _ rfl;have hr:=i6 h.blk;obtain⟨sa,sc,rfl,-,-⟩:=h.seen.value;rw[<-J]at F;have HC:Hid (∀W,d7 (fun b=>w.heap.size<=b) w W->W.cell? ⟨r,2,none⟩=some (.slice sa n sc)∧r<W.heap.size):=i7 fun W t=>⟨m6 F t (by omega),LC hr t.size⟩
 have A:Hid (An w names names.length (.slice none 0 0) (.string ⟨#[]⟩) w):=⟨0,by omega,rfl,Sl.nil _ _ _ _,TQ⟩;obtain⟨P,H⟩:=EX names.length;have HM:Hid (P=names.length):=H;rw[<-H]at A;clear I h ae hl hn X J F H;go_enter func166,ntmps166;go_wp2;go_loopg[3,4] P (fun g lv al wr=>An w names g lv al wr)
 case atStart=>exact A.o
 case round=>
  clear A S;obtain⟨j,ad,rfl,K,M⟩:=hrel;obtain⟨la,lc,rfl,-,-⟩:=K.value;have u:Hid (j+gk=names.length):=ad;have l:Hid (d7 (fun b=>w.heap.size<=b) w wr):=M;have E:Hid (Sl wr (fun b=>w.heap.size<=b) 9 1 (.slice la j lc) ((names.take j).map Value.string) j):=K;obtain⟨k2,kr⟩:=HC.o wr M;have ai:Hid (N9 (nZ names j) D.seen=names.getD j emp):=i7 (C.o.2.2 j (by have:=u.o;omega));generalize nZ names j=last at *;clear ad K M hr;generalize aj:gk=Gk at *;clear aj;obtain⟨wi,ag⟩:=EX wr;rw[<-ag]at l E k2 kr ⊢;clear ag;go_wp2;go_loopg[5,6] n (fun g nv iv wr=>Ea wi last D.seen g nv iv wr)
  case atStart=>exact⟨0,by have:=a.o;omega,rfl,rfl,rfl⟩
  case round=>
   obtain⟨i,ac,rfl,rfl,rfl⟩:=hrel;have f:Hid (i+gk=D.seen.length):=ac;clear ac;by_cases p:i<n
   ·obtain⟨x,hx⟩:∃x,D.seen[i]?=some x:=⟨_,LB (by have:=a.o.1;omega)⟩;obtain⟨g,off,am,hv,ab,-,-,hcell,-,aa⟩:=O.o.1.opens (by have:=a.o.1;omega);simp only[Value.slice.injEq]at hv;obtain⟨rfl,-,rfl⟩:=hv;have ak:=O.o.2 g ab;have c0:wr.cell? ⟨g,off+i*2,none⟩=some (.string x.1):=m6 (by rw[hcell _ (by have:=a.o.1;omega),Nat.mul_comm];exact(ncellsR_get hx).1) l.o (by omega);have an:g<wr.heap.size:=LC aa l.o.size;have e3:decide ((i:Int)<(n:Int))=true:=LX (by omega);have e4:decide (i<n)=true:=LX p;have s:Hid (wrap64 ((i:Int)+1)=((i+1:Nat):Int)):=i7 (by have:=a.o.2;simp[wrap64];omega);have c:Hid (N9 last (D.seen.take (i+1))=fg last (N9 last (D.seen.take i)) x.1∧i<n):=i7 ⟨by rw[List.take_add_one,hx];exact sM _ _ _,p⟩;obtain⟨xs,xf⟩:=x;dsimp only at c0 c;generalize N9 last (D.seen.take i)=d at *;clear hx hcell ab aa ak;rcases iq last xs with⟨-,h1,h4,k⟩|⟨-,rfl,h1,-⟩|⟨-,h4,h1,k⟩
    ·have V:Op.bytesLess xs.toList last.toList=false:=h4;have h6:(xs.toList==last.toList)=false:=eA fun z=>k z.symm
     by_cases h2:d=emp
     ·have U:(d.toList==(⟨#[]⟩:ByteArray).toList)=true:=iM h2;have G:(d.toList==[])=true:=by rw[h2,ByteArray.toList_eq];rfl
      have e:Hid (fg last d xs=xs):=i7 (if_pos ⟨h1,.inl h2⟩);clear h2 k h1 h4;go_wp2;go_roundg (gk-1)
      case measure=>have:=f.o;have:=c.o;have:=a.o;omega
      case rel=>exact⟨i+1,by have:=f.o;have:=c.o;have:=a.o;omega,by rw[s.o],by rw[c.o.1,e.o],rfl⟩
     ·have U:(d.toList==(⟨#[]⟩:ByteArray).toList)=false:=eA h2;have G:(d.toList==[])=false:=by have:=eA h2;rw[show emp.toList=[]by rw[ByteArray.toList_eq];rfl]at this;exact this
      cases h3:Op.bytesLess xs.toList d.toList with
      |true=>
       have e:Hid (fg last d xs=xs):=i7 (if_pos ⟨h1,.inr h3⟩);clear h2 k h1 h4;go_wp2;go_roundg (gk-1)
       case measure=>have:=f.o;have:=c.o;have:=a.o;omega
       case rel=>exact⟨i+1,by have:=f.o;have:=c.o;have:=a.o;omega,by rw[s.o],by rw[c.o.1,e.o],rfl⟩
      |false=>
       have e:Hid (fg last d xs=d):=i7 (if_neg fun z=>by
        rcases z.2 with q|q
        ·exact h2 q
        ·unfold ei at q;rw[h3]at q;exact absurd q (by decide))
       clear h2 k h1 h4;go_wp2;go_roundg (gk-1)
       case measure=>have:=f.o;have:=c.o;have:=a.o;omega
       case rel=>exact⟨i+1,by have:=f.o;have:=c.o;have:=a.o;omega,by rw[s.o],by rw[c.o.1,e.o],rfl⟩
    ·have V:Op.bytesLess last.toList last.toList=false:=h1;have h6:(last.toList==last.toList)=true:=iM rfl;have e:Hid (fg last d last=d):=i7 (if_neg fun z=>by have:=z.1;rw[h1]at this;exact absurd this (by decide));clear h1;go_wp2;go_roundg (gk-1)
     case measure=>have:=f.o;have:=c.o;have:=a.o;omega
     case rel=>exact⟨i+1,by have:=f.o;have:=c.o;have:=a.o;omega,by rw[s.o],by rw[c.o.1,e.o],rfl⟩
    ·have V:Op.bytesLess xs.toList last.toList=true:=h4;have e:Hid (fg last d xs=d):=i7 (if_neg fun z=>by have:=z.1;rw[h1]at this;exact absurd this (by decide));clear h1 h4 k;go_wp2;go_roundg (gk-1)
     case measure=>have:=f.o;have:=c.o;have:=a.o;omega
     case rel=>exact⟨i+1,by have:=f.o;have:=c.o;have:=a.o;omega,by rw[s.o],by rw[c.o.1,e.o],rfl⟩
   ·have e3:decide ((i:Int)<(n:Int))=false:=LD (by omega);have e4:decide (i<n)=false:=LD p;have e:Hid (D.seen.take i=D.seen):=i7 (LQ (by have:=a.o;omega));rw[e.o,ai.o];clear p;by_cases y:j<names.length
    ·obtain⟨x,hx⟩:∃x,names[j]?=some x:=⟨_,LB y⟩;have m:names.getD j emp=x:=by rw[List.getD_eq_getElem?_getD,hx];rfl
     have k:=C.o.2.1 x (LI hx);have U:(x.toList==(⟨#[]⟩:ByteArray).toList)=false:=eA k;have G:(x.toList==[])=false:=by have:=eA k;rw[show emp.toList=[]by rw[ByteArray.toList_eq];rfl]at this;exact this
     have v:Hid (names.take (j+1)=names.take j++[x]∧nZ names (j+1)=x∧j<names.length):=i7 ⟨by rw[List.take_add_one,hx];rfl,by unfold nZ;rw[if_neg (by omega),Nat.add_sub_cancel,m],y⟩;have m1:Hid (j+1<=maxLen∧(j+1)*16<=140737488355328):=i7 (by have:=C.o.1;simp only[maxLen];omega);rw[m];clear m hx k y;go_wp2_with(at_builtin;refine m7 rfl _ _ 84 84 rfl (E.o.turned (T:=fun _=>False) (d7.alloc (fun _=>False) wr (.cells #[.string x] 9)) (fun _ _ q=>q)) underlying84 infoS9 rfl (by decide) rfl (.slice (some ⟨wr.heap.size,0,none⟩) 1 1) rfl (G5 9 underlying84 [.string x] (by simp[Value.oneCell']) wr) m1.o.1 m1.o.2 ?_;intro v5 w5 L af;obtain⟨a5,c5,rfl,-,-⟩:=L.value;have R:=i7 (And.intro L af);clear L af);go_roundg (Gk-1)
     case measure=>have:=u.o;have:=v.o;omega
     case rel=>
      have Q:TF wr (wr.alloc (.cells #[.string x] 9)):=TA;refine⟨j+1,by have:=u.o;have:=v.o;omega,by rw[v.o.2.1],?_,l.o.tr (Q.comp R.o.2 fun i p z=>z.elim False.elim id)⟩;rw[v.o.1,List.map_append];refine R.o.1.widen fun b Y=>?_
      have h1:=l.o.size;have h2:=Q.size;rcases Y with z|z
      ·exact z
      ·omega
    ·have m:names.getD j emp=emp:=by rw[List.getD_eq_getElem?_getD,List.getElem?_eq_none (by omega)];rfl
     have B:Hid (names.take j=names∧j=names.length):=i7 ⟨LQ (by omega),by have:=u.o;omega⟩;have G:((⟨#[]⟩:ByteArray).toList==[])=true:=by rw[ByteArray.toList_eq];rfl
     rw[m];unfold emp;clear m y;go_wp2;rw[HZ.o];refine⟨_,rfl,?_,l.o.mono fun i p z=>by omega⟩;rw[ah.o];have:=E.o;rw[B.o.1,B.o.2]at this;rw[B.o.2];exact this
def pL(W:World)(D:Dk)(name:ByteArray)(e:Ending)(w':World):Prop:=e=.returned (.tuple #[.string (D.read name).1,.int .i64 ((D.read name).2:Nat)])∧TF W w'
theorem yw{w:World}{r d q p v a y:Nat}{D:Dk}(hr:w.heap[r]?=some (.cells #[pt d,pt q,pt p,pt v,pt a,pt y] 39))(ag:∀W,TF w W->CZ 36 #[pt d] W (J2 W D))(ad:∀W,TF w W->CZ 166 #[pt v] W (J2 W D))
  (ah:∀W,TF w W->CZ 53 #[pt d] W (RT (.bool false) W)) (hv:∀W,TF w W->W.cell? ⟨v,6,none⟩=some (.bool false)∧v<W.heap.size)
  (af:∀W name,TF w W->CZ 27 #[pt d,.string name] W (pL W D name)) (ae:∀W name,TF w W->CZ 182 #[pt v,.string name] W (pL W D name)) (hl:D.names.length<=64):
  CZ 105 #[pt r] w (RT (.bool true) w):=by
 obtain⟨S,Y⟩:∃S:Ending->World->Prop,S=(RT (.bool true) w):=⟨_,rfl⟩;have HZ:Hid (S=(RT (.bool true) w)):=Y;rw[<-Y];obtain⟨n,u⟩:=EX D.names.length;have HN:Hid (n=D.names.length∧n<=64):=i7 ⟨u,by omega⟩;have j:Hid (∀W,TF w W->(W.cell? ⟨r,0,none⟩=some (pt d)∧W.cell? ⟨r,3,none⟩=some (pt v)∧W.cell? ⟨v,6,none⟩=some (.bool false))∧r<W.heap.size∧v<W.heap.size):=i7 fun W t=>by have h:=j9 hr t id;exact⟨⟨g9 h 0 _ rfl,g9 h 3 _ rfl,(hv W t).1⟩,i6 h,(hv W t).2⟩
 have an:Hid (∀W,TF w W->CZ 36 #[pt d] W fun e w'=>∃c f,e=.returned (.slice c n f)∧Sl w' (fun b=>W.heap.size<=b) 9 1 (.slice c n f) (D.names.map Value.string) n∧TF W w'):=i7 fun W t=>(ag W t).mono fun e w'⟨v,x1,s,x3⟩=>by rw[<-u]at s;obtain⟨c,f,rfl,-,-⟩:=s.value;exact⟨c,f,x1,s,x3⟩
 have ak:Hid (∀W,TF w W->CZ 166 #[pt v] W fun e w'=>∃c f,e=.returned (.slice c n f)∧Sl w' (fun b=>W.heap.size<=b) 9 1 (.slice c n f) (D.names.map Value.string) n∧TF W w'):=i7 fun W t=>(ad W t).mono fun e w'⟨v,x1,s,x3⟩=>by rw[<-u]at s;obtain⟨c,f,rfl,-,-⟩:=s.value;exact⟨c,f,x1,s,x3⟩
 have ao:Hid (∀(W:World)(S1 S2:Nat->Prop)T V U X,Sl W S1 9 1 (.slice T n V) (D.names.map Value.string) n->Sl W S2 9 1 (.slice U n X) (D.names.map Value.string) n->CZ 37 #[.slice T n V,.slice U n X] W (RT (.bool true) W)):=i7 fun W S1 S2 T V U X k1 k2=>by rw[u]at k1 k2;have:=gW k1 k2 ⟨by omega,by omega⟩;rw[<-u,show decide (D.names=D.names)=true by simp]at this;exact this
 have ap:=i7 ah;have am:=i7 af;have al:=i7 ae;obtain⟨⟨K,r3,r6⟩,B,vl⟩:=j.o w TQ;clear Y hr ag ad ah hv af ae hl u;go_enter func105,ntmps105;go_upto_region 2 with(go_fit(ak.o w TQ);rintro e k⟨c,f,rfl,A,t1⟩;have N1:Hid (Sl k (fun b=>w.heap.size<=b) 9 1 (.slice c n f) (D.names.map Value.string) n):=i7 A;have G:Hid (TF w k):=i7 t1;clear A t1 K r3 r6 B vl)
 obtain⟨-,B,vl⟩:=j.o k G.o;have Ka:=i7 (j.o k.drew G.o.draw).1
 go_region_held3 (fun W=>W.cell? ⟨r,0,none⟩=some (pt d)∧W.cell? ⟨r,3,none⟩=some (pt v)∧W.cell? ⟨v,6,none⟩=some (.bool false))
  (first|(with_reducible exact Ka.o)|(with_reducible exact Kb.o)|(with_reducible exact Kc.o)|(with_reducible exact Kd.o)|go_keep)
  (first
   |(go_fit(ap.o k.drew G.o.draw);rintro e w2⟨rfl,I⟩;have H:TF w w2:=G.o.draw.tr I;have Kb:=i7 (j.o w2 H).1;have ab:TF k w2:=TD.tr I;clear I)
   |(go_fit(an.o w2 H);rintro e M⟨nb,nd,rfl,aj,J⟩;have N3:=i7 aj;have Q:TF w M:=H.tr J;have Kc:=i7 (j.o M Q).1;have P:TF k M:=ab.tr J;clear aj J)
   |(go_fit(ao.o M _ _ _ _ _ _ N3.o (N1.o.turned P fun _ _ z=>z));rintro e m⟨rfl,q4⟩;have R:TF w m:=Q.tr q4;have ac:TF k m:=P.tr q4;have Kd:=i7 (j.o m R).1;clear q4)
   |fail)
 have N4:Hid (Sl m (fun b=>w.heap.size<=b) 9 1 (.slice c n f) (D.names.map Value.string) n∧TF w m):=i7 ⟨N1.o.turned ac fun _ _ z=>z,R⟩;clear H Q R ab P ac B vl;go_wp2;go_loopg[40] n (fun g iv wr=>∃i:Nat,i+g=n∧iv=.int .i64 i∧TF m wr)
 case atStart=>exact⟨0,by omega,rfl,TQ⟩
 case round=>
  obtain⟨i,Z,rfl,E⟩:=hrel;have GI:Hid (i+gk=n):=Z;have l:Hid (TF m wr∧TF w wr):=i7 ⟨E,N4.o.2.tr E⟩;obtain⟨⟨K,r3,-⟩,B,-⟩:=j.o wr l.o.2;by_cases F:i<n
  ·have e1:decide ((i:Int)<(n:Int))=true:=LX (by omega);have e2:decide (i<n)=true:=LX F;obtain⟨x,hx⟩:∃x,D.names[i]?=some x:=⟨_,LB (by rw[<-HN.o.1];exact F)⟩;obtain⟨bn,on,cn,e,-,-,-,ai,-,aq⟩:=(N4.o.1.turned E fun _ _ z=>z).opens (by omega);simp only[Value.slice.injEq]at e;obtain⟨rfl,-,rfl⟩:=e;have cx:wr.cell? ⟨bn,on+i,none⟩=some (.string x):=by rw[ai i (by omega),List.getElem?_map,hx];rfl
   have O:Hid (i<n):=F;obtain⟨s1,A⟩:=EX ((D.read x).1);obtain⟨k1,aa⟩:=EX ((D.read x).2);have C:=am.o wr x l.o.2;have hB:Hid (∀W,TF wr W->CZ 182 #[pt v,.string x] W (RT (.tuple #[.string s1,.int .i64 (k1:Nat)]) W)):=i7 fun W t=>by have:=al.o W x (l.o.2.tr t);unfold pL at this;rw[<-A,<-aa]at this;exact this
   unfold pL at C;rw[<-A,<-aa]at C;replace C:=i7 C;have q1:(s1.toList==s1.toList)=true:=by simp
   have I:((k1:Int)==(k1:Int))=true:=by simp
   have J:((k1:Int) !=(k1:Int))=false:=by simp
   clear Z E hx ai A aa
   go_wp2_with(first
    |(go_fit C.o;rintro e N⟨rfl,L⟩;have u3:=(j.o N (l.o.2.tr L)).1.2.1;have u4:=(j.o N (l.o.2.tr L)).2.1;have T5:Hid (TF wr N):=i7 L;clear L K r3 B)
    |(go_fit(hB.o N T5.o);rintro e w6⟨rfl,t6⟩;have T6:Hid (TF wr w6):=i7 (T5.o.tr t6);clear t6))
   go_roundg (gk-1)
   case measure=>have:=GI.o;have:=O.o;omega
   case rel=>exact⟨i+1,by have:=GI.o;have:=O.o;omega,by have:=O.o;have:=HN.o;simp[wrap64];omega,l.o.1.tr T6.o⟩
  ·have e1:decide ((i:Int)<(n:Int))=false:=LD (by omega);have e2:decide (i<n)=false:=LD F;clear Z E F K r3 B;go_wp2;rw[HZ.o];exact⟨rfl,l.o.2⟩
end Go.Proofs.YtofcogekgcgjhaaGreatDoor

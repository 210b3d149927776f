/- Packed. -/
import Derived.Test.YtofcogekgcgjhaaGreatDoorZzar
set_option maxRecDepth 100000
set_option maxHeartbeats 8000000
namespace Go.Proofs.YtofcogekgcgjhaaGreatDoor
open Go.RowKit Go.Mine Go.Mine.Ac Go.Proofs.Tryz
theorem info240:(prog.info? 240).map (fun i=>(i.zero,i.size,i.bytes))=some (some (.agg #[.string ⟨#[]⟩,.string ⟨#[]⟩,.int .i64 0]),3,40):=by kernel_rfl
def B7(w:World)(rl:Nat->Nat)(r:Nat)(D':Dk)(w':World):Prop:=∃a d f c e,B6 w' a r d f c e D'∧(∀b,a b≠0->rl b≠0∨w.heap.size<=b)∧d7 (fun b=>rl b≠0) w w'
section
variable {w w':World} {rl:Nat->Nat} {r:Nat} {fv sv av pv:Value} {D D':Dk}
theorem B7.after{c:World}(h:B7 c rl r D' w')(a:d7 (fun b=>rl b≠0) w c):B7 w rl r D' w':=by obtain⟨i,e,j,d,g,h1,h2,h3⟩:=h;exact⟨i,e,j,d,g,h1,fun b f=>(h2 b f).elim .inl fun q=>.inr (LR a.size q),a.tr h3⟩
theorem B7.draw(h:B7 w rl r D' w'):B7 w rl r D' w'.drew:=by obtain⟨d,b,e,a,c,h1,h2,h3⟩:=h;exact⟨d,b,e,a,c,h1.turned (d7.drew (fun _=>False) _) fun _ _ q=>q,h2,h3.draw⟩
theorem B6.post(h:B6 w' rl r fv sv av pv D')(c:d7 (fun b=>rl b≠0) w w'):B7 w rl r D' w':=⟨rl,fv,sv,av,pv,h,fun b a=>.inl a,c⟩
theorem B7.from {W:World} {d:Nat->Nat} (h:B7 W d r D' w') (a:∀b,d b≠0->rl b≠0∨w.heap.size<=b) (c:d7 (fun b=>rl b≠0) w W):B7 w rl r D' w':=by obtain⟨r2,f,k,e,j,h1,h2,h3⟩:=h;refine⟨r2,f,k,e,j,h1,fun b g=>(h2 b g).elim (a b) fun q=>.inr (LR c.size q),c.comp h3 fun i l q=>q.elim id fun q=>(a i q).elim id fun q=>by omega⟩
theorem B6.keepR(h:B6 w rl r fv sv av pv D)(w':World)(k:Nat):∀b,rl b≠0->dC rl w w' k b=rl b:=fun b a=>Y1 (h.bnd b a)
theorem B6.setSeen{w2:World}{l:Nms}{c:Value}(h:B6 w rl r fv sv av pv D)(e:TF w w2)(j:Sl w2 (fun b=>w.heap.size<=b) 242 2 c (D4 l) l.length):
  B6 (w2.setCell ⟨r,2,none⟩ c) (dC rl w w2 3) r fv c av pv {D with seen:=l}∧d7 (· =r) w (w2.setCell ⟨r,2,none⟩ c):=by
 have f:d7 (· =r) w2 (w2.setCell ⟨r,2,none⟩ c):=d7.setCell (S:=(· =r)) (p:=⟨r,2,none⟩) rfl _;have T:d7 (· =r) w (w2.setCell ⟨r,2,none⟩ c):=e.comp f fun i _ q=>q.elim False.elim id
 have K:=h.keepR w2 3;have r1:=h.r1;have d:∀b,rl b≠0->rl b≠1->¬b=r:=fun b _ a q=>a (q▸r1)
 have g:=h.bnd r (by rw[r1];decide);refine⟨⟨(K _ (by omega)).trans r1,?_,?_,?_,?_,?_,fun b a=>by rw[n8];exact dl a e.size⟩,T⟩
 ·have a:w2.heap[r]?=_:=(e.block r g id).trans h.blk;have:=j8 a (o:=2) c;simpa[X8]using this
 ·exact(h.files.turned T fun b a=>d b (by omega) (by omega)).widen fun b a=>(K b (by omega)).trans a
 ·exact E7 (j.turned f fun b a q=>by omega) fun b a q=>dk q (by rw[n8]at a;exact a)
 ·exact(h.safe.turned T fun b a=>d b (by omega) (by omega)).widen fun b a=>(K b (by omega)).trans a
 ·exact(h.pend.turned T fun b a=>d b (by omega) (by omega)).widen fun b a=>(K b (by omega)).trans a
theorem B6.addPend{d:World}{c:fC}{e:Value}{o:Obj}(h:B6 w rl r fv sv av pv D)(h3:d7 (fun b=>rl b=5) (w.alloc o).drew d)
  (m:Sl d (F2 (fun b=>rl b=5) (w.alloc o).drew) 240 3 e (cS D.pend++[.string c.gone,.string c.come,.int .i64 c.file]) (D.pend.length+1)):
  B7 w rl r {D with pend:=D.pend++[c]} (d.setCell ⟨r,4,none⟩ e):=by
 have r1:=h.r1;have f:d7 (fun b=>rl b=5) w d:=((d7.alloc (fun b=>rl b=5) w o).draw).tr h3;have j:d7 (· =r) d (d.setCell ⟨r,4,none⟩ e):=d7.setCell (S:=(· =r)) (p:=⟨r,4,none⟩) rfl _;have T:d7 (fun b=>b=r∨rl b=5) w (d.setCell ⟨r,4,none⟩ e):=f.comp j fun i _ q=>q.elim .inr .inl
 have K:=h.keepR d 5;have l:=h.bnd r (by rw[r1];decide);have g:∀b,rl b≠0->rl b≠1->rl b≠5->¬(b=r∨rl b=5):=fun b _ h1 k q=>q.elim (fun q=>h1 (q▸r1)) k
 have n:(w.alloc o).drew.heap.size=w.heap.size+1:=by show(w.alloc o).heap.size=_;simp
 refine⟨dC rl w d 5,fv,sv,av,e,⟨(K _ (by omega)).trans r1,?_,?_,?_,?_,?_,fun b a=>by rw[n8];exact dl a f.size⟩,fun b a=>eQ a,T.mono fun i _ q=>q.elim (fun q=>by rw[q,r1];decide) fun q=>by omega⟩
 ·have a:d.heap[r]?=_:=(f.block r l (by rw[r1];decide)).trans h.blk;have:=j8 a (o:=4) e;simpa[X8]using this
 ·exact(h.files.turned T fun b a=>g b (by omega) (by omega) (by omega)).widen fun b a=>(K b (by omega)).trans a
 ·exact(h.seen.turned T fun b a=>g b (by omega) (by omega) (by omega)).widen fun b a=>(K b (by omega)).trans a
 ·exact(h.safe.turned T fun b a=>g b (by omega) (by omega) (by omega)).widen fun b a=>(K b (by omega)).trans a
 ·show Sl _ _ 240 3 e (cS (D.pend++[c])) (D.pend++[c]).length;rw[qY,List.length_append];have:cS [c]=[.string c.gone,.string c.come,.int .i64 c.file]:=rfl;rw[this];refine E7 (m.turned j fun b a q=>?_) fun b a q=>?_
  ·rcases a with a|a
   ·rw[q,r1]at a;omega
   ·omega
  ·rcases q with q|q
   ·exact(Y1 (h.bnd b (by omega))).trans q
   ·exact dk (by omega) (by rw[n8]at a;exact a)
end
theorem kh{w:World}{rl:Nat->Nat}{r:Nat}{fv sv av pv:Value}{D:Dk}(h:B6 w rl r fv sv av pv D)(c:fC)(hl:D.seen.length<=100000)(hp:D.pend.length<=1000000000):
  CZ 170 #[pt r,.agg #[.string c.gone,.string c.come,.int .i64 c.file]] w fun e w'=>e=.returned (.tuple #[])∧B7 w rl r (D.change c) w':=by
 obtain⟨k,F⟩:=EX c.gone;obtain⟨g,C⟩:=EX c.come;obtain⟨j,E⟩:=EX c.file;have x:Hid (k=c.gone∧g=c.come∧j=c.file):=⟨F,C,E⟩;have ap:=h.bnd r (by rw[h.r1];decide);obtain⟨a,I⟩:=EX (w.alloc (.cells #[.string c.gone,.string c.come,.int .i64 c.file] 240));have O:TF w a:=by rw[I];exact TA
 have A:a.heap[w.heap.size]?=some (.cells #[.string c.gone,.string c.come,.int .i64 c.file] 240):=by rw[I];exact i8 _ _
 have h1:B6 a rl r fv sv av pv D:=h.turned O fun _ _ q=>q
 obtain⟨B,M⟩:=EX w.heap.size;have ac:rl B=0:=by
  by_cases q:rl B=0
  ·exact q
  ·have:=h.bnd B q;omega
 rw[<-M]at A;have X:Hid (∀W,TF a W->CZ 165 #[sv,.agg #[.string k,.string g,.int .i64 j]] W fun e w'=>∃l n2 m,e=.returned (.slice l n2 m)∧B6 (w'.setCell ⟨r,2,none⟩ (.slice l n2 m)) (dC rl W w' 3) r fv (.slice l n2 m) av pv {D with seen:=changed D.seen c}∧d7 (· =r) W (w'.setCell ⟨r,2,none⟩ (.slice l n2 m))∧(w'.cell? ⟨B,0,none⟩=some (.string k)∧w'.cell? ⟨B,1,none⟩=some (.string g)∧w'.cell? ⟨B,2,none⟩=some (.int .i64 j)∧w'.cell? ⟨r,2,none⟩=some sv∧w'.frozen? ⟨r,2,none⟩=false)):=i7 fun W z=>by
  have G:=h1.turned z fun _ _ q=>q
  have:=iN c W G.seen hl;rw[F,C,E];refine this.mono ?_;rintro e w'⟨v,rfl,J,y⟩;obtain⟨l,m,hv,-,-⟩:=J.value;subst hv;obtain⟨k1,k2⟩:=G.setSeen y J;have t:=j9 (j9 A z id) y id;have ab:=j9 G.blk y id;exact⟨l,_,m,rfl,k1,k2,g9 t 0 _ rfl,g9 t 1 _ rfl,g9 t 2 _ rfl,g9 ab 2 _ rfl,j7 ab 2⟩
 have KS:Hid (∀W,TF a W->W.cell? ⟨B,0,none⟩=some (.string k)∧W.cell? ⟨B,1,none⟩=some (.string g)∧W.cell? ⟨B,2,none⟩=some (.int .i64 j)∧W.cell? ⟨r,2,none⟩=some sv):=i7 fun W z=>by have t:=j9 A z id;rw[F,C,E];exact⟨g9 t 0 _ rfl,g9 t 1 _ rfl,g9 t 2 _ rfl,g9 (j9 h1.blk z id) 2 _ rfl⟩
 have f:Hid (TF w a∧rl r=1∧rl B=0∧D.pend.length<=1000000000∧a.heap[B]?=some (.cells #[.string c.gone,.string c.come,.int .i64 c.file] 240)∧B=w.heap.size):=⟨O,h.r1,ac,hp,A,M⟩;have V0:TF a a.drew:=TD;rw[<-F,<-C,<-E]at I ⊢;have al:=I.symm;have am:w.heap.size=B:=M.symm;clear F C E A O h h1 ac M I hl hp;go_enter func170,ntmps170;go_wp2;clear al am;obtain⟨x0,x1,x2,x3⟩:=KS.o a TQ;have K:r<a.heap.size:=by have:=n7 x3;exact this
 go_region_law (first|(go_simp;go_fit(X.o _ V0);rintro e w2⟨l,n2,m,rfl,J,y,q3,q4,q5,q6,q7⟩;have Q1:=i7 J;have Q2:Hid (d7 (· =r) _ _):=y;clear J y))
 all_goals go_wp2
 all_goals
  generalize w2.setCell ⟨r,2,none⟩ (.slice l n2 m)=p at *;obtain⟨K,T⟩:=EX (dC rl a.drew w2 3);have s:=Q1.o;have N:=Q2.o;rw[<-T]at s;have Z:Hid (K=dC rl a.drew w2 3):=T;have y4:=g9 s.blk 4 _ rfl;have g4:=j7 s.blk 4;have an:=i6 s.blk;obtain⟨P,Q,aa,-,-⟩:=s.pend.value;have ai:B≠r:=fun q=>by have h1:=f.o.2.1;have h2:=f.o.2.2.1;rw[q,h1]at h2;omega
  have u:=(N.block B (by have:=i6 f.o.2.2.2.2.1;exact this) ai).trans f.o.2.2.2.2.1;rw[<-x.o.1,<-x.o.2.1,<-x.o.2.2]at u;have z0:=g9 u 0 _ rfl;have z1:=g9 u 1 _ rfl;have z2:=g9 u 2 _ rfl;have zl:=i6 u;have L:=i7 s;have ae:=i7 N;obtain⟨n,H⟩:=EX D.pend.length;have ad:Hid (n=D.pend.length):=H;have aj:pv=.slice P n Q:=by rw[H];exact aa
  subst aj;have af:Hid (Sl ((p.alloc (.cells #[.string k,.string g,.int .i64 j] 240)).drew) (fun b=>K b=5) 240 3 (.slice P n Q) (cS D.pend) n):=i7 (by have:=L.o.pend;rw[H];rw[H]at this;exact(this.turned (d7.alloc (fun _=>False) _ _) fun _ _ q=>q).drew);have ag:Hid (Src prog 3 198 (.slice (some ⟨p.heap.size,0,none⟩) 1 1) 1 [.string k,.string g,.int .i64 j] ((p.alloc (.cells #[.string k,.string g,.int .i64 j] 240)).drew)):=i7 (ew 240 underlying198 [.string k,.string g,.int .i64 j] (by simp[Value.oneCell']) p);have m1:Hid (n+1<=maxLen∧(n+1)*40<=140737488355328):=i7 (by have:=f.o.2.2.2.1;exact⟨by simp only[maxLen];omega,by omega⟩);have K3:Hid (∀d,d7 (fun b=>K b=5) (p.alloc (.cells #[.string k,.string g,.int .i64 j] 240)).drew d->d.cell? ⟨r,4,none⟩=some (.slice P n Q)∧d.frozen? ⟨r,4,none⟩=false∧r<d.heap.size∧d.cell? ⟨B,0,none⟩=some (.string k)∧d.cell? ⟨B,1,none⟩=some (.string g)∧d.cell? ⟨B,2,none⟩=some (.int .i64 j)):=i7 fun d ht=>by
   have R:d.heap[r]?=_:=(ht.block r (by show r<(p.alloc _).heap.size;simp;omega) (by rw[L.o.r1];decide)).trans ((G8 _ an).trans L.o.blk);have ah:K B≠5:=by have e:dC rl a.drew w2 3 B=rl B:=Y1 (show B<a.drew.heap.size from i6 f.o.2.2.2.2.1);rw[Z.o,e,f.o.2.2.1];decide
   have S:d.heap[B]?=_:=(ht.block B (by show B<(p.alloc _).heap.size;simp;omega) ah).trans ((G8 _ zl).trans u);exact⟨g9 R 4 _ rfl,j7 R 4,i6 R,g9 S 0 _ rfl,g9 S 1 _ rfl,g9 S 2 _ rfl⟩
  clear Q1 Q2 s N T aa u H X KS V0 x0 x1 x2 x3 q3 q4 q5 q6 q7;go_region_law ((refine o5 (by rfl) _ _ 198 198 (by rfl) af.o underlying198 info240 rfl (by decide) (by rfl) (.slice (some ⟨p.heap.size,0,none⟩) 1 1) (by rfl) ag.o m1.o.1 m1.o.2 ?_;intro v' d U V;obtain⟨a3,ao,ak,-,-⟩:=U.value;subst ak;obtain⟨j0,j1,j2,j3,j4,j5⟩:=K3.o d V;have Y:Hid (Sl d _ 240 3 _ _ (n+1)∧d7 _ _ d):=⟨U,V⟩;clear U V))
 all_goals go_wp2
 all_goals go_end0
 all_goals
  refine⟨rfl,?_⟩;have G:=B6.addPend (c:=c) L.o Y.o.2 (by rw[<-x.o.1,<-x.o.2.1,<-x.o.2.2,<-ad.o];exact Y.o.1);refine B7.from (D':=D.change c) G (fun b hb=>?_) ((f.o.1.draw).comp ae.o fun i _ q=>q.elim False.elim fun q=>by rw[q,f.o.2.1];decide)
  rw[Z.o]at hb;exact(eQ hb).elim .inl fun q=>.inr (LR f.o.1.size q)
end Go.Proofs.YtofcogekgcgjhaaGreatDoor
namespace Go.Proofs.YtofcogekgcgjhaaGreatDoor
open Go.RowKit Go.Mine Go.Mine.Ac Go.Proofs.Tryz
theorem ki{D:Dk}(a:D.Ok):D.seen.length<=100000:=LR a.seenOk.many (by decide)
theorem B6.mine{w w':World}{rl:Nat->Nat}{r:Nat}{fv sv av pv:Value}{D:Dk}(h:B6 w rl r fv sv av pv D)(a:d7 (· =r) w w'):d7 (fun b=>rl b≠0) w w':=a.mono fun i _ q=>by rw[q,h.r1];decide
theorem eB{w:World}{rl:Nat->Nat}{r:Nat}{fv sv av pv:Value}{D:Dk}(h:B6 w rl r fv sv av pv D)(g:D.Ok):
  (D.falls=1->∀W,TF w W->CZ 169 #[pt r] W fun e w'=>e=.returned (.int .i64 8)∧B7 w rl r {D with falls:=0,off:=true} w')∧
  (D.falls≠1->∀W,TF w W->CZ 169 #[pt r] W fun e w'=>e=.returned (.int .i64 0)∧B6 w' rl r fv sv av pv {D with falls:=D.falls-1}∧d7 (fun b=>rl b≠0) w w'):=by
 constructor
 ·intro h1 W d;have h2:=h.turned d fun _ _ q=>q
  rcases D.step_cases with⟨q,-⟩|⟨-,q⟩
  ·exact absurd h1 q
  ·refine(nK h2 g.fall).mono fun e w'⟨a,c,f⟩=>?_
   rw[q]at a c;exact⟨a,c.post ((d.mono fun _ _ q=>q.elim).tr (h2.mine f))⟩
 ·intro h1 W d;have h2:=h.turned d fun _ _ q=>q
  rcases D.step_cases with⟨-,q⟩|⟨q,-⟩
  ·refine(nK h2 g.fall).mono fun e w'⟨a,c,f⟩=>?_
   rw[q]at a c;exact⟨a,c,(d.mono fun _ _ q=>q.elim).tr (h2.mine f)⟩
  ·exact absurd q h1
theorem rH{w:World}{rl:Nat->Nat}{r:Nat}{fv sv av pv:Value}{D:Dk}(h:B6 w rl r fv sv av pv D)(i:D.Ok)(x:D.pend.length<=1000000000)(a b:ByteArray):
  CZ 281 #[pt r,.string a,.string b] w fun e w'=>e=.returned (.int .i64 ((D.rename a b).2:Nat))∧B7 w rl r (D.rename a b).1 w':=by
 have f:=gD h (ki i) a;have B:Hid (∀w',TF w w'->B7 w rl r D w'):=i7 fun w' n=>(h.turned n fun _ _ q=>q).post (n.mono fun _ _ q=>q.elim)
 cases c:D.file a with
 |error k=>
  have E:Hid (k≠0):=U7 c;have m:Hid (D.rename a b=(D,k)):=i7 (by simp[Dk.rename,c]);have M:((k:Int) !=0)=true:=by have:=E.o;simp;omega
  rw[c]at f;replace f:CZ 167 #[pt r,.string a] w (RT (.tuple #[.int .i64 0,.int .i64 k]) w):=f;rw[m.o];clear h c i;go_enter func281,ntmps281;go_wp2_with(go_fit f;rintro e w2⟨rfl,q⟩;replace q:=i7 q);go_ret;exact⟨rfl,B.o _ q.o⟩
 |ok k=>
  rw[c]at f;replace f:CZ 167 #[pt r,.string a] w (RT (.tuple #[.int .i64 k,.int .i64 0]) w):=f;have l:Hid (∀W,TF w W->CZ 264 #[.string b] W (RT (.bool (F6 b)) w)):=i7 fun W n=>(nI b W).mono fun e w'⟨K,L⟩=>⟨K,L▸n⟩
  cases g:F6 b with
  |false=>have m:Hid (D.rename a b=(D,1)):=i7 (by simp[Dk.rename,c,g]);rw[g]at l;rw[m.o];clear h c i g;go_enter func281,ntmps281;go_wp2_with(first|(go_fit f;rintro e w2⟨rfl,q⟩;have j:=l.o _ q;clear q)|(go_fit j;rintro e y⟨rfl,q⟩;replace q:=i7 q));go_ret;exact⟨rfl,B.o _ q.o⟩
  |true=>
   have m:Hid (D.rename a b=D.then fun d=>if a=b then d else d.change ⟨a,b,k⟩):=i7 (by simp[Dk.rename,c,g]);rw[g]at l;obtain⟨k1,k2⟩:=eB h i;by_cases h1:D.falls=1
   ·have u:Hid _:=i7 (k1 h1);rw[m.o,Dk.then_dies h1];clear h c i k1 k2 h1 g;go_enter func281,ntmps281;go_wp2_with(first|(go_fit f;rintro e w2⟨rfl,q⟩;have j:=l.o _ q;clear q)|(go_fit j;rintro e y⟨rfl,q⟩;have p:=u.o _ q;clear q)|(go_fit p;rintro e A⟨rfl,z⟩;replace z:=i7 z));go_ret;exact⟨rfl,z.o⟩
   ·have u:Hid _:=i7 (k2 h1);rw[m.o,Dk.then_goes h1];by_cases v:a=b
    ·subst v;have I:(a.toList==a.toList)=true:=by simp
     rw[if_pos rfl];clear h c i k1 k2 h1 g x;go_enter func281,ntmps281;go_wp2_with(first|(go_fit f;rintro e w2⟨rfl,q⟩;have j:=l.o _ q;clear q)|(go_fit j;rintro e y⟨rfl,q⟩;have p:=u.o _ q;clear q)|(go_fit p;rintro e A⟨rfl,s,t⟩;have z:Hid (B7 w rl r {D with falls:=D.falls-1} A):=i7 (s.post t);clear s t));go_ret;exact⟨rfl,z.o⟩
    ·have I:=eA v;rw[if_neg v]
     have C:Hid (∀W,B6 W rl r fv sv av pv {D with falls:=D.falls-1}->d7 (fun b=>rl b≠0) w W->CZ 170 #[pt r,.agg #[.string a,.string b,.int .i64 k]] W fun e w'=>e=.returned (.tuple #[])∧B7 w rl r (Dk.change {D with falls:=D.falls-1} ⟨a,b,k⟩) w'):=i7 fun W H n=>
      (kh H ⟨a,b,k⟩ (show D.seen.length<=100000 from ki i) x).mono fun e w'⟨F,G⟩=>⟨F,G.after n⟩
     clear h c i k1 k2 h1 x g v;go_enter func281,ntmps281;go_wp2_with(first|(go_fit f;rintro e w2⟨rfl,q⟩;have j:=l.o _ q;clear q)|(go_fit j;rintro e y⟨rfl,q⟩;have p:=u.o _ q;clear q)|(go_fit p;rintro e A⟨rfl,s,t⟩;have J:=C.o _ s t;clear s t)|(go_fit J;rintro e N⟨rfl,z⟩;replace z:=i7 z));go_ret;exact⟨rfl,z.o⟩
theorem B6.fileCell{w w':World}{rl:Nat->Nat}{r:Nat}{fv sv av pv:Value}{D:Dk}(h:B6 w rl r fv sv av pv D)(f:TF w w'){k:Nat}{x:Fl}(hx:D.files[k]?=some x):
  ∃g off cap,fv=.slice (some ⟨g,off,none⟩) D.files.length cap∧k<D.files.length∧w'.cell? ⟨g,off+k*2,none⟩=some (.string x.bytes)∧w'.cell? ⟨g,off+k*2+1,none⟩=some (.int .i64 x.safe)∧w'.cell? ⟨r,1,none⟩=some fv:=by
 have e:=(LA.1 hx).1;have a:=h.turned f fun _ _ q=>q
 obtain⟨g,off,cap,i,-,-,-,b,-,-⟩:=a.files.opens (by omega);obtain⟨c,d⟩:=fcellsR_get hx;refine⟨g,off,cap,i,e,?_,?_,g9 a.blk 1 _ rfl⟩
 ·rw[b _ (by omega),Nat.mul_comm];exact c
 ·rw[Nat.add_assoc,b _ (by omega),Nat.mul_comm];exact d
theorem xQ{w:World}{rl:Nat->Nat}{r:Nat}{fv sv av pv:Value}{D:Dk}(h:B6 w rl r fv sv av pv D)(c:D.Ok)(name:ByteArray):
  CZ 182 #[pt r,.string name] w (RT (.tuple #[.string (D.read name).1,.int .i64 ((D.read name).2:Nat)]) w):=by
 have b:=gD h (ki c) name;cases a:D.file name with
 |error k=>
  have l:Hid (k≠0):=U7 a;have d:Hid (D.read name=(emp,k)):=i7 (by simp[Dk.read,a]);have u:((k:Int) !=0)=true:=by have:=l.o;simp;omega
  rw[a]at b;replace b:CZ 167 #[pt r,.string name] w (RT (.tuple #[.int .i64 0,.int .i64 k]) w):=b;rw[d.o];clear h a c;go_enter func182,ntmps182;go_wp2_with(go_fit b;rintro e w2⟨rfl,q⟩;replace q:=i7 q);go_ret2;exact⟨rfl,q.o⟩
 |ok k=>
  obtain⟨x,h1,h2,h3⟩:=c.at_lt (Dk.file_live a);have d:Hid (D.read name=(x.bytes,0)):=i7 (by simp[Dk.read,a,h2]);obtain⟨g,off,cap,f,v,-⟩:=h.fileCell TQ h1;have j:Hid (∀w',TF w w'->w'.cell? ⟨g,off+k*2,none⟩=some (.string x.bytes)∧w'.cell? ⟨r,1,none⟩=some fv):=i7 fun w' p=>by obtain⟨t,y,s,i,-,m,-,n⟩:=h.fileCell p h1;rw[f]at i;simp only[Value.slice.injEq,Option.some.injEq,Addr.mk.injEq]at i;obtain⟨⟨rfl,rfl,-⟩,-,-⟩:=i;exact⟨m,n⟩
  rw[a]at b;replace b:CZ 167 #[pt r,.string name] w (RT (.tuple #[.int .i64 k,.int .i64 0]) w):=b;rw[d.o];rw[f]at j;generalize D.files.length=N at *;clear h a c h1 h2 h3 f;go_enter func182,ntmps182;go_wp2_with(go_fit b;rintro e w2⟨rfl,q⟩;obtain⟨k1,k2⟩:=j.o _ q;replace q:=i7 q);go_ret2;exact⟨rfl,q.o⟩
def lQ(w:World)(q:Int)(e:Ending)(w':World):Prop:=
 (M7 q=none∧e=.returned (.tuple #[.pointer none,.int .i64 1])∧w'=w)∨
 ∃D d,M7 q=some D∧e=.returned (.tuple #[pt d,.int .i64 0])∧G9 w' (fun b=>w.heap.size<=b) d D∧TF w w'
theorem zK(q:Int)(w:World):CZ 56 #[.int .i64 q] w (lQ w q):=by
 obtain⟨P,d⟩:=EX (lQ w q);have c:Hid (P=lQ w q):=d;rw[<-d];clear d;by_cases h1:q<0
 ·have a:Hid (M7 q=none):=i7 (by simp[M7,h1]);have f:decide (q<0)=true:=LX h1;clear h1;go_enter func56,ntmps56;go_wp2;rw[c.o];exact .inl ⟨a.o,rfl,rfl⟩
 by_cases h2:16777216<q
 ·have a:Hid (M7 q=none):=i7 (by simp[M7,h2]);have f:decide (q<0)=false:=LD h1;have g:decide ((16777216:Int)<q)=true:=LX h2;clear h1 h2;go_enter func56,ntmps56;go_wp2;rw[c.o];exact .inl ⟨a.o,rfl,rfl⟩
 ·obtain⟨m,rfl⟩:∃m:Nat,q=(m:Nat):=⟨q.toNat,by omega⟩;have a:Hid (M7 (m:Nat)=some ⟨m,[],[],[],[],0,false⟩):=i7 (by unfold M7;rw[if_neg (by rintro(z|z)<;>omega)];simp);have f:decide ((m:Int)<0)=false:=LD h1;have g:decide ((16777216:Int)<(m:Int))=false:=LD h2;have h:decide (16777216<m)=false:=LD (by omega);clear h1 h2;go_enter func56,ntmps56;go_wp2;rw[c.o];refine .inr ⟨_,w.heap.size,a.o,rfl,⟨fun b=>if b=w.heap.size then 1 else 0,.slice none 0 0,.slice none 0 0,.slice none 0 0,.slice none 0 0,⟨by simp,?_,Sl.nil _ _ _ _,Sl.nil _ _ _ _,Sl.nil _ _ _ _,Sl.nil _ _ _ _,fun b e=>?_⟩,fun b e=>?_⟩,TA⟩
  ·have:=i8 w (.cells #[.int .i64 (m:Nat),.slice none 0 0,.slice none 0 0,.slice none 0 0,.slice none 0 0,.int .i64 0,.bool false] 200);simpa[X8]using this
  ·by_cases z:b=w.heap.size
   ·rw[z];simp
   ·simp[z]at e
  ·by_cases z:b=w.heap.size
   ·omega
   ·simp[z]at e
theorem info244:(prog.info? 244).map (fun i=>(i.zero,i.size,i.bytes))=some (some (.agg #[.string ⟨#[]⟩,.int .i64 0]),2,24):=by kernel_rfl
theorem pe{l:Nms}(h:∀x∈l,x.1≠emp):changed l ⟨emp,emp,0⟩=l:=by unfold changed;simp only[if_true,List.append_nil];rw[List.filter_eq_self];intro x hx;simp[h x hx]
section
variable {w:World} {rl:Nat->Nat} {r:Nat} {fv sv av pv:Value} {D:Dk}
theorem B6.setSafe{w2:World}{c:Value}(h:B6 w rl r fv sv av pv D)(d:TF w w2)(k:Sl w2 (fun b=>w.heap.size<=b) 242 2 c (D4 D.seen) D.seen.length):
  B7 w rl r {D with safe:=D.seen,pend:=[]} ((w2.setCell ⟨r,3,none⟩ c).setCell ⟨r,4,none⟩ (.slice none 0 0)):=by
 have g:d7 (· =r) w2 ((w2.setCell ⟨r,3,none⟩ c).setCell ⟨r,4,none⟩ (.slice none 0 0)):=((d7.refl (· =r) w2).set (p:=⟨r,3,none⟩) rfl _).set (p:=⟨r,4,none⟩) rfl _;have T:d7 (· =r) w ((w2.setCell ⟨r,3,none⟩ c).setCell ⟨r,4,none⟩ (.slice none 0 0)):=d.comp g fun i _ q=>q.elim False.elim id
 have K:=h.keepR w2 4;have r1:=h.r1;have e:∀b,rl b≠0->rl b≠1->¬b=r:=fun b _ a q=>a (q▸r1)
 have j:=h.bnd r (by rw[r1];decide);have f:((w2.setCell ⟨r,3,none⟩ c).setCell ⟨r,4,none⟩ (.slice none 0 0)).heap.size=w2.heap.size:=by rw[n8,n8]
 refine⟨dC rl w w2 4,fv,sv,c,.slice none 0 0,⟨(K _ (by omega)).trans r1,?_,?_,?_,?_,Sl.nil _ _ _ _,fun b a=>by rw[f];exact dl a d.size⟩,fun b a=>eQ a,h.mine T⟩
 ·have a:w2.heap[r]?=_:=(d.block r j id).trans h.blk;have l:=j8 a (o:=3) c;have m:=j8 l (o:=4) (.slice none 0 0);simpa[X8]using m
 ·exact(h.files.turned T fun b a=>e b (by omega) (by omega)).widen fun b a=>(K b (by omega)).trans a
 ·exact(h.seen.turned T fun b a=>e b (by omega) (by omega)).widen fun b a=>(K b (by omega)).trans a
 ·exact E7 (k.turned g fun b a q=>by omega) fun b a q=>dk q (by rw[f]at a;exact a)
theorem B6.addFile{c:World}{d:Value}{o:Obj}(h:B6 w rl r fv sv av pv D)(h3:d7 (fun b=>rl b=2) (w.alloc o) c)
  (l:Sl c (F2 (fun b=>rl b=2) (w.alloc o)) 244 2 d (A7 D.files++[.string ⟨#[]⟩,.int .i64 0]) (D.files.length+1)):
  B6 (c.setCell ⟨r,1,none⟩ d) (dC rl w c 2) r d sv av pv {D with files:=D.files++[⟨emp,0⟩]}∧d7 (fun b=>rl b≠0) w (c.setCell ⟨r,1,none⟩ d):=by
 have r1:=h.r1;have e:d7 (fun b=>rl b=2) w c:=(d7.alloc (fun b=>rl b=2) w o).tr h3;have g:d7 (· =r) c (c.setCell ⟨r,1,none⟩ d):=d7.setCell (S:=(· =r)) (p:=⟨r,1,none⟩) rfl _;have T:d7 (fun b=>b=r∨rl b=2) w (c.setCell ⟨r,1,none⟩ d):=e.comp g fun i _ q=>q.elim .inr .inl
 have K:=h.keepR c 2;have k:=h.bnd r (by rw[r1];decide);have f:∀b,rl b≠0->rl b≠1->rl b≠2->¬(b=r∨rl b=2):=fun b _ h1 j q=>q.elim (fun q=>h1 (q▸r1)) j
 have m:(w.alloc o).heap.size=w.heap.size+1:=by simp
 refine⟨⟨(K _ (by omega)).trans r1,?_,?_,?_,?_,?_,fun b a=>by rw[n8];exact dl a e.size⟩,T.mono fun i _ q=>q.elim (fun q=>by rw[q,r1];decide) fun q=>by omega⟩
 ·have a:c.heap[r]?=_:=(e.block r k (by rw[r1];decide)).trans h.blk;have:=j8 a (o:=1) d;simpa[X8]using this
 ·show Sl _ _ 244 2 d (A7 (D.files++[⟨emp,0⟩])) (D.files++[(⟨emp,0⟩:Fl)]).length;rw[qX,List.length_append];have:A7 [⟨emp,0⟩]=[.string ⟨#[]⟩,.int .i64 0]:=rfl;rw[this];refine E7 (l.turned g fun b a q=>?_) fun b a q=>?_
  ·rcases a with a|a
   ·rw[q,r1]at a;omega
   ·omega
  ·rcases q with q|q
   ·exact(Y1 (h.bnd b (by omega))).trans q
   ·exact dk (by omega) (by rw[n8]at a;exact a)
 ·exact(h.seen.turned T fun b a=>f b (by omega) (by omega) (by omega)).widen fun b a=>(K b (by omega)).trans a
 ·exact(h.safe.turned T fun b a=>f b (by omega) (by omega) (by omega)).widen fun b a=>(K b (by omega)).trans a
 ·exact(h.pend.turned T fun b a=>f b (by omega) (by omega) (by omega)).widen fun b a=>(K b (by omega)).trans a
end
theorem lR{w:World}{rl:Nat->Nat}{r:Nat}{fv sv av pv:Value}{D:Dk}(h:B6 w rl r fv sv av pv D)(f:D.Ok):
  CZ 184 #[pt r] w fun e w'=>e=.returned (.int .i64 D.syncNames.2)∧B7 w rl r D.syncNames.1 w':=by
 have t:=g9 h.blk 6 _ rfl;have Q:=i6 h.blk;cases c:D.off with
 |true=>have i:Hid (D.syncNames=(D,8)):=i7 (by simp[Dk.syncNames,c]);have B:Hid (B7 w rl r D w):=h.post TQ;rw[c]at t;rw[i.o];clear h f c;go_enter func184,ntmps184;go_wp2;go_ret;exact⟨rfl,B.o⟩
 |false=>
  have i:Hid (D.syncNames=D.then fun d=>{d with safe:=d.seen,pend:=[]}):=i7 (by simp[Dk.syncNames,c]);obtain⟨k1,k2⟩:=eB h f;rw[c]at t;by_cases h1:D.falls=1
  ·have k:=k1 h1 w TQ;rw[i.o,Dk.then_dies h1];clear h f k1 k2 h1 c;go_enter func184,ntmps184;go_wp2_with(go_fit k;rintro e I⟨rfl,z⟩;replace z:=i7 z);go_ret;exact⟨rfl,z.o⟩
  ·have k:=k2 h1 w TQ;rw[i.o,Dk.then_goes h1];obtain⟨a,cap,p,-,-⟩:=h.seen.value
   have s:Hid (∀W,B6 W rl r fv sv av pv {D with falls:=D.falls-1}->d7 (fun b=>rl b≠0) w W->W.cell? ⟨r,2,none⟩=some sv∧CZ 165 #[sv,.agg #[.string ⟨#[]⟩,.string ⟨#[]⟩,.int .i64 0]] W fun e w'=>∃v,e=.returned v∧B7 w rl r {{D with falls:=D.falls-1}with safe:=D.seen,pend:=[]} ((w'.setCell ⟨r,3,none⟩ v).setCell ⟨r,4,none⟩ (.slice none 0 0))∧w'.cell? ⟨r,3,none⟩=some av∧w'.cell? ⟨r,4,none⟩=some pv∧w'.frozen? ⟨r,3,none⟩=false∧w'.frozen? ⟨r,4,none⟩=false∧r<w'.heap.size∧∃a cap n,v=.slice a n cap):=i7 fun W j G=>by
    refine⟨g9 j.blk 2 _ rfl,(iN ⟨emp,emp,0⟩ W j.seen (show D.seen.length<=100000 from ki f)).mono ?_⟩;rintro e w'⟨v,rfl,u,q⟩;have F:changed D.seen ⟨emp,emp,0⟩=D.seen:=pe f.seenOk.ne;have x:Sl w' (fun b=>W.heap.size<=b) 242 2 v (D4 D.seen) D.seen.length:=by have:=u;simp only[F]at this;exact this
    have g:=j9 j.blk q id;obtain⟨C,E,H,-,-⟩:=x.value;exact⟨v,rfl,(j.setSafe q x).after G,g9 g 3 _ rfl,g9 g 4 _ rfl,j7 g 3,j7 g 4,i6 g,C,E,_,H⟩
   obtain⟨M,P,m,-,-⟩:=h.pend.value;obtain⟨L,O,l,-,-⟩:=h.safe.value;rw[p,m,l]at s;rw[p,m,l]at k;clear h f k1 k2 h1 c p m l;go_enter func184,ntmps184;go_wp2_with(first|(go_fit k;rintro e I⟨rfl,y,A⟩;obtain⟨V,J⟩:=s.o _ y A;clear y A)|(go_fit J;rintro e U⟨v,rfl,z,u,q,R,S,T,K,N,n5,rfl⟩;replace z:=i7 z));go_ret;exact⟨rfl,z.o⟩
end Go.Proofs.YtofcogekgcgjhaaGreatDoor
namespace Go.Proofs.YtofcogekgcgjhaaGreatDoor
open Go.RowKit Go.Mine Go.Mine.Ac Go.Proofs.Tryz
theorem rI{w:World}{rl:Nat->Nat}{r:Nat}{fv sv av pv:Value}{D:Dk}(h:B6 w rl r fv sv av pv D)(l:D.Ok)(L:D.pend.length<=1000000000)(T:D.files.length<=1000000000)(name:ByteArray):
  CZ 183 #[pt r,.string name] w fun e w'=>e=.returned (.int .i64 ((D.create name).2:Nat))∧B7 w rl r (D.create name).1 w':=by
 have c6:=g9 h.blk 6 _ rfl;have c2:=g9 h.blk 2 _ rfl;have al:=i6 h.blk;have Y:Hid (∀w',TF w w'->B7 w rl r D w'):=i7 fun w' E=>(h.turned E fun _ _ q=>q).post (E.mono fun _ _ q=>q.elim)
 cases g:D.off with
 |true=>have N:Hid (D.create name=(D,8)):=i7 (by simp[Dk.create,g]);rw[g]at c6;rw[N.o];clear h l g;go_enter func183,ntmps183;go_wp2;go_ret;exact⟨rfl,Y.o _ TQ⟩
 |false=>
  rw[g]at c6;have y:CZ 264 #[.string name] w fun e w'=>e=.returned (.bool (F6 name))∧w=w':=nI name w
  cases j:F6 name with
  |false=>have N:Hid (D.create name=(D,1)):=i7 (by simp[Dk.create,g,j]);rw[j]at y;rw[N.o];clear h l g j;go_enter func183,ntmps183;go_wp2_with(go_fit y;rintro e c⟨rfl,rfl⟩);go_ret;exact⟨rfl,Y.o _ TQ⟩
  |true=>
   rw[j]at y;obtain⟨P,R,ak,-,-⟩:=h.seen.value;obtain⟨O,Q,aj,-,-⟩:=h.files.value;subst ak;subst aj;obtain⟨f,m⟩:=EX D.seen.length;obtain⟨n,a⟩:=EX D.files.length;have x:=nH name w h.seen (ki l);have M:Hid (∀W,TF w W->W.cell? ⟨r,2,none⟩=some (.slice P f R)):=i7 fun W E=>by rw[m];exact m6 c2 E id
   obtain⟨k1,k2⟩:=eB h l;rw[<-m,<-a]at k2;rw[<-m]at c2 x;have HA:Hid (∀W,B6 W rl r (.slice O n Q) (.slice P f R) av pv {D with falls:=D.falls-1}->Sl (W.alloc (.cells #[.string ⟨#[]⟩,.int .i64 0] 244)) (fun b=>rl b=2) 244 2 (.slice O n Q) (A7 D.files) n∧Src prog 2 196 (.slice (some ⟨W.heap.size,0,none⟩) 1 1) 1 [.string ⟨#[]⟩,.int .i64 0] (W.alloc (.cells #[.string ⟨#[]⟩,.int .i64 0] 244))∧W.cell? ⟨r,1,none⟩=some (.slice O n Q)):=i7 fun W v=>by refine⟨?_,G5 244 underlying196 [.string ⟨#[]⟩,.int .i64 0] (by simp[Value.oneCell']) W,g9 v.blk 1 _ rfl⟩;have:=v.files;simp only[<-a]at this;exact this.turned (d7.alloc (fun _=>False) _ _) fun _ _ q=>q
   have HB:Hid (∀W c Z aa,B6 W rl r (.slice O n Q) (.slice P f R) av pv {D with falls:=D.falls-1}->d7 (fun b=>rl b≠0) w W->d7 (fun b=>rl b=2) (W.alloc (.cells #[.string ⟨#[]⟩,.int .i64 0] 244)) c->
     Sl c (F2 (fun b=>rl b=2) (W.alloc (.cells #[.string ⟨#[]⟩,.int .i64 0] 244))) 244 2 (.slice Z (n+1) aa) (A7 D.files++[.string ⟨#[]⟩,.int .i64 0]) (n+1)->
     c.cell? ⟨r,1,none⟩=some (.slice O n Q)∧c.frozen? ⟨r,1,none⟩=false∧r<c.heap.size∧
     CZ 170 #[pt r,.agg #[.string ⟨#[]⟩,.string name,.int .i64 n]] (c.setCell ⟨r,1,none⟩ (.slice Z (n+1) aa)) fun e w'=>e=.returned (.tuple #[])∧B7 w rl r (Dk.change {{D with falls:=D.falls-1}with files:=D.files++[⟨emp,0⟩]} ⟨emp,name,n⟩) w'):=i7 fun W c Z aa v E h3 hs=>by
    have r1:=v.r1;have S:c.heap[r]?=_:=((h3.block r (by have:=i6 v.blk;simp;omega) (by rw[r1];decide)).trans (G8 _ (i6 v.blk))).trans v.blk;refine⟨g9 S 1 _ rfl,j7 S 1,i6 S,?_⟩;obtain⟨j1,j2⟩:=B6.addFile v h3 (by simp only[<-a];exact hs);refine(kh j1 ⟨emp,name,n⟩ (show D.seen.length<=100000 from ki l) L).mono fun e w'⟨a1,a2⟩=>⟨a1,?_⟩
    refine B7.from a2 (fun b S=>?_) (E.tr j2)
    exact(eQ S).elim .inl fun q=>.inr (LR E.size q)
   have V:Hid (n+1<=maxLen∧(n+1)*24<=140737488355328):=i7 ⟨by rw[a];simp only[maxLen];omega,by rw[a];omega⟩;have ao:wrap64 (n:Int)=(n:Int):=by rw[a];simp only[wrap64];omega
   have am:wrap64 (((n+1:Nat):Int)-1)=(n:Int):=by rw[a];simp only[wrap64];omega
   have an:wrap64 ((n:Int)+1-1)=(n:Int):=by rw[a];simp only[wrap64];omega
   have U:Hid (¬(findN D.seen name=none∧64<=f)->D.create name=D.then fun d=>Dk.change {d with files:=d.files++[⟨emp,0⟩]} ⟨emp,name,d.files.length⟩):=i7 fun q=>by unfold Dk.create;rw[g,if_neg (by decide),j,if_neg (by decide),if_neg (by rw[<-m];exact q)]
   have ae:Hid (n=D.files.length):=a;cases B:findN D.seen name with
   |none=>
    have K:CZ 243 #[.slice P f R,.string name] w (RT (.int .i64 (-1)) w):=x.mono fun e w'⟨t,q⟩=>q.elim (fun q=>⟨q.2,t⟩) fun⟨i,k,_,q,_⟩=>by rw[B]at q;cases q
    by_cases ac:64<=f
    ·have N:Hid (D.create name=(D,7)):=i7 (by unfold Dk.create;rw[g,if_neg (by decide),j,if_neg (by decide),if_pos ⟨B,by omega⟩]);have ag:decide ((64:Int)<=(f:Int))=true:=by simp;omega
     have ah:decide (64<=f)=true:=by simp;omega
     rw[N.o];clear h l g j L T a m k1 k2 ac B x;go_enter func183,ntmps183;go_wp2_with(first|(go_fit y;rintro e w2⟨rfl,rfl⟩)|(go_fit K;rintro e c⟨rfl,t⟩;have X:=M.o _ t;replace t:=i7 t));go_ret;exact⟨rfl,Y.o _ t.o⟩
    ·have p:¬(findN D.seen name=none∧64<=f):=fun q=>ac q.2
     have ag:decide ((64:Int)<=(f:Int))=false:=by simp;omega
     have ah:decide (64<=f)=false:=by simp;omega
     clear ac B;by_cases h1:D.falls=1
     ·have A:Hid _:=i7 (k1 h1);rw[U.o p,Dk.then_dies h1];clear h l g j L T a m k1 k2 h1 x p;go_enter func183,ntmps183;go_wp2_with(first|(go_fit y;rintro e w2⟨rfl,rfl⟩)|(go_fit K;rintro e c⟨rfl,t⟩;have X:=M.o _ t;have C:=A.o _ t;clear t)|(go_fit C;rintro e s⟨rfl,z⟩;replace z:=i7 z));go_ret;exact⟨rfl,z.o⟩
     ·have A:Hid _:=i7 (k2 h1);rw[U.o p,Dk.then_goes h1];clear h l g j L T a m k1 k2 h1 x p;go_enter func183,ntmps183
      go_wp2_with(first
       |(go_fit y;rintro e w2⟨rfl,rfl⟩)
       |(go_fit K;rintro e c⟨rfl,t⟩;have X:=M.o _ t;have C:=A.o _ t;clear t)
       |(go_fit C;rintro e s⟨rfl,u,J⟩;obtain⟨H,I,y3⟩:=HA.o s u;replace H:=i7 H;replace I:=i7 I;replace u:=i7 u;replace J:=i7 J)
       |(at_builtin;refine m7 rfl _ _ 196 196 rfl H.o underlying196 info244 rfl (by decide) rfl (.slice (some ⟨s.heap.size,0,none⟩) 1 1) rfl I.o V.o.1 V.o.2 ?_;intro v5 w5 F G;obtain⟨a5,ab,ad,-,-⟩:=F.value;subst ad;obtain⟨j1,j2,j3,j4⟩:=HB.o s w5 a5 ab u.o J.o G F;clear F G)
       |(go_fit j4;rintro e w6⟨rfl,z⟩;replace z:=i7 z))
      go_ret;exact⟨rfl,by have:=z.o;rw[ae.o]at this;exact this⟩
   |some k=>
    have K:CZ 243 #[.slice P f R,.string name] w fun e w'=>(∃i:Nat,e=.returned (.int .i64 i))∧TF w w':=x.mono fun e w'⟨t,q⟩=>q.elim (fun q=>by rw[B]at q;cases q.1) fun⟨i,k',_,_,G⟩=>⟨⟨i,G⟩,t⟩
    have p:¬(findN D.seen name=none∧64<=f):=fun q=>by rw[B]at q;cases q.1
    clear B;by_cases h1:D.falls=1
    ·have A:Hid _:=i7 (k1 h1);rw[U.o p,Dk.then_dies h1];clear h l g j L T a m k1 k2 h1 x p;go_enter func183,ntmps183;go_wp2_with(first|(go_fit y;rintro e w2⟨rfl,rfl⟩)|(go_fit K;rintro e c⟨⟨fi,rfl⟩,t⟩;have X:=M.o _ t;have ai:decide ((fi:Int)<0)=false:=(by simp);have C:=A.o _ t;clear t)|(go_fit C;rintro e s⟨rfl,z⟩;replace z:=i7 z));go_ret;exact⟨rfl,z.o⟩
    ·have A:Hid _:=i7 (k2 h1);rw[U.o p,Dk.then_goes h1];clear h l g j L T a m k1 k2 h1 x p;go_enter func183,ntmps183
     go_wp2_with(first
      |(go_fit y;rintro e w2⟨rfl,rfl⟩)
      |(go_fit K;rintro e c⟨⟨fi,rfl⟩,t⟩;have X:=M.o _ t;have ai:decide ((fi:Int)<0)=false:=(by simp);have C:=A.o _ t;clear t)
      |(go_fit C;rintro e s⟨rfl,u,J⟩;obtain⟨H,I,y3⟩:=HA.o s u;replace H:=i7 H;replace I:=i7 I;replace u:=i7 u;replace J:=i7 J)
      |(at_builtin;refine m7 rfl _ _ 196 196 rfl H.o underlying196 info244 rfl (by decide) rfl (.slice (some ⟨s.heap.size,0,none⟩) 1 1) rfl I.o V.o.1 V.o.2 ?_;intro v5 w5 F G;obtain⟨a5,ab,ad,-,-⟩:=F.value;subst ad;obtain⟨j1,j2,j3,j4⟩:=HB.o s w5 a5 ab u.o J.o G F;clear F G)
      |(go_fit j4;rintro e w6⟨rfl,z⟩;replace z:=i7 z))
     go_ret;exact⟨rfl,by have:=z.o;rw[ae.o]at this;exact this⟩
end Go.Proofs.YtofcogekgcgjhaaGreatDoor

/- Packed. -/
import Derived.Test.YtofcogekgcgjhaaGreatDoorZzak
set_option maxRecDepth 100000
set_option maxHeartbeats 8000000
namespace Go.Mine.Ac
open Go.Mine
def logB:ByteArray:=⟨#[108,111,103]⟩
structure St where
 trees:List (List Ent)
 commits:List Cm
 dead:Bool
def F9(s:St)(c:Cm):Bool:=decide (c.tree<s.trees.length) && c.par.all fun p=>decide (p<s.commits.length)
def DL(s:St)(f:Fr):Option St:=
 if f.kind=1 then match ET f.body with
  | .error _=>none
  | .ok t=>if 65536<=s.trees.length then none else some {s with trees:=s.trees++[t]}
 else if f.kind=2 then match EU f.body with
  | .error _=>none
  | .ok c=>if F9 s c=false∨65536<=s.commits.length then none else some {s with commits:=s.commits++[c]}
 else none
def standsS:St->Nat->List (Nat×Fr)->St×Nat
 |s,e,[]=>(s,e)
 |s,e,x::l=>match DL s x.2 with
  |none=>(s,e)
  |some a=>standsS a (x.1+x.2.body.size+9) l
def noSt:St:=⟨[],[],false⟩
def fp(d:Dk):Dk×Except Nat St:=
 match d.read logB with
 |(_,6)=>match d.create logB with
  |(d1,0)=>match d1.syncNames with
   |(d2,0)=>(d2,.ok noSt)
   |(d2,e)=>(d2,.error e)
  |(d1,e)=>(d1,.error e)
 |(b,0)=>
  let r:=standsS noSt 0 (Es b 0)
  match(if r.2=b.size then(d,0)else d.cut logB r.2)with
  |(d1,0)=>match d1.sync logB with
   |(d2,0)=>match d2.syncNames with
    |(a,0)=>(a,.ok r.1)
    |(a,e)=>(a,.error e)
   |(d2,e)=>(d2,.error e)
  |(d1,e)=>(d1,.error e)
 |(_,e)=>(d,.error e)
def writeS(d:Dk)(s:St)(kind:Nat)(body:ByteArray):Dk×St×Nat:=
 match d.append logB (E8 ⟨kind,body⟩)with
 |(d1,0)=>match d1.sync logB with
  |(d2,e)=>(d2,{s with dead:=decide (e=8)},e)
 |(d1,e)=>(d1,{s with dead:=decide (e=8)},e)
def addTree(d:Dk)(s:St)(t:List Ent):Dk×St×Int×Nat:=
 if s.dead then(d,s,0,8)
 else match O9 t with
  | .error e=>(d,s,0,e)
  | .ok body=>if 65536<=s.trees.length then(d,s,0,7)
   else match writeS d s 1 body with
    |(d1,a,0)=>(d1,{a with trees:=a.trees++[t]},a.trees.length,0)
    |(d1,a,e)=>(d1,a,0,e)
def addCommit(d:Dk)(s:St)(c:Cm):Dk×St×Int×Nat:=
 if s.dead then(d,s,0,8)
 else match U0 c with
  | .error e=>(d,s,0,e)
  | .ok body=>if F9 s c=false then(d,s,0,9)
   else if 65536<=s.commits.length then(d,s,0,7)
   else match writeS d s 2 body with
    |(d1,a,0)=>(d1,{a with commits:=a.commits++[c]},a.commits.length,0)
    |(d1,a,e)=>(d1,a,0,e)
def dL(s:St)(n:Int):List Ent×Nat:=if n<0 then([],9)else match s.trees[n.toNat]?with|none=>([],9)|some t=>(t,0)
def A8(s:St)(n:Int):Cm×Nat:=if n<0 then(⟨[],0⟩,9)else match s.commits[n.toNat]?with|none=>(⟨[],0⟩,9)|some c=>(c,0)
end Go.Mine.Ac
namespace Go.Proofs.YtofcogekgcgjhaaGreatDoor
open Go.RowKit Go.Mine Go.Mine.Ac Go.Proofs.Tryz
theorem F5.after{w c w':World}{rl:Nat->Nat}{d n:Nat}{D':Dk}(h:F5 c rl d D' n w')(a:d7 (fun b=>rl b≠0) w c):F5 w rl d D' n w':=by obtain⟨k,i,g,j,e,h1,h2,h3⟩:=h;exact⟨k,i,g,j,e,h1,fun b f=>(h2 b f).elim .inl fun q=>.inr (LR a.size q),a.tr h3⟩
theorem p9.post{w w':World}{rl:Nat->Nat}{d c a:Nat}{pv:Value}{F:Nat->Nat}{D':Dk}(h:p9 w' rl d c a pv F D')(f:d7 (fun b=>rl b≠0) w w'):s8 w rl d D' w':=⟨rl,c,a,pv,F,h,fun b e=>.inl e,f⟩
theorem oL{w:World}{rl:Nat->Nat}{d j i:Nat}{pv:Value}{F:Nat->Nat}{D:Dk}(h:p9 w rl d j i pv F D)(f:D.Ok)(g:D.pend.length<=1000000000)(name:ByteArray)(c:name≠emp)(a b1:Nat)
  (k:w.cell? ⟨a,0,none⟩=some (pt d)) (h1:w.cell? ⟨b1,0,none⟩=some (.string name)):
  CZ 100 #[pt a,pt b1] w fun e w'=>e=.returned (.tuple #[])∧s8 w rl d (D.change ⟨name,emp,0⟩) w':=by
 have b:=fQ h f.seenOk ⟨name,emp,0⟩ (fun q=>absurd rfl q) g;have e:(J5 F ⟨name,emp,0⟩).toArray=#[.string name,.string ⟨#[]⟩,.pointer none]:=by unfold J5;rw[if_neg c];rfl
 rw[e]at b;clear h f g c e;go_enter func100,ntmps100;go_wp2_with(go_fit b;rintro e w'⟨rfl,q⟩;replace q:=i7 q);go_end0;exact⟨rfl,q.o⟩
theorem gB{w W:World}{rl:Nat->Nat}{d:Nat}{D:Dk}{f:Dk->Dk}{fv:Value}(h:TF w W)
  (i:D.falls=1->CZ 95 #[pt d,fv] W fun e w'=>e=.returned (.int .i64 8)∧s8 W rl d D.step.1 w')
  (j:D.falls≠1->CZ 95 #[pt d,fv] W fun e w'=>e=.returned (.int .i64 0)∧s8 W rl d (f {D with falls:=D.falls-1}) w'):
  CZ 95 #[pt d,fv] W fun e w'=>e=.returned (.int .i64 ((D.then f).2:Nat))∧s8 w rl d (D.then f).1 w':=by
 have g:d7 (fun b=>rl b≠0) w W:=h.mono fun _ _ q=>q.elim
 by_cases h1:D.falls=1
 ·rw[Dk.then_dies h1];refine(i h1).mono fun e w'⟨c,a⟩=>⟨c,F5.after ?_ g⟩
  rcases D.step_cases with⟨z,-⟩|⟨-,z⟩
  ·exact absurd h1 z
  ·rw[z]at a;exact a
 ·rw[Dk.then_goes h1];exact(j h1).mono fun e w'⟨c,a⟩=>⟨c,F5.after a g⟩
theorem p9.dies{w:World}{rl:Nat->Nat}{d b a:Nat}{pv:Value}{F:Nat->Nat}{D:Dk}(h:p9 w rl d b a pv F D)(h1:D.falls=1)(fv:Value):
  CZ 95 #[pt d,fv] w fun e w'=>e=.returned (.int .i64 8)∧s8 w rl d D.step.1 w':=
 (xB h h1 fv).mono fun e w'⟨c,f,g⟩=>⟨c,f.post (g.mono fun i _ q=>by rw[q,h.r1];decide)⟩
theorem p9.own{w w':World}{rl:Nat->Nat}{d e c:Nat}{pv:Value}{F:Nat->Nat}{D:Dk}(h:p9 w rl d e c pv F D)(a:d7 (· =d) w w'):d7 (fun b=>rl b≠0) w w':=a.mono fun i _ q=>by rw[q,h.r1];decide
theorem oM{D:Dk}(h:D.Ok):Dk.Ok {D with falls:=D.falls-1}:=h.falls (D.falls-1) D.off (LR (Nat.sub_le _ _) h.fall)
theorem qW{w:World}{rl:Nat->Nat}{d v u:Nat}{pv:Value}{F:Nat->Nat}{D:Dk}(h:p9 w rl d v u pv F D)(i:D.Ok)(B:D.pend.length<=1000000000)(name:ByteArray):
  CZ 38 #[pt d,.string name] w fun e w'=>e=.returned (.int .i64 ((D.remove name).2:Nat))∧s8 w rl d (D.remove name).1 w':=by
 have I:=h.bnd d (by rw[h.r1];decide);obtain⟨g,l,m⟩:=p8 (w:=w) (.cells #[pt d] 33) (.cells #[.string name] 9);generalize s:(w.alloc (.cells #[pt d] 33)).alloc (.cells #[.string name] 9)=c at g l m;have f:p9 c rl d v u pv F D:=h.turned g fun _ _ q=>q
 have b:=X3 f name;have p:rl w.heap.size=0:=by
  by_cases q:rl w.heap.size=0
  ·exact q
  ·have:=h.bnd _ q;omega
 have r:rl (w.heap.size+1)=0:=by
  by_cases q:rl (w.heap.size+1)=0
  ·exact q
  ·have:=h.bnd _ q;omega
 cases a:D.file name with
 |error k=>
  have x:Hid (k≠0):=U7 a;have j:Hid (D.remove name=(D,k)):=i7 (by simp[Dk.remove,a]);have J:((k:Int) !=0)=true:=by have:=x.o;simp;omega
  have y:Hid (s8 w rl d D c):=f.post (g.mono fun _ _ q=>q.elim);rw[a]at b;replace b:CZ 88 #[pt d,.string name] c fun e w'=>e=.returned (.tuple #[.pointer none,.int .i64 k])∧c=w':=b
  subst s;clear h f a l m g i p r;rw[j.o];go_enter func38,ntmps38;go_wp2_with(go_fit b;rintro e w'⟨rfl,rfl⟩);go_ret;exact⟨rfl,y.o⟩
 |ok k=>
  have t:name≠emp:=i.seenOk.ne _ (Dk.file_live a);have j:Hid (D.remove name=D.then fun d=>d.change ⟨name,emp,0⟩):=i7 (by simp[Dk.remove,a]);have C:CZ 95 #[pt d,.func (.func 100) #[] #[pt w.heap.size,pt (w.heap.size+1)]] c fun e w'=>e=.returned (.int .i64 ((D.remove name).2:Nat))∧s8 w rl d (D.remove name).1 w':=by
   rw[j.o];refine gB g (fun h1=>f.dies h1 _) fun h1=>?_
   refine oJ f h1 i.fall _ _ fun L E n K=>?_
   have G:=g9 (j9 l n fun q=>by rw[q,h.r1]at p;omega) 0 _ rfl;have H:=g9 (j9 m n fun q=>by rw[q,h.r1]at r;omega) 0 _ rfl;exact(oL E (oM i) B name t _ _ G H).mono fun e w'⟨z,A⟩=>⟨z,A.after (f.own n)⟩
  rw[a]at b;replace b:CZ 88 #[pt d,.string name] c fun e w'=>e=.returned (.tuple #[pt (F k),.int .i64 0])∧c=w':=b
  subst s;generalize D.remove name=R at *;clear h f a l m g i p r t j;go_enter func38,ntmps38;go_wp2_with(first|(go_fit b;rintro e w'⟨rfl,rfl⟩)|(go_fit C;rintro e w'⟨rfl,q⟩;replace q:=i7 q));go_ret;exact⟨rfl,q.o⟩
def oN(w:World)(q:Int)(e:Ending)(w':World):Prop:=
 (M7 q=none∧e=.returned (.tuple #[.pointer none,.int .i64 1])∧w'=w)∨
 ∃D d,M7 q=some D∧e=.returned (.tuple #[pt d,.int .i64 0])∧J0 w' (fun b=>w.heap.size<=b) d D∧TF w w'
theorem DM{w:World}(q:Nat):p9 (((w.alloc (.map #[] 0)).alloc (.map #[] 0)).alloc (.cells #[.int .i64 q,.int .i64 0,.map (some w.heap.size),.map (some (w.heap.size+1)),.slice none 0 0,.int .i64 0,.bool false] 148))
  (fun b=>if b=w.heap.size+1+1 then 1 else if b=w.heap.size then 2 else if b=w.heap.size+1 then 3 else 0) (w.heap.size+1+1) w.heap.size (w.heap.size+1) (.slice none 0 0) (fun _=>0) ⟨q,[],[],[],[],0,false⟩:=by
 obtain⟨-,m,n⟩:=p8 (w:=w) (.map #[] 0) (.map #[] 0);have e:=B4 (o:=.cells #[.int .i64 q,.int .i64 0,.map (some w.heap.size),.map (some (w.heap.size+1)),.slice none 0 0,.int .i64 0,.bool false] 148) m;have f:=B4 (o:=.cells #[.int .i64 q,.int .i64 0,.map (some w.heap.size),.map (some (w.heap.size+1)),.slice none 0 0,.int .i64 0,.bool false] 148) n;have c:=i8 ((w.alloc (.map #[] 0)).alloc (.map #[] 0)) (.cells #[.int .i64 q,.int .i64 0,.map (some w.heap.size),.map (some (w.heap.size+1)),.slice none 0 0,.int .i64 0,.bool false] 148);have h:((w.alloc (.map #[] 0)).alloc (.map #[] 0)).heap.size=w.heap.size+1+1:=by simp
 rw[h]at c;have d:∀v,P4 (fun _=>0) ([]:Nms) v=none:=fun v=>by cases v<;>rfl
 have r2:(fun b=>if b=w.heap.size+1+1 then 1 else if b=w.heap.size then 2 else if b=w.heap.size+1 then 3 else 0) w.heap.size=2:=by simp only[];rw[if_neg (by omega),if_pos trivial]
 have r3:(fun b=>if b=w.heap.size+1+1 then 1 else if b=w.heap.size then 2 else if b=w.heap.size+1 then 3 else 0) (w.heap.size+1)=3:=by simp only[];rw[if_neg (by omega),if_neg (by omega),if_pos trivial]
 refine⟨by simp,r2,r3,by simpa[X8]using c,⟨#[],0,e,by simp,by simp,(fun k v a=>by rw[d]at a;cases a),by simp,rfl⟩,⟨#[],0,f,by simp,by simp,(fun k v a=>by rw[d]at a;cases a),by simp,rfl⟩,Sl.nil _ _ _ _,?_,?_,⟨#[],0,e,by simp,by simp⟩,⟨#[],0,f,by simp,by simp⟩⟩
 ·rintro k(⟨x,hx,-⟩|⟨x,hx,-⟩|⟨x,hx,-⟩)<;>simp at hx
 ·intro b g;have p:=i6 c;by_cases i:b=w.heap.size+1+1
  ·omega
  ·by_cases j:b=w.heap.size
   ·omega
   ·by_cases l:b=w.heap.size+1
    ·omega
    ·simp[i,j,l]at g
theorem zx(q:Int)(w:World):CZ 24 #[.int .i64 q] w (oN w q):=by
 obtain⟨P,d⟩:=EX (oN w q);have c:Hid (P=oN w q):=d;rw[<-d];clear d;have l:=@run_makeMap prog;by_cases h1:q<0
 ·have a:Hid (M7 q=none):=i7 (by simp[M7,h1]);have e:decide (q<0)=true:=LX h1;clear h1;go_enter func24,ntmps24;go_wp2;rw[c.o];exact .inl ⟨a.o,rfl,rfl⟩
 by_cases h2:16777216<q
 ·have a:Hid (M7 q=none):=i7 (by simp[M7,h2]);have e:decide (q<0)=false:=LD h1;have f:decide ((16777216:Int)<q)=true:=LX h2;clear h1 h2;go_enter func24,ntmps24;go_wp2;rw[c.o];exact .inl ⟨a.o,rfl,rfl⟩
 ·obtain⟨m,rfl⟩:∃m:Nat,q=(m:Nat):=⟨q.toNat,by omega⟩;have a:Hid (M7 (m:Nat)=some ⟨m,[],[],[],[],0,false⟩):=i7 (by unfold M7;rw[if_neg (by rintro(z|z)<;>omega)];simp);have e:decide ((m:Int)<0)=false:=LD h1;have f:decide ((16777216:Int)<(m:Int))=false:=LD h2;have k:decide (16777216<m)=false:=LD (by omega);clear h1 h2;go_enter func24,ntmps24;go_wp2;rw[c.o];refine .inr ⟨_,w.heap.size+1+1,a.o,rfl,⟨_,_,_,_,_,DM m,fun b g=>?_⟩,(TA.new _).new _⟩;by_cases h:b=w.heap.size+1+1
  ·omega
  ·by_cases i:b=w.heap.size
   ·omega
   ·by_cases j:b=w.heap.size+1
    ·omega
    ·simp[h,i,j]at g
def A7(l:List Fl):List Value:=l.flatMap fun x=>[.string x.bytes,.int .i64 x.safe]
def D4(l:Nms):List Value:=l.flatMap fun x=>[.string x.1,.int .i64 x.2]
def cS(l:List fC):List Value:=l.flatMap fun c=>[.string c.gone,.string c.come,.int .i64 c.file]
theorem fcellsR_get:∀{l:List Fl}{i:Nat}{x:Fl},l[i]?=some x->(A7 l)[2*i]?=some (.string x.bytes)∧(A7 l)[2*i+1]?=some (.int .i64 x.safe)
 | [],_,_,h=>by simp at h
 |y::l,0,x,h=>by simp at h;subst h;simp[A7]
 |y::l,i+1,x,h=>by have:=fcellsR_get (l:=l) (i:=i) (by simpa using h);simpa[A7,Nat.mul_add,Nat.add_right_comm]using this
theorem ncellsR_get:∀{l:Nms}{i:Nat}{x:ByteArray×Nat},l[i]?=some x->(D4 l)[2*i]?=some (.string x.1)∧(D4 l)[2*i+1]?=some (.int .i64 x.2)
 | [],_,_,h=>by simp at h
 |y::l,0,x,h=>by simp at h;subst h;simp[D4]
 |y::l,i+1,x,h=>by have:=ncellsR_get (l:=l) (i:=i) (by simpa using h);simpa[D4,Nat.mul_add,Nat.add_right_comm]using this
theorem qX(l m:List Fl):A7 (l++m)=A7 l++A7 m:=by simp[A7]
theorem jV(l m:Nms):D4 (l++m)=D4 l++D4 m:=by simp[D4]
theorem qY(l m:List fC):cS (l++m)=cS l++cS m:=by simp[cS]
structure B6 (w:World) (rl:Nat->Nat) (r:Nat) (fv sv av pv:Value) (D:Dk):Prop where
 r1:rl r=1
 blk:X8 w r #[.int .i64 D.quota,fv,sv,av,pv,.int .i64 D.falls,.bool D.off] 200
 files:Sl w (fun b=>rl b=2) 244 2 fv (A7 D.files) D.files.length
 seen:Sl w (fun b=>rl b=3) 242 2 sv (D4 D.seen) D.seen.length
 safe:Sl w (fun b=>rl b=4) 242 2 av (D4 D.safe) D.safe.length
 pend:Sl w (fun b=>rl b=5) 240 3 pv (cS D.pend) D.pend.length
 bnd:∀b,rl b≠0->b<w.heap.size
section
variable {w w':World} {rl:Nat->Nat} {r:Nat} {fv sv av pv:Value} {D:Dk}
theorem B6.turned{T:Nat->Prop}(h:B6 w rl r fv sv av pv D)(a:d7 T w w')(c:∀b,rl b≠0->¬T b):B6 w' rl r fv sv av pv D:=⟨h.r1,(a.block _ (i6 h.blk) (c _ (by rw[h.r1];decide))).trans h.blk,h.files.turned a fun b d=>c b (by omega),h.seen.turned a fun b d=>c b (by omega),h.safe.turned a fun b d=>c b (by omega),h.pend.turned a fun b d=>c b (by omega),fun b d=>LC (h.bnd b d) a.size⟩
end
def G9(w:World)(S:Nat->Prop)(r:Nat)(D:Dk):Prop:=∃rl fv sv av pv,B6 w rl r fv sv av pv D∧∀b,rl b≠0->S b
theorem G9.turned{w w':World}{S T:Nat->Prop}{r:Nat}{D:Dk}(h:G9 w S r D)(d:d7 T w w')(a:∀b,S b->¬T b):G9 w' S r D:=by obtain⟨rl,fv,sv,av,pv,h1,h2⟩:=h;exact⟨rl,fv,sv,av,pv,h1.turned d fun b c=>a b (h2 b c),h2⟩
theorem G9.widen{w:World}{S T:Nat->Prop}{r:Nat}{D:Dk}(h:G9 w S r D)(c:∀b,b<w.heap.size->S b->T b):G9 w T r D:=by obtain⟨rl,fv,sv,av,pv,h1,h2⟩:=h;exact⟨rl,fv,sv,av,pv,h1,fun b a=>c b (h1.bnd b a) (h2 b a)⟩
end Go.Proofs.YtofcogekgcgjhaaGreatDoor
namespace Go.Proofs.YtofcogekgcgjhaaGreatDoor
open Go.RowKit Go.Mine Go.Mine.Ac Go.Proofs.Tryz
theorem p9.tset{w w':World}{rl:Nat->Nat}{d f e:Nat}{pv:Value}{F:Nat->Nat}{D:Dk}{k:Nat}(h:p9 w rl d f e pv F D)(a:rl (F k)=5+2*k)(c:d7 (fun b=>b=F k∨rl b=6+2*k) w w'):d7 (fun b=>rl b≠0) w w':=c.mono fun i _ q=>q.elim (fun q=>by rw[q,a];omega) fun q=>by omega
theorem p9.setPost{w w':World}{rl:Nat->Nat}{d g f:Nat}{pv:Value}{F:Nat->Nat}{D:Dk}(h:p9 w rl d g f pv F D){k:Nat}{x y:Fl}(i:D.files[k]?=some x)(c:I5 w rl F k x){bv:Value}
  (e:d7 (fun b=>b=F k∨rl b=6+2*k) w w') (a:X8 w' (F k) #[.int .i64 k,bv,.int .i64 y.safe] 157)
  (j:Sl w' (fun b=>rl b=6+2*k∨w.heap.size<=b) 5 1 bv (o9 y.bytes.data.toList) y.bytes.size):s8 w rl d (D.setF k y) w':=
 ⟨_,g,f,pv,F,h.setAt i c e a (E7 j fun b a q=>q.elim (fun q=>(Y1 (h.bnd b (by omega))).trans q) fun q=>dk q a),fun b a=>eQ a,h.tset c.1 e⟩
theorem F5.draw{w w':World}{rl:Nat->Nat}{d n:Nat}{D':Dk}(h:F5 w rl d D' n w'):F5 w rl d D' n w'.drew:=by obtain⟨f,c,b,e,a,h1,h2,h3⟩:=h;exact⟨f,c,b,e,a,h1.turned (d7.drew (fun _=>False) _) fun _ _ q=>q,h2,h3.draw⟩
theorem ud{w:World}{rl:Nat->Nat}{d s r:Nat}{pv:Value}{F:Nat->Nat}{D:Dk}(h:p9 w rl d s r pv F D){k:Nat}{x:Fl}(l:D.files[k]?=some x)(n:I5 w rl F k x)(j:Nat)
  (z:w.cell? ⟨j,0,none⟩=some (pt (F k))):
  CZ 235 #[pt j] w fun e w'=>e=.returned (.tuple #[])∧s8 w rl d (D.setF k ⟨x.bytes,x.bytes.size⟩) w':=by
 obtain⟨g,bv,c,f⟩:=n;obtain⟨a,cap,m,-,-⟩:=f.value;subst m;have u:=g9 c 1 _ rfl;have v:=g9 c 2 _ rfl;have y:=j7 c 2;have A:=i6 c
 have key:Hid (s8 w rl d (D.setF k ⟨x.bytes,x.bytes.size⟩) (w.setCell ⟨F k,2,none⟩ (.int .i64 x.bytes.size))):=i7 (by
  have t:d7 (· =F k) w (w.setCell ⟨F k,2,none⟩ (.int .i64 x.bytes.size)):=d7.setCell (S:=(· =F k)) (p:=⟨F k,2,none⟩) rfl _;refine h.setPost l ⟨g,_,c,f⟩ (t.mono fun i _ q=>.inl q) (bv:=.slice a x.bytes.size cap) ?_ ?_
  ·have:=j8 c (o:=2) (.int .i64 (x.bytes.size:Nat));simpa[X8]using this
  ·exact(f.turned t fun b c q=>by rw[q,g]at c;omega).widen fun b q=>.inl q)
 clear h l f c g;go_enter func235,ntmps235;go_region
 all_goals go_wp2
 all_goals go_end0
 all_goals first|exact⟨rfl,key.o⟩|exact⟨rfl,key.o.draw⟩
theorem oO{w:World}{rl:Nat->Nat}{d u t:Nat}{pv:Value}{F:Nat->Nat}{D:Dk}(h:p9 w rl d u t pv F D)(i:D.Ok)(j:D.pend.length<=1000000000)(a b:ByteArray)(m:a≠emp)(n:b≠emp){k:Nat}{x:Fl}(g:D.files[k]?=some x)(f:I5 w rl F k x)(l b1 b2 b3:Nat)
  (v:w.cell? ⟨l,0,none⟩=some (.string a)) (h1:w.cell? ⟨b1,0,none⟩=some (.string b)) (h2:w.cell? ⟨b2,0,none⟩=some (pt d)) (h3:w.cell? ⟨b3,0,none⟩=some (pt (F k))):
  CZ 303 #[pt l,pt b1,pt b2,pt b3] w fun e w'=>e=.returned (.tuple #[])∧s8 w rl d (if a=b then D else D.change ⟨a,b,k⟩) w':=by
 by_cases c:a=b
 ·subst c;have r:Hid (s8 w rl d D w):=h.post TQ;have s:(a.toList==a.toList)=true:=by simp
  rw[if_pos rfl];clear h i j g f;go_enter func303,ntmps303;go_wp2;go_end0;exact⟨rfl,r.o⟩
 ·have p:=fQ h i.seenOk ⟨a,b,k⟩ (fun _=>⟨x,g,f⟩) j;have e:(J5 F ⟨a,b,k⟩).toArray=#[.string a,.string b,pt (F k)]:=by unfold J5;rw[if_neg m,if_neg n]
  have s:(a.toList==b.toList)=false:=by rw[ByteArray.toList_eq,ByteArray.toList_eq];simp only[beq_eq_false_iff_ne,ne_eq];exact fun q=>c (ByteArray.ext (Array.toList_inj.1 q))
  rw[e]at p;rw[if_neg c];clear h i j g f e c m n;go_enter func303,ntmps303;go_wp2_with(go_fit p;rintro e w'⟨rfl,q⟩;replace q:=i7 q);go_end0;exact⟨rfl,q.o⟩
theorem zy(s:ByteArray):s.data.toList.length=s.size:=by rw[Array.length_toList];rfl
theorem oP{w:World}{rl:Nat->Nat}{d I H:Nat}{pv:Value}{F:Nat->Nat}{D:Dk}(h:p9 w rl d I H pv F D){k:Nat}{x:Fl}(t:D.files[k]?=some x)(m:I5 w rl F k x)(c:ByteArray)
  (Y:x.bytes.size+c.size<=1000000000) (j b1:Nat) (K:rl j=0) (L:rl b1=0) (C:w.cell? ⟨j,0,none⟩=some (pt (F k))) (h1:w.cell? ⟨b1,0,none⟩=some (.string c)):
  CZ 98 #[pt j,pt b1] w fun e w'=>e=.returned (.tuple #[])∧s8 w rl d (D.setF k ⟨x.bytes++c,x.safe⟩) w':=by
 have M:Hid (p9 w rl d I H pv F D∧D.files[k]?=some x∧I5 w rl F k x):=⟨h,t,m⟩;obtain⟨E,bv,f,v⟩:=m;obtain⟨a,cap,W,-,-⟩:=v.value;subst W;have R:=g9 f 1 _ rfl;have f1:=j7 f 1;have Z:=i6 f;obtain⟨n,g⟩:=EX x.bytes.size;have N:Hid (n=x.bytes.size):=g;rw[<-g]at R;have P:Hid (Sl w.drew (fun b=>rl b=6+2*k) 5 1 (.slice a n cap) (o9 x.bytes.data.toList) n):=by rw[g];exact v.drew
 have Q:Hid (Src prog 1 9 (.string c) c.size (byteCells c) w.drew):=Src.ofString w.drew underlying9 c;have G:Hid (n+c.size<=maxLen∧(n+c.size)*1<=140737488355328):=i7 ⟨by rw[g];simp only[maxLen];omega,by rw[g];omega⟩;have K2:Hid (∀w2:World,d7 (fun b=>rl b=6+2*k) w.drew w2->w2.heap[F k]?=some (.cells #[.int .i64 k,.slice a n cap,.int .i64 x.safe] 157)∧w2.cell? ⟨F k,1,none⟩=some (.slice a n cap)∧w2.frozen? ⟨F k,1,none⟩=false∧F k<w2.heap.size∧w2.cell? ⟨j,0,none⟩=some (pt (F k))∧w2.cell? ⟨b1,0,none⟩=some (.string c)):=i7 fun w2 z=>by have l:w2.heap[F k]?=_:=(z.block (F k) Z (by rw[E];omega)).trans f;rw[<-g]at l;have U:=z.block j (n7 C) (by rw[K];omega);have u:=z.block b1 (n7 h1) (by rw[L];omega);exact⟨l,g9 l 1 _ rfl,j7 l 1,i6 l,(World.cell?_of_block (w:=w) (w':=w2) (a:=⟨j,0,none⟩) U).trans C,(World.cell?_of_block (w:=w) (w':=w2) (a:=⟨b1,0,none⟩) u).trans h1⟩
 clear h t v f Y g E K L;go_enter func98,ntmps98;go_region_law ((refine o5 (by rfl) _ _ 83 9 (by rfl) P.o underlying83 info5 rfl (by decide) (by rfl) (.string c) (by rfl) Q.o G.o.1 G.o.2 ?_;intro v' w2 y A;obtain⟨r,s,aa,-,-⟩:=y.value;subst aa;obtain⟨B,q2,q3,q4,q5,q6⟩:=K2.o w2 A;replace B:=i7 B;have O:Hid (Sl w2 _ 5 1 _ _ (n+c.size)∧d7 _ _ w2):=⟨y,A⟩;clear y A))
 all_goals go_wp2
 all_goals go_end0
 all_goals
  refine⟨rfl,?_⟩;obtain⟨X,t,m⟩:=M.o;obtain⟨s1,s2⟩:=O.o;have J:d7 (· =F k) w2 (w2.setCell ⟨F k,1,none⟩ (.slice r (n+c.size) s)):=d7.setCell (S:=(· =F k)) (p:=⟨F k,1,none⟩) rfl _;have T:d7 (fun b=>b=F k∨rl b=6+2*k) w (w2.setCell ⟨F k,1,none⟩ (.slice r (n+c.size) s)):=((d7.drew (fun _=>False) w).comp s2 (T:=fun b=>rl b=6+2*k) fun i _ q=>q.elim False.elim id).comp J fun i _ q=>q.elim .inr .inl
  refine X.setPost t m T (bv:=.slice r (n+c.size) s) ?_ ?_
  ·have:=j8 B.o (o:=1) (.slice r (n+c.size) s);simpa[X8]using this
  ·have u:o9 (x.bytes++c).data.toList=o9 x.bytes.data.toList++byteCells c:=by rw[eN,<-dT];simp
   have V:(x.bytes++c).size=n+c.size:=by rw[ByteArray.size_append,N.o]
   rw[u,V];have ab:=m.1;have ac:w.drew.heap.size=w.heap.size:=rfl;exact(s1.turned J fun b f q=>by rcases f with f|f<;>(rw[q]at f;omega)).widen fun b f=>f
theorem oQ{w:World}{S:Nat->Prop}{e:TypeId}{size n cap:Nat}{a:Option Addr}{xs:List Value}(h:Sl w S e size (.slice a n cap) xs n)(b:a=none):n=0:=by
 subst b;rcases h.2 with⟨-,h⟩|⟨g,off,cap,c,h1,-⟩
 ·exact h
 ·simp at h1
theorem F5.from {w W w':World} {rl e:Nat->Nat} {d n:Nat} {D':Dk} (h:F5 W e d D' n w') (a:∀b,e b≠0->rl b≠0∨w.heap.size<=b) (c:d7 (fun b=>rl b≠0) w W):F5 w rl d D' n w':=by obtain⟨r2,k,j,l,f,h1,h2,h3⟩:=h;refine⟨r2,k,j,l,f,h1,fun b g=>(h2 b g).elim (a b) fun q=>.inr (LR c.size q),c.comp h3 fun i m q=>q.elim id fun q=>(a i q).elim id fun q=>by omega⟩
theorem F5.count{w w':World}{rl:Nat->Nat}{d n:Nat}{D':Dk}(h:F5 w rl d D' n w')(j:rl d≠0)(m:Nat):F5 w rl d D' m (w'.setCell ⟨d,1,none⟩ (.int .i64 m)):=by
 obtain⟨r2,s,r,u,e,h1,h2,h3⟩:=h;have t:d7 (· =d) w' (w'.setCell ⟨d,1,none⟩ (.int .i64 m)):=d7.setCell (S:=(· =d)) (p:=⟨d,1,none⟩) rfl _;have r1:=h1.r1;have a:∀b,r2 b≠1->¬b=d:=fun b c q=>c (q▸r1)
 refine⟨r2,s,r,u,e,⟨h1.r1,h1.r2,h1.r3,?_,h1.seen.congr (t.block _ h1.seen.lt (a _ (by rw[h1.r2];decide))) fun _=>rfl,h1.safe.congr (t.block _ h1.safe.lt (a _ (by rw[h1.r3];decide))) fun _=>rfl,h1.pend.turned t fun b c=>a b (by omega),fun k l=>?_,fun b c=>by rw[n8];exact h1.bnd b c,h1.bs.congr (t.block _ h1.seen.lt (a _ (by rw[h1.r2];decide))),h1.bf.congr (t.block _ h1.safe.lt (a _ (by rw[h1.r3];decide)))⟩,h2,h3.comp t fun i _ q=>q.elim id fun q=>q▸j⟩
 ·have:=j8 h1.blk (o:=1) (.int .i64 (m:Nat));simpa[X8]using this
 ·obtain⟨x,f,g⟩:=h1.file k l;exact⟨x,f,g.turned t fun b c=>a b (by omega)⟩
theorem F5.counter{w w':World}{rl:Nat->Nat}{d n:Nat}{D':Dk}(h:F5 w rl d D' n w'):w'.cell? ⟨d,1,none⟩=some (.int .i64 n)∧w'.frozen? ⟨d,1,none⟩=false∧d<w'.heap.size:=by obtain⟨r2,c,b,e,a,h1,h2,h3⟩:=h;exact⟨g9 h1.blk 1 _ rfl,j7 h1.blk 1,i6 h1.blk⟩
theorem oR{w:World}{rl:Nat->Nat}{d K I:Nat}{pv:Value}{F:Nat->Nat}{D:Dk}(h:p9 w rl d K I pv F D)(u:D.Ok)(v:D.pend.length<=1000000000)(G:D.files.length<=1000000000)(name:ByteArray)(a b1:Nat)(x:rl a=0)(y:rl b1=0)
  (i:w.cell? ⟨a,0,none⟩=some (pt d)) (h1:w.cell? ⟨b1,0,none⟩=some (.string name)) (t:name≠emp):
  CZ 96 #[pt a,pt b1] w fun e w'=>e=.returned (.tuple #[])∧s8 w rl d (Dk.change {D with files:=D.files++[⟨emp,0⟩]} ⟨emp,name,D.files.length⟩) w':=by
 obtain⟨n,c⟩:=EX D.files.length;have P:=h.bnd d (by rw[h.r1];decide);have N:rl d≠0:=by rw[h.r1];decide
 have p:=g9 h.blk 1 _ rfl;have R:=n7 i;have S:=n7 h1;have A:Hid (∀W,TF w W->W.heap[w.heap.size]?=some (.cells #[.int .i64 n,.slice none 0 0,.int .i64 0] 157)->CZ 97 #[pt d,.agg #[.string name,.string name,pt w.heap.size]] W fun e w'=>e=.returned (.tuple #[])∧F5 w rl d (Dk.change {D with files:=D.files++[⟨emp,0⟩]} ⟨emp,name,n⟩) n w'∧w'.cell? ⟨a,0,none⟩=some (pt d)∧w'.cell? ⟨b1,0,none⟩=some (.string name)):=i7 fun W j r=>by
  rw[c]at r;obtain⟨k1,k2⟩:=h.moreAt j (f:=w.heap.size) (LS _) r;have s:=fQ k1 (u.more.seenOk) ⟨emp,name,D.files.length⟩ (fun _=>⟨⟨emp,0⟩,by simp,k2⟩) v;have e:(J5 (fun k=>if k=D.files.length then w.heap.size else F k) ⟨emp,name,D.files.length⟩).toArray=#[.string name,.string name,pt w.heap.size]:=by unfold J5;simp[t]
  rw[e]at s;refine s.mono fun e w'⟨g,l⟩=>⟨g,?_,?_,?_⟩
  ·rw[c];refine l.from (fun b E=>?_) (j.mono fun _ _ q=>q.elim)
   by_cases q:b=w.heap.size
   ·exact .inr (by omega)
   ·exact .inl (by simpa[q]using E)
  ·obtain⟨r2,L,J,M,z,-,-,h3⟩:=l;refine m6 (m6 i j id) h3 fun q=>?_
   have:=n7 i;simp only[show¬a=w.heap.size by omega,if_false]at q;exact q x
  ·obtain⟨r2,L,J,M,z,-,-,h3⟩:=l;refine m6 (m6 h1 j id) h3 fun q=>?_
   have:=n7 h1;simp only[show¬b1=w.heap.size by omega,if_false]at q;exact q y
 have C:Hid (∀W,TF w W->W.cell? ⟨a,0,none⟩=some (pt d)∧W.cell? ⟨b1,0,none⟩=some (.string name)∧W.cell? ⟨d,1,none⟩=some (.int .i64 n)):=i7 fun W m=>⟨m6 i m id,m6 h1 m id,m6 (by rw[c];exact p) m id⟩
 have O:Hid (n=D.files.length):=c;rw[<-c]at p;have Q:wrap64 ((n:Int)+1)=((n+1:Nat):Int):=by simp[wrap64];omega
 have B:Hid (∀w2,F5 w rl d (Dk.change {D with files:=D.files++[⟨emp,0⟩]} ⟨emp,name,n⟩) n w2->s8 w rl d (Dk.change {D with files:=D.files++[⟨emp,0⟩]} ⟨emp,name,D.files.length⟩) (w2.setCell ⟨d,1,none⟩ (.int .i64 ((n+1:Nat):Int)))):=i7 fun w2 H=>by
  have:=H.count N (n+1);rw[c]at this ⊢;have e:(Dk.change {D with files:=D.files++[(⟨emp,0⟩:Fl)]} ⟨emp,name,D.files.length⟩).files.length=D.files.length+1:=by simp[Dk.change]
  unfold s8;rw[e];exact this
 clear h u v G x y t c;go_enter func96,ntmps96;go_wp2
 go_region_held3 (fun W=>W.cell? ⟨a,0,none⟩=some (pt d)∧W.cell? ⟨b1,0,none⟩=some (.string name)∧W.cell? ⟨d,1,none⟩=some (.int .i64 n))
  (first|(exact⟨by assumption,by assumption,by assumption⟩)|(exact C.o _ (by first|exact TA|exact TA.draw|exact(TQ.draw).new _|exact TD))|go_keep)
  (first|(go_fit(A.o _ ?_ ?_);(first|exact TA|exact TA.draw|exact(TQ.draw).new _|exact((TQ.draw).new _).draw);(exact i8 _ _);rintro e w2⟨rfl,g,l,X⟩;obtain⟨T,U,V⟩:=g.counter;replace g:=i7 g))
 go_wp2;go_end0;exact⟨rfl,B.o _ g.o⟩
end Go.Proofs.YtofcogekgcgjhaaGreatDoor
namespace Go.Proofs.YtofcogekgcgjhaaGreatDoor.Ch
open Go.RowKit Go.Mine Go.Mine.Ac Go.Proofs.Tryz
theorem ue(a:Option Addr)(cap:Nat)(l:List Ln)(w:World)(h:S7 w a cap l)(p:∀j,eO (totLn (l.take j)))(z:l.length<=100000):
  CZ 193 #[.slice a l.length cap] w (RT (.int .i64 (totLn l)) w):=by
 have t:Hid (S7 w a cap l):=h;have u:Hid (∀j,eO (totLn (l.take j))):=p;obtain⟨L,f⟩:=EX l.length;have d:Hid (L=l.length∧L<=100000):=⟨f,by omega⟩;rw[<-f];clear h p f z;go_enter func193,ntmps193;go_wp2;go_loopg[3,4] L (fun g n i wr=>zf w l g n i wr)
 case atStart=>exact⟨0,by have:=d.o.1;omega,rfl,rfl,TQ⟩
 case round=>
  obtain⟨j,q,rfl,rfl,r⟩:=hrel;have T:Hid (TF w wr):=r;have e:Hid (j+gk=l.length):=q;clear r q;by_cases A:j<L
  ·obtain⟨c,m⟩:∃c,l[j]?=some c:=⟨_,LB (by rw[<-d.o.1];exact A)⟩;obtain⟨b,off,rfl,E,B,C,D⟩:=M8 (t.o.turned T.o) j c m;have s:totLn (l.take (j+1))=totLn (l.take j)+c.2.1:=by rw[List.take_add_one,m,cQ];simp[totLn]
   have k:=u.o (j+1);have x:Hid (wrap64 (totLn (l.take j)+c.2.1)=totLn (l.take (j+1))):=by
    have:wrap64 (totLn (l.take j)+c.2.1)=totLn (l.take (j+1)):=by rw[s]at k ⊢;unfold eO at k;simp only[wrap64];omega
    exact this
   clear m s k;generalize totLn (l.take j)=n at *;go_wp2;go_roundg (gk-1)
   case measure=>have:=e.o;have:=d.o;omega
   case rel=>exact⟨j+1,by have:=e.o;have:=d.o;omega,by have:=d.o;simp[wrap64];omega,by rw[x.o],T.o⟩
  ·have y:j=L:=by have:=e.o;have:=d.o;omega
   subst y;have v:Hid (l.take j=l):=LQ (by have:=d.o.1;omega);go_wp2;go_ret;exact⟨by rw[v.o];rfl,T.o⟩
theorem zz{w:World}{p:Nat}{f g:Value}{a:Option Addr}{cap:Nat}{l:List Ln}(b:w.heap[p]?=some (.cells #[f,.slice a l.length cap,g] 178))(h:S7 w a cap l)(c:∀j,eO (totLn (l.take j)))(d:l.length<=100000):
  CZ 106 #[pt p] w (RT (.int .i64 (totLn l)) w):=by
 have i:=ue a cap l w h c d;have k:w.cell? ⟨p,1,none⟩=some (.slice a l.length cap):=g9 b 1 _ rfl;have m:=i6 b;generalize totLn l=T at *;generalize l.length=L at *;clear h c d b;go_enter func106,ntmps106;go_wp2_with(go_fit i;rintro e w'⟨rfl,q⟩;replace q:=i7 q);go_ret;exact⟨rfl,q.o⟩
end Go.Proofs.YtofcogekgcgjhaaGreatDoor.Ch

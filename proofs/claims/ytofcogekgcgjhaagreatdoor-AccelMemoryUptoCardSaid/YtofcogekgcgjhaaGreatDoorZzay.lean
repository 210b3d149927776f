/- Packed. -/
import Derived.Test.YtofcogekgcgjhaaGreatDoorZzax
set_option maxRecDepth 100000
set_option maxHeartbeats 8000000
namespace Go.Proofs.YtofcogekgcgjhaaGreatDoor
open Go.RowKit Go.Mine Go.Mine.Ac Go.Proofs.Tryz
def A9(w:World)(S:Nat->Prop)(d:Nat)(D':Dk)(w':World):Prop:=∃S',J0 w' S' d D'∧(∀b,S' b->S b∨w.heap.size<=b)∧(∀b,S' b->b<w'.heap.size)∧d7 S w w'
theorem A9.of{w w':World}{e:Nat->Nat}{S:Nat->Prop}{d:Nat}{D':Dk}(h:s8 w e d D' w')(c:∀b,e b≠0->S b):A9 w S d D' w':=by obtain⟨f,j,i,k,g,h1,h2,h3⟩:=h;exact⟨fun b=>f b≠0,⟨f,j,i,k,g,h1,fun b a=>a⟩,fun b a=>(h2 b a).imp (c b) id,h1.bnd,h3.mono fun b _ a=>c b a⟩
theorem A9.next{w g w2:World}{S f:Nat->Prop}{d:Nat}{D2:Dk}(h:A9 g f d D2 w2)(h1:∀b,f b->S b∨w.heap.size<=b)(t:d7 S w g):A9 w S d D2 w2:=by obtain⟨j,a,b,c,e⟩:=h;exact⟨j,a,fun x hx=>(b x hx).elim (h1 x) fun q=>.inr (LR t.size q),c,t.comp e fun i k q=>q.elim id fun q=>(h1 i q).elim id fun z=>by omega⟩
theorem A9.after{w a w2:World}{S:Nat->Prop}{d:Nat}{D2:Dk}(h:A9 a S d D2 w2)(t:d7 S w a):A9 w S d D2 w2:=h.next (fun b c=>.inl c) t
theorem A9.stay{w:World}{S:Nat->Prop}{d:Nat}{D:Dk}(h:J0 w S d D)(a:∀b,S b->b<w.heap.size):A9 w S d D w:=⟨S,h,fun b q=>.inl q,a,TQ⟩
theorem rX{w:World}{S:Nat->Prop}{d:Nat}{D:Dk}(h:J0 w S d D)(f:D.Ok)(name c:ByteArray)(g:c.size<=1099511627776):
  CZ 34 #[pt d,.string name,.string c] w fun e w'=>e=.returned (.int .i64 ((D.append name c).2:Nat))∧A9 w S d (D.append name c).1 w':=by
 obtain⟨l,j,i,k,F,h1,h2⟩:=h;exact(re h1 f name c g).mono fun e w'⟨a,b⟩=>⟨a,A9.of b h2⟩
theorem Ab{w:World}{S:Nat->Prop}{d:Nat}{D:Dk}(h:J0 w S d D)(c:D.Ok)(name:ByteArray):
  CZ 155 #[pt d,.string name] w fun e w'=>e=.returned (.int .i64 ((D.sync name).2:Nat))∧A9 w S d (D.sync name).1 w':=by
 obtain⟨j,g,f,i,F,h1,h2⟩:=h;exact(xE h1 c name).mono fun e w'⟨a,b⟩=>⟨a,A9.of b h2⟩
theorem kw{w:World}{S:Nat->Prop}{d:Nat}{D:Dk}(h:J0 w S d D)(c:D.Ok):
  CZ 74 #[pt d] w fun e w'=>e=.returned (.int .i64 D.syncNames.2)∧A9 w S d D.syncNames.1 w':=by
 obtain⟨j,g,f,i,F,h1,h2⟩:=h;exact(lC h1 c).mono fun e w'⟨a,b⟩=>⟨a,A9.of b h2⟩
theorem M6.keep{w w':World}{T:Nat->Prop}{c:Nat->Nat}{g:Value}{l:List (List Ent)}(h:M6 w c g l)(f:d7 T w w')(e:∀b,c b=2∨c b=4->¬T b):M6 w' c g l:=by obtain⟨k,h1,h2⟩:=h;refine⟨k,h1.turned f fun b d=>e b (.inl d),fun i t j=>?_⟩;obtain⟨a,cap,h3,h4⟩:=h2 i t j;exact⟨a,cap,h3,h4.turned f fun b d=>e b (.inr d)⟩
theorem F8.keep{w w':World}{T:Nat->Prop}{c:Nat->Nat}{g:Value}{l:List Cm}(h:F8 w c g l)(f:d7 T w w')(e:∀b,c b=3∨c b=4->¬T b):F8 w' c g l:=by obtain⟨m,h1,h2⟩:=h;refine⟨m,h1.turned f fun b d=>e b (.inl d),fun i t k=>?_⟩;obtain⟨a,cap,h3,h4,j⟩:=h2 i t k;exact⟨a,cap,h3,h4,j.turned f fun b d=>e b (.inr d)⟩
theorem F4.setDead{T:TypeId}{w:World}{rs:Nat->Nat}{p:Nat}{d e c:Value}{s:St}(h:F4 T w rs p d e c s)(B:Bool):F4 T (w.setCell ⟨p,3,none⟩ (.bool B)) rs p d e c {s with dead:=B}:=by
 have t:d7 (· =p) w (w.setCell ⟨p,3,none⟩ (.bool B)):=d7.setCell (S:=(· =p)) (p:=⟨p,3,none⟩) rfl _;have r1:=h.r1;refine⟨h.r1,?_,h.trees.keep t fun b a q=>?_,h.commits.keep t fun b a q=>?_,fun b a=>by rw[n8];exact h.bnd b a⟩
 ·have:=j8 h.blk (o:=3) (.bool B);simpa[X8]using this
 ·rw[q,r1]at a;omega
 ·rw[q,r1]at a;omega
theorem gf{D D1:Dk}{s:St}{kind k:Nat}{body:ByteArray}(h:D.append logB (E8 ⟨kind,body⟩)=(D1,k))(a:k≠0):writeS D s kind body=(D1,{s with dead:=decide (k=8)},k):=by
 unfold writeS;rw[h];cases k with
 |zero=>exact absurd rfl a
 |succ k=>rfl
theorem dQ{D D1 D2:Dk}{s:St}{kind k:Nat}{body:ByteArray}(h:D.append logB (E8 ⟨kind,body⟩)=(D1,0))(h2:D1.sync logB=(D2,k)):writeS D s kind body=(D2,{s with dead:=decide (k=8)},k):=by unfold writeS;rw[h];show(match D1.sync logB with|(d2,e)=>(d2,({s with dead:=decide (e=8)}:St),e))=_;rw[h2]
theorem rY{w:World}{b b1 p d:Nat}{f:ByteArray}{k:Nat}{a:World->Prop}(i:w.cell? ⟨b,0,none⟩=some (pt p))(j:w.cell? ⟨b1,0,none⟩=some (.string f))(h:w.cell? ⟨p,0,none⟩=some (pt d))
  (c:∀W,TF w W->CZ 34 #[pt d,.string ⟨#[108,111,103]⟩,.string f] W fun e w'=>e=.returned (.int .i64 k)∧a w'):
  CZ 153 #[pt b,pt b1] w fun e w'=>e=.returned (.int .i64 k)∧a w':=by
 have l:=n7 i;have l1:=n7 j;have m:=n7 h;go_enter func153,ntmps153;have g:=i7 c;clear c;go_wp2;go_region_with (go_fit(g.o _ TD);rintro e w'⟨rfl,q⟩;replace q:=i7 q)
 all_goals go_wp2
 all_goals go_ret
 all_goals exact⟨rfl,q.o⟩
theorem Ad{w:World}{b p d:Nat}{k:Nat}{a:World->Prop}(g:w.cell? ⟨b,0,none⟩=some (pt p))(f:w.cell? ⟨p,0,none⟩=some (pt d))
  (c:CZ 155 #[pt d,.string ⟨#[108,111,103]⟩] w fun e w'=>e=.returned (.int .i64 k)∧a w'):
  CZ 154 #[pt b] w fun e w'=>e=.returned (.int .i64 k)∧a w':=by
 have h:=n7 g;have i:=n7 f;go_enter func154,ntmps154;go_wp2_with(go_fit c;rintro e w'⟨rfl,q⟩;replace q:=i7 q);go_ret;exact⟨rfl,q.o⟩
theorem uM{w W:World}{c:Nat->Prop}{d p:Nat}{D:Dk}{rs:Nat->Nat}{E r:Value}{s:St}(M:J0 w c d D)(A:D.Ok)(h:F4 140 w rs p (pt d) E r s)(O:∀b,c b->rs b=0)(v:∀b,c b->b<w.heap.size)
  (j:TF w W) {f b1 g:Nat} (Y:w.heap.size<=f) (Z:w.heap.size<=g) {kind:Nat} {body:ByteArray} (P:(E8 ⟨kind,body⟩).size<=1099511627776)
  (G:W.heap[f]?=some (.cells #[pt p] 34)) (R:W.heap[b1]?=some (.cells #[.string (E8 ⟨kind,body⟩)] 9))
  (x:W.heap[g]?=some (.cells #[.func (.func 153) #[] #[pt f,pt b1],.func (.func 154) #[] #[pt f]] 137)):
  CZ 72 #[.slice (some ⟨g,0,none⟩) 2 2] W fun e w'=>e=.returned (.int .i64 ((writeS D s kind body).2.2:Nat))∧A9 W c d (writeS D s kind body).1 w':=by
 have N:J0 W c d D:=M.turned j fun _ _ q=>q
 have u:F4 140 W rs p (pt d) E r s:=h.turned j fun _ _ q=>q
 have o:W.cell? ⟨p,0,none⟩=some (pt d):=g9 u.blk 0 _ rfl;have H:W.cell? ⟨f,0,none⟩=some (pt p):=g9 G 0 _ rfl;have I:W.cell? ⟨b1,0,none⟩=some (.string (E8 ⟨kind,body⟩)):=g9 R 0 _ rfl;have i:=fun J(q:TF W J)=>(rX (N.turned q fun _ _ z=>z) A logB (E8 ⟨kind,body⟩) P).mono fun e w'(z:_∧_)=>(⟨z.1,z.2.after (q.mono fun _ _ y=>y.elim)⟩:_∧A9 W c d (D.append logB (E8 ⟨kind,body⟩)).1 w')
 have m:=A.appendOk logB (E8 ⟨kind,body⟩);have U:d7 c w W:=j.mono fun _ _ q=>q.elim
 obtain⟨D1,k1,k⟩:∃D1 k1,D.append logB (E8 ⟨kind,body⟩)=(D1,k1):=⟨_,_,rfl⟩;rw[k]at i m;dsimp only at i m;by_cases l:k1=0
 ·subst l;obtain⟨D2,k2,C⟩:∃D2 k2,D1.sync logB=(D2,k2):=⟨_,_,rfl⟩;rw[dQ k C];refine nf x (T:=c) (Q1:=fun F=>A9 W c d D1 F) (fun q=>by have:=v _ q;omega) ((rY H I o i).mono fun e w'⟨a,b⟩=>⟨a,b,?_⟩) fun F Q n=>?_
  ·obtain⟨_,_,_,_,t⟩:=b;exact t
  ·obtain⟨S,K,L,V,X⟩:=Q;have B:=Ab K m logB;rw[C]at B;refine(Ad (g9 (j9 G n fun q=>by have:=v _ q;omega) 0 _ rfl) (g9 (j9 u.blk n fun q=>by have:=O _ q;have:=h.r1;omega) 0 _ rfl) B).mono fun e w'⟨a,b⟩=>⟨a,?_⟩
   exact b.next L n
 ·rw[gf k l];exact(mZ x l (rY H I o i)).mono fun e w'⟨a,b⟩=>⟨a,b⟩
def eE(w:World)(c:Nat->Prop)(d p:Nat)(rs:Nat->Nat)(g e:Value)(D':Dk)(f:St)(w':World):Prop:=∃a,J0 w' a d D'∧(∀b,a b->c b∨w.heap.size<=b)∧(∀b,a b->b<w'.heap.size)∧F4 140 w' rs p (pt d) g e f∧d7 (fun b=>c b∨b=p) w w'
theorem A9.dead{w c:World}{e:Nat->Prop}{d p:Nat}{D D':Dk}{rs:Nat->Nat}{g f:Value}{s:St}(h:F4 140 w rs p (pt d) g f s)(l:∀b,e b->rs b=0)(q:A9 w e d D' c)(B:Bool):
  eE w e d p rs g f D' {s with dead:=B} (c.setCell ⟨p,3,none⟩ (.bool B)):=by
 obtain⟨n,o,j,r,k⟩:=q;have t:d7 (· =p) c (c.setCell ⟨p,3,none⟩ (.bool B)):=d7.setCell (S:=(· =p)) (p:=⟨p,3,none⟩) rfl _;have r1:=h.r1;have x:=h.bnd p (by omega);have u:F4 140 c rs p (pt d) g f s:=h.turned k fun b a z=>a (l b z)
 refine⟨n,o.turned t fun b a z=>?_,j,fun b a=>by rw[n8];exact r b a,u.setDead B,k.comp t fun i v z=>z.elim .inl .inr⟩;rcases j b a with m|m
 ·have:=l _ m;rw[z,r1]at this;omega
 ·omega
theorem ml{w:World}{f:Nat->Prop}{d p:Nat}{D:Dk}{rs:Nat->Nat}{x m:Value}{s:St}(E:J0 w f d D)(H:D.Ok)(h:F4 140 w rs p (pt d) x m s)(l:∀b,f b->rs b=0)(n:∀b,f b->b<w.heap.size)
  (kind:Nat) (body:ByteArray) (h1:1<=kind) (h2:kind<=255) (h3:body.size<=1048576) (J:(E8 ⟨kind,body⟩).size<=1099511627776):
  CZ 68 #[pt p,.int .i64 kind,.string body] w fun e w'=>e=.returned (.int .i64 ((writeS D s kind body).2.2:Nat))∧eE w f d p rs x m (writeS D s kind body).1 (writeS D s kind body).2.1 w':=by
 have F:=fun W=>rW ⟨kind,body⟩ W h1 h2 h3
 unfold gd at F;have C:Hid (∀(W:World),TF w W->∀j b1 g,w.heap.size<=j->w.heap.size<=g->W.heap[j]?=some (.cells #[pt p] 34)->W.heap[b1]?=some (.cells #[.string (E8 ⟨kind,body⟩)] 9)->W.heap[g]?=some (.cells #[.func (.func 153) #[] #[pt j,pt b1],.func (.func 154) #[] #[pt j]] 137)->CZ 72 #[.slice (some ⟨g,0,none⟩) 2 2] W fun e w'=>e=.returned (.int .i64 ((writeS D s kind body).2.2:Nat))∧A9 W f d (writeS D s kind body).1 w'):=fun W T j b1 g Y Z y A X=>uM E H h l n T Y Z J y A X
 have I:(writeS D s kind body).2.1={s with dead:=decide ((writeS D s kind body).2.2=8)}:=by
  unfold writeS;generalize D.append logB (E8 ⟨kind,body⟩)=r;obtain⟨D1,k⟩:=r;cases k with
  |zero=>rfl
  |succ k=>rfl
 rw[I];generalize(writeS D s kind body).2.2=K at *;generalize(writeS D s kind body).1=D' at *;have S:Hid (∀c,A9 w f d D' c->eE w f d p rs x m D' {s with dead:=decide (K=8)} (c.setCell ⟨p,3,none⟩ (.bool (decide (K=8))))):=fun c q=>q.dead (D:=D) h l _
 have P:Hid (∀b,f b->b<w.heap.size):=n;have R:Hid (∀c,A9 w f d D' c->c.frozen? ⟨p,3,none⟩=false∧p<c.heap.size∧∃M,c.cell? ⟨p,3,none⟩=some M):=fun c q=>by obtain⟨S1,g1,g2,g3,U⟩:=q;have:=(h.turned U fun b V z=>V (l b z)).blk;exact⟨j7 this 3,i6 this,_,g9 this 3 _ rfl⟩
 have aa:((K:Int)==8)=decide (K=8):=by
  by_cases q:K=8
  ·subst q;rfl
  ·rw[decide_eq_false q];simp;omega
 generalize decide (K=8)=B at *;have ab:=i6 h.blk;generalize E8 ⟨kind,body⟩=L at *;have Q:Hid (∀c,TF (w.alloc (.cells #[pt p] 34)) c->CZ 72 #[.slice (some ⟨c.heap.size+1,0,none⟩) 2 2] ((c.alloc (.cells #[.string L] 9)).alloc (.cells #[.func (.func 153) #[] #[pt w.heap.size,pt c.heap.size],.func (.func 154) #[] #[pt w.heap.size]] 137)) fun e w'=>e=.returned (.int .i64 K)∧A9 w f d D' w'∧w'.cell? ⟨w.heap.size,0,none⟩=some (pt p)∧w.heap.size<w'.heap.size):=fun c i=>by
  obtain⟨t0,y⟩:=A0 (w:=w) (.cells #[pt p] 34);obtain⟨u,A,x2⟩:=p8 (w:=c) (.cells #[.string L] 9) (.cells #[.func (.func 153) #[] #[pt w.heap.size,pt c.heap.size],.func (.func 154) #[] #[pt w.heap.size]] 137);have v:=t0.tr i;have hs:=v.size;have N:=j9 y (i.tr u) id;refine(C.o _ (v.tr u) _ _ _ (LS _) (by omega) N A x2).mono fun e w'⟨a,b⟩=>⟨a,b.after ((v.tr u).mono fun _ _ q=>q.elim),?_⟩
  obtain⟨_,_,_,_,t⟩:=b;have O:=j9 N t fun q=>by have:=P.o _ q;omega
  exact⟨g9 O 0 _ rfl,i6 O⟩
 clear E H h l n h1 h2 h3 J I C;go_enter func68,ntmps68
 go_wp2_with(first
  |(go_fit(F _);rintro e c⟨rfl,i⟩;have G:=Q.o c i;replace i:=i7 i)
  |(go_fit G;rintro e w2⟨rfl,q,d1,d2⟩;obtain⟨c1,c2,M,c3⟩:=R.o w2 q;replace q:=i7 q;clear G))
 all_goals go_ret
 all_goals exact⟨rfl,S.o _ q.o⟩
theorem uN{w:World}{rs:Nat->Nat}{p:Nat}{I J H:Value}{s:St}(h:F4 140 w rs p I J H s){S:Nat->Prop}{a:Option Addr}{cap:Nat}{c:Cm}(u:p7 w S a cap c.par):
  CZ 71 #[pt p,kJ a cap c] w (RT (.bool (F9 s c)) w):=by
 obtain⟨r,j⟩:=EX (F9 s c);have M:Hid (r=F9 s c):=j;rw[<-j];obtain⟨k,m,B⟩:=p8 (w:=w) (.cells #[pt p] 34) (.cells #[.slice a c.par.length cap,.int .i64 c.tree] 55);have g:Hid (∀W,TF ((w.alloc (.cells #[pt p] 34)).alloc (.cells #[.slice a c.par.length cap,.int .i64 c.tree] 55)) W->CZ 157 #[.slice a c.par.length cap,.func (.func 158) #[] #[pt w.heap.size]] W (RT (.bool (dP c.par s.commits.length)) ((w.alloc (.cells #[pt p] 34)).alloc (.cells #[.slice a c.par.length cap,.int .i64 c.tree] 55)))):=fun W q=>
  (mY ⟨j9 m q id,h.turned (k.tr q) fun _ _ z=>z⟩ (u.turned (k.tr q) fun _ _ z=>z)).mono fun e w'⟨x,y⟩=>⟨x,q.tr y⟩
 have i:Hid (TF w ((w.alloc (.cells #[pt p] 34)).alloc (.cells #[.slice a c.par.length cap,.int .i64 c.tree] 55))):=k;obtain⟨T,v,-⟩:=h.trees;obtain⟨ta,n,rfl,-,-⟩:=v.value;have Q:=i6 h.blk;have G:w.cell? ⟨p,1,none⟩=some (.slice ta s.trees.length n):=g9 h.blk 1 _ rfl;have R:=i6 h.blk;have b:=rS s c;rw[<-j]at b;replace b:=i7 b;obtain⟨par,tree⟩:=c;unfold kJ;dsimp only at g i b m B ⊢;clear h v u j k m B;generalize s.trees.length=L at *;generalize s.commits.length=P at *;generalize par.length=N at *;have A:((w.alloc (.cells #[pt p] 34)).alloc (.cells #[.slice a N cap,.int .i64 tree] 55)).heap.size=w.heap.size+2:=by simp
 obtain⟨d,f⟩:=EX ((w.alloc (.cells #[pt p] 34)).alloc (.cells #[.slice a N cap,.int .i64 tree] 55));have D:Hid (∀W,TF d W->W.cell? ⟨w.heap.size,0,none⟩=some (pt p)∧W.cell? ⟨w.heap.size+1,0,none⟩=some (.slice a N cap)∧W.cell? ⟨w.heap.size+1,1,none⟩=some (.int .i64 tree)∧W.cell? ⟨p,1,none⟩=some (.slice ta L n)):=i7 fun W q=>by obtain⟨u0,u1,u2⟩:=p8 (w:=w) (.cells #[pt p] 34) (.cells #[.slice a N cap,.int .i64 tree] 55);rw[f]at q;have K:=j9 u1 q id;have C:=j9 u2 q id;exact⟨g9 K 0 _ rfl,g9 C 0 _ rfl,g9 C 1 _ rfl,m6 G (u0.tr q) id⟩
 have O:Hid (d.heap.size=w.heap.size+2):=i7 (by rw[f];exact A);rw[<-f]at g i;have t:Hid (d=(w.alloc (.cells #[pt p] 34)).alloc (.cells #[.slice a N cap,.int .i64 tree] 55)):=f;clear A f;by_cases hx:tree<(L:Int)
 ·have l:decide (tree<(L:Int))=true:=LX hx;rw[l,Bool.true_and]at b;clear hx;go_enter func71,ntmps71;go_wp2_with fail;rw[<-t.o];have E:TF d d.drew:=TD
  go_region_held3 (fun W=>W.cell? ⟨w.heap.size,0,none⟩=some (pt p)∧W.cell? ⟨w.heap.size+1,0,none⟩=some (.slice a N cap)∧W.cell? ⟨w.heap.size+1,1,none⟩=some (.int .i64 tree)∧W.cell? ⟨p,1,none⟩=some (.slice ta L n))
   (first|(exact D.o _ (by assumption))|go_keep)
   (first|(go_fit(g.o _ E);rintro e w2⟨rfl,F⟩))
  go_wp2;go_ret;exact⟨by rw[b.o];rfl,i.o.tr F⟩
 ·have l:decide (tree<(L:Int))=false:=LD hx;rw[l,Bool.false_and]at b;clear hx g;go_enter func71,ntmps71;go_wp2_with fail;go_region;go_wp2;go_ret;exact⟨by rw[b.o];rfl,by rw[<-t.o];exact i.o.draw⟩
theorem rZ{t:List Ent}{k:Nat}(h:O9 t=.error k):k≠0:=by
 unfold O9 at h;split at h
 ·cases h;decide
 ·split at h
  ·cases h
  ·rename_i q;cases h;exact q
theorem wz{t:List Ent}{b:ByteArray}(h:O9 t=.ok b):fR t∧b=mP (gL t):=by
 unfold O9 at h;split at h
 ·cases h
 ·split at h
  ·rename_i c a;cases h;exact⟨⟨by omega,a⟩,rfl⟩
  ·cases h
theorem sd{c:Cm}{k:Nat}(h:U0 c=.error k):k≠0:=by
 unfold U0 at h;split at h
 ·cases h
 ·rename_i q;cases h;exact q
theorem wE{c:Cm}{b:ByteArray}(h:U0 c=.ok b):D8 c=0∧b=mP (gM c):=by
 unfold U0 at h;split at h
 ·rename_i q;cases h;exact⟨q,rfl⟩
 ·cases h
theorem mn(l:List UInt8):(mP l).size=l.length:=by simp[mP,ByteArray.size]
theorem jD{t:List Ent}{b:ByteArray}(h:O9 t=.ok b):b.size<=267266:=by obtain⟨h1,rfl⟩:=wz h;rw[mn];exact xD h1
theorem jE{c:Cm}{b:ByteArray}(h:U0 c=.ok b):b.size<=1000:=by
 obtain⟨h1,rfl⟩:=wE h;rw[mn];unfold gM;obtain⟨h2,-,-⟩:=jC h1;have:∀l:List Int,(l.flatMap fun p=>m9 p.toNat 4).length=4*l.length:=fun l=>by
  induction l with|nil=>rfl|cons x l a=>rw[List.flatMap_cons,List.length_append,a,j6,List.length_cons];omega
 rw[List.length_append,List.length_append,j6,j6,this];omega
theorem K0(k:Nat)(b:ByteArray):(E8 ⟨k,b⟩).size=b.size+9:=by rw[mj];have:∀l:List UInt8,(⟨l.toArray⟩:ByteArray).size=l.length:=mn;rw[this,List.length_append,j6];unfold CX;rw[List.length_append,List.length_append,j6,j6,zy];dsimp only;omega
def fA(w:World)(e:Nat->Prop)(rs:Nat->Nat)(d p:Nat)(D':Dk)(g:St)(w':World):Prop:=∃a c h f,J0 w' a d D'∧(∀b,a b->e b∨w.heap.size<=b)∧(∀b,a b->b<w'.heap.size)∧F4 140 w' c p (pt d) h f g∧(∀b,c b≠0->rs b≠0∨w.heap.size<=b)∧(∀b,a b->c b=0)∧d7 (fun b=>e b∨rs b≠0) w w'
theorem eE.after{w g w':World}{a:Nat->Prop}{d p:Nat}{rs:Nat->Nat}{f c:Value}{D':Dk}{e:St}(h:eE g a d p rs f c D' e w')(t:TF w g):eE w a d p rs f c D' e w':=by obtain⟨j,k,l,m,n,o⟩:=h;exact⟨j,k,fun b r=>(l b r).imp id fun q=>LR t.size q,m,n,t.comp o fun i _ q=>q.elim False.elim id⟩
theorem eE.ad{w w':World}{a:Nat->Prop}{d p:Nat}{rs:Nat->Nat}{k e:Value}{D':Dk}{j:St}(h:eE w a d p rs k e D' j w')(s:∀b,a b->rs b=0)(r:∀b,rs b≠0->b<w.heap.size):fA w a rs d p D' j w':=by
 obtain⟨l,m,f,n,g,o⟩:=h;refine⟨l,rs,k,e,m,f,n,g,fun b c=>.inl c,fun b c=>?_,o.mono fun i _ q=>q.imp id fun q=>by rw[q,g.r1];decide⟩;rcases f b c with q|q
 ·exact s b q
 ·apply LK;intro z;have:=r b z;omega
theorem fA.stay{w w':World}{a:Nat->Prop}{d p:Nat}{rs:Nat->Nat}{f e:Value}{D:Dk}{s:St}(g:J0 w a d D)(h:F4 140 w rs p (pt d) f e s)(j:∀b,a b->rs b=0)(i:∀b,a b->b<w.heap.size)(t:TF w w'):fA w a rs d p D s w':=⟨a,rs,f,e,g.turned t fun _ _ q=>q,fun b c=>.inl c,fun b c=>LC (i b c) t.size,h.turned t fun _ _ q=>q,fun b c=>.inl c,j,t.mono fun _ _ q=>q.elim⟩
theorem info65:(prog.info? 65).map (fun i=>(i.zero,i.size,i.bytes))=some (some (.slice none 0 0),1,24):=by kernel_rfl
theorem yf{w w2 m j e:World}{y:Nat->Prop}{rs:Nat->Nat}{d p:Nat}{D':Dk}{N H v h:Value}{l:List Value}{s:St}{t:List Ent}
  (hw:eE w y d p rs N H D' s w2) (X:∀b,y b->rs b=0) (W:∀b,rs b≠0->b<w.heap.size)
  (Z:∀x∈t,x.2<4294967296) (ac:Sl w2 (fun b=>rs b=2) 65 1 N l s.trees.length) (ab:∀(i:Nat)(t:List Ent),s.trees[i]?=some t->∃a cap,l[i]?=some (.slice a t.length cap)∧H1 w2 (fun b=>rs b=4) a cap t)
  (M:TF w2 m) (hv:Sl m (fun b=>w2.heap.size<=b) 96 2 v (o6 t) t.length) (C:TF m j)
  (D:d7 (fun b=>rs b=2) j e) (hs:Sl e (F2 (fun b=>rs b=2) j) 65 1 h (l++[v]) (s.trees.length+1)):
  fA w y rs d p D' {s with trees:=s.trees++[t]} (e.setCell ⟨p,1,none⟩ h):=by
 obtain⟨F,U,I,J,k,K⟩:=hw;have L:∀b,F b->rs b=0:=fun b c=>by
  rcases I b c with q|q
  ·exact X b q
  ·apply LK;intro z;have:=W b z;omega
 have s2:=K.size;have s3:=M.size;have ai:=C.size;have s4:=D.size;have r1:=k.r1;have aa:=k.bnd p (by omega);have P:TF w2 j:=M.tr C;have G:d7 (fun b=>rs b=2) w2 e:=P.comp D fun i _ q=>q.elim False.elim id
 have E:d7 (· =p) e (e.setCell ⟨p,1,none⟩ h):=d7.setCell (S:=(· =p)) (p:=⟨p,1,none⟩) rfl _;have n:d7 (fun b=>rs b=2∨b=p) w2 (e.setCell ⟨p,1,none⟩ h):=G.comp E fun i _ q=>q
 have A:(e.setCell ⟨p,1,none⟩ h).heap.size=e.heap.size:=n8 _ _ _;obtain⟨f,r⟩:∃f:Nat->Nat,f=fun b=>if b<w2.heap.size then rs b else if b<m.heap.size then 4 else if b<j.heap.size then 0 else if b<e.heap.size then 2 else 0:=⟨_,rfl⟩
 have B:∀b,b<w2.heap.size->f b=rs b:=fun b c=>by rw[r];simp only[if_pos c]
 have af:∀b,w2.heap.size<=b->b<m.heap.size->f b=4:=fun b h1 h2=>by rw[r];simp only;rw[if_neg (by omega),if_pos h2]
 have ag:∀b,j.heap.size<=b->b<e.heap.size->f b=2:=fun b h1 h2=>by rw[r];simp only;rw[if_neg (by omega),if_neg (by omega),if_neg (by omega),if_pos h2]
 have ae:∀b,f b≠0->b<e.heap.size:=fun b c=>by
  rw[r]at c;simp only at c;split at c
  ·omega
  ·split at c
   ·omega
   ·split at c
    ·omega
    ·split at c
     ·assumption
     ·exact absurd rfl c
 have u:∀b,rs b≠0->f b=rs b:=fun b c=>B b (by have:=k.bnd b c;omega)
 refine⟨F,f,h,H,U.turned n fun b c q=>?_,I,fun b c=>by rw[A];have:=J b c;omega,⟨by rw[u p (by omega),r1],?_,?_,?_,fun b c=>by rw[A];exact ae b c⟩,fun b c=>?_,fun b c=>by rw[B b (J b c)];exact L b c,K.comp n fun i g q=>?_⟩
 ·have:=L b c;rcases q with q|q
  ·omega
  ·rw[q]at this;omega
 ·have h4:e.heap[p]?=w2.heap[p]?:=G.block p aa (by omega);have c:=h4.trans k.blk;have:=j8 c (o:=1) h;simpa[X8]using this
 ·refine⟨l++[v],?_,fun i O g=>?_⟩
  ·have:=(hs.turned E fun b c q=>by
    rcases c with c|c
    ·rw[q,r1]at c;omega
    ·omega)
   rw[List.length_append];refine E7 this fun b c q=>?_
   rw[A]at c;rcases q with q|q
   ·rw[u b (by omega)];exact q
   ·exact ag b q c
  ·rw[List.getElem?_append]at g;have ah:l.length=s.trees.length:=by have:=ac.1;omega
   split at g
   ·rename_i q;obtain⟨a,cap,Q,R⟩:=ab i O g;refine⟨a,cap,by rw[List.getElem?_append_left (by omega)];exact Q,(R.turned n fun b c z=>?_).mono fun b c=>by rw[u b (by omega)];exact c⟩;rcases z with z|z
    ·omega
    ·rw[z,r1]at c;omega
   ·rename_i q;obtain⟨a,cap,ad,Y⟩:=wd (E7 hv (T:=fun b=>w2.heap.size<=b∧b<m.heap.size) fun b h1 h2=>⟨h2,h1⟩) Z;have V:i-s.trees.length=0:=by have:=(LA.1 g).1;simpa using this
    rw[V]at g;obtain rfl:t=O:=by simpa using g
    refine⟨a,cap,by rw[List.getElem?_append_right (by omega),show i-l.length=0 by omega,ad];rfl,((Y.turned C fun _ _ z=>z).turned (D.comp E fun i _ q=>q) fun b c z=>?_).mono fun b c=>af b c.1 c.2⟩;rcases z with z|z
    ·have:=k.bnd b (by omega);omega
    ·omega
 ·refine F8.roles (k.commits.keep n fun b c z=>?_) fun b c=>u b c
  rcases z with z|z
  ·omega
  ·rw[z,r1]at c;omega
 ·by_cases q:b<w2.heap.size
  ·rw[B b q]at c;exact .inl c
  ·exact .inr (by omega)
 ·rcases q with q|q|q
  ·exact q.imp id fun q=>by rw[q];omega
  ·exact .inr (by omega)
  ·exact .inr (by rw[q];omega)
def jF(w:World)(a:Nat->Prop)(rs:Nat->Nat)(d p:Nat)(r:Dk×St×Int×Nat)(e:Ending)(w':World):Prop:=e=.returned (.tuple #[.int .i64 r.2.2.1,.int .i64 r.2.2.2])∧fA w a rs d p r.1 r.2.1 w'
theorem Z0{D:Dk}{s:St}{t:List Ent}{k:Nat}(h1:s.dead=false)(h:O9 t=.error k):addTree D s t=(D,s,0,k):=by unfold addTree;rw[h1,h];rfl
theorem eW{D:Dk}{s:St}{t:List Ent}(h1:s.dead=true):addTree D s t=(D,s,0,8):=by unfold addTree;rw[h1];rfl
theorem eX{D:Dk}{s:St}{t:List Ent}{b:ByteArray}(h1:s.dead=false)(h:O9 t=.ok b)(h2:65536<=s.trees.length):addTree D s t=(D,s,0,7):=by unfold addTree;rw[h1,h];simp only[Bool.false_eq_true,if_false];rw[if_pos h2]
theorem gh{D D1:Dk}{s a:St}{t:List Ent}{b:ByteArray}{k:Nat}(h1:s.dead=false)(h:O9 t=.ok b)(h2:¬65536<=s.trees.length)(h3:writeS D s 1 b=(D1,a,k))(c:k≠0):addTree D s t=(D1,a,0,k):=by
 unfold addTree;rw[h1,h];simp only[Bool.false_eq_true,if_false];rw[if_neg h2,h3];cases k with
 |zero=>exact absurd rfl c
 |succ k=>rfl
theorem O5{D D1:Dk}{s a:St}{t:List Ent}{b:ByteArray}(h1:s.dead=false)(h:O9 t=.ok b)(h2:¬65536<=s.trees.length)(h3:writeS D s 1 b=(D1,a,0)):addTree D s t=(D1,{a with trees:=a.trees++[t]},((a.trees.length:Nat):Int),0):=by unfold addTree;rw[h1,h];simp only[Bool.false_eq_true,if_false];rw[if_neg h2,h3];rfl
theorem O6(D:Dk)(s:St)(k:Nat)(b:ByteArray):(writeS D s k b).2.1.trees=s.trees∧(writeS D s k b).2.1.commits=s.commits:=by
 unfold writeS;generalize D.append logB (E8 ⟨k,b⟩)=r;obtain⟨D1,k⟩:=r;cases k with
 |zero=>exact⟨rfl,rfl⟩
 |succ k=>exact⟨rfl,rfl⟩
theorem iW{w:World}{c S:Nat->Prop}{d p:Nat}{D:Dk}{rs:Nat->Nat}{tv M:Value}{s:St}{a:Option Addr}{cap:Nat}{t:List Ent}(I:J0 w c d D)(ab:D.Ok)(h:F4 140 w rs p (pt d) tv M s)(F:∀b,c b->rs b=0)(U:∀b,c b->b<w.heap.size)
  (H:H1 w S a cap t) (T:∀b,S b->¬c b∧rs b=0) (htl:t.length<=1000000000):
  CZ 21 #[pt p,.slice a t.length cap] w (jF w c rs d p (addTree D s t)):=by
 obtain⟨Z,J⟩:=EX (jF w c rs d p (addTree D s t));have Q:Hid (Z=jF w c rs d p (addTree D s t)):=J;rw[<-J];have L:=nG h;have R:w.cell? ⟨p,1,none⟩=some tv:=g9 h.blk 1 _ rfl;have ag:=i6 h.blk;have ae:Hid (∀w',TF w w'->fA w c rs d p D s w'):=fun w' q=>fA.stay I h F U q
 cases r:s.dead with
 |true=>have l:Hid (addTree D s t=(D,s,0,8)):=eW r;rw[r]at L;clear I h J H r;go_enter func21,ntmps21;go_wp2_with(go_fit L;rintro e A⟨rfl,rfl⟩);rw[Q.o];exact⟨by rw[l.o];rfl,by rw[l.o];exact ae.o _ TQ⟩
 |false=>
  rw[r]at L;have B:=rR w H htl;unfold W0 at B;cases he:O9 t with
  |error k=>
   have l:Hid (addTree D s t=(D,s,0,k)):=Z0 r he;rw[he]at B;have hk:=rZ he;have e3:((k:Int)==0)=false:=by simp;omega
   have e4:((k:Int) !=0)=true:=by simp;omega
   unfold exV at B;dsimp only at B;clear I h J H r he hk;go_enter func21,ntmps21;go_wp2_with(first|(go_fit L;rintro e A⟨rfl,rfl⟩)|(go_fit B;rintro e A⟨rfl,q⟩;replace q:=i7 q));rw[Q.o];exact⟨by rw[l.o];rfl,by rw[l.o];exact ae.o _ q.o⟩
  |ok body=>
   rw[he]at B;unfold exV at B;dsimp only at B;obtain⟨al,hts,ac⟩:=h.trees;obtain⟨ta,E,rfl,-,-⟩:=hts.value;obtain⟨n,C⟩:=EX s.trees.length;by_cases N:65536<=n
   ·have l:Hid (addTree D s t=(D,s,0,7)):=eX r he (by rw[<-C];exact N);rw[<-C]at R;have d1:decide ((65536:Int)<=(n:Int))=true:=by simp;omega
    have d2:decide (65536<=n)=true:=by simp;omega
    have C1:Hid (∀W,TF w W->W.cell? ⟨p,1,none⟩=some (.slice ta n E)∧p<W.heap.size):=fun W q=>⟨m6 R q id,LC ag q.size⟩
    clear I h J H r he hts ac N htl T ab F U C;go_enter func21,ntmps21;go_wp2_with(first|(go_fit L;rintro e A⟨rfl,rfl⟩)|(go_fit B;rintro e A⟨rfl,q⟩;obtain⟨k1,k2⟩:=C1.o _ q;replace q:=i7 q));rw[Q.o];exact⟨by rw[l.o];rfl,by rw[l.o];exact ae.o _ q.o⟩
   ·have f:=jD he;obtain⟨D1,g,K,O⟩:∃D1 g K,writeS D s 1 body=(D1,g,K):=⟨_,_,_,rfl⟩;have aq:=O6 D s 1 body;have HW:Hid (∀A,TF w A->CZ 68 #[pt p,.int .i64 1,.string body] A fun e w'=>e=.returned (.int .i64 (K:Nat))∧eE w c d p rs (.slice ta n E) M D1 g w'):=fun A q=>by have:=ml (I.turned q fun _ _ z=>z) ab (h.turned q fun _ _ z=>z) F (fun b f=>LC (U b f) q.size) 1 body (by omega) (by omega) (by omega) (by rw[K0];omega);rw[O]at this;exact this.mono fun e w'⟨x,y⟩=>⟨x,by rw[C];exact y.after q⟩
    rw[O]at aq;obtain⟨X,aj⟩:=aq;dsimp only at X aj;rw[<-C]at R;have d1:decide ((65536:Int)<=(n:Int))=false:=by simp;omega
    have d2:decide (65536<=n)=false:=by simp;omega
    have C1:Hid (∀W,TF w W->W.cell? ⟨p,1,none⟩=some (.slice ta n E)∧p<W.heap.size):=fun W q=>⟨m6 R q id,LC ag q.size⟩
    by_cases hK:K=0
    ·subst hK;have l:Hid (addTree D s t=(D1,{g with trees:=g.trees++[t]},((g.trees.length:Nat):Int),0)):=O5 r he (by rw[<-C];exact N) O;have aa:g.trees.length=n:=by rw[X,C]
     have HN:Hid (g.trees.length=n):=aa;have HX:Hid (∀w2,eE w c d p rs (.slice ta n E) M D1 g w2->d7 (fun b=>c b∨b=p) w w2∧w2.cell? ⟨p,1,none⟩=some (.slice ta n E)∧p<w2.heap.size):=fun w2 q=>by obtain⟨S1,g1,g2,g3,g4,g5⟩:=q;exact⟨g5,g9 g4.blk 1 _ rfl,i6 g4.blk⟩
     have V:=h.r1;have ao:∀b,S b->¬(c b∨b=p):=fun b f q=>q.elim (T b f).1 fun q=>by have:=(T b f).2;rw[q,V]at this;omega
     have af:∀{w2},d7 (fun b=>c b∨b=p) w w2->Sl w2 (fun b=>rs b=2) 65 1 (.slice ta n E) al n:=fun q=>by
      rw[C];refine hts.turned q fun b f z=>?_
      rcases z with z|z
      ·have:=F b z;omega
      ·rw[z,V]at f;omega
     have am:Hid (∀w2 W,d7 (fun b=>c b∨b=p) w w2->TF w2 W->CZ 69 #[.slice a t.length cap] W fun e w'=>∃v,e=.returned v∧Sl w' (fun b=>w2.heap.size<=b) 96 2 v (o6 t) t.length∧TF w2 w'):=fun w2 W P q=>by
      have ap:H1 W S a cap t:=(H.turned P ao).turned q fun _ _ z=>z
      refine(lu (a:=a) (n:=t.length) (cap:=cap) (xs:=o6 t) W (fun w' z=>lL (ap.turned z fun _ _ y=>y)) (fun z=>by subst z;exact ry ap) htl).mono fun e w'⟨v,G,x2,x3⟩=>⟨v,G,x2.widen fun b f=>LR q.size f,q.tr x3⟩
     have au:Hid (∀w2 W,d7 (fun b=>c b∨b=p) w w2->TF w2 W->Sl W (fun b=>rs b=2) 65 1 (.slice ta n E) al n):=fun w2 W P q=>(af P).turned q fun _ _ z=>z
     have an:Hid (∀w2 j m,d7 (fun b=>c b∨b=p) w w2->TF w2 j->d7 (fun b=>rs b=2) j m->eE w c d p rs (.slice ta n E) M D1 g w2->m.cell? ⟨p,1,none⟩=some (.slice ta n E)∧m.frozen? ⟨p,1,none⟩=false∧p<m.heap.size):=fun w2 j m P q3 q4 z=>by obtain⟨S1,g1,g2,g3,g4,g5⟩:=z;have f:=j9 (j9 g4.blk q3 id) q4 (by rw[V];decide);exact⟨g9 f 1 _ rfl,j7 f 1,i6 f⟩
     have ar:Hid (∀w2 j W3 m v v',eE w c d p rs (.slice ta n E) M D1 g w2->TF w2 j->Sl j (fun b=>w2.heap.size<=b) 96 2 v (o6 t) t.length->TF j W3->d7 (fun b=>rs b=2) W3 m->Sl m (F2 (fun b=>rs b=2) W3) 65 1 v' (al++[v]) (n+1)->fA w c rs d p D1 {g with trees:=g.trees++[t]} (m.setCell ⟨p,1,none⟩ v')):=fun w2 j W3 m v v' q1 P q3 q4 q5 q6=>by
      have hT:d7 (fun b=>c b∨b=p) w w2:=by obtain⟨_,_,_,_,_,z⟩:=q1;exact z
      refine yf q1 F h.bnd H.2.2.1 (by rw[aa];exact af hT) (fun i u hu=>?_) P q3 q4 q5 (by rw[aa];exact q6);rw[X]at hu;obtain⟨a',aw,e1,e2⟩:=ac i u hu;refine⟨a',aw,e1,e2.turned hT fun b f z=>?_⟩;rcases z with z|z
      ·have:=F b z;omega
      ·rw[z,V]at f;omega
     have m1:Hid (n+1<=maxLen∧(n+1)*24<=140737488355328):=i7 ⟨by simp only[maxLen];omega,by omega⟩;have av:Hid (wrap64 ((n:Nat):Int)=(n:Int)):=i7 (by simp only[wrap64];omega);clear I h J H r he hts ac N f X aj O htl T ab F U C aa ao af V;go_enter func21,ntmps21;go_wp2_with(first|(go_fit L;rintro e A⟨rfl,rfl⟩)|(go_fit B;rintro e A⟨rfl,q⟩;obtain⟨k1,k2⟩:=C1.o _ q;replace q:=i7 q)|(go_fit(HW.o _ q.o);rintro e w2⟨rfl,z⟩;obtain⟨G,x2,x3⟩:=HX.o _ z;replace G:=i7 G;replace z:=i7 z;clear k1 k2 ag R));go_region_law ((first|(go_simp;go_at_call 69;(first|(with_reducible refine(am.o _ _ G.o TQ).mono ?_)|(with_reducible refine(am.o _ _ G.o TD).mono ?_));rintro e j⟨v,rfl,ah,ht⟩;obtain⟨ca,cc,rfl,-,-⟩:=ah.value;obtain⟨y1,y2,y3⟩:=an.o w2 j j G.o ht TQ z.o;have Y:Hid (Sl j (fun b=>w2.heap.size<=b) 96 2 (.slice ca t.length cc) (o6 t) t.length∧TF w2 j):=⟨ah,ht⟩;clear ah ht)|(refine o5 (by rfl) _ _ 75 75 (by rfl) (au.o w2 _ G.o (Y.o.2.new _)) underlying75 info65 rfl (by decide) (by rfl) (.slice (some ⟨j.heap.size,0,none⟩) 1 1) (by rfl) (G5 65 underlying75 [.slice ca t.length cc] (by simp[Value.oneCell']) j) m1.o.1 m1.o.2 ?_;intro v' m ai ak;obtain⟨a4,c4,rfl,-,-⟩:=ai.value;obtain⟨y4,y5,y6⟩:=an.o w2 _ m G.o (Y.o.2.new _) ak z.o;have Y4:=i7 (ar.o w2 j _ m _ _ z.o Y.o.2 Y.o.1 TA ak ai);clear ai ak)))
     all_goals go_wp2
     all_goals rw[Q.o]
     all_goals exact⟨by rw[l.o];dsimp only;rw[HN.o];exact congrArg (fun i:Int=>Ending.returned (.tuple #[.int .i64 i,.int .i64 0])) av.o,by rw[l.o];exact Y4.o⟩
    ·have l:Hid (addTree D s t=(D1,g,0,K)):=gh r he (by rw[<-C];exact N) O hK;have AD:Hid (∀w',eE w c d p rs (.slice ta n E) M D1 g w'->fA w c rs d p D1 g w'):=fun w' q=>q.ad F h.bnd
     have e3:((K:Int)==0)=false:=by simp;omega
     have e4:((K:Int) !=0)=true:=by simp;omega
     clear I h J H r he hts ac N f X aj O htl T ab F U C hK;go_enter func21,ntmps21;go_wp2_with(first|(go_fit L;rintro e A⟨rfl,rfl⟩)|(go_fit B;rintro e A⟨rfl,q⟩;obtain⟨k1,k2⟩:=C1.o _ q;replace q:=i7 q)|(go_fit(HW.o _ q.o);rintro e w2⟨rfl,z⟩;replace z:=i7 z));rw[Q.o];exact⟨by rw[l.o];rfl,by rw[l.o];exact AD.o _ z.o⟩
theorem info55:(prog.info? 55).map (fun i=>(i.zero,i.size,i.bytes))=some (some (.agg #[.slice none 0 0,.int .i64 0]),2,32):=by kernel_rfl
theorem se{w w2 n l f:World}{y:Nat->Prop}{rs:Nat->Nat}{d p:Nat}{D':Dk}{N H v k:Value}{h:List Value}{s:St}{c:Cm}
  (hw:eE w y d p rs N H D' s w2) (Y:∀b,y b->rs b=0) (X:∀b,rs b≠0->b<w.heap.size)
  (hl:∀x∈c.par,eO x) (ac:Sl w2 (fun b=>rs b=3) 55 2 H h s.commits.length) (ab:∀(i:Nat)(c:Cm),s.commits[i]?=some c->∃a cap,h[i*2]?=some (.slice a c.par.length cap)∧h[i*2+1]?=some (.int .i64 c.tree)∧p7 w2 (fun b=>rs b=4) a cap c.par)
  (M:TF w2 n) (hv:Sl n (fun b=>w2.heap.size<=b) 3 1 v (ic c.par) c.par.length) (C:TF n l)
  (D:d7 (fun b=>rs b=3) l f) (hs:Sl f (F2 (fun b=>rs b=3) l) 55 2 k (h++[v,.int .i64 c.tree]) (s.commits.length+1)):
  fA w y rs d p D' {s with commits:=s.commits++[c]} (f.setCell ⟨p,2,none⟩ k):=by
 obtain⟨F,V,I,J,m,K⟩:=hw;have L:∀b,F b->rs b=0:=fun b e=>by
  rcases I b e with q|q
  ·exact Y b q
  ·apply LK;intro z;have:=X b z;omega
 have s2:=K.size;have s3:=M.size;have ai:=C.size;have s4:=D.size;have r1:=m.r1;have aa:=m.bnd p (by omega);have P:TF w2 l:=M.tr C;have G:d7 (fun b=>rs b=3) w2 f:=P.comp D fun i _ q=>q.elim False.elim id
 have E:d7 (· =p) f (f.setCell ⟨p,2,none⟩ k):=d7.setCell (S:=(· =p)) (p:=⟨p,2,none⟩) rfl _;have r:d7 (fun b=>rs b=3∨b=p) w2 (f.setCell ⟨p,2,none⟩ k):=G.comp E fun i _ q=>q
 have A:(f.setCell ⟨p,2,none⟩ k).heap.size=f.heap.size:=n8 _ _ _;obtain⟨g,t⟩:∃g:Nat->Nat,g=fun b=>if b<w2.heap.size then rs b else if b<n.heap.size then 4 else if b<l.heap.size then 0 else if b<f.heap.size then 3 else 0:=⟨_,rfl⟩
 have B:∀b,b<w2.heap.size->g b=rs b:=fun b e=>by rw[t];simp only[if_pos e]
 have af:∀b,w2.heap.size<=b->b<n.heap.size->g b=4:=fun b h1 h2=>by rw[t];simp only;rw[if_neg (by omega),if_pos h2]
 have ag:∀b,l.heap.size<=b->b<f.heap.size->g b=3:=fun b h1 h2=>by rw[t];simp only;rw[if_neg (by omega),if_neg (by omega),if_neg (by omega),if_pos h2]
 have ae:∀b,g b≠0->b<f.heap.size:=fun b e=>by
  rw[t]at e;simp only at e;split at e
  ·omega
  ·split at e
   ·omega
   ·split at e
    ·omega
    ·split at e
     ·assumption
     ·exact absurd rfl e
 have u:∀b,rs b≠0->g b=rs b:=fun b e=>B b (by have:=m.bnd b e;omega)
 refine⟨F,g,N,k,V.turned r fun b e q=>?_,I,fun b e=>by rw[A];have:=J b e;omega,⟨by rw[u p (by omega),r1],?_,?_,?_,fun b e=>by rw[A];exact ae b e⟩,fun b e=>?_,fun b e=>by rw[B b (J b e)];exact L b e,K.comp r fun i j q=>?_⟩
 ·have:=L b e;rcases q with q|q
  ·omega
  ·rw[q]at this;omega
 ·have h4:f.heap[p]?=w2.heap[p]?:=G.block p aa (by omega);have e:=h4.trans m.blk;have:=j8 e (o:=2) k;simpa[X8]using this
 ·refine M6.roles (m.trees.keep r fun b e z=>?_) fun b e=>u b e
  rcases z with z|z
  ·omega
  ·rw[z,r1]at e;omega
 ·refine⟨h++[v,.int .i64 c.tree],?_,fun i O j=>?_⟩
  ·have:=(hs.turned E fun b e q=>by
    rcases e with e|e
    ·rw[q,r1]at e;omega
    ·omega)
   rw[List.length_append];refine E7 this fun b e q=>?_
   rw[A]at e;rcases q with q|q
   ·rw[u b (by omega)];exact q
   ·exact ag b q e
  ·rw[List.getElem?_append]at j;have ah:h.length=s.commits.length*2:=ac.1;split at j
   ·rename_i q;obtain⟨a,cap,Q,U,R⟩:=ab i O j;refine⟨a,cap,by rw[List.getElem?_append_left (by omega)];exact Q,by rw[List.getElem?_append_left (by omega)];exact U,(R.turned r fun b e z=>?_).mono fun b e=>by rw[u b (by omega)];exact e⟩;rcases z with z|z
    ·omega
    ·rw[z,r1]at e;omega
   ·rename_i q;obtain⟨a,cap,ad,Z⟩:=gU (E7 hv (T:=fun b=>w2.heap.size<=b∧b<n.heap.size) fun b h1 h2=>⟨h2,h1⟩) hl;have W:i-s.commits.length=0:=by have:=(LA.1 j).1;simpa using this
    rw[W]at j;obtain rfl:c=O:=by simpa using j
    refine⟨a,cap,by rw[List.getElem?_append_right (by omega),show i*2-h.length=0 by omega,ad];rfl,by rw[List.getElem?_append_right (by omega),show i*2+1-h.length=1 by omega];rfl,((Z.turned C fun _ _ z=>z).turned (D.comp E fun i _ q=>q) fun b e z=>?_).mono fun b e=>af b e.1 e.2⟩;rcases z with z|z
    ·have:=m.bnd b (by omega);omega
    ·omega
 ·by_cases q:b<w2.heap.size
  ·rw[B b q]at e;exact .inl e
  ·exact .inr (by omega)
 ·rcases q with q|q|q
  ·exact q.imp id fun q=>by rw[q];omega
  ·exact .inr (by omega)
  ·exact .inr (by rw[q];omega)
end Go.Proofs.YtofcogekgcgjhaaGreatDoor

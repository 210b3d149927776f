/- Packed. -/
import Derived.Test.YtofcogekgcgjhaaGreatDoorZzba
import Derived.Test.YtofcogekgcgjhaaGreatDoorZzbk
set_option maxRecDepth 100000
set_option maxHeartbeats 8000000
namespace Go.Proofs.YtofcogekgcgjhaaGreatDoor
open Go.RowKit Go.Mine Go.Mine.Ac Go.Proofs.Tryz
theorem Ao{w:World}{S:Nat->Prop}{d:Nat}{D:Dk}(h:J0 w S d D)(c:D.Ok)(f:D.pend.length<=1000000000)(x y:ByteArray):
  CZ 227 #[pt d,.string x,.string y] w fun e w'=>e=.returned (.int .i64 ((D.rename x y).2:Nat))∧A9 w S d (D.rename x y).1 w':=by
 obtain⟨k,i,g,j,F,h1,h2⟩:=h;exact(rd h1 c f x y).mono fun e w'⟨a,b⟩=>⟨a,A9.of b h2⟩
theorem sO{w:World}{S:Nat->Prop}{d:Nat}{D:Dk}(h:J0 w S d D)(c:D.Ok)(f:D.pend.length<=1000000000)(x:ByteArray):
  CZ 38 #[pt d,.string x] w fun e w'=>e=.returned (.int .i64 ((D.remove x).2:Nat))∧A9 w S d (D.remove x).1 w':=by
 obtain⟨k,i,g,j,F,h1,h2⟩:=h;exact(qW h1 c f x).mono fun e w'⟨a,b⟩=>⟨a,A9.of b h2⟩
theorem pM{w:World}{S:Nat->Prop}{d:Nat}{D:Dk}(h:J0 w S d D)(a:D.Ok):CZ 36 #[pt d] w (J2 w D):=by obtain⟨f,c,b,e,F,h1,h2⟩:=h;exact vx h1 a
theorem sP{D D1 D2 a b:Dk}{tmp c name:ByteArray}{k:Nat}(h:D.create tmp=(D1,0))(h2:D1.append tmp c=(D2,0))(h3:D2.sync tmp=(a,0))(h4:a.rename tmp name=(b,k)):D3 D tmp c name=(b,k):=by unfold D3;rw[h];simp only;rw[h2];simp only;rw[h3];simp only;rw[h4]
theorem Ap{w:World}{a b1 p d:Nat}{b:ByteArray}{k:Nat}{c:World->Prop}(i:w.cell? ⟨a,0,none⟩=some (pt p))(j:w.cell? ⟨b1,0,none⟩=some (.string b))(g:w.cell? ⟨p,0,none⟩=some (pt d))
  (f:∀W,TF w W->CZ 33 #[pt d,.string b] W fun e w'=>e=.returned (.int .i64 k)∧c w') (h:∀W,c W->W.cell? ⟨a,0,none⟩=some (pt p)∧W.cell? ⟨b1,0,none⟩=some (.string b)∧W.cell? ⟨p,0,none⟩=some (pt d)):
  CZ 223 #[pt a,pt b1] w fun e w'=>e=.returned (.int .i64 k)∧c w':=by
 have n:=n7 i;have l1:=n7 j;have r:=n7 g;have l:=i7 f;have m:=i7 h;clear f h;go_enter func223,ntmps223;go_wp2
 go_region_held3 (fun W=>W.cell? ⟨a,0,none⟩=some (pt p)∧W.cell? ⟨b1,0,none⟩=some (.string b)∧W.cell? ⟨p,0,none⟩=some (pt d)) (first|(exact⟨i,j,g⟩)|(exact m.o _ q.o)|go_keep)
  (first|(go_fit(l.o _ TD);rintro e w'⟨rfl,q⟩;replace q:=i7 q))
 all_goals go_wp2
 all_goals go_ret
 all_goals exact⟨rfl,q.o⟩
theorem Aq{w:World}{a b1 b2 p d:Nat}{b c:ByteArray}{k:Nat}{f:World->Prop}(j:w.cell? ⟨a,0,none⟩=some (pt p))(l:w.cell? ⟨b1,0,none⟩=some (.string b))(m:w.cell? ⟨b2,0,none⟩=some (.string c))(h:w.cell? ⟨p,0,none⟩=some (pt d))
  (g:∀W,TF w W->CZ 34 #[pt d,.string b,.string c] W fun e w'=>e=.returned (.int .i64 k)∧f w') (i:∀W,f W->W.cell? ⟨a,0,none⟩=some (pt p)∧W.cell? ⟨b1,0,none⟩=some (.string b)∧W.cell? ⟨b2,0,none⟩=some (.string c)∧W.cell? ⟨p,0,none⟩=some (pt d)):
  CZ 224 #[pt a,pt b1,pt b2] w fun e w'=>e=.returned (.int .i64 k)∧f w':=by
 have s:=n7 j;have l1:=n7 l;have l2:=n7 m;have t:=n7 h;have n:=i7 g;have r:=i7 i;clear g i;go_enter func224,ntmps224;go_wp2
 go_region_held3 (fun W=>W.cell? ⟨a,0,none⟩=some (pt p)∧W.cell? ⟨b1,0,none⟩=some (.string b)∧W.cell? ⟨b2,0,none⟩=some (.string c)∧W.cell? ⟨p,0,none⟩=some (pt d)) (first|(exact⟨j,l,m,h⟩)|(exact r.o _ q.o)|go_keep)
  (first|(go_fit(n.o _ TD);rintro e w'⟨rfl,q⟩;replace q:=i7 q))
 all_goals go_wp2
 all_goals go_ret
 all_goals exact⟨rfl,q.o⟩
theorem Ar{w:World}{a b1 p d:Nat}{b:ByteArray}{k:Nat}{c:World->Prop}(i:w.cell? ⟨a,0,none⟩=some (pt p))(j:w.cell? ⟨b1,0,none⟩=some (.string b))(g:w.cell? ⟨p,0,none⟩=some (pt d))
  (f:∀W,TF w W->CZ 155 #[pt d,.string b] W fun e w'=>e=.returned (.int .i64 k)∧c w') (h:∀W,c W->W.cell? ⟨a,0,none⟩=some (pt p)∧W.cell? ⟨b1,0,none⟩=some (.string b)∧W.cell? ⟨p,0,none⟩=some (pt d)):
  CZ 225 #[pt a,pt b1] w fun e w'=>e=.returned (.int .i64 k)∧c w':=by
 have n:=n7 i;have l1:=n7 j;have r:=n7 g;have l:=i7 f;have m:=i7 h;clear f h;go_enter func225,ntmps225;go_wp2
 go_region_held3 (fun W=>W.cell? ⟨a,0,none⟩=some (pt p)∧W.cell? ⟨b1,0,none⟩=some (.string b)∧W.cell? ⟨p,0,none⟩=some (pt d)) (first|(exact⟨i,j,g⟩)|(exact m.o _ q.o)|go_keep)
  (first|(go_fit(l.o _ TD);rintro e w'⟨rfl,q⟩;replace q:=i7 q))
 all_goals go_wp2
 all_goals go_ret
 all_goals exact⟨rfl,q.o⟩
theorem As{w:World}{a b1 b2 p d:Nat}{b c:ByteArray}{k:Nat}{f:World->Prop}(j:w.cell? ⟨a,0,none⟩=some (pt p))(l:w.cell? ⟨b1,0,none⟩=some (.string b))(m:w.cell? ⟨b2,0,none⟩=some (.string c))(h:w.cell? ⟨p,0,none⟩=some (pt d))
  (g:∀W,TF w W->CZ 227 #[pt d,.string b,.string c] W fun e w'=>e=.returned (.int .i64 k)∧f w') (i:∀W,f W->W.cell? ⟨a,0,none⟩=some (pt p)∧W.cell? ⟨b1,0,none⟩=some (.string b)∧W.cell? ⟨b2,0,none⟩=some (.string c)∧W.cell? ⟨p,0,none⟩=some (pt d)):
  CZ 226 #[pt a,pt b1,pt b2] w fun e w'=>e=.returned (.int .i64 k)∧f w':=by
 have s:=n7 j;have l1:=n7 l;have l2:=n7 m;have t:=n7 h;have n:=i7 g;have r:=i7 i;clear g i;go_enter func226,ntmps226;go_wp2
 go_region_held3 (fun W=>W.cell? ⟨a,0,none⟩=some (pt p)∧W.cell? ⟨b1,0,none⟩=some (.string b)∧W.cell? ⟨b2,0,none⟩=some (.string c)∧W.cell? ⟨p,0,none⟩=some (pt d)) (first|(exact⟨j,l,m,h⟩)|(exact r.o _ q.o)|go_keep)
  (first|(go_fit(n.o _ TD);rintro e w'⟨rfl,q⟩;replace q:=i7 q))
 all_goals go_wp2
 all_goals go_ret
 all_goals exact⟨rfl,q.o⟩
theorem vy{w:World}(o1 o2 e d:Obj):TF w ((((w.alloc o1).alloc o2).alloc e).alloc d)∧((((w.alloc o1).alloc o2).alloc e).alloc d).heap[w.heap.size]?=some o1∧((((w.alloc o1).alloc o2).alloc e).alloc d).heap[w.heap.size+1]?=some o2∧((((w.alloc o1).alloc o2).alloc e).alloc d).heap[w.heap.size+1+1]?=some e∧((((w.alloc o1).alloc o2).alloc e).alloc d).heap[w.heap.size+1+1+1]?=some d:=by
 obtain⟨t,a,b,c⟩:=jX (w:=w) o1 o2 e;have f:(((w.alloc o1).alloc o2).alloc e).heap.size=w.heap.size+1+1+1:=by simp
 refine⟨t.new _,G8 d (i6 a)|>.trans a,G8 d (i6 b)|>.trans b,G8 d (i6 c)|>.trans c,?_⟩;rw[<-f];exact i8 _ _
theorem jj{D a:Dk}{tmp d name:ByteArray}(h:D3 D tmp d name=(a,0)):∃D1 D2 c,D.create tmp=(D1,0)∧D1.append tmp d=(D2,0)∧D2.sync tmp=(c,0)∧c.rename tmp name=(a,0):=by
 unfold D3 at h;split at h
 ·rename_i d1 f;split at h
  ·rename_i d2 g;split at h
   ·rename_i e i;exact⟨d1,d2,e,f,g,i,h⟩
   ·rename_i b;exact absurd h (b a)
  ·rename_i b;exact absurd h (b a)
 ·rename_i b;exact absurd h (b a)
theorem sQ{w:World}{S:Nat->Prop}{d p:Nat}{D:Dk}{lv gv:Value}(hD:J0 w S d D)(ad:D.Ok)(U:R7 D 900000000)(hp:w.heap[p]?=some (.cells #[pt d,lv,gv] 116))(af:¬S p)(aa:∀b,S b->b<w.heap.size)(tmp k name:ByteArray)(ag:k.size<=1099511627776){H:Dk}(hX:D3 D tmp k name=(H,0)):
  CZ 136 #[pt p,.string tmp,.string k,.string name] w fun e w'=>e=.returned (.int .i64 0)∧A9 w S d H w':=by
 obtain⟨D1,D2,G,h1,h2,h3,h4⟩:=jj hX;obtain⟨X,R⟩:=EX ((((w.alloc (.cells #[pt p] 26)).alloc (.cells #[.string tmp] 9)).alloc (.cells #[.string k] 9)).alloc (.cells #[.string name] 9));obtain⟨tV,Y,b1,b2,b3⟩:=vy (w:=w) (.cells #[pt p] 26) (.cells #[.string tmp] 9) (.cells #[.string k] 9) (.cells #[.string name] 9);have zV:X.heap.size=w.heap.size+1+1+1+1:=by rw[R];simp
 rw[<-R]at tV Y b1 b2 b3;obtain⟨fs,ac⟩:=EX (Obj.cells #[.func (.func 223) #[] #[pt w.heap.size,pt (w.heap.size+1)],.func (.func 224) #[] #[pt w.heap.size,pt (w.heap.size+1),pt (w.heap.size+1+1)],.func (.func 225) #[] #[pt w.heap.size,pt (w.heap.size+1)],.func (.func 226) #[] #[pt w.heap.size,pt (w.heap.size+1),pt (w.heap.size+1+1+1)]] 137);obtain⟨a,T⟩:=EX (X.alloc fs);have ao:Hid (a=((((w.alloc (.cells #[pt p] 26)).alloc (.cells #[.string tmp] 9)).alloc (.cells #[.string k] 9)).alloc (.cells #[.string name] 9)).alloc (.cells #[.func (.func 223) #[] #[pt w.heap.size,pt (w.heap.size+1)],.func (.func 224) #[] #[pt w.heap.size,pt (w.heap.size+1),pt (w.heap.size+1+1)],.func (.func 225) #[] #[pt w.heap.size,pt (w.heap.size+1)],.func (.func 226) #[] #[pt w.heap.size,pt (w.heap.size+1),pt (w.heap.size+1+1+1)]] 137)):=by rw[T,R,ac];exact rfl
 have F:TF X a:=by rw[T];exact TA
 have Z:a.heap[w.heap.size+1+1+1+1]?=some fs:=by rw[T,<-zV];exact i8 _ _
 rw[ac]at Z;have N:TF w a:=tV.tr F;have ap:=i6 hp;have l:Hid (∀W,d7 S a W->(W.cell? ⟨w.heap.size,0,none⟩=some (pt p)∧W.cell? ⟨w.heap.size+1,0,none⟩=some (.string tmp)∧W.cell? ⟨w.heap.size+1+1,0,none⟩=some (.string k)∧W.cell? ⟨w.heap.size+1+1+1,0,none⟩=some (.string name)∧W.cell? ⟨p,0,none⟩=some (pt d))∧W.heap[w.heap.size+1+1+1+1]?=some (.cells #[.func (.func 223) #[] #[pt w.heap.size,pt (w.heap.size+1)],.func (.func 224) #[] #[pt w.heap.size,pt (w.heap.size+1),pt (w.heap.size+1+1)],.func (.func 225) #[] #[pt w.heap.size,pt (w.heap.size+1)],.func (.func 226) #[] #[pt w.heap.size,pt (w.heap.size+1),pt (w.heap.size+1+1+1)]] 137)):=fun W t=>by
  have M:∀b,w.heap.size<=b->¬S b:=fun b j z=>by have:=aa b z;omega
  exact⟨⟨g9 (j9 (j9 Y F id) t (M _ (by omega))) 0 _ rfl,g9 (j9 (j9 b1 F id) t (M _ (by omega))) 0 _ rfl,g9 (j9 (j9 b2 F id) t (M _ (by omega))) 0 _ rfl,g9 (j9 (j9 b3 F id) t (M _ (by omega))) 0 _ rfl,g9 (j9 (j9 hp N id) t af) 0 _ rfl⟩,j9 Z t (M _ (by omega))⟩
 have an:Hid (TF w a):=N;have o1:=ad.createOk tmp;have q1:=U.create tmp;rw[h1]at o1 q1;have o2:=o1.appendOk tmp k;have q2:=q1.append tmp k;rw[h2]at o2 q2;have o3:=o2.syncOk tmp;have q3:=q2.sync tmp;rw[h3]at o3 q3;have F0:A9 a S d D a:=A9.stay (hD.turned N fun _ _ z=>z) fun b j=>LC (aa b j) N.size
 have aj:Hid (∀W,A9 a S d D W->CZ 223 #[pt w.heap.size,pt (w.heap.size+1)] W fun e w'=>e=.returned (.int .i64 0)∧A9 a S d D1 w'):=fun W f=>by
  obtain⟨O,m,n,J,c⟩:=f;obtain⟨⟨r,s,K,L,u⟩,-⟩:=l.o W c;refine Ap r s u (fun h t=>?_) fun h⟨V,_,_,_,C⟩=>by obtain⟨⟨v,A,P,Q,B⟩,-⟩:=l.o h C;exact⟨v,A,B⟩
  have:=sf (m.turned t fun _ _ z=>z) ad (by have:=U.1;omega) (by have:=U.2;omega) tmp;rw[h1]at this;exact this.mono fun e w'⟨x,y⟩=>⟨x,(y.next n ((c.trans t fun _ _ z=>z.elim)))⟩
 have ak:Hid (∀W,A9 a S d D1 W->CZ 224 #[pt w.heap.size,pt (w.heap.size+1),pt (w.heap.size+1+1)] W fun e w'=>e=.returned (.int .i64 0)∧A9 a S d D2 w'):=fun W f=>by
  obtain⟨O,m,n,J,c⟩:=f;obtain⟨⟨r,s,K,L,u⟩,-⟩:=l.o W c;refine Aq r s K u (fun h t=>?_) fun h⟨V,_,_,_,C⟩=>by obtain⟨⟨v,A,P,Q,B⟩,-⟩:=l.o h C;exact⟨v,A,P,B⟩
  have:=rX (m.turned t fun _ _ z=>z) o1 tmp k ag;rw[h2]at this;exact this.mono fun e w'⟨x,y⟩=>⟨x,(y.next n ((c.trans t fun _ _ z=>z.elim)))⟩
 have al:Hid (∀W,A9 a S d D2 W->CZ 225 #[pt w.heap.size,pt (w.heap.size+1)] W fun e w'=>e=.returned (.int .i64 0)∧A9 a S d G w'):=fun W f=>by
  obtain⟨O,m,n,J,c⟩:=f;obtain⟨⟨r,s,K,L,u⟩,-⟩:=l.o W c;refine Ar r s u (fun h t=>?_) fun h⟨V,_,_,_,C⟩=>by obtain⟨⟨v,A,P,Q,B⟩,-⟩:=l.o h C;exact⟨v,A,B⟩
  have:=Ab (m.turned t fun _ _ z=>z) o2 tmp;rw[h3]at this;exact this.mono fun e w'⟨x,y⟩=>⟨x,(y.next n ((c.trans t fun _ _ z=>z.elim)))⟩
 have am:Hid (∀W,A9 a S d G W->CZ 226 #[pt w.heap.size,pt (w.heap.size+1),pt (w.heap.size+1+1+1)] W fun e w'=>e=.returned (.int .i64 0)∧A9 a S d H w'):=fun W f=>by
  obtain⟨O,m,n,J,c⟩:=f;obtain⟨⟨r,s,K,L,u⟩,-⟩:=l.o W c;refine As r s L u (fun h t=>?_) fun h⟨V,_,_,_,C⟩=>by obtain⟨⟨v,A,P,Q,B⟩,-⟩:=l.o h C;exact⟨v,A,Q,B⟩
  have:=Ao (m.turned t fun _ _ z=>z) o3 (by have:G.pend.length<=900000000+1:=q3.1;omega) tmp name;rw[h4]at this;exact this.mono fun e w'⟨x,y⟩=>⟨x,(y.next n ((c.trans t fun _ _ z=>z.elim)))⟩
 have B0:Hid (A9 a S d D a):=F0;obtain⟨fa,ab⟩:=EX (w.heap.size+1+1+1+1);have ah:Hid (∀W,d7 S a W->W.heap[fa]?=some (.cells #[.func (.func 223) #[] #[pt w.heap.size,pt (w.heap.size+1)],.func (.func 224) #[] #[pt w.heap.size,pt (w.heap.size+1),pt (w.heap.size+1+1)],.func (.func 225) #[] #[pt w.heap.size,pt (w.heap.size+1)],.func (.func 226) #[] #[pt w.heap.size,pt (w.heap.size+1),pt (w.heap.size+1+1+1)]] 137)):=fun W t=>by rw[ab];exact(l.o W t).2
 have ai:Hid (fa=w.heap.size+1+1+1+1):=ab;clear hD ad U hp af aa ag R tV Y b1 b2 b3 zV T F Z N ap ac h1 h2 h3 h4 o1 q1 o2 q2 o3 q3 F0 ab hX;go_enter func136,ntmps136;go_wp2;rw[<-ao.o,<-ai.o];go_loopg[18] 4 (fun g iv wr=>∃i:Nat,i+g=4∧iv=.int .i64 i∧A9 a S d (I0 D D1 D2 G H i) wr)
 case atStart=>exact⟨0,rfl,rfl,B0.o⟩
 case round=>
  obtain⟨i,ae,rfl,hf⟩:=hrel;have E:Hid (i+gk=4):=ae;have I:Hid (A9 a S d (I0 D D1 D2 G H i) wr):=hf;obtain⟨O,m,n,J,c⟩:=hf;have j:=ah.o wr c;have r:=g9 j 0 _ rfl;have s:=g9 j 1 _ rfl;have K:=g9 j 2 _ rfl;have L:=g9 j 3 _ rfl;have lf:=i6 j;clear j m n J c ae B0;by_cases hi:i<4
  ·rcases(by omega:i=0∨i=1∨i=2∨i=3)with rfl|rfl|rfl|rfl
   all_goals
    go_wp2_with(first
     |(go_fit(aj.o wr I.o);rintro e w2⟨rfl,q⟩;replace q:=i7 q)
     |(go_fit(ak.o wr I.o);rintro e w2⟨rfl,q⟩;replace q:=i7 q)
     |(go_fit(al.o wr I.o);rintro e w2⟨rfl,q⟩;replace q:=i7 q)
     |(go_fit(am.o wr I.o);rintro e w2⟨rfl,q⟩;replace q:=i7 q))
    go_roundg (gk-1)
    case measure=>have:=E.o;omega
   ·exact⟨1,by have:=E.o;omega,rfl,q.o⟩
   ·exact⟨2,by have:=E.o;omega,rfl,q.o⟩
   ·exact⟨3,by have:=E.o;omega,rfl,q.o⟩
   ·exact⟨4,by have:=E.o;omega,rfl,q.o⟩
  ·obtain rfl:i=4:=by have:=E.o;omega
   go_wp2;go_ret;exact⟨rfl,A9.next I.o (fun b j=>.inl j) (an.o.mono fun _ _ z=>z.elim)⟩
structure gK (V wr:World) (S1 S2 S3:Nat->Prop) (av ov:Value) (all:List Int) (out:List Rw):Prop where
 al:Sl wr S1 3 1 av (ic all) all.length
 ou:W7 wr S2 S3 ov out
 b1:∀b,S1 b->V.heap.size<=b∧b<wr.heap.size
 b2:∀b,S2 b->V.heap.size<=b∧b<wr.heap.size
 b3:∀b,S3 b->V.heap.size<=b∧b<wr.heap.size
 d12:∀b,S1 b->¬S2 b
 d13:∀b,S1 b->¬S3 b
 d23:∀b,S2 b->¬S3 b
 tu:d7 (fun b=>V.heap.size<=b) V wr
theorem gK.keep{f wr w':World}{c d e:Nat->Prop}{g k:Value}{all:List Int}{j:List Rw}(h:gK f wr c d e g k all j)(t:d7 (fun b=>wr.heap.size<=b) wr w'):gK f w' c d e g k all j:=by
 have m:=t.size;have l:=h.tu.size;refine⟨h.al.turned t fun b a q=>?_,h.ou.turned t (fun b a q=>?_) fun b a q=>?_,fun b a=>?_,fun b a=>?_,fun b a=>?_,h.d12,h.d13,h.d23,h.tu.trans t fun i _ q=>by omega⟩
 ·have:=h.b1 b a;omega
 ·have:=h.b2 b a;omega
 ·have:=h.b3 b a;omega
 ·have:=h.b1 b a;omega
 ·have:=h.b2 b a;omega
 ·have:=h.b3 b a;omega
theorem gK.pushAll{j d W w2:World}{c f g:Nat->Prop}{r m p:Value}{all:List Int}{l:List Rw}{x:Int}(h:gK j d c f g r m all l)(o:TF d W)(n:d7 c W w2)
  (s:Sl w2 (F2 c W) 3 1 p (ic all++[.int .i64 x]) (all.length+1)):∃e,gK j w2 e f g p m (all++[x]) l∧∀b,e b->c b∨W.heap.size<=b:=by
 have v:=o.size;have w:=n.size;have u:=h.tu.size;have t:d7 c d w2:=o.comp n fun i _ q=>q.elim False.elim id
 have a:=s.bound;refine⟨fun b=>F2 c W b∧b<w2.heap.size,⟨?_,h.ou.turned t (fun b a q=>h.d12 b q a) fun b a q=>h.d13 b q a,fun b a=>?_,fun b a=>?_,fun b a=>?_,fun b a q=>?_,fun b a q=>?_,h.d23,h.tu.trans t fun i _ q=>(h.b1 i q).1⟩,fun b a=>a.1⟩
 ·rw[uV,List.length_append];exact a
 ·rcases a with⟨q|q,k⟩
  ·exact⟨(h.b1 b q).1,k⟩
  ·exact⟨by omega,k⟩
 ·have:=h.b2 b a;omega
 ·have:=h.b3 b a;omega
 ·rcases a.1 with z|z
  ·exact h.d12 b z q
  ·have:=h.b2 b q;omega
 ·rcases a.1 with z|z
  ·exact h.d13 b z q
  ·have:=h.b3 b q;omega
theorem gK.pushOut{m f W w2:World}{k d l P:Nat->Prop}{n p v:Value}{all:List Int}{g:List Rw}{r:Rw}{e:List Value}{a:Option Addr}{cap:Nat}(h:gK m f k d l n p all g)
  (h1:Sl f d 48 5 p e g.length) (h2:∀r∈g,ju r) (h3:∀(i:Nat)(r:Rw),g[i]?=some r->∃a cap,e[i*5]?=some (.slice a r.par.length cap)∧e[i*5+1]?=some (.int .i64 r.tree)∧e[i*5+2]?=some (.int .i64 r.gen)∧e[i*5+3]?=some (.int .i64 r.state)∧e[i*5+4]?=some (.string r.bits)∧p7 f l a cap r.par)
  (u:TF f W) (s:d7 d W w2) (J:ju r) (I:p7 f P a cap r.par) (j:∀b,P b->m.heap.size<=b∧b<f.heap.size∧¬k b∧¬d b)
  (K:Sl w2 (F2 d W) 48 5 v (e++[.slice a r.par.length cap,.int .i64 r.tree,.int .i64 r.gen,.int .i64 r.state,.string r.bits]) (g.length+1)):∃w x,gK m w2 k w x n v all (g++[r]):=by
 have N:=u.size;have O:=s.size;have M:=h.tu.size;have t:d7 d f w2:=u.comp s fun i _ q=>q.elim False.elim id
 have c:=K.bound;refine⟨fun b=>F2 d W b∧b<w2.heap.size,fun b=>l b∨P b,h.al.turned t (fun b c q=>h.d12 b c q),?_,fun b c=>?_,fun b c=>?_,fun b c=>?_,fun b c q=>?_,fun b c q=>?_,fun b c q=>?_,h.tu.trans t fun i _ q=>(h.b2 i q).1⟩
 ·refine W7.snoc h1.1 h2 (fun i y L=>?_) J (I.turned t (fun b c=>(j b c).2.2.2)|>.mono fun b c=>.inr c) c;obtain⟨A,B,C,D,E,F,G,H⟩:=h3 i y L;exact⟨A,B,C,D,E,F,G,(H.turned t fun b c q=>h.d23 b q c).mono fun b c=>.inl c⟩
 ·have:=h.b1 b c;omega
 ·rcases c with⟨q|q,o⟩
  ·exact⟨(h.b2 b q).1,o⟩
  ·exact⟨by omega,o⟩
 ·rcases c with q|q
  ·have:=h.b3 b q;omega
  ·have:=j b q;omega
 ·rcases q.1 with z|z
  ·exact h.d12 b c z
  ·have:=h.b1 b c;omega
 ·rcases q with z|z
  ·exact h.d13 b c z
  ·exact(j b z).2.2.1 c
 ·rcases c.1 with z|z
  ·rcases q with y|y
   ·exact h.d23 b z y
   ·exact(j b y).2.2.2 z
  ·rcases q with y|y
   ·have:=h.b3 b y;omega
   ·have:=j b y;omega
def wO(e:World)(s:St)(g:I2)(K:Nat)(known:List Int)(gk:Nat)(h f nv:Value)(wr:World):Prop:=∃(all:List Int)(a:List Rw)(b c d:Nat->Prop),all.length+gk=s.commits.length∧nv=.int .i64 all.length∧gK e wr b c d f h all a∧fx all∧a++E4 s g gk all=E4 s g K known∧a.length+gk=K
def dR(all:List Int)(c:Cm):List Int:=c.par.map fun p=>all.getD p.toNat 0
def At(a:World)(s:St)(c:Cm)(all:List Int)(g:Nat)(f h e:Value)(wr:World):Prop:=∃(j:Nat)(S4 d:Nat->Prop),j+g=c.par.length∧e=.int .i64 j∧Sl wr S4 96 2 f (o6 (if j=0 then []else M4 s c)) (if j=0 then []else M4 s c).length∧Sl wr d 3 1 h (ic ((dR all c).take j)) j∧(∀b,S4 b->a.heap.size<=b∧b<wr.heap.size)∧(∀b,d b->a.heap.size<=b∧b<wr.heap.size)∧(∀b,S4 b->¬d b)∧d7 (fun b=>a.heap.size<=b) a wr
theorem wP{f wr h W e:World}{s:St}{c:Cm}{all:List Int}{g j:Nat}{S4 d:Nat->Prop}{p w:Value}{x:Int}(B:j+(g+1)=c.par.length)
  (z:Sl h S4 96 2 p (o6 (M4 s c)) (M4 s c).length) (k:∀b,S4 b->f.heap.size<=b∧b<h.heap.size) (l:∀b,d b->f.heap.size<=b∧b<wr.heap.size) (m:∀b,S4 b->¬d b)
  (o:d7 (fun b=>f.heap.size<=b) f wr) (r:TF wr h) (v:TF h W) (u:d7 d W e) (hx:(dR all c)[j]?=some x)
  (A:Sl e (F2 d W) 3 1 w (ic ((dR all c).take j)++[.int .i64 x]) (j+1)):At f s c all g p w (.int .i64 ((j+1:Nat):Int)) e:=by
 have C:=o.size;have D:=r.size;have F:=v.size;have E:=u.size;have t:d7 d h e:=v.comp u fun i _ q=>q.elim False.elim id
 have a:=A.bound;refine⟨j+1,S4,fun b=>F2 d W b∧b<e.heap.size,by omega,rfl,?_,?_,fun b a=>?_,fun b a=>?_,fun b a q=>?_,o.trans ((r.comp t fun i _ q=>q.elim False.elim id):d7 d wr e) fun i _ q=>(l i q).1⟩
 ·rw[if_neg (by omega)];exact z.turned t fun b a q=>m b a q
 ·rw[List.take_add_one,hx,uV];exact a
 ·have:=k b a;omega
 ·rcases a with⟨q|q,n⟩
  ·exact⟨(l b q).1,n⟩
  ·exact⟨by omega,n⟩
 ·rcases q.1 with y|y
  ·exact m b a y
  ·have:=k b a;omega
theorem sR{all:List Int}{c:Cm}{j a:Nat}{x:Int}(h:c.par[j]?=some (a:Int))(hx:all[a]?=some x):(dR all c)[j]?=some x:=by unfold dR;rw[List.getElem?_map,h,Option.map_some,Int.toNat_natCast,List.getD_eq_getElem?_getD,hx];rfl
theorem ob{s:St}{c:Cm}{p:Int}(h:c.par[0]?=some p):M4 s c=o7 s p:=by
 unfold M4;cases a:c.par with
 |nil=>rw[a]at h;simp at h
 |cons y l=>rw[a]at h;simp at h;subst h;rfl
theorem gp{s:St}(h:B9 s)(m:Int):(o7 s m).length<=1024∧∀x∈o7 s m,(x.2≠0∧x.2<4294967296)∧x.1.size<=1000000000:=by
 have key:o7 s m=[]∨o7 s m∈s.trees:=by
  unfold o7 dL;split
  ·exact .inl rfl
  ·split
   ·exact .inl rfl
   ·rename_i t a;exact .inr (LI a)
 rcases key with q|q
 ·rw[q];exact⟨by simp,fun x hx=>by simp at hx⟩
 ·obtain⟨h1,h2⟩:=h.tree _ q;refine⟨h1.1,fun x hx=>?_⟩;obtain⟨h3,h4⟩:=checkT_each _ none h1.2 x hx;exact⟨⟨h4,h2 x hx⟩,by omega⟩
theorem pN{s:St}(h:B9 s)(c:Cm):(M4 s c).length<=1024∧∀x∈M4 s c,(x.2≠0∧x.2<4294967296)∧x.1.size<=1000000000:=by
 unfold M4;split
 ·exact⟨by simp,fun x hx=>by simp at hx⟩
 ·exact gp h _
structure dS (wr Wx:World) (bx:Nat) (f1:Int) (f2:ByteArray):Prop where
 at_:Wx.heap[bx]?=some (.cells #[.int .i64 f1,.string f2] 46)
 new:wr.heap.size<=bx
 tu:TF wr Wx
theorem dS.last{wr a:World}{f1:Int}{b:ByteArray}(t:TF wr a):dS wr (a.alloc (.cells #[.int .i64 f1,.string b] 46)) a.heap.size f1 b:=⟨i8 _ _,t.size,t.new _⟩
theorem dS.set{wr c:World}{a:Nat}{f1 x:Int}{d y:ByteArray}(t:TF wr c)(h:c.heap[a]?=some (.cells #[.int .i64 x,.string y] 46))(b:wr.heap.size<=a):dS wr ((c.setCell ⟨a,0,none⟩ (.int .i64 f1)).setCell ⟨a,1,none⟩ (.string d)) a f1 d:=⟨Ez h _ _,b,(t.fresh b _).fresh b _⟩
theorem info48r:(prog.info? 48).map (fun i=>(i.zero,i.size,i.bytes))=some (some (.agg #[.slice none 0 0,.int .i64 0,.int .i64 0,.int .i64 0,.string ⟨#[]⟩]),5,64):=by kernel_rfl
theorem Dv(a b c d e:Value)(h1:∀f∈[a,b,c,d,e],f.oneCell'=true)(U:World):Src prog 5 121 (.slice (some ⟨U.heap.size,0,none⟩) 1 1) 1 [a,b,c,d,e] (U.alloc (.cells #[a,b,c,d,e] 48))∧Src prog 5 121 (.slice (some ⟨U.heap.size,0,none⟩) 1 1) 1 [a,b,c,d,e] (U.alloc (.cells #[a,b,c,d,e] 48)).drew∧Src prog 5 121 (.slice (some ⟨U.heap.size,0,none⟩) 1 1) 1 [a,b,c,d,e] (U.alloc (.cells #[a,b,c,d,e] 48)).drew.drew:=by refine⟨G5 48 underlying121 _ h1 U,ew 48 underlying121 _ h1 U,?_⟩;refine Src.ofSlice _ underlying121 ⟨U.heap.size,0,none⟩ 1 1 [a,b,c,d,e] rfl (fun j f g=>?_) h1;rw[Addr.add_lit,Nat.zero_add];exact g9 (w:=(U.alloc (.cells #[a,b,c,d,e] 48)).drew.drew) (i8 U _) j f (by simpa using g)
theorem BM{all:List Int}(h:fx all)(c:Cm):∀x∈dR all c,eO x:=fun x hx=>by
 obtain⟨p,-,rfl⟩:=List.mem_map.1 hx;rw[List.getD_eq_getElem?_getD];cases a:all[p.toNat]?with
 |none=>simp[eO]
 |some y=>have:=h y (LI a);simp only[Option.getD_some];exact⟨by omega,by omega⟩
theorem Au(all:List Int)(c:Cm):X0 (dR all c)=fw all c:=rfl
theorem Av{l e W n:World}{k f o P:Nat->Prop}{p q u:Value}{j:List Int}{c:List Rw}{r:Rw}{d:List Value}{t:Option Addr}{pc:Nat}(h:gK l e k f o p q j c)(h1:Sl e f 48 5 q d c.length)(h2:∀r∈c,ju r)
  (h3:∀(i:Nat)(r:Rw),c[i]?=some r->∃a cap,d[i*5]?=some (.slice a r.par.length cap)∧d[i*5+1]?=some (.int .i64 r.tree)∧d[i*5+2]?=some (.int .i64 r.gen)∧d[i*5+3]?=some (.int .i64 r.state)∧d[i*5+4]?=some (.string r.bits)∧p7 e o a cap r.par)
  (I:TF e W) (H:d7 f W n) (F:ju r) (E:p7 e P t pc r.par) (D:∀b,P b->l.heap.size<=b∧b<e.heap.size∧¬k b∧¬f b)
  (G:Sl n (F2 f W) 48 5 u (d++[.slice t r.par.length pc,.int .i64 r.tree,.int .i64 r.gen,.int .i64 r.state,.string r.bits]) (c.length+1))
  {s:St} {g:I2} {K gk:Nat} {known all:List Int} {x:Int} (m:j=all++[x]) (J:all.length+(gk+1)=s.commits.length) (y:fx j) (z:c++E4 s g (gk+1) all=E4 s g K known) (L:c.length+(gk+1)=K)
  (A:x=fw all (A8 s all.length).1) (B:r=J8 s g all.length x):wO l s g K known gk u p (.int .i64 ((all.length+1:Nat):Int)) n:=by
 obtain⟨v,w,C⟩:=h.pushOut h1 h2 h3 I H F E D G;refine⟨j,c++[r],k,v,w,?_,?_,C,y,?_,?_⟩
 ·rw[m,List.length_append];simp only[List.length_cons,List.length_nil];omega
 ·rw[m,List.length_append];rfl
 ·rw[<-z,E4,<-A,<-B,m,List.append_assoc];rfl
 ·rw[List.length_append];simp only[List.length_cons,List.length_nil];omega
def fh(w:World)(l:List Rw)(e:Ending)(w':World):Prop:=∃v a c,e=.returned v∧W7 w' a c v l∧(∀b,a b->w.heap.size<=b)∧(∀b,c b->w.heap.size<=b)∧(∀b,a b∨c b->b<w'.heap.size)∧TF w w'
theorem Eb(l:List Int):∀b∈ic l,b.oneCell'=true:=fun b a=>by unfold ic at a;obtain⟨x,-,rfl⟩:=List.mem_map.1 a;rfl
theorem yx{w:World}{rs:Nat->Nat}{q:Nat}{dv tv cv:Value}{s:St}(hs:F4 140 w rs q dv tv cv s)(aU:B9 s)(g:I2)(hg:n0 g)(bR:g.seed<4294967296){S:Nat->Prop}{ka:Option Addr}{kc:Nat}{known:List Int}
  (hk:Sl w S 3 1 (.slice ka known.length kc) (ic known) known.length) (an:fx known) (cg:known.length<=s.commits.length):
  CZ 63 #[.iface 34 (pt q),J3 g,.slice ka known.length kc] w (fh w (E4 s g (s.commits.length-known.length) known)):=by
 obtain⟨Z,hZ⟩:=EX (fh w (E4 s g (s.commits.length-known.length) known));have HZ:Hid (Z=fh w (E4 s g (s.commits.length-known.length) known)):=hZ;rw[<-hZ];have hC:=aU.commits;have m1:=cW q;have m2:=ks q;obtain⟨f,hV⟩:=EX (w.alloc (.cells #[.int .i64 g.h,.int .i64 g.p,.int .i64 g.m,.int .u32 g.seed] 24));have b8:Hid (f=w.alloc (.cells #[.int .i64 g.h,.int .i64 g.p,.int .i64 g.m,.int .u32 g.seed] 24)):=hV;have tV:TF w f:=by rw[hV];exact TA
 have xV:f.heap[w.heap.size]?=some (.cells #[.int .i64 g.h,.int .i64 g.p,.int .i64 g.m,.int .u32 g.seed] 24):=by rw[hV];exact i8 _ _
 have bH:=i6 xV;have TV:Hid (TF w f∧w.heap.size<f.heap.size):=⟨tV,bH⟩;have be:Hid (∀(W:World),d7 (fun b=>f.heap.size<=b) f W->W.cell? ⟨w.heap.size,0,none⟩=some (.int .i64 g.h)∧W.cell? ⟨w.heap.size,1,none⟩=some (.int .i64 g.p)∧W.cell? ⟨w.heap.size,2,none⟩=some (.int .i64 g.m)∧W.cell? ⟨w.heap.size,3,none⟩=some (.int .u32 g.seed)∧w.heap.size<W.heap.size):=fun W t=>by have ha:=j9 xV t (by omega);exact⟨g9 ha 0 _ rfl,g9 ha 1 _ rfl,g9 ha 2 _ rfl,g9 ha 3 _ rfl,i6 ha⟩
 have aN:Hid (∀(W:World),d7 (fun b=>f.heap.size<=b) f W->F4 140 W rs q dv tv cv s):=fun W t=>(hs.turned tV fun _ _ z=>z).turned t fun b d z=>by have:=hs.bnd b d;have:=tV.size;omega
 have Q:Hid (B9 s∧n0 g∧g.seed<4294967296):=⟨aU,hg,bR⟩;have aK:Hid (CZ 65 #[.slice ka known.length kc] f fun e w'=>∃v,e=.returned v∧Sl w' (fun b=>f.heap.size<=b) 3 1 v (ic known) known.length∧TF f w'):=dj f (fun w' t=>((hk.turned tV fun _ _ z=>z).turned t fun _ _ z=>z).src underlying41 (Eb _)) (oQ hk) (by omega);obtain⟨K,hK⟩:=EX (s.commits.length-known.length);obtain⟨kn,aV⟩:=EX known.length;obtain⟨C,aQ⟩:=EX s.commits.length;have HC:Hid (C=s.commits.length∧C<=65536∧kn=known.length∧K=C-kn∧kn<=C):=⟨aQ,by omega,aV,by omega,by omega⟩;have b0:Hid (fx known):=an;have bg:Hid (∀W,d7 (fun b=>f.heap.size<=b) f W->CZ 30 #[pt q] W fun e w'=>e=.returned (.int .i64 C)∧W=w'):=fun W t=>by rw[aQ];exact O4 (aN.o W t)
 have ca:Hid (Z=fh w (E4 s g K known)):=by rw[hK];exact hZ
 rw[<-aV]at aK ⊢;clear hZ HZ hC hV tV xV bH hs aU hg bR hk an cg hK aV aQ;go_enter func63,ntmps63;go_wp2_with fail;rw[<-b8.o];go_wp2_with(go_fit aK.o;rintro e w1⟨v1,rfl,aX,ht⟩;obtain⟨a1,c1,rfl,-,-⟩:=aX.value;have P1:=i7 (And.intro aX ht);clear aX ht);have B0:Hid (wO f s g K known K (.slice none 0 0) (.slice a1 kn c1) (.int .i64 kn) w1):=by obtain⟨h1,h2,h3,h4,h5⟩:=HC.o;refine⟨known,[],fun b=>f.heap.size<=b∧b<w1.heap.size,fun _=>False,fun _=>False,by omega,by rw[h3],⟨by rw[<-h3];exact P1.o.1.bound,W7.nil _ _ _,fun b d=>d,fun b d=>d.elim,fun b d=>d.elim,fun b _ z=>z,fun b _ z=>z,fun b z=>z.elim,P1.o.2.mono fun _ _ z=>z.elim⟩,b0.o,rfl,by simp⟩
 clear aK;go_loopg[7,8,9] K (fun gk ov av nv wr=>wO f s g K known gk ov av nv wr)
 case atStart=>exact B0.o
 case round=>
  clear B0;obtain⟨all,A,S1,E,S3,bI,rfl,ax,aw,bO,bK⟩:=hrel;have R:Hid (gK f wr S1 E S3 u8 u7 all A):=ax;obtain⟨aa,ac,rfl,-,-⟩:=ax.al.value;obtain⟨ae,ay,-,-⟩:=ax.ou;obtain⟨oa,oc,rfl,-,-⟩:=ay.value;clear ay ae;have af:Hid (fx all∧A++E4 s g gk all=E4 s g K known∧A.length+gk=K∧all.length+gk=s.commits.length):=⟨aw,bO,bK,bI⟩;obtain⟨n,hn⟩:=EX all.length;have B:Hid (n=all.length∧n+gk=C∧n<=65536):=⟨hn,by have:=HC.o.1;omega,by have:=HC.o;omega⟩;rw[<-hn];have ar:Hid (d7 (fun b=>f.heap.size<=b) f wr):=ax.tu;clear ax aw bO bK bI hn;by_cases ch:n<C
  ·obtain⟨c,hc,bu⟩:=Z1 (s:=s) (n:=n) (by have:=HC.o.1;omega);have bB:=eT hc;obtain⟨bp,bq,br,bs⟩:=Q.o.1.commit n c hc;have aj:Hid (CZ 192 #[pt q,.int .i64 n] wr (iL wr s (n:Nat))):=i7 (kg (aN.o wr ar.o) (n:Nat) (by have:=HC.o;omega) fun y hy=>by obtain⟨i,hi⟩:=LM hy;have:=(Q.o.1.commit i y hi).1;omega);unfold iL at aj;rw[bB]at aj;dsimp only at aj;have bh:Hid (∀W,d7 (fun b=>f.heap.size<=b) f W->∀m:Int,CZ 141 #[.iface 34 (pt q),.int .i64 m] W (iT W s m)):=fun W t m=>ph (aN.o W t) m (by have:=Q.o.1.commits;omega) (fun y hy=>by obtain⟨i,hi⟩:=LM hy;have:=(Q.o.1.commit i y hi).1;omega) (by have:=Q.o.1.trees;omega) fun t ht=>by have:=(Q.o.1.tree t ht).1.1;omega
   have aJ:Hid (s.commits[n]?=some c∧(A8 s n).1=c∧c.par.length<=16∧lF n c.par∧0<=c.tree∧c.tree<s.trees.length):=⟨hc,bu,bp,bq,br,bs⟩;obtain⟨P,hP⟩:=EX c.par.length;have L:Hid (P=c.par.length∧P<=16):=⟨hP,by omega⟩;rw[<-hP]at aj;clear hc bu bB bp bq br bs hP;go_wp2_with(first|(go_fit(bg.o wr ar.o);rintro e w2⟨rfl,rfl⟩)|(go_fit aj.o;rintro e w2⟨v2,rfl,aY,bS⟩;obtain⟨M,N,rfl,-,-⟩:=aY.value;have P2:=i7 (And.intro aY bS);clear aY bS));obtain⟨u,au⟩:=EX (w2.alloc (.cells #[.slice M P N,.int .i64 c.tree] 55));have co:Hid (u=w2.alloc (.cells #[.slice M P N,.int .i64 c.tree] 55)):=au;rw[<-au];have bd:TF w2 u:=by rw[au];exact TA
   have RC:Hid (gK f u S1 E S3 (.slice aa all.length ac) (.slice oa A.length oc) all A):=i7 (R.o.keep ((P2.o.2.tr bd).mono fun _ _ z=>z.elim));have xc:u.heap[w2.heap.size]?=some (.cells #[.slice M P N,.int .i64 c.tree] 55):=by rw[au];exact i8 _ _
   have b9:Hid (∀W,d7 (fun b=>u.heap.size<=b) u W->W.heap[w2.heap.size]?=some (.cells #[.slice M P N,.int .i64 c.tree] 55)):=fun W t=>j9 xc t (by have:=i6 xc;omega)
   have ak:Hid (Sl u (fun b=>wr.heap.size<=b∧b<w2.heap.size) 3 1 (.slice M P N) (ic c.par) P∧wr.heap.size<=w2.heap.size∧w2.heap.size<u.heap.size):=⟨P2.o.1.bound.turned bd fun _ _ z=>z,P2.o.2.size,by have:=i6 xc;exact this⟩;clear au bd aj xc;have B2:Hid (At u s c all P (.slice none 0 0) (.slice none 0 0) (.int .i64 0) u):=⟨0,fun _=>False,fun _=>False,by have:=L.o.1;omega,rfl,by simpa[o6]using Sl.nil _ _ _ _,by simpa[ic]using Sl.nil _ _ _ _,fun b d=>d.elim,fun b d=>d.elim,fun b d=>d.elim,TQ⟩;generalize wr=WL at *;generalize cf:gk=Gk at *;clear cf;go_loopg[12,13,37] P (fun g cn uv iv wr=>At u s c all g cn uv iv wr)
   case atStart=>exact B2.o
   case round=>
    clear B2;obtain⟨j,S4,S5,bC,rfl,ad,ab,b4,b5,bo,ht⟩:=hrel;have G2:Hid (j+gk=c.par.length):=bC;have HT:Hid (d7 (fun b=>u.heap.size<=b) u wr):=ht;obtain⟨da,dc,rfl,-,-⟩:=ad.value;obtain⟨ua,uc,rfl,-,-⟩:=ab.value;obtain⟨dn,aT⟩:=EX ((if j=0 then []else M4 s c).length);rw[<-aT]at ad ⊢;have aL:Hid (dn=(if j=0 then []else M4 s c).length):=aT;have X:Hid (Sl wr S4 96 2 (.slice da dn dc) (o6 (if j=0 then []else M4 s c)) dn∧Sl wr S5 3 1 (.slice ua j uc) (ic ((dR all c).take j)) j∧(∀b,S4 b->u.heap.size<=b∧b<wr.heap.size)∧(∀b,S5 b->u.heap.size<=b∧b<wr.heap.size)∧(∀b,S4 b->¬S5 b)):=⟨ad,ab,b4,b5,bo⟩;have RW:=RC.o.keep HT.o;have aC:Hid (d7 (fun b=>f.heap.size<=b) f wr):=RW.tu;clear bC ad ab b4 b5 bo ht aT;by_cases bG:j<P
    ·obtain⟨p,hp⟩:∃p,c.par[j]?=some p:=⟨_,LB (by rw[<-L.o.1];exact bG)⟩;obtain⟨bL,cl,-⟩:=aJ.o.2.2.2.1 j p hp;obtain⟨O,rfl⟩:=Int.eq_ofNat_of_zero_le bL;have bM:O<n:=by omega
     obtain⟨x,hx⟩:∃x,all[O]?=some x:=⟨_,LB (by rw[<-B.o.1];exact bM)⟩;have aq:Hid (c.par[j]?=some (O:Int)∧all[O]?=some x∧O<n):=⟨hp,hx,bM⟩;obtain⟨g1,o1,k1,bU,aW,-,-,bv,-,bE⟩:=RW.al.opens (by rw[<-B.o.1];omega);simp only[Value.slice.injEq]at bU;obtain⟨rfl,-,-⟩:=bU;have c0:wr.cell? ⟨g1,o1+O,none⟩=some (.int .i64 x):=by rw[bv O (by rw[<-B.o.1];omega)];unfold ic;rw[List.getElem?_map,hx];rfl
     obtain⟨g2,o2,k2,bV,cm,-,-,bw,-,bF⟩:=ak.o.1.opens (by omega);simp only[Value.slice.injEq]at bV;obtain⟨rfl,-,-⟩:=bV;have bJ:¬u.heap.size<=g2:=by omega
     have c1:wr.cell? ⟨g2,o2+j,none⟩=some (.int .i64 (O:Int)):=m6 (by rw[bw j (by omega)];unfold ic;rw[List.getElem?_map,hp];rfl) HT.o bJ;have cp:g2<wr.heap.size:=LC bF HT.o.size;have d1:decide ((O:Int)<0)=false:=by simp
     have d2:decide ((n:Int)<=(O:Int))=false:=by simp;omega
     have d3:decide (n<=O)=false:=by simp;omega
     have m1:Hid (j+1<=maxLen∧(j+1)*8<=140737488355328):=i7 (by have:=L.o;simp only[maxLen];omega);clear hp bL cl hx bv aW bw cm bF bJ RW;by_cases ao:j=0
     ·subst ao;rw[Nat.add_zero]at c1;have HQ:=i7 (bh.o wr aC.o (O:Int));unfold iT at HQ;go_wp2_with(first|(go_fit HQ.o;rintro e3 w3⟨v3,rfl,aZ,aF⟩;obtain⟨a3,c3,rfl,-,-⟩:=aZ.value;have P3:=i7 (And.intro aZ aF);have c0:w3.cell? ⟨g1,o1+O,none⟩=some (.int .i64 x):=m6 c0 aF id;have bE:g1<w3.heap.size:=LC bE aF.size;clear aZ aF)|(at_builtin;refine m7 rfl _ _ 41 41 rfl (X.o.2.1.turned (T:=fun _=>False) (P3.o.2.new _) (fun _ _ z=>z)) underlying41 info3g rfl (by decide) rfl (.slice (some ⟨w3.heap.size,0,none⟩) 1 1) rfl (R6 (P:=prog) underlying41 (.int .i64 x) rfl w3) m1.o.1 m1.o.2 ?_;intro v5 w5 ag aA;obtain⟨a5,c5,rfl,-,-⟩:=ag.value;have Y:=i7 (And.intro ag aA);clear ag aA));go_roundg (gk-1)
      case measure=>have:=G2.o;have:=L.o;omega
      case rel=>
       have e1:=ob (s:=s) aq.o.1;refine wP (g:=gk-1) (j:=0) (S4:=fun b=>wr.heap.size<=b∧b<w3.heap.size) (by have:=G2.o;have:=L.o;omega) (by rw[e1];exact P3.o.1.bound) (fun b d=>⟨LR HT.o.size d.1,d.2⟩) X.o.2.2.2.1 (fun b d z=>by have:=X.o.2.2.2.1 b z;omega) HT.o P3.o.2 TA Y.o.2 (sR aq.o.1 aq.o.2.1) Y.o.1
     ·have e3:((j:Int)==0)=false:=by simp;omega
      have e4:(j==0)=false:=by simp;omega
      have bj:Hid (¬j=0):=ao;clear ao;go_wp2_with(at_builtin;refine m7 rfl _ _ 41 41 rfl (X.o.2.1.turned (T:=fun _=>False) TA (fun _ _ z=>z)) underlying41 info3g rfl (by decide) rfl (.slice (some ⟨wr.heap.size,0,none⟩) 1 1) rfl (R6 (P:=prog) underlying41 (.int .i64 x) rfl wr) m1.o.1 m1.o.2 ?_;intro v5 w5 ag aA;obtain⟨a5,c5,rfl,-,-⟩:=ag.value;have Y:=i7 (And.intro ag aA);clear ag aA);go_roundg (gk-1)
      case measure=>have:=G2.o;have:=L.o;omega
      case rel=>
       have h1:=X.o.1;rw[aL.o,if_neg bj.o]at h1;have hw:wrap64 ((j:Int)+1)=((j+1:Nat):Int):=by have:=L.o;simp only[wrap64];omega
       rw[hw,aL.o,if_neg bj.o];exact wP (g:=gk-1) (by have:=G2.o;have:=L.o;omega) h1 X.o.2.2.1 X.o.2.2.2.1 X.o.2.2.2.2 HT.o TQ TA Y.o.2 (sR aq.o.1 aq.o.2.1) Y.o.1
    ·have hj:j=P:=by have:=G2.o;have:=L.o;omega
     clear bG;have ad:Sl wr S4 96 2 (.slice da dn dc) (o6 (M4 s c)) dn∧dn=(M4 s c).length:=by
      have h1:=X.o.1;have h2:=aL.o;by_cases ao:j=0
      ·have h3:M4 s c=[]:=by have h4:c.par=[]:=LO (by have:=L.o.1;omega);unfold M4;rw[h4]
       rw[if_pos ao]at h1 h2;rw[h3];exact⟨h1,h2⟩
      ·rw[if_neg ao]at h1 h2;exact⟨h1,h2⟩
     have ab:Sl wr S5 3 1 (.slice ua j uc) (ic (dR all c)) j∧j=(dR all c).length:=by
      have h1:=X.o.2.1;have h2:(dR all c).length=j:=by unfold dR;rw[List.length_map];have:=L.o.1;omega
      rw[List.take_of_length_le (by omega)]at h1;exact⟨h1,h2.symm⟩
     have HU:Hid (Sl wr S5 3 1 (.slice ua j uc) (ic (dR all c)) j∧j=(dR all c).length):=ab;obtain⟨F,hF⟩:=EX (tE g (M4 s c) (o7 s (n:Nat)));have HF:Hid (F=tE g (M4 s c) (o7 s (n:Nat))):=hF;have bf:Hid (∀W,TF wr W->CZ 141 #[.iface 34 (pt q),.int .i64 n] W fun e w'=>∃a cap,e=.returned (.slice a (o7 s (n:Nat)).length cap)∧Sl w' (fun b=>b<w'.heap.size) 96 2 (.slice a (o7 s (n:Nat)).length cap) (o6 (o7 s (n:Nat))) (o7 s (n:Nat)).length∧TF wr w'∧TF W w'):=fun W t=>(bh.o W (aC.o.trans t fun _ _ z=>z.elim) (n:Nat)).mono fun e w'⟨v,h1,h2,h3⟩=>by obtain⟨a,cap,rfl,-,-⟩:=h2.value;exact⟨a,cap,h1,h2.bound.widen fun b d=>d.2,t.tr h3,h3⟩
     have aM:Hid (∀W a cap,TF wr W->Sl W (fun b=>b<W.heap.size) 96 2 (.slice a (o7 s (n:Nat)).length cap) (o6 (o7 s (n:Nat))) (o7 s (n:Nat)).length->CZ 142 #[.agg #[.int .i64 g.h,.int .i64 g.p,.int .i64 g.m,.int .u32 g.seed],.slice da dn dc,.slice a (o7 s (n:Nat)).length cap] W fun e w'=>e=.returned (.tuple #[dZ F,.int .i64 0])∧TF wr w'∧TF W w'):=fun W a cap t h=>by
      have ho:=(ad.1.turned t fun _ _ z=>z).bound.widen (T:=fun b=>b<W.heap.size) fun b d=>d.2
      rw[ad.2]at ho;have h1:=pN Q.o.1 c;have h2:=gp Q.o.1 (n:Nat);have:=BJ g (va:=.slice da dn dc) (vb:=.slice a (o7 s (n:Nat)).length cap) Q.o.2.2 (by rw[ad.2];exact ho) h (fun b d=>d) h1.2 h2.2 (by omega) (by omega);refine this.mono fun e w'⟨e1,e2⟩=>⟨?_,t.tr e2,e2⟩
      rw[e1,hF];unfold qq;rw[if_pos Q.o.2.1];rfl
     obtain⟨v0,v1,v2,v3,v4⟩:=be.o wr aC.o;obtain⟨f1,H⟩:=F;obtain⟨l,hG⟩:=EX (fw all c);have bi:Hid (l=fw all c):=hG;have b6:Hid (∀W,TF wr W->CZ 143 #[.slice ua j uc] W fun e w'=>e=.returned (.int .i64 l)∧W=w'):=fun W t=>by
      have h1:=ab.1.turned t fun _ _ z=>z
      rw[ab.2]at h1;obtain⟨a',cb,hv,hi⟩:=gU h1 (BM af.o.1 c);simp only[Value.slice.injEq]at hv;obtain⟨rfl,-,rfl⟩:=hv;have:=zH hi (by rw[<-ab.2];have:=L.o;omega);rw[Au,<-hG,<-ab.2]at this;exact this
     have bY:Hid (∀W,TF wr W->Sl W S1 3 1 (.slice aa n ac) (ic all) n):=fun W t=>by
      have:=RW.al.turned t fun _ _ z=>z
      rw[<-B.o.1]at this;exact this
     have m2:Hid (n+1<=maxLen∧(n+1)*8<=140737488355328):=i7 (by have:=B.o;simp only[maxLen];omega);have b7:Hid (gK f wr S1 E S3 (.slice aa all.length ac) (.slice oa A.length oc) all A):=RW;clear RW hG;clear ad ab hF;subst hj;go_wp2;have KS:Hid (∀W,TF wr W->TF wr W∧W.cell? ⟨w.heap.size,0,none⟩=some (.int .i64 g.h)∧W.cell? ⟨w.heap.size,1,none⟩=some (.int .i64 g.p)∧W.cell? ⟨w.heap.size,2,none⟩=some (.int .i64 g.m)∧W.cell? ⟨w.heap.size,3,none⟩=some (.int .u32 g.seed)):=(fun W t=>by obtain⟨h0,h1,h2,h3,-⟩:=be.o W (aC.o.trans t fun _ _ z=>z.elim);exact⟨t,h0,h1,h2,h3⟩:∀W,TF wr W->TF wr W∧W.cell? ⟨w.heap.size,0,none⟩=some (.int .i64 g.h)∧W.cell? ⟨w.heap.size,1,none⟩=some (.int .i64 g.p)∧W.cell? ⟨w.heap.size,2,none⟩=some (.int .i64 g.m)∧W.cell? ⟨w.heap.size,3,none⟩=some (.int .u32 g.seed));clear v0 v1 v2 v3
     go_region_held3 (fun W=>TF wr W∧W.cell? ⟨w.heap.size,0,none⟩=some (.int .i64 g.h)∧W.cell? ⟨w.heap.size,1,none⟩=some (.int .i64 g.p)∧W.cell? ⟨w.heap.size,2,none⟩=some (.int .i64 g.m)∧W.cell? ⟨w.heap.size,3,none⟩=some (.int .u32 g.seed))
      (first|(exact KS.o _ TQ)|(exact KS.o _ TD)|(exact KS.o _ (by assumption))|(exact KS.o _ (TA.draw))|(exact KS.o _ ((by assumption:TF wr _).new _))|(exact KS.o _ (((by assumption:TF wr _).fresh (LS _) _).fresh (LS _) _))|(exact KS.o _ (((by assumption:TF wr _).fresh P6.o.2.size _).fresh P6.o.2.size _))|go_keep)
      (first
       |(go_fit(bf.o wr.drew TD);rintro e6 w6⟨a6,c6,rfl,az,aG,aH⟩;have P6:=i7 (And.intro az aG);clear az aH)
       |(go_fit(bf.o (wr.alloc (.cells #[.int .i64 0,.string ⟨#[]⟩] 46)).drew (TA.draw));rintro e6 w6⟨a6,c6,rfl,az,aG,aH⟩;have bX:=j9 (w:=(wr.alloc (.cells #[.int .i64 0,.string ⟨#[]⟩] 46)).drew) (i8 wr _) aH id;have P6:=i7 (And.intro az aG);clear az aH)
       |(go_fit(aM.o (w6.alloc (.cells #[.int .i64 0,.string ⟨#[]⟩] 46)) a6 c6 (P6.o.2.new _) ((P6.o.1.turned (d7.alloc (fun _=>False) _ _) fun _ _ z=>z).bound.widen fun b d=>d.2));rintro e7 w7⟨rfl,ap,u7⟩;have D:=j9 (i8 w6 _) u7 id;have ba:=g9 D 0 _ rfl;have bb:=g9 D 1 _ rfl;have a4:=j7 D 0;have a7:=j7 D 1;have bc:=i6 D;replace D:=i7 D;have q7:=i7 ap;clear u7)
       |(go_fit(aM.o w6 a6 c6 P6.o.2 P6.o.1);rintro e7 w7⟨rfl,ap,u7⟩;have D:=j9 bX u7 id;clear bX;have ba:=g9 D 0 _ rfl;have bb:=g9 D 1 _ rfl;have a4:=j7 D 0;have a7:=j7 D 1;have bc:=i6 D;replace D:=i7 D;have q7:=i7 ap;clear u7)
       |(go_fit(aM.o w6 a6 c6 P6.o.2 P6.o.1);rintro e7 w7⟨rfl,ap,u7⟩;have q7:=i7 ap;clear u7))
     all_goals first
      |(obtain⟨I,U⟩:=EX (w7.alloc (.cells #[.int .i64 f1,.string H] 46));obtain⟨G,V⟩:=EX w7.heap.size;have J:Hid (dS wr I G f1 H):=i7 (by rw[U,V];exact dS.last q7.o);rw[<-U,<-V];clear U V)
      |(obtain⟨I,U⟩:=EX ((w7.setCell ⟨w6.heap.size,0,none⟩ (.int .i64 f1)).setCell ⟨w6.heap.size,1,none⟩ (.string H));obtain⟨G,V⟩:=EX w6.heap.size;have J:Hid (dS wr I G f1 H):=i7 (by rw[U,V];exact dS.set q7.o D.o P6.o.2.size);rw[<-U,<-V];clear U V ba bb a4 a7 bc)
      |(obtain⟨I,U⟩:=EX ((w7.setCell ⟨wr.heap.size,0,none⟩ (.int .i64 f1)).setCell ⟨wr.heap.size,1,none⟩ (.string H));obtain⟨G,V⟩:=EX wr.heap.size;have J:Hid (dS wr I G f1 H):=i7 (by rw[U,V];exact dS.set q7.o D.o (LS _));rw[<-U,<-V];clear U V ba bb a4 a7 bc)
     all_goals clear aG ap
     all_goals
      go_wp2_with(first|(go_fit(b6.o I J.o.tu);rintro e8 k⟨rfl,rfl⟩)|(at_builtin;refine m7 rfl _ _ 41 41 rfl (bY.o _ (J.o.tu.new _)) underlying41 info3g rfl (by decide) rfl (.slice (some ⟨I.heap.size,0,none⟩) 1 1) rfl (R6 (P:=prog) underlying41 (.int .i64 l) rfl I) m2.o.1 m2.o.2 ?_;intro v8 k a0 bT;obtain⟨a8,c8,rfl,-,-⟩:=a0.value;have Y8:=i7 (And.intro a0 bT);clear a0 bT));obtain⟨bl,R8,bt⟩:=(b7.o.keep (J.o.tu.mono fun _ _ z=>z.elim)).pushAll (x:=l) (d7.alloc (fun _=>False) I (.cells #[.int .i64 l] 3)) Y8.o.2 (by rw[<-B.o.1];exact Y8.o.1);have h1:=ak.o.2.1;have h2:=ak.o.2.2;have h3:=HT.o.size;have aS:=R.o.b1;have aD:=R.o.b2;have t8:d7 (fun b=>u.heap.size<=b∨S1 b) u k:=HT.o.comp ((J.o.tu.new _).comp Y8.o.2 fun i _ z=>z.elim False.elim id) fun i _ z=>z
      have aI:k.heap[w2.heap.size]?=some (.cells #[.slice M j N,.int .i64 c.tree] 55):=(((J.o.tu.new _).comp Y8.o.2 fun i _ z=>z.elim False.elim id:d7 S1 wr k).block w2.heap.size (by omega) (fun z=>by have:=aS _ z;omega)).trans (b9.o wr HT.o);have aE:k.heap[G]?=some (.cells #[.int .i64 f1,.string H] 46):=(((d7.alloc (fun _=>False) I (.cells #[.int .i64 l] 3)).comp Y8.o.2 fun i _ z=>z.elim False.elim id:d7 S1 I k).block G (i6 J.o.at_) (fun z=>by have:=aS _ z;have:=J.o.new;omega)).trans J.o.at_;obtain⟨g8,o8,k8,bW,cd,-,-,bz,-,cq⟩:=Y8.o.1.opens (by omega);simp only[Value.slice.injEq]at bW;obtain⟨rfl,-,-⟩:=bW;have y0:k.cell? ⟨g8,o8+n,none⟩=some (.int .i64 l):=by rw[bz n (by omega),List.getElem?_append_right (by rw[zJ,<-B.o.1];exact LS _),zJ,<-B.o.1,Nat.sub_self];rfl
      have y1:k.cell? ⟨w2.heap.size,0,none⟩=some (.slice M j N):=g9 aI 0 _ rfl;have y2:k.cell? ⟨w2.heap.size,1,none⟩=some (.int .i64 c.tree):=g9 aI 1 _ rfl;have y3:k.cell? ⟨G,0,none⟩=some (.int .i64 f1):=g9 aE 0 _ rfl;have y4:k.cell? ⟨G,1,none⟩=some (.string H):=g9 aE 1 _ rfl;have y5:=i6 aI;have y6:=i6 aE;have cs:n<n+1:=Nat.lt_succ_self n;have cr:(n:Int)<(n:Int)+1:=by omega
      have aP:Hid (gK f k bl E S3 (.slice (some ⟨g8,o8,none⟩) (n+1) c8) (.slice oa A.length oc) (all++[l]) A∧∀b,bl b->S1 b∨(I.alloc (.cells #[.int .i64 l] 3)).heap.size<=b):=⟨R8,bt⟩;have bn:Hid (d7 (fun b=>u.heap.size<=b∨S1 b) u k):=t8;obtain⟨ae,ay,bN,bQ⟩:=R8.ou;have aB:Hid (Sl k E 48 5 (.slice oa A.length oc) ae A.length∧(∀r∈A,ju r)∧(∀(i:Nat)(r:Rw),A[i]?=some r->∃a cap,ae[i*5]?=some (.slice a r.par.length cap)∧ae[i*5+1]?=some (.int .i64 r.tree)∧ae[i*5+2]?=some (.int .i64 r.gen)∧ae[i*5+3]?=some (.int .i64 r.state)∧ae[i*5+4]?=some (.string r.bits)∧p7 k S3 a cap r.par)):=⟨ay,bN,bQ⟩;have bm:=i7 (Dv (.slice M j N) (.int .i64 c.tree) (.int .i64 l) (.int .i64 f1) (.string H) (by simp[Value.oneCell']) k);have m3:Hid (A.length+1<=maxLen∧(A.length+1)*64<=140737488355328):=i7 (by have:=af.o.2.2.1;have:=HC.o;simp only[maxLen];omega)
      have am:¬E w2.heap.size∧¬E G∧¬E g8:=⟨fun z=>by have:=aD _ z;omega,fun z=>by have:=aD _ z;have:=J.o.new;omega,fun z=>by
       have aW:F2 S1 (I.alloc (.cells #[.int .i64 l] 3)) g8:=cd;rcases aW with q|q
       ·exact R.o.d12 g8 q z
       ·have h7:=aD _ z;have h8:=J.o.tu.size;have h9:=(d7.alloc (fun _=>False) I (.cells #[.int .i64 l] 3)).size;omega⟩
      clear R8 bt t8 aI aE bz ay bN bQ h1 h2 h3 aS aD;have bk:Hid (Sl (k.alloc (.cells #[.slice M j N,.int .i64 c.tree,.int .i64 l,.int .i64 f1,.string H] 48)).drew E 48 5 (.slice oa A.length oc) ae A.length):=aB.o.1.turned (T:=fun _=>False) (TA.draw) fun _ _ z=>z
      have aO:Hid (∀W,d7 E k W->W.cell? ⟨w2.heap.size,0,none⟩=some (.slice M j N)∧W.cell? ⟨w2.heap.size,1,none⟩=some (.int .i64 c.tree)∧W.cell? ⟨G,0,none⟩=some (.int .i64 f1)∧W.cell? ⟨G,1,none⟩=some (.string H)∧W.cell? ⟨g8,o8+n,none⟩=some (.int .i64 l)):=(fun W t=>⟨m6 y1 t am.1,m6 y2 t am.1,m6 y3 t am.2.1,m6 y4 t am.2.1,m6 y0 t am.2.2⟩:∀W,d7 E k W->W.cell? ⟨w2.heap.size,0,none⟩=some (.slice M j N)∧W.cell? ⟨w2.heap.size,1,none⟩=some (.int .i64 c.tree)∧W.cell? ⟨G,0,none⟩=some (.int .i64 f1)∧W.cell? ⟨G,1,none⟩=some (.string H)∧W.cell? ⟨g8,o8+n,none⟩=some (.int .i64 l));clear am y0 y1 y2 y3 y4
      go_region_held3 (fun W=>W.cell? ⟨w2.heap.size,0,none⟩=some (.slice M j N)∧W.cell? ⟨w2.heap.size,1,none⟩=some (.int .i64 c.tree)∧W.cell? ⟨G,0,none⟩=some (.int .i64 f1)∧W.cell? ⟨G,1,none⟩=some (.string H)∧W.cell? ⟨g8,o8+n,none⟩=some (.int .i64 l))
       (first|(exact aO.o _ TD)|(exact aO.o _ (TA.draw))|(exact aO.o _ (by assumption))|go_keep)
       (first
        |(at_builtin;refine m7 rfl _ _ 121 121 rfl bk.o underlying121 info48r rfl (by decide) rfl (.slice (some ⟨k.heap.size,0,none⟩) 1 1) rfl bm.o.2.1 m3.o.1 m3.o.2 ?_;intro v9 w9 ah ai;obtain⟨a9,c9,rfl,-,-⟩:=ah.value;have T9:d7 E k w9:=((d7.alloc E k _).draw).tr ai;have Y9:=i7 (And.intro ah ai);clear ah ai)
        |(refine o5 (by rfl) _ _ 121 121 (by rfl) bk.o underlying121 info48r rfl (by decide) (by rfl) (.slice (some ⟨k.heap.size,0,none⟩) 1 1) (by rfl) bm.o.2.1 m3.o.1 m3.o.2 ?_;intro v9 w9 ah ai;obtain⟨a9,c9,rfl,-,-⟩:=ah.value;have T9:d7 E k w9:=((d7.alloc E k _).draw).tr ai;have Y9:=i7 (And.intro ah ai);clear ah ai))
      have bZ:Hid (∀nv,nv=((n+1:Nat):Int)->wO f s g K known (Gk-1) (.slice a9 (A.length+1) c9) (.slice (some ⟨g8,o8,none⟩) (n+1) c8) (.int .i64 nv) w9):=fun nv ci=>by
       subst ci;have aR:Gk-1+1=Gk:=by have:=B.o;omega
       have bA:=aJ.o.2.1;have bD:=L.o.1;have z1:=ak.o.2.1;have z2:=ak.o.2.2;have z3:=bn.o.size;have z4:=ar.o.size;have z5:=HT.o.size;have z6:=J.o.tu.size;have z7:=(d7.alloc (fun _=>False) I (.cells #[.int .i64 l] 3)).size;have bP:(⟨c.par,c.tree,l,f1,H⟩:Rw)=J8 s g all.length l:=by unfold J8;rw[<-B.o.1,bA,<-HF.o]
       have an:=iY af.o.1 c;rw[<-bi.o]at an;have ce:=eY Q.o.1 Q.o.2.1 (n:=n) (gen:=l) (by have:=HC.o.1;omega) an;have cj:ju ⟨c.par,c.tree,l,f1,H⟩:=by rw[bP,<-B.o.1];obtain⟨q1,q2,q3,q4,q5,q6,q7⟩:=ce;have q8:=dy q7;have q9:(J8 s g n l).state=1∨(J8 s g n l).state=2:=kx _ _;exact⟨⟨by omega,by omega⟩,⟨by omega,by omega⟩,⟨by omega,by omega⟩,by omega⟩
       have ck:p7 k (fun b=>WL.heap.size<=b∧b<w2.heap.size) M N c.par:=by
        have h1:=ak.o.1.turned bn.o fun b d z=>by
         rcases z with z|z
         ·omega
         ·have:=R.o.b1 b z;omega
        rw[bD]at h1;obtain⟨a',cb,hv,hi⟩:=gU h1 fun x hx=>by have:=N2 aJ.o.2.2.2.1 x hx;have:=B.o;exact⟨by omega,by omega⟩
        simp only[Value.slice.injEq]at hv;obtain⟨rfl,-,rfl⟩:=hv;exact hi
       have aw:n=all.length:=B.o.1;rw[aw]at aP ⊢;refine Av (r:=⟨c.par,c.tree,l,f1,H⟩) aP.o.1 aB.o.1 aB.o.2.1 aB.o.2.2 ((d7.alloc (fun _=>False) k _).draw) Y9.o.2 cj ck (fun b d=>⟨by omega,by omega,fun z=>?_,fun z=>by have:=R.o.b2 b z;omega⟩) (by rw[<-bD];exact Y9.o.1) rfl (by rw[aR];exact af.o.2.2.2) (fun x hx=>?_) (by rw[aR];exact af.o.2.1) (by rw[aR];exact af.o.2.2.1) (by rw[<-aw,bA];exact bi.o) bP
       ·rcases aP.o.2 b z with q|q
        ·have:=R.o.b1 b q;omega
        ·omega
       ·rcases List.mem_append.1 hx with q|q
        ·exact af.o.1 x q
        ·rw[List.mem_singleton]at q;subst q;exact an
      go_wp2;go_roundg (Gk-1)
      case measure=>have:=B.o;omega
      case rel=>exact bZ.o _ (by have:=B.o;simp[wrap64];omega)
  ·have hn:n=C:=by have:=B.o;omega
   have cc:gk=0:=by have:=B.o;omega
   have HO:Hid (A=E4 s g K known):=by have:=af.o.2.1;rw[cc,E4,List.append_nil]at this;exact this
   clear ch;go_wp2_with(go_fit(bg.o wr ar.o);rintro e w2⟨rfl,rfl⟩);rw[ca.o];have hz:=TV.o.2;refine⟨_,E,S3,rfl,by rw[<-HO.o];exact R.o.ou,fun b d=>by have:=R.o.b2 b d;omega,fun b d=>by have:=R.o.b3 b d;omega,fun b d=>d.elim (fun q=>(R.o.b2 b q).2) fun q=>(R.o.b3 b q).2,TV.o.1.comp ar.o fun i hi z=>z.elim id fun z=>by omega⟩
end Go.Proofs.YtofcogekgcgjhaaGreatDoor

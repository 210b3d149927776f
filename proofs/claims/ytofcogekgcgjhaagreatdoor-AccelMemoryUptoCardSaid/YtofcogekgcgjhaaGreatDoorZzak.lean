/- Packed. -/
import Derived.Test.YtofcogekgcgjhaaGreatDoorZzaj
import Derived.Lib.ConvBytes
import Derived.Test.YtofcogekgcgjhaaGreatDoorZzag
set_option maxRecDepth 100000
set_option maxHeartbeats 8000000
namespace Go.Proofs.YtofcogekgcgjhaaGreatDoor
open Go.RowKit Go.Mine Go.Mine.Ac Go.Proofs.Tryz
def eu(c:UInt8):Bool:=!(decide (33<=c) && decide (c<=126))
theorem xA(c:UInt8)(w:World)(h:eu c=false):CZ 179 #[.int .u8 c.toNat] w fun e w'=>e=.returned (.bool false)∧w=w':=by
 have a:33<=c.toNat∧c.toNat<=126:=by simp[eu,UInt8.le_iff_toNat_le]at h;exact h
 have b:decide ((c.toNat:Int)<33)=false:=by simp;omega
 have d:decide (c.toNat<33)=false:=by simp;omega
 have f:decide ((126:Int)<(c.toNat:Int))=false:=by simp;omega
 have g:decide (126<c.toNat)=false:=by simp;omega
 clear h a;generalize c.toNat=n at *;go_enter func179,ntmps179;go_wp2;go_ret;exact⟨rfl,rfl⟩
theorem tW(c:UInt8)(w:World)(h:eu c=true):CZ 179 #[.int .u8 c.toNat] w fun e w'=>e=.returned (.bool true)∧w=w':=by
 have a:c.toNat<33∨126<c.toNat:=by simp[eu,UInt8.le_iff_toNat_le]at h;omega
 by_cases h1:c.toNat<33
 ·have b:decide ((c.toNat:Int)<33)=true:=by simp;omega
  have d:decide (c.toNat<33)=true:=by simp;omega
  clear h a h1;generalize c.toNat=n at *;go_enter func179,ntmps179;go_wp2;go_ret;exact⟨rfl,rfl⟩
 ·have b:decide ((c.toNat:Int)<33)=false:=by simp;omega
  have d:decide (c.toNat<33)=false:=by simp;omega
  have f:decide ((126:Int)<(c.toNat:Int))=true:=by simp;omega
  have g:decide (126<c.toNat)=true:=by simp;omega
  clear h a h1;generalize c.toNat=n at *;go_enter func179,ntmps179;go_wp2;go_ret;exact⟨rfl,rfl⟩
def Ct(w:World)(l:List UInt8)(g:Nat)(v:Value)(wr:World):Prop:=∃i:Nat,v=.int .i64 i∧i+g=l.length∧(∀(j:Nat)c,j<i->l[j]?=some c->eu c=false)∧wr=w
def tY(w:World)(l:List UInt8)(e:Ending)(w':World):Prop:=w=w'∧((l.all (fun c=>!eu c)=true∧e=.returned (.int .i64 (-1)))∨(l.all (fun c=>!eu c)=false∧∃i:Nat,i<l.length∧e=.returned (.int .i64 i)))
theorem tZ{g cap:Nat}(l:List UInt8)(w:World)(h:∀(i:Nat)c,l[i]?=some c->w.cell? ⟨g,i,none⟩=some (.int .u8 c.toNat))(I:l.length<=100000):
  CZ 252 #[.slice (some ⟨g,0,none⟩) l.length cap,.func (.func 179) #[] #[]] w (tY w l):=by
 obtain⟨D,s⟩:=EX (tY w l);have z:Hid (D=tY w l):=s;rw[<-s];obtain⟨n,u⟩:=EX l.length;have b:Hid (n=l.length∧n<=100000):=i7 ⟨u,by omega⟩;have E:Hid (∀(i:Nat)c,l[i]?=some c->w.cell? ⟨g,i,none⟩=some (.int .u8 c.toNat)):=h;have x:Hid (Ct w l n (.int .i64 0) w):=⟨0,rfl,by omega,fun j c m=>absurd m (Nat.not_lt_zero _),rfl⟩;rw[<-u];clear s u h I;go_enter func252,ntmps252;go_wp2;go_loopg[8] n (fun g v wr=>Ct w l g v wr)
 case atStart=>exact x.o
 case round=>
  obtain⟨i,rfl,A,C,rfl⟩:=hrel;have p:Hid (i+gk=l.length∧(∀(j:Nat)c,j<i->l[j]?=some c->eu c=false)):=⟨A,C⟩;clear A C x;by_cases B:i<n
  ·obtain⟨c,k⟩:∃c,l[i]?=some c:=⟨_,LB (by have:=b.o.1;omega)⟩;have J:=E.o i c k;have y:Hid (l[i]?=some c):=k;have a:Hid (i<n):=B;have G:decide ((i:Int)<(n:Int))=true:=by simp;omega
   have H:decide (i<n)=true:=by simp;omega
   have F:Hid (wrap64 ((i:Int)+1)=((i+1:Nat):Int)):=i7 (by have:=a.o;have:=b.o.2;simp[wrap64];omega);clear k;cases f:eu c with
   |false=>
    have r:Hid (eu c=false):=f;have h1:=xA c wr f;clear f;go_wp2_with(go_fit h1;rintro e w'⟨rfl,rfl⟩);go_roundg (gk-1)
    case measure=>have:=p.o;have:=a.o;have:=b.o;omega
    case rel=>exact⟨i+1,by rw[F.o],by have:=p.o;have:=a.o;have:=b.o;omega,fun j d m t=>by
     by_cases q:j=i
     ·subst q;rw[y.o]at t;rw[<-Option.some.inj t];exact r.o
     ·exact p.o.2 j d (by omega) t,rfl⟩
   |true=>have r:Hid (eu c=true):=f;have h1:=tW c wr f;clear f;go_wp2_with(go_fit h1;rintro e w'⟨rfl,rfl⟩);rw[z.o];refine⟨rfl,.inr ⟨?_,i,by have:=a.o;have:=b.o;omega,rfl⟩⟩;rw[List.all_eq_false];exact⟨c,LI y.o,by rw[r.o];decide⟩
  ·have G:decide ((i:Int)<(n:Int))=false:=by simp;omega
   have H:decide (i<n)=false:=by simp;omega
   have a:Hid (n<=i):=i7 (by omega);clear B;go_wp2;rw[z.o];refine⟨rfl,.inl ⟨?_,rfl⟩⟩;rw[List.all_eq_true];intro c k;obtain⟨j,m⟩:=LM k;rw[p.o.2 j c (by have:=(List.getElem?_eq_some_iff.1 m).1;have:=b.o;have:=a.o;omega) m];rfl
def cR(l:List UInt8):Bool:=l.all fun c=>!eu c
theorem mV{g cap:Nat}(l:List UInt8)(w:World)(h:∀(i:Nat)c,l[i]?=some c->w.cell? ⟨g,i,none⟩=some (.int .u8 c.toNat))(f:l.length<=100000):
  CZ 178 #[.slice (some ⟨g,0,none⟩) l.length cap,.func (.func 179) #[] #[]] w fun e w'=>e=.returned (.bool (!cR l))∧w=w':=by
 have a:=tZ (cap:=cap) l w h f;obtain⟨n,d⟩:=EX l.length;rw[<-d]at a ⊢;clear h f;cases b:cR l with
 |true=>
  replace a:CZ 252 #[.slice (some ⟨g,0,none⟩) n cap,.func (.func 179) #[] #[]] w fun e w'=>e=.returned (.int .i64 (-1))∧w=w':=a.mono fun e w'⟨h1,h2⟩=>h2.elim (fun q=>⟨q.2,h1⟩) fun q=>by have:=q.1;unfold cR at b;rw[b]at this;simp at this
  clear d b;go_enter func178,ntmps178;go_wp2_with(go_fit a;rintro e w'⟨rfl,rfl⟩);go_ret;exact⟨rfl,rfl⟩
 |false=>
  replace a:CZ 252 #[.slice (some ⟨g,0,none⟩) n cap,.func (.func 179) #[] #[]] w fun e w'=>(∃i:Nat,e=.returned (.int .i64 i))∧w=w':=a.mono fun e w'⟨h1,h2⟩=>h2.elim (fun q=>by have:=q.1;unfold cR at b;rw[b]at this;simp at this) fun q=>⟨⟨q.2.choose,q.2.choose_spec.2⟩,h1⟩
  clear d b;go_enter func178,ntmps178;go_wp2_with(go_fit a;rintro e w'⟨⟨i,rfl⟩,rfl⟩;have j:decide ((0:Int)<=(i:Int))=true:=by simp);go_ret;exact⟨rfl,rfl⟩
theorem iC(s:ByteArray):F6 s=(decide (1<=s.size) && decide (s.size<=32) && cR s.data.toList):=by unfold F6 cR eu;congr 1;congr 1;funext c;simp
theorem oG(w:World)(e:TypeId)(s:ByteArray):TF w (Lib.bytesWorld w e s):=⟨rfl,rfl,rfl,by rw[Lib.bytesWorld_size];omega,fun b a _=>Lib.bytesWorld_at_old w e s b a⟩
theorem nA(s:ByteArray):s.data.toList.length=s.size:=by rw[Array.length_toList];rfl
theorem ly(s:ByteArray)(w:World):CZ 94 #[.string s] w (RT (.bool (F6 s)) w):=by
 rw[iC];have d:=nA s;by_cases g:s.size=0
 ·have j:s.toList.isEmpty=true:=by rw[ByteArray.toList_eq,List.isEmpty_iff_length_eq_zero,d,g]
  have r:(s.toList==[])=true:=by simpa using j
  have f:decide (1<=s.size)=false:=by rw[g];rfl
  rw[f];clear d g f;go_enter func94,ntmps94;go_wp2;go_ret;exact⟨rfl,TQ⟩
 ·have j:s.toList.isEmpty=false:=by
   rw[ByteArray.toList_eq];cases t:s.data.toList with
   |nil=>rw[t]at d;simp at d;omega
   |cons a b=>rfl
  have r:(s.toList==[])=false:=by simpa using j
  have f:decide (1<=s.size)=true:=by simp;omega
  rw[f];by_cases l:s.size<=32
  ·have q:decide ((s.size:Int)<=32)=true:=by simp;omega
   have h:decide (s.size<=32)=true:=by simp;omega
   rw[h];have u:=Lib.run_convert_string_bytes (P:=prog) w 9 83 5 s underlying9 underlying83 underlying5;have k:∀(i:Nat)c,s.data.toList[i]?=some c->(Lib.bytesWorld w 5 s).cell? ⟨w.heap.size,i,none⟩=some (.int .u8 c.toNat):=fun i c n=>by have v:=(LA.1 n).1;rw[Lib.bytesWorld_cell w 5 s i (by omega)];simp[List.getD,n]
   have m:=mV (cap:=Go.grownCap w s.size 0 5) s.data.toList (Lib.bytesWorld w 5 s) k (by omega);have p:Hid (TF w (Lib.bytesWorld w 5 s)):=oG w 5 s;rw[d]at m;clear k d g l f h;generalize Lib.bytesWorld w 5 s=W at *;generalize Go.grownCap w s.size 0 5=cap at *;go_enter func94,ntmps94;go_wp2_with(go_fit m;rintro e w'⟨rfl,rfl⟩);go_ret;exact⟨by simp,p.o⟩
  ·have q:decide ((s.size:Int)<=32)=false:=by simp;omega
   have h:decide (s.size<=32)=false:=by simp;omega
   rw[h];clear d g l f h;go_enter func94,ntmps94;go_wp2;go_ret;exact⟨rfl,TQ⟩
theorem p9.put{w w':World}{rl:Nat->Nat}{d ms mf:Nat}{pv:Value}{F:Nat->Nat}{D D':Dk}(h:p9 w rl d ms mf pv F D)(c:d7 (· =d) w w')
  (a:X8 w' d #[.int .i64 D'.quota,.int .i64 D'.files.length,.map (some ms),.map (some mf),pv,.int .i64 D'.falls,.bool D'.off] 148)
  (i:D'.seen=D.seen) (e:D'.safe=D.safe) (g:D'.pend=D.pend) (l:D'.files=D.files):p9 w' rl d ms mf pv F D':=by
 have r1:=h.r1;have k2:ms≠d:=fun q=>by have:=h.r2;rw[q,r1]at this;omega
 have k3:mf≠d:=fun q=>by have:=h.r3;rw[q,r1]at this;omega
 refine⟨h.r1,h.r2,h.r3,a,?_,?_,?_,?_,fun b a=>LC (h.bnd b a) c.size,h.bs.congr (c.block _ h.seen.lt k2),h.bf.congr (c.block _ h.safe.lt k3)⟩
 ·rw[i];exact h.seen.congr (c.block _ h.seen.lt fun q=>by have:=h.r2;rw[q,r1]at this;omega) fun _=>rfl
 ·rw[e];exact h.safe.congr (c.block _ h.safe.lt fun q=>by have:=h.r3;rw[q,r1]at this;omega) fun _=>rfl
 ·rw[g];exact h.pend.turned c fun b a q=>by rw[q,r1]at a;omega
 ·intro k f;have j:mR D k:=by unfold mR at *;rw[i,e,g]at f;exact f
  obtain⟨x,h1,h2⟩:=h.file k j;exact⟨x,by rw[l];exact h1,h2.turned c fun b a q=>by rw[q,r1]at a;omega⟩
theorem xB{w:World}{rl:Nat->Nat}{d ms mf:Nat}{pv:Value}{F:Nat->Nat}{D:Dk}(h:p9 w rl d ms mf pv F D)(h1:D.falls=1)(c:Value):
  CZ 95 #[pt d,c] w fun e w'=>e=.returned (.int .i64 8)∧p9 w' rl d ms mf pv F D.step.1∧d7 (· =d) w w':=by
 have j:=j7 h.blk 5;have k:=j7 h.blk 6;have i:=g9 h.blk 6 _ rfl;have g:w.cell? ⟨d,5,none⟩=some (.int .i64 1):=by rw[g9 h.blk 5 _ rfl];simp[h1]
 have l:=i6 h.blk
 have key:Hid (p9 ((w.setCell ⟨d,5,none⟩ (.int .i64 0)).setCell ⟨d,6,none⟩ (.bool true)) rl d ms mf pv F D.step.1∧d7 (· =d) w ((w.setCell ⟨d,5,none⟩ (.int .i64 0)).setCell ⟨d,6,none⟩ (.bool true))):=i7 (by
  have t:d7 (· =d) w ((w.setCell ⟨d,5,none⟩ (.int .i64 0)).setCell ⟨d,6,none⟩ (.bool true)):=((d7.refl (· =d) w).set (p:=⟨d,5,none⟩) rfl _).set (p:=⟨d,6,none⟩) rfl _;have f:D.step.1={D with falls:=0,off:=true}:=by simp[Dk.step,h1]
  rw[f];refine⟨h.put t ?_ rfl rfl rfl rfl,t⟩;have a:=j8 h.blk (o:=5) (.int .i64 0);have b:=j8 a (o:=6) (.bool true);simpa[X8]using b)
 clear h h1;go_enter func95,ntmps95;go_wp2;go_ret;exact⟨rfl,key.o⟩
def dC(rl:Nat->Nat)(w w':World)(k b:Nat):Nat:=if b<w.heap.size then rl b else if b<w'.heap.size then k else 0
theorem Y1{rl:Nat->Nat}{w w':World}{k b:Nat}(h:b<w.heap.size):dC rl w w' k b=rl b:=by unfold dC;rw[if_pos h]
theorem dk{rl:Nat->Nat}{w w':World}{k b:Nat}(h:w.heap.size<=b)(h2:b<w'.heap.size):dC rl w w' k b=k:=by unfold dC;rw[if_neg (by omega),if_pos h2]
theorem dl{rl:Nat->Nat}{w w':World}{k b:Nat}(h:dC rl w w' k b≠0)(a:w.heap.size<=w'.heap.size):b<w'.heap.size:=by
 unfold dC at h;split at h
 ·omega
 ·split at h
  ·assumption
  ·exact absurd rfl h
section
variable {w w':World} {rl:Nat->Nat} {d ms mf n:Nat} {pv pv':Value} {F:Nat->Nat} {D:Dk}
theorem qz.keepR(h:qz w rl d ms mf pv F D n)(w':World)(k:Nat):∀b,rl b≠0->dC rl w w' k b=rl b:=fun b a=>Y1 (h.bnd b a)
theorem I5.roles{a:Nat->Nat}{k:Nat}{x:Fl}(h:I5 w rl F k x)(h1:∀b,rl b≠0->a b=rl b):I5 w a F k x:=by obtain⟨c,bv,d,e⟩:=h;exact⟨(h1 _ (by omega)).trans c,bv,d,e.widen fun b f=>(h1 b (by omega)).trans f⟩
theorem mR.change{D:Dk}{c:fC}{k:Nat}(h:mR (D.change c) k):mR D k∨(c.come≠emp∧c.file=k):=by
 rcases h with⟨x,hx,e⟩|⟨x,hx,e⟩|⟨x,hx,e⟩
 ·rcases fK hx with q|⟨q,rfl⟩
  ·exact .inl (.inl ⟨x,q.1,e⟩)
  ·exact .inr ⟨q,e⟩
 ·exact .inl (.inr (.inl ⟨x,hx,e⟩))
 ·rcases List.mem_append.1 hx with q|q
  ·exact .inl (.inr (.inr ⟨x,q,e⟩))
  ·rw[List.mem_singleton]at q;subst q;exact .inr e
theorem ub(F:Nat->Nat)(l:List fC)(c:fC):dh F (l++[c])=dh F l++J5 F c:=by simp[dh]
theorem qz.changeAt(h:qz w rl d ms mf pv F D n)(c:fC)(f:c.come≠emp->∃x,D.files[c.file]?=some x∧I5 w rl F c.file x)(e:d7 (fun b=>b=d∨b=ms∨rl b=4) w w')
  (a:X8 w' d #[.int .i64 D.quota,.int .i64 n,.map (some ms),.map (some mf),pv',.int .i64 D.falls,.bool D.off] 148)
  (i:z8 KStr w' ms (P4 F (changed D.seen c)) (changed D.seen c).length) (j:D7 w' ms)
  (l:Sl w' (fun b=>dC rl w w' 4 b=4) 159 3 pv' (dh F D.pend++J5 F c) (D.pend.length+1)):qz w' (dC rl w w' 4) d ms mf pv' F (D.change c) n:=by
 have K:=h.keepR w' 4;have r1:=h.r1;have r2:=h.r2;have r3:=h.r3;refine⟨(K _ (by omega)).trans r1,(K _ (by omega)).trans r2,(K _ (by omega)).trans r3,a,i,?_,?_,?_,fun b a=>dl a e.size,j,h.bf.congr (e.block _ h.safe.lt fun q=>by rcases q with q|q|q<;>(first|(rw[q,r1]at r3;omega)|(rw[q,r2]at r3;omega)|omega))⟩
 ·exact h.safe.congr (e.block _ h.safe.lt fun q=>by rcases q with q|q|q<;>(first|(rw[q,r1]at r3;omega)|(rw[q,r2]at r3;omega)|omega)) fun _=>rfl
 ·show Sl w' _ 159 3 pv' (dh F (D.pend++[c])) (D.pend++[c]).length;rw[ub,List.length_append];exact l
 ·intro k g
  have:∃x,D.files[k]?=some x∧I5 w rl F k x:=by
   rcases mR.change g with q|⟨q,rfl⟩
   ·exact h.file k q
   ·exact f q
  obtain⟨x,h1,h2⟩:=this;exact⟨x,h1,(h2.turned e fun b a q=>by rcases q with q|q|q<;>(first|(rw[q,r1]at a;omega)|(rw[q,r2]at a;omega)|omega)).roles K⟩
theorem p9.setAt(h:p9 w rl d ms mf pv F D){k:Nat}{x y:Fl}(m:D.files[k]?=some x)(i:I5 w rl F k x){bv:Value}(a:d7 (fun b=>b=F k∨rl b=6+2*k) w w')
  (c:X8 w' (F k) #[.int .i64 k,bv,.int .i64 y.safe] 157) (o:Sl w' (fun b=>dC rl w w' (6+2*k) b=6+2*k) 5 1 bv (o9 y.bytes.data.toList) y.bytes.size):
  p9 w' (dC rl w w' (6+2*k)) d ms mf pv F (D.setF k y):=by
 have K:=h.keepR w' (6+2*k);have r1:=h.r1;have r2:=h.r2;have r3:=h.r3;have g:=i.1;have n:=(LA.1 m).1;have e:∀b,rl b≠0->rl b≠5+2*k->rl b≠6+2*k->¬(b=F k∨rl b=6+2*k):=fun b h1 h2 h3 q=>by rcases q with q|q<;>(first|(rw[q,g]at h2;omega)|omega)
 refine⟨(K _ (by omega)).trans r1,(K _ (by omega)).trans r2,(K _ (by omega)).trans r3,?_,?_,?_,?_,?_,fun b c=>dl c a.size,h.bs.congr (a.block _ h.seen.lt (e _ (by omega) (by omega) (by omega))),h.bf.congr (a.block _ h.safe.lt (e _ (by omega) (by omega) (by omega)))⟩
 ·have:=(a.block _ (i6 h.blk) (e _ (by omega) (by omega) (by omega))).trans h.blk;simpa[Dk.setF,X8]using this
 ·exact h.seen.congr (a.block _ h.seen.lt (e _ (by omega) (by omega) (by omega))) fun _=>rfl
 ·exact h.safe.congr (a.block _ h.safe.lt (e _ (by omega) (by omega) (by omega))) fun _=>rfl
 ·exact(h.pend.turned a fun b c=>e b (by omega) (by omega) (by omega)).widen fun b c=>(K b (by omega)).trans c
 ·intro j l;by_cases f:j=k
  ·subst f;exact⟨y,by simp[Dk.setF,n],(K _ (by omega)).trans g,bv,c,o⟩
  ·obtain⟨z,h1,h2⟩:=h.file j l;refine⟨z,?_,(h2.turned a fun b c=>e b (by omega) (by omega) (by omega)).roles K⟩;show(D.files.set k y)[j]?=some z;rw[List.getElem?_set_ne (fun q=>f q.symm)];exact h1
theorem qz.moreAt(h:p9 w rl d ms mf pv F D)(a:TF w w'){f:Nat}(I:w.heap.size<=f)(e:X8 w' f #[.int .i64 D.files.length,.slice none 0 0,.int .i64 0] 157):
  qz w' (fun b=>if b=f then 5+2*D.files.length else rl b) d ms mf pv (fun k=>if k=D.files.length then f else F k) {D with files:=D.files++[⟨emp,0⟩]} D.files.length∧
  I5 w' (fun b=>if b=f then 5+2*D.files.length else rl b) (fun k=>if k=D.files.length then f else F k) D.files.length ⟨emp,0⟩:=by
 have K:∀b,rl b≠0->(if b=f then 5+2*D.files.length else rl b)=rl b:=fun b e=>by rw[if_neg];intro q;have:=h.bnd b e;omega
 have r1:=h.r1;have r2:=h.r2;have r3:=h.r3;have g:∀k,mR D k->k≠D.files.length:=fun k m q=>by obtain⟨x,h1,-⟩:=h.file k m;have:=(LA.1 h1).1;omega
 have r:∀l:Nms,(∀x∈l,x.2≠D.files.length)->∀v,P4 (fun k=>if k=D.files.length then f else F k) l v=P4 F l v:=by
  intro l B v;cases v with
  |string s=>
   simp only[P4];cases G:findN l s with
   |none=>rfl
   |some k=>have:=B _ (S8 G);simp only[Option.map_some];rw[if_neg this]
  |_=>rfl
 have E:dh (fun k=>if k=D.files.length then f else F k) D.pend=dh F D.pend:=by
  unfold dh;have:∀c∈D.pend,J5 (fun k=>if k=D.files.length then f else F k) c=J5 F c:=by
   intro c i;unfold J5;by_cases j:c.come=emp
   ·simp[j]
   ·have:=g c.file (.inr (.inr ⟨c,i,j,rfl⟩));simp[j,this]
  have gen:∀l:List fC,(∀c∈l,J5 (fun k=>if k=D.files.length then f else F k) c=J5 F c)->l.flatMap (J5 fun k=>if k=D.files.length then f else F k)=l.flatMap (J5 F):=by
   intro l
   induction l with|nil=>intro _;rfl|cons c l H=>intro q;rw[List.flatMap_cons,List.flatMap_cons,q c (List.mem_cons_self ..),H fun c i=>q c (List.mem_cons_of_mem _ i)]
  exact gen _ this
 have A:I5 w' (fun b=>if b=f then 5+2*D.files.length else rl b) (fun k=>if k=D.files.length then f else F k) D.files.length ⟨emp,0⟩:=by refine⟨by simp,.slice none 0 0,by simpa using e,?_⟩;exact Sl.nil _ _ _ _
 refine⟨⟨(K _ (by omega)).trans r1,(K _ (by omega)).trans r2,(K _ (by omega)).trans r3,?_,?_,?_,?_,?_,?_,h.bs.congr (a.block _ h.seen.lt id),h.bf.congr (a.block _ h.safe.lt id)⟩,A⟩
 ·exact(a.block _ (i6 h.blk) id).trans h.blk
 ·exact h.seen.congr (a.block _ h.seen.lt id) fun v=>r _ (fun x hx=>g _ (.inl ⟨x,hx,rfl⟩)) v
 ·exact h.safe.congr (a.block _ h.safe.lt id) fun v=>r _ (fun x hx=>g _ (.inr (.inl ⟨x,hx,rfl⟩))) v
 ·rw[E];exact(h.pend.turned a fun _ _ q=>q).widen fun b e=>(K b (by omega)).trans e
 ·intro k m;have p:mR D k:=m;have t:=g k p;obtain⟨x,h1,h2⟩:=h.file k p;have C:=(LA.1 h1).1;refine⟨x,by rw[List.getElem?_append_left C];exact h1,?_⟩;obtain⟨u,bv,y,z⟩:=(h2.turned a fun _ _ q=>q).roles K;exact⟨by simpa[t]using u,bv,by simpa[t]using y,z⟩
 ·intro b n;by_cases o:b=f
  ·subst o;exact i6 e
  ·simp only[o,if_false]at n;exact LC (h.bnd b n) a.size
end
end Go.Proofs.YtofcogekgcgjhaaGreatDoor
namespace Go.Proofs.YtofcogekgcgjhaaGreatDoor
open Go.RowKit Go.Mine Go.Mine.Ac Go.Proofs.Tryz
theorem G5{P:Program}{tx b:TypeId}(T:TypeId)(d:P.underlying tx=some (.slice b))(xs:List Value)(h1:∀a∈xs,a.oneCell'=true)(w:World):
  Src P xs.length tx (.slice (some ⟨w.heap.size,0,none⟩) 1 1) 1 xs (w.alloc (.cells xs.toArray T)):=by
 refine Src.ofSlice _ d ⟨w.heap.size,0,none⟩ 1 1 xs (by simp) (fun j a c=>?_) h1;rw[Addr.add_lit,Nat.zero_add];exact g9 (i8 w _) j a (by simpa using c)
theorem ew{P:Program}{tx b:TypeId}(T:TypeId)(d:P.underlying tx=some (.slice b))(xs:List Value)(h1:∀a∈xs,a.oneCell'=true)(w:World):
  Src P xs.length tx (.slice (some ⟨w.heap.size,0,none⟩) 1 1) 1 xs (w.alloc (.cells xs.toArray T)).drew:=by
 refine Src.ofSlice _ d ⟨w.heap.size,0,none⟩ 1 1 xs (by simp) (fun j a c=>?_) h1;rw[Addr.add_lit,Nat.zero_add];exact g9 (w:=(w.alloc (.cells xs.toArray T)).drew) (i8 w _) j a (by simpa using c)
theorem info159:(prog.info? 159).map (fun i=>(i.zero,i.size,i.bytes))=some (some (.agg #[.string ⟨#[]⟩,.string ⟨#[]⟩,.pointer none]),3,40):=by kernel_rfl
def F5(w:World)(rl:Nat->Nat)(d:Nat)(D':Dk)(n:Nat)(w':World):Prop:=∃a f e pv' c,qz w' a d f e pv' c D' n∧(∀b,a b≠0->rl b≠0∨w.heap.size<=b)∧d7 (fun b=>rl b≠0) w w'
abbrev s8(w:World)(rl:Nat->Nat)(d:Nat)(D':Dk)(w':World):Prop:=F5 w rl d D' D'.files.length w'
theorem eQ{rl:Nat->Nat}{w w':World}{k b:Nat}(h:dC rl w w' k b≠0):rl b≠0∨w.heap.size<=b:=by
 by_cases a:b<w.heap.size
 ·rw[Y1 a]at h;exact .inl h
 ·exact .inr (by omega)
theorem E7{w:World}{S T:Nat->Prop}{e:TypeId}{size:Nat}{v:Value}{xs:List Value}{n:Nat}(h:Sl w S e size v xs n)(c:∀b,b<w.heap.size->S b->T b):Sl w T e size v xs n:=by
 refine⟨h.1,?_⟩;rcases h.2 with h|⟨g,off,cap,a,h1,h2,h3⟩
 ·exact .inl h
 ·exact .inr ⟨g,off,cap,a,h1,c g (i6 h3.1) h2,h3⟩
theorem qS{w W w2 a:World}{rl:Nat->Nat}{d ms mf:Nat}{pv f:Value}{F:Nat->Nat}{D:Dk}{N:Nat}(h:qz w rl d ms mf pv F D N)(c:fC)(o:Obj)
  (r:c.come≠emp->∃x,D.files[c.file]?=some x∧I5 w rl F c.file x) (k:TF w W) (h2:d7 (· =ms) W w2) (l:z8 KStr w2 ms (P4 F (changed D.seen c)) (changed D.seen c).length) (n:D7 w2 ms)
  (h3:d7 (fun b=>rl b=4) (w2.alloc o).drew a) (v:Sl a (F2 (fun b=>rl b=4) (w2.alloc o).drew) 159 3 f (dh F D.pend++J5 F c) (D.pend.length+1)) (s:a.heap[d]?=w.heap[d]?):
  F5 w rl d (D.change c) N (a.setCell ⟨d,4,none⟩ f):=by
 have r1:=h.r1;have r2:=h.r2;have t:ms≠d:=fun q=>by rw[q,r1]at r2;omega
 have B:=h2.size;have E:=k.size;have z:(w2.alloc o).drew.heap.size=w2.heap.size+1:=by show(w2.alloc o).heap.size=_;simp
 have C:w2.heap.size+1<=a.heap.size:=by have:=h3.size;omega
 have u:=l.lt;have j:d7 (fun b=>rl b=4) w2 a:=((d7.alloc (fun b=>rl b=4) w2 o).draw).tr h3;have g:d7 (fun b=>b=d∨b=ms∨rl b=4) w (a.setCell ⟨d,4,none⟩ f):=by
  refine d7.set ?_ (p:=⟨d,4,none⟩) (.inl rfl) _;refine d7.comp (S:=fun b=>b=ms) (S':=fun b=>rl b=4) ?_ j fun i _ q=>q.elim (fun q=>.inr (.inl q)) fun q=>.inr (.inr q)
  exact k.comp h2 fun i _ q=>q.elim False.elim id
 have A:(a.setCell ⟨d,4,none⟩ f).heap.size=a.heap.size:=n8 _ _ _;have m:(a.setCell ⟨d,4,none⟩ f).heap[ms]?=w2.heap[ms]?:=(kH _ t).trans (j.block _ u (by rw[r2];decide));refine⟨_,ms,mf,f,F,h.changeAt (w':=a.setCell ⟨d,4,none⟩ f) c r g ?_ (l.congr m fun _=>rfl) (n.congr m) ?_,fun b e=>eQ e,g.mono fun i _ q=>by rcases q with q|q|q<;>simp_all⟩
 ·have e:=s.trans h.blk;have:=j8 e (o:=4) f;simpa[X8]using this
 ·have y:d7 (· =d) a (a.setCell ⟨d,4,none⟩ f):=d7.setCell (S:=(· =d)) (p:=⟨d,4,none⟩) rfl _;refine E7 (v.turned y fun b e q=>?_) fun b e q=>?_
  ·rcases e with e|e
   ·rw[q,r1]at e;omega
   ·have:=h.bnd d (by rw[r1];decide);omega
  ·rcases q with q|q
   ·rw[Y1 (h.bnd b (by omega))];exact q
   ·exact dk (by omega) e
theorem fQ{w:World}{rl:Nat->Nat}{d ms mf:Nat}{pv:Value}{F:Nat->Nat}{D:Dk}{N:Nat}(h:qz w rl d ms mf pv F D N)(t:cM D.files.length D.seen)(c:fC)
  (G:c.come≠emp->∃x,D.files[c.file]?=some x∧I5 w rl F c.file x) (J:D.pend.length<=1000000000):
  CZ 97 #[pt d,.agg (J5 F c).toArray] w fun e w'=>e=.returned (.tuple #[])∧F5 w rl d (D.change c) N w':=by
 obtain⟨g,z,o,k⟩:∃g z o,J5 F c=[.string g,.string z,.pointer o]:=by
  unfold J5;by_cases q:c.come=emp
  ·exact⟨_,_,none,by rw[if_pos q]⟩
  ·exact⟨_,_,some ⟨F c.file,0,none⟩,by rw[if_neg q]⟩
 have O:Hid (∀W,TF w W->CZ 89 #[.agg #[.string g,.string z,.pointer o],.map (some ms)] W (oF W ms F D.seen c)):=i7 fun W C=>by have:=Bo (F:=F) (w:=W) (m:=ms) c (h.seen.congr (C.block _ h.seen.lt id) fun _=>rfl) (h.bs.congr (C.block _ h.seen.lt id)) t.nodup t.ne;rw[k]at this;exact this
 have Q:Hid (J5 F c=[.string g,.string z,.pointer o]):=k;have M:Hid (qz w rl d ms mf pv F D N):=h;have l:=G;replace l:Hid (c.come≠emp->∃x,D.files[c.file]?=some x∧I5 w rl F c.file x):=l;have HL:Hid (D.pend.length<=1000000000):=J;rw[k];have T:=g9 h.blk 2 _ rfl;have H:=i6 h.blk;obtain⟨a,cap,X,-,-⟩:=h.pend.value;subst X;have V:ms≠d:=fun q=>by have h1:=h.r1;have h2:=h.r2;rw[q,h1]at h2;omega
 obtain⟨n,i⟩:=EX D.pend.length;have P:Hid (n=D.pend.length):=i;have B:∀W w2:World,W.heap[w.heap.size]?=some (.cells #[.string g,.string z,.pointer o] 159)->TF w W->d7 (· =ms) W w2->w2.heap[w.heap.size]?=some (.cells #[.string g,.string z,.pointer o] 159):=fun W w2 h1 h2 h3=>
  (h3.block _ (i6 h1) fun q=>by have:=h.seen.lt;omega).trans h1
 have s:∀W w2:World,TF w W->d7 (· =ms) W w2->w2.heap[d]?=w.heap[d]?:=fun W w2 h2 h3=>
  (h3.block _ (LC H h2.size) fun q=>V q.symm).trans (h2.block _ H id)
 have K1:Hid (∀W w2:World,d7 (· =ms) W w2->TF w W->W.heap[w.heap.size]?=some (.cells #[.string g,.string z,.pointer o] 159)->
   w2.cell? ⟨d,4,none⟩=some (.slice a n cap)∧w2.frozen? ⟨d,4,none⟩=false∧d<w2.heap.size∧w2.cell? ⟨w.heap.size,0,none⟩=some (.string g)∧w2.cell? ⟨w.heap.size,1,none⟩=some (.string z)∧w2.cell? ⟨w.heap.size,2,none⟩=some (.pointer o)∧w2.heap[d]?=w.heap[d]? ∧
   Sl ((w2.alloc (.cells #[.string g,.string z,.pointer o] 159)).drew) (fun b=>rl b=4) 159 3 (.slice a n cap) (dh F D.pend) n):=i7 fun W w2 h3 h2 h1=>by
  have b1:=B W w2 h1 h2 h3;have b2:=(s W w2 h2 h3).trans h.blk;refine⟨by rw[i];exact g9 b2 4 _ rfl,j7 b2 4,i6 b2,g9 b1 0 _ rfl,g9 b1 1 _ rfl,g9 b1 2 _ rfl,s W w2 h2 h3,?_⟩;rw[i];have r2:=h.r2;exact(((h.pend.turned h2 fun _ _ q=>q).turned h3 fun b j q=>by rw[q,r2]at j;omega).turned (d7.alloc (fun _=>False) _ _) fun _ _ q=>q).drew
 have S:Hid (∀w2:World,Src prog 3 146 (.slice (some ⟨w2.heap.size,0,none⟩) 1 1) 1 [.string g,.string z,.pointer o] ((w2.alloc (.cells #[.string g,.string z,.pointer o] 159)).drew)):=i7 fun w2=>
  ew 159 underlying146 [.string g,.string z,.pointer o] (by simp[Value.oneCell']) w2
 have R:Hid (∀w2 f:World,d7 (fun b=>rl b=4) (w2.alloc (.cells #[.string g,.string z,.pointer o] 159)).drew f->w2.heap[d]?=w.heap[d]? ->f.heap[d]?=w.heap[d]? ∧f.frozen? ⟨d,4,none⟩=false∧d<f.heap.size∧f.cell? ⟨d,4,none⟩=some (.slice a n cap)):=i7 fun w2 f Z U=>by have r1:=h.r1;have j:=h.blk;rw[<-i]at j;have h2:w2.heap[d]?=_:=U.trans j;have h3:f.heap[d]?=_:=((Z.block d (by have:=i6 h2;show d<(w2.alloc _).heap.size;simp;omega) (by rw[r1];decide)).trans (G8 _ (i6 h2))).trans h2;exact⟨h3.trans j.symm,j7 h3 4,i6 h3,g9 h3 4 _ rfl⟩
 have L:Hid (n+1<=maxLen∧(n+1)*40<=140737488355328):=i7 ⟨by rw[i];simp only[maxLen];omega,by rw[i];omega⟩;rw[<-i]at T;clear k h t G J B s i;go_enter func97,ntmps97;go_wp2;go_region_with (first|(go_fit(O.o _ (by first|exact TA|exact TA.draw|exact(TA.draw).draw));rintro e w2⟨rfl,I,v,K,E⟩;obtain⟨k1,k2,k3,k4,k5,k6,k8,k7⟩:=K1.o _ w2 v (by first|exact TA|exact TA.draw|exact(TA.draw).draw) (by exact i8 _ _);have p:=S.o w2;replace p:=i7 p;replace k7:=i7 k7;have r:Hid (z8 KStr w2 ms (P4 F (changed D.seen c)) (changed D.seen c).length∧d7 (· =ms) _ w2∧w2.heap.size=_∧D7 w2 ms):=i7 ⟨I,v,K,E⟩;clear I v K E))
 all_goals go_wp2
 all_goals go_region_law ((refine o5 (by rfl) _ _ 146 146 (by rfl) k7.o underlying146 info159 rfl (by decide) (by rfl) (.slice (some ⟨w2.heap.size,0,none⟩) 1 1) (by rfl) p.o L.o.1 L.o.2 ?_;intro v' f u y;obtain⟨a3,ab,aa,-,-⟩:=u.value;subst aa;have Y:=R.o w2 f y k8;obtain⟨q1,q2,q3,q4⟩:=Y;have A:Hid (Sl f _ 159 3 _ _ (n+1)∧d7 _ _ f):=⟨u,y⟩;clear u y))
 all_goals go_wp2
 all_goals go_end0
 all_goals exact⟨rfl,qS M.o c _ l.o (by first|exact TA|exact TA.draw|exact(TA.draw).draw) r.o.2.1 r.o.1 r.o.2.2.2 A.o.2 (by rw[Q.o,<-P.o];exact A.o.1) q1⟩
theorem p9.counted{w:World}{rl:Nat->Nat}{d ms mf:Nat}{pv:Value}{F:Nat->Nat}{D:Dk}(h:p9 w rl d ms mf pv F D)(h1:D.falls≠1)(m:Nat)(a:m=D.falls-1):
  p9 (w.setCell ⟨d,5,none⟩ (.int .i64 m)) rl d ms mf pv F {D with falls:=D.falls-1}∧d7 (· =d) w (w.setCell ⟨d,5,none⟩ (.int .i64 m)):=by
 have t:d7 (· =d) w (w.setCell ⟨d,5,none⟩ (.int .i64 m)):=d7.setCell (S:=(· =d)) (p:=⟨d,5,none⟩) rfl _;refine⟨h.put t ?_ rfl rfl rfl rfl,t⟩;have:=j8 h.blk (o:=5) (.int .i64 m);rw[a];rw[a]at this;simpa[X8]using this
theorem qT{w:World}{rl:Nat->Nat}{d ms mf:Nat}{pv:Value}{F:Nat->Nat}{D:Dk}(h:p9 w rl d ms mf pv F D)(h1:D.falls≠1)(hF:D.falls<=9223372036854775807)(i b1:Nat){g:World->Prop}
  (a:∀c,p9 c rl d ms mf pv F {D with falls:=D.falls-1}->d7 (· =d) w c->c.heap.size=w.heap.size->CZ 96 #[pt i,pt b1] c fun e w'=>e=.returned (.tuple #[])∧g w'):
  CZ 95 #[pt d,.func (.func 96) #[] #[pt i,pt b1]] w fun e w'=>e=.returned (.int .i64 0)∧g w':=by
 have t:=j7 h.blk 5;have l:=g9 h.blk 5 _ rfl;have u:=i6 h.blk;by_cases b:D.falls=0
 ·have j:{D with falls:=D.falls-1}=D:=by cases D;simp at b ⊢;omega
  rw[j]at a;have f:=a w h TQ rfl;rw[b]at l;clear h h1 hF b a j;go_enter func95,ntmps95;go_wp2_with(go_fit f;rintro e w'⟨rfl,q⟩;replace q:=i7 q);go_ret;exact⟨rfl,q.o⟩
 ·obtain⟨m,k⟩:∃m,m=D.falls-1:=⟨_,rfl⟩;obtain⟨k1,k2⟩:=h.counted h1 m k;have f:=a _ k1 k2 (n8 _ _ _);have n:decide ((0:Int)<(D.falls:Int))=true:=by simp;omega
  have p:decide (0<D.falls)=true:=by simp;omega
  have v:wrap64 ((D.falls:Int)-1)=((m:Nat):Int):=by simp[wrap64];omega
  have r:((m:Int)==0)=false:=by simp;omega
  have s:(m==0)=false:=by simp;omega
  clear k1 k2 a h1 hF b k h;generalize D.falls=q at *;go_enter func95,ntmps95;go_wp2_with(go_fit f;rintro e w'⟨rfl,q⟩;replace q:=i7 q);go_ret;exact⟨rfl,q.o⟩
theorem qU{w:World}{rl:Nat->Nat}{d ms mf:Nat}{pv:Value}{F:Nat->Nat}{D:Dk}(h:p9 w rl d ms mf pv F D)(h1:D.falls≠1)(hF:D.falls<=9223372036854775807)(i b1:Nat){g:World->Prop}
  (a:∀c,p9 c rl d ms mf pv F {D with falls:=D.falls-1}->d7 (· =d) w c->c.heap.size=w.heap.size->CZ 98 #[pt i,pt b1] c fun e w'=>e=.returned (.tuple #[])∧g w'):
  CZ 95 #[pt d,.func (.func 98) #[] #[pt i,pt b1]] w fun e w'=>e=.returned (.int .i64 0)∧g w':=by
 have t:=j7 h.blk 5;have l:=g9 h.blk 5 _ rfl;have u:=i6 h.blk;by_cases b:D.falls=0
 ·have j:{D with falls:=D.falls-1}=D:=by cases D;simp at b ⊢;omega
  rw[j]at a;have f:=a w h TQ rfl;rw[b]at l;clear h h1 hF b a j;go_enter func95,ntmps95;go_wp2_with(go_fit f;rintro e w'⟨rfl,q⟩;replace q:=i7 q);go_ret;exact⟨rfl,q.o⟩
 ·obtain⟨m,k⟩:∃m,m=D.falls-1:=⟨_,rfl⟩;obtain⟨k1,k2⟩:=h.counted h1 m k;have f:=a _ k1 k2 (n8 _ _ _);have n:decide ((0:Int)<(D.falls:Int))=true:=by simp;omega
  have p:decide (0<D.falls)=true:=by simp;omega
  have v:wrap64 ((D.falls:Int)-1)=((m:Nat):Int):=by simp[wrap64];omega
  have r:((m:Int)==0)=false:=by simp;omega
  have s:(m==0)=false:=by simp;omega
  clear k1 k2 a h1 hF b k h;generalize D.falls=q at *;go_enter func95,ntmps95;go_wp2_with(go_fit f;rintro e w'⟨rfl,q⟩;replace q:=i7 q);go_ret;exact⟨rfl,q.o⟩
theorem oH{w:World}{rl:Nat->Nat}{d ms mf:Nat}{pv:Value}{F:Nat->Nat}{D:Dk}(h:p9 w rl d ms mf pv F D)(h1:D.falls≠1)(hF:D.falls<=9223372036854775807)(i:Nat){g:World->Prop}
  (a:∀c,p9 c rl d ms mf pv F {D with falls:=D.falls-1}->d7 (· =d) w c->c.heap.size=w.heap.size->CZ 235 #[pt i] c fun e w'=>e=.returned (.tuple #[])∧g w'):
  CZ 95 #[pt d,.func (.func 235) #[] #[pt i]] w fun e w'=>e=.returned (.int .i64 0)∧g w':=by
 have t:=j7 h.blk 5;have l:=g9 h.blk 5 _ rfl;have u:=i6 h.blk;by_cases b:D.falls=0
 ·have j:{D with falls:=D.falls-1}=D:=by cases D;simp at b ⊢;omega
  rw[j]at a;have f:=a w h TQ rfl;rw[b]at l;clear h h1 hF b a j;go_enter func95,ntmps95;go_wp2_with(go_fit f;rintro e w'⟨rfl,q⟩;replace q:=i7 q);go_ret;exact⟨rfl,q.o⟩
 ·obtain⟨m,k⟩:∃m,m=D.falls-1:=⟨_,rfl⟩;obtain⟨k1,k2⟩:=h.counted h1 m k;have f:=a _ k1 k2 (n8 _ _ _);have n:decide ((0:Int)<(D.falls:Int))=true:=by simp;omega
  have p:decide (0<D.falls)=true:=by simp;omega
  have v:wrap64 ((D.falls:Int)-1)=((m:Nat):Int):=by simp[wrap64];omega
  have r:((m:Int)==0)=false:=by simp;omega
  have s:(m==0)=false:=by simp;omega
  clear k1 k2 a h1 hF b k h;generalize D.falls=q at *;go_enter func95,ntmps95;go_wp2_with(go_fit f;rintro e w'⟨rfl,q⟩;replace q:=i7 q);go_ret;exact⟨rfl,q.o⟩
theorem oI{w:World}{rl:Nat->Nat}{d ms mf:Nat}{pv:Value}{F:Nat->Nat}{D:Dk}(h:p9 w rl d ms mf pv F D)(h1:D.falls≠1)(hF:D.falls<=9223372036854775807)(i b1 b2 b3:Nat){g:World->Prop}
  (a:∀c,p9 c rl d ms mf pv F {D with falls:=D.falls-1}->d7 (· =d) w c->c.heap.size=w.heap.size->CZ 303 #[pt i,pt b1,pt b2,pt b3] c fun e w'=>e=.returned (.tuple #[])∧g w'):
  CZ 95 #[pt d,.func (.func 303) #[] #[pt i,pt b1,pt b2,pt b3]] w fun e w'=>e=.returned (.int .i64 0)∧g w':=by
 have t:=j7 h.blk 5;have l:=g9 h.blk 5 _ rfl;have u:=i6 h.blk;by_cases b:D.falls=0
 ·have j:{D with falls:=D.falls-1}=D:=by cases D;simp at b ⊢;omega
  rw[j]at a;have f:=a w h TQ rfl;rw[b]at l;clear h h1 hF b a j;go_enter func95,ntmps95;go_wp2_with(go_fit f;rintro e w'⟨rfl,q⟩;replace q:=i7 q);go_ret;exact⟨rfl,q.o⟩
 ·obtain⟨m,k⟩:∃m,m=D.falls-1:=⟨_,rfl⟩;obtain⟨k1,k2⟩:=h.counted h1 m k;have f:=a _ k1 k2 (n8 _ _ _);have n:decide ((0:Int)<(D.falls:Int))=true:=by simp;omega
  have p:decide (0<D.falls)=true:=by simp;omega
  have v:wrap64 ((D.falls:Int)-1)=((m:Nat):Int):=by simp[wrap64];omega
  have r:((m:Int)==0)=false:=by simp;omega
  have s:(m==0)=false:=by simp;omega
  clear k1 k2 a h1 hF b k h;generalize D.falls=q at *;go_enter func95,ntmps95;go_wp2_with(go_fit f;rintro e w'⟨rfl,q⟩;replace q:=i7 q);go_ret;exact⟨rfl,q.o⟩
theorem oJ{w:World}{rl:Nat->Nat}{d ms mf:Nat}{pv:Value}{F:Nat->Nat}{D:Dk}(h:p9 w rl d ms mf pv F D)(h1:D.falls≠1)(hF:D.falls<=9223372036854775807)(i b1:Nat){g:World->Prop}
  (a:∀c,p9 c rl d ms mf pv F {D with falls:=D.falls-1}->d7 (· =d) w c->c.heap.size=w.heap.size->CZ 100 #[pt i,pt b1] c fun e w'=>e=.returned (.tuple #[])∧g w'):
  CZ 95 #[pt d,.func (.func 100) #[] #[pt i,pt b1]] w fun e w'=>e=.returned (.int .i64 0)∧g w':=by
 have t:=j7 h.blk 5;have l:=g9 h.blk 5 _ rfl;have u:=i6 h.blk;by_cases b:D.falls=0
 ·have j:{D with falls:=D.falls-1}=D:=by cases D;simp at b ⊢;omega
  rw[j]at a;have f:=a w h TQ rfl;rw[b]at l;clear h h1 hF b a j;go_enter func95,ntmps95;go_wp2_with(go_fit f;rintro e w'⟨rfl,q⟩;replace q:=i7 q);go_ret;exact⟨rfl,q.o⟩
 ·obtain⟨m,k⟩:∃m,m=D.falls-1:=⟨_,rfl⟩;obtain⟨k1,k2⟩:=h.counted h1 m k;have f:=a _ k1 k2 (n8 _ _ _);have n:decide ((0:Int)<(D.falls:Int))=true:=by simp;omega
  have p:decide (0<D.falls)=true:=by simp;omega
  have v:wrap64 ((D.falls:Int)-1)=((m:Nat):Int):=by simp[wrap64];omega
  have r:((m:Int)==0)=false:=by simp;omega
  have s:(m==0)=false:=by simp;omega
  clear k1 k2 a h1 hF b k h;generalize D.falls=q at *;go_enter func95,ntmps95;go_wp2_with(go_fit f;rintro e w'⟨rfl,q⟩;replace q:=i7 q);go_ret;exact⟨rfl,q.o⟩
theorem oK{w:World}{rl:Nat->Nat}{d ms mf:Nat}{pv:Value}{F:Nat->Nat}{D:Dk}(h:p9 w rl d ms mf pv F D)(h1:D.falls≠1)(hF:D.falls<=9223372036854775807)(i:Nat){g:World->Prop}
  (a:∀c,p9 c rl d ms mf pv F {D with falls:=D.falls-1}->d7 (· =d) w c->c.heap.size=w.heap.size->CZ 159 #[pt i] c fun e w'=>e=.returned (.tuple #[])∧g w'):
  CZ 95 #[pt d,.func (.func 159) #[] #[pt i]] w fun e w'=>e=.returned (.int .i64 0)∧g w':=by
 have t:=j7 h.blk 5;have l:=g9 h.blk 5 _ rfl;have u:=i6 h.blk;by_cases b:D.falls=0
 ·have j:{D with falls:=D.falls-1}=D:=by cases D;simp at b ⊢;omega
  rw[j]at a;have f:=a w h TQ rfl;rw[b]at l;clear h h1 hF b a j;go_enter func95,ntmps95;go_wp2_with(go_fit f;rintro e w'⟨rfl,q⟩;replace q:=i7 q);go_ret;exact⟨rfl,q.o⟩
 ·obtain⟨m,k⟩:∃m,m=D.falls-1:=⟨_,rfl⟩;obtain⟨k1,k2⟩:=h.counted h1 m k;have f:=a _ k1 k2 (n8 _ _ _);have n:decide ((0:Int)<(D.falls:Int))=true:=by simp;omega
  have p:decide (0<D.falls)=true:=by simp;omega
  have v:wrap64 ((D.falls:Int)-1)=((m:Nat):Int):=by simp[wrap64];omega
  have r:((m:Int)==0)=false:=by simp;omega
  have s:(m==0)=false:=by simp;omega
  clear k1 k2 a h1 hF b k h;generalize D.falls=q at *;go_enter func95,ntmps95;go_wp2_with(go_fit f;rintro e w'⟨rfl,q⟩;replace q:=i7 q);go_ret;exact⟨rfl,q.o⟩
theorem lz{l m:List Nat}(h:l.Perm m):l.sum=m.sum:=by
  induction h with|nil=>rfl|cons x _ a=>rw[List.sum_cons,List.sum_cons,a]|swap x y r=>rw[List.sum_cons,List.sum_cons,List.sum_cons,List.sum_cons];omega|trans _ _ h1 h2=>exact h1.trans h2
theorem nB{w:World}{b n:Nat}{F:Nat->Nat}{l:Nms}(h:z8 KStr w b (P4 F l) n)(i:(l.map (·.1)).Nodup){d:Array MapEntry}{m:Nat}(t:w.heap[b]?=some (.map d m)):
    (d.toList.map (·.key)).Perm ((l.map (·.1)).map Value.string)∧∀e∈d.toList,∃s k,e.key=.string s∧findN l s=some k∧e.val=pt (F k):=by
  obtain⟨B,z,h1,h2,h3,h4,r,C⟩:=h;rw[t]at h1;simp only[Option.some.injEq,Obj.map.injEq]at h1;obtain⟨rfl,rfl⟩:=h1;have c:∀e∈d.toList,∃s k,e.key=.string s∧findN l s=some k∧e.val=pt (F k):=by
    intro e c;have:=h3 e c;cases g:e.key with
    |string s=>rw[g]at this;obtain⟨j,v,q⟩:=Option.map_eq_some_iff.1 this;exact⟨s,j,rfl,v,q.symm⟩
    |_=>rw[g]at this;simp[P4]at this
  refine⟨?_,c⟩;have n1:(d.toList.map (·.key)).Nodup:=by rw[List.nodup_iff_pairwise_ne,List.pairwise_map];exact r
  have n2:((l.map (·.1)).map Value.string).Nodup:=gA _ (fun a b q=>by injection q) i;rw[List.perm_ext_iff_of_nodup n1 n2];intro k;constructor
  ·intro f;obtain⟨e,u,rfl⟩:=List.mem_map.1 f;obtain⟨s,j,o,p,A⟩:=c e u;rw[o];exact List.mem_map.2 ⟨s,List.mem_map.2 ⟨_,S8 p,rfl⟩,rfl⟩
  ·intro f;obtain⟨s,y,rfl⟩:=List.mem_map.1 f;obtain⟨x,hx,rfl⟩:=List.mem_map.1 y;have:=cN i (show(x.1,x.2)∈l from hx);obtain⟨e,c,f⟩:=h4 (.string x.1) (pt (F x.2)) (by simp[P4,this]);exact List.mem_map.2 ⟨e,c,f⟩
def nC(D:Dk):Value->Nat
  | .string s=>match findN D.seen s with|some k=>(D.at k).bytes.size|none=>0
  |_=>0
theorem Bp{D:Dk}{a:List MapEntry}(b:(D.seen.map (·.1)).Nodup)(h:(a.map (·.key)).Perm ((D.seen.map (·.1)).map Value.string)):(a.map fun e=>nC D e.key).sum=D.used:=by
  have h1:(a.map fun e=>nC D e.key)=(a.map (·.key)).map (nC D):=by rw[List.map_map];rfl
  rw[h1,lz (h.map (nC D)),List.map_map,List.map_map];unfold Dk.used;congr 1;apply List.map_congr_left;intro x hx;simp only[Function.comp,nC,cN b (show(x.1,x.2)∈D.seen from hx)]
def Cu(D:Dk)(b:Array MapEntry)(a ms r:Nat)(f:World)(g:Nat)(nv:Value)(wr:World):Prop:=∃(seen:Array Nat)(d:List MapEntry)(c:Nat),(leftOf b seen).size=g∧nv=.int .i64 (((d.map fun e=>nC D e.key).sum:Nat):Int)∧O8 b seen d∧wr.heap[r]?=some (.mapIter (some ms) a seen c)∧a<=c∧wr.heap[ms]?=some (.map b a)∧d7 (· =r) f wr
theorem xC{w:World}{rl:Nat->Nat}{d ms mf:Nat}{pv:Value}{F:Nat->Nat}{D:Dk}(h:p9 w rl d ms mf pv F D)(z:D.Ok):
    CZ 35 #[pt d] w (RT (.int .i64 D.used) w):=by
  obtain⟨c,f,v,V,U⟩:=h.bs;obtain⟨hk,aa⟩:=nB h.seen z.seenOk.nodup v;have ae:=Bp z.seenOk.nodup hk;have af:=eP z;have an:(Instr.range 145 (.map (some ms))).run prog w=.ok (.pointer (some ⟨w.heap.size,0,none⟩)) (w.alloc (.mapIter (some ms) f #[] f)):=run_range_map w 145 9 153 ms _ _ underlying145 v;have c2:=g9 h.blk 2 _ rfl;have I:=i6 h.blk;have aj:=h.seen.lt;obtain⟨r,j⟩:=EX w.heap.size;obtain⟨m,t⟩:=EX (w.alloc (.mapIter (some ms) f #[] f));have u:TF w m:=by rw[t];exact TA
  have L:Hid (Cu D c f ms r m (leftOf c #[]).size (.int .i64 0) m):=⟨#[],[],f,rfl,rfl,O8.start c,by rw[t,j];exact i8 _ _,LS _,by rw[t];exact(G8 _ aj).trans v,TQ⟩;have HC:Hid (∀e∈c.toList,∃b,e.val=pt b∧∀wr,d7 (· =r) m wr->∃a cap,wr.cell? ⟨b,1,none⟩=some (.slice a (nC D e.key) cap)):=i7 fun e he=>by
    obtain⟨s,k,e1,Q,e3⟩:=aa e he;obtain⟨x,f1,f2⟩:=h.file k (.inl ⟨_,S8 Q,rfl⟩);obtain⟨fr,bv,R,f4⟩:=f2;obtain⟨a,cap,am,-,-⟩:=f4.value;refine⟨F k,e3,fun wr p=>⟨a,cap,?_⟩⟩;have hl:=i6 R;have f5:=(p.block (F k) (LC hl u.size) (by omega)).trans ((u.block (F k) hl id).trans R);have:nC D e.key=x.bytes.size:=by rw[e1];simp[nC,Q,Dk.at,f1]
    rw[this,<-am];exact g9 f5 1 _ rfl
  have HB:Hid (∀x∈c.toList,x.born<f):=V;have M:Hid ((c.toList.map (·.born)).Nodup):=U;have C:Hid ((c.toList.map fun e=>nC D e.key).sum=D.used∧D.used<=64*16777216):=⟨ae,af⟩;have al:Hid (TF w m):=u;have HR:Hid (r=w.heap.size):=j;have ai:w.heap.size=r:=j.symm;rw[ai,<-t]at an;clear v V U hk aa ae af u t h z j ai aj;go_enter func35,ntmps35;go_wp2;go_loopg[3] (leftOf c #[]).size (fun g nv wr=>Cu D c f ms r m g nv wr)
  case atStart=>exact L.o
  case round=>
    obtain⟨seen,l,c0,y,rfl,ah,j,H,G,p⟩:=hrel;have HG:Hid ((leftOf c seen).size=gk):=y;have N:Hid (O8 c seen l):=ah;have HT:Hid (d7 (· =r) m wr):=p;have HS:Hid ((l.map fun e=>nC D e.key).sum=(l.map fun e=>nC D e.key).sum):=rfl;obtain⟨n,J⟩:=EX ((l.map fun e=>nC D e.key).sum);have B:Hid (n=(l.map fun e=>nC D e.key).sum):=J;rw[<-J];clear HS J L ah
    go_wp2_with(at_next;refine df wr rfl _ rfl r ms f c0 seen c rfl j G HB.o M.o H ?_ ?_
                (intro S;have H0:Hid ((leftOf c seen).size=0):=S;clear S y j H G p)
                rotate_left
                intro e A Y X Z ac T ad ao I;have HL:Hid ((leftOf c (seen.push e.born)).size<gk):=(by rw[<-y];exact I:(leftOf c (seen.push e.born)).size<gk);have R3:Hid (A.heap[r]?=some (.mapIter (some ms) f (seen.push e.born) f)):=ac;have B3:Hid (A.heap[ms]?=some (.map c f)):=T;have P:Hid (d7 (· =r) m A):=p.tr ad;have E:Hid (O8 c (seen.push e.born) (l++[e])):=N.o.step M.o X;obtain⟨b,ag,W⟩:=HC.o e Y;obtain⟨a,cap,k1⟩:=W A P.o;have O:Hid (n+nC D e.key<=1073741824∧wrap64 ((n:Int)+(nC D e.key:Nat))=((n+nC D e.key:Nat):Int)):=by have h1:=(E.o).length_eq;have h2:((l++[e]++(leftOf c (seen.push e.born)).toList).map fun e=>nC D e.key).sum=D.used:=(lz ((E.o).map _)).trans C.o.1;rw[List.map_append,List.map_append,List.sum_append,List.sum_append,List.map_cons,List.map_nil,List.sum_cons,List.sum_nil,<-B.o]at h2;have h3:=C.o.2;exact⟨by omega,by simp only[wrap64];omega⟩
                rw[ag]at Z ⊢;clear Y X ac T ad ao I y j H G p ag W;obtain⟨sz,K⟩:=EX (nC D e.key);have ak:Hid (sz=nC D e.key):=K;rw[<-K]at k1 O;obtain⟨kk,ab⟩:=EX e.key;rw[<-ab]at Z ⊢;clear K ab)
    all_goals first
      |(go_ret
        exact⟨by rw[B.o,lz (((N.o).done H0.o).map _),C.o.1];rfl,al.o.comp HT.o fun i hi q=>q.elim id fun q=>by have:=HR.o;omega⟩)
      |(go_roundg ((leftOf c (seen.push e.born)).size)
        case measure=>exact HL.o
        case rel=>exact⟨seen.push e.born,l++[e],f,rfl,by rw[O.o.2,List.map_append,List.sum_append,<-B.o,ak.o];simp,E.o,R3.o,LS _,B3.o,P.o⟩)
end Go.Proofs.YtofcogekgcgjhaaGreatDoor

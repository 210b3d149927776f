/- Packed. -/
import Derived.Test.YtofcogekgcgjhaaGreatDoorZzal
import Derived.Shelf.SlMaps.Clone
set_option maxRecDepth 100000
set_option maxHeartbeats 8000000
namespace Go.Mine.Ac
open Go.Mine
theorem alikeL_le:∀(a b:List UInt8),alikeL a b<=a.length∧alikeL a b<=b.length
 | [],b=>by simp[alikeL]
 |x::a,[]=>by simp[alikeL]
 |x::a,y::b=>by rw[alikeL];have:=alikeL_le a b;split<;>simp<;>omega
theorem alikeL_get:∀(a b:List UInt8)(j:Nat),j<alikeL a b->a[j]?=b[j]?
 | [],b,j,h=>by simp[alikeL]at h
 |x::a,[],j,h=>by simp[alikeL]at h
 |x::a,y::b,j,h=>by
  rw[alikeL]at h;split at h
  ·rename_i q;cases j with
   |zero=>simp[q]
   |succ j=>simpa using alikeL_get a b j (by omega)
  ·omega
theorem alikeL_stop:∀(a b:List UInt8),alikeL a b<a.length->alikeL a b<b.length->a[alikeL a b]? ≠b[alikeL a b]?
 | [],b,h,_=>by simp at h
 |x::a,[],_,h=>by simp at h
 |x::a,y::b,h1,h2=>by
  rw[alikeL]at h1 h2 ⊢;split
  ·rename_i q;rw[if_pos q]at h1 h2;simpa using alikeL_stop a b (by simpa using h1) (by simpa using h2)
  ·rename_i q;simpa using q
theorem jW{a b:List UInt8}{i:Nat}(h:i<=alikeL a b){c:UInt8}(d:a[i]?=some c)(e:b[i]?=some c):i+1<=alikeL a b:=by
 rcases Nat.lt_or_eq_of_le h with q|q
 ·exact q
 ·subst q;have h1:=(LA.1 d).1;have h2:=(LA.1 e).1;exact absurd (d.trans e.symm) (alikeL_stop a b h1 h2)
theorem eR{a b:List UInt8}{i:Nat}(h:i<=alikeL a b)(c:a.length<=i∨b.length<=i∨a[i]? ≠b[i]?):alikeL a b=i:=by
 have h1:=alikeL_le a b;rcases c with q|q|q
 ·omega
 ·omega
 ·rcases Nat.lt_or_eq_of_le h with z|z
  ·exact absurd (alikeL_get a b i z) q
  ·exact z.symm
def fR(t:List Ent):Prop:=t.length<=1024∧checkT none t=0
theorem checkT_each:∀(l:List Ent)(p:Option ByteArray),checkT p l=0->∀x∈l,x.1.size<=255∧x.2≠0
 | [],_,_,x,hx=>by simp at hx
 |y::l,p,h,x,hx=>by
  rw[checkT.eq_def]at h;simp only[]at h;split at h
  ·simp at h
  rename_i h1;split at h
  ·simp at h
  rename_i h2;have a:checkT (some y.1) l=0:=by
   cases p with
   |none=>exact h
   |some q=>
    simp only[]at h;split at h
    ·simp at h
    split at h
    ·simp at h
    ·exact h
  rcases List.mem_cons.1 hx with rfl|hx
  ·exact⟨by omega,h2⟩
  ·exact checkT_each l _ a x hx
theorem zA(last:ByteArray)(x:Ent)(h:x.1.size<=255):(tJ last x).length<=261:=by
 unfold tJ;have h1:x.1.data.toList.length=x.1.size:=by simp
 simp only[List.length_append,j6,List.length_drop];omega
theorem entsB_len:∀(l:List Ent)(last:ByteArray),(∀x∈l,x.1.size<=255)->(entsB last l).length<=261*l.length
 | [],_,_=>by simp[entsB]
 |x::l,last,h=>by
  rw[entsB,List.length_append,List.length_cons];have h1:=zA last x (h x (List.mem_cons_self ..));have h2:=entsB_len l x.1 fun y a=>h y (LP _ a)
  omega
theorem entsB_app:∀(l:List Ent)(last:ByteArray)(x:Ent),entsB last (l++[x])=entsB last l++tJ ((l.getLast?.map (·.1)).getD last) x
 | [],last,x=>by simp[entsB]
 |y::l,last,x=>by
  rw[List.cons_append,entsB,entsB,entsB_app l y.1 x,List.append_assoc];congr 3;cases l with
  |nil=>simp
  |cons z l=>
   simp only[List.getLast?_cons_cons];cases h:(z::l).getLast? with
   |none=>simp at h
   |some q=>rfl
theorem xD{t:List Ent}(h:fR t):(gL t).length<=267266:=by
 unfold gL;rw[List.length_append,j6];have h1:=entsB_len t ⟨#[]⟩ fun x hx=>(checkT_each t none h.2 x hx).1
 have h2:=h.1;omega
end Go.Mine.Ac
namespace Go.Proofs.YtofcogekgcgjhaaGreatDoor
open Go.RowKit Go.Mine Go.Mine.Ac Go.Proofs.Tryz
theorem uf{w W:World}{n:Nat->Nat}{d j O:Nat}{P:Value}{F:Nat->Nat}{D:Dk}(h:p9 w n d j O P F D)(t:TF w W)(e:Array MapEntry)(a:Nat)(u:w.heap[j]?=some (.map e a))(nm:Nat)(M:nm=W.heap.size):
  s8 w n d {D with safe:=D.seen,pend:=[]} (((W.alloc (.map e a)).setCell ⟨d,3,none⟩ (.map (some nm))).setCell ⟨d,4,none⟩ (.slice none 0 0)):=by
 subst M;have r1:=h.r1;have Q:=h.bnd d (by rw[r1];decide);have N:=t.size;have r:d7 (· =d) (W.alloc (.map e a)) (((W.alloc (.map e a)).setCell ⟨d,3,none⟩ (.map (some W.heap.size))).setCell ⟨d,4,none⟩ (.slice none 0 0)):=((d7.refl (· =d) _).set (p:=⟨d,3,none⟩) rfl _).set (p:=⟨d,4,none⟩) rfl _;have TA:TF w (W.alloc (.map e a)):=t.new _;have l:d7 (· =d) w (((W.alloc (.map e a)).setCell ⟨d,3,none⟩ (.map (some W.heap.size))).setCell ⟨d,4,none⟩ (.slice none 0 0)):=TA.comp r fun i _ q=>q.elim False.elim id
 have R:(((W.alloc (.map e a)).setCell ⟨d,3,none⟩ (.map (some W.heap.size))).setCell ⟨d,4,none⟩ (.slice none 0 0)).heap.size=W.heap.size+1:=by simp[n8]
 have G:=h.turned TA fun _ _ q=>q
 have y:(((W.alloc (.map e a)).setCell ⟨d,3,none⟩ (.map (some W.heap.size))).setCell ⟨d,4,none⟩ (.slice none 0 0)).heap[W.heap.size]?=some (.map e a):=(r.block _ (by simp) (by omega)).trans (i8 _ _);have v:(((W.alloc (.map e a)).setCell ⟨d,3,none⟩ (.map (some W.heap.size))).setCell ⟨d,4,none⟩ (.slice none 0 0)).heap[j]?=w.heap[j]?:=l.block _ h.seen.lt fun q=>by have:=h.r2;rw[q,r1]at this;omega
 generalize H:(((W.alloc (.map e a)).setCell ⟨d,3,none⟩ (.map (some W.heap.size))).setCell ⟨d,4,none⟩ (.slice none 0 0))=X at *;have K:=h.keepR X 3;refine⟨dC n w X 3,j,W.heap.size,.slice none 0 0,F,⟨(K _ (by omega)).trans r1,(K _ (by rw[h.r2];decide)).trans h.r2,dk N (by omega),?_,?_,?_,Sl.nil _ _ _ _,fun k J=>?_,fun b g=>dl g l.size,?_,?_⟩,fun b g=>eQ g,h.own l⟩
 ·have z:=j8 G.blk (o:=3) (.map (some W.heap.size));have s:=j8 z (o:=4) (.slice none 0 0);rw[H]at s;simpa[X8]using s
 ·exact h.seen.congr v fun _=>rfl
 ·obtain⟨E,A,f,m⟩:=h.seen;rw[u]at f;simp only[Option.some.injEq,Obj.map.injEq]at f;obtain⟨rfl,rfl⟩:=f;exact⟨e,a,y,m⟩
 ·have L:mR D k:=by
   rcases J with q|q|⟨c,I,-⟩
   ·exact .inl q
   ·exact .inl q
   ·simp at I
  obtain⟨x,B,C⟩:=h.file k L;exact⟨x,B,(C.turned l fun b g q=>by rw[q,r1]at g;omega).roles K⟩
 ·exact h.bs.congr v
 ·obtain⟨E,A,f,m⟩:=h.bs;rw[u]at f;simp only[Option.some.injEq,Obj.map.injEq]at f;obtain⟨rfl,rfl⟩:=f;exact⟨e,a,y,m⟩
theorem qZ{w:World}{g:Nat->Nat}{d l v:Nat}{x:Value}{F:Nat->Nat}{D:Dk}(h:p9 w g d l v x F D)(b:Nat)(n:g b=0)(s:w.cell? ⟨b,0,none⟩=some (pt d)):
  CZ 159 #[pt b] w fun e w'=>e=.returned (.tuple #[])∧s8 w g d {D with safe:=D.seen,pend:=[]} w':=by
 obtain⟨f,c,j,-⟩:=id h.seen;have r:Hid (∀W,TF w W->CZ 91 #[.map (some l)] W fun e w'=>e=.returned (.map (some W.heap.size))∧w'=W.alloc (.map f c)):=i7 fun W i=>
  AnyW.maps_Clone tz_mclone l f c W ((i.block _ h.seen.lt id).trans j)
 have p:Hid (∀W nm,TF w W->nm=W.heap.size->s8 w g d {D with safe:=D.seen,pend:=[]} (((W.alloc (.map f c)).setCell ⟨d,3,none⟩ (.map (some nm))).setCell ⟨d,4,none⟩ (.slice none 0 0))):=i7 fun W nm i t=>uf h i f c j nm t
 have y:=g9 h.blk 2 _ rfl;have z:=g9 h.blk 3 _ rfl;have A:=g9 h.blk 4 _ rfl;have B:=j7 h.blk 3;have C:=j7 h.blk 4;have m:=i6 h.blk;have G:=n7 s;have E:b≠d:=fun q=>by have:=h.r1;rw[<-q,n]at this;omega
 obtain⟨a,cap,u,-,-⟩:=h.pend.value;clear h n j u;go_enter func159,ntmps159;go_wp2;go_region_with (first|(go_fit(r.o _ ?_);(first|exact TQ|exact TQ.draw|exact(TQ.draw).draw);rintro e w2⟨rfl,rfl⟩))
 all_goals go_wp2
 all_goals go_end0
 all_goals
  have k:=p.o w _ TQ rfl;rw[World.setCell_alloc_past (w:=w) _ d 3 _ m,World.setCell_alloc_past _ d 4 _ (by rw[n8];exact m)]at k
  first|exact⟨rfl,k⟩|exact⟨rfl,k.draw⟩|exact⟨rfl,k.draw.draw⟩
theorem qz.zero{w:World}{a:Nat->Nat}{d e c n:Nat}{f:Value}{F:Nat->Nat}{D:Dk}(h:qz w a d e c f F D n){b:Nat}(g:w.heap.size<=b):a b=0:=by
 by_cases q:a b=0
 ·exact q
 ·have:=h.bnd b q;omega
theorem xE{w:World}{f:Nat->Nat}{d t s:Nat}{u:Value}{F:Nat->Nat}{D:Dk}(h:p9 w f d t s u F D)(l:D.Ok)(name:ByteArray):
  CZ 155 #[pt d,.string name] w fun e w'=>e=.returned (.int .i64 ((D.sync name).2:Nat))∧s8 w f d (D.sync name).1 w':=by
 have c:=X3 h name;cases a:D.file name with
 |error k=>
  have z:Hid (k≠0):=U7 a;have g:Hid (D.sync name=(D,k)):=i7 (by simp[Dk.sync,a]);have J:((k:Int) !=0)=true:=by have:=z.o;simp;omega
  have A:Hid (s8 w f d D (w.alloc (.cells #[.pointer none] 153))):=p9.post (h.turned (d7.alloc (fun _=>False) w _) fun _ _ q=>q) TA;rw[a]at c;replace c:CZ 88 #[pt d,.string name] w fun e w'=>e=.returned (.tuple #[.pointer none,.int .i64 k])∧w=w':=c
  clear h a l;rw[g.o];go_enter func155,ntmps155;go_wp2_with(go_fit c;rintro e w'⟨rfl,rfl⟩);go_ret;exact⟨rfl,A.o⟩
 |ok k=>
  obtain⟨x,n,p,r⟩:=h.live a;have g:Hid (D.sync name=D.then fun d=>d.setF k ⟨(d.at k).bytes,(d.at k).bytes.size⟩):=i7 (by simp[Dk.sync,a]);obtain⟨i,v⟩:=A0 (w:=w) (.cells #[pt (F k)] 153);have j:p9 (w.alloc (.cells #[pt (F k)] 153)) f d t s u F D:=h.turned i fun _ _ q=>q
  have y:=h.zero (LS w.heap.size);have G:CZ 95 #[pt d,.func (.func 235) #[] #[pt w.heap.size]] (w.alloc (.cells #[pt (F k)] 153)) fun e w'=>e=.returned (.int .i64 ((D.sync name).2:Nat))∧s8 w f d (D.sync name).1 w':=by
   rw[g.o];refine gB i (fun h1=>p9.dies j h1 _) fun h1=>?_
   refine oH j h1 l.fall _ fun L H m K=>?_
   have I:=g9 (j9 v m fun q=>by rw[q,h.r1]at y;omega) 0 _ rfl;have hx:Dk.at {D with falls:=D.falls-1} k=x:=p;rw[hx];exact(ud H n ((r.turned i fun _ _ q=>q).turned m fun b E q=>by rw[q,h.r1]at E;omega) _ I).mono fun e w'⟨B,C⟩=>⟨B,C.after (p9.own j m)⟩
  rw[a]at c;replace c:CZ 88 #[pt d,.string name] w fun e w'=>e=.returned (.tuple #[pt (F k),.int .i64 0])∧w=w':=c
  generalize D.sync name=R at *;clear h j a v i l y g n p r;go_enter func155,ntmps155;go_wp2_with(first|(go_fit c;rintro e w'⟨rfl,rfl⟩)|(go_fit G;rintro e w'⟨rfl,q⟩;replace q:=i7 q));go_ret;exact⟨rfl,q.o⟩
theorem zB{D:Dk}(a:D.Ok):D.file emp=.error (if D.off then 8 else 6):=by
 unfold Dk.file;cases D.off with
 |true=>rfl
 |false=>
  have:findN D.seen emp=none:=hH.2 fun q=>by obtain⟨x,hx,e⟩:=List.mem_map.1 q;exact a.seenOk.ne x hx e
  simp[this]
theorem lC{w:World}{f:Nat->Nat}{d n m:Nat}{p:Value}{F:Nat->Nat}{D:Dk}(h:p9 w f d n m p F D)(j:D.Ok):
  CZ 74 #[pt d] w fun e w'=>e=.returned (.int .i64 D.syncNames.2)∧s8 w f d D.syncNames.1 w':=by
 obtain⟨i,k⟩:=A0 (w:=w) (.cells #[pt d] 33);have b:p9 (w.alloc (.cells #[pt d] 33)) f d n m p F D:=h.turned i fun _ _ q=>q
 have a:=X3 b emp;rw[zB j]at a;cases c:D.off with
 |true=>
  have g:Hid (D.syncNames=(D,8)):=i7 (by simp[Dk.syncNames,c]);have s:Hid (s8 w f d D (w.alloc (.cells #[pt d] 33))):=p9.post b TA;rw[c]at a;replace a:CZ 88 #[pt d,.string ⟨#[]⟩] (w.alloc (.cells #[pt d] 33)) fun e w'=>e=.returned (.tuple #[.pointer none,.int .i64 8])∧w.alloc (.cells #[pt d] 33)=w':=a
  clear h b c j i k;rw[g.o];go_enter func74,ntmps74;go_wp2_with(go_fit a;rintro e w'⟨rfl,rfl⟩);go_ret;exact⟨rfl,s.o⟩
 |false=>
  have g:Hid (D.syncNames=D.then fun d=>{d with safe:=d.seen,pend:=[]}):=i7 (by simp[Dk.syncNames,c]);have l:=h.zero (LS w.heap.size);have v:CZ 95 #[pt d,.func (.func 159) #[] #[pt w.heap.size]] (w.alloc (.cells #[pt d] 33)) fun e w'=>e=.returned (.int .i64 D.syncNames.2)∧s8 w f d D.syncNames.1 w':=by
   rw[g.o];refine gB i (fun h1=>p9.dies b h1 _) fun h1=>?_
   refine oK b h1 j.fall _ fun A x r z=>?_
   have y:=g9 (j9 k r fun q=>by rw[q,h.r1]at l;omega) 0 _ rfl;exact(qZ x _ l y).mono fun e w'⟨t,u⟩=>⟨t,u.after (p9.own b r)⟩
  rw[c]at a;replace a:CZ 88 #[pt d,.string ⟨#[]⟩] (w.alloc (.cells #[pt d] 33)) fun e w'=>e=.returned (.tuple #[.pointer none,.int .i64 6])∧w.alloc (.cells #[pt d] 33)=w':=a
  generalize D.syncNames=R at *;clear h b c k i j l g;go_enter func74,ntmps74;go_wp2_with(first|(go_fit a;rintro e w'⟨rfl,rfl⟩)|(go_fit v;rintro e w'⟨rfl,q⟩;replace q:=i7 q));go_ret;exact⟨rfl,q.o⟩
theorem jX{w:World}(o1 o2 a:Obj):TF w (((w.alloc o1).alloc o2).alloc a)∧(((w.alloc o1).alloc o2).alloc a).heap[w.heap.size]?=some o1∧(((w.alloc o1).alloc o2).alloc a).heap[w.heap.size+1]?=some o2∧(((w.alloc o1).alloc o2).alloc a).heap[w.heap.size+1+1]?=some a:=by obtain⟨h1,h2,h3⟩:=p8 (w:=w) o1 o2;refine⟨h1.new _,B4 h2,B4 h3,?_⟩;have:=i8 ((w.alloc o1).alloc o2) a;simpa using this
theorem rd{w:World}{p:Nat->Nat}{d Q P:Nat}{S:Value}{F:Nat->Nat}{D:Dk}(h:p9 w p d Q P S F D)(s:D.Ok)(hp:D.pend.length<=1000000000)(a b:ByteArray):
  CZ 227 #[pt d,.string a,.string b] w fun e w'=>e=.returned (.int .i64 ((D.rename a b).2:Nat))∧s8 w p d (D.rename a b).1 w':=by
 obtain⟨m,v,y,z⟩:=jX (w:=w) (.cells #[pt d] 33) (.cells #[.string a] 9) (.cells #[.string b] 9);generalize C:((w.alloc (.cells #[pt d] 33)).alloc (.cells #[.string a] 9)).alloc (.cells #[.string b] 9)=c at m v y z;have B:p9 c p d Q P S F D:=h.turned m fun _ _ q=>q
 have H:c.heap.size=w.heap.size+1+1+1:=by rw[<-C];simp
 have i:=X3 B a;cases f:D.file a with
 |error k=>
  have Y:Hid (k≠0):=U7 f;have r:Hid (D.rename a b=(D,k)):=i7 (by simp[Dk.rename,f]);have ab:((k:Int) !=0)=true:=by have:=Y.o;simp;omega
  have K:Hid (s8 w p d D (c.alloc (.cells #[.pointer none] 153))):=p9.post (h.turned (m.new _) fun _ _ q=>q) ((m.new _).mono fun _ _ q=>q.elim);rw[f]at i;replace i:CZ 88 #[pt d,.string a] c fun e w'=>e=.returned (.tuple #[.pointer none,.int .i64 k])∧c=w':=i
  subst C;clear h B f v y z m s H;rw[r.o];go_enter func227,ntmps227;go_wp2_with(go_fit i;rintro e w'⟨rfl,rfl⟩);go_ret;exact⟨rfl,K.o⟩
 |ok k=>
  obtain⟨x,M,V,N⟩:=h.live f;have O:a≠emp:=s.seenOk.ne _ (Dk.file_live f);have t:TF w (c.alloc (.cells #[pt (F k)] 153)):=m.new _;have G:=ly b (c.alloc (.cells #[pt (F k)] 153));have J:=B4 (o:=.cells #[pt (F k)] 153) v;have T:=B4 (o:=.cells #[pt (F k)] 153) y;have A:=B4 (o:=.cells #[pt (F k)] 153) z;have U:(c.alloc (.cells #[pt (F k)] 153)).heap[w.heap.size+1+1+1]?=some (.cells #[pt (F k)] 153):=by have:=i8 c (.cells #[pt (F k)] 153);rwa[H]at this
  rw[f]at i;replace i:CZ 88 #[pt d,.string a] c fun e w'=>e=.returned (.tuple #[pt (F k),.int .i64 0])∧c=w':=i
  cases n:F6 b with
  |false=>
   have r:Hid (D.rename a b=(D,1)):=i7 (by simp[Dk.rename,f,n]);have K:Hid (∀w',TF (c.alloc (.cells #[pt (F k)] 153)) w'->s8 w p d D w'):=i7 fun w' l=>p9.post (h.turned (t.tr l) fun _ _ q=>q) ((t.tr l).mono fun _ _ q=>q.elim)
   have cz:=g9 A 0 _ rfl;rw[n]at G;subst C;clear h B f v y z m t s H M V N O J T A U n;rw[r.o];go_enter func227,ntmps227;go_wp2_with(first|(go_fit i;rintro e w'⟨rfl,rfl⟩)|(go_fit G;rintro e w2⟨rfl,q⟩;replace q:=i7 q));go_ret;exact⟨rfl,K.o _ q.o⟩
  |true=>
   have W:b≠emp:=fJ n;have r:Hid (D.rename a b=D.then fun d=>if a=b then d else d.change ⟨a,b,k⟩):=i7 (by simp[Dk.rename,f,n]);have aa:Hid (∀u,TF (c.alloc (.cells #[pt (F k)] 153)) u->u.cell? ⟨w.heap.size,0,none⟩=some (pt d)∧CZ 95 #[pt d,.func (.func 303) #[] #[pt (w.heap.size+1),pt (w.heap.size+1+1),pt w.heap.size,pt (w.heap.size+1+1+1)]] u fun e w'=>e=.returned (.int .i64 ((D.rename a b).2:Nat))∧s8 w p d (D.rename a b).1 w'):=i7 fun u l=>by
    have L:=t.tr l;have h2:p9 u p d Q P S F D:=h.turned L fun _ _ q=>q
    refine⟨g9 (j9 J l id) 0 _ rfl,?_⟩;rw[r.o];refine gB L (fun h1=>p9.dies h2 h1 _) fun h1=>?_
    refine oI h2 h1 s.fall _ _ _ _ fun w1 X g I=>?_
    have E:∀j,w.heap.size<=j->¬j=d:=fun j hj q=>by have:=h.zero hj;rw[q,h.r1]at this;omega
    have v0:=g9 (j9 (j9 J l id) g (E _ (by omega))) 0 _ rfl;have v1:=g9 (j9 (j9 T l id) g (E _ (by omega))) 0 _ rfl;have v2:=g9 (j9 (j9 A l id) g (E _ (by omega))) 0 _ rfl;have v3:=g9 (j9 (j9 U l id) g (E _ (by omega))) 0 _ rfl;exact(oO X (oM s) hp a b O W M ((N.turned L fun _ _ q=>q).turned g fun b hb q=>by rw[q,h.r1]at hb;omega) _ _ _ _ v1 v2 v0 v3).mono fun e w'⟨Z,a2⟩=>⟨Z,a2.after (p9.own h2 g)⟩
   have cz:=g9 A 0 _ rfl;rw[n]at G;generalize D.rename a b=R at *;subst C;clear h B f v y z m t s H M V N O J T A U n r W;go_enter func227,ntmps227;go_wp2_with(first|(go_fit i;rintro e w'⟨rfl,rfl⟩)|(go_fit G;rintro e w2⟨rfl,q⟩;obtain⟨X,g⟩:=aa.o w2 q;replace g:=i7 g)|(go_fit g.o;rintro e w'⟨rfl,I⟩;replace I:=i7 I));go_ret;exact⟨rfl,I.o⟩
theorem iD{s:ByteArray}:s=emp↔s.size=0:=by
 constructor
 ·rintro rfl;rfl
 ·intro h;apply ByteArray.ext;apply Array.toList_inj.1;have:s.data.toList.length=0:=by rw[zy];exact h
  rw[List.length_eq_zero_iff.1 this];rfl
theorem re{w:World}{t:Nat->Nat}{d V T:Nat}{X:Value}{F:Nat->Nat}{D:Dk}(h:p9 w t d V T X F D)(r:D.Ok)(name c:ByteArray)(aj:c.size<=1099511627776):
  CZ 34 #[pt d,.string name,.string c] w fun e w'=>e=.returned (.int .i64 ((D.append name c).2:Nat))∧s8 w t d (D.append name c).1 w':=by
 obtain⟨p,E⟩:=A0 (w:=w) (.cells #[.string c] 9);generalize M:w.alloc (.cells #[.string c] 9)=g at p E;have O:g.heap.size=w.heap.size+1:=by rw[<-M];simp
 have L:p9 g t d V T X F D:=h.turned p fun _ _ q=>q
 have n:=X3 L name;cases m:D.file name with
 |error k=>
  have HK:Hid (k≠0):=U7 m;have G:Hid (D.append name c=(D,k)):=i7 (by simp[Dk.append,m]);have ai:((k:Int) !=0)=true:=by have:=HK.o;simp;omega
  have HP:Hid (s8 w t d D (g.alloc (.cells #[.pointer none] 153))):=p9.post (h.turned (p.new _) fun _ _ q=>q) ((p.new _).mono fun _ _ q=>q.elim);rw[m]at n;replace n:CZ 88 #[pt d,.string name] g fun e w'=>e=.returned (.tuple #[.pointer none,.int .i64 k])∧g=w':=n
  subst M;clear h L m r E p O;rw[G.o];go_enter func34,ntmps34;go_wp2_with(go_fit n;rintro e w'⟨rfl,rfl⟩);go_ret;exact⟨rfl,HP.o⟩
 |ok k=>
  obtain⟨x,J,K,Q⟩:=h.live m;rw[m]at n;replace n:CZ 88 #[pt d,.string name] g fun e w'=>e=.returned (.tuple #[pt (F k),.int .i64 0])∧g=w':=n
  have y:TF w (g.alloc (.cells #[pt (F k)] 153)):=p.new _;have P:=B4 (o:=.cells #[pt (F k)] 153) E;have Y:(g.alloc (.cells #[pt (F k)] 153)).heap[w.heap.size+1]?=some (.cells #[pt (F k)] 153):=by have:=i8 g (.cells #[pt (F k)] 153);rwa[O]at this
  have aa:=r.small x (LI J);have hq:=r.quota;have S:=vX (Dk.file_live m);rw[K]at S;have ab:=eP r;have Z:Hid (∀f,TF (g.alloc (.cells #[pt (F k)] 153)) f->CZ 35 #[pt d] f (RT (.int .i64 D.used) (g.alloc (.cells #[pt (F k)] 153)))):=i7 fun f i=>
   (xC (h.turned (y.tr i) fun _ _ q=>q) r).mono fun e w'⟨q1,C⟩=>⟨q1,i.tr C⟩
  have v:Hid (∀f,TF (g.alloc (.cells #[pt (F k)] 153)) f->f.cell? ⟨w.heap.size,0,none⟩=some (.string c)∧f.cell? ⟨d,0,none⟩=some (.int .i64 D.quota)∧s8 w t d D f∧d<f.heap.size):=i7 fun f i=>by
   have A:=y.tr i;have h2:p9 f t d V T X F D:=h.turned A fun _ _ q=>q
   exact⟨g9 (j9 P i id) 0 _ rfl,g9 h2.blk 0 _ rfl,p9.post h2 (A.mono fun _ _ q=>q.elim),i6 h2.blk⟩
  have u:Hid (¬(0<c.size∧D.quota<D.used+c.size)->∀f,TF (g.alloc (.cells #[pt (F k)] 153)) f->CZ 95 #[pt d,.func (.func 98) #[] #[pt (w.heap.size+1),pt w.heap.size]] f fun e w'=>e=.returned (.int .i64 ((D.append name c).2:Nat))∧s8 w t d (D.append name c).1 w'):=i7 fun N f i=>by
   have G:D.append name c=D.then fun d=>d.setF k ⟨(d.at k).bytes++c,(d.at k).safe⟩:=by unfold Dk.append;rw[m];simp only[];rw[if_neg N]
   have A:=y.tr i;have h2:p9 f t d V T X F D:=h.turned A fun _ _ q=>q
   rw[G];refine gB A (fun h1=>p9.dies h2 h1 _) fun h1=>?_
   refine qU h2 h1 r.fall _ _ fun w1 q1 C q3=>?_
   have hd:∀j,w.heap.size<=j->¬j=d:=fun j hj q=>by have:=h.zero hj;rw[q,h.r1]at this;omega
   have v0:=g9 (j9 (j9 Y i id) C (hd _ (by omega))) 0 _ rfl;have v1:=g9 (j9 (j9 P i id) C (hd _ (by omega))) 0 _ rfl;have hx:Dk.at {D with falls:=D.falls-1} k=x:=K;rw[hx];have hl:x.bytes.size+c.size<=1000000000:=by
    by_cases q:0<c.size
    ·have:¬D.quota<D.used+c.size:=fun z=>N ⟨q,z⟩
     omega
    ·omega
   exact(oP q1 J ((Q.turned A fun _ _ q=>q).turned C fun b hb q=>by rw[q,h.r1]at hb;omega) c hl _ _ (h.zero (by omega)) (h.zero (by omega)) v0 v1).mono fun e w'⟨a1,a2⟩=>⟨a1,a2.after (p9.own h2 C)⟩
  by_cases s:c=emp
  ·have hb:(c.toList==[])=true:=by rw[s,ByteArray.toList_eq];rfl
   have ag:=u.o (fun q=>by have:=iD.1 s;omega) _ TQ;have ah:=u.o (fun q=>by have:=iD.1 s;omega) _ TD;generalize D.append name c=R at *;subst M;clear h L m r E p O y P Y J K Q s aa hq S ab Z v u;go_enter func34,ntmps34;go_wp2_with(go_fit n;rintro e w'⟨rfl,rfl⟩);go_region
   all_goals go_wp2_with(first|(go_fit ag;rintro e w'⟨rfl,z⟩;replace z:=i7 z)|(go_fit ah;rintro e w'⟨rfl,z⟩;replace z:=i7 z))
   all_goals go_ret
   all_goals exact⟨rfl,z.o⟩
  ·have hb:(c.toList==[])=false:=by
    have:c.data.toList.length≠0:=by rw[zy];exact fun q=>s (iD.2 q)
    rw[ByteArray.toList_eq];cases q:c.data.toList with
    |nil=>rw[q]at this;simp at this
    |cons a l=>rfl
   have h0:0<c.size:=by
    have:c.size≠0:=fun q=>s (iD.2 q)
    omega
   have hw:wrap64 ((D.used:Int)+(c.size:Int))=((D.used+c.size:Nat):Int):=by simp only[wrap64];omega
   have ak:IntKind.i64.wrap ((D.used:Int)+(c.size:Int))=((D.used+c.size:Nat):Int):=by rw[IntKind.wrap_i64];omega
   by_cases B:D.quota<D.used+c.size
   ·have G:Hid (D.append name c=(D,7)):=i7 (by unfold Dk.append;rw[m];simp only[];rw[if_pos ⟨h0,B⟩]);have ad:decide ((D.quota:Int)<((D.used+c.size:Nat):Int))=true:=by simp only[decide_eq_true_eq];omega
    have ae:decide (D.quota<D.used+c.size)=true:=LX B;rw[G.o];generalize D.used=U at *;generalize D.quota=H at *;generalize U+c.size=US at *;have KC:Hid (∀f,TF (g.alloc (.cells #[pt (F k)] 153)) f->f.cell? ⟨w.heap.size,0,none⟩=some (.string c)∧f.cell? ⟨d,0,none⟩=some (.int .i64 H)):=i7 fun f i=>⟨(v.o f i).1,(v.o f i).2.1⟩
    subst M;clear h L m r E p O y P Y J K Q s aa hq S ab u B h0;go_enter func34,ntmps34;go_wp2_with(go_fit n;rintro e w'⟨rfl,rfl⟩);generalize(w.alloc (.cells #[.string c] 9)).alloc (.cells #[pt (F k)] 153)=I at *;have V0:TF I I.drew:=TD
    go_region_held3 (fun W=>W.cell? ⟨w.heap.size,0,none⟩=some (.string c)∧W.cell? ⟨d,0,none⟩=some (.int .i64 H))
     (first|(exact KC.o _ (by assumption))|go_keep)
     (first|(go_fit(Z.o _ V0);rintro e w2⟨rfl,V1⟩))
    go_wp2;go_ret;exact⟨rfl,(v.o _ V1).2.2.1⟩
   ·have N:¬(0<c.size∧D.quota<D.used+c.size):=fun q=>B q.2
    have ad:decide ((D.quota:Int)<((D.used+c.size:Nat):Int))=false:=by simp only[decide_eq_false_iff_not];omega
    have ae:decide (D.quota<D.used+c.size)=false:=LD B;have ac:=i7 (u.o N);generalize D.append name c=R at *;generalize D.used=U at *;generalize D.quota=H at *;generalize U+c.size=US at *;have KC:Hid (∀f,TF (g.alloc (.cells #[pt (F k)] 153)) f->f.cell? ⟨w.heap.size,0,none⟩=some (.string c)∧f.cell? ⟨d,0,none⟩=some (.int .i64 H)):=i7 fun f i=>⟨(v.o f i).1,(v.o f i).2.1⟩
    subst M;clear h L m r E p O y P Y J K Q s aa hq S ab B h0 u N;go_enter func34,ntmps34;go_wp2_with(go_fit n;rintro e w'⟨rfl,rfl⟩);generalize(w.alloc (.cells #[.string c] 9)).alloc (.cells #[pt (F k)] 153)=I at *;have V0:TF I I.drew:=TD
    go_region_held3 (fun W=>W.cell? ⟨w.heap.size,0,none⟩=some (.string c)∧W.cell? ⟨d,0,none⟩=some (.int .i64 H))
     (first|(exact KC.o _ (by assumption))|go_keep)
     (first|(go_fit(Z.o _ V0);rintro e w2⟨rfl,V1⟩))
    have af:=ac.o _ V1;go_wp2_with(go_fit af;rintro e w'⟨rfl,z⟩;replace z:=i7 z);go_ret;exact⟨rfl,z.o⟩
theorem rf{w a:World}{f:Nat->Nat}{d n m:Nat}{o:Value}{F:Nat->Nat}{D:Dk}(h:p9 w f d n m o F D)(k:D.Ok)(v:D.pend.length<=1000000000)(s:D.files.length<=1000000000)(name:ByteArray)(u:name≠emp)
  (g:TF w a) (b B1:Nat) (l:w.heap.size<=b) (l1:w.heap.size<=B1) (A:a.heap[b]?=some (.cells #[pt d] 33)) (B:a.heap[B1]?=some (.cells #[.string name] 9)):
  CZ 95 #[pt d,.func (.func 96) #[] #[pt b,pt B1]] a fun e w'=>e=.returned (.int .i64 ((D.then fun d=>Dk.change {d with files:=d.files++[⟨emp,0⟩]} ⟨emp,name,d.files.length⟩).2:Nat))∧s8 w f d (D.then fun d=>Dk.change {d with files:=d.files++[⟨emp,0⟩]} ⟨emp,name,d.files.length⟩).1 w':=by
 have h2:p9 a f d n m o F D:=h.turned g fun _ _ q=>q
 refine gB g (fun h1=>p9.dies h2 h1 _) fun h1=>?_
 refine qT h2 h1 k.fall _ _ fun E x c C=>?_
 have i:∀j,w.heap.size<=j->¬j=d:=fun j t q=>by have:=h.zero t;rw[q,h.r1]at this;omega
 have y:=g9 (j9 A c (i _ l)) 0 _ rfl;have z:=g9 (j9 B c (i _ l1)) 0 _ rfl;exact(oR x (oM k) v s name _ _ (h.zero l) (h.zero l1) y z u).mono fun e w'⟨p,r⟩=>⟨p,r.after (p9.own h2 c)⟩
theorem rh{w:World}{m:Nat->Nat}{d B J:Nat}{K:Value}{F:Nat->Nat}{D:Dk}(h:p9 w m d B J K F D)(A:D.Ok)(hp:D.pend.length<=1000000000)(ac:D.files.length<=1000000000)(name:ByteArray):
  CZ 33 #[pt d,.string name] w fun e w'=>e=.returned (.int .i64 ((D.create name).2:Nat))∧s8 w m d (D.create name).1 w':=by
 obtain⟨b,s,x⟩:=p8 (w:=w) (.cells #[pt d] 33) (.cells #[.string name] 9);generalize y:(w.alloc (.cells #[pt d] 33)).alloc (.cells #[.string name] 9)=c at b s x;have t:p9 c m d B J K F D:=h.turned b fun _ _ q=>q
 have f:=X3 t name;have p:=ly name c;cases g:D.off with
 |true=>
  have u:D.file name=.error 8:=by simp[Dk.file,g]
  have l:Hid (D.create name=(D,8)):=i7 (by simp[Dk.create,g]);have G:Hid (s8 w m d D c):=p9.post t (b.mono fun _ _ q=>q.elim);rw[u]at f;replace f:CZ 88 #[pt d,.string name] c fun e w'=>e=.returned (.tuple #[.pointer none,.int .i64 8])∧c=w':=f
  subst y;clear h t u s x b A g p;rw[l.o];go_enter func33,ntmps33;go_wp2_with(go_fit f;rintro e w'⟨rfl,rfl⟩);go_ret;exact⟨rfl,G.o⟩
 |false=>
  obtain⟨E,k2,C,n⟩:∃(E:Value)(k2:Nat),(CZ 88 #[pt d,.string name] c fun e w'=>e=.returned (.tuple #[E,.int .i64 k2])∧c=w')∧((k2=6∧E=.pointer none∧findN D.seen name=none)∨(∃k,k2=0∧E=pt (F k)∧findN D.seen name=some k)):=by
   cases P:findN D.seen name with
   |none=>
    have u:D.file name=.error 6:=by simp[Dk.file,g,P]
    rw[u]at f;exact⟨_,6,f,.inl ⟨rfl,rfl,rfl⟩⟩
   |some k=>
    have u:D.file name=.ok k:=by simp[Dk.file,g,P]
    rw[u]at f;exact⟨_,0,f,.inr ⟨k,rfl,rfl,rfl⟩⟩
  have b1:((k2:Int)==1)=false:=by rcases n with⟨rfl,-⟩|⟨k,rfl,-⟩<;>rfl
  have b8:((k2:Int)==8)=false:=by rcases n with⟨rfl,-⟩|⟨k,rfl,-⟩<;>rfl
  cases i:F6 name with
  |false=>
   have l:Hid (D.create name=(D,1)):=i7 (by simp[Dk.create,g,i]);have G:Hid (∀w',TF c w'->s8 w m d D w'):=i7 fun w' j=>p9.post (h.turned (b.tr j) fun _ _ q=>q) ((b.tr j).mono fun _ _ q=>q.elim)
   rw[i]at p;subst y;clear h t s x b A g n f i;rw[l.o];go_enter func33,ntmps33;go_wp2_with(first|(go_fit C;rintro e w'⟨rfl,rfl⟩)|(go_fit p;rintro e w2⟨rfl,q⟩;replace q:=i7 q));go_ret;exact⟨rfl,G.o _ q.o⟩
  |true=>
   have Q:name≠emp:=fJ i;have S:c.heap.size=w.heap.size+1+1:=by rw[<-y];simp
   have H:Hid (∀a,TF c a->a.cell? ⟨w.heap.size,0,none⟩=some (pt d)∧a.cell? ⟨d,2,none⟩=some (.map (some B))∧(∀L,(Builtin.len_ #[145] L #[.map (some B)]).run prog a=.ok (.int .i64 D.seen.length) a)∧s8 w m d D a∧d<a.heap.size):=i7 fun a j=>by
    have O:=b.tr j;have h2:p9 a m d B J K F D:=h.turned O fun _ _ q=>q
    exact⟨g9 (j9 s j id) 0 _ rfl,g9 h2.blk 2 _ rfl,fun L=>h2.seen.len underlying145 L,p9.post h2 (O.mono fun _ _ q=>q.elim),i6 h2.blk⟩
   rw[i]at p;by_cases v:findN D.seen name=none∧64<=D.seen.length
   ·have l:Hid (D.create name=(D,7)):=i7 (by simp[Dk.create,g,i,v]);obtain rfl:k2=6:=by rcases n with⟨q,-⟩|⟨k,-,-,q⟩<;>(first|exact q|(rw[v.1]at q;cases q))
    have aa:decide ((64:Int)<=(D.seen.length:Int))=true:=by simp;omega
    have ab:decide (64<=D.seen.length)=true:=by simp;omega
    generalize D.seen.length=N at *;subst y;clear h t s x b A g n f i v S;rw[l.o];go_enter func33,ntmps33;go_wp2_with(first|(go_fit C;rintro e w'⟨rfl,rfl⟩)|(go_fit p;rintro e w2⟨rfl,q⟩;obtain⟨T,U,V,r,W⟩:=H.o _ q;replace r:=i7 r;clear q));go_ret;exact⟨rfl,r.o⟩
   ·have l:Hid (D.create name=D.then fun d=>Dk.change {d with files:=d.files++[⟨emp,0⟩]} ⟨emp,name,d.files.length⟩):=i7 (by simp[Dk.create,g,i,v]);have M:Hid (∀a,TF c a->CZ 95 #[pt d,.func (.func 96) #[] #[pt w.heap.size,pt (w.heap.size+1)]] a fun e w'=>e=.returned (.int .i64 ((D.create name).2:Nat))∧s8 w m d (D.create name).1 w'):=i7 fun a j=>by rw[l.o];exact rf h A hp ac name Q (b.tr j) _ _ (LS _) (by omega) (j9 s j id) (j9 x j id)
    have Z:((k2:Int)==6)=false∨(((k2:Int)==6)=true∧D.seen.length<64):=by
     rcases n with⟨rfl,-,q⟩|⟨k,rfl,-⟩
     ·right;exact⟨rfl,by have:¬64<=D.seen.length:=fun z=>v ⟨q,z⟩;omega⟩
     ·left;rfl
    generalize D.create name=R at *;generalize D.seen.length=N at *;subst y;clear h t s x b A g n f i v S l Q;rcases Z with X|⟨X,Y⟩
    ·go_enter func33,ntmps33;go_wp2_with(first|(go_fit C;rintro e w'⟨rfl,rfl⟩)|(go_fit p;rintro e w2⟨rfl,q⟩;obtain⟨T,U,V,r,W⟩:=H.o _ q;have I:=M.o _ q;clear q r)|(go_fit I;rintro e w'⟨rfl,z⟩;replace z:=i7 z));go_ret;exact⟨rfl,z.o⟩
    ·have aa:decide ((64:Int)<=(N:Int))=false:=by simp;omega
     have ab:decide (64<=N)=false:=by simp;omega
     clear Y;go_enter func33,ntmps33;go_wp2_with(first|(go_fit C;rintro e w'⟨rfl,rfl⟩)|(go_fit p;rintro e w2⟨rfl,q⟩;obtain⟨T,U,V,r,W⟩:=H.o _ q;have I:=M.o _ q;clear q r)|(go_fit I;rintro e w'⟨rfl,z⟩;replace z:=i7 z));go_ret;exact⟨rfl,z.o⟩
theorem Fb(U a:Nat)(h1:U<=1073741824)(h2:a<=1099511627776):IntKind.i64.wrap ((U:Int)+(a:Int))=((U+a:Nat):Int):=by rw[IntKind.wrap_i64];omega
theorem Fc(U a:Nat)(h1:U<=1073741824)(h2:a<=1099511627776):wrap64 ((U:Int)+(a:Int))=((U+a:Nat):Int):=by simp only[wrap64];omega
theorem Fj(a b:Nat)(h:a<b):decide ((a:Int)<(b:Int))=true:=by simp;omega
theorem Fk(a b:Nat)(h:¬a<b):decide ((a:Int)<(b:Int))=false:=by simp;omega
end Go.Proofs.YtofcogekgcgjhaaGreatDoor

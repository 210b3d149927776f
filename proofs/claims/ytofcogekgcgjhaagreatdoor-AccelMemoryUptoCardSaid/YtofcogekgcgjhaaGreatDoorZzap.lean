/- Packed. -/
import Derived.Test.YtofcogekgcgjhaaGreatDoorZzaj
import Derived.Shelf.SlSortCmp.WholeK
set_option maxRecDepth 100000
set_option maxHeartbeats 8000000
namespace Go.Proofs.YtofcogekgcgjhaaGreatDoor
open Go.RowKit Go.Mine Go.Shelf Go.Sort Tryz
def ey(c:Ch):List Value:=[.int .u32 c.1,.string c.2]
theorem xI(x y:Ch)(W:World):CZ 301 #[.agg (ey x).toArray,.agg (ey y).toArray] W fun e w'=>e=.returned (.int .i64 (hJ x.1 y.1))∧∃q c,w'=grow (W.drewN q) c:=by
 have a:=fun b=>qB x.1 y.1 b
 generalize hJ x.1 y.1=r at a ⊢;unfold ey;go_enter func301,ntmps301;go_wp2_with(go_fit(a _);rintro e w'⟨rfl,rfl⟩);go_ret;exact⟨rfl,0,_,by rw[alloc_eq_grow,alloc_eq_grow,grow_grow];rfl⟩
theorem EQ(x y:Ch):ltOf (fun x y:Ch=>hJ x.1 y.1) x y=decide (x.1<y.1):=by
 unfold ltOf hJ;by_cases h1:x.1<y.1
 ·simp[h1]
 ·by_cases h2:y.1<x.1<;>simp[h1,h2]
theorem swoV:SWO (ltOf fun x y:Ch=>hJ x.1 y.1) where
 irrefl x:=by rw[EQ];simp
 trans x y z h1 h2:=by rw[EQ]at *;simp at *;omega
 ntrans x y z h1 h2:=by rw[EQ]at *;simp at *;omega
theorem ke(l:List Ch):flatK ey 2 l.toArray=(ccells l).toArray:=by
 refine ext_get! (by simp[G7]) fun t g=>?_
 have h:t<l.length*2:=by simpa using g
 rw[get_flatK _ _ _ _ (by simpa using h)];have d:t / 2<l.length:=by omega
 obtain⟨b,c⟩:=ccells_get l (t / 2) l[t / 2] (LB d);have f:(l.toArray)[t / 2]! =l[t / 2]:=by simp[d]
 rw[f];rcases Nat.mod_two_eq_zero_or_one t with a|a
 ·have e:t=t / 2*2:=by omega
  rw[<-e]at b;simp[a,ey,b]
 ·have e:t=t / 2*2+1:=by omega
  rw[<-e]at c;simp[a,ey,c]
theorem uk(l:List Ch)(d:Array Ch)(f:(l.map (·.1)).Nodup)(a:PermIn 0 l.toArray.size l.toArray d)(r:SortedIn (ltOf fun x y:Ch=>hJ x.1 y.1) 0 l.toArray.size d):d=(m8 l).toArray:=by
 have s:d.size=l.length:=by simpa using a.1
 have g:d.toList.Perm l:=by
  have h:=a.2.2;have k:d.extract 0 l.toArray.size=d:=by rw[<-a.1];exact Array.extract_size
  rw[k,Array.extract_size]at h;simpa using h
 have o:(d.toList.map (·.1)).Nodup:=(List.Perm.map _ g).nodup_iff.2 f;have p:J1 d.toList:=by
  rw[J1,List.pairwise_iff_getElem];intro i j m n c;have b:i<d.size:=by simpa using m
  have e:j<d.size:=by simpa using n
  have h:=r i j (Nat.zero_le _) c (by simp;omega);rw[EQ,getElem!_pos d j e,getElem!_pos d i b]at h;have h1:¬d[j].1<d[i].1:=by simpa using h
  have h2:d[i].1≠d[j].1:=by intro q;have:=(List.pairwise_iff_getElem.1 o) i j (by simpa using b) (by simpa using e) c;simp at this;exact this q
  simp only[Array.getElem_toList];omega
 have:=rising_unique d.toList (m8 l) p (mU l f) (g.trans (J7 l).symm);rw[<-this]
theorem Bq(g off n:Nat)(w:World):CmpLays prog 301 #[] ey 2 (fun x y:Ch=>hJ x.1 y.1) g off n w:=fun _ _ _ _ x y=>xI x y _
theorem mW(F a:Array Value)(off:Nat)(h:off+F.size<=a.size):((putCells id off F a).toList.drop off).take F.size=F.toList:=by
 apply List.ext_getElem?;intro k;rw[List.getElem?_take];split
 ·rename_i b;rw[List.getElem?_drop];have h1:off+k<a.size:=by omega
  have h2:a[off+k]?=some a[off+k]:=Array.getElem?_eq_getElem h1;simp only[putCells,Array.getElem?_toList,Array.getElem?_mapIdx,h2,Option.map_some];rw[if_pos ⟨by omega,by omega⟩,show off+k-off=k by omega];simp[b]
 ·rename_i b;rw[List.getElem?_eq_none (by simp;omega)]
theorem um{w:World}{S:Nat->Prop}{g off cap:Nat}{a:Array Value}(l:List Ch)(b:w.heap[g]?=some (.cells a 285 (0,0)))(h:S g)(H:l.length<=cap)(A:cap<=maxLen)(B:off+cap*2<=a.size)(J:(a.toList.drop off).take (l.length*2)=ccells l)
  (F:(l.map (·.1)).Nodup) (K:l.length<=100000):CZ 300 #[.slice (some ⟨g,off,none⟩) l.length cap,.func (.func 301) #[] #[]] w fun e w'=>e=.returned (.tuple #[])∧Sl w' S 285 2 (.slice (some ⟨g,off,none⟩) l.length cap) (ccells (m8 l)) l.length∧d7 S w w':=by
 have t:∀args w,(callFunc 301 args).run prog w=.ok (.enter 301 args) w:=enters_of func301 (by kernel_rfl) rfl;have u:HoldsK ey 2 w g off l.toArray:=by
  intro j i;rw[ke]at i ⊢;have m:j<l.length*2:=by simpa[G7]using i
  refine⟨?_,j7 b _⟩;have:(ccells l)[j]?=a[off+j]?:=by rw[<-J,List.getElem?_take,if_pos m,List.getElem?_drop];simp
  have h3:(ccells l)[j]?=some (ccells l)[j]!:=by
   have h4:j<(ccells l).length:=by rw[G7];exact m
   simp[h4]
  refine g9 b _ _ ?_;rw[<-this,h3];simp
 have c:=AnyQ.slices_SortFunc tz_sortCh 2 Tryz.isAgg285 Tryz.sizeOf285 ey (fun _=>rfl) (fun x v r=>by simp[ey]at r;rcases r with rfl|rfl<;>rfl) (fun x y:Ch=>hJ x.1 y.1) swoV 301 #[] g off cap l.toArray w t (Bq g off l.toArray.size w) u (i6 b) (by simp;omega);change CZ 300 _ _ _ at c;have f:l.toArray.size=l.length:=by simp
 rw[f]at c;refine c.mono ?_;rintro e w'⟨rfl,s,n,os,o,p,rfl⟩;rw[<-f]at o p;have C:=uk l s F o p;subst C;have E:=i6 b;have z:(mapBlock (Sort.ahead w n) g (putCells id off (flatK ey 2 (m8 l).toArray))).heap[g]?=some (.cells (putCells id off (flatK ey 2 (m8 l).toArray) a) 285 (0,0)):=by simp only[mapBlock,heap_ahead,Array.getElem?_modify,if_true,b,Option.map_some,onCells]
 have d:(m8 l).length=l.length:=(J7 l).length_eq;refine⟨rfl,⟨by rw[G7,d],.inr ⟨g,off,cap,putCells id off (flatK ey 2 (m8 l).toArray) a,rfl,h,?_,H,A,?_,?_⟩⟩,?_⟩
 ·rw[sortWorldK,heap_grow_old _ _ (by simpa[putRowK]using E)];exact z
 ·simpa[putCells]using B
 ·rw[ke];have:=mW (ccells (m8 l)).toArray a off (by simp only[List.size_toArray,G7,d];omega);simpa[G7,d]using this
 ·refine⟨rfl,rfl,rfl,by simp[sortWorldK,putRowK],fun k D G=>?_⟩;rw[sortWorldK,heap_grow_old _ _ (by simpa[putRowK]using D)];have I:g≠k:=fun q=>G (q▸h)
  simp[putRowK,putRow,mapBlock,Array.getElem?_modify,I]
def DO(w:World)(a:Nat)(i:Value)(wr:World):Prop:=i=.int .i64 1∧w=wr
def Br(w:World)(c:Nat)(a b:Value)(wr:World):Prop:=a=.int .i64 0∧b=.int .i64 0∧w=wr
theorem Bs(f:Value)(w:World):CZ 345 #[.slice none 0 0,.int .i64 0,.int .i64 0,f] w fun e w'=>e=.returned (.tuple #[])∧w=w':=by
 go_enter func345,ntmps345;go_wp2;go_loopg[8] 0 (fun g i wr=>DO w g i wr)
 case atStart=>exact⟨rfl,rfl⟩
 case round=>
  obtain⟨rfl,rfl⟩:=hrel;go_wp2;go_end0;exact⟨rfl,rfl⟩
theorem Bt(k:Nat)(f:Value)(w:World):CZ 332 #[.slice none 0 0,.int .i64 0,.int .i64 0,.int .i64 k,f] w fun e w'=>e=.returned (.tuple #[])∧w=w':=by
 have c:=Bs f w;go_enter func332,ntmps332;go_wp2;go_loopg[1,2] 0 (fun g a b wr=>Br w g a b wr)
 case atStart=>exact⟨rfl,rfl,rfl⟩
 case round=>
  obtain⟨rfl,rfl,rfl⟩:=hrel;go_wp2_with(go_fit c;rintro e w'⟨rfl,rfl⟩);refine bodyPost_ret (results_none rfl _ _ _) rfl ?_;exact⟨rfl,rfl⟩
theorem xJ(f:Value)(w:World):CZ 300 #[.slice none 0 0,f] w fun e w'=>e=.returned (.tuple #[])∧w=w':=by
 have a:CZ 181 #[.int .u64 0] w _:=Any.bits_Len (SlLaysF0.n15.bits (P:=prog) (ρ:=tz_sortCh_ren) {tz_sortCh with}) 0 w (by omega) (by omega);have b:=fun k=>Bt k f w
 generalize Lib.bitLen (0:Int).toNat=k at *;go_enter func300,ntmps300;go_wp2_with(first|(go_fit a;rintro e w'⟨rfl,rfl⟩)|(go_fit(b k);rintro e w'⟨rfl,rfl⟩));go_end0;exact⟨rfl,rfl⟩
theorem xK{w:World}{S:Nat->Prop}{v:Value}(l:List Ch)(h:Sl w S 285 2 v (ccells l) l.length)(j:(l.map (·.1)).Nodup)(i:l.length<=100000):
  CZ 300 #[v,.func (.func 301) #[] #[]] w fun e w'=>e=.returned (.tuple #[])∧Sl w' S 285 2 v (ccells (m8 l)) l.length∧d7 S w w':=by
 rcases h.2 with⟨rfl,a⟩|⟨g,off,cap,n,rfl,b,f,k,c,d,m⟩
 ·have:l=[]:=LO a;subst this;refine(xJ _ w).mono ?_;rintro e w'⟨rfl,rfl⟩;exact⟨rfl,Sl.nil _ _ _ _,TQ⟩
 ·exact um l f b k c d m j i
end Go.Proofs.YtofcogekgcgjhaaGreatDoor
namespace Go.Proofs.YtofcogekgcgjhaaGreatDoor
open Go.RowKit Go.Mine Tryz
theorem oU{w:World}{B:Nat}(a:B<=w.heap.size)(b:Nat)(q:F2 (fun b=>B<=b) w b):B<=b:=q.elim id fun q=>LR a q
theorem oV{B p:Nat}{bs:List UInt8}(s:ByteArray)(w:World)(h:Wr w (fun b=>B<=b) p bs)(a:B<=w.heap.size)(c:bs.length+s.size<=1099511627776):
  CZ 149 #[pt p,.string s] w fun e w'=>e=.returned (.tuple #[])∧Wr w' (fun b=>B<=b) p (bs++s.data.toList)∧d7 (fun b=>B<=b) w w':=
 (ow s w h c).mono fun _ _ q=>⟨q.1,q.2.1.widen (oU a),q.2.2⟩
theorem wg{B p:Nat}{bs:List UInt8}(v:Nat)(w:World)(h:Wr w (fun b=>B<=b) p bs)(a:B<=w.heap.size)(d:v<256)(c:bs.length+1<=1099511627776):
  CZ 148 #[pt p,.int .u8 v] w fun e w'=>e=.returned (.tuple #[])∧Wr w' (fun b=>B<=b) p (bs++m9 v 1)∧d7 (fun b=>B<=b) w w':=
 (tM v w h d c).mono fun _ _ q=>⟨q.1,q.2.1.widen (oU a),q.2.2⟩
theorem fS{B p:Nat}{bs:List UInt8}(v:Nat)(w:World)(h:Wr w (fun b=>B<=b) p bs)(a:B<=w.heap.size)(d:v<4294967296)(c:bs.length+4<=1099511627776):
  CZ 150 #[pt p,.int .u32 v] w fun e w'=>e=.returned (.tuple #[])∧Wr w' (fun b=>B<=b) p (bs++m9 v 4)∧d7 (fun b=>B<=b) w w':=
 (gz v w h d c).mono fun _ _ q=>⟨q.1,q.2.1.widen (oU a),q.2.2⟩
theorem DP{w:World}{a:Option Addr}{cap:Nat}{l:List Ch}(h:dU w a cap l)(j:Nat)(d:j<=l.length)(W:World):
  (Instr.slice 273 (.slice a l.length cap) none (some (.int .i64 j)) none).run prog W=.ok (.slice a j cap) W:=by
 obtain⟨i,b,e,f,g⟩:=info_parts info31;have c:j<=cap:=by have:=h.1;omega
 simp[Instr.slice,Instr.sliceBounds,Instr.sliceBound,asIntOf,run_underlying underlying273,sizeOf,typeInfo,b,c,Result.andThen];intro _;cases a with
 |none=>rfl
 |some ad=>simp[Addr.add]
theorem dU.take{w:World}{a:Option Addr}{cap:Nat}{l:List Ch}(h:dU w a cap l)(j:Nat)(f:j<=l.length):dU w a cap (l.take j):=by
 refine⟨by have:=h.1;simp;omega,h.2.1,fun c d=>h.2.2.1 c (LY d),fun e=>?_⟩;obtain⟨b,off,h1,h2,h3⟩:=h.2.2.2 (by simp at e;omega);refine⟨b,off,h1,h2,fun i c d=>h3 i c ?_⟩;rw[List.getElem?_take]at d;split at d
 ·exact d
 ·simp at d
theorem xL(cap:Nat)(w:World):CZ 299 #[.slice none 0 cap] w fun e w'=>e=.returned (.slice none 0 0)∧w=w':=by
 have a:∀w',(binOp .eql 273 (.slice none 0 cap) (.slice none 0 0)).run prog w'=.ok (.bool true) w':=fun w'=>Lib.run_eql_slice_nil w' 273 285 none 0 cap 0 0 underlying273
 go_enter func299,ntmps299;go_wp2;go_ret;exact⟨rfl,rfl⟩
theorem xM(a:Option Addr)(cap:Nat)(l:List Ch)(w:World)(h:dU w a cap l)(c:l.length<=100000):
  CZ 299 #[.slice a l.length cap] w fun e w'=>∃v,e=.returned v∧Sl w' (fun b=>w.heap.size<=b) 285 2 v (ccells l) l.length∧TF w w':=by
 cases a with
 |some ad=>exact xy (some ad) cap l w h (by simp) c
 |none=>
  have:l=[]:=by apply LO;apply LK;intro q;obtain⟨b,off,h1,-⟩:=h.2.2.2 (by omega);simp at h1
  subst this;refine(xL cap w).mono ?_;rintro e w'⟨rfl,rfl⟩;exact⟨_,rfl,Sl.nil _ _ _ _,TQ⟩
def B1(w:World)(l:List Ch)(g:Nat)(a i:Value)(wr:World):Prop:=∃j:Nat,j+g=l.length∧i=.int .i64 j∧a=.int .i64 ((10+8*l.length+dataSize (l.take j):Nat):Int)∧checkCh [] l=checkCh (l.take j) (l.drop j)∧TF w wr
theorem gS(l:List Ch)(j:Nat)(c:Ch)(h:l[j]?=some c):dataSize (l.take (j+1))=dataSize (l.take j)+c.2.size:=by rw[List.take_add_one,h,Z8];simp[dataSize]
theorem kf(l:List Ch)(h:Ew l):dataSize l<=l.length*140737488355328:=by
 induction l with
 |nil=>simp[dataSize]
 |cons c l b=>
  have h1:=(h c (by simp)).2;have h2:=b fun d a=>h d (LP _ a)
  simp only[dataSize,List.length_cons,Nat.add_mul];omega
theorem iJ(l:List Ch)(c:Ch)(h:c∈l):c.2.size<=dataSize l:=by
 induction l with
 |nil=>simp at h
 |cons d l a=>
  rw[dataSize];rcases List.mem_cons.1 h with rfl|h
  ·omega
  ·have:=a h;omega
theorem fT{w:World}{S:Nat->Prop}{p:Nat}{bs:List UInt8}(h:Wr w S p bs):Wr w (fun b=>S b∧b<w.heap.size) p bs:=by obtain⟨h1,v,R,h2,h3,h4,a⟩:=h;exact⟨⟨h1,i6 h2⟩,v,fun b=>R b∧b<w.heap.size,h2,fP h3,fun q=>h4 q.1,fun b q=>⟨a b q.1,q.2⟩⟩
theorem iK(bs:List UInt8):J9 ⟨bs.toArray⟩=⟨(bs++m9 (Crc.sum (p6 ⟨bs.toArray⟩)) 4).toArray⟩:=by unfold J9;apply ByteArray.ext;simp
def B2(w2:World)(L:Nat)(a:List UInt8)(f:Nat->List UInt8)(g:Nat)(i:Value)(wr:World):Prop:=∃j:Nat,j+g=L∧i=.int .i64 j∧Wr wr (fun b=>w2.heap.size<=b) w2.heap.size (a++f j)∧d7 (fun b=>w2.heap.size<=b) w2 wr
theorem xN(a:Option Addr)(cap:Nat)(l:List Ch)(w:World)(h:dU w a cap l):
  CZ 222 #[.slice a l.length cap] w (RT (s7 l) w):=by
 have Y:Hid (dU w a cap l):=h;obtain⟨L,A⟩:=EX l.length;have m:Hid (L=l.length):=A;by_cases aW:16<L
 ·have r:Hid (s7 l=.tuple #[.string ⟨#[]⟩,.int .i64 5]):=by
   have:t7 l=5:=by unfold t7;rw[if_pos (by omega)]
   show s7 l=_;unfold s7;rw[this];rfl
  rw[<-A];clear h A;go_enter func222,ntmps222;go_wp2;go_ret2;exact⟨by rw[r.o];rfl,TQ⟩
 ·have B:∀j,dataSize (l.take j)<=16*140737488355328:=fun j=>by
   have h1:=kf (l.take j) fun c d=>h.2.2.1 c (LY d)
   have h2:(l.take j).length<=16:=by simp;omega
   exact LR h1 (Nat.mul_le_mul_right _ h2)
  have DS:Hid (∀j,dataSize (l.take j)<=16*140737488355328):=B;have n:Hid (L<=16):=(by omega:L<=16);have H:∀j W,j<=L->(Instr.slice 273 (.slice a L cap) none (some (.int .i64 (j:Nat))) none).run prog W=.ok (.slice a j cap) W:=fun j W hj=>by have:=DP h j (by omega) W;rw[<-A]at this;exact this
  have aP:Hid (∀j W,j<=L->(Instr.slice 273 (.slice a L cap) none (some (.int .i64 (j:Nat))) none).run prog W=.ok (.slice a j cap) W):=H;have HS:Hid (B1 w l L (.int .i64 (10+8*(L:Int))) (.int .i64 0) w):=⟨0,by omega,rfl,by rw[<-A];simp[dataSize],rfl,TQ⟩;rw[<-A];clear h A B H;go_enter func222,ntmps222;go_wp2;go_loopg[4,22] L (fun g sz i wr=>B1 w l g sz i wr)
  case atStart=>exact HS.o
  case round=>
   obtain⟨j,ay,rfl,rfl,an,ht⟩:=hrel;have T:Hid (TF w wr):=ht;have G:Hid (j+gk=l.length):=ay;have CK:Hid (checkCh [] l=checkCh (l.take j) (l.drop j)):=an;clear ay an ht HS;by_cases y:j<L
   ·obtain⟨c,d⟩:∃c,l[j]?=some c:=⟨_,LB (by rw[<-m.o];exact y)⟩;obtain⟨b,off,rfl,aX,c0,c1⟩:=fM (Y.o.turned T.o) j c d;have ax:=(LA.1 d).1;have am:c=l[j]:=(LA.1 d).2.symm;have au:l.drop j=c::l.drop (j+1):=by rw[List.drop_eq_getElem_cons ax,am]
    have p:=CK.o;rw[au,checkCh]at p;have DR:Hid (l[j]?=some c∧c∈l):=⟨d,LI d⟩;have aU:=aP.o j (wr.alloc (.cells #[.int .u32 c.1,.string c.2] 285)) (by omega);have aa:=DS.o (j+1);have B:=gS l j c d;clear d ax am au;by_cases O:c.1=0
    ·rw[if_pos O]at p
     have r:Hid (s7 l=.tuple #[.string ⟨#[]⟩,.int .i64 1]):=by
      have:t7 l=1:=by unfold t7;rw[if_neg (by have:=n.o;have:=m.o;omega),if_pos (by omega),p]
      show s7 l=_;unfold s7;rw[this];rfl
     have hd:((c.1:Int)==0)=true:=by simp;omega
     clear p O aa B aU;go_wp2;go_ret2;exact⟨by rw[r.o];rfl,T.o.new _⟩
    ·rw[if_neg O]at p;have hd:((c.1:Int)==0)=false:=by simp;omega
     have Z:CZ 297 #[.slice (some ⟨b,off,none⟩) j cap,.func (.func 298) #[] #[pt wr.heap.size]] (wr.alloc (.cells #[.int .u32 c.1,.string c.2] 285)) (RT (.bool (X1 (l.take j) c.1)) (wr.alloc (.cells #[.int .u32 c.1,.string c.2] 285))):=by have:=js (some ⟨b,off,none⟩) cap wr.heap.size (l.take j) c (wr.alloc (.cells #[.int .u32 c.1,.string c.2] 285)) (((Y.o.take j (by have:=m.o;omega)).turned T.o).turned TA) (g9 (heap_alloc_last wr _) 0 _ rfl);rw[List.length_take,Nat.min_eq_left (by have:=m.o;omega)]at this;exact this
     by_cases hh:X1 (l.take j) c.1=true
     ·rw[if_pos hh]at p;rw[hh]at Z
      have r:Hid (s7 l=.tuple #[.string ⟨#[]⟩,.int .i64 11]):=by
       have:t7 l=11:=by unfold t7;rw[if_neg (by have:=n.o;have:=m.o;omega),if_pos (by omega),p]
       show s7 l=_;unfold s7;rw[this];rfl
      clear p O aa B hh;go_wp2_with(go_fit Z;rintro e w2⟨rfl,C⟩);go_ret2;exact⟨by rw[r.o];rfl,(T.o.new _).tr C⟩
     ·have av:X1 (l.take j) c.1=false:=by simpa using hh
      rw[if_neg hh]at p;rw[av]at Z;have ap:checkCh [] l=checkCh (l.take (j+1)) (l.drop (j+1)):=by rw[p,List.take_add_one,DR.o.1];rfl
      have aM:Hid (checkCh [] l=checkCh (l.take (j+1)) (l.drop (j+1))):=ap;have aK:wrap64 (((10+8*l.length+dataSize (l.take j):Nat):Int)+(c.2.size:Int))=((10+8*l.length+dataSize (l.take (j+1)):Nat):Int):=by have:=n.o;have:=m.o;rw[B]at aa ⊢;simp only[wrap64];omega
      have HZ:Hid (wrap64 (((10+8*l.length+dataSize (l.take j):Nat):Int)+(c.2.size:Int))=((10+8*l.length+dataSize (l.take (j+1)):Nat):Int)):=aK;have HW:Hid (wrap64 ((j:Int)+1)=((j+1:Nat):Int)):=(by have:=n.o;simp[wrap64];omega:wrap64 ((j:Int)+1)=((j+1:Nat):Int));have Q:∀w2,TF (wr.alloc (.cells #[.int .u32 c.1,.string c.2] 285)) w2->w2.cell? ⟨wr.heap.size,1,none⟩=some (.string c.2)∧wr.heap.size<w2.heap.size:=fun w2 t2=>by
       have hz:(wr.alloc (.cells #[.int .u32 c.1,.string c.2] 285)).heap.size=wr.heap.size+1:=by simp
       refine⟨?_,by have:=t2.size;omega⟩;rw[World.cell?_of_block (w':=w2) (t2.block wr.heap.size (by omega) fun q=>q)];exact g9 (heap_alloc_last wr _) 1 _ rfl
      have K:Hid (∀w2,TF (wr.alloc (.cells #[.int .u32 c.1,.string c.2] 285)) w2->w2.cell? ⟨wr.heap.size,1,none⟩=some (.string c.2)∧wr.heap.size<w2.heap.size):=Q;clear p O aa B hh av ap aK Q;generalize 10+8*l.length+dataSize (l.take j)=sz at *;go_wp2_with(go_fit Z;rintro e w2⟨rfl,C⟩;obtain⟨aY,a2⟩:=K.o w2 C);go_roundg (gk-1)
      case measure=>have:=G.o;have:=m.o;omega
      case rel=>exact⟨j+1,by have:=G.o;have:=m.o;omega,by first|rw[HW.o]|simp,by rw[HZ.o],aM.o,(T.o.new _).tr C⟩
   ·have hj:j=L:=by have:=G.o;have:=m.o;omega
    subst hj;have aG:l.take j=l:=LQ (by have:=m.o;omega);have ao:checkCh [] l=0:=by rw[CK.o,List.drop_of_length_le (by have:=m.o;omega)];rfl
    rw[aG];obtain⟨N,hN⟩:=EX (10+8*l.length+dataSize l);have HN:Hid (N=10+8*l.length+dataSize l):=hN;have HK:Hid (checkCh [] l=0):=ao;rw[<-hN];clear hN ao aG y;by_cases al:4194304<N
    ·have hd:decide ((4194304:Int)<(N:Int))=true:=by simp;omega
     have ar:decide (4194304<N)=true:=by simp;omega
     have r:Hid (s7 l=.tuple #[.string ⟨#[]⟩,.int .i64 5]):=by
      have:t7 l=5:=by unfold t7;rw[if_neg (by have:=n.o;have:=m.o;omega),if_neg (by rw[HK.o];simp),if_pos (by have:=HN.o;omega)]
      show s7 l=_;unfold s7;rw[this];rfl
     clear al;go_wp2;go_ret2;exact⟨by rw[r.o];rfl,T.o⟩
    ·have hd:decide ((4194304:Int)<(N:Int))=false:=by simp;omega
     have ar:decide (4194304<N)=false:=by simp;omega
     have r:Hid (s7 l=.tuple #[.string (er l),.int .i64 0]):=by
      have:t7 l=0:=by unfold t7;rw[if_neg (by have:=n.o;have:=m.o;omega),if_neg (by rw[HK.o];simp),if_neg (by have:=HN.o;omega)]
      show s7 l=_;unfold s7;rw[this];rfl
     have HD:Hid (dataSize l<=4194304):=(by have:=HN.o;omega:dataSize l<=4194304);clear al;have F:=xM a cap l wr (Y.o.turned T.o) (by have:=n.o;have:=m.o;omega);rw[<-m.o]at F;have aO:Hid ((l.map (·.1)).Nodup):=(tT l [] HK.o (by simp)).1;have aT:((j:Nat):Int)% 256=(j:Int):=by have:=n.o;omega
     go_wp2_with(first
      |(go_fit F;rintro e w1⟨v,rfl,H,aE⟩;obtain⟨sa,aL,hv,a3,a4⟩:=H.value;subst hv;have T1:Hid (TF w w1):=T.o.tr aE;have aB:=xK l (v:=.slice sa j aL) (by rw[<-m.o];exact fP H) aO.o (by have:=n.o;have:=m.o;omega);clear H aE)
      |(go_fit aB;rintro e w2⟨rfl,R,C⟩;have T2:Hid (d7 (fun b=>wr.heap.size<=b∧b<w1.heap.size) w1 w2):=C;have aQ:Hid (Sl w2 (fun b=>wr.heap.size<=b∧b<w1.heap.size) 285 2 (.slice sa j aL) (ccells (m8 l)) l.length):=R;have nw:=L9 w2;clear aB R C)
      |(go_fit nw;rintro e w3⟨rfl,aI,aF,aD⟩;have aA:=oV ⟨#[80,68,71,67,1]⟩ w3 aI (by omega) (by simp[ByteArray.size]);have Z3:Hid (w3.heap.size=w2.heap.size+1∧TF w2 w3):=⟨aD,aF⟩;clear nw aI aD aF)
      |(go_fit aA;rintro e f⟨rfl,D,s⟩;have aH:=wg j f D (by have:=s.size;have:=Z3.o.1;omega) (by have:=n.o;omega) (by simp);have Z4:Hid (d7 (fun b=>w2.heap.size<=b) w2 f):=(Z3.o.2.mono fun _ _ q=>q.elim).tr s;clear aA D s)
      |(go_fit aH;rintro e J⟨rfl,aJ,S⟩;have Z5:Hid (Wr J (fun b=>w2.heap.size<=b) w2.heap.size (magicC++m9 j 1)∧d7 (fun b=>w2.heap.size<=b) w2 J):=⟨aJ,Z4.o.tr S⟩;clear aH aJ S))
     have ai:Hid (B2 w2 j (magicC++m9 j 1) (fun k=>tableCh ((m8 l).take k)) j (.int .i64 0) J):=⟨0,by omega,rfl,by simpa[tableCh]using Z5.o.1,Z5.o.2⟩;have R:(m8 l).length=l.length:=Q6 l;have E:Hid ((m8 l).length=j):=(R.trans m.o.symm);clear R;clear F hd ar aT;obtain⟨wo,rfl⟩:∃x:World,x=wr:=⟨wr,rfl⟩;have ak:Hid (∀(i:Nat)(c:Ch),(m8 l)[i]?=some c->c.1<4294967296∧c.2.size<=4194304):=fun i c d=>by have hm:c∈l:=(J7 l).mem_iff.1 (LI d);refine⟨(Y.o.2.2.1 c hm).1,?_⟩;exact LR (iJ l c hm) HD.o
     have ag:Hid (∀(i:Nat)(c:Ch)(X:World),(m8 l)[i]?=some c->d7 (fun b=>w2.heap.size<=b) w2 X->∃g off,sa=some ⟨g,off,none⟩∧g<X.heap.size∧X.cell? ⟨g,off+i*2,none⟩=some (.int .u32 c.1)∧X.cell? ⟨g,off+i*2+1,none⟩=some (.string c.2)):=fun i c X d ht=>by have hi:=(LA.1 d).1;have a1:=Q6 l;obtain⟨g,off,aV,hv,-,-,-,F,-,ad⟩:=(aQ.o.turned ht fun b q z=>by have:=T2.o.size;omega).opens (by omega);injection hv with M e2 e3;exact⟨g,off,M,ad,(F (i*2) (by omega)).trans (ccells_get _ i c d).1,(F (i*2+1) (by omega)).trans (ccells_get _ i c d).2⟩
     go_loopg[59] j (fun g i wr=>B2 w2 j (magicC++m9 j 1) (fun k=>tableCh ((m8 l).take k)) g i wr)
     case atStart=>exact ai.o
     case round=>
      obtain⟨i,aw,rfl,V,U⟩:=hrel;have W:Hid (Wr wr (fun b=>w2.heap.size<=b) w2.heap.size (magicC++m9 j 1++tableCh ((m8 l).take i))):=V;have TQ:Hid (d7 (fun b=>w2.heap.size<=b) w2 wr):=U;have GI:Hid (i+gk=j):=aw;clear V U aw ai;by_cases y:i<j
      ·obtain⟨c,d⟩:∃c,(m8 l)[i]?=some c:=⟨_,LB (by rw[E.o];exact y)⟩;obtain⟨g,off,rfl,ad,c0,c1⟩:=ag.o i c wr d TQ.o;obtain⟨s1,s2⟩:=ak.o i c d;have u:(magicC++m9 j 1++tableCh ((m8 l).take i)).length<=1000:=by simp[magicC,j6,M9];have:=n.o;omega
       have P:=gz c.1 (wr.alloc (.cells #[.int .u32 c.1,.string c.2] 285)) ((fT W.o).turned (d7.alloc (fun _=>False) wr _) fun _ _ q=>q) s1 (by omega);have Q:∀f,d7 (fun b=>w2.heap.size<=b∧b<wr.heap.size) (wr.alloc (.cells #[.int .u32 c.1,.string c.2] 285)) f->f.cell? ⟨wr.heap.size,1,none⟩=some (.string c.2)∧wr.heap.size<f.heap.size:=fun f t4=>by
        have hz:(wr.alloc (.cells #[.int .u32 c.1,.string c.2] 285)).heap.size=wr.heap.size+1:=by simp
        refine⟨?_,by have:=t4.size;omega⟩;rw[World.cell?_of_block (w':=f) (t4.block wr.heap.size (by omega) fun q=>by omega)];exact g9 (heap_alloc_last wr _) 1 _ rfl
       have K:Hid (∀f,d7 (fun b=>w2.heap.size<=b∧b<wr.heap.size) (wr.alloc (.cells #[.int .u32 c.1,.string c.2] 285)) f->f.cell? ⟨wr.heap.size,1,none⟩=some (.string c.2)∧wr.heap.size<f.heap.size):=Q;have ab:Hid ((magicC++m9 j 1++tableCh ((m8 l).take i)).length<=1000∧c.2.size<=4194304∧(m8 l)[i]?=some c):=⟨u,s2,d⟩;have hm:((c.2.size:Nat):Int)% 4294967296=(c.2.size:Int):=by omega
       clear d Q u s1 s2
       go_wp2_with(first
        |(go_fit P;rintro e f⟨rfl,D,s⟩;obtain⟨aZ,a0⟩:=K.o f s;have hB:=fS c.2.size f (D.widen fun b q=>(q.elim (fun q=>q.1) fun q=>by have:=TQ.o.size;have h1:(wr.alloc (.cells #[.int .u32 c.1,.string c.2] 285)).heap.size=wr.heap.size+1:=(by simp);omega:w2.heap.size<=b)) (by have:=TQ.o.size;omega) (by have:=ab.o.2.1;omega) (by have:=ab.o.1;simp only[List.length_append,j6]at this ⊢;omega);have T4:Hid (d7 (fun b=>w2.heap.size<=b∧b<wr.heap.size) (wr.alloc (.cells #[.int .u32 c.1,.string c.2] 285)) f):=s;clear D s)
        |(go_fit hB;rintro e w6⟨rfl,af,ae⟩))
       go_roundg (gk-1)
       case measure=>have:=GI.o;omega
       case rel=>
        refine⟨i+1,by have:=GI.o;omega,by simp,?_,((TQ.o.new _).tr (T4.o.mono fun b hb q=>q.1)).tr ae⟩;have M:tableCh ((m8 l).take (i+1))=tableCh ((m8 l).take i)++(m9 c.1 4++m9 c.2.size 4):=by rw[List.take_add_one,ab.o.2.2,fO];simp[tableCh]
        show Wr w6 _ _ (magicC++m9 j 1++tableCh ((m8 l).take (i+1)));rw[M];simpa[List.append_assoc]using af
      ·have hi:i=j:=by have:=GI.o;omega
       subst hi;have I:(m8 l).take i=m8 l:=LQ (by rw[E.o];exact LS _);have t:=W.o;rw[I]at t;have aj:Hid (B2 w2 i (magicC++m9 i 1++tableCh (m8 l)) (fun k=>dataCh ((m8 l).take k)) i (.int .i64 0) wr):=⟨0,by omega,rfl,by simpa[dataCh]using t,TQ.o⟩;clear t I y W TQ;go_wp2;obtain⟨a5,rfl⟩:∃x:World,x=wr:=⟨wr,rfl⟩;go_loopg[76] i (fun g k wr=>B2 w2 i (magicC++m9 i 1++tableCh (m8 l)) (fun k=>dataCh ((m8 l).take k)) g k wr)
       case atStart=>exact aj.o
       case round=>
        obtain⟨k,az,rfl,V,U⟩:=hrel;have W:Hid (Wr wr (fun b=>w2.heap.size<=b) w2.heap.size (magicC++m9 i 1++tableCh (m8 l)++dataCh ((m8 l).take k))):=V;have TQ:Hid (d7 (fun b=>w2.heap.size<=b) w2 wr):=U;have GK:Hid (k+gk=i):=az;clear V U az aj;have u:(magicC++m9 i 1++tableCh (m8 l)++dataCh ((m8 l).take k)).length<=4200000:=by
         have h1:=n.o;have h2:=E.o;have h3:dataSize ((m8 l).take k)<=4194304:=by
          have h4:dataSize (m8 l)=dataSize l:=dW (J7 l);have h5:dataSize (m8 l)=dataSize ((m8 l).take k)+dataSize ((m8 l).drop k):=by rw[<-Z8,List.take_append_drop]
          have:=HD.o;omega
         simp only[List.length_append,j6,M9,dV,magicC,List.length_cons,List.length_nil];omega
        by_cases y:k<i
        ·obtain⟨c,d⟩:∃c,(m8 l)[k]?=some c:=⟨_,LB (by rw[E.o];exact y)⟩;obtain⟨g,off,rfl,ad,c0,c1⟩:=ag.o k c wr d TQ.o;obtain⟨s1,s2⟩:=ak.o k c d;have P:=oV c.2 (wr.alloc (.cells #[.int .u32 c.1,.string c.2] 285)) (W.o.turned (d7.alloc (fun _=>False) wr _) fun _ _ q=>q) (by have:=TQ.o.size;have h1:(wr.alloc (.cells #[.int .u32 c.1,.string c.2] 285)).heap.size=wr.heap.size+1:=(by simp);omega) (by omega);have K:Hid ((m8 l)[k]?=some c):=d;clear d u s1 s2;go_wp2_with(go_fit P;rintro e f⟨rfl,D,s⟩);go_roundg (gk-1)
         case measure=>have:=GK.o;omega
         case rel=>
          refine⟨k+1,by have:=GK.o;omega,by simp,?_,(TQ.o.new _).tr s⟩;have M:dataCh ((m8 l).take (k+1))=dataCh ((m8 l).take k)++c.2.data.toList:=by rw[List.take_add_one,K.o,gO];simp[dataCh]
          show Wr f _ _ (magicC++m9 i 1++tableCh (m8 l)++dataCh ((m8 l).take (k+1)));rw[M];simpa[List.append_assoc]using D
        ·have hk:k=i:=by have:=GK.o;omega
         subst hk;have I:(m8 l).take k=m8 l:=LQ (by rw[E.o];exact LS _);rw[I]at u;have t:=W.o;rw[I]at t;obtain⟨bs,ac⟩:=EX (magicC++m9 k 1++tableCh (m8 l)++dataCh (m8 l));rw[<-ac]at t u;have aN:Hid (er l=⟨(bs++m9 (Crc.sum (p6 ⟨bs.toArray⟩)) 4).toArray⟩):=by
          show er l=_;have hb:lq (m8 l)=bs:=by rw[ac,lq,E.o]
          unfold er;rw[hb,iK]
         have WB:Hid (Wr wr (fun b=>w2.heap.size<=b) w2.heap.size bs):=t;have aq:=O0 ⟨bs.toArray⟩;have aR:=O3 wr t;have aC:=kO wr.heap.size 0 1 ⟨bs.toArray⟩ (wr.alloc (.cells #[.string ⟨bs.toArray⟩] 9)) (g9 (heap_alloc_last wr _) 0 _ rfl) (by simp) (by simp[ByteArray.size];omega);have ah:Hid (bs.length<=4200000∧Crc.sum (p6 ⟨bs.toArray⟩)<4294967296):=⟨u,aq⟩;clear t I ac u aq W y
         go_wp2_with(first
          |(go_fit aR;rintro e f⟨rfl,rfl⟩)
          |(go_fit aC;rintro e J⟨rfl,S⟩;have T5:Hid (TF wr J):=(d7.alloc (fun _=>False) wr _).tr S;have P:=fS (Crc.sum (p6 ⟨bs.toArray⟩)) J (WB.o.turned T5.o fun _ _ q=>q) (by have:=TQ.o.size;have:=T5.o.size;omega) ah.o.2 (by have:=ah.o.1;omega);clear aC S)
          |(go_fit P;rintro e w6⟨rfl,af,ae⟩;have aS:=O3 w6 af)
          |(go_fit aS;rintro e w7⟨rfl,rfl⟩))
         go_ret2;refine⟨by rw[r.o,aN.o];rfl,?_⟩;have q1:d7 (fun b=>w2.heap.size<=b) w2 w6:=(TQ.o.tr (T5.o.mono fun _ _ q=>q.elim)).tr ae;have q2:TF w w2:=T1.o.comp T2.o fun i hi q=>q.elim id fun q=>by have:=T.o.size;omega
         exact q2.comp q1 fun i hi q=>q.elim id fun q=>by have:=q2.size;omega
end Go.Proofs.YtofcogekgcgjhaaGreatDoor

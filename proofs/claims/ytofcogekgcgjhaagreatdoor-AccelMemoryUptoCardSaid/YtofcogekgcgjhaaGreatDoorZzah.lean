/- Packed. -/
import Derived.Test.YtofcogekgcgjhaaGreatDoorZzaf
import Derived.Shelf.Strconv.Itoa3
import Derived.Test.YtofcogekgcgjhaaGreatDoorZzag
import Derived.Shelf.Strconv.AtoiAll
import Derived.Shelf.Strconv.ErrVarAll
import Derived.Lib.ConvBytes
import Derived.BigQuiet
set_option maxRecDepth 100000
set_option maxHeartbeats 8000000
namespace Go.Proofs.YtofcogekgcgjhaaGreatDoor.Ch
open Go.RowKit Go.Mine Go.Proofs.Tryz
def jr(w:World):Prop:=∃g c T f,prog.globalNamed "internal/strconv.uint64pow10" =some g∧w.heap[g]?=some (.cells c T f)∧c=(Lib.pow10Tab.map fun z=>Value.int .u64 z).toArray
theorem jr.is{w:World}(h:jr w):Lib.TabIs prog w "internal/strconv.uint64pow10" .u64 Lib.pow10Tab:=by obtain⟨g,c,T,f,h1,h2,h3⟩:=h;unfold Lib.TabIs World.var?;rw[h1,Option.bind_some,h2,h3]
theorem jr.turned{w w':World}(h:jr w)(a:TF w w'):jr w':=by obtain⟨g,c,T,f,h1,h2,h3⟩:=h;exact⟨g,c,T,f,h1,(a.block g (i6 h2) fun q=>q).trans h2,h3⟩
theorem oz(w:World)(k:Nat):TF w (w.drewN k):=⟨rfl,rfl,rfl,LS _,fun _ _ _=>rfl⟩
theorem qE(w:World)(os:Array Obj):TF w (Sort.grow w os):=⟨rfl,rfl,rfl,by simp[Sort.grow],fun b a _=>by simp only[Sort.grow];rw[Array.getElem?_append_left a]⟩
theorem qF(n:Int)(h:eO n)(w:World)(b:jr w):CZ 214 #[.int .i64 n] w (RT (.string ⟨(Lib.itoa n).toArray⟩) w):=(Any.strconv_Itoa tz_itoaLays n h.1 h.2 w b.is).mono fun e w'⟨a,k,os,c⟩=>⟨a,by rw[c];exact(oz w k).tr (qE _ os)⟩
def prefixB:List UInt8:=[103,114,97,112,104,45]
def nameS(n:Int):ByteArray:=if cO n=true then⟨#[103,114,97,112,104,45]⟩++⟨(Lib.itoa n).toArray⟩else⟨#[]⟩
theorem qG(n:Int)(h:eO n)(w:World)(d:jr w):CZ 128 #[.int .i64 n] w (RT (.string (nameS n)) w):=by
 have c:=cP n w;have f:=qF n h w d;have g:(Lib.itoa n).toArray.size<=21:=by have:=Lib.itoa_length_le n h.1 h.2;simpa using this
 unfold nameS;generalize(Lib.itoa n).toArray=a at *;have k:¬9223372036854775807<6+a.size:=by omega
 cases b:cO n with
 |true=>
  rw[b]at c;clear b h d g;simp only[if_true];go_enter func128,ntmps128
  go_wp2_with(first
   |(go_fit c;rintro e j⟨rfl,rfl⟩)
   |(go_fit f;rintro e w2⟨rfl,i⟩))
  go_ret;exact⟨rfl,i⟩
 |false=>rw[b]at c;clear b h d f;simp only[Bool.false_eq_true,if_false];go_enter func128,ntmps128;go_wp2_with(go_fit c;rintro e j⟨rfl,rfl⟩);go_ret;exact⟨rfl,TQ⟩
theorem nz(n:Int)(h:eO n)(w:World)(f:jr w):CZ 189 #[.int .i64 n] w (RT (.string (nameS n)) w):=by
 have d:=qF n h w f;have j:(Lib.itoa n).toArray.size<=21:=by have:=Lib.itoa_length_le n h.1 h.2;simpa using this
 unfold nameS cO;generalize(Lib.itoa n).toArray=a at *;have m:¬9223372036854775807<6+a.size:=by omega
 clear j h f;by_cases l:n<0
 ·have b:decide (0<=n)=false:=by simp;omega
  have g:decide (n<0)=true:=by simp;omega
  rw[b];simp only[Bool.false_and,Bool.false_eq_true,if_false];clear d;go_enter func189,ntmps189;go_wp2;go_ret;exact⟨rfl,TQ⟩
 ·have b:decide (0<=n)=true:=by simp;omega
  have g:decide (n<0)=false:=by simp;omega
  rw[b];by_cases h1:n<=1073741824
  ·have c:decide (n<=1073741824)=true:=by simp;omega
   have i:decide (1073741824<n)=false:=by simp;omega
   rw[c];simp only[Bool.and_self,if_true];go_enter func189,ntmps189;go_wp2_with(go_fit d;rintro e w2⟨rfl,k⟩);go_ret;exact⟨rfl,k⟩
  ·have c:decide (n<=1073741824)=false:=by simp;omega
   have i:decide (1073741824<n)=true:=by simp;omega
   rw[c];simp only[Bool.and_false,Bool.false_eq_true,if_false];clear d;go_enter func189,ntmps189;go_wp2;go_ret;exact⟨rfl,TQ⟩
def prefBA:ByteArray:=⟨#[103,114,97,112,104,45]⟩
def H7(x:ByteArray):Int×Bool:=
 if x.extract 0 6=prefBA then
  match Lib.atoiAll (x.extract 6 x.size).data.toList with
  | .ok v=>if nameS v=x then(v,true)else(0,false)
  |_=>(0,false)
 else(0,false)
def dB(x:ByteArray):Int×Bool:=
 if x.size<7∨16<x.size then(0,false)
 else match Lib.decFrom 0 (x.data.toList.drop 6)with
  |none=>(0,false)
  |some n=>if nameS (n:Int)=x then((n:Int),true)else(0,false)
theorem xr(n:Nat)(h:n<=1073741824):(nameS (n:Int)).data.toList=prefixB++Lib.decDigits n:=by
 have:cO (n:Int)=true:=by unfold cO;simp;omega
 unfold nameS;rw[if_pos this,Lib.itoa_nonneg];rfl
theorem xt(v:Int)(h:cO v=false):nameS v=⟨#[]⟩:=by unfold nameS;rw[h];rfl
theorem zi{v:Int}(h:cO v=true):∃n:Nat,v=(n:Int)∧n<=1073741824:=by unfold cO at h;simp at h;exact⟨v.toNat,by omega,by omega⟩
theorem lm(n:Nat)(h:n<=1073741824):(nameS (n:Int)).size=6+Lib.nDigits n∧(nameS (n:Int)).extract 0 6=prefBA∧((nameS (n:Int)).extract 6 (nameS (n:Int)).size).data.toList=Lib.decDigits n∧(nameS (n:Int)).data.toList.drop 6=Lib.decDigits n∧1<=Lib.nDigits n∧Lib.nDigits n<=10:=by
 have a:=xr n h;have c:(nameS (n:Int)).size=6+Lib.nDigits n:=by
  have:(nameS (n:Int)).data.toList.length=(nameS (n:Int)).size:=by simp
  rw[<-this,a,List.length_append,Lib.decDigits_length];rfl
 have b:(nameS (n:Int)).data.toList.drop 6=Lib.decDigits n:=by rw[a,show(6:Nat)=prefixB.length from rfl,List.drop_left]
 refine⟨c,?_,?_,b,Lib.nDigits_pos n,nDigits_le 9 n (by omega)⟩
 ·apply ByteArray.ext;apply Array.toList_inj.1;rw[toList_extract,List.drop_zero,a,show 6-0=prefixB.length from rfl,List.take_left];rfl
 ·rw[toList_extract,b,c,List.take_of_length_le];rw[Lib.decDigits_length];omega
theorem tQ(n:Nat)(h:n<=1073741824):H7 (nameS (n:Int))=((n:Int),true):=by obtain⟨b,h1,h2,h3,h4,a⟩:=lm n h;unfold H7;rw[if_pos h1,h2,iA n h];simp
theorem xu(n:Nat)(h:n<=1073741824):dB (nameS (n:Int))=((n:Int),true):=by obtain⟨b,h1,h2,h3,h4,a⟩:=lm n h;unfold dB;rw[if_neg (by omega),h3,dK];simp
theorem vY(x:ByteArray)(h:¬ ∃n:Nat,n<=1073741824∧nameS (n:Int)=x)(v:Int)(b:nameS v=x):x=⟨#[]⟩:=by
 cases a:cO v with
 |true=>obtain⟨n,rfl,c⟩:=zi a;exact absurd ⟨n,c,b⟩ h
 |false=>rw[<-b];exact xt v a
theorem xv(x:ByteArray)(h:¬ ∃n:Nat,n<=1073741824∧nameS (n:Int)=x):H7 x=(0,false):=by
 unfold H7;split
 ·rename_i a;split
  ·split
   ·rename_i b;have:=vY x h _ b;subst this;exact absurd a (by decide)
   ·rfl
  ·rfl
 ·rfl
theorem zj(x:ByteArray)(h:¬ ∃n:Nat,n<=1073741824∧nameS (n:Int)=x):dB x=(0,false):=by
 unfold dB;split
 ·rfl
 ·rename_i b;split
  ·rfl
  ·split
   ·rename_i a;have:=vY x h _ a;subst this;exact absurd (Or.inl (by decide)) b
   ·rfl
theorem zk(x:ByteArray):H7 x=dB x:=by
 by_cases h:∃n:Nat,n<=1073741824∧nameS (n:Int)=x
 ·obtain⟨n,a,rfl⟩:=h;rw[tQ n a,xu n a]
 ·rw[xv x h,zj x h]
def ia(w:World):Prop:=(∃a p,w.var? prog "strconv.ErrSyntax" =some #[.iface a p])∧∃a p,w.var? prog "strconv.ErrRange" =some #[.iface a p]
theorem iB{w w':World}(h:Below w.heap.size w w'):TF w w':=⟨h.os,h.tape,h.output,h.size,fun b a _=>h.block b a⟩
theorem qH(s:ByteArray)(w:World)(a:ia w)(c:s.size<=281474976710656):
  CZ 229 #[.string s] w fun e w'=>TF w w'∧((∃v,Lib.atoiAll s.data.toList=.ok v∧e=.returned (.tuple #[.int .i64 v,.nilIface]))∨((∀v,Lib.atoiAll s.data.toList≠.ok v)∧∃n t p,e=.returned (.tuple #[.int .i64 n,.iface t p]))):=by
 obtain⟨⟨k,g,h1⟩,l,i,h2⟩:=a;cases h:Lib.atoiAll s.data.toList with
 |ok v=>
  refine(Any.strconv_Atoi_ok tz_atoiLays s (by omega) v h w).mono fun e w'⟨a,f⟩=>⟨?_,.inl ⟨v,rfl,a⟩⟩
  rcases f with rfl|⟨t,rfl⟩
  ·exact TQ
  ·exact⟨rfl,rfl,rfl,by rw[Lib.bytesWorld_size];omega,fun j d _=>Lib.bytesWorld_at_old w _ t j d⟩
 |range=>refine(Any.strconv_Atoi_range_var tz_atoiLays s c h l i w h2).mono fun e w'⟨N,a,_,_,b⟩=>⟨iB b,.inr ⟨fun v q=>by simp at q,_,_,_,a⟩⟩
 |_=>refine(Any.strconv_Atoi_syntax_var tz_atoiLays s c h k g w h1).mono fun e w'⟨N,a,_,_,b⟩=>⟨iB b,.inr ⟨fun v q=>by simp at q,_,_,_,a⟩⟩
def oA(x:ByteArray):Value:=if x.extract 0 6=prefBA then .tuple #[.string (x.extract 6 x.size),.bool true]else .tuple #[.string x,.bool false]
theorem xw(x:ByteArray)(w:World)(d:x.size<=4611686018427387904):CZ 205 #[.string x,.string prefBA] w fun e w'=>e=.returned (.bool (decide (x.extract 0 6=prefBA)))∧w=w':=by
 by_cases b:6<=x.size
 ·have g:decide ((6:Int)<=(x.size:Int))=true:=by simp;omega
  have h:decide (6<=x.size)=true:=by simp;omega
  have j:∀W,(Instr.slice 9 (.string x) none (some (.int .i64 6)) none).run prog W=.ok (.string (x.extract 0 6)) W:=fun W=>by have:=run_slice_string_h (P:=prog) W 9 x underlying9 .i64 6 (by omega) (by omega);exact this
  unfold prefBA;generalize x.extract 0 6=f at *;by_cases a:f=⟨#[103,114,97,112,104,45]⟩
  ·subst a;clear b d;go_enter func205,ntmps205;go_wp2;go_ret;exact⟨by simp,rfl⟩
  ·rw[show decide (f=⟨#[103,114,97,112,104,45]⟩)=false by simp[a]];have c:=Co f [103,114,97,112,104,45] a;have i:=jp f ⟨#[103,114,97,112,104,45]⟩ a;clear b d a;go_enter func205,ntmps205;go_wp2;go_ret;exact⟨rfl,rfl⟩
 ·have g:decide ((6:Int)<=(x.size:Int))=false:=by simp;omega
  have h:decide (6<=x.size)=false:=by simp;omega
  have c:x.extract 0 6≠prefBA:=by intro q;have:=congrArg ByteArray.size q;rw[ByteArray.size_extract]at this;have h2:prefBA.size=6:=rfl;omega
  rw[show decide (x.extract 0 6=prefBA)=false by simp[c]];unfold prefBA;clear b d c;go_enter func205,ntmps205;go_wp2;go_ret;exact⟨rfl,rfl⟩
theorem Bl(x:ByteArray)(w:World)(d:x.size<=4611686018427387904):CZ 228 #[.string x,.string prefBA] w fun e w'=>e=.returned (oA x)∧w=w':=by
 have c:=xw x w d;have f:CZ 304 #[.string x,.string prefBA] w fun e w'=>e=.returned (oA x)∧w=w':=by
  unfold oA;by_cases h:x.extract 0 6=prefBA
  ·have j:6<=x.size:=by have:=congrArg ByteArray.size h;rw[ByteArray.size_extract]at this;have h2:prefBA.size=6:=rfl;omega
   have k:∀W,(Instr.slice 9 (.string x) (some (.int .i64 6)) none none).run prog W=.ok (.string (x.extract 6 x.size)) W:=fun W=>by have:=run_slice_string_l (P:=prog) W 9 x underlying9 .i64 6 (by omega) (by omega);exact this
   rw[if_pos h];rw[show decide (x.extract 0 6=prefBA)=true by simp[h]]at c;generalize x.extract 6 x.size=y at *;unfold prefBA at c ⊢;clear h j d;go_enter func304,ntmps304;go_wp2_with(go_fit c;rintro e i⟨rfl,rfl⟩);go_ret2;exact⟨rfl,rfl⟩
  ·rw[if_neg h];rw[show decide (x.extract 0 6=prefBA)=false by simp[h]]at c;unfold prefBA at c ⊢;clear h d;go_enter func304,ntmps304;go_wp2_with(go_fit c;rintro e i⟨rfl,rfl⟩);go_ret2;exact⟨rfl,rfl⟩
 clear c;obtain⟨a,b,g⟩:∃a b,oA x=.tuple #[.string a,.bool b]:=by
  unfold oA;split
  ·exact⟨_,_,rfl⟩
  ·exact⟨_,_,rfl⟩
 rw[g]at f ⊢;unfold prefBA at f ⊢;clear g d;go_enter func228,ntmps228;go_wp2_with(go_fit f;rintro e i⟨rfl,rfl⟩);go_ret2;exact⟨rfl,rfl⟩
def Et(r:Int×Bool):Value:=.tuple #[.int .i64 r.1,.bool r.2]
def Cr(x:ByteArray):Lib.NumEnd Int->Int×Bool
 | .ok v=>if nameS v=x then(v,true)else(0,false)
 |_=>(0,false)
theorem tR(x:ByteArray)(a:x.extract 0 6=prefBA):H7 x=Cr x (Lib.atoiAll (x.extract 6 x.size).data.toList):=by unfold H7;rw[if_pos a];cases Lib.atoiAll (x.extract 6 x.size).data.toList<;>rfl
theorem qI(x:ByteArray)(w:World)(r:jr w)(l:ia w)(q:x.size<=281474976710656):
  CZ 138 #[.string x] w (RT (Et (H7 x)) w):=by
 have hcut:=Bl x w (by omega);by_cases g:x.extract 0 6=prefBA
 ·have j:oA x=.tuple #[.string (x.extract 6 x.size),.bool true]:=by unfold oA;rw[if_pos g]
  rw[j]at hcut;have k:=qH (x.extract 6 x.size) w l (by rw[ByteArray.size_extract];omega);have a:=tR x g;unfold prefBA at hcut;generalize x.extract 6 x.size=d at *;cases c:Lib.atoiAll d.data.toList with
  |ok v=>
   have D:=Lib.atoiAll_bounds c;rw[c]at a;simp only[Cr]at a;have u:Hid (∀(e:Ending)(w':World),(TF w w'∧((∃v,Lib.atoiAll d.data.toList=.ok v∧e=.returned (.tuple #[.int .i64 v,.nilIface]))∨((∀v,Lib.atoiAll d.data.toList≠.ok v)∧∃n t p,e=.returned (.tuple #[.int .i64 n,.iface t p]))))->e=.returned (.tuple #[.int .i64 v,.nilIface])∧TF w w'):=by
    have:∀(e:Ending)(w':World),(TF w w'∧((∃v,Lib.atoiAll d.data.toList=.ok v∧e=.returned (.tuple #[.int .i64 v,.nilIface]))∨((∀v,Lib.atoiAll d.data.toList≠.ok v)∧∃n t p,e=.returned (.tuple #[.int .i64 n,.iface t p]))))->e=.returned (.tuple #[.int .i64 v,.nilIface])∧TF w w':=fun e w'⟨h1,h2⟩=>by
     rcases h2 with⟨E,h3,h4⟩|⟨h3,-⟩
     ·rw[c]at h3;injection h3 with h3;subst h3;exact⟨h4,h1⟩
     ·exact absurd c (h3 v)
    exact this
   have i:CZ 229 #[.string d] w (RT (.tuple #[.int .i64 v,.nilIface]) w):=k.mono u.o;have z:Hid (∀W,TF w W->CZ 128 #[.int .i64 v] W (RT (.string (nameS v)) W)):=fun W h=>qG v D W (r.turned h)
   by_cases m:nameS v=x
   ·rw[if_pos m]at a;have f:Hid (H7 x=(v,true)):=a;rw[m]at z;clear a g j k c D u m r l q;go_enter func138,ntmps138
    go_wp2_with(first
     |(go_fit hcut;rintro e s⟨rfl,rfl⟩)
     |(go_fit i;rintro e w2⟨rfl,b⟩;have A:Hid (TF w w2):=b;have B:=z.o w2 b;clear b)
     |(go_fit B;rintro e F⟨rfl,C⟩))
    go_ret2;exact⟨by rw[f.o];rfl,A.o.tr C⟩
   ·rw[if_neg m]at a;have f:Hid (H7 x=(0,false)):=a;have G:=jp _ _ m;generalize nameS v=y at *;clear a g j k c D u m r l q;go_enter func138,ntmps138
    go_wp2_with(first
     |(go_fit hcut;rintro e s⟨rfl,rfl⟩)
     |(go_fit i;rintro e w2⟨rfl,b⟩;have A:Hid (TF w w2):=b;have B:=z.o w2 b;clear b)
     |(go_fit B;rintro e F⟨rfl,C⟩))
    go_ret2;exact⟨by rw[f.o];rfl,A.o.tr C⟩
  |range=>
   rw[c]at a;have f:Hid (H7 x=(0,false)):=a;have i:CZ 229 #[.string d] w fun e w'=>∃n t p,e=.returned (.tuple #[.int .i64 n,.iface t p])∧TF w w':=k.mono fun e w'⟨h1,h2⟩=>by
    rcases h2 with⟨E,h3,h4⟩|⟨-,n,t,p,h4⟩
    ·rw[c]at h3;simp at h3
    ·exact⟨n,t,p,h4,h1⟩
   clear a g j k c r l q;go_enter func138,ntmps138
   go_wp2_with(first
    |(go_fit hcut;rintro e s⟨rfl,rfl⟩)
    |(go_fit i;rintro e w2⟨n,t,p,rfl,b⟩))
   go_ret2;exact⟨by rw[f.o];rfl,b⟩
  |_=>
   rw[c]at a;have f:Hid (H7 x=(0,false)):=a;have i:CZ 229 #[.string d] w fun e w'=>∃n t p,e=.returned (.tuple #[.int .i64 n,.iface t p])∧TF w w':=k.mono fun e w'⟨h1,h2⟩=>by
    rcases h2 with⟨E,h3,h4⟩|⟨-,n,t,p,h4⟩
    ·rw[c]at h3;simp at h3
    ·exact⟨n,t,p,h4,h1⟩
   clear a g j k c r l q;go_enter func138,ntmps138
   go_wp2_with(first
    |(go_fit hcut;rintro e s⟨rfl,rfl⟩)
    |(go_fit i;rintro e w2⟨n,t,p,rfl,b⟩))
   go_ret2;exact⟨by rw[f.o];rfl,b⟩
 ·have j:oA x=.tuple #[.string x,.bool false]:=by unfold oA;rw[if_neg g]
  rw[j]at hcut;have f:Hid (H7 x=(0,false)):=by
   have:H7 x=(0,false):=by unfold H7;rw[if_neg g]
   exact this
  have i:CZ 229 #[.string x] w fun e w'=>∃n v,e=.returned (.tuple #[.int .i64 n,v])∧TF w w':=(qH x w l q).mono fun e w'⟨h1,h2⟩=>by
   rcases h2 with⟨E,h3,h4⟩|⟨-,n,t,p,h4⟩
   ·exact⟨_,_,h4,h1⟩
   ·exact⟨_,_,h4,h1⟩
  unfold prefBA at hcut;clear g j r l q;go_enter func138,ntmps138
  go_wp2_with(first
   |(go_fit hcut;rintro e s⟨rfl,rfl⟩)
   |(go_fit i;rintro e w2⟨n,v,rfl,b⟩))
  go_ret2;exact⟨by rw[f.o];rfl,b⟩
def Eu(w:World)(x:ByteArray)(g:Nat)(n i:Value)(wr:World):Prop:=∃j m:Nat,6<=j∧j+g=x.size∧i=.int .i64 j∧n=.int .i64 m∧Lib.decFrom 0 ((x.data.toList.drop 6).take (j-6))=some m∧m<10000000000∧TF w wr
theorem xx(k:Nat)(h:k<=10):(10:Nat)^k<=10000000000:=LR (Nat.pow_le_pow_right (by decide) h) (by decide)
theorem decFrom_bad:∀(l:List UInt8)(a k:Nat)(b:UInt8),l[k]?=some b->Lib.digitVal b=none->Lib.decFrom a l=none
 | [],_,k,b,h,_=>by simp at h
 |c::l,a,0,b,h,hb=>by simp at h;subst h;simp[Lib.decFrom,hb]
 |c::l,a,k+1,b,h,hb=>by
  simp only[Lib.decFrom];cases Lib.digitVal c with
  |none=>rfl
  |some e=>exact decFrom_bad l _ k b (by simpa using h) hb
theorem qJ(x:ByteArray)(w:World)(v:jr w)(D:x.size<=281474976710656):
  CZ 201 #[.string x] w (RT (Et (dB x)) w):=by
 by_cases p:x.size<7∨16<x.size
 ·have r:Hid (dB x=(0,false)):=by
   have:dB x=(0,false):=by unfold dB;rw[if_pos p]
   exact this
  by_cases h7:x.size<7
  ·have A:decide ((x.size:Int)<7)=true:=by simp;omega
   have K:decide (x.size<7)=true:=by simp;omega
   clear p D v;go_enter func201,ntmps201;go_wp2;go_ret2;exact⟨by rw[r.o];rfl,TQ⟩
  ·have A:decide ((x.size:Int)<7)=false:=by simp;omega
   have K:decide (x.size<7)=false:=by simp;omega
   have he:decide ((16:Int)<(x.size:Int))=true:=by simp;omega
   have aa:decide (16<x.size)=true:=by simp;omega
   clear p D v;go_enter func201,ntmps201;go_wp2;go_ret2;exact⟨by rw[r.o];rfl,TQ⟩
 ·have A:decide ((x.size:Int)<7)=false:=by simp;omega
  have K:decide (x.size<7)=false:=by simp;omega
  have he:decide ((16:Int)<(x.size:Int))=false:=by simp;omega
  have aa:decide (16<x.size)=false:=by simp;omega
  have z:Hid (7<=x.size∧x.size<=16):=(by omega:7<=x.size∧x.size<=16);have r:Hid (dB x=match Lib.decFrom 0 (x.data.toList.drop 6)with|none=>(0,false)|some n=>if nameS (n:Int)=x then((n:Int),true)else(0,false)):=by show dB x=_;unfold dB;exact if_neg p
  have S:Hid (jr w):=v;clear p D v;go_enter func201,ntmps201;go_wp2;go_loopg[4,5] (x.size-6) (fun g n i wr=>Eu w x g n i wr)
  case atStart=>exact⟨6,0,by omega,by have:=z.o;omega,rfl,rfl,by simp[Lib.decFrom],by omega,TQ⟩
  case round=>
   obtain⟨j,m,N,O,rfl,rfl,k,P,Q⟩:=hrel;have f:Hid (6<=j∧j+gk=x.size∧m<10000000000):=⟨N,O,P⟩;have F:Hid (Lib.decFrom 0 ((x.data.toList.drop 6).take (j-6))=some m):=k;have T:Hid (TF w wr):=Q;clear N O k P Q;by_cases ac:j<x.size
   ·obtain⟨b,t⟩:∃b,x.data.toList[j]?=some b:=⟨_,LB (by simpa using ac)⟩
    have ae:∀W,(Instr.index 9 (.string x) (.int .i64 j)).run prog W=.ok (.int .u8 b.toNat) W:=fun W=>by
     rw[run_index_string W 9 x .i64 _ underlying9,dif_pos (by omega)];have Z:x[j]'(by omega)=b:=by rw[Array.getElem?_toList]at t;exact(Array.getElem?_eq_some_iff.1 t).2
     simp only[Int.toNat_natCast,Z]
    have u:(x.data.toList.drop 6)[j-6]?=some b:=by rw[List.getElem?_drop,show 6+(j-6)=j by have:=f.o;omega];exact t
    have I:=b.toNat_lt;cases a:Lib.digitVal b with
    |none=>
     have J:=decFrom_bad _ 0 _ b u a;have h:Hid (dB x=(0,false)):=by
      have:dB x=(0,false):=by rw[r.o,J]
      exact this
     have ad:b.toNat<48∨(48<=b.toNat∧57<b.toNat):=by
      unfold Lib.digitVal at a;split at a
      ·simp at a
      ·omega
     clear t u J a I;generalize b.toNat=c at *;rcases ad with h1|⟨h1,h2⟩
     ·have G:decide ((c:Int)<48)=true:=by simp;omega
      have H:decide (c<48)=true:=by simp;omega
      clear h1;go_wp2;go_ret2;exact⟨by rw[h.o];rfl,T.o⟩
     ·have G:decide ((c:Int)<48)=false:=by simp;omega
      have H:decide (c<48)=false:=by simp;omega
      have X:decide ((57:Int)<(c:Int))=true:=by simp;omega
      have Y:decide (57<c)=true:=by simp;omega
      clear h1 h2;go_wp2;go_ret2;exact⟨by rw[h.o];rfl,T.o⟩
    |some s=>
     obtain⟨h1,h2,h3⟩:=Lib.digitVal_eq a;have C:=Lib.decFrom_take _ _ _ _ _ _ F.o u a;have V:Hid (Lib.decFrom 0 ((x.data.toList.drop 6).take (j-6+1))=some (m*10+s)):=C;have R:Hid (s=b.toNat-48∧48<=b.toNat∧b.toNat<=57):=⟨h3,h1,h2⟩;have U:Hid (m*10+s<10000000000):=by
      have:m*10+s<10000000000:=by
       have q:=Lib.decFrom_lt _ _ _ C;have ab:((x.data.toList.drop 6).take (j-6+1)).length<=10:=by rw[List.length_take];have:=z.o;have:=f.o;omega
       have:=xx _ ab;omega
      exact this
     clear t u C a I h3;generalize b.toNat=c at *;have G:decide ((c:Int)<48)=false:=by simp;omega
     have H:decide (c<48)=false:=by simp;omega
     have X:decide ((57:Int)<(c:Int))=false:=by simp;omega
     have Y:decide (57<c)=false:=by simp;omega
     clear h1 h2;go_wp2;go_roundg (gk-1)
     case measure=>have:=f.o;omega
     case rel=>
      have g:=f.o;have A:=R.o;have hx:=U.o;have p:=z.o;refine⟨j+1,m*10+s,by omega,by omega,by simp[wrap64];omega,?_,by rw[show j+1-6=j-6+1 by omega];exact V.o,hx,T.o⟩;congr 1;simp only[wrap64];omega
   ·have M:j=x.size:=by have:=f.o;omega
    have L:(x.data.toList.drop 6).take (j-6)=x.data.toList.drop 6:=LQ (by rw[List.length_drop,M];simp);have d:=r.o;have k:=F.o;rw[L]at k;rw[k]at d;simp only at d;have B:=nz (m:Int) (by have:=f.o;unfold eO;omega) wr (S.o.turned T.o);clear k L M;by_cases l:nameS (m:Int)=x
    ·rw[if_pos l]at d;rw[l]at B;have h:Hid (dB x=((m:Int),true)):=d;clear d l;go_wp2_with(go_fit B;rintro e w2⟨rfl,E⟩);go_ret2;exact⟨by rw[h.o];rfl,T.o.tr E⟩
    ·rw[if_neg l]at d;have af:=jp _ _ l;have h:Hid (dB x=(0,false)):=d;generalize nameS (m:Int)=y at *;clear d l;go_wp2_with(go_fit B;rintro e w2⟨rfl,E⟩);go_ret2;exact⟨by rw[h.o];rfl,T.o.tr E⟩
end Go.Proofs.YtofcogekgcgjhaaGreatDoor.Ch

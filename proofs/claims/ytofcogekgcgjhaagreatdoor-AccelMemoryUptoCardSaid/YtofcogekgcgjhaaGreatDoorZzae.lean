/- Packed. -/
import Derived.Test.YtofcogekgcgjhaaGreatDoorZzac
import Derived.Deep.RegionHeld3
import Derived.Test.YtofcogekgcgjhaaGreatDoorZzad
import GoSem.Op.String
import Derived.Lib.Hide
set_option maxRecDepth 100000
namespace Go.Proofs.YtofcogekgcgjhaaGreatDoor
open Go.RowKit Go.Mine Tryz
section
variable {P:Program} {w:World} {S:Nat->Prop} {e t tx:TypeId} {size bytes:Nat} {v x z:Value} {xs news:List Value} {n m:Nat}
theorem o5{c:Array Oper}{o:Oper}{a:Act}{K:Act->World->Prop}{g:Exit->Act->World->Prop}{E:Prop}(p:o.guard=none)(d f:Operand)(t tx:TypeId)
  (s:o.op=.call {callee:=.builtin .append,args:=#[d,f],argTypes:=#[t,tx]})
  (h:Sl w S e size v xs n) (C:P.underlying t=some (.slice e)) (r:(P.info? e).map (fun i=>(i.zero,i.size,i.bytes))=some (some z,size,bytes)) (I:z.cells.size=size) (A:0<size)
  (y:a.eval d=v) (x:Value) (hx:a.eval f=x) (B:Src P size tx x m news w) (j:n+m<=maxLen) (l:(n+m)*bytes<=140737488355328)
  (k:∀b w',Sl w' (F2 S w) e size b (xs++news) (n+m)->d7 S w w'->K (a.put o.dst b) w'):
  if Region.wanted o (yielded c a.tmps)=true then Oper.wp P o a w K g else E:=by
 have D:Region.wanted o (yielded c a.tmps)=true:=by simp[Region.wanted,p]
 rw[if_pos D];obtain⟨i,q,F,G,H⟩:=info_parts r;obtain⟨b,w',u,r1,r2⟩:=h.append C q F G H I A B j l o.type;unfold Oper.wp;simp[execOp,s,resolve,invoke,builtin,y,hx,u,Result.andThen];exact k _ _ r1 r2
end
def o9(bs:List UInt8):List Value:=bs.map fun b=>Value.int .u8 b.toNat
theorem mO(bs:List UInt8):(o9 bs).length=bs.length:=by simp[o9]
theorem dT(a b:List UInt8):o9 (a++b)=o9 a++o9 b:=by simp[o9]
def Wr(w:World)(S:Nat->Prop)(p:Nat)(bs:List UInt8):Prop:=S p∧∃(v:Value)(R:Nat->Prop),X8 w p #[v] 300∧Sl w R 5 1 v (o9 bs) bs.length∧¬R p∧(∀b,R b->S b)
theorem Wr.widen{w:World}{S T:Nat->Prop}{p:Nat}{bs:List UInt8}(h:Wr w S p bs)(a:∀b,S b->T b):Wr w T p bs:=by obtain⟨h1,v,R,h2,h3,h4,c⟩:=h;exact⟨a p h1,v,R,h2,h3,h4,fun b q=>a b (c b q)⟩
theorem Wr.turned{w w':World}{S T:Nat->Prop}{p:Nat}{bs:List UInt8}(h:Wr w S p bs)(d:d7 T w w')(c:∀b,S b->¬T b):Wr w' S p bs:=by obtain⟨h1,v,R,h2,h3,h4,a⟩:=h;exact⟨h1,v,R,h2.turned d (c p h1),h3.turned d (fun b q=>c b (a b q)),h4,a⟩
theorem info5:(prog.info? 5).map (fun i=>(i.zero,i.size,i.bytes))=some (some (.int .u8 0),1,1):=by kernel_rfl
theorem Wr.put{w e w2:World}{S R:Nat->Prop}{p:Nat}{bs a:List UInt8}{c:Value}(h:S p)(f:∀b,R b->S b)(d:¬R p)(l:p<w.heap.size)
  (i:Sl e (F2 R w) 5 1 c (o9 bs++o9 a) (bs.length+a.length)) (j:d7 S w w2) (k:d7 (· =p) e w2) (g:X8 w2 p #[c] 300):
  Wr w2 (F2 S w) p (bs++a)∧d7 S w w2:=by
 refine⟨⟨.inl h,c,F2 R w,g,?_,fun q=>q.elim d fun q=>by omega,fun b q=>q.elim (fun q=>.inl (f b q)) .inr⟩,j⟩;rw[dT,List.length_append];exact i.turned k fun b q z=>by subst z;exact q.elim d fun q=>by omega
end Go.Proofs.YtofcogekgcgjhaaGreatDoor
namespace Go.Mine.Ac
open Go.Mine
abbrev Ent:=ByteArray×Nat
abbrev mP(l:List UInt8):ByteArray:=⟨l.toArray⟩
def ei(a b:ByteArray):Bool:=Op.bytesLess a.toList b.toList
def checkT:Option ByteArray->List Ent->Nat
 |_,[]=>0
 |a,x::l=>
  if 255<x.1.size then 5
  else if x.2=0 then 1
  else match a with
   |none=>checkT (some x.1) l
   |some p=>if x.1=p then 11 else if ei x.1 p then 10 else checkT (some x.1) l
def alikeL:List UInt8->List UInt8->Nat
 |a::x,b::y=>if a=b then alikeL x y+1 else 0
 |_,_=>0
def L6(a b:ByteArray):Nat:=alikeL a.data.toList b.data.toList
def tJ(last:ByteArray)(x:Ent):List UInt8:=m9 (L6 last x.1) 1++m9 (x.1.size-L6 last x.1) 1++x.1.data.toList.drop (L6 last x.1)++m9 x.2 4
def entsB:ByteArray->List Ent->List UInt8
 |_,[]=>[]
 |last,x::l=>tJ last x++entsB x.1 l
def gL(t:List Ent):List UInt8:=m9 t.length 2++entsB ⟨#[]⟩ t
def O9(t:List Ent):Except Nat ByteArray:=if 1024<t.length then .error 5 else if checkT none t=0 then .ok (mP (gL t))else .error (checkT none t)
def ES(s:ByteArray)(st:Nat×Nat)(first:Bool)(last:ByteArray):Except Nat (Ent×(Nat×Nat)):=
 let r1:=M5 s st 1
 if r1.2.2=0∧last.size<r1.1 then .error 3
 else
  let r2:=M5 s r1.2 1
  let r3:=fo s r2.2 r2.1
  if r3.2.2≠0 then .error r3.2.2
  else
   let path:=last.extract 0 r1.1++r3.1
   if 255<path.size∨L6 last path≠r1.1∨first=false∧ei last path=false then .error 3
   else
    let a:=M5 s r3.2 4
    if a.2.2≠0 then .error a.2.2
    else if a.1=0 then .error 3 else .ok ((path,a.1),a.2)
def Cl(s:ByteArray):Nat->Bool->ByteArray->(Nat×Nat)->Except Nat (List Ent×(Nat×Nat))
 |0,_,_,st=>.ok ([],st)
 |k+1,first,last,st=>match ES s st first last with
  | .error e=>.error e
  | .ok (x,a)=>match Cl s k false x.1 a with
   | .error e=>.error e
   | .ok (l,b)=>.ok (x::l,b)
def Bg(s:ByteArray)(st:Nat×Nat):Nat:=if st.1<s.size then(if st.2=0 then 3 else st.2)else st.2
def ET(s:ByteArray):Except Nat (List Ent):=
 let c:=M5 s (0,0) 2
 if c.2.2≠0 then .error c.2.2
 else if 1024<c.1 then .error 3
 else match Cl s c.1 true ⟨#[]⟩ c.2 with
  | .error e=>.error e
  | .ok (l,st)=>if Bg s st=0 then .ok l else .error (Bg s st)
structure Cm where
 par:List Int
 tree:Int
def kP(n:Int):Prop:=0<=n∧n<65536
instance(n:Int):Decidable (kP n):=inferInstanceAs (Decidable (_∧_))
def checkP:List Int->List Int->Nat
 |_,[]=>0
 |seen,p::l=>if¬kP p then 1 else if p∈seen then 11 else checkP (seen++[p]) l
def D8(c:Cm):Nat:=if 16<c.par.length then 5 else if¬kP c.tree then 1 else checkP [] c.par
def gM(c:Cm):List UInt8:=m9 c.tree.toNat 4++m9 c.par.length 1++c.par.flatMap fun p=>m9 p.toNat 4
def U0(c:Cm):Except Nat ByteArray:=if D8 c=0 then .ok (mP (gM c))else .error (D8 c)
def tK(s:ByteArray):Nat->(Nat×Nat)->List Int×(Nat×Nat)
 |0,st=>([],st)
 |k+1,st=>(((M5 s st 4).1:Int)::(tK s k (M5 s st 4).2).1,(tK s k (M5 s st 4).2).2)
def EU(s:ByteArray):Except Nat Cm:=
 let t:=M5 s (0,0) 4
 let n:=M5 s t.2 1
 if n.2.2=0∧16<n.1 then .error 3
 else
  let r:=tK s n.1 n.2
  if Bg s r.2≠0 then .error (Bg s r.2)
  else if D8 ⟨r.1,t.1⟩=0 then .ok ⟨r.1,t.1⟩else .error 3
structure Fr where
 kind:Nat
 body:ByteArray
def EW(s:ByteArray):Nat:=Crc.sum (s.data.toList.map UInt8.toNat)
def Cn(l:List UInt8):ByteArray:=mP (l++m9 (Crc.sum (l.map UInt8.toNat)) 4)
def E8(f:Fr):ByteArray:=Cn (m9 f.kind 1++m9 f.body.size 4++f.body.data.toList)
def EY(s:ByteArray):Except Nat (Fr×Nat):=
 let k:=M5 s (0,0) 1
 if k.2.2=0∧k.1=0 then .error 3
 else
  let n:=M5 s k.2 4
  if n.2.2≠0 then .error n.2.2
  else if 1048576<n.1 then .error 3
  else
   let b:=fo s n.2 n.1
   let c:=M5 s b.2 4
   if c.2.2≠0 then .error c.2.2
   else if c.1≠EW (s.extract 0 (c.2.1-4))then .error 4
   else .ok (⟨k.1,b.1⟩,c.2.1)
theorem Bh{s:ByteArray}{f:Fr}{n:Nat}(h:EY s=.ok (f,n)):0<n∧n<=s.size:=by
 unfold EY at h;simp only[]at h;split at h
 ·simp at h
 ·split at h
  ·simp at h
  ·rename_i h2;split at h
   ·simp at h
   ·split at h
    ·simp at h
    ·rename_i h4;split at h
     ·simp at h
     ·simp only[Except.ok.injEq,Prod.mk.injEq]at h;obtain⟨-,rfl⟩:=h;obtain⟨c,a,b⟩:=tI s _ 4 (by simpa using h4);rw[b];exact⟨by simp,a⟩
def Es(s:ByteArray)(at_:Nat):List (Nat×Fr):=
 if h:at_<s.size then
  match a:EY (s.extract at_ s.size)with
  | .error _=>[]
  | .ok (f,n)=>(at_,f)::Es s (at_+n)
 else []
termination_by s.size-at_
decreasing_by
 have:=(Bh a).1;omega
end Go.Mine.Ac
namespace Go.Mine.Ac
def emp:ByteArray:=⟨#[]⟩
structure Fl where
 bytes:ByteArray
 safe:Nat
structure fC where
 gone:ByteArray
 come:ByteArray
 file:Nat
abbrev Nms:=List (ByteArray×Nat)
structure Dk where
 quota:Nat
 files:List Fl
 seen:Nms
 safe:Nms
 pend:List fC
 falls:Nat
 off:Bool
def F6(s:ByteArray):Bool:=decide (1<=s.size) && decide (s.size<=32) && s.data.toList.all fun c=>decide (33<=c) && decide (c<=126)
def findN:Nms->ByteArray->Option Nat
 | [],_=>none
 |x::l,s=>if x.1=s then some x.2 else findN l s
def changed(l:Nms)(c:fC):Nms:=(l.filter fun x=>decide (x.1≠c.gone) && decide (x.1≠c.come))++if c.come=emp then []else [(c.come,c.file)]
def Dk.step(d:Dk):Dk×Nat:=if d.falls=0 then(d,0)else if d.falls=1 then({d with falls:=0,off:=true},8)else({d with falls:=d.falls-1},0)
def Dk.change(d:Dk)(c:fC):Dk:={d with seen:=changed d.seen c,pend:=d.pend++[c]}
def Dk.file(d:Dk)(name:ByteArray):Except Nat Nat:=if d.off then .error 8 else match findN d.seen name with|none=>.error 6|some k=>.ok k
def Dk.at (d:Dk) (k:Nat):Fl:=d.files[k]?.getD ⟨emp,0⟩
def Dk.used(d:Dk):Nat:=(d.seen.map fun x=>(d.at x.2).bytes.size).sum
def Dk.setF(d:Dk)(k:Nat)(x:Fl):Dk:={d with files:=d.files.set k x}
def Dk.then (d:Dk) (f:Dk->Dk):Dk×Nat:=match d.step with|(a,0)=>(f a,0)|r=>r
def Dk.create(d:Dk)(name:ByteArray):Dk×Nat:=
 if d.off then(d,8)
 else if F6 name=false then(d,1)
 else if findN d.seen name=none∧64<=d.seen.length then(d,7)
 else d.then fun d=>Dk.change {d with files:=d.files++[⟨emp,0⟩]} ⟨emp,name,d.files.length⟩
def Dk.append(d:Dk)(name a:ByteArray):Dk×Nat:=
 match d.file name with
 | .error e=>(d,e)
 | .ok k=>if 0<a.size∧d.quota<d.used+a.size then(d,7)else d.then fun d=>d.setF k ⟨(d.at k).bytes++a,(d.at k).safe⟩
def Dk.cut(d:Dk)(name:ByteArray)(n:Int):Dk×Nat:=
 match d.file name with
 | .error e=>(d,e)
 | .ok k=>if n<0∨(d.at k).bytes.size<n then(d,1)else d.then fun d=>d.setF k ⟨(d.at k).bytes.extract 0 n.toNat,min (d.at k).safe n.toNat⟩
def Dk.sync(d:Dk)(name:ByteArray):Dk×Nat:=
 match d.file name with
 | .error e=>(d,e)
 | .ok k=>d.then fun d=>d.setF k ⟨(d.at k).bytes,(d.at k).bytes.size⟩
def Dk.syncNames(d:Dk):Dk×Nat:=if d.off then(d,8)else d.then fun d=>{d with safe:=d.seen,pend:=[]}
def Dk.rename(d:Dk)(a b:ByteArray):Dk×Nat:=
 match d.file a with
 | .error e=>(d,e)
 | .ok k=>if F6 b=false then(d,1)else d.then fun d=>if a=b then d else d.change ⟨a,b,k⟩
def Dk.remove(d:Dk)(name:ByteArray):Dk×Nat:=
 match d.file name with
 | .error e=>(d,e)
 | .ok _=>d.then fun d=>d.change ⟨name,emp,0⟩
def Dk.read(d:Dk)(name:ByteArray):ByteArray×Nat:=
 match d.file name with
 | .error e=>(emp,e)
 | .ok k=>((d.at k).bytes,0)
def en(a b:ByteArray):Bool:=decide (a.data.toList<b.data.toList)
def gZ(s:ByteArray):List ByteArray->List ByteArray
 | []=>[s]
 |x::l=>if en s x then s::x::l else x::gZ s l
def Q4(l:List ByteArray):List ByteArray:=l.foldr gZ []
def Dk.names(d:Dk):List ByteArray:=if d.off then []else Q4 (d.seen.map (·.1))
def M7(quota:Int):Option Dk:=if quota<0∨16777216<quota then none else some ⟨quota.toNat,[],[],[],[],0,false⟩
structure cM (n:Nat) (l:Nms):Prop where
 nodup:(l.map (·.1)).Nodup
 good:∀x∈l,F6 x.1=true
 file:∀x∈l,x.2<n
 fnodup:(l.map (·.2)).Nodup
 many:l.length<=64
def fI(l:Nms):List fC->List Nms
 | []=>[l]
 |c::cs=>l::fI (changed l c) cs
structure Dk.Ok (d:Dk):Prop where
 walk:∀l∈fI d.safe d.pend,cM d.files.length l
 last:d.pend.foldl changed d.safe=d.seen
 safe:∀x∈d.files,x.safe<=x.bytes.size
 small:∀x∈d.files,x.bytes.size<=d.quota
 quota:d.quota<=16777216
 fall:d.falls<=9223372036854775807
theorem eM(p:ByteArray×Nat->Bool)(q:ByteArray->Bool)(b:∀x,p x=q x.1):∀(l:Nms)(s:ByteArray),findN (l.filter p) s=if q s then findN l s else none
 | [],s=>by simp[findN]
 |x::l,s=>by
  rw[List.filter_cons];by_cases hx:p x=true
  ·rw[if_pos hx,findN,findN,eM p q b l s];by_cases a:x.1=s
   ·subst a;rw[b]at hx;simp[hx]
   ·simp[a]
  ·rw[if_neg hx,findN,eM p q b l s];by_cases a:x.1=s
   ·subst a;rw[b]at hx;simp[hx]
   ·simp[a]
theorem nr(s:ByteArray):∀(l m:Nms),findN (l++m) s=match findN l s with|some k=>some k|none=>findN m s
 | [],m=>rfl
 |x::l,m=>by
  rw[List.cons_append,findN,findN];split
  ·rfl
  ·exact nr s l m
theorem hH{s:ByteArray}:∀{l:Nms},findN l s=none↔s ∉ l.map (·.1)
 | []=>by simp[findN]
 |x::l=>by
  rw[findN,List.map_cons,List.mem_cons];by_cases h:x.1=s
  ·simp[h]
  ·rw[if_neg h,hH];constructor
   ·exact fun q z=>z.elim (fun z=>h z.symm) q
   ·exact fun q z=>q (.inr z)
theorem S8{s:ByteArray}{k:Nat}:∀{l:Nms},findN l s=some k->(s,k)∈l
 | [],h=>by simp[findN]at h
 |x::l,h=>by
  rw[findN]at h;split at h
  ·rename_i hx;have:=Option.some.inj h;subst hx;subst this;exact List.mem_cons_self ..
  ·exact LP _ (S8 h)
theorem cN{s:ByteArray}{k:Nat}:∀{l:Nms},(l.map (·.1)).Nodup->(s,k)∈l->findN l s=some k
 | [],_,h=>by simp at h
 |x::l,hn,h=>by
  rw[List.map_cons,List.nodup_cons]at hn;rw[findN];rcases List.mem_cons.1 h with rfl|h
  ·simp
  ·rw[if_neg,cN hn.2 h];intro q;exact hn.1 (q▸List.mem_map.2 ⟨_,h,rfl⟩)
theorem fJ{s:ByteArray}(h:F6 s=true):s≠emp:=by rintro rfl;exact absurd h (by decide)
theorem gN{l:Nms}(c:fC)(h:(l.map (·.1)).Nodup):((changed l c).map (·.1)).Nodup:=by
 unfold changed;rw[List.map_append];have h1:((l.filter fun x=>decide (x.1≠c.gone) && decide (x.1≠c.come)).map (·.1)).Nodup:=h.sublist ((List.filter_sublist).map _);split
 ·simpa using h1
 ·rw[List.nodup_append];refine⟨h1,by simp,?_⟩;intro a e b d;simp only[List.map_cons,List.map_nil,List.mem_singleton]at d;subst d;obtain⟨x,hx,rfl⟩:=List.mem_map.1 e;have:=(List.mem_filter.1 hx).2;simp at this;exact this.2
theorem tL(c:fC)(s:ByteArray):findN (if c.come=emp then []else [(c.come,c.file)]) s=if s=c.come then(if c.come=emp then none else some c.file)else none:=by
 by_cases h:c.come=emp
 ·rw[if_pos h,if_pos h];simp[findN]
 ·rw[if_neg h,if_neg h,findN,findN];by_cases a:c.come=s
  ·rw[if_pos a,if_pos a.symm]
  ·rw[if_neg a,if_neg fun q=>a q.symm]
theorem mQ(l:Nms)(c:fC)(s:ByteArray):findN (changed l c) s=if s=c.come then(if c.come=emp then none else some c.file)else if s=c.gone then none else findN l s:=by
 unfold changed;rw[nr,eM _ (fun x=>decide (x≠c.gone) && decide (x≠c.come)) (fun x=>rfl),tL];by_cases h1:s=c.come
 ·rw[if_pos h1,if_pos h1];simp[h1]
 ·rw[if_neg h1,if_neg h1];by_cases h2:s=c.gone
  ·rw[if_pos h2];simp[h2]
  ·rw[if_neg h2];simp only[ne_eq,h1,h2,not_false_eq_true,decide_true,Bool.and_true,if_true];cases findN l s<;>rfl
theorem fK{l:Nms}{c:fC}{x:ByteArray×Nat}(h:x∈changed l c):(x∈l∧x.1≠c.gone∧x.1≠c.come)∨(c.come≠emp∧x=(c.come,c.file)):=by
 unfold changed at h;rcases List.mem_append.1 h with h|h
 ·have:=List.mem_filter.1 h;exact .inl ⟨this.1,by simpa using this.2⟩
 ·split at h
  ·simp at h
  ·rename_i q;exact .inr ⟨q,by simpa using h⟩
end Go.Mine.Ac
namespace Go.Proofs.YtofcogekgcgjhaaGreatDoor
open Go.RowKit Go.Mine Go.Mine.Ac Tryz
abbrev KStr:Value->Prop:=MapKept.IsKey .string
theorem zd(s:ByteArray):KStr (.string s):=trivial
theorem keyStr:dH prog 9 KStr:=jP underlying9
theorem Bi(w:World):(zeroValue 153).run prog w=.ok (.pointer none) w:=by kernel_rfl
def P4(F:Nat->Nat)(l:Nms):Value->Option Value
 | .string s=>(findN l s).map fun k=>pt (F k)
 |_=>none
def J5(F:Nat->Nat)(c:fC):List Value:=[.string (if c.gone=emp then c.come else c.gone),.string c.come,if c.come=emp then .pointer none else pt (F c.file)]
def dh(F:Nat->Nat)(l:List fC):List Value:=l.flatMap (J5 F)
def mR(D:Dk)(k:Nat):Prop:=(∃x∈D.seen,x.2=k)∨(∃x∈D.safe,x.2=k)∨∃c∈D.pend,c.come≠emp∧c.file=k
def I5(w:World)(a:Nat->Nat)(F:Nat->Nat)(k:Nat)(x:Fl):Prop:=a (F k)=5+2*k∧∃bv,X8 w (F k) #[.int .i64 k,bv,.int .i64 x.safe] 157∧Sl w (fun b=>a b=6+2*k) 5 1 bv (o9 x.bytes.data.toList) x.bytes.size
structure qz (w:World) (rl:Nat->Nat) (d ms mf:Nat) (pv:Value) (F:Nat->Nat) (D:Dk) (n:Nat):Prop where
 r1:rl d=1
 r2:rl ms=2
 r3:rl mf=3
 blk:X8 w d #[.int .i64 D.quota,.int .i64 n,.map (some ms),.map (some mf),pv,.int .i64 D.falls,.bool D.off] 148
 seen:z8 KStr w ms (P4 F D.seen) D.seen.length
 safe:z8 KStr w mf (P4 F D.safe) D.safe.length
 pend:Sl w (fun b=>rl b=4) 159 3 pv (dh F D.pend) D.pend.length
 file:∀k,mR D k->∃x,D.files[k]?=some x∧I5 w rl F k x
 bnd:∀b,rl b≠0->b<w.heap.size
 bs:D7 w ms
 bf:D7 w mf
abbrev p9(w:World)(e:Nat->Nat)(d b a:Nat)(c:Value)(F:Nat->Nat)(D:Dk):Prop:=qz w e d b a c F D D.files.length
theorem I5.turned{w w':World}{T:Nat->Prop}{a F:Nat->Nat}{k:Nat}{x:Fl}(h:I5 w a F k x)(d:d7 T w w')(c:∀b,a b=5+2*k∨a b=6+2*k->¬T b):I5 w' a F k x:=by obtain⟨h1,bv,h2,h3⟩:=h;exact⟨h1,bv,(d.block _ (i6 h2) (c _ (.inl h1))).trans h2,h3.turned d fun b e=>c b (.inr e)⟩
theorem qz.turned{w w':World}{T:Nat->Prop}{f:Nat->Nat}{d i g:Nat}{j:Value}{F:Nat->Nat}{D:Dk}{n:Nat}(h:qz w f d i g j F D n)(a:d7 T w w')(c:∀b,f b≠0->¬T b):qz w' f d i g j F D n:=
 ⟨h.r1,h.r2,h.r3,(a.block _ (i6 h.blk) (c _ (by rw[h.r1];decide))).trans h.blk,
  h.seen.congr (a.block _ h.seen.lt (c _ (by rw[h.r2];decide))) fun _=>rfl,h.safe.congr (a.block _ h.safe.lt (c _ (by rw[h.r3];decide))) fun _=>rfl,
  h.pend.turned a fun b e=>c b (by omega),fun k l=>by obtain⟨x,h1,h2⟩:=h.file k l;exact⟨x,h1,h2.turned a fun b e=>c b (by omega)⟩,fun b e=>LC (h.bnd b e) a.size,
  h.bs.congr (a.block _ h.seen.lt (c _ (by rw[h.r2];decide))),h.bf.congr (a.block _ h.safe.lt (c _ (by rw[h.r3];decide)))⟩
def J0(w:World)(S:Nat->Prop)(d:Nat)(D:Dk):Prop:=∃a e c f F,p9 w a d e c f F D∧∀b,a b≠0->S b
theorem J0.turned{w w':World}{S T:Nat->Prop}{d:Nat}{D:Dk}(h:J0 w S d D)(e:d7 T w w')(a:∀b,S b->¬T b):J0 w' S d D:=by obtain⟨j,g,f,i,F,h1,h2⟩:=h;exact⟨j,g,f,i,F,h1.turned e fun b c=>a b (h2 b c),h2⟩
theorem J0.widen{w:World}{S T:Nat->Prop}{d:Nat}{D:Dk}(h:J0 w S d D)(c:∀b,b<w.heap.size->S b->T b):J0 w T d D:=by obtain⟨i,f,e,g,F,h1,h2⟩:=h;exact⟨i,f,e,g,F,h1,fun b a=>c b (h1.bnd b a) (h2 b a)⟩
def ns(F:Nat->Nat):Except Nat Nat->Value
 | .error k=>.tuple #[.pointer none,.int .i64 k]
 | .ok k=>.tuple #[pt (F k),.int .i64 0]
theorem X3{w:World}{r:Nat->Nat}{d p n:Nat}{q:Value}{F:Nat->Nat}{D:Dk}(h:p9 w r d p n q F D)(name:ByteArray):
  CZ 88 #[pt d,.string name] w fun e w'=>e=.returned (ns F (D.file name))∧w=w':=by
 have s:=g9 h.blk 2 _ rfl;have l:=g9 h.blk 6 _ rfl;have f:=h.seen.look_ok (P:=prog) keyStr underlying145 (Bi w) (zd name);have m:P4 F D.seen (.string name)=(findN D.seen name).map fun k=>pt (F k):=rfl
 rw[m]at f;clear m;obtain⟨R,j⟩:=EX (ns F (D.file name));have i:Hid (R=ns F (D.file name)):=j;rw[<-j];clear j h;cases b:D.off with
 |true=>have c:Hid (D.off=true):=b;rw[b]at l;clear b f;go_enter func88,ntmps88;go_wp2;go_ret2;exact⟨by rw[i.o];simp[Dk.file,c.o,ns],rfl⟩
 |false=>
  have c:Hid (D.off=false):=b;rw[b]at l;clear b;cases a:findN D.seen name with
  |none=>have g:Hid (findN D.seen name=none):=a;rw[a]at f;clear a;go_enter func88,ntmps88;go_wp2;go_ret2;exact⟨by rw[i.o];simp[Dk.file,c.o,g.o,ns],rfl⟩
  |some k=>have g:Hid (findN D.seen name=some k):=a;rw[a]at f;clear a;go_enter func88,ntmps88;go_wp2;go_ret2;exact⟨by rw[i.o];simp[Dk.file,c.o,g.o,ns],rfl⟩
end Go.Proofs.YtofcogekgcgjhaaGreatDoor

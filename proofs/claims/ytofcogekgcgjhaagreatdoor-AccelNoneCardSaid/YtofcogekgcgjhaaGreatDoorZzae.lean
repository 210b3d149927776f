/- Packed. -/
import Derived.Test.YtofcogekgcgjhaaGreatDoorZzac
import Derived.Deep.RegionHeld3
import Derived.Test.YtofcogekgcgjhaaGreatDoorZzad
import GoSem.Op.String
import Derived.Lib.Hide
set_option linter.unusedVariables false
set_option linter.unusedSimpArgs false
set_option maxRecDepth 100000
namespace Go.Proofs.YtofcogekgcgjhaaGreatDoor
open Go.RowKit Go.Mine
section
variable {P:Program} {w:World} {S:Nat→Prop} {e t tx:TypeId} {size bytes:Nat} {v x z:Value} {xs news:List Value} {n m:Nat}
theorem step_append {ops:Array Oper} {o:Oper} {a:Act} {K:Act→World→Prop} {Q:Exit→Act→World→Prop} {E:Prop} (hgd:o.guard=none) (so xo:Operand) (t tx:TypeId)
  (ho:o.op = .call { callee:=.builtin .append,args:=#[so,xo],argTypes:=#[t,tx] })
  (h:Sl w S e size v xs n) (ht:P.underlying t=some (.slice e)) (hinf:(P.info? e).map (fun i=>(i.zero,i.size,i.bytes))=some (some z,size,bytes)) (hzs:z.cells.size=size) (hs0:0<size)
  (hs:a.eval so=v) (x:Value) (hx:a.eval xo=x) (hsrc:Src P size tx x m news w) (h63:n+m≤maxLen) (hbytes:(n+m) * bytes≤140737488355328)
  (hK:∀ v' w',Sl w' (More S w) e size v' (xs ++ news) (n+m)→Turned S w w'→K (a.put o.dst v') w') :
  if Region.wanted o (yielded ops a.tmps)=true then Oper.wp P o a w K Q else E:=by
 have hw:Region.wanted o (yielded ops a.tmps)=true:=by simp [Region.wanted,hgd]
 rw [if_pos hw]
 obtain ⟨i,hi,hz0,hz1,hz2⟩:=info_parts hinf
 obtain ⟨v',w',hrun,r1,r2⟩:=h.append ht hi hz0 hz1 hz2 hzs hs0 hsrc h63 hbytes o.type
 unfold Oper.wp
 simp [execOp,ho,resolve,invoke,builtin,hs,hx,hrun,Result.andThen]
 exact hK _ _ r1 r2
end
def bcells (bs:List UInt8):List Value:=bs.map fun b=>Value.int .u8 (b.toNat:Nat)
theorem bcells_length (bs:List UInt8):(bcells bs).length=bs.length:=by simp [bcells]
theorem bcells_append (a b:List UInt8):bcells (a ++ b)=bcells a ++ bcells b:=by simp [bcells]
def Wr (w:World) (S:Nat→Prop) (p:Nat) (bs:List UInt8):Prop:=
 S p∧∃ (v:Value) (R:Nat→Prop),Blk w p #[v] 300∧Sl w R 5 1 v (bcells bs) bs.length∧¬ R p∧(∀ b,R b→S b)
theorem Wr.widen {w:World} {S T:Nat→Prop} {p:Nat} {bs:List UInt8} (h:Wr w S p bs) (hS:∀ b,S b→T b):Wr w T p bs:=by
 obtain ⟨h1,v,R,h2,h3,h4,h5⟩:=h
 exact ⟨hS p h1,v,R,h2,h3,h4,fun b q=>hS b (h5 b q)⟩
theorem Wr.turned {w w' : World} {S T:Nat→Prop} {p:Nat} {bs:List UInt8} (h:Wr w S p bs) (ht:Turned T w w') (hS:∀ b,S b→¬ T b):Wr w' S p bs:=by
 obtain ⟨h1,v,R,h2,h3,h4,h5⟩:=h
 exact ⟨h1,v,R,h2.turned ht (hS p h1),h3.turned ht (fun b q=>hS b (h5 b q)),h4,h5⟩
theorem info5:(Tryz.prog.info? 5).map (fun i=>(i.zero,i.size,i.bytes))=some (some (.int .u8 0),1,1):=by kernel_rfl
theorem Wr.put {w w1 w2:World} {S R:Nat→Prop} {p:Nat} {bs cs:List UInt8} {v' : Value} (hp:S p) (hR:∀ b,R b→S b) (hpR:¬ R p) (hlt:p<w.heap.size)
  (hsl:Sl w1 (More R w) 5 1 v' (bcells bs ++ bcells cs) (bs.length+cs.length)) (ht:Turned S w w2) (ht2:Turned (· = p) w1 w2) (hc:Blk w2 p #[v'] 300) :
  Wr w2 (More S w) p (bs ++ cs)∧Turned S w w2:=by
 refine ⟨⟨.inl hp,v',More R w,hc,?_,fun q=>q.elim hpR fun q=>by omega,fun b q=>q.elim (fun q=>.inl (hR b q)) .inr⟩,ht⟩
 rw [bcells_append,List.length_append]
 exact hsl.turned ht2 fun b q z=>by subst z;exact q.elim hpR fun q=>by omega
end Go.Proofs.YtofcogekgcgjhaaGreatDoor
namespace Go.Mine.Ac
open Go.Mine
abbrev Ent:=ByteArray×Nat
abbrev bya (l:List UInt8):ByteArray:=⟨l.toArray⟩
def ltB (a b:ByteArray):Bool:=Op.bytesLess a.toList b.toList
/-! ### Trees -/
def checkT:Option ByteArray→List Ent→Nat
 |_,[]=>0
 |prev,x :: l=>
  if 255<x.1.size then 5
  else if x.2=0 then 1
  else match prev with
   |none=>checkT (some x.1) l
   |some p=>if x.1=p then 11 else if ltB x.1 p then 10 else checkT (some x.1) l
def alikeL:List UInt8→List UInt8→Nat
 |a :: x,b :: y=>if a=b then alikeL x y+1 else 0
 |_,_=>0
def alike (a b:ByteArray):Nat:=alikeL a.data.toList b.data.toList
def entB (last:ByteArray) (x:Ent):List UInt8:=
 num (alike last x.1) 1 ++ num (x.1.size - alike last x.1) 1 ++ x.1.data.toList.drop (alike last x.1) ++ num x.2 4
def entsB:ByteArray→List Ent→List UInt8
 |_,[]=>[]
 |last,x :: l=>entB last x ++ entsB x.1 l
def toldT (t:List Ent):List UInt8:=num t.length 2 ++ entsB ⟨#[]⟩ t
def encT (t:List Ent):Except Nat ByteArray:=
 if 1024<t.length then .error 5 else if checkT none t=0 then .ok (bya (toldT t)) else .error (checkT none t)
def entR (s:ByteArray) (st:Nat×Nat) (first:Bool) (last:ByteArray):Except Nat (Ent×(Nat×Nat)):=
 let r1:=rdNum s st 1
 if r1.2.2=0∧last.size<r1.1 then .error 3
 else
  let r2:=rdNum s r1.2 1
  let r3:=rdRaw s r2.2 r2.1
  if r3.2.2≠0 then .error r3.2.2
  else
   let path:=last.extract 0 r1.1 ++ r3.1
   if 255<path.size∨alike last path≠r1.1∨first=false∧ltB last path=false then .error 3
   else
    let r4:=rdNum s r3.2 4
    if r4.2.2≠0 then .error r4.2.2
    else if r4.1=0 then .error 3 else .ok ((path,r4.1),r4.2)
def entsR (s:ByteArray):Nat→Bool→ByteArray→(Nat×Nat)→Except Nat (List Ent×(Nat×Nat))
 |0,_,_,st=>.ok ([],st)
 |k+1,first,last,st=>match entR s st first last with
  | .error e=>.error e
  | .ok (x,st1)=>match entsR s k false x.1 st1 with
   | .error e=>.error e
   | .ok (l,st2)=>.ok (x :: l,st2)
def endR (s:ByteArray) (st:Nat×Nat):Nat:=if st.1<s.size then (if st.2=0 then 3 else st.2) else st.2
def decT (s:ByteArray):Except Nat (List Ent):=
 let c:=rdNum s (0,0) 2
 if c.2.2≠0 then .error c.2.2
 else if 1024<c.1 then .error 3
 else match entsR s c.1 true ⟨#[]⟩ c.2 with
  | .error e=>.error e
  | .ok (l,st)=>if endR s st=0 then .ok l else .error (endR s st)
/-! ### Commits -/
structure Cm where
 par:List Int
 tree:Int
def inR (n:Int):Prop:=0≤n∧n<65536
instance (n:Int):Decidable (inR n):=inferInstanceAs (Decidable (_∧_))
def checkP:List Int→List Int→Nat
 |_,[]=>0
 |seen,p :: l=>if ¬ inR p then 1 else if p∈seen then 11 else checkP (seen ++ [p]) l
def checkC (c:Cm):Nat:=if 16<c.par.length then 5 else if ¬ inR c.tree then 1 else checkP [] c.par
def toldC (c:Cm):List UInt8:=num c.tree.toNat 4 ++ num c.par.length 1 ++ c.par.flatMap fun p=>num p.toNat 4
def encC (c:Cm):Except Nat ByteArray:=if checkC c=0 then .ok (bya (toldC c)) else .error (checkC c)
def rdMany (s:ByteArray):Nat→(Nat×Nat)→List Int×(Nat×Nat)
 |0,st=>([],st)
 |k+1,st=>(((rdNum s st 4).1:Int) :: (rdMany s k (rdNum s st 4).2).1,(rdMany s k (rdNum s st 4).2).2)
def decC (s:ByteArray):Except Nat Cm:=
 let t:=rdNum s (0,0) 4
 let n:=rdNum s t.2 1
 if n.2.2=0∧16<n.1 then .error 3
 else
  let r:=rdMany s n.1 n.2
  if endR s r.2≠0 then .error (endR s r.2)
  else if checkC ⟨r.1,t.1⟩=0 then .ok ⟨r.1,t.1⟩ else .error 3
/-! ### Records -/
structure Fr where
 kind:Nat
 body:ByteArray
def sumB (s:ByteArray):Nat:=Crc.sum (s.data.toList.map UInt8.toNat)
def sealB (l:List UInt8):ByteArray:=bya (l ++ num (Crc.sum (l.map UInt8.toNat)) 4)
def toldF (f:Fr):ByteArray:=sealB (num f.kind 1 ++ num f.body.size 4 ++ f.body.data.toList)
def frR (s:ByteArray):Except Nat (Fr×Nat):=
 let k:=rdNum s (0,0) 1
 if k.2.2=0∧k.1=0 then .error 3
 else
  let n:=rdNum s k.2 4
  if n.2.2≠0 then .error n.2.2
  else if 1048576<n.1 then .error 3
  else
   let b:=rdRaw s n.2 n.1
   let c:=rdNum s b.2 4
   if c.2.2≠0 then .error c.2.2
   else if c.1≠sumB (s.extract 0 (c.2.1 - 4)) then .error 4
   else .ok (⟨k.1,b.1⟩,c.2.1)
theorem frR_pos {s:ByteArray} {f:Fr} {n:Nat} (h:frR s = .ok (f,n)):0<n∧n≤s.size:=by
 unfold frR at h
 simp only []at h
 split at h
 ·simp at h
 ·split at h
  ·simp at h
  ·rename_i h2
   split at h
   ·simp at h
   ·split at h
    ·simp at h
    ·rename_i h4
     split at h
     ·simp at h
     ·simp only [Except.ok.injEq, Prod.mk.injEq] at h
      obtain ⟨-,rfl⟩:=h
      obtain ⟨a1,a2,a3⟩:=rdNum_next s _ 4 (by simpa using h4)
      rw [a3]
      exact ⟨by simp,a2⟩
def frsR (s:ByteArray) (at_:Nat):List (Nat×Fr):=
 if h:at_<s.size then
  match hr:frR (s.extract at_ s.size) with
  | .error _=>[]
  | .ok (f,n)=>(at_,f) :: frsR s (at_+n)
 else []
termination_by s.size - at_
decreasing_by
 have:=(frR_pos hr).1
 omega
end Go.Mine.Ac
namespace Go.Mine.Ac
def emp:ByteArray:=⟨#[]⟩
structure Fl where
 bytes:ByteArray
 safe:Nat
structure Chg where
 gone:ByteArray
 come:ByteArray
 file:Nat
abbrev Nms:=List (ByteArray×Nat)
structure Dk where
 quota:Nat
 files:List Fl
 seen:Nms
 safe:Nms
 pend:List Chg
 falls:Nat
 off:Bool
def goodName (s:ByteArray):Bool:=decide (1≤s.size) && decide (s.size≤32) && s.data.toList.all fun c=>decide (33≤c) && decide (c≤126)
def findN:Nms→ByteArray→Option Nat
 | [],_=>none
 |x :: l,s=>if x.1=s then some x.2 else findN l s
def changed (l:Nms) (c:Chg):Nms:=(l.filter fun x=>decide (x.1≠c.gone) && decide (x.1≠c.come)) ++ if c.come=emp then [] else [(c.come,c.file)]
def Dk.step (d:Dk):Dk×Nat:=if d.falls=0 then (d,0) else if d.falls=1 then ({ d with falls:=0,off:=true },8) else ({ d with falls:=d.falls - 1 },0)
def Dk.change (d:Dk) (c:Chg):Dk:={ d with seen:=changed d.seen c,pend:=d.pend ++ [c] }
def Dk.file (d:Dk) (name:ByteArray):Except Nat Nat:=if d.off then .error 8 else match findN d.seen name with|none=>.error 6|some k=>.ok k
def Dk.at (d:Dk) (k:Nat):Fl:=d.files[k]?.getD ⟨emp,0⟩
def Dk.used (d:Dk):Nat:=(d.seen.map fun x=>(d.at x.2).bytes.size).sum
def Dk.setF (d:Dk) (k:Nat) (x:Fl):Dk:={ d with files:=d.files.set k x }
def Dk.then (d:Dk) (f:Dk→Dk):Dk×Nat:=match d.step with|(d',0)=>(f d',0)|r=>r
def Dk.create (d:Dk) (name:ByteArray):Dk×Nat:=
 if d.off then (d,8)
 else if goodName name=false then (d,1)
 else if findN d.seen name=none∧64≤d.seen.length then (d,7)
 else d.then fun d=>Dk.change { d with files:=d.files ++ [⟨emp,0⟩] } ⟨emp,name,d.files.length⟩
def Dk.append (d:Dk) (name text:ByteArray):Dk×Nat:=
 match d.file name with
 | .error e=>(d,e)
 | .ok k=>if 0<text.size∧d.quota<d.used+text.size then (d,7) else d.then fun d=>d.setF k ⟨(d.at k).bytes ++ text,(d.at k).safe⟩
def Dk.cut (d:Dk) (name:ByteArray) (n:Int):Dk×Nat:=
 match d.file name with
 | .error e=>(d,e)
 | .ok k=>if n<0∨(d.at k).bytes.size<n then (d,1) else d.then fun d=>d.setF k ⟨(d.at k).bytes.extract 0 n.toNat,min (d.at k).safe n.toNat⟩
def Dk.sync (d:Dk) (name:ByteArray):Dk×Nat:=
 match d.file name with
 | .error e=>(d,e)
 | .ok k=>d.then fun d=>d.setF k ⟨(d.at k).bytes,(d.at k).bytes.size⟩
def Dk.syncNames (d:Dk):Dk×Nat:=
 if d.off then (d,8) else d.then fun d=>{ d with safe:=d.seen,pend:=[] }
def Dk.rename (d:Dk) (a b:ByteArray):Dk×Nat:=
 match d.file a with
 | .error e=>(d,e)
 | .ok k=>if goodName b=false then (d,1) else d.then fun d=>if a=b then d else d.change ⟨a,b,k⟩
def Dk.remove (d:Dk) (name:ByteArray):Dk×Nat:=
 match d.file name with
 | .error e=>(d,e)
 | .ok _=>d.then fun d=>d.change ⟨name,emp,0⟩
def Dk.read (d:Dk) (name:ByteArray):ByteArray×Nat:=
 match d.file name with
 | .error e=>(emp,e)
 | .ok k=>((d.at k).bytes,0)
def Dk.fall (d:Dk) (n:Int):Dk:={ d with falls:=n.toNat }
def lexLt (a b:ByteArray):Bool:=decide (a.data.toList<b.data.toList)
def insN (s:ByteArray):List ByteArray→List ByteArray
 | []=>[s]
 |x :: l=>if lexLt s x then s :: x :: l else x :: insN s l
def sortN (l:List ByteArray):List ByteArray:=l.foldr insN []
def Dk.names (d:Dk):List ByteArray:=if d.off then [] else sortN (d.seen.map (·.1))
def newDk (quota:Int):Option Dk:=if quota<0∨16777216<quota then none else some ⟨quota.toNat,[],[],[],[],0,false⟩
/-! ### What stays -/
structure NmsOk (n:Nat) (l:Nms):Prop where
 nodup:(l.map (·.1)).Nodup
 good:∀ x∈l,goodName x.1=true
 file:∀ x∈l,x.2<n
 fnodup:(l.map (·.2)).Nodup
 many:l.length≤64
def walkN (l:Nms):List Chg→List Nms
 | []=>[l]
 |c :: cs=>l :: walkN (changed l c) cs
structure Dk.Ok (d:Dk):Prop where
 walk:∀ l∈walkN d.safe d.pend,NmsOk d.files.length l
 last:d.pend.foldl changed d.safe=d.seen
 safe:∀ x∈d.files,x.safe≤x.bytes.size
 small:∀ x∈d.files,x.bytes.size≤d.quota
 quota:d.quota≤16777216
 fall:d.falls≤9223372036854775807
end Go.Mine.Ac
namespace Go.Mine.Ac
open Go.Mine
def logB:ByteArray:=⟨#[108,111,103]⟩
structure St where
 trees:List (List Ent)
 commits:List Cm
 dead:Bool
def knownS (s:St) (c:Cm):Bool:=decide (c.tree<s.trees.length) && c.par.all fun p=>decide (p<s.commits.length)
def standS (s:St) (f:Fr):Option St:=
 if f.kind=1 then match decT f.body with
  | .error _=>none
  | .ok t=>if 65536≤s.trees.length then none else some { s with trees:=s.trees ++ [t] }
 else if f.kind=2 then match decC f.body with
  | .error _=>none
  | .ok c=>if knownS s c=false∨65536≤s.commits.length then none else some { s with commits:=s.commits ++ [c] }
 else none
def standsS:St→Nat→List (Nat×Fr)→St×Nat
 |s,e,[]=>(s,e)
 |s,e,x :: l=>match standS s x.2 with
  |none=>(s,e)
  |some s'=>standsS s' (x.1+x.2.body.size+9) l
def noSt:St:=⟨[],[],false⟩
def openS (d:Dk):Dk×Except Nat St:=
 match d.read logB with
 |(_,6)=>match d.create logB with
  |(d1,0)=>match d1.syncNames with
   |(d2,0)=>(d2,.ok noSt)
   |(d2,e)=>(d2,.error e)
  |(d1,e)=>(d1,.error e)
 | (text, 0) =>
  let r:=standsS noSt 0 (frsR text 0)
  match (if r.2=text.size then (d,0) else d.cut logB r.2) with
  |(d1,0)=>match d1.sync logB with
   |(d2,0)=>match d2.syncNames with
    |(d3,0)=>(d3,.ok r.1)
    |(d3,e)=>(d3,.error e)
   |(d2,e)=>(d2,.error e)
  |(d1,e)=>(d1,.error e)
 |(_,e)=>(d,.error e)
def writeS (d:Dk) (s:St) (kind:Nat) (body:ByteArray):Dk×St×Nat:=
 match d.append logB (toldF ⟨kind,body⟩) with
 |(d1,0)=>match d1.sync logB with
  |(d2,e)=>(d2,{ s with dead:=decide (e=8) },e)
 |(d1,e)=>(d1,{ s with dead:=decide (e=8) },e)
def addTree (d:Dk) (s:St) (t:List Ent):Dk×St×Int×Nat:=
 if s.dead then (d,s,0,8)
 else match encT t with
  | .error e=>(d,s,0,e)
  | .ok body=>if 65536≤s.trees.length then (d,s,0,7)
   else match writeS d s 1 body with
    |(d1,s1,0)=>(d1,{ s1 with trees:=s1.trees ++ [t] },s1.trees.length,0)
    |(d1,s1,e)=>(d1,s1,0,e)
def addCommit (d:Dk) (s:St) (c:Cm):Dk×St×Int×Nat:=
 if s.dead then (d,s,0,8)
 else match encC c with
  | .error e=>(d,s,0,e)
  | .ok body=>if knownS s c=false then (d,s,0,9)
   else if 65536≤s.commits.length then (d,s,0,7)
   else match writeS d s 2 body with
    |(d1,s1,0)=>(d1,{ s1 with commits:=s1.commits ++ [c] },s1.commits.length,0)
    |(d1,s1,e)=>(d1,s1,0,e)
def treeS (s:St) (n:Int):List Ent×Nat:=if n<0 then ([],9) else match s.trees[n.toNat]? with|none=>([],9)|some t=>(t,0)
def commitS (s:St) (n:Int):Cm×Nat:=if n<0 then (⟨[],0⟩,9) else match s.commits[n.toNat]? with|none=>(⟨[],0⟩,9)|some c=>(c,0)
end Go.Mine.Ac
namespace Go.Mine.Ac
theorem findN_filter (p:ByteArray×Nat→Bool) (q:ByteArray→Bool) (hp:∀ x,p x=q x.1):∀ (l:Nms) (s:ByteArray),findN (l.filter p) s=if q s then findN l s else none
 | [],s=>by simp [findN]
 |x :: l,s=>by
  rw [List.filter_cons]
  by_cases hx:p x=true
  ·rw [if_pos hx, findN, findN, findN_filter p q hp l s]
   by_cases hs:x.1=s
   ·subst hs
    rw [hp]at hx
    simp [hx]
   ·simp [hs]
  ·rw [if_neg hx, findN, findN_filter p q hp l s]
   by_cases hs:x.1=s
   ·subst hs
    rw [hp]at hx
    simp [hx]
   ·simp [hs]
theorem findN_app (s:ByteArray):∀ (l m:Nms),findN (l ++ m) s=match findN l s with|some k=>some k|none=>findN m s
 | [],m=>rfl
 |x :: l,m=>by
  rw [List.cons_append,findN,findN]
  split
  ·rfl
  ·exact findN_app s l m
theorem findN_none {s:ByteArray}:∀ {l:Nms},findN l s=none↔s ∉ l.map (·.1)
 | []=>by simp [findN]
 |x :: l=>by
  rw [findN,List.map_cons,List.mem_cons]
  by_cases h:x.1=s
  ·simp [h]
  ·rw [if_neg h, findN_none]
   constructor
   ·exact fun q z=>z.elim (fun z=>h z.symm) q
   ·exact fun q z=>q (.inr z)
theorem findN_mem {s:ByteArray} {k:Nat}:∀ {l:Nms},findN l s=some k→(s,k)∈l
 | [],h=>by simp [findN]at h
 |x :: l,h=>by
  rw [findN]at h
  split at h
  ·rename_i hx
   have:=Option.some.inj h
   subst hx;subst this
   exact List.mem_cons_self ..
  ·exact List.mem_cons_of_mem _ (findN_mem h)
theorem findN_of_mem {s:ByteArray} {k:Nat}:∀ {l:Nms},(l.map (·.1)).Nodup→(s,k)∈l→findN l s=some k
 | [],_,h=>by simp at h
 |x :: l,hn,h=>by
  rw [List.map_cons,List.nodup_cons]at hn
  rw [findN]
  rcases List.mem_cons.1 h with rfl|h
  ·simp
  ·rw [if_neg, findN_of_mem hn.2 h]
   intro q
   exact hn.1 (q ▸ List.mem_map.2 ⟨_,h,rfl⟩)
theorem goodName_ne {s:ByteArray} (h:goodName s=true):s≠emp:=by
 rintro rfl
 exact absurd h (by decide)
theorem changed_nodup {l:Nms} (c:Chg) (h:(l.map (·.1)).Nodup):((changed l c).map (·.1)).Nodup:=by
 unfold changed
 rw [List.map_append]
 have h1:((l.filter fun x=>decide (x.1≠c.gone) && decide (x.1≠c.come)).map (·.1)).Nodup:=h.sublist ((List.filter_sublist).map _)
 split
 ·simpa using h1
 ·rw [List.nodup_append]
  refine ⟨h1,by simp,?_⟩
  intro a ha b hb
  simp only [List.map_cons,List.map_nil,List.mem_singleton]at hb
  subst hb
  obtain ⟨x,hx,rfl⟩:=List.mem_map.1 ha
  have:=(List.mem_filter.1 hx).2
  simp at this
  exact this.2
theorem findN_last (c:Chg) (s:ByteArray):findN (if c.come=emp then [] else [(c.come,c.file)]) s=if s=c.come then (if c.come=emp then none else some c.file) else none:=by
 by_cases h:c.come=emp
 ·rw [if_pos h, if_pos h]
  simp [findN]
 ·rw [if_neg h, if_neg h, findN, findN]
  by_cases hs:c.come=s
  ·rw [if_pos hs,if_pos hs.symm]
  ·rw [if_neg hs,if_neg fun q=>hs q.symm]
theorem findN_changed (l:Nms) (c:Chg) (s:ByteArray):findN (changed l c) s=if s=c.come then (if c.come=emp then none else some c.file) else if s=c.gone then none else findN l s:=by
 unfold changed
 rw [findN_app,findN_filter _ (fun x=>decide (x≠c.gone) && decide (x≠c.come)) (fun x=>rfl),findN_last]
 by_cases h1:s=c.come
 ·rw [if_pos h1, if_pos h1]
  simp [h1]
 ·rw [if_neg h1, if_neg h1]
  by_cases h2:s=c.gone
  ·rw [if_pos h2]
   simp [h2]
  ·rw [if_neg h2]
   simp only [ne_eq,h1,h2,not_false_eq_true,decide_true,Bool.and_true,if_true]
   cases findN l s <;> rfl
theorem changed_mem {l:Nms} {c:Chg} {x:ByteArray×Nat} (h:x∈changed l c):(x∈l∧x.1≠c.gone∧x.1≠c.come)∨(c.come≠emp∧x=(c.come,c.file)):=by
 unfold changed at h
 rcases List.mem_append.1 h with h|h
 ·have := List.mem_filter.1 h
  exact .inl ⟨this.1,by simpa using this.2⟩
 ·split at h
  ·simp at h
  ·rename_i q
   exact .inr ⟨q,by simpa using h⟩
end Go.Mine.Ac
namespace Go.Proofs.YtofcogekgcgjhaaGreatDoor
open Go.RowKit Go.Mine Go.Mine.Ac
abbrev KStr:Value→Prop:=MapKept.IsKey .string
theorem kstr (s:ByteArray):KStr (.string s):=trivial
theorem keyStr:KeyOk Tryz.prog 9 KStr:=plain_keyOk Tryz.underlying9
theorem zero153 (w:World):(zeroValue 153).run Tryz.prog w = .ok (.pointer none) w:=by kernel_rfl
def mapN (F:Nat→Nat) (l:Nms):Value→Option Value
  | .string s=>(findN l s).map fun k=>pt (F k)
  |_=>none
def pcell (F:Nat→Nat) (c:Chg):List Value:=[.string (if c.gone=emp then c.come else c.gone),.string c.come,if c.come=emp then .pointer none else pt (F c.file)]
def pcells (F:Nat→Nat) (l:List Chg):List Value:=l.flatMap (pcell F)
def Live (D:Dk) (k:Nat):Prop:=(∃ x∈D.seen,x.2=k)∨(∃ x∈D.safe,x.2=k)∨∃ c∈D.pend,c.come≠emp∧c.file=k
def FileAt (w:World) (rl:Nat→Nat) (F:Nat→Nat) (k:Nat) (x:Fl):Prop:=
  rl (F k)=5+2 * k∧∃ bv,Blk w (F k) #[.int .i64 (k:Nat),bv,.int .i64 (x.safe:Nat)] 157∧Sl w (fun b=>rl b=6+2 * k) 5 1 bv (bcells x.bytes.data.toList) x.bytes.size
structure FsC (w:World) (rl:Nat→Nat) (d ms mf:Nat) (pv:Value) (F:Nat→Nat) (D:Dk) (n:Nat):Prop where
  r1:rl d=1
  r2:rl ms=2
  r3:rl mf=3
  blk:Blk w d #[.int .i64 (D.quota:Nat),.int .i64 (n:Nat),.map (some ms),.map (some mf),pv,.int .i64 (D.falls:Nat),.bool D.off] 148
  seen:MapIs KStr w ms (mapN F D.seen) D.seen.length
  safe:MapIs KStr w mf (mapN F D.safe) D.safe.length
  pend:Sl w (fun b=>rl b=4) 159 3 pv (pcells F D.pend) D.pend.length
  file:∀ k,Live D k→∃ x,D.files[k]? = some x∧FileAt w rl F k x
  bnd:∀ b,rl b≠0→b<w.heap.size
  bs:Births w ms
  bf:Births w mf
abbrev FsAt (w:World) (rl:Nat→Nat) (d ms mf:Nat) (pv:Value) (F:Nat→Nat) (D:Dk):Prop:=FsC w rl d ms mf pv F D D.files.length
theorem FileAt.turned {w w' : World} {T:Nat→Prop} {rl F:Nat→Nat} {k:Nat} {x:Fl} (h:FileAt w rl F k x) (ht:Turned T w w') (hT:∀ b,rl b=5+2 * k∨rl b=6+2 * k→¬ T b):FileAt w' rl F k x:=by
  obtain ⟨h1,bv,h2,h3⟩:=h
  exact ⟨h1,bv,(ht.block _ (lt_of_block h2) (hT _ (.inl h1))).trans h2,h3.turned ht fun b hb=>hT b (.inr hb)⟩
theorem FsC.turned {w w' : World} {T:Nat→Prop} {rl:Nat→Nat} {d ms mf:Nat} {pv:Value} {F:Nat→Nat} {D:Dk} {n:Nat} (h:FsC w rl d ms mf pv F D n) (ht:Turned T w w') (hT:∀ b,rl b≠0→¬ T b):FsC w' rl d ms mf pv F D n:=
  ⟨h.r1,h.r2,h.r3,(ht.block _ (lt_of_block h.blk) (hT _ (by rw [h.r1];decide))).trans h.blk,
    h.seen.congr (ht.block _ h.seen.lt (hT _ (by rw [h.r2];decide))) fun _=>rfl,h.safe.congr (ht.block _ h.safe.lt (hT _ (by rw [h.r3];decide))) fun _=>rfl,
    h.pend.turned ht fun b hb=>hT b (by omega),fun k hk=>by
      obtain ⟨x,h1,h2⟩:=h.file k hk
      exact ⟨x,h1,h2.turned ht fun b hb=>hT b (by omega)⟩,fun b hb=>Nat.lt_of_lt_of_le (h.bnd b hb) ht.size,
    h.bs.congr (ht.block _ h.seen.lt (hT _ (by rw [h.r2];decide))),h.bf.congr (ht.block _ h.safe.lt (hT _ (by rw [h.r3];decide)))⟩
theorem FsC.roles {w:World} {rl rl' : Nat→Nat} {d ms mf:Nat} {pv:Value} {F:Nat→Nat} {D:Dk} {n:Nat} (h:FsC w rl d ms mf pv F D n) (h1:∀ b,rl b≠0→rl' b=rl b) (h2:∀ b,rl' b≠0→b<w.heap.size):FsC w rl' d ms mf pv F D n:=
  ⟨(h1 _ (by rw [h.r1]; decide)).trans h.r1, (h1 _ (by rw [h.r2]; decide)).trans h.r2, (h1 _ (by rw [h.r3]; decide)).trans h.r3, h.blk, h.seen, h.safe,
    h.pend.widen fun b hb=>(h1 b (by omega)).trans hb,fun k hk=>by
      obtain ⟨x,a1,a2,bv,a3,a4⟩:=h.file k hk
      exact ⟨x,a1,(h1 _ (by omega)).trans a2,bv,a3,a4.widen fun b hb=>(h1 b (by omega)).trans hb⟩,h2,h.bs,h.bf⟩
def FsIs (w:World) (S:Nat→Prop) (d:Nat) (D:Dk):Prop:=∃ rl ms mf pv F,FsAt w rl d ms mf pv F D∧∀ b,rl b≠0→S b
theorem FsIs.turned {w w' : World} {S T:Nat→Prop} {d:Nat} {D:Dk} (h:FsIs w S d D) (ht:Turned T w w') (hT:∀ b,S b→¬ T b):FsIs w' S d D:=by
  obtain ⟨rl,ms,mf,pv,F,h1,h2⟩:=h
  exact ⟨rl,ms,mf,pv,F,h1.turned ht fun b hb=>hT b (h2 b hb),h2⟩
theorem FsIs.widen {w:World} {S T:Nat→Prop} {d:Nat} {D:Dk} (h:FsIs w S d D) (hT:∀ b,b<w.heap.size→S b→T b):FsIs w T d D:=by
  obtain ⟨rl,ms,mf,pv,F,h1,h2⟩:=h
  exact ⟨rl,ms,mf,pv,F,h1,fun b hb=>hT b (h1.bnd b hb) (h2 b hb)⟩
theorem hidS {p:Prop} (h:p):Hid p:=h
def fileV (F:Nat→Nat):Except Nat Nat→Value
 | .error k=>.tuple #[.pointer none,.int .i64 (k:Nat)]
 | .ok k=>.tuple #[pt (F k),.int .i64 0]
theorem ffind_any {w:World} {rl:Nat→Nat} {d ms mf:Nat} {pv:Value} {F:Nat→Nat} {D:Dk} (h:FsAt w rl d ms mf pv F D) (name:ByteArray) :
  Calls Tryz.prog 88 #[pt d,.string name] w fun e w'=>e = .returned (fileV F (D.file name))∧w=w':=by
 have c2:=cell_of h.blk 2 _ rfl
 have c6:=cell_of h.blk 6 _ rfl
 have hlk:=h.seen.look_ok (P:=Tryz.prog) keyStr Tryz.underlying145 (zero153 w) (kstr name)
 have hmp:mapN F D.seen (.string name)=(findN D.seen name).map fun k=>pt (F k):=rfl
 rw [hmp]at hlk
 clear hmp
 obtain ⟨R,hR⟩:∃ R,R=fileV F (D.file name):=⟨_,rfl⟩
 have HR:Hid (R=fileV F (D.file name)):=hR
 rw [←hR]
 clear hR h
 cases hoff:D.off with
 |true=>
  have HO:Hid (D.off=true):=hoff
  rw [hoff]at c6
  clear hoff hlk
  go_enter Tryz.func88,Tryz.ntmps88
  go_wp2
  go_ret2
  exact ⟨by rw [HR.out];simp [Dk.file,HO.out,fileV],rfl⟩
 |false=>
  have HO:Hid (D.off=false):=hoff
  rw [hoff]at c6
  clear hoff
  cases hf:findN D.seen name with
  |none=>
   have HF:Hid (findN D.seen name=none):=hf
   rw [hf]at hlk
   clear hf
   go_enter Tryz.func88,Tryz.ntmps88
   go_wp2
   go_ret2
   exact ⟨by rw [HR.out];simp [Dk.file,HO.out,HF.out,fileV],rfl⟩
  |some k=>
   have HF:Hid (findN D.seen name=some k):=hf
   rw [hf]at hlk
   clear hf
   go_enter Tryz.func88,Tryz.ntmps88
   go_wp2
   go_ret2
   exact ⟨by rw [HR.out];simp [Dk.file,HO.out,HF.out,fileV],rfl⟩
end Go.Proofs.YtofcogekgcgjhaaGreatDoor

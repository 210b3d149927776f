/- Packed. -/
import Derived.Lib.AtoiTie
import Derived.Lib.ItoaMem
import Derived.Lib.ItoaLen
import Derived.Test.YtofcogekgcgjhaaGreatDoorZzae
set_option maxRecDepth 100000
namespace Go.Mine
open Go.Lib
theorem decFrom_snoc:∀(l:List UInt8)(a n d:Nat)(b:UInt8),decFrom a l=some n->digitVal b=some d->decFrom a (l++[b])=some (n*10+d)
 | [],a,n,d,b,h,hd=>by simp only[decFrom,Option.some.injEq]at h;subst h;simp[decFrom,hd]
 |c::l,a,n,d,b,h,hd=>by
  simp only[decFrom,List.cons_append]at h ⊢;cases f:digitVal c with
  |none=>simp[f]at h
  |some e=>simp only[f]at h ⊢;exact decFrom_snoc l _ n d b h hd
theorem jS(i:Nat)(h:i<10):digitVal (UInt8.ofNat (48+i))=some i:=by
 have:(UInt8.ofNat (48+i)).toNat=48+i:=by rw[UInt8.toNat_ofNat'];exact Nat.mod_eq_of_lt (by omega)
 unfold digitVal;rw[this,if_pos (by omega)];simp
theorem dK(a:Nat):decFrom 0 (decDigits a)=some a:=by
 induction a using Nat.strongRecOn with
 |_ a b=>
  by_cases h:a<10
  ·rw[decDigits,dif_pos h];simp only[decFrom,jS a h];simp
  ·rw[decDigits,dif_neg h,decFrom_snoc _ _ _ _ _ (b (a / 10) (by omega)) (jS (a% 10) (by omega))];simp only[Option.some.injEq];omega
theorem nDigits_le:∀(k a:Nat),a<10^(k+1)->nDigits a<=k+1
 |0,a,h=>by rw[nDigits_small (by simpa using h)];exact LS _
 |k+1,a,h=>by
  by_cases b:a<10
  ·rw[nDigits_small b];omega
  ·rw[nDigits_big b];have:=nDigits_le k (a / 10) (by rw[Nat.pow_succ]at h;omega);omega
theorem oy(a:Nat):decDigits a≠[]:=by intro h;have:=decDigits_length a;have h2:=nDigits_pos a;rw[h]at this;simp at this;omega
theorem lk(a:Nat):atoi (decDigits a)=some (a:Int):=by
 have h:=dK a;have g:=oy a;generalize decDigits a=l at *;cases l with
 |nil=>exact absurd rfl g
 |cons b r=>
  obtain⟨d,f⟩:=digit_of_decFrom (b::r) 0 a h 0 b rfl;obtain⟨h1,h2,-⟩:=digitVal_eq f;have e:(b==45)=false:=by rw[beq_eq_false_iff_ne];intro q;rw[q]at h1;simp at h1
  have c:(b==43)=false:=by rw[beq_eq_false_iff_ne];intro q;rw[q]at h1;simp at h1
  unfold atoi;simp only[e,c,Bool.false_eq_true,if_false,decNat,List.isEmpty_cons,h,Option.map_some]
theorem iA(a:Nat)(h:a<=1073741824):atoiAll (decDigits a)=.ok (a:Int):=by
 have b:(decDigits a).length<=10:=by rw[decDigits_length];exact nDigits_le 9 a (by omega)
 rw[atoiAll_short _ (by omega),lk];rfl
end Go.Mine
namespace Go.Mine.Ac
theorem nu(c:fC):∀(l:Nms)(a:List fC),fI l (a++[c])=fI l a++[changed (a.foldl changed l) c]
 |l,[]=>rfl
 |l,x::a=>by rw[List.cons_append,fI,fI,nu c,List.cons_append,List.foldl_cons]
theorem walkN_last:∀(l:Nms)(a:List fC),a.foldl changed l∈fI l a
 |l,[]=>by simp[fI]
 |l,x::a=>by rw[fI,List.foldl_cons];exact LP _ (walkN_last _ a)
theorem Dk.Ok.seenOk{d:Dk}(h:d.Ok):cM d.files.length d.seen:=h.last▸h.walk _ (walkN_last _ _)
theorem cM.ne{n:Nat}{l:Nms}(h:cM n l):∀x∈l,x.1≠emp:=fun x hx=>fJ (h.good x hx)
theorem cM.mono{n m:Nat}{l:Nms}(h:cM n l)(a:n<=m):cM m l:=⟨h.nodup,h.good,fun x hx=>LC (h.file x hx) a,h.fnodup,h.many⟩
theorem snd_inj:∀{l:Nms},(l.map (·.2)).Nodup->∀{x y:ByteArray×Nat},x∈l->y∈l->x.2=y.2->x=y
 | [],_,_,_,h,_,_=>by simp at h
 |z::l,hn,x,y,hx,hy,he=>by
  rw[List.map_cons,List.nodup_cons]at hn;rcases List.mem_cons.1 hx with rfl|b
  ·rcases List.mem_cons.1 hy with rfl|a
   ·rfl
   ·exact(hn.1 (List.mem_map.2 ⟨y,a,he.symm⟩)).elim
  ·rcases List.mem_cons.1 hy with rfl|a
   ·exact(hn.1 (List.mem_map.2 ⟨x,b,he⟩)).elim
   ·exact snd_inj hn.2 b a he
theorem jT{p:ByteArray×Nat->Bool}:∀{l:Nms}{x:ByteArray×Nat},x∈l->p x=false->(l.filter p).length<l.length
 | [],_,h,_=>by simp at h
 |y::l,x,h,hp=>by
  have a:=List.length_filter_le p l;rcases List.mem_cons.1 h with rfl|h
  ·rw[List.filter_cons,hp];simp only[List.length_cons,Bool.false_eq_true,if_false];omega
  ·have:=jT h hp;rw[List.filter_cons];split<;>simp only[List.length_cons]<;>omega
theorem cM.changed{n:Nat}{l:Nms}{c:fC}(h:cM n l)(j:c.come≠emp->F6 c.come=true)(i:c.come≠emp->c.file<n)
  (m:c.come≠emp->∀x∈l,x.2=c.file->x.1=c.gone∨x.1=c.come) (k:c.come≠emp->l.length<64∨∃x∈l,x.1=c.gone∨x.1=c.come):cM n (changed l c):=by
 refine⟨gN c h.nodup,?_,?_,?_,?_⟩
 ·intro x hx;rcases fK hx with q|⟨q,rfl⟩
  ·exact h.good x q.1
  ·exact j q
 ·intro x hx;rcases fK hx with q|⟨q,rfl⟩
  ·exact h.file x q.1
  ·exact i q
 ·unfold Ac.changed;rw[List.map_append];have h1:((l.filter fun x=>decide (x.1≠c.gone) && decide (x.1≠c.come)).map (·.2)).Nodup:=h.fnodup.sublist ((List.filter_sublist).map _);split
  ·simpa using h1
  ·rename_i q;rw[List.nodup_append];refine⟨h1,by simp,?_⟩;intro a g b f;simp only[List.map_cons,List.map_nil,List.mem_singleton]at f;subst f;obtain⟨x,hx,rfl⟩:=List.mem_map.1 g;obtain⟨o,d⟩:=List.mem_filter.1 hx;simp only[ne_eq,Bool.and_eq_true,decide_eq_true_eq]at d;intro e;rcases m q x o e with r|r
   ·exact d.1 r
   ·exact d.2 r
 ·unfold Ac.changed;rw[List.length_append];have s:=List.length_filter_le (fun x:ByteArray×Nat=>decide (x.1≠c.gone) && decide (x.1≠c.come)) l;have t:=h.many;split
  ·simp only[List.length_nil];omega
  ·rename_i q;simp only[List.length_cons,List.length_nil];rcases k q with r|⟨x,hx,r⟩
   ·omega
   ·have:=jT (p:=fun x:ByteArray×Nat=>decide (x.1≠c.gone) && decide (x.1≠c.come)) hx (by rcases r with r|r<;>simp[r]);omega
theorem Dk.Ok.change{d:Dk}{c:fC}(h:d.Ok)(b:cM d.files.length (changed d.seen c)):(d.change c).Ok:=by
 refine⟨?_,?_,h.safe,h.small,h.quota,h.fall⟩
 ·intro l a;unfold Dk.change at a;simp only[]at a;rw[nu]at a;rcases List.mem_append.1 a with q|q
  ·exact h.walk l q
  ·rw[List.mem_singleton]at q;rw[q,h.last];exact b
 ·show(d.pend++[c]).foldl Ac.changed d.safe=Ac.changed d.seen c;rw[List.foldl_append,h.last];rfl
theorem Dk.Ok.more{d:Dk}(h:d.Ok):Dk.Ok {d with files:=d.files++[⟨emp,0⟩]}:=by
 refine⟨fun l a=>(h.walk l a).mono (by simp),h.last,?_,?_,h.quota,h.fall⟩
 ·intro x hx;rcases List.mem_append.1 hx with q|q
  ·exact h.safe x q
  ·rw[List.mem_singleton]at q;subst q;exact Nat.zero_le _
 ·intro x hx;rcases List.mem_append.1 hx with q|q
  ·exact h.small x q
  ·rw[List.mem_singleton]at q;subst q;exact Nat.zero_le _
theorem Dk.Ok.setF{d:Dk}(h:d.Ok)(k:Nat)(x:Fl)(h1:x.safe<=x.bytes.size)(h2:x.bytes.size<=d.quota):(d.setF k x).Ok:=by
 refine⟨fun l b=>(h.walk l b).mono (by simp[Dk.setF]),h.last,?_,?_,h.quota,h.fall⟩
 ·intro y a;rcases List.mem_or_eq_of_mem_set a with q|rfl
  ·exact h.safe y q
  ·exact h1
 ·intro y a;rcases List.mem_or_eq_of_mem_set a with q|rfl
  ·exact h.small y q
  ·exact h2
theorem Dk.step_cases(d:Dk):(d.falls≠1∧d.step=({d with falls:=d.falls-1},0))∨(d.falls=1∧d.step=({d with falls:=0,off:=true},8)):=by
 unfold Dk.step;by_cases a:d.falls=0
 ·left;rw[if_pos a];refine⟨by omega,?_⟩;cases d;simp at a ⊢;omega
 ·rw[if_neg a];by_cases h1:d.falls=1
  ·right;rw[if_pos h1];exact⟨h1,rfl⟩
  ·left;rw[if_neg h1];exact⟨h1,rfl⟩
theorem Dk.then_goes{d:Dk}(h:d.falls≠1)(f:Dk->Dk):d.then f=(f {d with falls:=d.falls-1},0):=by
 unfold Dk.then;rcases d.step_cases with⟨-,q⟩|⟨q,-⟩
 ·rw[q];rfl
 ·exact absurd q h
theorem Dk.then_dies{d:Dk}(h:d.falls=1)(f:Dk->Dk):d.then f=({d with falls:=0,off:=true},8):=by
 unfold Dk.then;rcases d.step_cases with⟨q,-⟩|⟨-,q⟩
 ·exact absurd h q
 ·rw[q];rfl
theorem Dk.Ok.falls{d:Dk}(h:d.Ok)(n:Nat)(o:Bool)(a:n<=9223372036854775807):Dk.Ok {d with falls:=n,off:=o}:=⟨h.walk,h.last,h.safe,h.small,h.quota,a⟩
theorem Dk.Ok.thenOk{d:Dk}(h:d.Ok)(f:Dk->Dk)(a:∀n,n<=9223372036854775807->Dk.Ok (f {d with falls:=n})):(d.then f).1.Ok:=by
 by_cases h1:d.falls=1
 ·rw[Dk.then_dies h1];exact h.falls 0 true (Nat.zero_le _)
 ·rw[Dk.then_goes h1];exact a _ (LR (Nat.sub_le _ _) h.fall)
theorem Dk.Ok.createOk{d:Dk}(h:d.Ok)(name:ByteArray):(d.create name).1.Ok:=by
 unfold Dk.create;split
 ·exact h
 split
 ·exact h
 rename_i g;split
 ·exact h
 rename_i i;refine h.thenOk _ fun n j=>?_
 have a:Dk.Ok {d with falls:=n,files:=d.files++[⟨emp,0⟩]}:=(Dk.Ok.more (h.falls n d.off j));refine Dk.Ok.change (d:={d with falls:=n,files:=d.files++[⟨emp,0⟩]}) a ?_;have b:=h.seenOk;show cM (d.files++[(⟨emp,0⟩:Fl)]).length (Ac.changed d.seen ⟨emp,name,d.files.length⟩);refine cM.changed (c:=⟨emp,name,d.files.length⟩) (b.mono (by simp)) (fun _=>by simpa using g) (fun _=>by simp) (fun _ x hx f=>?_) (fun _=>?_)
 ·have:=b.file x hx;have l:x.2=d.files.length:=f;omega
 ·have m:=b.many;by_cases e:findN d.seen name=none
  ·left;have:¬64<=d.seen.length:=fun q=>i ⟨e,q⟩
   omega
  ·right;obtain⟨k,a⟩:=Option.ne_none_iff_exists'.1 e;exact⟨_,S8 a,.inr rfl⟩
theorem Dk.file_live{d:Dk}{name:ByteArray}{k:Nat}(h:d.file name=.ok k):(name,k)∈d.seen:=by
 unfold Dk.file at h;split at h
 ·simp at h
 ·cases a:findN d.seen name with|none=>rw[a]at h;simp at h|some j=>rw[a]at h;simp at h;subst h;exact S8 a
theorem Dk.Ok.at_lt{d:Dk}(h:d.Ok){name:ByteArray}{k:Nat}(c:(name,k)∈d.seen):∃x,d.files[k]?=some x∧d.at k=x∧x∈d.files:=by have b:k<d.files.length:=h.seenOk.file _ c;have a:=LB b;exact⟨_,a,by simp[Dk.at,a],List.getElem_mem b⟩
theorem vX{d:Dk}{k:Nat}{name:ByteArray}(a:(name,k)∈d.seen):(d.at k).bytes.size<=d.used:=by
 unfold Dk.used;have:∀(l:Nms),(name,k)∈l->(d.at k).bytes.size<=(l.map fun x=>(d.at x.2).bytes.size).sum:=by
  intro l
  induction l with
  |nil=>intro h;simp at h
  |cons x l b=>
   intro h;rw[List.map_cons,List.sum_cons];rcases List.mem_cons.1 h with rfl|h
   ·exact Nat.le_add_right _ _
   ·exact LR (b h) (Nat.le_add_left _ _)
 exact this _ a
theorem eP{d:Dk}(h:d.Ok):d.used<=64*16777216:=by
 have c:=h.seenOk;have:∀(l:Nms),(∀x∈l,x.2<d.files.length)->(l.map fun x=>(d.at x.2).bytes.size).sum<=l.length*16777216:=by
  intro l
  induction l with
  |nil=>intro _;simp
  |cons x l g=>
   intro a;rw[List.map_cons,List.sum_cons,List.length_cons];have h1:=g fun y f=>a y (LP _ f)
   have b:=a x (List.mem_cons_self ..);have e:=LB b;have h2:(d.at x.2).bytes.size<=d.quota:=by simp only[Dk.at,e,Option.getD_some];exact h.small _ (List.getElem_mem b)
   have h3:=h.quota;omega
 have h1:=this d.seen c.file;exact LR h1 (Nat.mul_le_mul_right _ c.many)
theorem Dk.Ok.appendOk{d:Dk}(h:d.Ok)(name a:ByteArray):(d.append name a).1.Ok:=by
 unfold Dk.append;cases f:d.file name with
 |error e=>exact h
 |ok k=>
  simp only[];split
  ·exact h
  rename_i i;have b:=Dk.file_live f;obtain⟨x,h1,h2,h3⟩:=h.at_lt b;refine h.thenOk _ fun n g=>?_
  have hx:({d with falls:=n}:Dk).at k=x:=h2;have j:=vX b;have l:=h.safe x h3;have m:=h.small x h3;refine Dk.Ok.setF (h.falls n d.off g) k _ ?_ ?_
  ·rw[hx,ByteArray.size_append];simp only[];omega
  ·rw[hx,ByteArray.size_append];rw[h2]at j;show x.bytes.size+a.size<=d.quota;by_cases c:0<a.size
   ·have:¬d.quota<d.used+a.size:=fun q=>i ⟨c,q⟩
    omega
   ·omega
theorem Dk.Ok.syncOk{d:Dk}(h:d.Ok)(name:ByteArray):(d.sync name).1.Ok:=by
 unfold Dk.sync;cases a:d.file name with
 |error e=>exact h
 |ok k=>
  obtain⟨x,h1,h2,h3⟩:=h.at_lt (Dk.file_live a);refine h.thenOk _ fun n b=>?_
  have hx:({d with falls:=n}:Dk).at k=x:=h2;refine Dk.Ok.setF (h.falls n d.off b) k _ (by rw[hx];exact LS _) ?_;rw[hx];exact h.small x h3
theorem Dk.Ok.syncNamesOk{d:Dk}(h:d.Ok):d.syncNames.1.Ok:=by
 unfold Dk.syncNames;split
 ·exact h
 refine h.thenOk _ fun n b=>⟨?_,rfl,h.safe,h.small,h.quota,b⟩
 intro l a;simp only[fI,List.mem_singleton]at a;subst a;exact h.seenOk
theorem Dk.Ok.renameOk{d:Dk}(h:d.Ok)(a b:ByteArray):(d.rename a b).1.Ok:=by
 unfold Dk.rename;cases l:d.file a with
 |error e=>exact h
 |ok k=>
  simp only[];split
  ·exact h
  rename_i m;have f:=Dk.file_live l;have g:=h.seenOk;refine h.thenOk _ fun n i=>?_
  split
  ·exact h.falls n d.off i
  rename_i o;refine Dk.Ok.change (h.falls n d.off i) ?_;refine cM.changed (c:=⟨a,b,k⟩) g (fun _=>by simpa using m) (fun _=>g.file _ f) (fun _ x hx j=>?_) (fun _=>.inr ⟨_,f,.inl rfl⟩);exact .inl (congrArg Prod.fst (snd_inj g.fnodup hx f j))
theorem Dk.Ok.removeOk{d:Dk}(h:d.Ok)(name:ByteArray):(d.remove name).1.Ok:=by
 unfold Dk.remove;cases b:d.file name with
 |error e=>exact h
 |ok k=>
  refine h.thenOk _ fun n a=>?_
  refine Dk.Ok.change (h.falls n d.off a) ?_;exact cM.changed h.seenOk (fun q=>absurd rfl q) (fun q=>absurd rfl q) (fun q=>absurd rfl q) (fun q=>absurd rfl q)
theorem zg{q:Int}{d:Dk}(h:M7 q=some d):d.Ok:=by
 unfold M7 at h;split at h
 ·simp at h
 ·rename_i b;simp only[Option.some.injEq]at h;subst h;refine⟨?_,rfl,by simp,by simp,?_,Nat.zero_le _⟩
  ·intro l a;simp only[fI,List.mem_singleton]at a;subst a;exact⟨by simp,by simp,by simp,by simp,by simp⟩
  ·show q.toNat<=16777216;omega
theorem hY(a:ByteArray):en a a=false:=by unfold en;simp only[decide_eq_false_iff_not];exact List.lt_irrefl _
theorem ny{a b c:ByteArray}(h:en a b=true)(k:en b c=true):en a c=true:=by unfold en at *;simp only[decide_eq_true_eq]at *;exact List.lt_trans h k
theorem zh{a b:ByteArray}(h:a.data.toList=b.data.toList):a=b:=ByteArray.ext (Array.toList_inj.1 h)
theorem xq{a b:ByteArray}(h:en a b=false)(k:a≠b):en b a=true:=by
 unfold en at *;simp only[decide_eq_true_eq,decide_eq_false_iff_not]at *;rcases Std.le_total (a:=a.data.toList) (b:=b.data.toList)with q|q
 ·rcases Std.le_iff_lt_or_eq.1 q with q|q
  ·exact absurd q h
  ·exact absurd (zh q) k
 ·rcases Std.le_iff_lt_or_eq.1 q with q|q
  ·exact q
  ·exact absurd (zh q).symm k
abbrev J1(l:List ByteArray):Prop:=l.Pairwise fun a b=>en a b=true
theorem rising_unique:∀{l m:List ByteArray},J1 l->J1 m->(∀x,x∈l↔x∈m)->l=m
 | [],[],_,_,_=>rfl
 | [],y::m,_,_,h=>by have:=(h y).2 (List.mem_cons_self ..);simp at this
 |x::l,[],_,_,h=>by have:=(h x).1 (List.mem_cons_self ..);simp at this
 |x::l,y::m,h1,h2,h=>by
  obtain⟨a,b⟩:=List.pairwise_cons.1 h1;obtain⟨b1,b2⟩:=List.pairwise_cons.1 h2;have c:x=y:=by
   rcases List.mem_cons.1 ((h x).1 (List.mem_cons_self ..))with q|q
   ·exact q
   ·rcases List.mem_cons.1 ((h y).2 (List.mem_cons_self ..))with r|r
    ·exact r.symm
    ·have:=ny (b1 x q) (a y r);rw[hY]at this;simp at this
  subst c;congr 1;refine rising_unique b b2 fun z=>⟨fun q=>?_,fun q=>?_⟩
  ·rcases List.mem_cons.1 ((h z).1 (LP _ q))with r|r
   ·subst r;have:=a z q;rw[hY]at this;simp at this
   ·exact r
  ·rcases List.mem_cons.1 ((h z).2 (LP _ q))with r|r
   ·subst r;have:=b1 z q;rw[hY]at this;simp at this
   ·exact r
theorem ll(s:ByteArray):∀(l:List ByteArray)(x:ByteArray),x∈gZ s l↔x=s∨x∈l
 | [],x=>by simp[gZ]
 |y::l,x=>by
  rw[gZ];split
  ·simp
  ·simp only[List.mem_cons,ll s l x];constructor<;>rintro(h|h|h)<;>simp_all
theorem jU(s:ByteArray):∀(l:List ByteArray),J1 l->s ∉ l->J1 (gZ s l)
 | [],_,_=>by simp[gZ,J1]
 |y::l,h,hs=>by
  obtain⟨b,c⟩:=List.pairwise_cons.1 h;rw[gZ];split
  ·rename_i q;refine List.pairwise_cons.2 ⟨fun z a=>?_,h⟩;rcases List.mem_cons.1 a with rfl|a
   ·exact q
   ·exact ny q (b z a)
  ·rename_i q;have d:en y s=true:=xq (by simpa using q) fun z=>hs (z▸List.mem_cons_self ..)
   refine List.pairwise_cons.2 ⟨fun z a=>?_,jU s l c fun z=>hs (LP _ z)⟩;rcases(ll s l z).1 a with rfl|a
   ·exact d
   ·exact b z a
theorem sortN_mem:∀(l:List ByteArray)(x:ByteArray),x∈Q4 l↔x∈l
 | [],x=>by simp[Q4]
 |y::l,x=>by have:=sortN_mem l x;unfold Q4 at *;rw[List.foldr_cons,ll,this,List.mem_cons]
theorem sortN_rising:∀(l:List ByteArray),l.Nodup->J1 (Q4 l)
 | [],_=>by simp[Q4,J1]
 |y::l,h=>by obtain⟨h1,h2⟩:=List.nodup_cons.1 h;have:=sortN_rising l h2;unfold Q4 at *;rw[List.foldr_cons];exact jU y _ this fun z=>h1 ((sortN_mem l y).1 z)
theorem qC{l m:List ByteArray}(a:l.Nodup)(b:J1 m)(h:∀x,x∈m↔x∈l):m=Q4 l:=rising_unique b (sortN_rising l a) fun x=>(h x).trans (sortN_mem l x).symm
end Go.Mine.Ac

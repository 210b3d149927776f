/- AccelMemory (its card, up to): behind any calls and one update, with any settings, the rows and layers that the index answers are new memory, so the law answers true. Condition: the arguments' bulk is at most 1048576, as the row says. -/
import Derived.Test.YtofcogekgcgjhaaGreatDoorZzai
import Derived.Test.YtofcogekgcgjhaaGreatDoorZzbv
import Derived.Test.YtofcogekgcgjhaaGreatDoorZzbw
import Derived.Test.YtofcogekgcgjhaaGreatDoorZzca
set_option maxRecDepth 100000
namespace Go.Proofs.YtofcogekgcgjhaaGreatDoor.accelMemory
open Go.ChangeShapes Go.WideShapes Go.ChangeAt Go.RowKit Go.Mine Go.Mine.Ac Go.Proofs.YtofcogekgcgjhaaGreatDoor Go.Proofs.Tryz
theorem laidOut:laidOutB prog=true:=by kernel_rfl
theorem JY{w w':World}(h:Ch.ia w)(d:d7 (fun _=>False) w w'):Ch.ia w':=by
  obtain⟨⟨i,e,h1⟩,j,f,h2⟩:=h;have a:∀(n:String)(v:Value),w.var? prog n=some #[v]->w'.var? prog n=some #[v]:=fun n v h=>by
    unfold World.var? at h ⊢;obtain⟨g,h1,h2⟩:=Option.bind_eq_some_iff.1 h;rw[h1,Option.bind_some];have c:g<w.heap.size:=by
      split at h2
      ·rename_i b;exact i6 b
      ·simp at h2
    rw[d.block g c fun q=>q];exact h2
  exact⟨⟨i,e,a _ _ h1⟩,j,f,a _ _ h2⟩
theorem EM{j:Type}{enc:TypeId×Value->j}{W:World}{b:Bool}{c:Array Value}{y:Nat}{x:DataW j×List MemPlace}(A:c.size=4)
  (h:DataW.trod enc prog W 0 (fun _=>true) b y 24 c.toList=some x):∃g:I2,Value.agg c=J3 g∧g.seed<4294967296:=by
 obtain⟨H,n,-,J,-,z,e⟩:=DataW.trod_struct underlying24 h;have k3:prog.cellsOf 3=1:=by kernel_rfl
 have B:prog.cellsOf 22=1:=by kernel_rfl
 obtain⟨l⟩:=c
 match l,A with
 | [k,m,o,p],_=>
  match H,z with
  | [D,E,F,G],_=>
   have u:DataW.trod enc prog W 0 (fun _=>true) b n 3 [k]=some D:=by have:=e 0 _ rfl;simpa[k3]using this
   have f1:DataW.trod enc prog W 0 (fun _=>true) b n 3 [m]=some E:=by have:=e 1 _ rfl;simpa[k3]using this
   have v:DataW.trod enc prog W 0 (fun _=>true) b n 3 [o]=some F:=by have:=e 2 _ rfl;simpa[k3]using this
   have w:DataW.trod enc prog W 0 (fun _=>true) b n 22 [p]=some G:=by have:=e 3 _ rfl;simpa[B]using this
   obtain⟨d,q,-,K⟩:=DataW.trod_int underlying3 u;obtain⟨i,r,-,L⟩:=DataW.trod_int underlying3 f1;obtain⟨f,s,-,w2⟩:=DataW.trod_int underlying3 v;obtain⟨a,t,-,C⟩:=DataW.trod_int underlying22 w;obtain rfl:k=.int .i64 d:=by simpa using q
   obtain rfl:m=.int .i64 i:=by simpa using r
   obtain rfl:o=.int .i64 f:=by simpa using s
   obtain rfl:p=.int .u32 a:=by simpa using t
   have I:=_root_.Go.bounds_u32 C;refine⟨⟨d,i,f,a.toNat⟩,?_,by simp only;omega⟩;show Value.agg #[.int .i64 d,.int .i64 i,.int .i64 f,.int .u32 a]=Value.agg #[.int .i64 d,.int .i64 i,.int .i64 f,.int .u32 ((a.toNat:Nat):Int)];rw[show((a.toNat:Nat):Int)=a by omega]
theorem AV(s:Type)(enc:TypeId×Value->s)(W:World)(base:Nat)(args:Array Value)(f gs:List (DataW s))(I:List MemPlace)
  (r:∀(j:Nat)t v,Tryz.f8.params[j]?=some t->args[j]?=some v->Value.okWide prog W .any base t v)
  (E:DataW.Whole enc prog Tryz.f8.params.toList Rows.accelMemorySpec.vars false W args.toList f gs I)
  (S:Rows.uptoBulkAll f<=1048576)
  (D:laidMetH prog Rows.accelMemoryRow.laid W):
  CZ 8 args W fun e a=>∃v,e=.returned v∧Rows.accelMemorySpec.post enc prog Tryz.f8 false true false false W args v a:=by
 have V:Ch.jr W:=qK D;have Q:Ch.ia W:=oB D;have M:=E;obtain⟨p,q,C,L,rfl,af,ag⟩:=E;have B:DataW.TrodAll enc prog W 0 (fun _=>true) true Tryz.f8.params.toList args.toList f p:=C;rw[Tryz.params8]at B r;obtain⟨G,ah,y,ac,p0,q0,ae,rfl,rfl,A,r0⟩:=trodAll_cons B;obtain⟨H,ai,d1,ad,p1,q1,rfl,rfl,rfl,h1,r1⟩:=trodAll_cons r0;obtain⟨rfl,rfl,rfl⟩:=trodAll_nil r1;obtain rfl:args=#[G,H]:=by cases args;simp_all
 obtain⟨rfl,rfl⟩:=trodVars_none L;obtain⟨u,F,d,rfl⟩:=okWide_slice underlying62 (r 0 62 G rfl rfl);obtain⟨J,rfl,O⟩:=okWide_struct underlying24 (r 1 24 H rfl rfl);have k0:=A;have k1:=h1;have aa:∀x∈p0,x.block<W.heap.size:=by obtain⟨m,n⟩:=k0;exact DataW.trod_lt m _ _ _ n
 have ab:∀x∈p1,x.block<W.heap.size:=by obtain⟨m,n⟩:=k1;exact DataW.trod_lt m _ _ _ n
 have N:Rows.uptoBulk y<=1048576:=LR (jm (l:=[y,d1]) (by simp)) S;obtain⟨l,rfl,Y,Z,i3,i4⟩:∃l:List Oc,l.length=F∧F<=d∧d<=maxLen∧(0<l.length->∃g off,u=some ⟨g,off,none⟩∧g<W.heap.size∧∀(i:Nat)(o:Oc),l[i]?=some o->vU W (fun b=>b<W.heap.size) g (off+i*13) o)∧∀o∈l,mL W (fun b=>b<W.heap.size) o:=by obtain⟨K,k⟩:=A;exact EL k N
 obtain⟨g,R,T⟩:∃g:I2,Value.agg J=J3 g∧g.seed<4294967296:=by obtain⟨K,k⟩:=h1;exact EM (O.trans (by kernel_rfl)) k
 clear C;have w:=kL l u d g T W (fun b=>b<W.heap.size) (fun _ z=>z) Y Z i3 i4 fun X t=>⟨V.turned t,JY Q t⟩
 rw[<-R]at w;refine w.mono fun e a⟨P,U⟩=>?_
 have c:Below W.heap.size W a:=U.below (fun _ _ q=>q) (LS _);subst P;exact⟨_,rfl,_,_,_,[],_,[],M,trodAll_mk1 (shut_bool underlying4 _),(trodAll_cons_mk (Below.trod laidOut (by kernel_rfl) (of_decide_eq_true (by kernel_rfl)) k0 c aa) (trodAll_cons_mk (Below.trod laidOut (by kernel_rfl) (of_decide_eq_true (by kernel_rfl)) k1 c ab) trodAll_mk0)),rfl,c.frame _,fun h=>by cases h⟩
theorem AX(os:Os):laidMet prog Rows.accelMemoryUptoRow.laid ((ie os).forCall (fun _ _=>0) ⟨#[],#[.slice none 0 0,.agg #[.int .i64 0,.int .i64 0,.int .i64 0,.int .u32 0]],[]⟩).memory:=laidMet_of_run' 8 (by kernel_rfl) (by kernel_rfl)
theorem EN(os:Os){a:Type}(enc:TypeId×Value->a):∃b,DataW.whole enc prog ((ie os).forCall (fun _ _=>0) ⟨#[],#[.slice none 0 0,.agg #[.int .i64 0,.int .i64 0,.int .i64 0,.int .u32 0]],[]⟩).memory Tryz.f8.params.toList Rows.accelMemorySpec.vars false #[Value.slice none 0 0,Value.agg #[.int .i64 0,.int .i64 0,.int .i64 0,.int .u32 0]].toList 8=some ([.nil,.agg [.lit (.int .i64 0),.lit (.int .i64 0),.lit (.int .i64 0),.lit (.int .u32 0)]],[],b):=⟨[],by kernel_rfl⟩
theorem lifted(os:Os)(i:os.Started)(b:Type)(enc:TypeId×Value->b)(F:Stop.Interp):
  ReturnsInHanded {} Tryz.checked os 8 .any ((Rows.OpenSpec.upto Rows.accelMemorySpec).preRow enc prog Tryz.f8 Rows.accelMemoryUptoRow.domain false Rows.accelMemoryUptoRow.laid) (((Rows.OpenSpec.upto Rows.accelMemorySpec).at F).post enc prog Tryz.f8 false true false false):=by
 obtain⟨j,hx⟩:=EN os enc
 refine returnsInHanded_of_row (C:=Tryz.checked) (s:=Rows.OpenSpec.upto Rows.accelMemorySpec) own i (by kernel_rfl) func8
  (witness_row_at (enc:=enc) (C:=Tryz.checked) false (ie os) #[.slice none 0 0,.agg #[.int .i64 0,.int .i64 0,.int .i64 0,.int .u32 0]] rfl (by kernel_rfl) (by kernel_rfl) (by kernel_rfl)
   (OpenSpec.preRow_of_cond 8 hx (by kernel_rfl) (fun k c=>by cases c;kernel_rfl) (by kernel_rfl) (AX os))) ?_
 intro W base args a gs d h f l g m e n o;have c:Rows.uptoBulkAll a<=1048576:=by have q:Rows.uptoSmall b (a++gs)=true:=g _ rfl;simp only[Rows.uptoSmall,decide_eq_true_eq]at q;exact LR (tD a gs) q
 exact AV b enc W base args a gs d h f c e
theorem said:Rows.AccelMemoryUptoSaid:=
 OpenClaim.holds_of_cond 8 Tryz.f8 rfl rfl rfl rfl rfl rfl rfl ⟨rfl,rfl,rfl,rfl,rfl⟩ rfl rfl rfl rfl rfl (by kernel_rfl) func8 joined
  (of_decide_eq_true (by kernel_rfl)) (by unfold Func.isWrapper;first|(rw[if_pos (by decide+kernel)];kernel_rfl)|(rw[if_neg (by decide+kernel)];exact⟨rfl,rfl⟩))
  (fun os b a enc _ F=>by rw[OpenClaim.pre_eq_preRow];exact lifted os b a enc F)
theorem EO(f:FuncId)(a:Func)(c:Tryz.pinned.checked.prog.funcNamed "pedigree/pedigreelaw17.AccelMemory" =some f)(d:Tryz.pinned.checked.prog.funcs[f]?=some a):
  true=Tryz.pinned.checked.prog.looks []∧∀(j:Nat)t,a.params[j]?=some t->Tryz.pinned.checked.prog.wantsStandIn t=false:=by
 obtain rfl:f=8:=Option.some.inj ((show prog.funcNamed "pedigree/pedigreelaw17.AccelMemory" =some 8 by kernel_rfl).symm.trans c)|>.symm;obtain rfl:a=Tryz.f8:=(Option.some.inj (func8.symm.trans d)).symm;refine⟨by kernel_rfl,fun j t b=>?_⟩;rw[Tryz.params8]at b;have e:t=62∨t=24:=by simpa using Array.mem_of_getElem? b
 rcases e with rfl|rfl
 ·exact(show prog.wantsStandIn 62=false by kernel_rfl)
 ·exact(show prog.wantsStandIn 24=false by kernel_rfl)
theorem proved:Rows.AccelMemoryUptoCardSaid:=Claim7.holds_tied_plain_at .later [] _ _ _ _ said (fun _ h=>by cases h) (by kernel_rfl) (fun _ h=>by cases h) accelMemoryUpto_row_tie rfl ⟨rfl,rfl⟩ (by kernel_rfl) rfl EO goes
end Go.Proofs.YtofcogekgcgjhaaGreatDoor.accelMemory

/- Packed. -/
import Derived.Test.YtofcogekgcgjhaaGreatDoorZzal
import Derived.Test.YtofcogekgcgjhaaGreatDoorZzbv
import Derived.ChangeOld
import Derived.Below
import Derived.Deep.Slices
import Derived.Deep.Fields
import Derived.ChangeSame
import Derived.SizedLaws
import Derived.Test.YtofcogekgcgjhaaGreatDoorZzbw
import Derived.Test.YtofcogekgcgjhaaGreatDoorZzca
set_option linter.unusedVariables false
set_option linter.unusedSimpArgs false
set_option maxRecDepth 100000
namespace Go.Proofs.YtofcogekgcgjhaaGreatDoor.accelNone
open Go.ChangeShapes Go.WideShapes Go.ChangeAt Go.RowKit Go.Mine Go.Mine.Ac Go.Proofs.YtofcogekgcgjhaaGreatDoor
theorem laidOut:laidOutB Tryz.prog=true:=by kernel_rfl
theorem isStg {H:Type} {enc:TypeId×Value→H} {W:World} {held:Bool} {cs:Array Value} {fuel:Nat} {x:DataW H×List MemPlace} (hsz:cs.size=4)
  (h:DataW.trod enc Tryz.prog W 0 (fun _=>true) held fuel 24 cs.toList=some x):∃ g:Stg,Value.agg cs=stgv g∧g.seed<4294967296:=by
 obtain ⟨zs,n,-,hz,-,hlen,hf⟩:=DataW.trod_struct Tryz.underlying24 h
 have k3:Tryz.prog.cellsOf 3=1:=by kernel_rfl
 have k29:Tryz.prog.cellsOf 22=1:=by kernel_rfl
 obtain ⟨l⟩:=cs
 match l,hsz with
 | [c1,c2,c3,c4],_=>
  match zs,hlen with
  | [z0,z1,z2,z3],_=>
   have f0:DataW.trod enc Tryz.prog W 0 (fun _=>true) held n 3 [c1]=some z0:=by have:=hf 0 _ rfl;simpa [k3] using this
   have f1:DataW.trod enc Tryz.prog W 0 (fun _=>true) held n 3 [c2]=some z1:=by have:=hf 1 _ rfl;simpa [k3] using this
   have f2:DataW.trod enc Tryz.prog W 0 (fun _=>true) held n 3 [c3]=some z2:=by have:=hf 2 _ rfl;simpa [k3] using this
   have f3:DataW.trod enc Tryz.prog W 0 (fun _=>true) held n 22 [c4]=some z3:=by have:=hf 3 _ rfl;simpa [k29] using this
   obtain ⟨h0,e0,-,w0⟩:=DataW.trod_int Tryz.underlying3 f0
   obtain ⟨p0,e1,-,w1⟩:=DataW.trod_int Tryz.underlying3 f1
   obtain ⟨m0,e2,-,w2⟩:=DataW.trod_int Tryz.underlying3 f2
   obtain ⟨s0,e3,-,w3⟩:=DataW.trod_int Tryz.underlying22 f3
   obtain rfl:c1 = .int .i64 h0:=by simpa using e0
   obtain rfl:c2 = .int .i64 p0:=by simpa using e1
   obtain rfl:c3 = .int .i64 m0:=by simpa using e2
   obtain rfl:c4 = .int .u32 s0:=by simpa using e3
   have hsb:=_root_.Go.bounds_u32 w3
   refine ⟨⟨h0,p0,m0,s0.toNat⟩,?_,by simp only;omega⟩
   show Value.agg #[.int .i64 h0,.int .i64 p0,.int .i64 m0,.int .u32 s0]=Value.agg #[.int .i64 h0,.int .i64 p0,.int .i64 m0,.int .u32 ((s0.toNat:Nat):Int)]
   rw [show ((s0.toNat:Nat):Int)=s0 by omega]
theorem contract (H:Type) (enc:TypeId×Value→H) (W:World) (base:Nat) (args:Array Value) (ds gs:List (DataW H)) (before:List MemPlace)
  (hval:∀ (j:Nat) t v,Tryz.f3.params[j]? = some t→args[j]? = some v→Value.okWide Tryz.prog W .any base t v)
  (hW:DataW.Whole enc Tryz.prog Tryz.f3.params.toList Rows.accelNoneSpec.vars false W args.toList ds gs before)
  (hL:laidMetH Tryz.prog Rows.accelNoneRow.laid W) :
  Calls Tryz.prog 3 args W fun e W'=>∃ v,e = .returned v∧Rows.accelNoneSpec.post enc Tryz.prog Tryz.f3 false true false false W args v W':=by
 have htab:Ch.Tab W:=tab_of_laid hL
 have herr:Ch.Errs W:=errs_of_laid hL
 have hW':=hW
 obtain ⟨p,q,hA0,hV,rfl,hfz,hnd⟩:=hW
 have hA:DataW.TrodAll enc Tryz.prog W 0 (fun _=>true) true Tryz.f3.params.toList args.toList ds p:=hA0
 rw [Tryz.params3]at hA hval
 obtain ⟨v0,vs0,d0,ds0,p0,q0,hargs,rfl,rfl,h0,r0⟩:=trodAll_cons hA
 obtain ⟨v1,vs1,d1,ds1,p1,q1,rfl,rfl,rfl,h1,r1⟩:=trodAll_cons r0
 obtain ⟨v2,vs2,d2,ds2,p2,q2,rfl,rfl,rfl,h2,r2⟩:=trodAll_cons r1
 obtain ⟨rfl,rfl,rfl⟩:=trodAll_nil r2
 obtain rfl:args = #[v0,v1,v2]:=by cases args;simp_all
 obtain ⟨rfl,rfl⟩:=trodVars_none hV
 obtain ⟨n,rfl,rfl,rfl,wn⟩:=open_int Tryz.underlying3 (hval 0 3 v0 rfl rfl) h0
 obtain ⟨s,rfl,rfl,rfl,hsm⟩:=Go.ChangeMaps.open_string Tryz.underlying9 (hval 1 9 v1 rfl rfl) h1
 obtain ⟨cs2,rfl,hcz2⟩:=okWide_struct Tryz.underlying24 (hval 2 24 v2 rfl rfl)
 have k2:=h2
 have lt2:∀ x∈p2,x.block<W.heap.size:=by obtain ⟨m,hm⟩:=k2;exact DataW.trod_lt m _ _ _ hm
 obtain ⟨g,hgv,hsd⟩:∃ g:Stg,Value.agg cs2=stgv g∧g.seed<4294967296:=by
  obtain ⟨fuel,hf⟩:=h2
  exact isStg (hcz2.trans (by kernel_rfl)) hf
 clear hA0
 have con:=accelnone_any n s g hsd W fun X t=>⟨htab.turned t,herr.turned t⟩
 rw [←hgv]at con
 refine con.mono fun e W' ⟨he,ht⟩=>?_
 have bel:Below W.heap.size W W':=ht.below (fun _ _ q=>q) (Nat.le_refl _)
 subst he
 exact ⟨_,rfl,_,_,_,[],_,[],hW',trodAll_mk1 (shut_bool Tryz.underlying4 _),(trodAll_cons_mk (shut_int Tryz.underlying3 wn) (trodAll_cons_mk (Go.ChangeMaps.shut_string Tryz.underlying9 hsm) (trodAll_cons_mk (Below.trod laidOut (by kernel_rfl) (of_decide_eq_true (by kernel_rfl)) k2 bel lt2) trodAll_mk0))),rfl,bel.frame _,fun h=>by cases h⟩
theorem laid_met (os:Os):laidMet Tryz.prog Rows.accelNoneRow.laid ((laidWorldE os).forCall (fun _ _=>0) ⟨#[],#[.int .i64 0,.string ⟨#[]⟩,.agg #[.int .i64 0,.int .i64 0,.int .i64 0,.int .u32 0]],[]⟩).memory:=
 laidMet_of_run' 8 (by kernel_rfl) (by kernel_rfl)
theorem reads (os:Os) {H:Type} (enc:TypeId×Value→H):∃ places,DataW.whole enc Tryz.prog ((laidWorldE os).forCall (fun _ _=>0) ⟨#[],#[.int .i64 0,.string ⟨#[]⟩,.agg #[.int .i64 0,.int .i64 0,.int .i64 0,.int .u32 0]],[]⟩).memory Tryz.f3.params.toList Rows.accelNoneSpec.vars false #[Value.int .i64 0,Value.string ⟨#[]⟩,Value.agg #[.int .i64 0,.int .i64 0,.int .i64 0,.int .u32 0]].toList 8=some ([.lit (.int .i64 0),.lit (.string []),.agg [.lit (.int .i64 0),.lit (.int .i64 0),.lit (.int .i64 0),.lit (.int .u32 0)]],[],places):=
 ⟨[],by kernel_rfl⟩
theorem lifted (os:Os) (started:os.Started) (H:Type) (enc:TypeId×Value→H) (F:Stop.Interp) :
  ReturnsInHanded {} Tryz.checked os 3 .any ((OpenSpec.ofChange Rows.accelNoneSpec).preRow enc Tryz.prog Tryz.f3 Rows.accelNoneRow.domain false Rows.accelNoneRow.laid) (((OpenSpec.ofChange Rows.accelNoneSpec).at F).post enc Tryz.prog Tryz.f3 false true false false):=by
 obtain ⟨places,hx⟩:=reads os enc
 refine returnsInHanded_of_row (C:=Tryz.checked) (s:=OpenSpec.ofChange Rows.accelNoneSpec) own started (by kernel_rfl) Tryz.func3
  (witness_row_at (enc := enc) (C := Tryz.checked) false (laidWorldE os) #[.int .i64 0, .string ⟨#[]⟩, .agg #[.int .i64 0, .int .i64 0, .int .i64 0, .int .u32 0]] rfl (by kernel_rfl) (by kernel_rfl) (by kernel_rfl)
   (OpenSpec.preRow_of_cond 8 hx (by kernel_rfl) (fun k hk=>by cases hk) (by kernel_rfl) (laid_met os))) ?_
 intro W base args ds gs before hval hW _ _ hwt hL _ _
 exact contract H enc W base args ds gs before hval hW hL
theorem said:Rows.AccelNoneSaid:=
 OpenClaim.holds_of_cond 3 Tryz.f3 rfl rfl rfl rfl rfl rfl rfl ⟨rfl,rfl,rfl,rfl,rfl⟩ rfl rfl rfl rfl rfl (by kernel_rfl) Tryz.func3 joined
  (of_decide_eq_true (by kernel_rfl)) (by unfold Func.isWrapper;first|(rw [if_pos (by decide +kernel)];kernel_rfl)|(rw [if_neg (by decide +kernel)];exact ⟨rfl,rfl⟩))
  (fun os started H enc _ F=>by rw [OpenClaim.pre_eq_preRow];exact lifted os started H enc F)
theorem plain (f:FuncId) (fn:Func) (hf:Tryz.pinned.checked.prog.funcNamed "pedigree/pedigreelaw17.AccelNone" = some f) (hfn:Tryz.pinned.checked.prog.funcs[f]? = some fn) :
  true=Tryz.pinned.checked.prog.looks []∧∀ (j:Nat) t,fn.params[j]? = some t→Tryz.pinned.checked.prog.wantsStandIn t=false:=by
 obtain rfl:f=3:=Option.some.inj ((show Tryz.prog.funcNamed "pedigree/pedigreelaw17.AccelNone" = some 3 by kernel_rfl).symm.trans hf) |>.symm
 obtain rfl:fn=Tryz.f3:=(Option.some.inj (Tryz.func3.symm.trans hfn)).symm
 refine ⟨by kernel_rfl,fun j t ht=>?_⟩
 rw [Tryz.params3]at ht
 have hm:t=3∨t=9∨t=24:=by simpa using Array.mem_of_getElem? ht
 rcases hm with rfl|rfl|rfl
 ·exact (show Tryz.prog.wantsStandIn 3=false by kernel_rfl)
 ·exact (show Tryz.prog.wantsStandIn 9=false by kernel_rfl)
 ·exact (show Tryz.prog.wantsStandIn 24=false by kernel_rfl)
theorem proved:Rows.AccelNoneCardSaid:=
 Claim7.holds_tied_plain_at .later [] _ _ _ _ said (fun _ h=>by cases h) (by kernel_rfl) (fun _ h=>by cases h) accelNone_row_tie rfl ⟨rfl,rfl⟩ (by kernel_rfl) rfl plain goes
end Go.Proofs.YtofcogekgcgjhaaGreatDoor.accelNone

/- Packed. -/
import Derived.Test.YtofcogekgcgjhaaGreatDoorRows
import Derived.Test.YtofcogekgcgjhaaGreatDoorZzah
import Derived.ProofKit
import Derived.OpenShut
import Derived.Deep.DeepHandedRow
import Derived.Lib.LaidTab
import Derived.Stop.LaidErr
import Derived.ChangeMaps5
set_option maxRecDepth 100000
namespace Go.Proofs.YtofcogekgcgjhaaGreatDoor
open Go.RowKit Go.Mine Go.Proofs.Tryz
theorem own:ownKnob prog.godebug=none:=by kernel_rfl
theorem gPow:prog.globalNamed "internal/strconv.uint64pow10" =some 2:=by kernel_rfl
theorem gPowType:(prog.globals[2]?).map (·.type)=some 393:=by kernel_rfl
theorem cells393:prog.cellsOf 393=20:=by kernel_rfl
theorem cells265:prog.cellsOf 265=1:=by kernel_rfl
theorem qK{rest:List (String×DataW Unit)}{a b:String×DataW Unit}{W:World}(h:laidMet prog (a::b::("internal/strconv.uint64pow10",Rows.laid_internal_strconv_uint64pow10)::rest) W):Ch.jr W:=by
 have h:Lib.TabIs prog W "internal/strconv.uint64pow10" .u64 Lib.pow10Tab:=(Lib.tabIs_of_head (rest:=rest) gPow gPowType underlying393 underlying265 cells265 cells393 h.tail.tail);unfold Lib.TabIs World.var? at h;obtain⟨g,h1,h2⟩:=Option.bind_eq_some_iff.1 h;split at h2
 ·rename_i c T f d;exact⟨g,c,T,f,h1,d,Option.some.inj h2⟩
 ·simp at h2
theorem gES:prog.globalNamed "strconv.ErrSyntax" =some 0:=by kernel_rfl
theorem gESType:(prog.globals[0]?).map (·.type)=some 290:=by kernel_rfl
theorem gER:prog.globalNamed "strconv.ErrRange" =some 1:=by kernel_rfl
theorem gERType:(prog.globals[1]?).map (·.type)=some 290:=by kernel_rfl
theorem cells401:prog.cellsOf 401=1:=by kernel_rfl
theorem cells9:prog.cellsOf 9=1:=by kernel_rfl
theorem qL: "*" ++ "errors.errorString" = "*errors.errorString" :=by decide
theorem zm(a:TypeId)(h:prog.typeName? 3 a=some "*errors.errorString"):a=399:=typeName_ptr_named (nm:= "errors.errorString") (by rw[qL];kernel_rfl) (by kernel_rfl) (by decide) a (by rw[qL];exact h)
theorem oB{rest:List (String×DataW Unit)}{a b c:String×DataW Unit}{W:World}(h:laidMet prog (a::b::c::("strconv.ErrRange",Rows.laid_strconv_ErrRange)::("strconv.ErrSyntax",Rows.laid_strconv_ErrSyntax)::rest) W):Ch.ia W:=by obtain⟨f,i,d,-,-,-⟩:=laid_sentinel h.tail.tail.tail gER gERType underlying290 zm underlying399 underlying401 rfl rfl underlying9 cells401 cells9;obtain⟨g,j,e,-,-,-⟩:=laid_sentinel h.tail.tail.tail.tail gES gESType underlying290 zm underlying399 underlying401 rfl rfl underlying9 cells401 cells9;exact⟨⟨_,_,e⟩,_,_,d⟩
def Ev(c:Array Value):Obj->Obj
 | .cells _ t a=>.cells c t a
 |o=>o
abbrev synS:ByteArray:={data:=#[105,110,118,97,108,105,100,32,115,121,110,116,97,120]}
abbrev rngS:ByteArray:={data:=#[118,97,108,117,101,32,111,117,116,32,111,102,32,114,97,110,103,101]}
noncomputable def low:Nat:=(World.holding prog default ⟨#[],#[],[]⟩).heap.size
noncomputable def ie(os:Os):World:=
 let a:=World.holding prog os ⟨#[.cells #[.string synS] 401,.cells #[.string rngS] 401],#[],[]⟩
 {a with heap:=((((a.heap.modify 2 (Ev #[.int .u64 1,.int .u64 10,.int .u64 100,.int .u64 1000,.int .u64 10000,.int .u64 100000,.int .u64 1000000,.int .u64 10000000,.int .u64 100000000,.int .u64 1000000000,.int .u64 10000000000,.int .u64 100000000000,.int .u64 1000000000000,.int .u64 10000000000000,.int .u64 100000000000000,.int .u64 1000000000000000,.int .u64 10000000000000000,.int .u64 100000000000000000,.int .u64 1000000000000000000,.int .u64 10000000000000000000])).modify 4 (Ev #[.int .u8 0,.int .u8 1,.int .u8 28,.int .u8 2,.int .u8 29,.int .u8 14,.int .u8 24,.int .u8 3,.int .u8 30,.int .u8 22,.int .u8 20,.int .u8 15,.int .u8 25,.int .u8 17,.int .u8 4,.int .u8 8,.int .u8 31,.int .u8 27,.int .u8 13,.int .u8 23,.int .u8 21,.int .u8 19,.int .u8 16,.int .u8 7,.int .u8 26,.int .u8 12,.int .u8 18,.int .u8 6,.int .u8 11,.int .u8 5,.int .u8 10,.int .u8 9])).modify 5 (Ev #[.int .u8 0,.int .u8 1,.int .u8 56,.int .u8 2,.int .u8 57,.int .u8 49,.int .u8 28,.int .u8 3,.int .u8 61,.int .u8 58,.int .u8 42,.int .u8 50,.int .u8 38,.int .u8 29,.int .u8 17,.int .u8 4,.int .u8 62,.int .u8 47,.int .u8 59,.int .u8 36,.int .u8 45,.int .u8 43,.int .u8 51,.int .u8 22,.int .u8 53,.int .u8 39,.int .u8 33,.int .u8 30,.int .u8 24,.int .u8 18,.int .u8 12,.int .u8 5,.int .u8 63,.int .u8 55,.int .u8 48,.int .u8 27,.int .u8 60,.int .u8 41,.int .u8 37,.int .u8 16,.int .u8 46,.int .u8 35,.int .u8 44,.int .u8 21,.int .u8 52,.int .u8 32,.int .u8 23,.int .u8 11,.int .u8 54,.int .u8 26,.int .u8 40,.int .u8 15,.int .u8 34,.int .u8 20,.int .u8 31,.int .u8 10,.int .u8 25,.int .u8 14,.int .u8 19,.int .u8 9,.int .u8 13,.int .u8 8,.int .u8 7,.int .u8 6])).modify 0 (Ev #[.iface 399 (.pointer (some ⟨low,0,none⟩))])).modify 1 (Ev #[.iface 399 (.pointer (some ⟨low+1,0,none⟩))])}
end Go.Proofs.YtofcogekgcgjhaaGreatDoor

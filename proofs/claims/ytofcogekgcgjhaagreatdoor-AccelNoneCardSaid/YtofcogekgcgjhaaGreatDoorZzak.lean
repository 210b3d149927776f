/- Packed. -/
import Derived.Test.YtofcogekgcgjhaaGreatDoorZzah
import Derived.Test.YtofcogekgcgjhaaGreatDoorZzaj
import Derived.Shelf.Strconv.AtoiAll
import Derived.Shelf.Strconv.ErrVarAll
import Derived.Lib.ConvBytes
set_option linter.unusedVariables false
set_option linter.unusedSimpArgs false
set_option maxRecDepth 100000
namespace Go.Proofs.YtofcogekgcgjhaaGreatDoor.Ch
open Go.RowKit Go.Mine
def Errs (w:World):Prop:=(∃ tp p,w.var? Tryz.prog "strconv.ErrSyntax" = some #[.iface tp p])∧∃ tp p,w.var? Tryz.prog "strconv.ErrRange" = some #[.iface tp p]
theorem var_turned {w w' : World} {name:String} {v:Value} (h:w.var? Tryz.prog name=some #[v]) (ht:Turned (fun _=>False) w w'):w'.var? Tryz.prog name=some #[v]:=by
 unfold World.var? at h ⊢
 obtain ⟨g,h1,h2⟩:=Option.bind_eq_some_iff.1 h
 rw [h1,Option.bind_some]
 have hg:g<w.heap.size:=by
  split at h2
  ·rename_i hc;exact lt_of_block hc
  ·simp at h2
 rw [ht.block g hg fun q=>q]
 exact h2
theorem Errs.turned {w w' : World} (h:Errs w) (ht:Turned (fun _=>False) w w'):Errs w':=by
 obtain ⟨⟨t1,p1,h1⟩,t2,p2,h2⟩:=h
 exact ⟨⟨t1,p1,var_turned h1 ht⟩,t2,p2,var_turned h2 ht⟩
theorem below_turned {w w' : World} (h:Below w.heap.size w w'):Turned (fun _=>False) w w':=⟨h.os,h.tape,h.output,h.size,fun b hb _=>h.block b hb⟩
theorem atoi_any (s:ByteArray) (w:World) (he:Errs w) (hs:s.size≤281474976710656) :
  Calls Tryz.prog 229 #[.string s] w fun e w'=>Turned (fun _=>False) w w'∧((∃ v,Lib.atoiAll s.data.toList = .ok v∧e = .returned (.tuple #[.int .i64 v,.nilIface]))∨((∀ v,Lib.atoiAll s.data.toList ≠ .ok v)∧∃ n t p,e = .returned (.tuple #[.int .i64 n,.iface t p]))):=by
 obtain ⟨⟨t1,p1,h1⟩,t2,p2,h2⟩:=he
 cases h:Lib.atoiAll s.data.toList with
 |ok v=>
  refine (Any.strconv_Atoi_ok Tryz.atoiLays s (by omega) v h w).mono fun e w' ⟨he,hw⟩=>⟨?_,.inl ⟨v,rfl,he⟩⟩
  rcases hw with rfl|⟨t,rfl⟩
  ·exact Turned.refl _ _
  ·exact ⟨rfl,rfl,rfl,by rw [Lib.bytesWorld_size];omega,fun j hj _=>Lib.bytesWorld_at_old w _ t j hj⟩
 |range=>
  refine (Any.strconv_Atoi_range_var Tryz.atoiLays s hs h t2 p2 w h2).mono fun e w' ⟨N,he,_,_,hb⟩=>⟨below_turned hb,.inr ⟨fun v q=>by simp at q,_,_,_,he⟩⟩
 |_=>
  refine (Any.strconv_Atoi_syntax_var Tryz.atoiLays s hs h t1 p1 w h1).mono fun e w' ⟨N,he,_,_,hb⟩=>⟨below_turned hb,.inr ⟨fun v q=>by simp at q,_,_,_,he⟩⟩
def cutV (x:ByteArray):Value:=if x.extract 0 6=prefBA then .tuple #[.string (x.extract 6 x.size),.bool true] else .tuple #[.string x,.bool false]
theorem front_any (x:ByteArray) (w:World) (hs:x.size≤4611686018427387904):Calls Tryz.prog 205 #[.string x,.string prefBA] w fun e w'=>e = .returned (.bool (decide (x.extract 0 6=prefBA)))∧w=w':=by
 by_cases h6:6≤x.size
 ·have hd : decide ((6 : Int) ≤ (x.size : Int)) = true := by simp; omega
  have hd2:decide (6≤x.size)=true:=by simp;omega
  have hsl:∀ W,(Instr.slice 9 (.string x) none (some (.int .i64 6)) none).run Tryz.prog W = .ok (.string (x.extract 0 6)) W:=fun W=>by
   have:=run_slice_string_h (P:=Tryz.prog) W 9 x Tryz.underlying9 .i64 6 (by omega) (by omega)
   exact this
  unfold prefBA
  generalize x.extract 0 6=f at *
  by_cases hf:f=⟨#[103,114,97,112,104,45]⟩
  ·subst hf
   clear h6 hs
   go_enter Tryz.func205,Tryz.ntmps205
   go_wp2
   go_ret
   exact ⟨by simp,rfl⟩
  ·rw [show decide (f = ⟨#[103, 114, 97, 112, 104, 45]⟩) = false by simp [hf]]
   have hne:=ba_ne f [103,114,97,112,104,45] hf
   have hne2:=ba_ne2 f ⟨#[103,114,97,112,104,45]⟩ hf
   clear h6 hs hf
   go_enter Tryz.func205,Tryz.ntmps205
   go_wp2
   go_ret
   exact ⟨rfl,rfl⟩
 ·have hd : decide ((6 : Int) ≤ (x.size : Int)) = false := by simp; omega
  have hd2:decide (6≤x.size)=false:=by simp;omega
  have hne:x.extract 0 6≠prefBA:=by
   intro q
   have:=congrArg ByteArray.size q
   rw [ByteArray.size_extract]at this
   have h2:prefBA.size=6:=rfl
   omega
  rw [show decide (x.extract 0 6=prefBA)=false by simp [hne]]
  unfold prefBA
  clear h6 hs hne
  go_enter Tryz.func205,Tryz.ntmps205
  go_wp2
  go_ret
  exact ⟨rfl,rfl⟩
theorem cut_any (x:ByteArray) (w:World) (hs:x.size≤4611686018427387904):Calls Tryz.prog 228 #[.string x,.string prefBA] w fun e w'=>e = .returned (cutV x)∧w=w':=by
 have hf:=front_any x w hs
 have hin:Calls Tryz.prog 304 #[.string x,.string prefBA] w fun e w'=>e = .returned (cutV x)∧w=w':=by
  unfold cutV
  by_cases h:x.extract 0 6=prefBA
  ·have h6 : 6 ≤ x.size := by
    have:=congrArg ByteArray.size h
    rw [ByteArray.size_extract]at this
    have h2:prefBA.size=6:=rfl
    omega
   have hsl:∀ W,(Instr.slice 9 (.string x) (some (.int .i64 6)) none none).run Tryz.prog W = .ok (.string (x.extract 6 x.size)) W:=fun W=>by
    have:=run_slice_string_l (P:=Tryz.prog) W 9 x Tryz.underlying9 .i64 6 (by omega) (by omega)
    exact this
   rw [if_pos h]
   rw [show decide (x.extract 0 6=prefBA)=true by simp [h]]at hf
   generalize x.extract 6 x.size=y at *
   unfold prefBA at hf ⊢
   clear h h6 hs
   go_enter Tryz.func304,Tryz.ntmps304
   go_wp2_with (go_at_call 205;(with_reducible refine hf.mono ?_);rintro e w1 ⟨rfl,rfl⟩)
   go_ret2
   exact ⟨rfl,rfl⟩
  ·rw [if_neg h]
   rw [show decide (x.extract 0 6=prefBA)=false by simp [h]]at hf
   unfold prefBA at hf ⊢
   clear h hs
   go_enter Tryz.func304,Tryz.ntmps304
   go_wp2_with (go_at_call 205;(with_reducible refine hf.mono ?_);rintro e w1 ⟨rfl,rfl⟩)
   go_ret2
   exact ⟨rfl,rfl⟩
 clear hf
 obtain ⟨a,b,hab⟩:∃ a b,cutV x = .tuple #[.string a,.bool b]:=by
  unfold cutV
  split
  ·exact ⟨_,_,rfl⟩
  ·exact ⟨_,_,rfl⟩
 rw [hab]at hin ⊢
 unfold prefBA at hin ⊢
 clear hab hs
 go_enter Tryz.func228,Tryz.ntmps228
 go_wp2_with (go_at_call 304;(with_reducible refine hin.mono ?_);rintro e w1 ⟨rfl,rfl⟩)
 go_ret2
 exact ⟨rfl,rfl⟩
def numV (r:Int×Bool):Value:=.tuple #[.int .i64 r.1,.bool r.2]
def pickN (x:ByteArray):Lib.NumEnd Int→Int×Bool
 | .ok v=>if nameS v=x then (v,true) else (0,false)
 |_=>(0,false)
theorem progN_pick (x:ByteArray) (hp:x.extract 0 6=prefBA):progN x=pickN x (Lib.atoiAll (x.extract 6 x.size).data.toList):=by
 unfold progN
 rw [if_pos hp]
 cases Lib.atoiAll (x.extract 6 x.size).data.toList <;> rfl
set_option maxHeartbeats 2000000 in
theorem nnumber_any (x:ByteArray) (w:World) (ht:Tab w) (he:Errs w) (hs:x.size≤281474976710656) :
  Calls Tryz.prog 138 #[.string x] w fun e w'=>e = .returned (numV (progN x))∧Turned (fun _=>False) w w':=by
 have hcut:=cut_any x w (by omega)
 by_cases hp:x.extract 0 6=prefBA
 ·have hcv : cutV x = .tuple #[.string (x.extract 6 x.size), .bool true] := by unfold cutV; rw [if_pos hp]
  rw [hcv]at hcut
  have hat:=atoi_any (x.extract 6 x.size) w he (by rw [ByteArray.size_extract];omega)
  have hpn:=progN_pick x hp
  unfold prefBA at hcut
  generalize x.extract 6 x.size=d at *
  cases ha:Lib.atoiAll d.data.toList with
  |ok v=>
   have hvb:=Lib.atoiAll_bounds ha
   rw [ha]at hpn
   simp only [pickN]at hpn
   have HA:Hid (∀ (e:Ending) (w' : World),(Turned (fun _=>False) w w'∧((∃ v,Lib.atoiAll d.data.toList = .ok v∧e = .returned (.tuple #[.int .i64 v,.nilIface]))∨((∀ v,Lib.atoiAll d.data.toList ≠ .ok v)∧∃ n t p,e = .returned (.tuple #[.int .i64 n,.iface t p]))))→e = .returned (.tuple #[.int .i64 v,.nilIface])∧Turned (fun _=>False) w w'):=by
    have:∀ (e:Ending) (w' : World),(Turned (fun _=>False) w w'∧((∃ v,Lib.atoiAll d.data.toList = .ok v∧e = .returned (.tuple #[.int .i64 v,.nilIface]))∨((∀ v,Lib.atoiAll d.data.toList ≠ .ok v)∧∃ n t p,e = .returned (.tuple #[.int .i64 n,.iface t p]))))→e = .returned (.tuple #[.int .i64 v,.nilIface])∧Turned (fun _=>False) w w':=fun e w' ⟨h1,h2⟩=>by
     rcases h2 with ⟨v',h3,h4⟩|⟨h3,-⟩
     ·rw [ha] at h3
      injection h3 with h3
      subst h3
      exact ⟨h4,h1⟩
     ·exact absurd ha (h3 v)
    exact this
   have hat2:Calls Tryz.prog 229 #[.string d] w fun e w'=>e = .returned (.tuple #[.int .i64 v,.nilIface])∧Turned (fun _=>False) w w':=hat.mono HA.out
   have NM:Hid (∀ W,Turned (fun _=>False) w W→Calls Tryz.prog 128 #[.int .i64 v] W fun e w'=>e = .returned (.string (nameS v))∧Turned (fun _=>False) W w'):=fun W h=>name_any v hvb W (ht.turned h)
   by_cases hn:nameS v=x
   ·rw [if_pos hn] at hpn
    have HR:Hid (progN x=(v,true)):=hpn
    rw [hn]at NM
    clear hpn hp hcv hat ha hvb HA hn ht he hs
    go_enter Tryz.func138,Tryz.ntmps138
    go_wp2_with (first
     |(go_at_call 228;(with_reducible refine hcut.mono ?_);rintro e w1 ⟨rfl,rfl⟩)
     |(go_at_call 229;(with_reducible refine hat2.mono ?_);rintro e w2 ⟨rfl,ht2⟩;have T2:Hid (Turned (fun _=>False) w w2):=ht2;have h13:=NM.out w2 ht2;clear ht2)
     |(go_at_call 128;(with_reducible refine h13.mono ?_);rintro e w3 ⟨rfl,ht3⟩))
    go_ret2
    exact ⟨by rw [HR.out];rfl,T2.out.trans ht3 fun _ _ q=>q⟩
   ·rw [if_neg hn] at hpn
    have HR:Hid (progN x=(0,false)):=hpn
    have hne:=ba_ne2 _ _ hn
    generalize nameS v=y at *
    clear hpn hp hcv hat ha hvb HA hn ht he hs
    go_enter Tryz.func138,Tryz.ntmps138
    go_wp2_with (first
     |(go_at_call 228;(with_reducible refine hcut.mono ?_);rintro e w1 ⟨rfl,rfl⟩)
     |(go_at_call 229;(with_reducible refine hat2.mono ?_);rintro e w2 ⟨rfl,ht2⟩;have T2:Hid (Turned (fun _=>False) w w2):=ht2;have h13:=NM.out w2 ht2;clear ht2)
     |(go_at_call 128;(with_reducible refine h13.mono ?_);rintro e w3 ⟨rfl,ht3⟩))
    go_ret2
    exact ⟨by rw [HR.out];rfl,T2.out.trans ht3 fun _ _ q=>q⟩
  |range=>
   rw [ha]at hpn
   have HR:Hid (progN x=(0,false)):=hpn
   have hat2:Calls Tryz.prog 229 #[.string d] w fun e w'=>∃ n t p,e = .returned (.tuple #[.int .i64 n,.iface t p])∧Turned (fun _=>False) w w':=hat.mono fun e w' ⟨h1,h2⟩=>by
    rcases h2 with ⟨v',h3,h4⟩|⟨-,n,t,p,h4⟩
    ·rw [ha]at h3;simp at h3
    ·exact ⟨n,t,p,h4,h1⟩
   clear hpn hp hcv hat ha ht he hs
   go_enter Tryz.func138,Tryz.ntmps138
   go_wp2_with (first
    |(go_at_call 228;(with_reducible refine hcut.mono ?_);rintro e w1 ⟨rfl,rfl⟩)
    |(go_at_call 229;(with_reducible refine hat2.mono ?_);rintro e w2 ⟨n,t,p,rfl,ht2⟩))
   go_ret2
   exact ⟨by rw [HR.out];rfl,ht2⟩
  |_=>
   rw [ha]at hpn
   have HR:Hid (progN x=(0,false)):=hpn
   have hat2:Calls Tryz.prog 229 #[.string d] w fun e w'=>∃ n t p,e = .returned (.tuple #[.int .i64 n,.iface t p])∧Turned (fun _=>False) w w':=hat.mono fun e w' ⟨h1,h2⟩=>by
    rcases h2 with ⟨v',h3,h4⟩|⟨-,n,t,p,h4⟩
    ·rw [ha]at h3;simp at h3
    ·exact ⟨n,t,p,h4,h1⟩
   clear hpn hp hcv hat ha ht he hs
   go_enter Tryz.func138,Tryz.ntmps138
   go_wp2_with (first
    |(go_at_call 228;(with_reducible refine hcut.mono ?_);rintro e w1 ⟨rfl,rfl⟩)
    |(go_at_call 229;(with_reducible refine hat2.mono ?_);rintro e w2 ⟨n,t,p,rfl,ht2⟩))
   go_ret2
   exact ⟨by rw [HR.out];rfl,ht2⟩
 ·have hcv : cutV x = .tuple #[.string x, .bool false] := by unfold cutV; rw [if_neg hp]
  rw [hcv]at hcut
  have HR:Hid (progN x=(0,false)):=by
   have:progN x=(0,false):=by unfold progN;rw [if_neg hp]
   exact this
  have hat2:Calls Tryz.prog 229 #[.string x] w fun e w'=>∃ n v,e = .returned (.tuple #[.int .i64 n,v])∧Turned (fun _=>False) w w':=(atoi_any x w he hs).mono fun e w' ⟨h1,h2⟩=>by
   rcases h2 with ⟨v',h3,h4⟩|⟨-,n,t,p,h4⟩
   ·exact ⟨_,_,h4,h1⟩
   ·exact ⟨_,_,h4,h1⟩
  unfold prefBA at hcut
  clear hp hcv ht he hs
  go_enter Tryz.func138,Tryz.ntmps138
  go_wp2_with (first
   |(go_at_call 228;(with_reducible refine hcut.mono ?_);rintro e w1 ⟨rfl,rfl⟩)
   |(go_at_call 229;(with_reducible refine hat2.mono ?_);rintro e w2 ⟨n,v,rfl,ht2⟩))
  go_ret2
  exact ⟨by rw [HR.out];rfl,ht2⟩
end Go.Proofs.YtofcogekgcgjhaaGreatDoor.Ch

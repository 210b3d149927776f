/- Packed. -/
import GoSem.Core.Next
import Derived.Shelf.LaysM
import Derived.Ground.NamesProg
import Derived.Test.YtofcogekgcgjhaaGreatDoorProg
import Derived.Shelf.LaysC
import Derived.Shelf.SlLaysF0
import Derived.Ground.SlsfProg
import Derived.Shelf.SlLaysW
import Derived.Ground.SlmcProg
import Derived.Shelf.SlLaysM
import Derived.Ground.SlgmProg
set_option maxRecDepth 100000
namespace Go.Mine.Crc
def turn(c:Nat):Nat:=if c% 2=1 then(c / 2)^^^3988292384 else c / 2
def turns:Nat->Nat->Nat
 |0,c=>c
 |k+1,c=>turns k (turn c)
theorem turns_succ(k c:Nat):turns (k+1) c=turn (turns k c):=by
 induction k generalizing c with|zero=>rfl|succ k a=>exact a (turn c)
theorem yT(a b:Nat):turn (a^^^b)=turn a^^^turn b:=by
 have h2:(a^^^b) / 2=a / 2^^^b / 2:=Nat.xor_div_two;have e:(a^^^b)% 2=(a% 2+b% 2)% 2:=by have:=Nat.xor_mod_two_eq_one (a:=a) (b:=b);omega
 unfold turn;rw[h2,e];rcases Nat.mod_two_eq_zero_or_one a with c|c<;>rcases Nat.mod_two_eq_zero_or_one b with d|d<;>simp only[c,d]<;>simp
 ·rw[Nat.xor_assoc]
 ·rw[Nat.xor_assoc,Nat.xor_assoc,Nat.xor_comm (b / 2)]
 ·rw[Nat.xor_assoc,Nat.xor_comm 3988292384,Nat.xor_assoc,Nat.xor_self,Nat.xor_zero]
theorem xg(k a b:Nat):turns k (a^^^b)=turns k a^^^turns k b:=by
 induction k generalizing a b with|zero=>rfl|succ k c=>rw[turns,yT,c];rfl
theorem qs(x:Nat):turn (2*x)=x:=by
 unfold turn;have:2*x% 2=0:=by omega
 simp[this]
theorem qt(k x:Nat):turns k (2^k*x)=x:=by
 induction k generalizing x with
 |zero=>simp[turns]
 |succ k a=>
  have:2^(k+1)*x=2*(2^k*x):=by rw[Nat.pow_succ];rw[Nat.mul_comm (2^k) 2,Nat.mul_assoc]
  rw[turns,this,qs,a]
theorem DG(c:Nat):c=(c% 256)^^^(2^8*(c / 256)):=by
 apply Nat.eq_of_testBit_eq;intro i;rw[Nat.testBit_xor,show(256:Nat)=2^8 from rfl,Nat.testBit_mod_two_pow,Nat.testBit_two_pow_mul,Nat.testBit_div_two_pow];by_cases h:i<8
 ·have a:¬8<=i:=by omega
  simp[h,a]
 ·have a:8<=i:=by omega
  simp[h,a,Nat.sub_add_cancel a]
theorem DH(c:Nat):turns 8 c=turns 8 (c% 256)^^^(c / 256):=by
 conv=>lhs;rw[DG c]
 rw[xg,qt]
theorem AZ(c:Nat)(h:c<2^32):turn c<2^32:=by
 unfold turn;split
 ·exact Nat.xor_lt_two_pow (by omega) (by decide)
 ·omega
theorem turns_lt(k c:Nat)(h:c<2^32):turns k c<2^32:=by
 induction k generalizing c with|zero=>exact h|succ k a=>exact a _ (AZ c h)
def feed:Nat->List Nat->Nat
 |c,[]=>c
 |c,b::bs=>feed (turns 8 (c^^^b)) bs
theorem feed_append(c:Nat)(a b:List Nat):feed c (a++b)=feed (feed c a) b:=by
 induction a generalizing c with|nil=>rfl|cons x a d=>exact d _
theorem feed_lt(c:Nat)(bs:List Nat)(d:c<2^32)(a:∀b∈bs,b<256):feed c bs<2^32:=by
 induction bs generalizing c with|nil=>exact d|cons b bs e=>refine e _ (turns_lt 8 _ (Nat.xor_lt_two_pow d ?_)) (fun x hx=>a x (List.mem_cons_of_mem _ hx));have:=a b List.mem_cons_self;omega
theorem step_table(c b:Nat)(d:b<256):turns 8 (c^^^b)=turns 8 ((c% 256)^^^b)^^^(c / 256):=by
 rw[DH];have h1:(c^^^b)% 256=(c% 256)^^^b:=by rw[show(256:Nat)=2^8 from rfl,Nat.xor_mod_two_pow,Nat.mod_eq_of_lt (a:=b) (by omega)]
 have h2:(c^^^b) / 256=c / 256:=by rw[show(256:Nat)=2^8 from rfl,Nat.xor_div_two_pow,Nat.div_eq_of_lt (a:=b) (by omega),Nat.xor_zero]
 rw[h1,h2]
def sum(bs:List Nat):Nat:=4294967295-feed 4294967295 bs
end Go.Mine.Crc
namespace Go.Mine
def m9(v:Nat):Nat->List UInt8
 |0=>[]
 |n+1=>UInt8.ofNat (v / 256^n)::m9 v n
def Er(bs:List UInt8):Nat:=bs.foldl (fun v b=>v*256+b.toNat) 0
theorem j6(v n:Nat):(m9 v n).length=n:=by
 induction n with|zero=>rfl|succ n a=>simp[m9,a]
theorem jQ(v:Nat):∀(n i:Nat)(h:i<(m9 v n).length),(m9 v n)[i]=UInt8.ofNat (v / 256^(n-1-i))
 |0,i,h=>by simp[m9]at h
 |n+1,0,h=>by simp[m9]
 |n+1,i+1,h=>by simp only[m9,List.getElem_cons_succ];rw[jQ v n i];congr 3;omega
end Go.Mine
namespace Go.Proofs
open Go.Shelf
def tz_itoaLays_ren:Go.Shelf.Ren:=⟨fun|171=>214|243=>286|246=>329|283=>341|284=>342|285=>343|286=>344|129=>263|317=>357|318=>358|319=>359|320=>360|337=>367|338=>368|n=>n,fun|3=>3|9=>9|2=>2|4=>4|171=>378|0=>0|53=>265|37=>83|5=>5|173=>380|212=>393|51=>22|20=>20|213=>394|46=>182|232=>403|233=>404|n=>n,fun|17=>2|18=>4|19=>5|n=>n⟩
theorem tz_itoaLays:Go.Proofs.LaysM.n171 Tryz.prog tz_itoaLays_ren:={
 mixed:=by kernel_rfl
 f129:=Tryz.func263.trans (congrArg some (by kernel_rfl))
 f171:=Tryz.func214.trans (congrArg some (by kernel_rfl))
 f243:=Tryz.func286.trans (congrArg some (by kernel_rfl))
 f246:=Tryz.func329.trans (congrArg some (by kernel_rfl))
 f283:=Tryz.func341.trans (congrArg some (by kernel_rfl))
 f284:=Tryz.func342.trans (congrArg some (by kernel_rfl))
 f285:=Tryz.func343.trans (congrArg some (by kernel_rfl))
 f286:=Tryz.func344.trans (congrArg some (by kernel_rfl))
 f317:=Tryz.func357.trans (congrArg some (by kernel_rfl))
 f318:=Tryz.func358.trans (congrArg some (by kernel_rfl))
 f319:=Tryz.func359.trans (congrArg some (by kernel_rfl))
 f320:=Tryz.func360.trans (congrArg some (by kernel_rfl))
 f337:=Tryz.func367.trans (congrArg some (by kernel_rfl))
 f338:=Tryz.func368.trans (congrArg some (by kernel_rfl))
 t0:=Tryz.underlying0
 a0:=Tryz.isAgg0
 z0:=Tryz.sizeOf0
 v0:=Tryz.zeroValue0
 t2:=Tryz.underlying2
 a2:=Tryz.isAgg2
 z2:=Tryz.sizeOf2
 v2:=Tryz.zeroValue2
 t3:=Tryz.underlying3
 a3:=Tryz.isAgg3
 z3:=Tryz.sizeOf3
 v3:=Tryz.zeroValue3
 t4:=Tryz.underlying4
 a4:=Tryz.isAgg4
 z4:=Tryz.sizeOf4
 v4:=Tryz.zeroValue4
 t5:=Tryz.underlying5
 a5:=Tryz.isAgg5
 z5:=Tryz.sizeOf5
 v5:=Tryz.zeroValue5
 t9:=Tryz.underlying9
 a9:=Tryz.isAgg9
 z9:=Tryz.sizeOf9
 v9:=Tryz.zeroValue9
 t20:=Tryz.underlying20
 a20:=Tryz.isAgg20
 z20:=Tryz.sizeOf20
 v20:=Tryz.zeroValue20
 t37:=Tryz.underlying83
 a37:=Tryz.isAgg83
 z37:=Tryz.sizeOf83
 v37:=Tryz.zeroValue83
 t46:=Tryz.underlying182
 a46:=Tryz.isAgg182
 z46:=Tryz.sizeOf182
 v46:=Tryz.zeroValue182
 t51:=Tryz.underlying22
 a51:=Tryz.isAgg22
 z51:=Tryz.sizeOf22
 v51:=Tryz.zeroValue22
 t53:=Tryz.underlying265
 a53:=Tryz.isAgg265
 z53:=Tryz.sizeOf265
 v53:=Tryz.zeroValue265
 t171:=Tryz.underlying378
 a171:=Tryz.isAgg378
 z171:=Tryz.sizeOf378
 v171:=Tryz.zeroValue378
 t173:=Tryz.underlying380
 a173:=Tryz.isAgg380
 z173:=Tryz.sizeOf380
 v173:=Tryz.zeroValue380
 t212:=Tryz.underlying393
 a212:=Tryz.isAgg393
 z212:=Tryz.sizeOf393
 v212:=Tryz.zeroValue393
 t213:=Tryz.underlying394
 a213:=Tryz.isAgg394
 z213:=Tryz.sizeOf394
 t232:=Tryz.underlying403
 a232:=Tryz.isAgg403
 z232:=Tryz.sizeOf403
 v232:=Tryz.zeroValue403
 t233:=Tryz.underlying404
 a233:=Tryz.isAgg404
 z233:=Tryz.sizeOf404
 v233:=Tryz.zeroValue404
 g17:=by kernel_rfl
 g18:=by kernel_rfl
 g19:=by kernel_rfl
 i0:=by kernel_rfl
 i2:=by kernel_rfl
 i3:=by kernel_rfl
 i4:=by kernel_rfl
 i5:=by kernel_rfl
 i9:=by kernel_rfl
 i20:=by kernel_rfl
 i37:=by kernel_rfl
 i46:=by kernel_rfl
 i51:=by kernel_rfl
 i53:=by kernel_rfl
 i171:=by kernel_rfl
 i173:=by kernel_rfl
 i212:=by kernel_rfl
 i232:=by kernel_rfl
 i233:=by kernel_rfl
 m17:=by kernel_rfl
 m18:=by kernel_rfl
 m19:=by kernel_rfl}
def tz_atoiLays_ren:Go.Shelf.Ren:=⟨fun|172=>229|244=>305|245=>306|247=>334|279=>335|280=>336|281=>337|282=>338|287=>353|316=>354|171=>214|205=>355|321=>364|322=>365|243=>286|246=>329|283=>341|284=>342|285=>343|286=>344|129=>263|317=>357|318=>358|319=>359|320=>360|337=>367|338=>368|n=>n,fun|9=>9|3=>3|75=>290|76=>291|4=>4|5=>5|167=>369|37=>83|0=>0|85=>370|2=>2|168=>372|53=>265|175=>387|46=>182|210=>390|127=>398|145=>401|143=>399|21=>21|171=>378|173=>380|212=>393|51=>22|20=>20|213=>394|232=>403|233=>404|80=>226|n=>n,fun|15=>0|16=>1|17=>2|18=>4|19=>5|n=>n⟩
theorem tz_atoiLays:Go.Proofs.LaysC.n172 Tryz.prog tz_atoiLays_ren:={
 mixed:=by kernel_rfl
 f129:=Tryz.func263.trans (congrArg some (by kernel_rfl))
 f171:=Tryz.func214.trans (congrArg some (by kernel_rfl))
 f172:=Tryz.func229.trans (congrArg some (by kernel_rfl))
 f205:=Tryz.func355.trans (congrArg some (by kernel_rfl))
 f243:=Tryz.func286.trans (congrArg some (by kernel_rfl))
 f244:=Tryz.func305.trans (congrArg some (by kernel_rfl))
 f245:=Tryz.func306.trans (congrArg some (by kernel_rfl))
 f246:=Tryz.func329.trans (congrArg some (by kernel_rfl))
 f247:=Tryz.func334.trans (congrArg some (by kernel_rfl))
 f279:=Tryz.func335.trans (congrArg some (by kernel_rfl))
 f280:=Tryz.func336.trans (congrArg some (by kernel_rfl))
 f281:=Tryz.func337.trans (congrArg some (by kernel_rfl))
 f282:=Tryz.func338.trans (congrArg some (by kernel_rfl))
 f283:=Tryz.func341.trans (congrArg some (by kernel_rfl))
 f284:=Tryz.func342.trans (congrArg some (by kernel_rfl))
 f285:=Tryz.func343.trans (congrArg some (by kernel_rfl))
 f286:=Tryz.func344.trans (congrArg some (by kernel_rfl))
 f287:=Tryz.func353.trans (congrArg some (by kernel_rfl))
 f316:=Tryz.func354.trans (congrArg some (by kernel_rfl))
 f317:=Tryz.func357.trans (congrArg some (by kernel_rfl))
 f318:=Tryz.func358.trans (congrArg some (by kernel_rfl))
 f319:=Tryz.func359.trans (congrArg some (by kernel_rfl))
 f320:=Tryz.func360.trans (congrArg some (by kernel_rfl))
 f321:=Tryz.func364.trans (congrArg some (by kernel_rfl))
 f322:=Tryz.func365.trans (congrArg some (by kernel_rfl))
 f337:=Tryz.func367.trans (congrArg some (by kernel_rfl))
 f338:=Tryz.func368.trans (congrArg some (by kernel_rfl))
 t0:=Tryz.underlying0
 a0:=Tryz.isAgg0
 z0:=Tryz.sizeOf0
 v0:=Tryz.zeroValue0
 t2:=Tryz.underlying2
 a2:=Tryz.isAgg2
 z2:=Tryz.sizeOf2
 v2:=Tryz.zeroValue2
 t3:=Tryz.underlying3
 a3:=Tryz.isAgg3
 z3:=Tryz.sizeOf3
 v3:=Tryz.zeroValue3
 t4:=Tryz.underlying4
 a4:=Tryz.isAgg4
 z4:=Tryz.sizeOf4
 v4:=Tryz.zeroValue4
 t5:=Tryz.underlying5
 a5:=Tryz.isAgg5
 z5:=Tryz.sizeOf5
 v5:=Tryz.zeroValue5
 t9:=Tryz.underlying9
 a9:=Tryz.isAgg9
 z9:=Tryz.sizeOf9
 v9:=Tryz.zeroValue9
 t20:=Tryz.underlying20
 a20:=Tryz.isAgg20
 z20:=Tryz.sizeOf20
 v20:=Tryz.zeroValue20
 t21:=Tryz.underlying21
 a21:=Tryz.isAgg21
 z21:=Tryz.sizeOf21
 v21:=Tryz.zeroValue21
 t37:=Tryz.underlying83
 a37:=Tryz.isAgg83
 z37:=Tryz.sizeOf83
 v37:=Tryz.zeroValue83
 t46:=Tryz.underlying182
 a46:=Tryz.isAgg182
 z46:=Tryz.sizeOf182
 v46:=Tryz.zeroValue182
 t51:=Tryz.underlying22
 a51:=Tryz.isAgg22
 z51:=Tryz.sizeOf22
 v51:=Tryz.zeroValue22
 t53:=Tryz.underlying265
 a53:=Tryz.isAgg265
 z53:=Tryz.sizeOf265
 v53:=Tryz.zeroValue265
 t75:=Tryz.underlying290
 a75:=Tryz.isAgg290
 z75:=Tryz.sizeOf290
 v75:=Tryz.zeroValue290
 t76:=Tryz.underlying291
 a76:=Tryz.isAgg291
 z76:=Tryz.sizeOf291
 v76:=Tryz.zeroValue291
 t85:=Tryz.underlying370
 a85:=Tryz.isAgg370
 z85:=Tryz.sizeOf370
 v85:=Tryz.zeroValue370
 t127:=Tryz.underlying398
 a127:=Tryz.isAgg398
 z127:=Tryz.sizeOf398
 v127:=Tryz.zeroValue398
 t143:=Tryz.underlying399
 a143:=Tryz.isAgg399
 z143:=Tryz.sizeOf399
 v143:=Tryz.zeroValue399
 t145:=Tryz.underlying401
 a145:=Tryz.isAgg401
 z145:=Tryz.sizeOf401
 v145:=Tryz.zeroValue401
 t167:=Tryz.underlying369
 a167:=Tryz.isAgg369
 z167:=Tryz.sizeOf369
 v167:=Tryz.zeroValue369
 t168:=Tryz.underlying372
 a168:=Tryz.isAgg372
 z168:=Tryz.sizeOf372
 v168:=Tryz.zeroValue372
 t171:=Tryz.underlying378
 a171:=Tryz.isAgg378
 z171:=Tryz.sizeOf378
 v171:=Tryz.zeroValue378
 t173:=Tryz.underlying380
 a173:=Tryz.isAgg380
 z173:=Tryz.sizeOf380
 v173:=Tryz.zeroValue380
 t175:=Tryz.underlying387
 a175:=Tryz.isAgg387
 z175:=Tryz.sizeOf387
 v175:=Tryz.zeroValue387
 t210:=Tryz.underlying390
 a210:=Tryz.isAgg390
 z210:=Tryz.sizeOf390
 v210:=Tryz.zeroValue390
 t212:=Tryz.underlying393
 a212:=Tryz.isAgg393
 z212:=Tryz.sizeOf393
 v212:=Tryz.zeroValue393
 t213:=Tryz.underlying394
 a213:=Tryz.isAgg394
 z213:=Tryz.sizeOf394
 t232:=Tryz.underlying403
 a232:=Tryz.isAgg403
 z232:=Tryz.sizeOf403
 v232:=Tryz.zeroValue403
 t233:=Tryz.underlying404
 a233:=Tryz.isAgg404
 z233:=Tryz.sizeOf404
 v233:=Tryz.zeroValue404
 g15:=by kernel_rfl
 g16:=by kernel_rfl
 g17:=by kernel_rfl
 g18:=by kernel_rfl
 g19:=by kernel_rfl
 t80:=Tryz.underlying226
 a80:=Tryz.isAgg226
 z80:=Tryz.sizeOf226
 v80:=Tryz.zeroValue226
 i0:=by kernel_rfl
 i2:=by kernel_rfl
 i3:=by kernel_rfl
 i4:=by kernel_rfl
 i5:=by kernel_rfl
 i9:=by kernel_rfl
 i20:=by kernel_rfl
 i21:=by kernel_rfl
 i37:=by kernel_rfl
 i46:=by kernel_rfl
 i51:=by kernel_rfl
 i53:=by kernel_rfl
 i75:=by kernel_rfl
 i76:=by kernel_rfl
 i80:=by kernel_rfl
 i85:=by kernel_rfl
 i127:=by kernel_rfl
 i143:=by kernel_rfl
 i145:=by kernel_rfl
 i167:=by kernel_rfl
 i168:=by kernel_rfl
 i171:=by kernel_rfl
 i173:=by kernel_rfl
 i175:=by kernel_rfl
 i210:=by kernel_rfl
 i212:=by kernel_rfl
 i232:=by kernel_rfl
 i233:=by kernel_rfl
 m15:=by kernel_rfl
 m16:=by kernel_rfl
 m17:=by kernel_rfl
 m18:=by kernel_rfl
 m19:=by kernel_rfl
 c0:=by kernel_rfl
 c2:=by kernel_rfl
 c3:=by kernel_rfl
 c4:=by kernel_rfl
 c5:=by kernel_rfl
 c9:=by kernel_rfl
 c20:=by kernel_rfl
 c21:=by kernel_rfl
 c37:=by kernel_rfl
 c46:=by kernel_rfl
 c51:=by kernel_rfl
 c53:=by kernel_rfl
 c75:=by kernel_rfl
 c76:=by kernel_rfl
 c80:=by kernel_rfl
 c85:=by kernel_rfl
 c127:=by kernel_rfl
 c143:=by kernel_rfl
 c145:=by kernel_rfl
 c167:=by kernel_rfl
 c168:=by kernel_rfl
 c171:=by kernel_rfl
 c173:=by kernel_rfl
 c175:=by kernel_rfl
 c210:=by kernel_rfl
 c212:=by kernel_rfl
 c213:=by kernel_rfl
 c232:=by kernel_rfl
 c233:=by kernel_rfl}
def tz_sortCh_ren:Go.Shelf.Ren:=⟨fun|6=>300|15=>181|14=>332|28=>262|29=>263|20=>345|21=>346|22=>347|23=>348|24=>349|25=>350|26=>351|27=>352|46=>361|47=>315|48=>316|49=>362|50=>363|57=>369|n=>n,fun|22=>273|24=>285|25=>346|3=>3|39=>182|0=>0|53=>22|55=>265|4=>4|46=>314|45=>313|50=>208|5=>5|9=>9|66=>355|70=>359|76=>375|77=>376|n=>n,fun|n=>n⟩
theorem tz_sortCh:Go.Proofs.SlLaysF0.n6 Tryz.prog tz_sortCh_ren:={
 mixed:=by kernel_rfl
 f6:=⟨Tryz.f300.name,by decide,Tryz.func300.trans (congrArg some (by kernel_rfl))⟩
 f14:=⟨Tryz.f332.name,by decide,Tryz.func332.trans (congrArg some (by kernel_rfl))⟩
 f15:=Tryz.func181.trans (congrArg some (by kernel_rfl))
 f20:=⟨Tryz.f345.name,by decide,Tryz.func345.trans (congrArg some (by kernel_rfl))⟩
 f21:=⟨Tryz.f346.name,by decide,Tryz.func346.trans (congrArg some (by kernel_rfl))⟩
 f22:=⟨Tryz.f347.name,by decide,Tryz.func347.trans (congrArg some (by kernel_rfl))⟩
 f23:=⟨Tryz.f348.name,by decide,Tryz.func348.trans (congrArg some (by kernel_rfl))⟩
 f24:=⟨Tryz.f349.name,by decide,Tryz.func349.trans (congrArg some (by kernel_rfl))⟩
 f25:=⟨Tryz.f350.name,by decide,Tryz.func350.trans (congrArg some (by kernel_rfl))⟩
 f26:=⟨Tryz.f351.name,by decide,Tryz.func351.trans (congrArg some (by kernel_rfl))⟩
 f27:=⟨Tryz.f352.name,by decide,Tryz.func352.trans (congrArg some (by kernel_rfl))⟩
 f28:=Tryz.func262.trans (congrArg some (by kernel_rfl))
 f29:=Tryz.func263.trans (congrArg some (by kernel_rfl))
 f46:=⟨Tryz.f361.name,by decide,Tryz.func361.trans (congrArg some (by kernel_rfl))⟩
 f47:=Tryz.func315.trans (congrArg some (by kernel_rfl))
 f48:=Tryz.func316.trans (congrArg some (by kernel_rfl))
 f49:=⟨Tryz.f362.name,by decide,Tryz.func362.trans (congrArg some (by kernel_rfl))⟩
 f50:=⟨Tryz.f363.name,by decide,Tryz.func363.trans (congrArg some (by kernel_rfl))⟩
 f57:=⟨Tryz.f369.name,by decide,Tryz.func369.trans (congrArg some (by kernel_rfl))⟩
 t0:=Tryz.underlying0
 a0:=Tryz.isAgg0
 z0:=Tryz.sizeOf0
 v0:=Tryz.zeroValue0
 t3:=Tryz.underlying3
 a3:=Tryz.isAgg3
 z3:=Tryz.sizeOf3
 v3:=Tryz.zeroValue3
 t4:=Tryz.underlying4
 a4:=Tryz.isAgg4
 z4:=Tryz.sizeOf4
 v4:=Tryz.zeroValue4
 t5:=Tryz.underlying5
 a5:=Tryz.isAgg5
 z5:=Tryz.sizeOf5
 v5:=Tryz.zeroValue5
 t9:=Tryz.underlying9
 a9:=Tryz.isAgg9
 z9:=Tryz.sizeOf9
 v9:=Tryz.zeroValue9
 t22:=Tryz.underlying273
 a22:=Tryz.isAgg273
 z22:=Tryz.sizeOf273
 v22:=Tryz.zeroValue273
 t25:=Tryz.underlying346
 a25:=Tryz.isAgg346
 z25:=Tryz.sizeOf346
 v25:=Tryz.zeroValue346
 t39:=Tryz.underlying182
 a39:=Tryz.isAgg182
 z39:=Tryz.sizeOf182
 v39:=Tryz.zeroValue182
 t45:=Tryz.underlying313
 a45:=Tryz.isAgg313
 z45:=Tryz.sizeOf313
 v45:=Tryz.zeroValue313
 t46:=Tryz.underlying314
 a46:=Tryz.isAgg314
 z46:=Tryz.sizeOf314
 v46:=Tryz.zeroValue314
 t50:=Tryz.underlying208
 a50:=Tryz.isAgg208
 z50:=Tryz.sizeOf208
 v50:=Tryz.zeroValue208
 t53:=Tryz.underlying22
 a53:=Tryz.isAgg22
 z53:=Tryz.sizeOf22
 v53:=Tryz.zeroValue22
 t55:=Tryz.underlying265
 a55:=Tryz.isAgg265
 z55:=Tryz.sizeOf265
 v55:=Tryz.zeroValue265
 t66:=Tryz.underlying355
 a66:=Tryz.isAgg355
 z66:=Tryz.sizeOf355
 v66:=Tryz.zeroValue355
 t70:=Tryz.underlying359
 a70:=Tryz.isAgg359
 z70:=Tryz.sizeOf359
 v70:=Tryz.zeroValue359
 t76:=Tryz.underlying375
 a76:=Tryz.isAgg375
 z76:=Tryz.sizeOf375
 v76:=Tryz.zeroValue375
 t77:=Tryz.underlying376
 a77:=Tryz.isAgg376
 z77:=Tryz.sizeOf376
 v77:=Tryz.zeroValue376}
def tz_mclone_ren:Go.Shelf.Ren:=⟨fun|5=>91|7=>176|n=>n,fun|23=>145|25=>9|3=>153|4=>4|20=>20|n=>n,fun|n=>n⟩
theorem tz_mclone:Go.Proofs.SlLaysW.n5 Tryz.prog tz_mclone_ren:={
 mixed:=by kernel_rfl
 f5:=⟨Tryz.f91.name,by decide,Tryz.func91.trans (congrArg some (by kernel_rfl))⟩
 f7:=Tryz.func176.trans (congrArg some (by kernel_rfl))
 t4:=Tryz.underlying4
 a4:=Tryz.isAgg4
 z4:=Tryz.sizeOf4
 v4:=Tryz.zeroValue4
 t20:=Tryz.underlying20
 a20:=Tryz.isAgg20
 z20:=Tryz.sizeOf20
 v20:=Tryz.zeroValue20
 t23:=Tryz.underlying145
 a23:=Tryz.isAgg145
 z23:=Tryz.sizeOf145
 v23:=Tryz.zeroValue145}
def tz_ssort_ren:Go.Shelf.Ren:=⟨fun|6=>99|8=>181|9=>180|19=>262|20=>263|21=>253|22=>254|23=>255|24=>256|25=>257|26=>258|27=>259|28=>260|29=>261|36=>314|31=>315|32=>316|37=>317|38=>318|39=>319|41=>340|n=>n,fun|27=>84|29=>9|3=>3|32=>182|26=>84|0=>0|44=>22|46=>265|4=>4|36=>314|35=>313|41=>208|5=>5|9=>9|53=>355|57=>359|63=>375|64=>376|n=>n,fun|n=>n⟩
theorem tz_ssort:Go.Proofs.SlLaysM.n6 Tryz.prog tz_ssort_ren:={
 mixed:=by kernel_rfl
 f6:=⟨Tryz.f99.name,by decide,Tryz.func99.trans (congrArg some (by kernel_rfl))⟩
 f8:=Tryz.func181.trans (congrArg some (by kernel_rfl))
 f9:=⟨Tryz.f180.name,by decide,Tryz.func180.trans (congrArg some (by kernel_rfl))⟩
 f19:=Tryz.func262.trans (congrArg some (by kernel_rfl))
 f20:=Tryz.func263.trans (congrArg some (by kernel_rfl))
 f21:=⟨Tryz.f253.name,by decide,Tryz.func253.trans (congrArg some (by kernel_rfl))⟩
 f22:=⟨Tryz.f254.name,by decide,Tryz.func254.trans (congrArg some (by kernel_rfl))⟩
 f23:=⟨Tryz.f255.name,by decide,Tryz.func255.trans (congrArg some (by kernel_rfl))⟩
 f24:=⟨Tryz.f256.name,by decide,Tryz.func256.trans (congrArg some (by kernel_rfl))⟩
 f25:=⟨Tryz.f257.name,by decide,Tryz.func257.trans (congrArg some (by kernel_rfl))⟩
 f26:=⟨Tryz.f258.name,by decide,Tryz.func258.trans (congrArg some (by kernel_rfl))⟩
 f27:=⟨Tryz.f259.name,by decide,Tryz.func259.trans (congrArg some (by kernel_rfl))⟩
 f28:=⟨Tryz.f260.name,by decide,Tryz.func260.trans (congrArg some (by kernel_rfl))⟩
 f29:=⟨Tryz.f261.name,by decide,Tryz.func261.trans (congrArg some (by kernel_rfl))⟩
 f31:=Tryz.func315.trans (congrArg some (by kernel_rfl))
 f32:=Tryz.func316.trans (congrArg some (by kernel_rfl))
 f36:=⟨Tryz.f314.name,by decide,Tryz.func314.trans (congrArg some (by kernel_rfl))⟩
 f37:=⟨Tryz.f317.name,by decide,Tryz.func317.trans (congrArg some (by kernel_rfl))⟩
 f38:=⟨Tryz.f318.name,by decide,Tryz.func318.trans (congrArg some (by kernel_rfl))⟩
 f39:=⟨Tryz.f319.name,by decide,Tryz.func319.trans (congrArg some (by kernel_rfl))⟩
 f41:=⟨Tryz.f340.name,by decide,Tryz.func340.trans (congrArg some (by kernel_rfl))⟩
 t0:=Tryz.underlying0
 a0:=Tryz.isAgg0
 z0:=Tryz.sizeOf0
 v0:=Tryz.zeroValue0
 t3:=Tryz.underlying3
 a3:=Tryz.isAgg3
 z3:=Tryz.sizeOf3
 v3:=Tryz.zeroValue3
 t4:=Tryz.underlying4
 a4:=Tryz.isAgg4
 z4:=Tryz.sizeOf4
 v4:=Tryz.zeroValue4
 t5:=Tryz.underlying5
 a5:=Tryz.isAgg5
 z5:=Tryz.sizeOf5
 v5:=Tryz.zeroValue5
 t9:=Tryz.underlying9
 a9:=Tryz.isAgg9
 z9:=Tryz.sizeOf9
 v9:=Tryz.zeroValue9
 t26:=Tryz.underlying84
 a26:=Tryz.isAgg84
 z26:=Tryz.sizeOf84
 v26:=Tryz.zeroValue84
 t27:=Tryz.underlying84
 a27:=Tryz.isAgg84
 z27:=Tryz.sizeOf84
 v27:=Tryz.zeroValue84
 t29:=Tryz.underlying9
 a29:=Tryz.isAgg9
 z29:=Tryz.sizeOf9
 v29:=Tryz.zeroValue9
 t32:=Tryz.underlying182
 a32:=Tryz.isAgg182
 z32:=Tryz.sizeOf182
 v32:=Tryz.zeroValue182
 t35:=Tryz.underlying313
 a35:=Tryz.isAgg313
 z35:=Tryz.sizeOf313
 v35:=Tryz.zeroValue313
 t36:=Tryz.underlying314
 a36:=Tryz.isAgg314
 z36:=Tryz.sizeOf314
 v36:=Tryz.zeroValue314
 t41:=Tryz.underlying208
 a41:=Tryz.isAgg208
 z41:=Tryz.sizeOf208
 v41:=Tryz.zeroValue208
 t44:=Tryz.underlying22
 a44:=Tryz.isAgg22
 z44:=Tryz.sizeOf22
 v44:=Tryz.zeroValue22
 t46:=Tryz.underlying265
 a46:=Tryz.isAgg265
 z46:=Tryz.sizeOf265
 v46:=Tryz.zeroValue265
 t53:=Tryz.underlying355
 a53:=Tryz.isAgg355
 z53:=Tryz.sizeOf355
 v53:=Tryz.zeroValue355
 t57:=Tryz.underlying359
 a57:=Tryz.isAgg359
 z57:=Tryz.sizeOf359
 v57:=Tryz.zeroValue359
 t63:=Tryz.underlying375
 a63:=Tryz.isAgg375
 z63:=Tryz.sizeOf375
 v63:=Tryz.zeroValue375
 t64:=Tryz.underlying376
 a64:=Tryz.isAgg376
 z64:=Tryz.sizeOf376
 v64:=Tryz.zeroValue376}
end Go.Proofs

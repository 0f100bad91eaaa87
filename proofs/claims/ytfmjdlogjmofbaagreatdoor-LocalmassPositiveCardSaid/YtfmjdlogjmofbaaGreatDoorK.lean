/- Rational numbers of the program: Pow, Cmp, IsWhole. -/
import Derived.Test.YtfmjdlogjmofbaaGreatDoorJ
import Derived.Test.YtfmjdlogjmofbaaGreatDoorRa
import Derived.Test.YtfmjdlogjmofbaaGreatDoorProg
import Derived.WalkKit
import Derived.WalkSpells
import Derived.WalkLawsBesides
import Derived.Deep.LoopGhost
import Derived.Lib.LaidTab
import Derived.Lib.Hide
import Derived.IntWalk
import Derived.Test.YtfmjdlogjmofbaaGreatDoorN
import Derived.Test.YtfmjdlogjmofbaaGreatDoorTc
import Derived.Test.YtfmjdlogjmofbaaGreatDoorG
import Derived.OpenShut
import Derived.Deep.QuietTactic
import Derived.BigQuiet
import Derived.ChangeSlices
import Derived.ChangeSame
import Derived.ProofKit
import Derived.Test.YtfmjdlogjmofbaaGreatDoorV
import Derived.Test.YtfmjdlogjmofbaaGreatDoorW
set_option maxHeartbeats 4000000
set_option maxRecDepth 3000
namespace Go.Proofs.YtfmjdlogjmofbaaGreatDoor
section
open Go.RowKit Limb
theorem rI(a b:Int):∀n:Nat,Rat.divInt (a^n) (b^n)=(Rat.divInt a b)^n
 |0=>by simp;rfl
 |n+1=>by rw[Int.pow_succ,Int.pow_succ,←Rat.divInt_mul_divInt,rI a b n,Rat.pow_succ]
theorem hZJ(a:Int):∀n:Nat,1≤zl a→zl (a^n)≤n*zl a+1
 |0,_=>by rw[Int.pow_zero];exact Nat.le_trans (show zl 1≤1 by decide) oM
 |n+1,h=>by
  rw[Int.pow_succ];have h1:=dU (a^n) a;have h2:=hZJ a n h;rw[Nat.succ_mul];omega
theorem oZg{a:Int}(h:a≠0):1≤zl a:=by
 unfold zl;rw[dZ oM];simp
theorem lO{a:Int}{b n:Nat}(h:zl a≤b):zl (a^n)≤n*b+1:=by
 by_cases ha:a=0
 ·subst ha
  cases n with
  |zero=>rw[Int.pow_zero];exact Nat.le_trans (show zl 1≤1 by decide) oM
  |succ n=>rw[Int.zero_pow oM];exact Nat.le_trans (show zl 0≤0 by decide) oM
 ·have:=hZJ a n (oZg ha)
  have:n*zl a≤n*b:=Nat.mul_le_mul_left _ h;omega
def dZW(r s:Rat):Int:=gJ (r.num*s.den) (s.num*r.den)
theorem iZq{r s:Rat}(h:sg3 r.num<sg3 s.num):dZW r s= -1:=by
 have h1:=r.den_pos;have h2:=s.den_pos;unfold dZW gJ;have key:r.num*s.den<s.num*r.den:=by
  unfold sg3 at h;have hr:r.num<0∧0≤s.num∨r.num≤0∧0<s.num:=by
   repeat' split at h
   all_goals omega
  rcases hr with⟨a,b⟩|⟨a,b⟩
  ·have:r.num*s.den<0:=Int.mul_neg_of_neg_of_pos a oM
   have:0≤s.num*r.den:=Int.mul_nonneg b oM;omega
  ·have:r.num*s.den≤0:=Int.mul_nonpos_of_nonpos_of_nonneg a oM
   have:0<s.num*r.den:=Int.mul_pos b oM;omega
 rw[if_pos key]
theorem lZj{r s:Rat}(h:sg3 s.num<sg3 r.num):dZW r s=1:=by
 have:=iZq h;unfold dZW gJ at*;repeat' split at this
 all_goals (repeat' split)<;>omega
section
variable(En:Ev)
theorem rpow(p:RQ)(n:Nat)(hp:p.ok)(hn:n≤64):Fn PZ En 26 [qP p,i6 n] (dK [qC (p.v^n),ex (.bool true)]):=by
 have hr:=RQ.sz hp;have C1:=eQ En p hp;generalize p.v=r at*;have h1:=lO (n:=n) hr.1;have h2:=lO (n:=n) hr.2;have hm:n*1073741824≤64*1073741824:=Nat.mul_le_mul_right _ hn;have C2:=lZU En r.num n hr.1 hn;have C3:=lZU En r.den n hr.2 hn;have C4:=wU En (r.num^n) ((r.den:Int)^n) oM oM (Int.pow_ne_zero (zV r));rw[rI,Rat.num_divInt_den] at C4;refine aA Tryz.func26 rfl Tryz.ntmps26 rfl ?_;intro w0 h0;refine vS<|vB jj<|vA jj<|vZ jj<|vS<|vL jj<|vC C1 ⟨jj,trivial⟩<|vA jj<|vP jj<|jn<|js<|vS<|jm jj<|vLf jj<|jm jj<|jgm jj<|uGf jj<|vQ jj<|jm jj<|jgm jj<|uLf jj<|jgm jj<|jk<|jk<|jk<|jg (bZ jj jj)<|vQ jj<|jn<|jf jj<|jp<|vS<|vF jj<|vL jj<|vF jj<|vL jj<|vA jj<|vA jj<|vP jj<|vP jj<|jn ?_;refine js<|vS<|jm jj<|vLf jj<|jn<|jf jj<|jp<|vS<|vL jj<|jm jj<|vC C2 ⟨jj,jj,trivial⟩<|jm jj<|vE jj<|vE jj<|vP jj<|vJ<|vL jj<|jm jj<|vC C3 ⟨jj,jj,trivial⟩<|jm jj<|vE jj<|vE jj<|vP jj<|vJ<|vL jj<|vL jj<|vC C4 ⟨jj,jj,trivial⟩<|vP jj<|vZ jj<|ji ?_;exact rtD rfl jj jj jj
theorem iZ6(p:RQ)(n:Nat)(hp:p.ok)(hn:n≤64)(hn0:0<n)(h0:p.v≠0):Fn PZ En 26 [qP p,i6 (-(n:Int))] (dK [qC (p.v⁻¹^n),ex (.bool true)]):=by
 have hr:=RQ.sz hp;have C1:=eQ En p hp;generalize p.v=r at*;have hnum:r.num≠0:=fun h=>h0 (Rat.num_eq_zero.1 h);have hsg:sg3 r.num≠0:=by unfold sg3;rw[if_neg hnum];split<;>decide
 have S1:=lZu En r hr;have h1:=lO (n:=n) hr.1;have h2:=lO (n:=n) hr.2;have hm:n*1073741824≤64*1073741824:=Nat.mul_le_mul_right _ hn;have C2:=lZU En r.num n hr.1 hn;have C3:=lZU En r.den n hr.2 hn;have C4:=wU En ((r.den:Int)^n) (r.num^n) oM oM (Int.pow_ne_zero hnum);rw[rI,←Rat.inv_def] at C4;have e:IntKind.i64.wrap (-(-(n:Int)))=(n:Int):=by rw[Int.neg_neg];exact w64 oM oM
 refine aA Tryz.func26 rfl Tryz.ntmps26 rfl ?_;intro w0 h0;refine vS<|vB jj<|vA jj<|vZ jj<|vS<|vL jj<|vC C1 ⟨jj,trivial⟩<|vA jj<|vP jj<|jn<|js<|vS<|jm jj<|vLf jj<|jm jj<|jgm jj<|uGf jj<|vQ jj<|jm jj<|jgm jj<|jg (bLt jj jj)<|jgm jj<|jg (dM jj jj jj jj)<|jg (aQ S1 ⟨jj,trivial⟩)<|uEf jj<|jg (dE jj jj)<|vQ jj<|jn<|jf jj<|jp<|vS<|vF jj<|vL jj<|vF jj<|vL jj<|vA jj<|vA jj<|vP jj<|vP jj<|jn ?_;refine js<|vS<|jm jj<|vLt jj<|jn<|jt jj<|jr<|jm jj<|jS (gN jj (fun w=>fO w _ _) (dV e))<|vL jj<|vL jj<|ja jj<|vP jj<|vP jj<|vJ<|vL jj<|jm jj<|vC C3 ⟨jj,jj,trivial⟩<|jm jj<|vE jj<|vE jj<|vP jj<|vJ<|vL jj<|jm jj<|vC C2 ⟨jj,jj,trivial⟩<|jm jj<|vE jj<|vE jj<|vP jj<|vJ<|vL jj<|vL jj<|vC C4 ⟨jj,jj,trivial⟩<|vP jj<|vZ jj ?_;refine ji ?_;exact rtD rfl jj jj jj
theorem rcmp(p q:RQ)(hp:p.ok)(hq:q.ok):Fn PZ En 12 [qP p,qP q] (i6 (dZW p.v q.v)):=by
 have hr:=RQ.sz hp;have hs:=RQ.sz hq;have K1:=eQ En p hp;have K2:=eQ En q hq;generalize p.v=r at*;generalize q.v=s at*;have S1:=lZu En r hr;have S2:=lZu En s hs;obtain⟨r1,r2⟩:=hr;obtain⟨s1,s2⟩:=hs;have A1:=dU r.num s.den;have A2:=dU s.num r.den;have m1:=wF En r.num s.den oM oM;have m2:=wF En s.num r.den oM oM;have m3:=kcmp En (r.num*s.den) (s.num*r.den) oM oM
 by_cases h1:sg3 r.num<sg3 s.num
 ·rw[iZq h1]
  refine aA Tryz.func12 rfl Tryz.ntmps12 rfl ?_;intro w0 h0;refine vS<|vB jj<|vB jj<|vZ jj<|vS<|vZ jj<|vS<|vL jj<|vC K1 ⟨jj,trivial⟩<|vL jj<|vC K2 ⟨jj,trivial⟩<|vA jj<|vA jj<|vP jj<|vP jj<|jn<|js<|vS<|jm jj<|vL jj<|jS (jG jj S1 ⟨jj,trivial⟩)<|jm jj<|vL jj<|jS (jG jj S2 ⟨jj,trivial⟩)<|ja jj<|vZ jj<|jb<|vS<|vV jj jj<|vLt jj<|vZ jj ?_;refine jt jj<|vS<|vZ jj<|ji ?_;exact rtT rfl jj
 ·by_cases h2:sg3 r.num>sg3 s.num
  ·rw[lZj h2]
   refine aA Tryz.func12 rfl Tryz.ntmps12 rfl ?_;intro w0 h0;refine vS<|vB jj<|vB jj<|vZ jj<|vS<|vZ jj<|vS<|vL jj<|vC K1 ⟨jj,trivial⟩<|vL jj<|vC K2 ⟨jj,trivial⟩<|vA jj<|vA jj<|vP jj<|vP jj<|jn<|js<|vS<|jm jj<|vL jj<|jS (jG jj S1 ⟨jj,trivial⟩)<|jm jj<|vL jj<|jS (jG jj S2 ⟨jj,trivial⟩)<|ja jj<|vZ jj<|jb<|vS<|vV jj jj<|vLf jj<|vZ jj ?_;refine jf jj<|vS<|vV jj jj<|vGt jj<|vZ jj<|jt jj<|vS<|vZ jj<|ji ?_;exact rtT rfl jj
  ·refine aA Tryz.func12 rfl Tryz.ntmps12 rfl ?_
   intro w0 h0;refine vS<|vB jj<|vB jj<|vZ jj<|vS<|vZ jj<|vS<|vL jj<|vC K1 ⟨jj,trivial⟩<|vL jj<|vC K2 ⟨jj,trivial⟩<|vA jj<|vA jj<|vP jj<|vP jj<|jn<|js<|vS<|jm jj<|vL jj<|jS (jG jj S1 ⟨jj,trivial⟩)<|jm jj<|vL jj<|jS (jG jj S2 ⟨jj,trivial⟩)<|ja jj<|vZ jj<|jb<|vS<|vV jj jj<|vLf jj<|vZ jj ?_;refine jf jj<|vS<|vV jj jj<|vGf jj<|vZ jj<|jf jj<|jp<|vS<|vF jj<|vL jj<|vF jj<|vL jj<|vC m1 ⟨jj,jj,trivial⟩<|vF jj<|vL jj<|vF jj<|vL jj<|vC m2 ⟨jj,jj,trivial⟩<|vC m3 ⟨jj,jj,trivial⟩<|vZ jj<|ji ?_;exact rtT rfl jj
theorem iZA(p:RQ)(hp:p.ok):Fn PZ En 67 [qP p] (ex (.bool (gJ p.v.den 1==0))):=by
 have hr:=RQ.sz hp;have K1:=eQ En p hp;generalize p.v=r at*;have S1:=zA En 1 oM oM;have m3:=kcmp En r.den 1 (Nat.le_trans hr.2 oM) aD;refine aA Tryz.func67 rfl Tryz.ntmps67 rfl ?_;intro w0 h0;refine vS<|vB jj<|vZ jj<|vS<|vL jj<|jS (aQ K1 ⟨jj,trivial⟩) ?_;first|refine jS (ru_field1 jj jj) ?_|refine jS (gZW jj jj) ?_
 refine vC S1 ⟨jj,trivial⟩<|vC m3 ⟨jj,jj,trivial⟩<|jS (aY jj jj (fun w=>iR w _ _ _ _ _ _))<|vZ jj<|ji ?_;exact rtT rfl jj
end
end
section
open Go.RowKit Limb
instance kb44:CBody PZ 44:=cB Tryz.func44
instance kb193:CBody PZ 193:=cB Tryz.func193
instance kb179:CBody PZ 179:=cB Tryz.func179
instance kb159:CBody PZ 159:=cB Tryz.func159
instance kb157:CBody PZ 157:=cB Tryz.func157
structure RQ.okR(p:RQ):Prop where
 l:Lm p.l
 m:Lm p.m
 ll:p.l.length≤134217728
 ml:p.m.length≤134217728
theorem RQ.of_okR{r:Rat}(h:Sz 134217728 r):(RQ.of r).okR:=⟨aJ _,aJ _,h.1,h.2⟩
theorem RQ.szR{p:RQ}(h:p.okR):Sz 134217728 p.v:=by
 unfold RQ.v
 by_cases hz:zv p.t p.m=0
 ·rw[hz,Rat.divInt_zero];exact⟨by show zl 0≤_;exact Nat.le_trans aD (show 1≤134217728 by decide),by show zl 1≤_;exact Nat.le_trans aD (show 1≤134217728 by decide)⟩
 ·exact fS hz (Nat.le_trans (rN _ h.l) h.ll) (Nat.le_trans (rN _ h.m) h.ml)
section
variable(En:Ev)
theorem cneg(a:Int)(ha:zl a≤1099511627776):Fn PZ En 66 [zC a] (zC (-a)):=by
 have:=zneg En (decide (a<0)) (aE a.natAbs) ha;rwa[eP] at this
theorem wI(a b:Int)(ha:zl a≤1073741824)(hb:zl b≤1073741824):Fn PZ En 65 [zC a,zC b] (zC (a*b)):=by
 have:=zmul En (decide (a<0)) _ (decide (b<0)) _ (aJ a.natAbs) (aJ b.natAbs) ha hb;rwa[eP,eP] at this
theorem mZ7(a b:Int)(ha:zl a≤536870912)(hb:zl b≤536870912)(h:b≠0):Fn PZ En 63 [zC a,zC b] (zC (a/b)):=by
 have:=zquo En (decide (a<0)) _ (decide (b<0)) _ ha hb (aJ a.natAbs) (aJ b.natAbs) (by rw[eP];exact h)
 rwa[eP,eP] at this
theorem kZt(a b:Int)(ha:zl a≤1073741824)(hb:zl b≤1073741824):Fn PZ En 107 [zC a,zC b] (i6 (gJ a b)):=by
 have:=zcmp En (decide (a<0)) _ (decide (b<0)) _ (aJ a.natAbs) (aJ b.natAbs) (Nat.le_trans ha oM) (Nat.le_trans hb oM);rwa[eP,eP] at this
theorem cgcdz(a b:Int)(ha:zl a≤536870912)(hb:zl b≤536870912):Fn PZ En 102 [zC a,zC b] (zC (Nat.gcd a.natAbs b.natAbs:Nat)):=by
 have:=zgcd En (decide (a<0)) _ (decide (b<0)) _ (aJ a.natAbs) (aJ b.natAbs) ha hb;rwa[eP,eP] at this
theorem dZM(n d:Int):Rat.divInt (-n) (-d)=Rat.divInt n d:=Rat.neg_divInt_neg n d
theorem qnew(s:Bool)(l:List Nat)(s':Bool)(l':List Nat)(hl:Lm l)(hl':Lm l')(hlen:l.length≤536870912)(hlen':l'.length≤536870912)(hd:zv s' l'≠0):
  Fn PZ En 44 [zR s l,zR s' l'] (dK [qC (Rat.divInt (zv s l) (zv s' l')),ex (.bool true)]):=by
 have C1:=aZX En s' l' oM;have h0:sg3 (zv s' l')≠0:=iZs hd;have z1:=Nat.le_trans (rN s hl) hlen;have z2:=Nat.le_trans (rN s' hl') hlen'
 by_cases hn:zv s' l'<0
 ·have hs:sg3 (zv s' l')<0:=by unfold sg3;rw[if_neg hd,if_pos hn];decide
  rw[←dZM];have C2:=zneg En s l oM;have C3:=zneg En s' l' oM;have hd': -(zv s' l')≠0:=oM;rw[←wZ] at z1 z2;generalize-(zv s l)=a at*;generalize hb: -(zv s' l')=b at*;have hbp:¬b<0:=oM;have hg0:=jZA (n:=a) hd';have e:gd a b=((Nat.gcd a.natAbs b.natAbs:Nat):Int):=by unfold gd;rw[if_neg hbp]
  have hgl:zl (gd a b)≤536870912:=Nat.le_trans (nM (Nat.le_of_dvd (Int.natAbs_pos.2 hd') (Int.natAbs_dvd_natAbs.2 (cZi _ _).2))) z2;have C4:=cgcdz En a b z1 z2;rw[←e] at C4;have C5:=mZ7 En a (gd a b) z1 hgl hg0;have C6:=mZ7 En b (gd a b) z2 hgl hg0;rw[eZM _ hd'];refine aA Tryz.func44 rfl Tryz.ntmps44 rfl ?_;intro w0 h0;refine vS<|vB jj<|vB jj<|vA jj<|vZ jj<|js<|vS<|vL jj<|vC C1 ⟨jj,trivial⟩<|vEf jj<|jn<|jf jj<|jp<|js<|vS<|vL jj<|vC C1 ⟨jj,trivial⟩<|vLt jj<|jn<|jt jj<|jr<|vL jj<|vC C2 ⟨jj,trivial⟩<|vL jj<|vC C3 ⟨jj,trivial⟩<|vP jj<|vP jj<|vJ<|vL jj<|vL jj<|vC C4 ⟨jj,jj,trivial⟩<|vA jj<|vP jj<|vJ<|vL jj<|vL jj<|vC C5 ⟨jj,jj,trivial⟩<|vL jj<|vL jj<|vC C6 ⟨jj,jj,trivial⟩<|jS (aU (ps:=[(_,_),(_,_)]) ⟨jj,Part.c jj,jj,Part.c jj,trivial⟩ jj)<|vP jj<|vZ jj ?_;refine ji ?_;exact rtD rfl jj jj jj
 ·have hs:¬sg3 (zv s' l')<0:=by unfold sg3;rw[if_neg hd,if_neg hn];decide
  have e:gd (zv s l) (zv s' l')=((Nat.gcd (zv s l).natAbs (zv s' l').natAbs:Nat):Int):=by unfold gd;rw[if_neg hn]
  have hg0:=jZA (n:=zv s l) hd;have hgl:zl (gd (zv s l) (zv s' l'))≤536870912:=Nat.le_trans (nM (Nat.le_of_dvd (Int.natAbs_pos.2 hd) (Int.natAbs_dvd_natAbs.2 (cZi _ _).2))) z2;have C4:=zgcd En s l s' l' hl hl' hlen hlen';rw[←e] at C4;have C5:=zquo En s l (decide (gd (zv s l) (zv s' l')<0)) (aE (gd (zv s l) (zv s' l')).natAbs) hlen hgl hl (aJ _) (by rw[eP];exact hg0)
  have C6:=zquo En s' l' (decide (gd (zv s l) (zv s' l')<0)) (aE (gd (zv s l) (zv s' l')).natAbs) hlen' hgl hl' (aJ _) (by rw[eP];exact hg0)
  rw[eP] at C5 C6;rw[eZM _ hd];refine aA Tryz.func44 rfl Tryz.ntmps44 rfl ?_;intro w0 h0;refine vS<|vB jj<|vB jj<|vA jj<|vZ jj<|js<|vS<|vL jj<|vC C1 ⟨jj,trivial⟩<|vEf jj<|jn<|jf jj<|jp<|js<|vS<|vL jj<|vC C1 ⟨jj,trivial⟩<|vLf jj<|jn<|jf jj<|jp<|vS<|vL jj<|vL jj<|vC C4 ⟨jj,jj,trivial⟩<|vA jj<|vP jj<|vJ<|vL jj<|vL jj<|vC C5 ⟨jj,jj,trivial⟩<|vL jj<|vL jj<|vC C6 ⟨jj,jj,trivial⟩<|jS (aU (ps:=[(_,_),(_,_)]) ⟨jj,Part.c jj,jj,Part.c jj,trivial⟩ jj)<|vP jj<|vZ jj ?_;refine ji ?_;exact rtD rfl jj jj jj
theorem knew(a b:Int)(ha:zl a≤536870912)(hb:zl b≤536870912)(h:b≠0):Fn PZ En 44 [zC a,zC b] (dK [qC (Rat.divInt a b),ex (.bool true)]):=by
 have:=qnew En (decide (a<0)) _ (decide (b<0)) _ (aJ a.natAbs) (aJ b.natAbs) ha hb (by rw[eP];exact h)
 rwa[eP,eP] at this
theorem oZD(a:Int):qC (a:Rat)=cD [ex (.bool (decide (a<0))),mag (aE a.natAbs),ex (.bool (decide ((1:Int)<0))),mag (aE (1:Int).natAbs)]:=by
 unfold qC qP RQ.cells RQ.of;rw[Rat.num_intCast,Rat.den_intCast];rfl
theorem oZA(a:Int)(ha:zl a≤1099511627776):Fn PZ En 193 [zC a] (qC (a:Rat)):=by
 have C1:=nZl En (decide (a<0)) (aE a.natAbs) ha;rw[eP] at C1;have C2:=iH En 1 oM oM;rw[oZD];refine aA Tryz.func193 rfl Tryz.ntmps193 rfl ?_;intro w0 h0;refine vS<|vB jj<|vA jj<|vJ<|vL jj<|vC C1 ⟨jj,trivial⟩<|vC C2 ⟨jj,trivial⟩<|jS (aU (ps:=[(_,_),(_,_)]) ⟨jj,Part.c jj,jj,Part.c jj,trivial⟩ jj)<|vP jj<|jn<|ji ?_;exact rtC rfl jj jj
theorem oZB(a:Int)(h1: -9223372036854775808≤a)(h2:a≤9223372036854775807):Fn PZ En 179 [i6 a] (qC (a:Rat)):=by
 have C1:=iH En a h1 h2;have C2:=oZA En a (Nat.le_trans (dL oM oM) oM);refine aA Tryz.func179 rfl Tryz.ntmps179 rfl ?_;intro w0 h0;refine vS<|vA jj<|vJ<|jm jj<|vC C1 tA<|vC C2 tA<|vP jj<|jn<|ji ?_;exact rtC rfl jj jj
theorem nX(p:RQ)(hp:p.okR):Fn PZ En 159 [qP p] (qC p.v):=by
 have hll:=hp.ll;have hml:=hp.ml
 by_cases hz:zv p.t p.m=0
 ·have e:p.v=((0:Int):Rat):=by unfold RQ.v;rw[hz,Rat.divInt_zero];rfl
  rw[e];have C1:=aZX En p.t p.m oM;have h0:sg3 (zv p.t p.m)=0:=by rw[hz];rfl
  have C2:=oZB En 0 oM oM;have C3:Fn PZ En 44 [zR p.s p.l,zR p.t p.m] (dK [cD [ex (.bool false),ex (.slice none 0 0),ex (.bool false),ex (.slice none 0 0)],ex (.bool false)]):=by
   refine aA Tryz.func44 rfl Tryz.ntmps44 rfl ?_;intro w0 h0;refine vS<|vB jj<|vB jj<|vA jj<|vZ jj<|js<|vS<|vL jj<|vC C1 ⟨jj,trivial⟩<|vEt jj<|jn<|jt jj<|vS<|jS (aU (ps:=[]) trivial jj)<|vP jj<|vZ jj<|ji ?_;exact rtD rfl jj jj jj
  refine aA Tryz.func159 rfl Tryz.ntmps159 rfl ?_;intro w0 h0;refine vS<|vB jj<|vA jj<|vJ<|vF jj<|vL jj<|vF jj<|vL jj<|vC C3 ⟨jj,jj,trivial⟩<|jm jj<|vE jj<|vE jj<|vA jj<|vP jj<|vZ jj<|js<|vS<|jm jj<|jS (bNo jj)<|jn<|jt jj<|vS<|vC C2 ⟨jj,trivial⟩<|vP jj<|jn<|ji ?_;exact rtC rfl jj jj
 ·have C2:=qnew En p.s p.l p.t p.m hp.l hp.m oM oM hz
  refine aA Tryz.func159 rfl Tryz.ntmps159 rfl ?_;intro w0 h0;refine vS<|vB jj<|vA jj<|vJ<|vF jj<|vL jj<|vF jj<|vL jj<|vC C2 ⟨jj,jj,trivial⟩<|jm jj<|vE jj<|vE jj<|vA jj<|vP jj<|vZ jj<|js<|vS<|jm jj<|jS (bNo jj)<|jn<|jf jj<|jp<|vS<|vL jj<|vP jj<|jn<|ji ?_;exact rtC rfl jj jj
theorem qadd(p q:RQ)(hp:p.okR)(hq:q.okR):Fn PZ En 157 [qP p,qP q] (qC (p.v+q.v)):=by
 have hr:=RQ.szR hp;have hs:=RQ.szR hq;have K1:=nX En p hp;have K2:=nX En q hq;generalize p.v=r at*;generalize q.v=s at*;obtain⟨r1,r2⟩:=hr;obtain⟨s1,s2⟩:=hs;have A1:=dU r.num s.den;have A2:=dU s.num r.den;have A3:=dU r.den s.den;have A4:=oP (r.num*s.den) (s.num*r.den);have m1:=wI En r.num s.den oM oM;have m2:=wI En s.num r.den oM oM;have m3:=hZC En (r.num*s.den) (s.num*r.den) (Nat.le_trans A1 oM) (Nat.le_trans A2 oM);have m4:=wI En r.den s.den oM oM;have F:=knew En (r.num*s.den+s.num*r.den) (r.den*s.den) oM oM (dZP r s);rw[←bZB] at F;refine aA Tryz.func157 rfl Tryz.ntmps157 rfl ?_;intro w0 h0;refine vS<|vB jj<|vB jj<|vA jj<|vJ<|vL jj<|vC K1 ⟨jj,trivial⟩<|vL jj<|vC K2 ⟨jj,trivial⟩<|vA jj<|vA jj<|vP jj<|vP jj<|vJ<|vF jj<|vL jj<|vF jj<|vL jj<|vC m1 ⟨jj,jj,trivial⟩<|vF jj<|vL jj<|vF jj<|vL jj<|vC m2 ⟨jj,jj,trivial⟩<|vC m3 ⟨jj,jj,trivial⟩<|vF jj<|vL jj<|vF jj<|vL jj<|vC m4 ⟨jj,jj,trivial⟩<|vC F ⟨jj,jj,trivial⟩<|jm jj<|vE jj<|vE jj<|vA jj<|vP jj<|vZ jj ?_;refine vS<|vL jj<|vP jj<|jn<|ji ?_;exact rtC rfl jj jj
end
end
section
open Go.RowKit Limb
instance kb16:CBody PZ 16:=cB Tryz.func16
section
variable(En:Ev)
theorem krsub(a b:Rat)(ha:Sz 1073741824 a)(hb:Sz 1073741824 b):Fn PZ En 135 [qC a,qC b] (qC (a-b)):=by
 have:=rsub En (RQ.of a) (RQ.of b) (RQ.of_ok ha) (RQ.of_ok hb);rwa[RQ.of_v,RQ.of_v] at this
theorem dZ2(a b:Rat)(ha:Sz 1073741824 a)(hb:Sz 1073741824 b):Fn PZ En 28 [qC a,qC b] (qC (a*b)):=by
 have:=rmul En (RQ.of a) (RQ.of b) (RQ.of_ok ha) (RQ.of_ok hb);rwa[RQ.of_v,RQ.of_v] at this
theorem nZB(a b:Rat)(ha:Sz 1073741824 a)(hb:Sz 1073741824 b)(h:b≠0):Fn PZ En 77 [qC a,qC b] (dK [qC (a/b),ex (.bool true)]):=by
 have:=rquo En (RQ.of a) (RQ.of b) (RQ.of_ok ha) (RQ.of_ok hb) (by rw[RQ.of_v];exact h)
 rwa[RQ.of_v,RQ.of_v] at this
theorem krcmp(a b:Rat)(ha:Sz 1073741824 a)(hb:Sz 1073741824 b):Fn PZ En 12 [qC a,qC b] (i6 (dZW a b)):=by
 have:=rcmp En (RQ.of a) (RQ.of b) (RQ.of_ok ha) (RQ.of_ok hb);rwa[RQ.of_v,RQ.of_v] at this
theorem pZd(a:Rat)(ha:Sz 1073741824 a):Fn PZ En 13 [qC a] (i6 (sg3 a.num)):=by
 have:=rsign En (RQ.of a) (RQ.of_ok ha);unfold RQ.of at this;simp only at this;rw[eP,eP] at this;have e:sg3 (a.den:Int)=1:=by have:=a.den_pos;unfold sg3;rw[if_neg oM,if_neg oM]
 rwa[e,Int.mul_one] at this
theorem nZC(a:Rat)(n:Nat)(ha:Sz 1073741824 a)(hn:n≤64):Fn PZ En 26 [qC a,i6 n] (dK [qC (a^n),ex (.bool true)]):=by
 have:=rpow En (RQ.of a) n (RQ.of_ok ha) hn;rwa[RQ.of_v] at this
theorem aZQ(a:Rat)(n:Nat)(ha:Sz 1073741824 a)(hn:n≤64)(hn0:0<n)(h:a≠0):Fn PZ En 26 [qC a,i6 (-(n:Int))] (dK [qC (a⁻¹^n),ex (.bool true)]):=by
 have:=iZ6 En (RQ.of a) n (RQ.of_ok ha) hn hn0 (by rw[RQ.of_v];exact h)
 rwa[RQ.of_v] at this
end
theorem eZ7{r:Rat}(h:r.num.natAbs<18446744073709551616∧r.den<18446744073709551616):Sz 2 r:=⟨dL oM oM,dL oM oM⟩
theorem qH{z:Int}(h1: -9223372036854775808≤z)(h2:z≤9223372036854775807):Sz 2 (z:Rat):=lZc (dL oM oM) oM
def rows(f:Nat→List Pd)(n:Nat):List Pd:=(List.range n).flatMap f
theorem gB(f:Nat→List Pd)(n:Nat):rows f (n+1)=rows f n++f n:=by unfold rows;rw[List.range_succ,List.flatMap_append];simp
theorem fA{f:Nat→List Pd}{k:Nat}(hf:∀i,(f i).length=k):∀n,(rows f n).length=n*k
 |0=>by simp[rows]
 |n+1=>by rw[gB,List.length_append,fA hf n,hf,Nat.succ_mul]
theorem bE{f:Nat→List Pd}{k:Nat}(hf:∀i,(f i).length=k):∀{n i:Nat},i<n→((rows f n).drop (i*k)).take k=f i
 |0,i,h=>oM
 |n+1,i,h=>by
  rw[gB]
  by_cases e:i=n
  ·subst e
   rw[←fA hf i,List.drop_left,←hf i,List.take_length]
  ·have hlt:i<n:=oM
   have hle:i*k+k≤n*k:=by rw[←Nat.succ_mul];exact Nat.mul_le_mul_right _ hlt
   rw[List.drop_append_of_le_length (by rw[fA hf];omega),List.take_append_of_le_length (by rw[List.length_drop,fA hf];omega)]
   exact bE hf hlt
theorem xY{f g:Nat→List Pd}:∀{n:Nat},(∀i,i<n→f i=g i)→rows f n=rows g n
 |0,_=>rfl
 |n+1,h=>by rw[gB,gB,xY fun i hi=>h i oM,h n oM]
section
variable(En:Ev)
end
end
end Go.Proofs.YtfmjdlogjmofbaaGreatDoor
namespace Go.Proofs.YtfmjdlogjmofbaaGreatDoor.Num
def NoDiv(n k:Nat):Prop:=∀d,2≤d→d<k→¬d∣n
def uE:Nat→Nat→Nat→Nat
 |0,_,n=>n
 |f+1,d,n=>if n%d=0 then d else uE f (d+1) n
def lf(n:Nat):Nat:=uE n 2 n
theorem uZ:∀(f d n:Nat),2≤d→d≤n→n<d+f→NoDiv n d→2≤uE f d n∧uE f d n∣n∧NoDiv n (uE f d n)
 |0,d,n,h1,h2,h3,h4=>oM
 |f+1,d,n,h1,h2,h3,h4=>by
  unfold uE
  by_cases h:n%d=0
  ·rw[if_pos h];exact⟨h1,Nat.dvd_of_mod_eq_zero h,h4⟩
  ·rw[if_neg h]
   have hd:¬d∣n:=fun hx=>h (Nat.mod_eq_zero_of_dvd hx);have hne:d≠n:=fun hx=>hd (hx▸Nat.dvd_refl d);refine uZ f (d+1) n oM oM oM ?_;intro x hx1 hx2
   by_cases hxd:x=d
   ·subst hxd;exact hd
   ·exact h4 x hx1 oM
theorem bZW(n:Nat)(h:2≤n):2≤lf n∧lf n∣n∧NoDiv n (lf n):=
 uZ n 2 n (Nat.le_refl _) h oM (fun d h1 h2=>oM)
theorem lf_unique(n p:Nat)(h:2≤n)(h1:2≤p)(h2:p∣n)(h3:NoDiv n p):lf n=p:=by
 obtain⟨a,b,c⟩:=bZW n h;rcases Nat.lt_trichotomy (lf n) p with hlt|heq|hgt
 ·exact absurd b (h3 _ a hlt)
 ·exact heq
 ·exact absurd h2 (c p h1 hgt)
theorem lf_of_sq(n k:Nat)(h:2≤n)(h1:NoDiv n k)(h2:n<k*k):lf n=n:=by
 obtain⟨a,⟨c,hc⟩,b⟩:=bZW n h
 by_cases hk:lf n<k
 ·exact absurd ⟨c,hc⟩ (h1 _ a hk)
 ·have hkl:k≤lf n:=oM
  have hck:c<k:=by
   rcases Nat.lt_or_ge c k with h'|h'
   ·exact h'
   ·have:=Nat.mul_le_mul hkl h'
    omega
  have hc1:¬2≤c:=fun h2c=>h1 c h2c hck ⟨lf n,by rw[Nat.mul_comm];exact hc⟩
  have:c=1:=by
   rcases Nat.eq_zero_or_pos c with h0|h0
   ·rw[h0] at hc;omega
   ·omega
  rw[this] at hc;omega
def isP(n:Nat):Bool:=decide (2≤n)&&decide (n≤2147483647)&&(lf n==n)
def off:Nat→Nat
 |0=>7|1=>11|2=>13|3=>17|4=>19|5=>23|6=>29|7=>31|_=>37
theorem hZf{n a b:Nat}(h:NoDiv n a)(h2:¬2∣n)(h3:¬3∣n)(h5:¬5∣n)(ha:¬a∣n)
  (hg:∀d,a<d→d<b→d%2=0∨d%3=0∨d%5=0):NoDiv n b:=by
 intro d hd1 hd2 hdn;rcases Nat.lt_trichotomy d a with hlt|heq|hgt
 ·exact h d hd1 hlt hdn
 ·exact ha (heq▸hdn)
 ·rcases hg d hgt hd2 with h'|h'|h'
  ·exact h2 (Nat.dvd_trans (Nat.dvd_of_mod_eq_zero h') hdn)
  ·exact h3 (Nat.dvd_trans (Nat.dvd_of_mod_eq_zero h') hdn)
  ·exact h5 (Nat.dvd_trans (Nat.dvd_of_mod_eq_zero h') hdn)
theorem wheel_step{n b k:Nat}(hk:k<8)(h:NoDiv n (30*b+off k))(h2:¬2∣n)(h3:¬3∣n)(h5:¬5∣n)(ha:¬(30*b+off k)∣n):
  NoDiv n (30*b+off (k+1)):=by
 refine hZf h h2 h3 h5 ha ?_;intro d hd1 hd2;match k,hk with
 |0,_=>simp only[off] at hd1 hd2;omega
 |1,_=>simp only[off] at hd1 hd2;omega
 |2,_=>simp only[off] at hd1 hd2;omega
 |3,_=>simp only[off] at hd1 hd2;omega
 |4,_=>simp only[off] at hd1 hd2;omega
 |5,_=>
  simp only[off] at hd1 hd2;have:d=30*b+24∨d=30*b+25∨d=30*b+26∨d=30*b+27∨d=30*b+28:=oM;clear hd1 hd2;rcases this with rfl|rfl|rfl|rfl|rfl<;>omega
 |6,_=>simp only[off] at hd1 hd2;omega
 |7,_=>
  simp only[off] at hd1 hd2;have:d=30*b+32∨d=30*b+33∨d=30*b+34∨d=30*b+35∨d=30*b+36:=oM;clear hd1 hd2;rcases this with rfl|rfl|rfl|rfl|rfl<;>omega
theorem off_bd(k:Nat):7≤off k∧off k≤37:=by
 unfold off;split<;>omega
theorem off_bd7(k:Nat)(h:k<8):off k≤31:=by
 match k,h with
 |0,_|1,_|2,_|3,_|4,_|5,_|6,_|7,_=>simp[off]
theorem wheel_start{n:Nat}(h2:¬2∣n)(h3:¬3∣n)(h5:¬5∣n):NoDiv n 7:=by
 intro d hd1 hd2 hd;have:d=2∨d=3∨d=4∨d=5∨d=6:=oM;rcases this with rfl|rfl|rfl|rfl|rfl
 ·exact h2 hd
 ·exact h3 hd
 ·exact h2 (Nat.dvd_trans ⟨2,rfl⟩ hd)
 ·exact h5 hd
 ·exact h2 (Nat.dvd_trans ⟨3,rfl⟩ hd)
end Go.Proofs.YtfmjdlogjmofbaaGreatDoor.Num
namespace Go.Proofs.YtfmjdlogjmofbaaGreatDoor
section
open Go.RowKit Num
theorem mZ{a b:Bool}(h:a=b):Ending.returned (.bool a)= .returned (.bool b):=by rw[h]
theorem pV{k:IntKind}{a b:Int}(h:a=b):Ending.returned (.int k a)= .returned (.int k b):=by rw[h]
theorem kZx(a b:Nat):((a:Int)==(b:Int))=decide (a=b):=by
 rw[Bool.eq_iff_iff,beq_iff_eq,decide_eq_true_eq];omega
def iZU:Array Value:= #[.int .i64 7,.int .i64 11,.int .i64 13,.int .i64 17,.int .i64 19,.int .i64 23,.int .i64 29,.int .i64 31]
def Tab(w:World):Prop:=∃t fr,w.heap[1]? =some (.cells iZU t fr)
def oH:Nat→Nat|0=>2|1=>3|_=>5
theorem idx3(k:Nat)(h:k<3)(w:World):(Instr.index 206 (.agg #[.int .i64 2,.int .i64 3,.int .i64 5]) (.int .i64 k)).run Tryz.prog w= .ok (.int .i64 (oH k:Nat)) w:=by
 obtain rfl|rfl|rfl:k=0∨k=1∨k=2:=oM;all_goals kernel_rfl
theorem idx8(k:Nat)(h:k<8)(w:World):(Instr.index 207 (.agg iZU) (.int .i64 k)).run Tryz.prog w= .ok (.int .i64 (off k:Nat)) w:=by
 obtain rfl|rfl|rfl|rfl|rfl|rfl|rfl|rfl:k=0∨k=1∨k=2∨k=3∨k=4∨k=5∨k=6∨k=7:=oM;all_goals kernel_rfl
theorem mE(k:Nat)(h:k<3):(k=0∧oH k=2)∨(k=1∧oH k=3)∨(k=2∧oH k=5):=by
 obtain rfl|rfl|rfl:k=0∨k=1∨k=2:=oM;all_goals simp[oH]
def kZ4(n k:Nat):Prop:=(0<k→¬2∣n)∧(1<k→¬3∣n)∧(2<k→¬5∣n)
theorem iZO{n k:Nat}(h2:2≤n)(h:k<3)(hp:kZ4 n k)(hd:n%oH k=0):lf n=oH k:=by
 obtain⟨a,b,c⟩:=hp;have hd':=Nat.dvd_of_mod_eq_zero hd;refine lf_unique n _ h2 (by rcases mE k h with h|h|h<;>omega) hd' ?_
 intro d hd1 hd2 hdn;rcases mE k h with⟨rfl,e⟩|⟨rfl,e⟩|⟨rfl,e⟩
 ·omega
 ·have:d=2:=oM
  subst this;exact a oM hdn
 ·have:d=2∨d=3∨d=4:=oM
  rcases this with rfl|rfl|rfl
  ·exact a oM hdn
  ·exact b oM hdn
  ·exact a oM (Nat.dvd_trans ⟨2,rfl⟩ hdn)
theorem hZc{n k:Nat}(h:k<3)(hp:kZ4 n k)(hd:n%oH k≠0):kZ4 n (k+1):=by
 obtain⟨a,b,c⟩:=hp;unfold kZ4;rcases mE k h with⟨rfl,e⟩|⟨rfl,e⟩|⟨rfl,e⟩
 ·rw[e] at hd;exact⟨fun _ hx=>hd (Nat.mod_eq_zero_of_dvd hx),oM,oM⟩
 ·rw[e] at hd;exact⟨fun _=>a oM,fun _ hx=>hd (Nat.mod_eq_zero_of_dvd hx),oM⟩
 ·rw[e] at hd;exact⟨fun _=>a oM,fun _=>b oM,fun _ hx=>hd (Nat.mod_eq_zero_of_dvd hx)⟩
theorem nZw{a n:Nat}(h:a*a≤n)(hn:n≤2147483647):a≤46340:=by
 rcases Nat.lt_or_ge 46340 a with h'|h'
 ·have:=Nat.mul_le_mul h' h'
  omega
 ·exact h'
theorem zY{d m:Nat}(h:d*d≤m):(d:Int)*(d:Int)≤(m:Int):=by exact_mod_cast h
theorem vO{d m:Nat}(h:(d:Int)*(d:Int)≤(m:Int)):d*d≤m:=by exact_mod_cast h
theorem zX{d m:Nat}(h:(m:Int)<(d:Int)*(d:Int)):m<d*d:=by exact_mod_cast h
theorem vM(d:Nat):0≤(d:Int)*(d:Int):=by exact_mod_cast Nat.zero_le (d*d)
theorem nZ9(a:Nat){n:Nat}(h:a*a≤n):a≤n:=by
 rcases Nat.eq_zero_or_pos a with h'|h'
 ·omega
 ·exact Nat.le_trans (Nat.le_mul_of_pos_left a h') h
theorem hZt(n:Nat)(w:World)(h1:2≤n)(h2:n≤2147483647)(ht:Tab w):
  Calls Tryz.prog 142 #[.int .i64 n] w fun e w'=>e= .returned (.int .i64 (lf n))∧w=w':=by
 go_enter Tryz.func142,Tryz.ntmps142
 go_wp2
 go_step3
 go_wp2
 go_loopg [2,4,11] 3 (fun g t u i wr=>∃k:Nat,k+g=3∧i= .int .i64 k∧w=wr∧kZ4 n k)
 case atStart=>exact⟨0,rfl,rfl,rfl,oM,oM,oM⟩
 case round=>
  obtain⟨k,hk,rfl,rfl,HP⟩:=hrel;cases gk with
  |succ g=>
   have hlt:(k:Int)<3:=oM;have hx:=idx3 k oM w;have h3:2≤oH k:=by rcases mE k oM with h|h|h<;>omega
   by_cases hd:n%oH k=0
   ·have hb:((n:Int)%(oH k:Int)==0)=true:=by rw[beq_iff_eq];omega
    have HL:=Lib.hid (iZO h1 oM HP hd);clear HP hd;go_wp2
    rw[Exit.noGoto_ret];go_ret
    exact⟨by rw[HL.out];rfl,rfl⟩
   ·have hb:((n:Int)%(oH k:Int)==0)=false:=by rw[beq_eq_false_iff_ne];omega
    have HL:=Lib.hid (hZc oM HP hd);clear HP hd;go_wp2
    go_roundg g
    case measure=>omega
    case rel=>exact⟨k+1,oM,by go_num,rfl,HL.out⟩
  |zero=>
   obtain rfl:k=3:=oM;have E2:=Lib.hid (HP.1 oM);have E3:=Lib.hid (HP.2.1 oM);have E5:=Lib.hid (HP.2.2 oM);obtain⟨tt,fr,htab⟩:=ht;clear HP;go_wp2
   go_step3
   go_wp2
   go_loopg [5,6] n (fun g s5 s6 wr=>∃b:Nat,b+g=n∧s5= .int .i64 n∧s6= .int .i64 (30*(b:Int))∧w=wr∧Num.NoDiv n (30*b+7)∧(30*b)*(30*b)≤n)
   case atStart=>exact⟨0,oM,rfl,rfl,rfl,Num.wheel_start E2.out E3.out E5.out,oM⟩
   case round=>
    obtain⟨b,hbg,rfl,rfl,rfl,HN,hsq⟩:=hrel;obtain⟨go,rfl⟩:∃go:Nat,go=gk:=⟨_,rfl⟩;have hb:30*b≤46340:=nZw hsq h2;have HS:=Lib.hid hsq;clear hsq;go_wp2_with (refine wpList_load_row rfl _ _ rfl 1 rfl tt iZU fr _ htab Tryz.underlying207 rfl (by kernel_rfl) ?_)
    go_loopg [5,24] 8 (fun g s5 s24 wr=>∃k:Nat,k+g=8∧s5= .int .i64 n∧s24= .int .i64 k∧w=wr∧Num.NoDiv n (30*b+off k)∧(30*b)*(30*b)≤n∧(k=8→(30*(b+1))*(30*(b+1))≤n))
    case atStart=>exact⟨0,oM,rfl,rfl,rfl,HN,HS.out,oM⟩
    case round=>
     obtain⟨k,hk8,rfl,rfl,rfl,HK,hs1,hs2⟩:=hrel;have HS1:=Lib.hid hs1;have HS2:=Lib.hid hs2;clear hs1 hs2;cases gk with
     |zero=>
      obtain rfl:k=8:=oM;have hq:=HS2.out rfl;have hq1:=nZ9 (30*(b+1)) hq;have HQ:=Lib.hid hq;clear hq HS2;go_wp2
      go_roundg (n-(b+1))
      case measure=>omega
      case rel=>exact⟨b+1,oM,rfl,by go_num,rfl,HK,HQ.out⟩
     |succ g=>
      have hlt:(k:Int)<8:=oM;have hx:=idx8 k oM w;have ho:=Num.off_bd k;have ho7:=Num.off_bd7 k oM;obtain⟨d,hd⟩:∃d:Nat,30*b+off k=d:=⟨_,rfl⟩;have hdi:(30*(b:Int)+(off k:Int))=(d:Int):=oM;have hdb:d≤46371:=oM;have hd7:7≤d:=oM;rw[hd] at HK;have HD:=Lib.hid hd;have hdd:d*d≤2150269641:=Nat.mul_le_mul hdb hdb;have hddi:(d:Int)*(d:Int)≤2150269641:=by have:=zY hdd;omega
      have hddp:0≤(d:Int)*(d:Int):=vM d;clear hd hdd
      by_cases hsq:(n:Int)<(d:Int)*(d:Int)
      ·have HL:=Lib.hid (Num.lf_of_sq n d h1 HK (zX hsq))
       go_wp2
       rw[Exit.noGoto_ret];go_ret
       exact⟨by rw[HL.out];rfl,rfl⟩
      ·have hsq':(d:Int)*(d:Int)≤(n:Int):=oM
       by_cases hdv:n%d=0
       ·have hb:((n:Int)%(d:Int)==0)=true:=by rw[beq_iff_eq];omega
        have HL:=Lib.hid (Num.lf_unique n d h1 oM (Nat.dvd_of_mod_eq_zero hdv) HK);clear hdv hsq;go_wp2
        rw[Exit.noGoto_ret];go_ret
        exact⟨by rw[HL.out];rfl,rfl⟩
       ·have hb:((n:Int)%(d:Int)==0)=false:=by rw[beq_eq_false_iff_ne];omega
        have HL:=Lib.hid (show Num.NoDiv n (30*b+off (k+1)) from Num.wheel_step oM (by rw[HD.out];exact HK) E2.out E3.out E5.out (by rw[HD.out];exact fun hx=>hdv (Nat.mod_eq_zero_of_dvd hx)))
        clear hdv hsq;go_wp2
        go_roundg g
        case measure=>omega
        case rel=>exact⟨k+1,oM,rfl,by go_num,rfl,HL.out,HS1.out,fun h=>by
         obtain rfl:k=7:=oM;have e:=HD.out;simp only[off] at e;have:30*(b+1)≤d:=oM;exact Nat.le_trans (Nat.mul_le_mul this this) (vO hsq')⟩
theorem gZj{n:Nat}(h:2147483647<n):isP n=false:=by
 unfold isP;rw[decide_eq_false (p:=n≤2147483647) oM];simp
theorem aZS{n:Nat}(h:n<2):isP n=false:=by
 unfold isP;rw[decide_eq_false (p:=2≤n) oM];simp
theorem cZc{n:Nat}(h1:2≤n)(h2:n≤2147483647):isP n=decide (lf n=n):=by
 unfold isP;rw[decide_eq_true h1,decide_eq_true h2];simp only[Bool.true_and];rfl
theorem pZe(n:Int)(w:World)(ht:Tab w):
  Calls Tryz.prog 89 #[.int .i64 n] w fun e w'=>e= .returned (.bool (isP n.toNat))∧w=w':=by
 by_cases h1:2≤n
 ·by_cases h2:n≤2147483647
  ·obtain⟨m,rfl⟩:=Int.eq_ofNat_of_zero_le (show 0≤n by omega)
   have HP:=Lib.hid (cZc (n:=m) oM oM);go_enter Tryz.func89,Tryz.ntmps89
   go_wp2_with (go_at_call 142;refine(hZt m _ oM oM ht).mono ?_;rintro e w' ⟨rfl,rfl⟩)
   go_ret
   refine⟨?_,rfl⟩;rw[Int.toNat_natCast,HP.out];exact mZ (kZx _ _)
  ·have h2':¬n≤2147483647:=h2
   have HP:=Lib.hid (gZj (n:=n.toNat) oM);go_enter Tryz.func89,Tryz.ntmps89
   go_wp2_with fail
   go_ret
   exact⟨by rw[HP.out];rfl,rfl⟩
 ·have HP:=Lib.hid (aZS (n:=n.toNat) oM)
  go_enter Tryz.func89,Tryz.ntmps89
  go_wp2_with fail
  go_ret
  exact⟨by rw[HP.out];rfl,rfl⟩
theorem lZz(n:Int)(w:World):
  Calls Tryz.prog 175 #[.int .i64 n] w fun e w'=>e= .returned (.bool (isP n.toNat))∧w=w':=by
 by_cases h1:2≤n
 ·by_cases h2:n≤2147483647
  ·obtain⟨m,rfl⟩:=Int.eq_ofNat_of_zero_le (show 0≤n by omega)
   have h1n:2≤m:=oM;have h2n:m≤2147483647:=oM;go_enter Tryz.func175,Tryz.ntmps175
   go_wp2
   go_loopg [2,3] m (fun g s2 s3 wr=>∃d:Nat,d+g=m+2∧2≤d∧(d-1)*(d-1)≤m∧s3= .int .i64 d∧w=wr∧NoDiv m d)
   case atStart=>exact⟨2,oM,oM,oM,rfl,rfl,fun d h1 h2=>oM⟩
   case round=>
    obtain⟨d,hdg,hd2,hs,rfl,rfl,HN⟩:=hrel;have hdb:d≤46341:=by have:=nZw hs h2n;omega
    have hdd:d*d≤2147488281:=Nat.mul_le_mul hdb hdb;have hddi:(d:Int)*(d:Int)≤2147488281:=by have:=zY hdd;omega
    have hddp:0≤(d:Int)*(d:Int):=vM d;clear hs hdd
    by_cases hsq:(d:Int)*(d:Int)≤(m:Int)
    ·have hsq':=vO hsq
     have hdm:=nZ9 d hsq';have HSQ:=Lib.hid hsq';clear hsq'
     by_cases hdv:m%d=0
     ·have hb:((m:Int)%(d:Int)==0)=true:=by rw[beq_iff_eq];omega
      have HL:=Lib.hid (lf_unique m d h1n hd2 (Nat.dvd_of_mod_eq_zero hdv) HN);have HNE:Hid (d≠m):=by
       show d≠m
       rintro rfl;have:=HSQ.out;have:=Nat.mul_le_mul_left d hd2;omega
      have HP:=Lib.hid (cZc h1n h2n);clear hdv;go_wp2
      go_ret
      exact⟨mZ (by rw[Int.toNat_natCast,HP.out,HL.out,decide_eq_false HNE.out]),rfl⟩
     ·have hb:((m:Int)%(d:Int)==0)=false:=by rw[beq_eq_false_iff_ne];omega
      have HL:Hid (NoDiv m (d+1)):=by
       intro x hx1 hx2
       by_cases hxd:x=d
       ·subst hxd;exact fun h=>hdv (Nat.mod_eq_zero_of_dvd h)
       ·exact HN x hx1 oM
      clear hdv;go_wp2
      go_roundg (m+2-(d+1))
      case measure=>omega
      case rel=>exact⟨d+1,oM,oM,HSQ.out,by go_num,rfl,HL.out⟩
    ·have HL:=Lib.hid (lf_of_sq m d h1n HN (zX oM))
     have HP:=Lib.hid (cZc h1n h2n);go_wp2
     go_ret
     exact⟨mZ (by (try rw[Int.toNat_natCast]);rw[HP.out,HL.out,decide_eq_true rfl]),rfl⟩
  ·have HP:=Lib.hid (gZj (n:=n.toNat) oM)
   go_enter Tryz.func175,Tryz.ntmps175
   go_wp2_with fail
   go_ret
   exact⟨by rw[HP.out];rfl,rfl⟩
 ·have HP:=Lib.hid (aZS (n:=n.toNat) oM)
  go_enter Tryz.func175,Tryz.ntmps175
  go_wp2_with fail
  go_ret
  exact⟨by rw[HP.out];rfl,rfl⟩
end
end Go.Proofs.YtfmjdlogjmofbaaGreatDoor
namespace Go.Proofs.YtfmjdlogjmofbaaGreatDoor.Num
def Pr(p:Nat):Prop:=2≤p∧NoDiv p p
theorem Pr.eq_of_dvd{p d:Nat}(hp:Pr p)(h:d∣p)(h1:d≠1):d=p:=by
 have hp0:0<p:=by have:=hp.1;omega
 have hle:=Nat.le_of_dvd hp0 h;have h0:d≠0:=by rintro rfl;have:=Nat.eq_zero_of_zero_dvd h;omega
 rcases Nat.lt_or_ge d p with hlt|hge
 ·exact absurd h (hp.2 d oM hlt)
 ·omega
theorem Pr.coprime{p a:Nat}(hp:Pr p)(h:¬p∣a):Nat.Coprime p a:=by
 by_cases h1:Nat.gcd p a=1
 ·exact h1
 ·have:=hp.eq_of_dvd (Nat.gcd_dvd_left p a) h1
  exact absurd (this▸Nat.gcd_dvd_right p a) h
theorem Pr.dvd_mul{p a b:Nat}(hp:Pr p)(h:p∣a*b):p∣a∨p∣b:=by
 by_cases ha:p∣a
 ·exact .inl ha
 ·exact .inr ((hp.coprime ha).dvd_of_dvd_mul_left h)
theorem Pr.dvd_mul_int{p:Nat}{a b:Int}(hp:Pr p)(h:(p:Int)∣a*b):(p:Int)∣a∨(p:Int)∣b:=by
 have h':p∣(a*b).natAbs:=Int.ofNat_dvd_left.1 h;rw[Int.natAbs_mul] at h';rcases hp.dvd_mul h' with h|h
 ·exact .inl (Int.ofNat_dvd_left.2 h)
 ·exact .inr (Int.ofNat_dvd_left.2 h)
theorem lf_pr(n:Nat)(h:2≤n):Pr (lf n):=by
 obtain⟨a,b,c⟩:=bZW n h;exact⟨a,fun d h1 h2 hd=>c d h1 h2 (Nat.dvd_trans hd b)⟩
theorem cZd(n:Nat):isP n=true↔Pr n∧n≤2147483647:=by
 unfold isP;simp only[Bool.and_eq_true,decide_eq_true_eq,beq_iff_eq];constructor
 ·rintro⟨⟨h1,h2⟩,h3⟩
  exact⟨h3▸lf_pr n h1,h2⟩
 ·rintro⟨h1,h2⟩
  exact⟨⟨h1.1,h2⟩,lf_unique n n h1.1 h1.1 (Nat.dvd_refl n) h1.2⟩
def fD:List Int→Int
 |[]=>1
 |x::l=>x*fD l
def iZV:List Nat→Nat
 |[]=>0
 |x::l=>x+iZV l
theorem eZW{a b:List Int}(h:a.Perm b):fD a=fD b:=by
 induction h with
 |nil=>rfl
 |cons x _ ih=>simp[fD,ih]
 |swap x y l=>simp only[fD];rw[←Int.mul_assoc,←Int.mul_assoc,Int.mul_comm x y]
 |trans _ _ h1 h2=>exact h1.trans h2
theorem aZK{α:Type}(l:List α)(f g:α→Int):fD (l.map fun j=>f j*g j)=fD (l.map f)*fD (l.map g):=by
 induction l with
 |nil=>simp[fD]
 |cons x l ih=>
  simp only[List.map_cons,fD,ih];rw[Int.mul_assoc,Int.mul_assoc,Int.mul_left_comm (g x)]
theorem dZz{α:Type}(l:List α)(c:Int):fD (l.map fun _=>c)=c^l.length:=by
 induction l with
 |nil=>simp[fD]
 |cons x l ih=>simp only[List.map_cons,fD,ih,List.length_cons,Int.pow_succ];rw[Int.mul_comm]
theorem dZ0{α:Type}{m:Int}(l:List α)(f g:α→Int)(h:∀j∈l,m∣f j-g j):m∣fD (l.map f)-fD (l.map g):=by
 induction l with
 |nil=>simp[fD]
 |cons x l ih=>
  simp only[List.map_cons,fD];have h1:=h x (by simp)
  have h2:=ih fun j hj=>h j (by simp[hj])
  have e:f x*fD (l.map f)-g x*fD (l.map g)=(f x-g x)*fD (l.map f)+g x*(fD (l.map f)-fD (l.map g)):=by
   rw[Int.sub_mul,Int.mul_sub];omega
  rw[e];exact Int.dvd_add (Int.dvd_mul_of_dvd_left h1) (Int.dvd_mul_of_dvd_right h2)
def eps(k:Nat):Int:=if k%2=0 then 1 else-1
theorem mZo(a b:Nat):eps (a+b)=eps a*eps b:=by
 unfold eps;rcases Nat.mod_two_eq_zero_or_one a with h|h<;>rcases Nat.mod_two_eq_zero_or_one b with h'|h'
 ·rw[if_pos oM,if_pos h,if_pos h'];rfl
 ·rw[if_neg oM,if_pos h,if_neg oM];rfl
 ·rw[if_neg oM,if_neg oM,if_pos h'];rfl
 ·rw[if_pos oM,if_neg oM,if_neg oM];rfl
theorem fZl(k:Nat):eps k=1∨eps k= -1:=by unfold eps;split<;>simp
theorem hZq{α:Type}(l:List α)(c:α→Nat):fD (l.map fun j=>eps (c j))=eps (iZV (l.map c)):=by
 induction l with
 |nil=>simp[fD,iZV,eps]
 |cons x l ih=>simp only[List.map_cons,fD,iZV,ih,mZo]
theorem qM{α:Type}[BEq α][LawfulBEq α]:∀{l l':List α},l.Nodup→(∀x∈l,x∈l')→l'.length≤l.length→l.Perm l'
 |[],l',_,_,hl=>by
  have:l'=[]:=List.length_eq_zero_iff.1 (by simpa using hl)
  rw[this]
 |x::t,l',hn,hs,hl=>by
  have hx:x∈l':=hs x (by simp)
  have hp:=List.perm_cons_erase hx;rw[List.nodup_cons] at hn;have ht:t.Perm (l'.erase x):=by
   refine qM hn.2 (fun y hy=>?_) ?_
   ·have hne:y≠x:=fun e=>hn.1 (e▸hy)
    exact(List.mem_erase_of_ne hne).2 (hs y (by simp[hy]))
   ·have:=List.length_erase_of_mem hx
    simp at hl;omega
  exact(List.Perm.cons x ht).trans hp.symm
def upto(h:Nat):List Nat:=List.range' 1 h
theorem sH{h j:Nat}:j∈upto h↔1≤j∧j≤h:=by
 unfold upto;rw[List.mem_range'_1];omega
theorem cZE(h:Nat):(upto h).length=h:=by simp[upto]
theorem eZ0(h:Nat):(upto h).Nodup:=List.nodup_range'
def gr(a p j:Nat):Nat:=(a*j)%p
def gm(a p h j:Nat):Nat:=if h<gr a p j then p-gr a p j else gr a p j
def gc(a p h j:Nat):Nat:=if h<gr a p j then 1 else 0
theorem qN{p j:Nat}(h1:1≤j)(h2:j<p):¬p∣j:=fun h=>by
 have:=Nat.le_of_dvd oM h;omega
theorem jZ9{a p h j:Nat}(hp:Pr p)(hh:p=2*h+1)(ha:¬p∣a)(hj:j∈upto h):1≤gr a p j∧gr a p j<p:=by
 rw[sH] at hj;refine⟨?_,Nat.mod_lt _ oM⟩;rcases Nat.eq_zero_or_pos (gr a p j) with h0|h0
 ·rcases hp.dvd_mul (Nat.dvd_of_mod_eq_zero h0) with h'|h'
  ·exact absurd h' ha
  ·exact absurd h' (qN hj.1 oM)
 ·exact h0
theorem pZi{a p h j:Nat}(hp:Pr p)(hh:p=2*h+1)(ha:¬p∣a)(hj:j∈upto h):gm a p h j∈upto h:=by
 obtain⟨h1,h2⟩:=jZ9 hp hh ha hj;rw[sH];unfold gm;split<;>omega
theorem cZj{a p h j:Nat}(hp:Pr p)(hh:p=2*h+1)(ha:¬p∣a)(hj:j∈upto h):(p:Int)∣(a:Int)*j-eps (gc a p h j)*(gm a p h j:Int):=by
 obtain⟨h1,h2⟩:=jZ9 hp hh ha hj;have e:a*j=p*(a*j/p)+gr a p j:=(Nat.div_add_mod _ _).symm;have e':(a:Int)*j=p*((a*j/p:Nat):Int)+(gr a p j:Int):=by exact_mod_cast e
 unfold gc gm eps
 by_cases hc:h<gr a p j
 ·rw[if_pos hc,if_pos hc,if_neg aD,e']
  refine⟨((a*j/p:Nat):Int)+1,?_⟩;rw[Int.mul_add,Int.natCast_sub oM];omega
 ·rw[if_neg hc,if_neg hc,if_pos aD,e']
  exact⟨((a*j/p:Nat):Int),oM⟩
theorem pZj{a p h i j:Nat}(hp:Pr p)(hh:p=2*h+1)(ha:¬p∣a)(hi:i∈upto h)(hj:j∈upto h)(he:gm a p h i=gm a p h j):i=j:=by
 have ci:=cZj hp hh ha hi;have cj:=cZj hp hh ha hj;rw[he] at ci;rw[sH] at hi hj;have ha':¬(p:Int)∣(a:Int):=fun h=>ha (Int.ofNat_dvd.1 h);have key:(p:Int)∣(a:Int)*((i:Int)-j)∨(p:Int)∣(a:Int)*((i:Int)+j):=by
  rcases fZl (gc a p h i) with e1|e1<;>rcases fZl (gc a p h j) with e2|e2
  ·left
   have:=Int.dvd_sub ci cj;rw[e1,e2] at this;rwa[show(a:Int)*i-1*(gm a p h j:Int)-((a:Int)*j-1*(gm a p h j:Int))=a*((i:Int)-j) by rw[Int.mul_sub];omega] at this
  ·right
   have:=Int.dvd_add ci cj;rw[e1,e2] at this;rwa[show(a:Int)*i-1*(gm a p h j:Int)+((a:Int)*j- -1*(gm a p h j:Int))=a*((i:Int)+j) by rw[Int.mul_add];omega] at this
  ·right
   have:=Int.dvd_add ci cj;rw[e1,e2] at this;rwa[show(a:Int)*i- -1*(gm a p h j:Int)+((a:Int)*j-1*(gm a p h j:Int))=a*((i:Int)+j) by rw[Int.mul_add];omega] at this
  ·left
   have:=Int.dvd_sub ci cj;rw[e1,e2] at this;rwa[show(a:Int)*i- -1*(gm a p h j:Int)-((a:Int)*j- -1*(gm a p h j:Int))=a*((i:Int)-j) by rw[Int.mul_sub];omega] at this
 rcases key with k|k
 ·rcases hp.dvd_mul_int k with k|k
  ·exact absurd k ha'
  ·have:=Int.ofNat_dvd_left.1 k
   rcases Nat.eq_zero_or_pos ((i:Int)-j).natAbs with h0|h0
   ·omega
   ·have:=Nat.le_of_dvd h0 this;omega
 ·rcases hp.dvd_mul_int k with k|k
  ·exact absurd k ha'
  ·have:=Int.ofNat_dvd_left.1 k
   have:=Nat.le_of_dvd oM this;omega
theorem mZe{a p h:Nat}(hp:Pr p)(hh:p=2*h+1)(ha:¬p∣a):((upto h).map (gm a p h)).Perm (upto h):=by
 refine qM ?_ ?_ (by simp)
 ·rw[List.nodup_iff_pairwise_ne,List.pairwise_map]
  have:=eZ0 h;rw[List.nodup_iff_pairwise_ne] at this;exact this.imp_of_mem fun ha' hb' hne he=>hne (pZj hp hh ha ha' hb' he)
 ·intro x hx
  obtain⟨j,hj,rfl⟩:=List.mem_map.1 hx;exact pZi hp hh ha hj
def jZB(a p h:Nat):Nat:=iZV ((upto h).map (gc a p h))
theorem qO{p:Nat}(hp:Pr p):∀(l:List Nat),(∀j∈l,¬p∣j)→¬(p:Int)∣fD (l.map fun j:Nat=>(j:Int))
 |[],_,h=>by
  simp only[List.map_nil,fD] at h;have:=Int.ofNat_dvd_left.1 h;have:=Nat.le_of_dvd aD this;have:=hp.1;omega
 |x::l,hl,h=>by
  simp only[List.map_cons,fD] at h;rcases hp.dvd_mul_int h with h|h
  ·exact hl x (by simp) (Int.ofNat_dvd.1 h)
  ·exact qO hp l (fun j hj=>hl j (by simp[hj])) h
theorem gauss{a p h:Nat}(hp:Pr p)(hh:p=2*h+1)(ha:¬p∣a):(p:Int)∣(a:Int)^h-eps (jZB a p h):=by
 have h1:=dZ0 (upto h) (fun j=>(a:Int)*j) (fun j=>eps (gc a p h j)*(gm a p h j:Int)) fun j hj=>cZj hp hh ha hj;rw[aZK,aZK,dZz,cZE,hZq] at h1;have h2:fD ((upto h).map fun j=>(gm a p h j:Int))=fD ((upto h).map fun j:Nat=>(j:Int)):=by
  have:=eZW ((mZe hp hh ha).map (fun j:Nat=>(j:Int)));rw[List.map_map] at this;exact this
 rw[h2,←Int.sub_mul] at h1;rcases hp.dvd_mul_int h1 with h|h
 ·exact h
 ·exact absurd h (qO hp _ fun j hj=>by rw[sH] at hj;exact qN hj.1 oM)
def leg(a p:Nat):Int:=if a^((p-1)/2)%p=0 then 0 else if a^((p-1)/2)%p=1 then 1 else-1
def fG(a:Int)(p:Nat):Int:=leg (a%(p:Int)).toNat p
def OP(p:Nat):Prop:=Pr p∧p%2=1
theorem OP.half{p:Nat}(h:OP p):p=2*((p-1)/2)+1∧3≤p∧1≤(p-1)/2:=by
 have:=h.1.1;have:=h.2;omega
theorem aZO(a p:Nat):leg a p=0∨leg a p=1∨leg a p= -1:=by
 unfold leg;split
 ·simp
 ·split<;>simp
theorem yN{p:Nat}(hp:2≤p){x:Nat}(h:(p:Int)∣(x:Int)-1):x%p=1:=by
 have h1:=Int.emod_emod_of_dvd ((x:Int)-1) h;have:((x:Int)-1)%p=0:=Int.emod_eq_zero_of_dvd h;have h2:(x:Int)%p=1%p:=by
  have:=Int.emod_eq_emod_iff_emod_sub_eq_zero.2 this;exact this
 have h3:(1:Int)%p=1:=Int.emod_eq_of_lt oM oM;rw[h3] at h2;exact_mod_cast h2
theorem lZQ{a p:Nat}(hp:OP p):(p:Int)∣(a:Int)^((p-1)/2)-leg a p:=by
 obtain⟨hh,h3,_⟩:=hp.half;have hmod:(a:Int)^((p-1)/2)=((a^((p-1)/2):Nat):Int):=by simp
 unfold leg
 by_cases h0:a^((p-1)/2)%p=0
 ·rw[if_pos h0,hmod]
  have:=Nat.dvd_of_mod_eq_zero h0;rw[Int.sub_zero];exact Int.ofNat_dvd.2 this
 ·rw[if_neg h0]
  have ha:¬p∣a:=fun h=>h0 (Nat.mod_eq_zero_of_dvd (by
   obtain⟨k,hk⟩:∃k,(p-1)/2=k+1:=⟨(p-1)/2-1,oM⟩;rw[hk,Nat.pow_succ];exact Nat.dvd_mul_left_of_dvd h _))
  have hg:=gauss hp.1 hh ha
  by_cases h1:a^((p-1)/2)%p=1
  ·rw[if_pos h1,hmod]
   have:=Nat.div_add_mod (a^((p-1)/2)) p;exact⟨((a^((p-1)/2)/p:Nat):Int),by rw[h1] at this;omega⟩
  ·rw[if_neg h1]
   rcases fZl (jZB a p ((p-1)/2)) with e|e
   ·rw[e,hmod] at hg
    exact absurd (yN oM hg) h1
   ·rw[e] at hg;exact hg
theorem lX(a:Int)(p:Nat):fG a p=0∨fG a p=1∨fG a p= -1:=aZO _ _
theorem aZB{m x y:Int}(h:m∣x-y):∀k:Nat,m∣x^k-y^k
 |0=>by simp
 |k+1=>by
  rw[Int.pow_succ,Int.pow_succ];have e:x^k*x-y^k*y=(x^k-y^k)*x+y^k*(x-y):=by rw[Int.sub_mul,Int.mul_sub];omega
  rw[e];exact Int.dvd_add (Int.dvd_mul_of_dvd_left (aZB h k)) (Int.dvd_mul_of_dvd_right h)
theorem sK{a:Int}{p:Nat}(hp:OP p):(p:Int)∣a^((p-1)/2)-fG a p:=by
 obtain⟨hh,h3,_⟩:=hp.half;have h1:=lZQ (a:=(a%(p:Int)).toNat) hp;have h2:(((a%(p:Int)).toNat:Nat):Int)=a%(p:Int):=Int.toNat_of_nonneg (Int.emod_nonneg _ oM);rw[h2] at h1;have h4:(p:Int)∣a-a%(p:Int):=Int.dvd_self_sub_emod;have h5:=aZB h4 ((p-1)/2);have:=Int.dvd_add h5 h1;rwa[show a^((p-1)/2)-(a%(p:Int))^((p-1)/2)+((a%(p:Int))^((p-1)/2)-leg (a%(p:Int)).toNat p)=a^((p-1)/2)-fG a p by unfold fG;omega] at this
theorem rP{p:Nat}(hp:3≤p){x y:Int}(hx:x=0∨x=1∨x= -1)(hy:y=0∨y=1∨y= -1)(h:(p:Int)∣x-y):x=y:=by
 have:=Int.ofNat_dvd_left.1 h;rcases Nat.eq_zero_or_pos (x-y).natAbs with h0|h0
 ·omega
 ·have:=Nat.le_of_dvd h0 this;omega
theorem jZz{a b:Int}{p:Nat}(hp:OP p):fG (a*b) p=fG a p*fG b p:=by
 refine rP hp.half.2.1 (lX _ _) ?_ ?_
 ·rcases lX a p with h|h|h<;>rcases lX b p with h'|h'|h'<;>rw[h,h']<;>simp
 ·have h1:=sK (a:=a*b) hp
  have h2:=sK (a:=a) hp;have h3:=sK (a:=b) hp;rw[Int.mul_pow] at h1;have e:fG (a*b) p-fG a p*fG b p= -(a^((p-1)/2)*b^((p-1)/2)-fG (a*b) p)+((a^((p-1)/2)-fG a p)*b^((p-1)/2)+fG a p*(b^((p-1)/2)-fG b p)):=by
   rw[Int.sub_mul,Int.mul_sub];omega
  rw[e];exact Int.dvd_add ((Int.dvd_neg).2 h1) (Int.dvd_add (Int.dvd_mul_of_dvd_left h2) (Int.dvd_mul_of_dvd_right h3))
theorem kT{a:Int}{p:Nat}(hp:OP p):fG a p=0↔(p:Int)∣a:=by
 have h1:=sK (a:=a) hp;obtain⟨hh,h3,hk⟩:=hp.half;obtain⟨k,hk'⟩:∃k,(p-1)/2=k+1:=⟨(p-1)/2-1,oM⟩;constructor
 ·intro h
  rw[h,Int.sub_zero] at h1;have:∀n:Nat,(p:Int)∣a^n→(p:Int)∣a∨n=0:=by
   intro n;induction n with
   |zero=>intro _;exact .inr rfl
   |succ n ih=>
    intro h;rw[Int.pow_succ] at h;rcases hp.1.dvd_mul_int h with h|h
    ·rcases ih h with h|h
     ·exact .inl h
     ·subst h
      rw[Int.pow_zero] at*;have:=Int.ofNat_dvd_left.1 ‹(p:Int)∣1›;have:=Nat.le_of_dvd aD this;omega
    ·exact .inl h
  rcases this _ h1 with h|h
  ·exact h
  ·omega
 ·intro h
  refine rP h3 (lX _ _) (.inl rfl) ?_;rw[hk',Int.pow_succ] at h1;have h2:(p:Int)∣a^k*a:=Int.dvd_mul_of_dvd_right h;have:=Int.dvd_sub h2 h1;rwa[show a^k*a-(a^k*a-fG a p)=fG a p-0 by omega] at this
end Go.Proofs.YtfmjdlogjmofbaaGreatDoor.Num
namespace Go.Proofs.YtfmjdlogjmofbaaGreatDoor.Num
end Go.Proofs.YtfmjdlogjmofbaaGreatDoor.Num
namespace Go.Proofs.YtfmjdlogjmofbaaGreatDoor
section
open Go.RowKit Num
theorem cZJ(a n:Int):(a.tmod n+n)%n=a%n:=by
 have h1:=Int.tmod_add_mul_tdiv a n;have:a.tmod n+n=a+n*(1-a.tdiv n):=by rw[Int.mul_sub];omega
 rw[this,Int.add_mul_emod_self_left]
theorem kZX{a n:Int}(h:1≤n)(hl:a.tmod n<0):a.tmod n+n=a%n:=by
 have h1:=Int.lt_tmod_of_pos a (show 0<n by omega)
 rw[←cZJ,Int.emod_eq_of_lt oM oM]
theorem gZS{a n:Int}(h:1≤n)(hl:0≤a.tmod n):a.tmod n=a%n:=by
 have h2:=Int.tmod_lt_of_pos a (show 0<n by omega)
 rw[←cZJ,Int.add_emod_right,Int.emod_eq_of_lt hl h2]
theorem gZc(a n:Int)(w:World)(h3:1≤n)(h4:n≤4294967296):
  Calls Tryz.prog 139 #[.int .i64 a,.int .i64 n] w fun e w'=>e= .returned (.int .i64 (a%n))∧w=w':=by
 have hl:=Int.lt_tmod_of_pos a (show 0<n by omega)
 have hu:=Int.tmod_lt_of_pos a (show 0<n by omega)
 by_cases hs:a.tmod n<0
 ·have HR:=Lib.hid (kZX h3 hs)
  go_enter Tryz.func139,Tryz.ntmps139
  go_wp2
  go_ret
  exact⟨pV HR.out,rfl⟩
 ·have HR:=Lib.hid (gZS (a:=a) h3 oM)
  go_enter Tryz.func139,Tryz.ntmps139
  go_wp2
  go_ret
  exact⟨pV HR.out,rfl⟩
theorem oZQ(o x e m:Nat)(h:e%2=1):((o*x%m)*(x*x%m)^(e/2))%m=(o*x^e)%m:=by
 have:x^e=x*(x*x)^(e/2):=by
  rw[←Nat.pow_two,←Nat.pow_mul];conv=>lhs;rw[show e=2*(e/2)+1 by omega,Nat.pow_succ]
  rw[Nat.mul_comm]
 rw[this,←Nat.mul_assoc,Nat.mul_mod,Nat.mod_mod,←Nat.pow_mod,←Nat.mul_mod]
theorem lZH(o x e m:Nat)(h:e%2=0):(o*(x*x%m)^(e/2))%m=(o*x^e)%m:=by
 have:x^e=(x*x)^(e/2):=by
  rw[←Nat.pow_two,←Nat.pow_mul];congr 1;omega
 rw[this,Nat.mul_mod,←Nat.pow_mod,←Nat.mul_mod]
theorem wA{a b:Nat}{c:Nat}(h:a*b≤c):(a:Int)*(b:Int)≤(c:Int):=by exact_mod_cast h
theorem cZ0(a b m:Nat):(a:Int)*(b:Int)%(m:Int)=((a*b%m:Nat):Int):=by simp
theorem eZT(a:Int)(E m:Nat)(w:World)(hm:1≤m)(hm2:m≤2147483648)(hE:E≤4611686018427387904):
  Calls Tryz.prog 138 #[.int .i64 a,.int .i64 E,.int .i64 m] w fun e w'=>e= .returned (.int .i64 (((a%(m:Int)).toNat^E%m:Nat)))∧w=w':=by
 obtain⟨x0,hx0⟩:∃x0:Nat,(a%(m:Int)).toNat=x0:=⟨_,rfl⟩;have hx0i:a%(m:Int)=(x0:Int):=by have:=Int.emod_nonneg a (show(m:Int)≠0 by omega);omega
 have hx0m:x0<m:=by have:=Int.emod_lt_of_pos a (show 0<(m:Int) by omega);omega
 rw[hx0];have HX:=Lib.hid hx0i;clear hx0 hx0i;have h1m:((1:Int)%(m:Int))=((1%m:Nat):Int):=by simp
 have H1:=Lib.hid h1m;clear h1m;go_enter Tryz.func138,Tryz.ntmps138
 go_wp2_with (go_at_call 139;refine(gZc _ _ _ oM oM).mono ?_;rintro e w' ⟨rfl,rfl⟩;rw[HX.out])
 go_loopg [0,1,7] E (fun g s0 s1 s7 wr=>∃x e o:Nat,e≤g∧e≤E∧x<m∧o<m∧s0= .int .i64 x∧s1= .int .i64 e∧s7= .int .i64 o∧w=wr∧(o*x^e)%m=x0^E%m)
 case atStart=>exact⟨x0,E,1%m,oM,oM,hx0m,Nat.mod_lt _ oM,rfl,rfl,by rw[H1.out],rfl,by rw[Nat.mod_mul_mod,Nat.one_mul]⟩
 case round=>
  obtain⟨x,e,o,heg,heE,hxm,hom,rfl,rfl,rfl,rfl,hinv⟩:=hrel;have HI:=Lib.hid hinv;clear hinv;have b1:o*x≤4611686018427387904:=Nat.mul_le_mul (show o≤2147483648 by omega) (show x≤2147483648 by omega)
  have b2:x*x≤4611686018427387904:=Nat.mul_le_mul (show x≤2147483648 by omega) (show x≤2147483648 by omega)
  have c1:(o:Int)*(x:Int)≤4611686018427387904:=wA b1;have c2:(x:Int)*(x:Int)≤4611686018427387904:=wA b2;have p1:0≤(o:Int)*(x:Int):=Int.mul_nonneg oM oM;have p2:0≤(x:Int)*(x:Int):=Int.mul_nonneg oM oM;clear b1 b2
  by_cases he:e=0
  ·subst he
   go_wp2
   go_ret
   exact⟨pV (by rw[←HI.out,Nat.pow_zero,Nat.mul_one,Nat.mod_eq_of_lt hom]),rfl⟩
  ·have he':(0:Int)<(e:Int):=oM
   rcases Nat.mod_two_eq_zero_or_one e with ho|ho
   ·have hb:((e:Int)%2==1)=false:=by rw[beq_eq_false_iff_ne];omega
    have HN:=Lib.hid (lZH o x e m ho);have HO:=Lib.hid ho;clear ho;go_wp2
    go_roundg (e/2)
    case measure=>omega
    case rel=>exact⟨x*x%m,e/2,o,oM,oM,Nat.mod_lt _ oM,hom,by rw[cZ0],by go_num,rfl,rfl,HN.out.trans HI.out⟩
   ·have hb:((e:Int)%2==1)=true:=by rw[beq_iff_eq];omega
    have HN:=Lib.hid (oZQ o x e m ho);have HO:=Lib.hid ho;clear ho;go_wp2
    go_roundg (e/2)
    case measure=>omega
    case rel=>exact⟨x*x%m,e/2,o*x%m,oM,oM,Nat.mod_lt _ oM,Nat.mod_lt _ oM,by rw[cZ0],by go_num,by rw[cZ0],rfl,HN.out.trans HI.out⟩
theorem bZY(a:Int)(p:Nat)(w:World)(h1:1≤p)(h2:p≤2147483648):
  Calls Tryz.prog 80 #[.int .i64 a,.int .i64 p] w fun e w'=>e= .returned (.int .i64 (fG a p))∧w=w':=by
 have c:=eZT a ((p-1)/2) p w h1 h2 oM;rw[show(((p-1)/2:Nat):Int)=((p:Int)-1)/2 by omega] at c
 obtain⟨r,hr⟩:∃r,(a%(p:Int)).toNat^((p-1)/2)%p=r:=⟨_,rfl⟩;have HT:Hid (fG a p=if r=0 then 0 else if r=1 then 1 else-1):=by show fG a p=_;unfold fG leg;rw[hr]
 rw[hr] at c;have C:=Lib.hid c;clear c hr
 by_cases r0:r=0
 ·subst r0
  go_enter Tryz.func80,Tryz.ntmps80
  go_wp2_with (go_at_call 138;refine C.out.mono ?_;rintro e w' ⟨rfl,rfl⟩)
  go_ret
  exact⟨pV (by rw[HT.out];rfl),rfl⟩
 ·by_cases r1:r=1
  ·subst r1
   go_enter Tryz.func80,Tryz.ntmps80
   go_wp2_with (go_at_call 138;refine C.out.mono ?_;rintro e w' ⟨rfl,rfl⟩)
   go_ret
   exact⟨pV (by rw[HT.out];rfl),rfl⟩
  ·have b0:((r:Int)==0)=false:=by rw[beq_eq_false_iff_ne];omega
   have b1:((r:Int)==1)=false:=by rw[beq_eq_false_iff_ne];omega
   have HT2:Hid (fG a p= -1):=by have:=HT.out;rwa[if_neg r0,if_neg r1] at this
   clear r0 r1 HT;go_enter Tryz.func80,Tryz.ntmps80
   go_wp2_with (go_at_call 138;refine C.out.mono ?_;rintro e w' ⟨rfl,rfl⟩)
   go_ret
   exact⟨pV (by rw[HT2.out]),rfl⟩
end
end Go.Proofs.YtfmjdlogjmofbaaGreatDoor
namespace Go.Proofs.YtfmjdlogjmofbaaGreatDoor.Num
end Go.Proofs.YtfmjdlogjmofbaaGreatDoor.Num
namespace Go.Proofs.YtfmjdlogjmofbaaGreatDoor
section
open Go.RowKit Num
end
section
open Go.RowKit Num
end
end Go.Proofs.YtfmjdlogjmofbaaGreatDoor
namespace Go.Proofs.YtfmjdlogjmofbaaGreatDoor.Num
end Go.Proofs.YtfmjdlogjmofbaaGreatDoor.Num
namespace Go.Proofs.YtfmjdlogjmofbaaGreatDoor
section
open Go.RowKit Num
end
section
open Go.RowKit Limb Num
section
variable(En:Ev)
end
theorem qT{f:Nat→List Pd}{k:Nat}(hf:∀i,(f i).length=k):∀{n j:Nat},j<n→∃Lo Hi,Lo.length=j*k∧rows f n=Lo++(f j++Hi)∧∀g:Nat→List Pd,(∀t,t≠j→g t=f t)→rows g n=Lo++(g j++Hi)
 |0,_,h=>oM
 |n+1,j,h=>by
  by_cases e:j=n
  ·subst e
   refine⟨rows f j,[],fA hf j,by rw[gB];simp,fun g hg=>?_⟩
   rw[gB,xY (g:=f) fun i hi=>hg i oM];simp
  ·obtain⟨Lo,Hi,h1,h2,h3⟩:=qT hf (n:=n) (j:=j) oM
   refine⟨Lo,Hi++f n,h1,by rw[gB,h2];simp,fun g hg=>?_⟩
   rw[gB,h3 g hg,hg n (fun h=>e h.symm)];simp
section
variable(En:Ev)
end
end
section
open Go.RowKit Limb Num
def TabE:Ev:=⟨Tab,fun k=>k=1,fun w ⟨t,fr,h⟩ k hk=>by subst hk;exact dB h,fun w w' hk ⟨t,fr,h⟩=>⟨t,fr,by rw[hk _ rfl];exact h⟩⟩
instance kb139:CBody PZ 139:=cB Tryz.func139
instance kb175:CBody PZ 175:=cB Tryz.func175
section
variable(En:Ev)
theorem aZo(a n:Int)(h3:1≤n)(h4:n≤4294967296):Fn PZ En 139 [i6 a,i6 n] (i6 (a%n)):=by
 intro h w vs _ hh hv;obtain⟨v,u,rfl,h1,h2⟩:=hv.two;have h1:v= .int .i64 a:=h1;have h2:u= .int .i64 n:=h2;subst h1 h2;exact(gZc a n w h3 h4).mono fun _ _ ⟨he,hb⟩=>by subst he;subst hb;exact jR hh (Below.refl _ _) rfl
theorem gris(n:Int):Fn PZ En 175 [i6 n] (ex (.bool (isP n.toNat))):=by
 intro h w vs _ hh hv;obtain⟨v,rfl,h1⟩:=hv.one;have h1:v= .int .i64 n:=h1;subst h1;exact(lZz n w).mono fun _ _ ⟨he,hb⟩=>by subst he;subst hb;exact jR hh (Below.refl _ _) rfl
end
end
section
open Go.RowKit Limb Num
section
variable{P:Program}{En:Ev}{n:Nat}{sl:Sl}{bx:Bx}{dst:Option Tmp}{ty:TypeId}{pos:String}{after:Array Edge}{guard:Option (Nat×Bool)}
end
theorem wN{b:Nat}{r:Rat}(h:Sz b r)(n:Nat):Sz (n*b+1) (r^n):=by
 refine⟨by rw[Rat.num_pow];exact lO h.1,?_⟩
 have:=lO (n:=n) h.2;rw[Rat.den_pow];exact_mod_cast this
end
section
open Limb Num
def fct(p:Int)(c:Int)(e:Nat):Rat:=((1:Int):Rat)-((c:Int):Rat)*(((p:Int):Rat)⁻¹)^e
def dvs(p:Int):Nat→Rat
 |0=>((2:Int):Rat)
 |k+1=>dvs p k*fct p 1 (2*(k+1))
def dia(p:Int)(n:Nat)(c:Int):Rat:=if n=0 then((1:Int):Rat) else if n%2=1 then((1:Int):Rat)/dvs p ((n+1)/2-1) else((1:Int):Rat)/(dvs p ((n+1)/2-1)*fct p c ((n+1)/2))
theorem pinv{p:Int}(hp:2≤p)(e:Nat):(((p:Int):Rat)⁻¹)^e*((p^e:Int):Rat)=1:=by
 have h0:((p:Int):Rat)≠0:=by intro h;have:=Rat.intCast_eq_zero_iff.1 h;omega
 induction e with
 |zero=>rw[Rat.pow_zero,Int.pow_zero,Rat.one_mul];rfl
 |succ e ih=>
  rw[Rat.pow_succ,Int.pow_succ,Rat.intCast_mul];have h1:((p:Int):Rat)⁻¹*((p:Int):Rat)=1:=Rat.inv_mul_cancel _ h0;generalize(((p:Int):Rat)⁻¹)^e=a at*;generalize((p^e:Int):Rat)=b at*;generalize((p:Int):Rat)⁻¹=c at*;generalize((p:Int):Rat)=d at*;grind
theorem dZi{p:Int}(hp:2≤p):∀{e:Nat},1≤e→2≤p^e
 |0,h=>oM
 |1,_=>by rw[Int.pow_succ,Int.pow_zero,Int.one_mul];exact hp
 |e+2,_=>by
  have:=dZi hp (e:=e+1) oM;rw[Int.pow_succ];have h2:2*1≤p^(e+1)*p:=Int.mul_le_mul this oM oM oM;omega
theorem jZS{p c:Int}(hp:2≤p){e:Nat}(he:1≤e)(h1: -1≤c)(h2:c≤1):fct p c e≠0:=by
 intro h;have hi:=pinv hp e;have hb:=dZi hp he;unfold fct at h;have hk:((p^e:Int):Rat)=((c:Int):Rat):=by
  rw[show((1:Int):Rat)=1 from rfl] at h
  generalize(((p:Int):Rat)⁻¹)^e=a at*;generalize((p^e:Int):Rat)=b at*;generalize((c:Int):Rat)=d at*;grind
 have:=Rat.intCast_inj.1 hk;omega
theorem fZm{p:Int}(hp:2≤p):∀k,dvs p k≠0
 |0=>by show((2:Int):Rat)≠0;decide
 |k+1=>by rw[dvs];exact fun h=>(Rat.mul_eq_zero.1 h).elim (fZm hp k) (jZS hp oM oM oM)
theorem fZ7{p:Int}(h1:2≤p)(h2:p≤9973)(e:Nat):Sz (e*2+1) ((((p:Int):Rat)⁻¹)^e):=wN (bZr (qH (z:=p) oM oM) oM) e
theorem oZv{a b:Nat}{r s:Rat}(h:Sz a r)(k:Sz b s):Sz (a+b+1) (r-s):=by rw[Rat.sub_eq_add_neg];exact bZs h (fZ6 k)
theorem bZt{p c:Int}(h1:2≤p)(h2:p≤9973)(c1: -1≤c)(c2:c≤1){e:Nat}(he:e≤10):Sz 30 (fct p c e):=
 (oZv (qH (z:=1) oM oM) (lI (qH (z:=c) oM oM) (fZ7 h1 h2 e))).mono oM
theorem xK{p:Int}(h1:2≤p)(h2:p≤9973):∀{k:Nat},k≤4→Sz (k*30+2) (dvs p k)
 |0,_=>qH oM oM
 |k+1,h=>(lI (xK h1 h2 (k:=k) oM) (bZt h1 h2 (c:=1) oM oM oM)).mono oM
theorem iZb{a b:Nat}{r s:Rat}(h:Sz a r)(k:Sz b s)(hb:1≤b):Sz (a+b) (r/s):=by rw[Rat.div_def];exact lI h (bZr k hb)
theorem iZc{p c:Int}(h1:2≤p)(h2:p≤9973)(c1: -1≤c)(c2:c≤1){n:Nat}(hn:n≤9):Sz 200 (dia p n c):=by
 unfold dia;split
 ·exact(qH (z:=1) oM oM).mono oM
 ·split
  ·exact(iZb (qH (z:=1) oM oM) (xK h1 h2 (k:=(n+1)/2-1) oM) oM).mono oM
  ·exact(iZb (qH (z:=1) oM oM) (lI (xK h1 h2 (k:=(n+1)/2-1) oM) (bZt h1 h2 c1 c2 (e:=(n+1)/2) oM)) oM).mono oM
end
section
open Go.RowKit Limb
instance qZn:COne Tryz.prog 3:=⟨⟨_,Tryz.underlying3,rfl,by kernel_rfl⟩⟩
instance pZ2:COne Tryz.prog 2:=⟨⟨_,Tryz.underlying2,rfl,by kernel_rfl⟩⟩
instance mZ6:CRow Tryz.prog 71 2:=⟨⟨_,Tryz.underlying71,rfl,by kernel_rfl⟩⟩
instance hZG:CField Tryz.prog 71 0 0:=⟨⟨_,_,Tryz.underlying71,rfl,rfl,by kernel_rfl⟩⟩
instance hZF:CField Tryz.prog 71 1 1:=⟨⟨_,_,Tryz.underlying71,rfl,rfl,by kernel_rfl⟩⟩
theorem rO:gR Tryz.prog 71 [.int .i64 0,.int .i64 0]:=⟨by kernel_rfl,by simp[Value.oneCell']⟩
instance kZ5:CZero Tryz.prog 71 [.int .i64 0,.int .i64 0]:=⟨rO⟩
instance hZE:CStruct Tryz.prog 71 [(0,1),(1,1)] [.int .i64 0,.int .i64 0]:=⟨⟨rO,_,Tryz.underlying71,fun _=>by kernel_rfl⟩⟩
instance pZW:CRow Tryz.prog 69 5:=⟨⟨_,Tryz.underlying69,rfl,by kernel_rfl⟩⟩
instance mZT:CField Tryz.prog 69 0 0:=⟨⟨_,_,Tryz.underlying69,rfl,rfl,by kernel_rfl⟩⟩
instance mZS:CField Tryz.prog 69 1 1:=⟨⟨_,_,Tryz.underlying69,rfl,rfl,by kernel_rfl⟩⟩
instance mZR:CField Tryz.prog 69 2 2:=⟨⟨_,_,Tryz.underlying69,rfl,rfl,by kernel_rfl⟩⟩
instance mZQ:CField Tryz.prog 69 3 3:=⟨⟨_,_,Tryz.underlying69,rfl,rfl,by kernel_rfl⟩⟩
instance mZP:CField Tryz.prog 69 4 4:=⟨⟨_,_,Tryz.underlying69,rfl,rfl,by kernel_rfl⟩⟩
theorem aZs:gR Tryz.prog 69 [.int .i64 0,.int .i64 0,.int .i64 0,.bool false,.int .i64 0]:=⟨by kernel_rfl,by simp[Value.oneCell']⟩
instance pZr:CZero Tryz.prog 69 [.int .i64 0,.int .i64 0,.int .i64 0,.bool false,.int .i64 0]:=⟨aZs⟩
instance mZ2:CStruct Tryz.prog 69 [(0,1),(1,1),(2,1),(3,1),(4,1)] [.int .i64 0,.int .i64 0,.int .i64 0,.bool false,.int .i64 0]:=⟨⟨aZs,_,Tryz.underlying69,fun _=>by kernel_rfl⟩⟩
instance nZI:CSlice Tryz.prog 40 69:=⟨Tryz.underlying40⟩
instance pZB:CElem Tryz.prog 40 69 5:=⟨Tryz.underlying40,by kernel_rfl⟩
instance pZ3:COne Tryz.prog 40:=⟨⟨_,Tryz.underlying40,rfl,by kernel_rfl⟩⟩
instance pZx:CRowZ Tryz.prog 69 5 [.int .i64 0,.int .i64 0,.int .i64 0,.bool false,.int .i64 0] 40:=⟨by kernel_rfl,rfl,rfl⟩
instance pZy:CRow Tryz.prog 42 2:=⟨⟨_,Tryz.underlying42,rfl,by kernel_rfl⟩⟩
instance kZF:CField Tryz.prog 42 0 0:=⟨⟨_,_,Tryz.underlying42,rfl,rfl,by kernel_rfl⟩⟩
instance kZE:CField Tryz.prog 42 1 1:=⟨⟨_,_,Tryz.underlying42,rfl,rfl,by kernel_rfl⟩⟩
theorem xA:gR Tryz.prog 42 [.int .i64 0,.slice none 0 0]:=⟨by kernel_rfl,by simp[Value.oneCell']⟩
instance nZF:CZero Tryz.prog 42 [.int .i64 0,.slice none 0 0]:=⟨xA⟩
instance kZ7:CStruct Tryz.prog 42 [(0,1),(1,1)] [.int .i64 0,.slice none 0 0]:=⟨⟨xA,_,Tryz.underlying42,fun _=>by kernel_rfl⟩⟩
instance pZV:CRow Tryz.prog 36 5:=⟨⟨_,Tryz.underlying36,rfl,by kernel_rfl⟩⟩
instance mZO:CField Tryz.prog 36 0 0:=⟨⟨_,_,Tryz.underlying36,rfl,rfl,by kernel_rfl⟩⟩
instance mZN:CField Tryz.prog 36 1 4:=⟨⟨_,_,Tryz.underlying36,rfl,rfl,by kernel_rfl⟩⟩
theorem aZr:gR Tryz.prog 36 [.bool false,.slice none 0 0,.bool false,.slice none 0 0,.bool false]:=⟨by kernel_rfl,by simp[Value.oneCell']⟩
instance pZq:CZero Tryz.prog 36 [.bool false,.slice none 0 0,.bool false,.slice none 0 0,.bool false]:=⟨aZr⟩
instance mZ1:CStruct Tryz.prog 36 [(0,4),(4,1)] [.bool false,.slice none 0 0,.bool false,.slice none 0 0,.bool false]:=⟨⟨aZr,_,Tryz.underlying36,fun _=>by kernel_rfl⟩⟩
instance pZT:CRow Tryz.prog 178 5:=⟨⟨_,Tryz.underlying178,rfl,by kernel_rfl⟩⟩
instance mZJ:CField Tryz.prog 178 0 0:=⟨⟨_,_,Tryz.underlying178,rfl,rfl,by kernel_rfl⟩⟩
instance mZI:CField Tryz.prog 178 1 1:=⟨⟨_,_,Tryz.underlying178,rfl,rfl,by kernel_rfl⟩⟩
instance mZH:CField Tryz.prog 178 2 2:=⟨⟨_,_,Tryz.underlying178,rfl,rfl,by kernel_rfl⟩⟩
instance mZG:CField Tryz.prog 178 3 3:=⟨⟨_,_,Tryz.underlying178,rfl,rfl,by kernel_rfl⟩⟩
instance mZF:CField Tryz.prog 178 4 4:=⟨⟨_,_,Tryz.underlying178,rfl,rfl,by kernel_rfl⟩⟩
theorem gZM:gR Tryz.prog 178 [.bool false,.bool false,.int .i64 0,.int .i64 0,.int .i64 0]:=⟨by kernel_rfl,by simp[Value.oneCell']⟩
instance pZp:CZero Tryz.prog 178 [.bool false,.bool false,.int .i64 0,.int .i64 0,.int .i64 0]:=⟨gZM⟩
instance qZd:CArr Tryz.prog 179 12 178 5:=⟨Tryz.underlying179,by kernel_rfl⟩
instance pZS:CRow Tryz.prog 179 60:=⟨⟨_,Tryz.underlying179,rfl,by kernel_rfl⟩⟩
end
section
open Go.RowKit Limb Num
instance kb27:CBody PZ 27:=cB Tryz.func27
instance kb76:CBody PZ 76:=cB Tryz.func76
instance kb30:CBody PZ 30:=cB Tryz.func30
instance kb136:CBody PZ 136:=cB Tryz.func136
instance kb33:CBody PZ 33:=cB Tryz.func33
section
variable(En:Ev)
theorem qZ(a:Int)(h1: -9223372036854775808≤a)(h2:a≤9223372036854775807):Fn PZ En 27 [i6 a] (qC (a:Rat)):=by
 have C1:=zA En a h1 h2;have C2:=jZ2 En a (Nat.le_trans (dL oM oM) oM);refine aA Tryz.func27 rfl Tryz.ntmps27 rfl ?_;intro w0 h0;refine vS<|vA jj<|vJ<|jm jj<|vC C1 tA<|vC C2 tA<|vP jj<|jn<|ji ?_;exact rtC rfl jj jj
theorem gZd(p c:Int)(e:Nat)(hp:2≤p)(hp2:p≤9973)(c1: -1≤c)(c2:c≤1)(he:1≤e)(he2:e≤10):Fn PZ En 76 [i6 p,i6 c,i6 e] (qC (fct p c e)):=by
 have hne:((p:Int):Rat)≠0:=by intro h;have:=Rat.intCast_eq_zero_iff.1 h;omega
 have Sp:=qH (z:=p) oM oM;have Sc:=qH (z:=c) oM oM;have S1:=qH (z:=1) oM oM;have Si:=fZ7 hp hp2 e;have C1:=qZ En p oM oM;have C2:=aZQ En ((p:Int):Rat) e (Sp.mono oM) oM oM hne;have C3:=qZ En 1 oM oM;have C4:=qZ En c oM oM;have C5:=dZ2 En ((c:Int):Rat) ((((p:Int):Rat)⁻¹)^e) (Sc.mono oM) (Si.mono oM);have C6:=krsub En ((1:Int):Rat) (((c:Int):Rat)*(((p:Int):Rat)⁻¹)^e) (S1.mono oM) ((lI Sc Si).mono oM);rw[show((1:Int):Rat)-((c:Int):Rat)*(((p:Int):Rat)⁻¹)^e=fct p c e from rfl] at C6
 have en:IntKind.i64.wrap (-(e:Int))= -(e:Int):=w64 oM oM;refine aA Tryz.func76 rfl Tryz.ntmps76 rfl ?_;intro w0 h0;refine vS<|vA jj<|vJ<|jm jj<|vC C1 ⟨jj,trivial⟩<|jm jj<|jS (gN jj (fun w=>fO w _ _) (dV en))<|vC C2 ⟨jj,jj,trivial⟩<|jm jj<|vE jj<|vE jj<|vA jj<|vP jj<|vZ jj<|vS<|vC C3 ⟨jj,trivial⟩<|jm jj<|vC C4 ⟨jj,trivial⟩<|vL jj<|vC C5 ⟨jj,jj,trivial⟩<|vC C6 ⟨jj,jj,trivial⟩<|vP jj<|jn<|ji ?_;exact rtC rfl jj jj
theorem jZT(p:Int)(k:Nat):dvs p (k+1)=dvs p k*fct p 1 (2*(k+1)):=rfl
theorem aZJ(p c:Int)(n:Nat)(hp:2≤p)(hp2:p≤9973)(c1: -1≤c)(c2:c≤1)(hn:n≤9):Fn PZ En 30 [i6 p,cD [i6 n,i6 c]] (qC (dia p n c)):=by
 have W1:=qZ En 1 oM oM;have W2:=qZ En 2 oM oM
 by_cases hn0:n=0
 ·subst hn0
  unfold dia;rw[if_pos rfl];refine aA Tryz.func30 rfl Tryz.ntmps30 rfl ?_;intro w0 h0;refine vS<|vB jj<|vA jj<|jn<|js<|vS<|vX jj<|vEt jj<|jn<|jt jj<|vS<|vC W1 ⟨jj,trivial⟩<|vP jj<|jn<|ji ?_;exact rtC rfl jj jj
 obtain⟨m,hm⟩:∃m,(n+1)/2=m+1:=⟨(n+1)/2-1,oM⟩;have ea:=wS n oM;have eb:IntKind.i64.wrap (((n+1:Nat):Int).tdiv 2)=((m+1:Nat):Int):=by
  rw[show((n+1:Nat):Int).tdiv 2=(((n+1)/2:Nat):Int) from(Int.ofNat_tdiv _ _).symm,hm]
  exact w64 oM oM
 have em:((n:Nat):Int).tmod 2=((n%2:Nat):Int):=(Int.ofNat_tmod _ _).symm;have S1:=qH (z:=1) oM oM;have Sd:=xK hp hp2 (k:=m) oM;refine aA Tryz.func30 rfl Tryz.ntmps30 rfl ?_;intro w0 h0;refine vS<|vB jj<|vA jj<|jn<|js<|vS<|vX jj<|vEf jj<|jn<|jf jj<|jp<|vS<|vX jj<|vAd jj ea<|jS (bQu jj jj eb)<|vZ jj<|vS<|vC W2 ⟨jj,trivial⟩<|vA jj<|vP jj<|jn<|js<|vS<|vZ jj<|jb ?_;refine WpD.loop (α:={k:Nat//k≤m}) (fun k=>⟨[(0,.one (i6 p)),(3,.ptr 3 0),(4,.ptr 4 0),(5,.one (i6 ((m+1:Nat):Int))),(6,.ptr 6 0),(7,.one (i6 ((k.1+1:Nat):Int)))],[(3,[i6 n,i6 c]),(4,[ex (.bool false),ex (.slice none 0 0),ex (.bool false),ex (.slice none 0 0)]),(6,tZ (dvs p k.1))]⟩) (fun k=>m-k.1) ⟨0,Nat.zero_le _⟩ ?_ ?_
 ·exact Sub.mk sJ sJ
 rintro⟨k,hk⟩;dsimp only at hk ⊢
 by_cases hlt:k<m
 ·have C1:=gZd En p 1 (2*(k+1)) hp hp2 oM oM oM oM
  have Sk:=xK hp hp2 (k:=k) oM;have C2:=dZ2 En (dvs p k) (fct p 1 (2*(k+1))) (Sk.mono oM) ((bZt hp hp2 (c:=1) oM oM oM).mono oM);rw[←jZT] at C2;have e1:IntKind.i64.wrap (2*((k+1:Nat):Int))=((2*(k+1):Nat):Int):=by rw[w64 oM oM];omega
  have e2:IntKind.i64.wrap (((k+1:Nat):Int)+1)=((k+1+1:Nat):Int):=by rw[w64 oM oM];omega
  refine js<|vS<|vV jj jj<|vLt jj<|jn<|jt jj<|jp<|js<|jb<|jr<|vL jj<|vV jj jj<|vMu jj e1<|vC C1 ⟨jj,jj,jj,trivial⟩<|vC C2 ⟨jj,jj,trivial⟩<|vP jj<|jn<|jr<|jm jj<|vAd jj e2<|vZ jj ?_;refine⟨⟨k+1,oM⟩,?_,oD⟩;exact Sub.mk sJ sJ
 ·have:k=m:=oM
  subst this
  by_cases hodd:n%2=1
  ·have hd:dia p n c=((1:Int):Rat)/dvs p k:=by
    unfold dia;rw[if_neg hn0,if_pos hodd,hm,Nat.add_sub_cancel]
   rw[hd];have Q1:=nZB En ((1:Int):Rat) (dvs p k) (S1.mono oM) (Sd.mono oM) (fZm hp k);refine js<|vS<|vV jj jj<|vLf jj<|jn<|jf jj<|je<|js<|vS<|vX jj<|jS (bRe jj jj em)<|vEf jj<|jn<|jf jj<|jp<|vS<|vC W1 ⟨jj,trivial⟩<|vL jj<|vC Q1 ⟨jj,jj,trivial⟩<|jm jj<|vE jj<|vE jj<|vA jj<|vP jj<|vZ jj<|vS<|vL jj<|vP jj<|jn<|ji ?_;exact rtC rfl jj jj
  ·have hd:dia p n c=((1:Int):Rat)/(dvs p k*fct p c (k+1)):=by
    unfold dia;rw[if_neg hn0,if_neg hodd,hm,Nat.add_sub_cancel]
   rw[hd];have hev:n%2=0:=oM;have Sf:=bZt hp hp2 c1 c2 (e:=k+1) oM;have C1:=gZd En p c (k+1) hp hp2 c1 c2 oM oM;have C2:=dZ2 En (dvs p k) (fct p c (k+1)) (Sd.mono oM) (Sf.mono oM);have hne:dvs p k*fct p c (k+1)≠0:=fun h=>(Rat.mul_eq_zero.1 h).elim (fZm hp k) (jZS hp oM c1 c2);have Q1:=nZB En ((1:Int):Rat) (dvs p k*fct p c (k+1)) (S1.mono oM) ((lI Sd Sf).mono oM) hne;refine js<|vS<|vV jj jj<|vLf jj<|jn<|jf jj<|je<|js<|vS<|vX jj<|jS (bRe jj jj em)<|vEt jj<|jn<|jt jj<|jr<|vL jj<|jm jj<|vX jj<|jm jj<|vC C1 ⟨jj,jj,jj,trivial⟩<|vC C2 ⟨jj,jj,trivial⟩<|vP jj<|vJ<|vC W1 ⟨jj,trivial⟩<|vL jj<|vC Q1 ⟨jj,jj,trivial⟩<|jm jj<|vE jj<|vE jj<|vA jj<|vP jj<|vZ jj<|vS<|vL jj<|vP jj<|jn ?_;refine ji ?_;exact rtC rfl jj jj
end
section
variable(En:Ev)
theorem pZh(a b:Int)(h1: -9223372036854775808≤a)(h2:a≤9223372036854775807)(h3: -9223372036854775808≤b)(h4:b≤9223372036854775807)(hb:b≠0):Fn PZ En 16 [i6 a,i6 b] (qC (Rat.divInt a b)):=by
 have C1:=iH En a h1 h2;have C2:=iH En b h3 h4;have C3:=knew En a b (Nat.le_trans (dL oM oM) (show 2≤536870912 by omega)) (Nat.le_trans (dL oM oM) (show 2≤536870912 by omega)) hb
 refine aA Tryz.func16 rfl Tryz.ntmps16 rfl ?_;intro w0 h0;refine vS<|vA jj<|vJ<|jm jj<|vC C1 tA<|jm jj<|vC C2 tA<|vC C3 tB<|jm jj<|vE jj<|vE jj<|vA jj<|vP jj<|vZ jj<|vS<|vL jj<|vP jj<|jn<|ji ?_;exact rtC rfl jj jj
end
end
section
open Go.RowKit Limb Num
instance kb89:CBody PZ 89:=cB Tryz.func89
def mrow:List (Bool×Bool×Int×Int×Int):=[(false,false,0,0,2),(false,true,0,1,0),(true,true,1,0,0),(true,true,0,-1,0),(true,false,0,-2,1),(true,false,1,-1,1),(true,false,7,-1,1),(true,false,2,-1,0),(true,false,6,-1,0),(true,false,3,-1,-1),(true,false,5,-1,-1),(true,false,4,-2,-1)]
def bZS(r:Bool×Bool×Int×Int×Int):List Value:=[.bool r.1,.bool r.2.1,.int .i64 r.2.2.1,.int .i64 r.2.2.2.1,.int .i64 r.2.2.2.2]
def mtabV:Array Value:=(mrow.flatMap bZS).toArray
def TabM(w:World):Prop:=∃t fr,w.heap[0]? =some (.cells mtabV t fr)
def TabD:Ev:=⟨fun w=>Tab w∧TabM w,fun k=>k=1∨k=0,
 fun w ⟨⟨t,fr,h⟩,⟨t',fr',h'⟩⟩ k hk=>by rcases hk with rfl|rfl;exact dB h;exact dB h',
 fun w w' hk ⟨⟨t,fr,h⟩,⟨t',fr',h'⟩⟩=>⟨⟨t,fr,by rw[hk _ (.inl rfl)];exact h⟩,⟨t',fr',by rw[hk _ (.inr rfl)];exact h'⟩⟩⟩
theorem Fn.tab{f:FuncId}{ps:List Pd}{r:Pd}(h:Fn PZ TabE f ps r):Fn PZ TabD f ps r:=h.env fun _ h=>h.1
theorem fis(n:Int):Fn PZ TabE 89 [i6 n] (ex (.bool (isP n.toNat))):=by
 intro h w vs ht hh hv;obtain⟨v,rfl,h1⟩:=hv.one;have h1:v= .int .i64 n:=h1;subst h1;refine(pZe n w ht).mono ?_;rintro e w' ⟨rfl,rfl⟩;exact jR hh (Below.refl _ _) rfl
end
section
open Go.RowKit Limb Num
instance kb11:CBody PZ 11:=cB Tryz.func11
def smP(p:Int):Bool:=decide (p≤9973)&&isP p.toNat
theorem eZ9{p:Int}(h:smP p=true):2≤p∧p≤9973∧isP p.toNat=true:=by
 unfold smP at h;rw[Bool.and_eq_true] at h;obtain⟨h1,h2⟩:=h;have h1:=of_decide_eq_true h1;refine⟨?_,h1,h2⟩;unfold isP at h2;rw[Bool.and_eq_true,Bool.and_eq_true] at h2;have:=of_decide_eq_true h2.1.1;omega
section
variable(En:Ev)
theorem oZ6(p:Int):Fn PZ En 136 [i6 p] (ex (.bool (smP p))):=by
 have C1:=gris En p;unfold smP
 by_cases h:p≤9973
 ·rw[decide_eq_true h,Bool.true_and]
  refine aA Tryz.func136 rfl Tryz.ntmps136 rfl ?_;intro w0 h0;refine vS<|vZ jj<|vS<|jm jj<|jS (bMt jj jj)<|jm jj<|jgm jj<|jg (aQ C1 tA)<|vq jj<|vZ jj<|ji ?_;exact rtT rfl jj
 ·rw[decide_eq_false h,Bool.false_and]
  refine aA Tryz.func136 rfl Tryz.ntmps136 rfl ?_;intro w0 h0;refine vS<|vZ jj<|vS<|jm jj<|vMf jj<|jm jj<|jk<|jk<|vQ jj<|vZ jj<|ji ?_;exact rtT rfl jj
end
theorem jZg(p:Int):Fn PZ TabE 33 [i6 p] (ex (.bool (smP p))):=by
 have C1:=fis p;unfold smP
 by_cases h:p≤9973
 ·rw[decide_eq_true h,Bool.true_and]
  refine aA Tryz.func33 rfl Tryz.ntmps33 rfl ?_;intro w0 h0;refine vS<|vZ jj<|vS<|jm jj<|jS (bMt jj jj)<|jm jj<|jgm jj<|jg (aQ C1 tA)<|vq jj<|vZ jj<|ji ?_;exact rtT rfl jj
 ·rw[decide_eq_false h,Bool.false_and]
  refine aA Tryz.func33 rfl Tryz.ntmps33 rfl ?_;intro w0 h0;refine vS<|vZ jj<|vS<|jm jj<|vMf jj<|jm jj<|jk<|jk<|vQ jj<|vZ jj<|ji ?_;exact rtT rfl jj
end
section
open Go.RowKit Limb Num
instance kb75:CBody PZ 75:=cB Tryz.func75
instance kb29:CBody PZ 29:=cB Tryz.func29
instance kb24:CBody PZ 24:=cB Tryz.func24
instance kb25:CBody PZ 25:=cB Tryz.func25
instance kb9:CBody PZ 9:=cB Tryz.func9
instance kb69:CBody PZ 69:=cB Tryz.func69
instance kb164:CBody PZ 164:=cB Tryz.func164
instance kb165:CBody PZ 165:=cB Tryz.func165
instance kb127:CBody PZ 127:=cB Tryz.func127
structure Co where
 e:Int
 d:Int
 s:Int
 o:Bool
 y:Int
def coc(c:Co):List Pd:=[i6 c.e,i6 c.d,i6 c.s,ex (.bool c.o),i6 c.y]
def ccs(f:Nat→Co):Nat→List Pd:=fun i=>coc (f i)
theorem bC(f:Nat→Co)(i:Nat):(ccs f i).length=5:=rfl
def cO(p:Int)(f:Nat→Co)(n:Nat):Pd:=cD [i6 p,slc 5 (rows (ccs f) n) n]
def mro(i:Nat):Bool×Bool×Int×Int×Int:=mrow.getD i (false,false,0,0,0)
def mtc:Nat→List Pd:=fun i=>(bZS (mro i)).map ex
theorem hZk:mtabV.toList.map ex=rows mtc 12:=rfl
theorem iZY:∀v∈mtabV.toList,v.oneCell'=true:=by decide+kernel
theorem lZE(w:World)(h:TabD.e w):w.rangeAt 0 0 mtabV.toList:=by
 obtain⟨_,t,fr,h⟩:=h;intro j v hv;rw[Nat.zero_add];simp only[World.cell?,h];simpa using hv
theorem lZF:∀i:Fin 12,-2≤(mro i.1).2.2.2.1∧(mro i.1).2.2.2.1≤1:=by decide+kernel
def fits(o b:Bool)(k:Int)(m:Nat):Prop:=m<12∧(mro m).1=o∧(mro m).2.1=b∧(mro m).2.2.1=k∧∀j,j<m→¬((mro j).1=o∧(mro j).2.1=b∧(mro j).2.2.1=k)
def rowS(d s:Int)(m:Nat):Pd:=cD [i6 (d+(mro m).2.2.2.1),i6 (if(mro m).2.2.2.2=2 then s else(mro m).2.2.2.2)]
end
section
open Go.RowKit Limb Num
def spC(f:Nat→Co)(e:Int):Nat→Co
 |0=>⟨e,0,1,false,0⟩
 |i+1=>if(f i).e=e then f i else spC f e i
def spB(f:Nat→Co)(e:Int):Nat→Bool
 |0=>false
 |i+1=>if(f i).e=e then spB f e i else if(f i).e=e-1∨(f i).e=e+1 then(spB f e i||(f i).o) else spB f e i
theorem hZm(f:Nat→Co)(n:Nat)(e:Int)(hn:n≤1000)(he1: -1≤e)(he2:e≤1000)(R:List Pd)(hl:∃a b,R=[a,b])(hD:Fn PZ TabD 75 [cD (coc (spC f e n)),ex (.bool (spB f e n))] (cD R)):Fn PZ TabD 29 [cO 2 f n,i6 e] (cD R):=by
 obtain⟨r1,r2,rfl⟩:=hl;unfold cO;refine aA Tryz.func29 rfl Tryz.ntmps29 rfl ?_;intro w0 h0;refine vS<|vB jj<|vA jj<|vJ<|jm jj<|jS (aU (ps:=[(_,_),(_,_)]) ⟨jj,Part.c jj,jj,Part.c jj,trivial⟩ jj)<|vA jj<|vP jj<|vJ<|vZ jj<|js<|vS<|vX jj<|jE jj<|jm jj<|jn<|jb ?_;refine WpD.loop (α:={i:Nat//i≤n}) (fun i=>⟨[(1,.one (i6 e)),(2,.ptr 2 0),(4,.ptr 4 0),(5,.ptr 5 0),(6,.one (ex (.bool (spB f e i.1)))),(12,.one (slc 5 (rows (ccs f) n) n)),(13,.one (i6 n)),(14,.one (i6 i.1))],[(2,[i6 2,slc 5 (rows (ccs f) n) n]),(4,[i6 0,i6 0]),(5,coc (spC f e i.1))]⟩) (fun i=>n-i.1) ⟨0,Nat.zero_le _⟩ ?_ ?_
 ·exact Sub.mk sJ sJ
 rintro⟨i,hi⟩;dsimp only at hi ⊢
 by_cases hlt:i<n
 ·have hq:((rows (ccs f) n).drop (i*5)).take 5=coc (f i):=bE (bC f) hlt
  have w1:=wS i oM;have w2:IntKind.i64.wrap (e-1)=e-1:=w64 oM oM;have w3:IntKind.i64.wrap (e+1)=e+1:=w64 oM oM
  by_cases q0:(f i).e=e
  ·have c1:spC f e (i+1)=f i:=if_pos q0
   have c2:spB f e (i+1)=spB f e i:=if_pos q0;refine vS<|vLt jj<|vW jj<|vS<|vD jj hlt hq<|vR jj<|vA jj<|vP jj<|vJ<|vX jj<|jn<|jb<|vS<|jm jj<|vEt jj<|vZ jj<|jt jj<|jr<|vL jj<|vP jj<|jn<|jr<|vAd jj w1<|jm jj<|jn ?_;refine⟨⟨i+1,oM⟩,?_,oD⟩;dsimp only;rw[c1,c2];exact Sub.mk sJ sJ
  ·have c1:spC f e (i+1)=spC f e i:=if_neg q0
   by_cases q1:(f i).e=e-1
   ·have c2:spB f e (i+1)=(spB f e i||(f i).o):=by rw[spB,if_neg q0,if_pos (.inl q1)]
    cases hB:spB f e i with
    |true=>
     rw[hB,Bool.true_or] at c2;refine vS<|vLt jj<|vW jj<|vS<|vD jj hlt hq<|vR jj<|vA jj<|vP jj<|vJ<|vX jj<|jn<|jb<|vS<|jm jj<|vEf jj<|vZ jj<|jf jj<|js<|vS<|jm jj<|vSu jj w2<|vEt jj<|vZ jj<|jt jj<|jp<|jt jj<|jr<|jm jj<|jm jj ?_;refine kG ?_;refine kG ?_;refine kH ?_;refine vZ jj<|jr<|vAd jj w1<|jm jj<|jn ?_;refine⟨⟨i+1,oM⟩,?_,oD⟩;dsimp only;rw[c1,c2];exact Sub.mk sJ sJ
    |false=>
     rw[hB,Bool.false_or] at c2;refine vS<|vLt jj<|vW jj<|vS<|vD jj hlt hq<|vR jj<|vA jj<|vP jj<|vJ<|vX jj<|jn<|jb<|vS<|jm jj<|vEf jj<|vZ jj<|jf jj<|js<|vS<|jm jj<|vSu jj w2<|vEt jj<|vZ jj<|jt jj<|jp<|jt jj<|jr<|jm jj<|jm jj ?_;refine kG ?_;refine kG ?_;refine kH ?_;refine vZ jj<|jr<|vAd jj w1<|jm jj<|jn ?_;refine⟨⟨i+1,oM⟩,?_,oD⟩;dsimp only;rw[c1,c2];exact Sub.mk sJ sJ
   ·by_cases q2:(f i).e=e+1
    ·have c2:spB f e (i+1)=(spB f e i||(f i).o):=by rw[spB,if_neg q0,if_pos (.inr q2)]
     cases hB:spB f e i with
     |true=>
      rw[hB,Bool.true_or] at c2;refine vS<|vLt jj<|vW jj<|vS<|vD jj hlt hq<|vR jj<|vA jj<|vP jj<|vJ<|vX jj<|jn<|jb<|vS<|jm jj<|vEf jj<|vZ jj<|jf jj<|js<|vS<|jm jj<|vSu jj w2<|vEf jj<|vZ jj<|jf jj<|jr<|jm jj<|vAd jj w3<|vEt jj<|vZ jj ?_;refine jt jj<|jr<|jm jj<|jm jj ?_;refine kG ?_;refine kG ?_;refine kH ?_;refine vZ jj<|jr<|vAd jj w1<|jm jj<|jn ?_;refine⟨⟨i+1,oM⟩,?_,oD⟩;dsimp only;rw[c1,c2];exact Sub.mk sJ sJ
     |false=>
      rw[hB,Bool.false_or] at c2;refine vS<|vLt jj<|vW jj<|vS<|vD jj hlt hq<|vR jj<|vA jj<|vP jj<|vJ<|vX jj<|jn<|jb<|vS<|jm jj<|vEf jj<|vZ jj<|jf jj<|js<|vS<|jm jj<|vSu jj w2<|vEf jj<|vZ jj<|jf jj<|jr<|jm jj<|vAd jj w3<|vEt jj<|vZ jj ?_;refine jt jj<|jr<|jm jj<|jm jj ?_;refine kG ?_;refine kG ?_;refine kH ?_;refine vZ jj<|jr<|vAd jj w1<|jm jj<|jn ?_;refine⟨⟨i+1,oM⟩,?_,oD⟩;dsimp only;rw[c1,c2];exact Sub.mk sJ sJ
    ·have c2:spB f e (i+1)=spB f e i:=by rw[spB,if_neg q0,if_neg oM]
     refine vS<|vLt jj<|vW jj<|vS<|vD jj hlt hq<|vR jj<|vA jj<|vP jj<|vJ<|vX jj<|jn<|jb<|vS<|jm jj<|vEf jj<|vZ jj<|jf jj<|js<|vS<|jm jj<|vSu jj w2<|vEf jj<|vZ jj<|jf jj<|jr<|jm jj<|vAd jj w3<|vEf jj<|vZ jj ?_;refine jf jj<|jp<|jr<|vAd jj w1<|jm jj<|jn ?_;refine⟨⟨i+1,oM⟩,?_,oD⟩;dsimp only;rw[c1,c2];exact Sub.mk sJ sJ
 ·have:i=n:=oM
  subst this;refine vS<|vLf jj<|vU jj<|js<|vS<|vX jj<|vEt jj<|jn<|jt jj<|vS<|vL jj<|jm jj<|vC hD ⟨jj,jj,trivial⟩<|vP jj<|jn<|ji ?_;exact rtC rfl jj jj
end
section
open Go.RowKit Limb Num
def crI(f:Nat→Co)(j:Nat):Nat→Int
 |0=>0
 |i+1=>crI f j i+((f j).e-(f i).e)*(f i).d*(f j).d
def crH(f:Nat→Co):Nat→Int
 |0=>0
 |j+1=>crH f j+crI f j j
theorem aZ2{f:Nat→List Pd}{k:Nat}(hf:∀i,(f i).length=k):∀{n j:Nat},j≤n→(rows f n).take (j*k)=rows f j
 |0,j,h=>by obtain rfl:j=0:=oM;rw[Nat.zero_mul];rfl
 |n+1,j,h=>by
  rcases Nat.lt_or_ge n j with h1|h1
  ·obtain rfl:j=n+1:=oM
   rw[List.take_of_length_le (by rw[fA hf];exact Nat.le_refl _)]
  ·rw[gB,List.take_append_of_le_length (by rw[fA hf];exact Nat.mul_le_mul_right _ h1),aZ2 hf h1]
structure OkL(f:Nat→Co)(n:Nat):Prop where
 n1:1≤n
 n8:n≤8
 e0:∀i,i<n→0≤(f i).e
 e1:∀i,i<n→(f i).e≤100
 d0:∀i,i<n→1≤(f i).d
 d8:∀i,i<n→(f i).d≤8
 up:∀i j,i<j→j<n→(f i).e<(f j).e
theorem fZ5{a b c:Int}(h1:0≤a)(h2:a≤100)(h3:0≤b)(h4:b≤8)(h5:0≤c)(h6:c≤8):0≤a*b∧a*b≤800∧0≤a*b*c∧a*b*c≤6400:=by
 have k1:0≤a*b:=Int.mul_nonneg h1 h3;have k2:a*b≤100*8:=Int.mul_le_mul h2 h4 h3 oM;have k3:0≤a*b*c:=Int.mul_nonneg k1 h5;have k4:a*b*c≤800*8:=Int.mul_le_mul oM h6 h5 oM;omega
theorem fZp{f:Nat→Co}{n:Nat}(H:OkL f n){j:Nat}(hj:j<n):∀{i:Nat},i≤j→0≤crI f j i∧crI f j i≤(i:Int)*6400
 |0,_=>by simp[crI]
 |i+1,h=>by
  have ih:=fZp H hj (i:=i) oM;have t:=fZ5 (a:=(f j).e-(f i).e) (b:=(f i).d) (c:=(f j).d) (by have:=H.up i j oM hj;omega) (by have:=H.e0 i oM;have:=H.e1 j hj;omega)
   (by have:=H.d0 i oM;omega) (H.d8 i oM) (by have:=H.d0 j hj;omega) (H.d8 j hj)
  rw[crI];generalize crI f j i=x at*;omega
theorem kZj{f:Nat→Co}{n:Nat}(H:OkL f n):∀{j:Nat},j≤n→0≤crH f j∧crH f j≤(j:Int)*51200
 |0,_=>by simp[crH]
 |j+1,h=>by
  have ih:=kZj H (j:=j) oM;have t:=fZp H (j:=j) (i:=j) oM oM;have:=H.n8;rw[crH];generalize crH f j=x at*;generalize crI f j j=y at*;omega
def vI(r:Rat)(b:Bool):Pd:=cD (tZ r++[ex (.bool b)])
def dZ7(h:Int):Bool:=decide (h%2=1)
def crA(p h:Int):Pd:=if h≤128 then dK [vI (((p:Int):Rat)^(h.toNat/2)) (dZ7 h),i6 0] else dK [cD [ex (.bool false),ex (.slice none 0 0),ex (.bool false),ex (.slice none 0 0),ex (.bool false)],i6 7]
theorem oZX(En:Ev)(p:Int)(f:Nat→Co)(n:Nat)(H:OkL f n)(hp:2≤p)(hp2:p≤9973)(hA:Fn PZ En 69 [cO p f n] (ex (.bool true))):Fn PZ En 24 [cO p f n] (crA p (crH f n)):=by
 unfold cO at hA ⊢;have hn8:=H.n8;refine aA Tryz.func24 rfl Tryz.ntmps24 rfl ?_;intro w0 h0;refine vS<|vB jj<|vA jj<|vZ jj<|js<|vS<|vL jj<|vC hA ⟨jj,trivial⟩<|jS (bNo jj)<|jn<|jf jj<|jp<|vS<|vZ jj<|js<|vS<|vX jj<|jE jj<|jm jj<|jn<|jb ?_;refine WpD.loop (α:={j:Nat//j≤n}) (fun j=>⟨[(1,.ptr 1 0),(2,.ptr 2 0),(4,.one (i6 (crH f j.1))),(16,.one (slc 5 (rows (ccs f) n) n)),(17,.one (i6 n)),(18,.one (i6 j.1))],[(1,[i6 p,slc 5 (rows (ccs f) n) n]),(2,[ex (.bool false),ex (.slice none 0 0),ex (.bool false),ex (.slice none 0 0),ex (.bool false)])]⟩) (fun j=>n-j.1) ⟨0,Nat.zero_le _⟩ ?_ ?_
 ·exact Sub.mk sJ sJ
 rintro⟨j,hj⟩;dsimp only at hj ⊢;obtain⟨b1,b2⟩:=kZj H hj
 by_cases hlt:j<n
 ·have hq:((rows (ccs f) n).drop (j*5)).take 5=coc (f j):=bE (bC f) hlt
  have w1:=wS j oM;have hqs:(rows (ccs f) n).take (j*5)=rows (ccs f) j:=aZ2 (bC f) oM;have hjn:j≤n:=oM;refine vS<|vLt jj<|vW jj<|vS<|jm jj<|vD jj hlt hq<|vR jj<|vA jj<|ja jj<|vP jj<|vJ<|vX jj<|jm jj<|jS (eZJ jj jj hjn hqs)<|jE jj<|jm jj<|jn<|jb ?_;refine WpD.loop (α:={i:Nat//i≤j}) (fun i=>⟨[(1,.ptr 1 0),(2,.ptr 2 0),(4,.one (i6 (crH f j+crI f j i.1))),(6,.ptr 6 0),(16,.one (slc 5 (rows (ccs f) n) n)),(17,.one (i6 n)),(18,.one (i6 j)),(26,.one (slc 5 (rows (ccs f) j) j)),(27,.one (i6 j)),(28,.one (i6 i.1))],[(1,[i6 p,slc 5 (rows (ccs f) n) n]),(2,[ex (.bool false),ex (.slice none 0 0),ex (.bool false),ex (.slice none 0 0),ex (.bool false)]),(6,coc (f j))]⟩) (fun i=>j-i.1) ⟨0,Nat.zero_le _⟩ ?_ ?_
  ·dsimp only
   rw[show crH f j+crI f j 0=crH f j from Int.add_zero _]
   exact Sub.mk sJ sJ
  rintro⟨i,hi⟩;dsimp only at hi ⊢;obtain⟨b3,b4⟩:=fZp H hlt hi
  by_cases hil:i<j
  ·have hqi:((rows (ccs f) j).drop (i*5)).take 5=coc (f i):=bE (bC f) hil
   have w2:=wS i oM;have k1:0≤(f j).e-(f i).e:=by have:=H.up i j hil hlt;omega
   have k2:(f j).e-(f i).e≤100:=by have:=H.e0 i oM;have:=H.e1 j hlt;omega
   have t:=fZ5 (a:=(f j).e-(f i).e) (b:=(f i).d) (c:=(f j).d) k1 k2 (by have:=H.d0 i oM;omega) (H.d8 i oM) (by have:=H.d0 j hlt;omega) (H.d8 j hlt)
   have a1:IntKind.i64.wrap ((f j).e-(f i).e)=(f j).e-(f i).e:=w64 oM oM;have a2:IntKind.i64.wrap (((f j).e-(f i).e)*(f i).d)=((f j).e-(f i).e)*(f i).d:=w64 oM oM;have a3:IntKind.i64.wrap (((f j).e-(f i).e)*(f i).d*(f j).d)=((f j).e-(f i).e)*(f i).d*(f j).d:=w64 oM oM;have a4:IntKind.i64.wrap (crH f j+crI f j i+((f j).e-(f i).e)*(f i).d*(f j).d)=crH f j+crI f j (i+1):=by
    rw[crI,←Int.add_assoc];exact w64 oM oM
   refine vS<|vLt jj<|vW jj<|vS<|vD jj hil hqi<|vR jj<|vA jj<|vP jj<|jn<|jr<|jm jj<|vX jj<|vX jj<|vSu jj a1<|vX jj<|vMu jj a2<|vX jj<|vMu jj a3<|vAd jj a4<|vZ jj<|jr<|vAd jj w2<|jm jj<|jn ?_;refine⟨⟨i+1,oM⟩,?_,oD⟩;exact Sub.mk sJ sJ
  ·have:i=j:=oM
   subst this;refine vS<|vLf jj<|vU jj<|jr<|vAd jj w1<|jm jj<|jn ?_;refine⟨⟨i+1,oM⟩,?_,oD⟩;dsimp only;rw[show crH f (i+1)=crH f i+crI f i i from rfl]
   exact Sub.mk sJ sJ
 ·have:j=n:=oM
  subst this;unfold crA;generalize crH f j=h at*;obtain⟨m,rfl⟩:∃m:Nat,h=(m:Int):=⟨h.toNat,oM⟩
  by_cases hb:(m:Int)≤128
  ·rw[if_pos hb,Int.toNat_natCast]
   have Sp:=qH (z:=p) oM oM;have C1:=qZ En p oM oM;have C2:=nZC En ((p:Int):Rat) (m/2) (Sp.mono oM) oM;have eb:IntKind.i64.wrap (((m:Nat):Int).tdiv 2)=((m/2:Nat):Int):=by
    rw[show((m:Nat):Int).tdiv 2=((m/2:Nat):Int) from(Int.ofNat_tdiv _ _).symm]
    exact w64 oM oM
   have em:(m:Int).tmod 2=(m:Int)%2:=Int.tmod_eq_emod_of_nonneg oM;have hh:((m:Int)%2==1)=dZ7 m:=rfl;refine vS<|vLf jj<|vU jj<|js<|vS<|jm jj<|vGf jj<|jn<|jf jj<|jp<|vS<|vX jj<|vC C1 ⟨jj,trivial⟩<|jm jj<|jS (bQu jj jj eb)<|vC C2 ⟨jj,jj,trivial⟩<|jm jj<|vE jj<|vE jj<|vA jj<|vP jj<|vZ jj<|vS<|vL jj<|jm jj<|jS (bRe jj jj em)<|jS (bVq jj jj hh)<|jS (aU (ps:=[(_,_),(_,_)]) ⟨jj,Part.c jj,jj,Part.c jj,trivial⟩ jj)<|vP jj<|vZ jj<|ji ?_;exact rtD rfl jj jj jj
  ·rw[if_neg hb]
   refine vS<|vLf jj<|vU jj<|js<|vS<|jm jj<|vGt jj<|jn<|jt jj<|vS<|jS (aU (ps:=[]) trivial jj)<|vP jj<|vZ jj<|ji ?_;exact rtD rfl jj jj jj
section
variable(En:Ev)
end
end
section
open Go.RowKit Limb Num
def spO(p d s:Int):Int:=if d%2=1 then 0 else if p%4=1∨d%4=0 then s else-s
theorem hZl(En:Ev)(p:Int)(f:Nat→Co)(n:Nat)(e:Int)(hp:3≤p)(hp2:p≤9973)(hn:n≤1000)(he1: -1≤e)(he2:e≤1000)(hd:0≤(spC f e n).d)(hs1: -1≤(spC f e n).s)(hs2:(spC f e n).s≤1):Fn PZ En 29 [cO p f n,i6 e] (cD [ex (.int .i64 (spC f e n).d),i6 (spO p (spC f e n).d (spC f e n).s)]):=by
 unfold cO;refine aA Tryz.func29 rfl Tryz.ntmps29 rfl ?_;intro w0 h0;refine vS<|vB jj<|vA jj<|vJ<|jm jj<|jS (aU (ps:=[(_,_),(_,_)]) ⟨jj,Part.c jj,jj,Part.c jj,trivial⟩ jj)<|vA jj<|vP jj<|vJ<|vZ jj<|js<|vS<|vX jj<|jE jj<|jm jj<|jn<|jb ?_;refine WpD.loop (α:={i:Nat//i≤n}) (fun i=>⟨[(1,.one (i6 e)),(2,.ptr 2 0),(4,.ptr 4 0),(5,.ptr 5 0),(6,.one (ex (.bool (spB f e i.1)))),(12,.one (slc 5 (rows (ccs f) n) n)),(13,.one (i6 n)),(14,.one (i6 i.1))],[(2,[i6 p,slc 5 (rows (ccs f) n) n]),(4,[i6 0,i6 0]),(5,coc (spC f e i.1))]⟩) (fun i=>n-i.1) ⟨0,Nat.zero_le _⟩ ?_ ?_
 ·exact Sub.mk sJ sJ
 rintro⟨i,hi⟩;dsimp only at hi ⊢
 by_cases hlt:i<n
 ·have hq:((rows (ccs f) n).drop (i*5)).take 5=coc (f i):=bE (bC f) hlt
  have w1:=wS i oM;have w2:IntKind.i64.wrap (e-1)=e-1:=w64 oM oM;have w3:IntKind.i64.wrap (e+1)=e+1:=w64 oM oM
  by_cases q0:(f i).e=e
  ·have c1:spC f e (i+1)=f i:=if_pos q0
   have c2:spB f e (i+1)=spB f e i:=if_pos q0;refine vS<|vLt jj<|vW jj<|vS<|vD jj hlt hq<|vR jj<|vA jj<|vP jj<|vJ<|vX jj<|jn<|jb<|vS<|jm jj<|vEt jj<|vZ jj<|jt jj<|jr<|vL jj<|vP jj<|jn<|jr<|vAd jj w1<|jm jj<|jn ?_;refine⟨⟨i+1,oM⟩,?_,oD⟩;dsimp only;rw[c1,c2];exact Sub.mk sJ sJ
  ·have c1:spC f e (i+1)=spC f e i:=if_neg q0
   by_cases q1:(f i).e=e-1
   ·have c2:spB f e (i+1)=(spB f e i||(f i).o):=by rw[spB,if_neg q0,if_pos (.inl q1)]
    cases hB:spB f e i with
    |true=>
     rw[hB,Bool.true_or] at c2;refine vS<|vLt jj<|vW jj<|vS<|vD jj hlt hq<|vR jj<|vA jj<|vP jj<|vJ<|vX jj<|jn<|jb<|vS<|jm jj<|vEf jj<|vZ jj<|jf jj<|js<|vS<|jm jj<|vSu jj w2<|vEt jj<|vZ jj<|jt jj<|jp<|jt jj<|jr<|jm jj<|jm jj ?_;refine kG ?_;refine kG ?_;refine kH ?_;refine vZ jj<|jr<|vAd jj w1<|jm jj<|jn ?_;refine⟨⟨i+1,oM⟩,?_,oD⟩;dsimp only;rw[c1,c2];exact Sub.mk sJ sJ
    |false=>
     rw[hB,Bool.false_or] at c2;refine vS<|vLt jj<|vW jj<|vS<|vD jj hlt hq<|vR jj<|vA jj<|vP jj<|vJ<|vX jj<|jn<|jb<|vS<|jm jj<|vEf jj<|vZ jj<|jf jj<|js<|vS<|jm jj<|vSu jj w2<|vEt jj<|vZ jj<|jt jj<|jp<|jt jj<|jr<|jm jj<|jm jj ?_;refine kG ?_;refine kG ?_;refine kH ?_;refine vZ jj<|jr<|vAd jj w1<|jm jj<|jn ?_;refine⟨⟨i+1,oM⟩,?_,oD⟩;dsimp only;rw[c1,c2];exact Sub.mk sJ sJ
   ·by_cases q2:(f i).e=e+1
    ·have c2:spB f e (i+1)=(spB f e i||(f i).o):=by rw[spB,if_neg q0,if_pos (.inr q2)]
     cases hB:spB f e i with
     |true=>
      rw[hB,Bool.true_or] at c2;refine vS<|vLt jj<|vW jj<|vS<|vD jj hlt hq<|vR jj<|vA jj<|vP jj<|vJ<|vX jj<|jn<|jb<|vS<|jm jj<|vEf jj<|vZ jj<|jf jj<|js<|vS<|jm jj<|vSu jj w2<|vEf jj<|vZ jj<|jf jj<|jr<|jm jj<|vAd jj w3<|vEt jj<|vZ jj ?_;refine jt jj<|jr<|jm jj<|jm jj ?_;refine kG ?_;refine kG ?_;refine kH ?_;refine vZ jj<|jr<|vAd jj w1<|jm jj<|jn ?_;refine⟨⟨i+1,oM⟩,?_,oD⟩;dsimp only;rw[c1,c2];exact Sub.mk sJ sJ
     |false=>
      rw[hB,Bool.false_or] at c2;refine vS<|vLt jj<|vW jj<|vS<|vD jj hlt hq<|vR jj<|vA jj<|vP jj<|vJ<|vX jj<|jn<|jb<|vS<|jm jj<|vEf jj<|vZ jj<|jf jj<|js<|vS<|jm jj<|vSu jj w2<|vEf jj<|vZ jj<|jf jj<|jr<|jm jj<|vAd jj w3<|vEt jj<|vZ jj ?_;refine jt jj<|jr<|jm jj<|jm jj ?_;refine kG ?_;refine kG ?_;refine kH ?_;refine vZ jj<|jr<|vAd jj w1<|jm jj<|jn ?_;refine⟨⟨i+1,oM⟩,?_,oD⟩;dsimp only;rw[c1,c2];exact Sub.mk sJ sJ
    ·have c2:spB f e (i+1)=spB f e i:=by rw[spB,if_neg q0,if_neg oM]
     refine vS<|vLt jj<|vW jj<|vS<|vD jj hlt hq<|vR jj<|vA jj<|vP jj<|vJ<|vX jj<|jn<|jb<|vS<|jm jj<|vEf jj<|vZ jj<|jf jj<|js<|vS<|jm jj<|vSu jj w2<|vEf jj<|vZ jj<|jf jj<|jr<|jm jj<|vAd jj w3<|vEf jj<|vZ jj ?_;refine jf jj<|jp<|jr<|vAd jj w1<|jm jj<|jn ?_;refine⟨⟨i+1,oM⟩,?_,oD⟩;dsimp only;rw[c1,c2];exact Sub.mk sJ sJ
 ·have:i=n:=oM
  subst this;have m1:(spC f e i).d.tmod 2=(spC f e i).d%2:=Int.tmod_eq_emod_of_nonneg hd;have m2:(spC f e i).d.tmod 4=(spC f e i).d%4:=Int.tmod_eq_emod_of_nonneg hd;have m3:p.tmod 4=p%4:=Int.tmod_eq_emod_of_nonneg oM;have m4:IntKind.i64.wrap (-(spC f e i).s)= -(spC f e i).s:=w64 oM oM;unfold spO
  by_cases h1:(spC f e i).d%2=1
  ·rw[if_pos h1]
   refine vS<|vLf jj<|vU jj<|js<|vS<|vX jj<|vEf jj<|jn<|jf jj<|jp<|js<|vS<|vX jj<|jS (bRe jj jj m1)<|vEt jj<|jn<|jt jj<|vS<|vX jj<|jS (aU (ps:=[(_,_)]) ⟨jj,Part.c jj,trivial⟩ jj)<|vP jj<|jn<|ji ?_;exact rtC rfl jj jj
  ·rw[if_neg h1]
   by_cases h2:p%4=1
   ·rw[if_pos (.inl h2)]
    refine vS<|vLf jj<|vU jj<|js<|vS<|vX jj<|vEf jj<|jn<|jf jj<|jp<|js<|vS<|vX jj<|jS (bRe jj jj m1)<|vEf jj<|jn<|jf jj<|jp<|js<|vS<|vX jj<|jS (bRe jj jj m3)<|vEt jj<|jm jj<|jk<|jk<|jk<|jk<|vq jj<|jn<|jt jj<|vS<|vX jj<|vX jj<|jS (aU (ps:=[(_,_),(_,_)]) ⟨jj,Part.c jj,jj,Part.c jj,trivial⟩ jj)<|vP jj<|jn ?_;refine ji ?_;exact rtC rfl jj jj
   ·by_cases h3:(spC f e i).d%4=0
    ·rw[if_pos (.inr h3)]
     refine vS<|vLf jj<|vU jj<|js<|vS<|vX jj<|vEf jj<|jn<|jf jj<|jp<|js<|vS<|vX jj<|jS (bRe jj jj m1)<|vEf jj<|jn<|jf jj<|jp<|js<|vS<|vX jj<|jS (bRe jj jj m3)<|vEf jj<|jm jj<|vY jj<|jg (bRe jj jj m2)<|uEt jj<|vQ jj<|jn<|jt jj<|vS<|vX jj<|vX jj<|jS (aU (ps:=[(_,_),(_,_)]) ⟨jj,Part.c jj,jj,Part.c jj,trivial⟩ jj)<|vP jj<|jn ?_;refine ji ?_;exact rtC rfl jj jj
    ·rw[if_neg oM]
     refine vS<|vLf jj<|vU jj<|js<|vS<|vX jj<|vEf jj<|jn<|jf jj<|jp<|js<|vS<|vX jj<|jS (bRe jj jj m1)<|vEf jj<|jn<|jf jj<|jp<|js<|vS<|vX jj<|jS (bRe jj jj m3)<|vEf jj<|jm jj<|vY jj<|jg (bRe jj jj m2)<|uEf jj<|vQ jj<|jn<|jf jj<|jp<|vS<|vX jj<|vX jj<|jS (gN jj (fun w=>fO w _ _) (dV m4))<|jS (aU (ps:=[(_,_),(_,_)]) ⟨jj,Part.c jj,jj,Part.c jj,trivial⟩ jj)<|vP jj<|jn ?_;refine ji ?_;exact rtC rfl jj jj
section
variable(En:Ev)
theorem lZK(p:Int)(f:Nat→Co)(n:Nat)(hp:p≠2)(hA:Fn PZ En 69 [cO p f n] (ex (.bool true))):Fn PZ En 25 [cO p f n] (dK [i6 0,i6 0]):=by
 unfold cO at hA ⊢;refine aA Tryz.func25 rfl Tryz.ntmps25 rfl ?_;intro w0 h0;refine vS<|vB jj<|ja jj<|vZ jj<|js<|vS<|vL jj<|vC hA ⟨jj,trivial⟩<|jS (bNo jj)<|jn<|jf jj<|jp<|js<|vS<|vX jj<|vNt jj<|jn<|jt jj<|vS<|ja jj<|vZ jj<|ji ?_;exact lB rfl (.tmp rfl) (.tmp rfl) (PLe.refl _)
end
end
section
open Go.RowKit Limb
instance cint_u8:CInt Tryz.prog 5 .u8:=⟨Tryz.underlying5⟩
instance cone_u8:COne Tryz.prog 5:=⟨⟨_,Tryz.underlying5,rfl,by kernel_rfl⟩⟩
instance pZN:CSlice Tryz.prog 172 5:=⟨Tryz.underlying172⟩
instance qZr:CElem Tryz.prog 172 5 1:=⟨Tryz.underlying172,by kernel_rfl⟩
instance qZh:CRowZ Tryz.prog 5 1 [.int .u8 0] 1:=⟨by kernel_rfl,rfl,rfl⟩
instance cstr:CStr Tryz.prog 9:=⟨Tryz.underlying9⟩
instance kb126:CBody PZ 126:=cB Tryz.func126
instance kb68:CBody PZ 68:=cB Tryz.func68
instance kb23:CBody PZ 23:=cB Tryz.func23
def RevI(l:List Nat)(i:Nat)(m:List Nat):Prop:=m.length=l.length∧∀j,j<l.length→m[j]? =if j<i∨l.length-i≤j then l[l.length-1-j]? else l[j]?
theorem RevI.step{l m:List Nat}{i x y:Nat}(h:RevI l i m)(hi:i<l.length-1-i)(hx:m[l.length-1-i]? =some x)(hy:m[i]? =some y):RevI l (i+1) ((m.set i x).set (l.length-1-i) y):=by
 obtain⟨h1,h2⟩:=h;refine⟨by simp[h1],fun j hj=>?_⟩
 have gx:=h2 (l.length-1-i) oM;rw[if_neg oM,hx] at gx;have gy:=h2 i oM;rw[if_neg oM,hy] at gy
 by_cases e1:j=l.length-1-i
 ·subst e1
  rw[List.getElem?_set_self (by simp[h1];omega),if_pos oM,show l.length-1-(l.length-1-i)=i by omega,←gy]
 ·rw[List.getElem?_set_ne oM]
  by_cases e2:j=i
  ·subst e2
   rw[List.getElem?_set_self oM,if_pos oM,←gx]
  ·rw[List.getElem?_set_ne oM,h2 j hj]
   by_cases e3:j<i∨l.length-i≤j
   ·rw[if_pos e3,if_pos oM]
   ·rw[if_neg e3,if_neg oM]
theorem RevI.done{l m:List Nat}{i:Nat}(h:RevI l i m)(hi:¬((i:Int)<(l.length:Int)-1-i)):m=l.reverse:=by
 obtain⟨h1,h2⟩:=h;apply List.ext_getElem?;intro j
 by_cases hj:j<l.length
 ·rw[h2 j hj,List.getElem?_reverse hj]
  by_cases e:j<i∨l.length-i≤j
  ·rw[if_pos e]
  ·rw[if_neg e];congr 1;omega
 ·rw[List.getElem?_eq_none oM,List.getElem?_eq_none (by simp;omega)]
section
variable(En:Ev)
theorem eZd(l:List Nat)(cap:Nat)(hl:l.length≤1000000):FnG PZ En 126 [.own 1000 0 l.length cap] [(1000,l.map byt)] (.one (ex (.tuple #[]))) [(1000,l.reverse.map byt)]:=by
 have e0:IntKind.i64.wrap ((l.length:Int)-1)=(l.length:Int)-1-(0:Nat):=by rw[w64 oM oM];simp
 refine bL Tryz.func126 rfl Tryz.ntmps126 rfl ?_;intro w0 h0 c;refine vS<|jm jj<|jS (cP jj CSlice.ok)<|vSu jj e0<|ja jj<|vZ jj<|jb ?_;refine WpD.loop (α:={p:Nat×List Nat//p.1≤l.length∧RevI l p.1 p.2}) (fun p=>⟨[(0,.own 1000 0 l.length cap),(2,.one (i6 ((p.1.1:Nat):Int))),(3,.one (i6 ((l.length:Int)-1-(p.1.1:Nat))))],[(1000,p.1.2.map byt)]⟩) (fun p=>l.length-p.1.1) ⟨(0,l),oM,rfl,fun j hj=>by rw[if_neg oM]⟩ ?_ ?_
 ·exact Sub.mk sJ sJ
 rintro⟨⟨i,m⟩,hi,hm⟩;dsimp only at hi hm ⊢
 by_cases hlt:(i:Int)<(l.length:Int)-1-i
 ·have hml:=hm.1
  have i1:i<l.length-1-i:=oM;obtain⟨x,hx⟩:∃x,m[l.length-1-i]? =some x:=⟨m[l.length-1-i]'oM,List.getElem?_eq_getElem oM⟩;obtain⟨y,hy⟩:∃y,m[i]? =some y:=⟨m[i]'oM,List.getElem?_eq_getElem oM⟩;have hst:=hm.step i1 hx hy;have ei:(l.length:Int)-1-(i:Nat)=((l.length-1-i:Nat):Int):=oM;have gx:(m.map byt)[l.length-1-i]? =some (byt x):=by rw[List.getElem?_map,hx];rfl
  have gy:(m.map byt)[i]? =some (byt y):=by rw[List.getElem?_map,hy];rfl
  have s1:(m.map byt).set i (byt x)=(m.set i x).map byt:=by rw[List.map_set]
  have s2:((m.set i x).map byt).set (l.length-1-i) (byt y)=((m.set i x).set (l.length-1-i) y).map byt:=by rw[List.map_set,List.map_set,List.map_set]
  have l1:i<(m.map byt).length:=by simp;omega
  have l2:l.length-1-i<((m.set i x).map byt).length:=by simp;omega
  have e2:=wS i oM;have e3:IntKind.i64.wrap (((l.length-1-i:Nat):Int)-1)=(l.length:Int)-1-((i+1:Nat):Int):=by rw[w64 oM oM];omega
  rw[ei] at hlt ⊢;refine js<|vS<|vV jj jj<|vLt jj<|jn<|jt jj<|jp<|js<|jb<|jr<|vV jj jj<|vV jj jj<|vV jj jj<|jS (cL jj jj oM (o':=l.length-1-i) oM)<|jS (aX jj jj aM)<|vV jj jj<|jS (cL jj jj oM (o':=i) oM)<|jS (aX jj jj aM)<|jS (cL jj jj oM (o':=i) oM)<|jO (bX jj jj jj aM aM)<|jS (cL jj jj oM (o':=l.length-1-i) oM)<|jO (bX jj jj jj aM aM)<|jn<|jr<|jm jj<|vAd jj e2<|jm jj<|vSu jj e3<|ja jj<|vZ jj ?_;refine⟨⟨(i+1,(m.set i x).set (l.length-1-i) y),oM,hst⟩,?_,oD⟩;exact Sub.mk sJ sJ
 ·have hd:=hm.done hlt
  subst hd;refine js<|vS<|vV jj jj<|vLf jj<|jn<|jf jj<|je ?_;exact fZN rfl ⟨.inl pQ,trivial⟩
def dgt(n j:Nat):Nat:=48+n/10^j%10
def iC(n i:Nat):List Nat:=(List.range i).map (dgt n)
theorem hZ4(n i:Nat):iC n (i+1)=iC n i++[dgt n i]:=by unfold iC;rw[List.range_succ,List.map_append];rfl
theorem mA(n i:Nat):(iC n i).length=i:=by simp[iC]
def rF(z:Int)(k:Nat):List Nat:=(iC z.natAbs k++(if z<0 then[45] else[])).reverse
theorem hZ3(n:Nat){i j:Nat}(h:i≤j):(iC n j).take i=iC n i:=by
 unfold iC;rw[←List.map_take,List.take_range,Nat.min_eq_left h]
theorem PsLe.take:∀(ps:List Pd) (k:Nat),PsLe ps (ps.take k)
 |[],k=>by rw[List.take_nil];trivial
 |_::_,0=>by trivial
 |p::ps,k+1=>⟨PLe.refl p,PsLe.take ps k⟩
theorem gZk(z:Int)(k:Nat)(hz:z.natAbs<10^k)(hk:k≤9)(hk1:10^(k-1)≤z.natAbs)(hk0:0<k):Fn PZ En 68 [zC z] (ex (.string (txt (rF z k)))):=by
 have hpow:10^k≤10^9:=Nat.pow_le_pow_right oM hk;have hpos:0<10^(k-1):=Nat.pow_pos oM;unfold zC zR rF;have hsb:(if z<0 then[45] else[])=(if decide (z<0) then[45] else[]:List Nat):=by simp
 rw[hsb];generalize z.natAbs=n at*;generalize decide (z<0)=sb;have h9:n<1000000000:=oM;have hn0:n≠0:=oM;have hd:aE n=[n]:=by rw[dZ hn0,Nat.mod_eq_of_lt (by rw[bM];omega),show n/B=0 from Nat.div_eq_of_lt (by rw[bM];omega)];rfl
 have hlm1:Lm [n]:=by rw[←hd];exact aJ n
 have hlm0:Lm [0]:=Lm.cons (by rw[bM];omega) Lm.nil
 have v1:val [n]=n:=by simp[val]
 rw[hd];have C1:=iE En [n] hlm1 (by simp)
 rw[v1,hd] at C1;have C2:=qY En [n] (by simp) (by simp)
 have C3:=dZr En [n] [] 1000000000 1 (by simp) hlm1 oM (by rw[bM];omega)
 rw[v1,Nat.mod_eq_of_lt h9,Nat.div_eq_of_lt h9,List.append_nil,List.append_nil,show pd 0 [n].length=[0] from rfl] at C3
 have C4:=iE En [0] hlm0 (by simp)
 rw[show val [0]=0 from rfl,fQ] at C4
 have hp0:=fI (l:=[0]) (cap:=1) (by simp) hlm0
 have e00:n/10^0=n:=by simp
 refine aA Tryz.func68 rfl Tryz.ntmps68 rfl ?_;intro w0 h0;refine vS<|vB jj<|vZ jj<|vS<|vX jj<|vC C1 tA<|jT (sA C2 jj tA jj jj)<|vZ jj<|js<|vS<|jm jj<|jS (cP jj CSlice.ok)<|jS (bEf jj jj (by simp))<|jn<|jf jj<|jp<|vS<|vZ jj<|js<|jb ?_
 refine WpD.loop (α:=Bool) (fun b=>cond b ⟨[(1,.ptr 1 0),(3,.own 9 0 1 1),(4,.one (ex (.slice none 0 0)))],[(1,[ex (.bool sb),mag [n]]),(9,[lb n])]⟩ ⟨[(1,.ptr 1 0),(3,.one (mag [])),(4,.app 504 1 9)],[(1,[ex (.bool sb),mag [n]]),(504,(iC n 9).map byt),(754,[])]⟩) (fun b=>cond b 1 0) true ?_ ?_
 ·exact Sub.mk sJ sJ
 rintro(_|_)
 ·dsimp only[cond]
  refine js<|vS<|jm jj<|jE jj<|jS (bGf jj jj (by simp))<|jn<|jf jj<|je<|js<|jb ?_
  refine WpD.loop (α:={j:Nat//k≤j∧j≤9}) (fun j=>⟨[(1,.ptr 1 0),(4,.app 504 1 j.1)],[(1,[ex (.bool sb),mag [n]]),(504,(iC n 9).map byt),(754,[])]⟩) (fun j=>j.1) ⟨9,hk,oM⟩ ?_ ?_
  ·exact Sub.mk sJ sJ
  rintro⟨j,hj1,hj2⟩;dsimp only at hj1 hj2 ⊢;have e5:=wM j oM;have hget:((iC n 9).map byt)[j-1]? =some (byt (dgt n (j-1))):=by unfold iC;rw[List.getElem?_map,List.getElem?_map,List.getElem?_range oM];rfl
  by_cases hjk:k<j
  ·have hdz:((dgt n (j-1):Nat):Int)=48:=by
    unfold dgt;rw[Nat.div_eq_of_lt (Nat.lt_of_lt_of_le hz (Nat.pow_le_pow_right oM oM))];rfl
   refine js<|vS<|vV jj jj<|jS (fB jj CSlice.ok)<|vSu jj e5<|jS (fF jj jj oM (o:=j-1) oM)<|jS (aX jj jj aM)<|vEt jj<|jn<|jt jj<|jp<|jb<|jr<|vV jj jj<|jS (fB jj CSlice.ok)<|vSu jj e5<|jS (eZE jj jj oM oM)<|vZ jj ?_;refine⟨⟨j-1,oM,oM⟩,?_,oD⟩;exact Sub.mk sJ sJ
  ·have hjk:j=k:=oM
   subst hjk;have hdz:((dgt n (j-1):Nat):Int)≠48:=by
    unfold dgt;have hq1:1≤n/10^(j-1):=(Nat.le_div_iff_mul_le hpos).2 oM;have hq2:n/10^(j-1)<10:=by
     rw[Nat.div_lt_iff_lt_mul hpos];have:10^j=10*10^(j-1):=by rw[←Nat.pow_succ'];congr 1;omega
     omega
    rw[Nat.mod_eq_of_lt hq2];omega
   refine js<|vS<|vV jj jj<|jS (fB jj CSlice.ok)<|vSu jj e5<|jS (fF jj jj oM (o:=j-1) oM)<|jS (aX jj jj aM)<|vEf jj<|jn<|jf jj<|je<|js<|js ?_;have hps:PsLe ((iC n 9).map byt) ((iC n j).map byt):=by
    have:=PsLe.take ((iC n 9).map byt) j;rwa[←List.map_take,hZ3 n hj2] at this
   refine WpD.sub (τ:=⟨[(1,.ptr 1 0),(4,.app 504 1 j)],[(1,[ex (.bool sb),mag [n]]),(504,(iC n j).map byt),(754,[])]⟩) ?_ ?_
   ·exact Sub.mk sJ ⟨.inl pQ,.inl ⟨_,jj,hps⟩,.inr jj,trivial⟩
   have hlen:((iC n j).map byt).length=j*1:=by simp[mA]
   cases sb with
   |true=>
    have hL:(iC n j++[45]).length=j+1:=by simp[mA]
    have hr2:(iC n j).map byt++[ex (.int .u8 45)]=(iC n j++[45]).map byt:=by rw[List.map_append];rfl
    have C7:=eZd En (iC n j++[45]) (j+1) oM;rw[hL] at C7;have hL2:(iC n j++[45]).reverse.length=j+1:=by simp[mA]
    refine kR ?_;refine vX jj<|jn<|jt jj<|jr<|jm jj<|jS (bW (ps:=[(_,_)]) ⟨jj,Part.c jj,trivial⟩ jj jj jj)<|RG.SW (LT.plain jj (cC 548 jj jj hlen jj oM oM jj jj jj jj jj hr2)) jj<|vZ jj<|js ?_;refine WpD.sub (τ:=⟨[(4,.own 300 0 (j+1) (j+1))],[(300,(iC n j++[45]).map byt)]⟩) ?_ ?_
    ·refine Sub.ren 300 548 rfl ?_ ?_ rfl
     ·repeat(first|exact trivial|refine⟨.inl ⟨pK,trivial,trivial⟩,?_⟩|refine⟨.inr ⟨_,_,rfl,.inl rfl,⟨oN,oN⟩⟩,?_⟩|refine⟨.inl ⟨⟨_,rfl,rfl⟩,oN,⟨aD,aD⟩⟩,?_⟩|refine⟨.inl ⟨⟨_,rfl,rfl⟩,⟨oN,oN⟩,⟨aD,aD,aD,aD⟩⟩,?_⟩|refine⟨.inl ⟨⟨_,rfl,rfl⟩,clo_live oN oN,clo_avoid aD aD aD aD⟩,?_⟩|refine⟨.inr ⟨_,_,rfl,.inr ⟨oM,rfl⟩,oN⟩,?_⟩)
     ·repeat(first|exact trivial|refine⟨.inr ⟨aD,.inr rfl⟩,?_⟩|refine⟨.inl ⟨rfl,_,rfl,PsLe.refl _⟩,?_⟩|refine⟨.inr ⟨aD,.inl ⟨aD,_,rfl,PsLe.refl _⟩⟩,?_⟩)
    refine kR ?_;refine jm jj<|jT (dI (fun _=>300) C7 ⟨⟨jj,oN⟩,trivial⟩ tA jj jj jj)<|vJ<|jm jj<|jS (fZG Tryz.underlying172 Tryz.underlying5 Tryz.underlying9 jj jj hL2 oM)<|vZ jj<|ji ?_;exact rtT rfl jj
   |false=>
    have hL:(iC n j).length=j:=mA n j;have C7:=eZd En (iC n j) j oM;rw[hL] at C7;have hL2:(iC n j).reverse.length=j:=by simp[mA]
    have hfin:(iC n j++(if(false:Bool)=true then[45] else[])).reverse=(iC n j).reverse:=by simp
    rw[hfin];refine kR ?_;refine vX jj<|jn<|jf jj<|jp<|js ?_;refine WpD.sub (τ:=⟨[(4,.own 300 0 j j)],[(300,(iC n j).map byt)]⟩) ?_ ?_
    ·refine Sub.ren 300 504 rfl ?_ ?_ rfl
     ·repeat(first|exact trivial|refine⟨.inl ⟨pK,trivial,trivial⟩,?_⟩|refine⟨.inr ⟨_,_,rfl,.inl rfl,⟨oN,oN⟩⟩,?_⟩|refine⟨.inl ⟨⟨_,rfl,rfl⟩,oN,⟨aD,aD⟩⟩,?_⟩|refine⟨.inl ⟨⟨_,rfl,rfl⟩,⟨oN,oN⟩,⟨aD,aD,aD,aD⟩⟩,?_⟩|refine⟨.inl ⟨⟨_,rfl,rfl⟩,clo_live oN oN,clo_avoid aD aD aD aD⟩,?_⟩|refine⟨.inr ⟨_,_,rfl,.inr ⟨oM,rfl⟩,oN⟩,?_⟩)
     ·repeat(first|exact trivial|refine⟨.inr ⟨aD,.inr rfl⟩,?_⟩|refine⟨.inl ⟨rfl,_,rfl,PsLe.refl _⟩,?_⟩|refine⟨.inr ⟨aD,.inl ⟨aD,_,rfl,PsLe.refl _⟩⟩,?_⟩)
    refine kR ?_;refine jm jj<|jT (dI (fun _=>300) C7 ⟨⟨jj,oN⟩,trivial⟩ tA jj jj jj)<|vJ<|jm jj<|jS (fZG Tryz.underlying172 Tryz.underlying5 Tryz.underlying9 jj jj hL2 oM)<|vZ jj<|ji ?_;exact rtT rfl jj
 ·dsimp only[cond]
  refine js<|vS<|jm jj<|jS (cP jj CSlice.ok)<|vGt jj<|jn<|jt jj<|jp<|jb<|vS<|jm jj<|jT (dI (fun _=>9) C3 ⟨⟨jj,oN⟩,jj,trivial⟩ tA jj jj jj)<|vZ jj<|js ?_;refine WpD.sub (τ:=⟨[(1,.ptr 1 0),(3,.one (mag [0])),(4,.one (ex (.slice none 0 0))),(5,.one (lb n))],[(1,[ex (.bool sb),mag [n]])]⟩) ?_ ?_
  ·refine Sub.pub 9 rfl rfl ?_ ?_ rfl
   ·repeat(first|exact trivial|refine⟨.inl ⟨pK,trivial⟩,?_⟩|refine⟨.inl ⟨⟨_,rfl,rfl⟩,oN⟩,?_⟩|refine⟨.inl ⟨⟨_,rfl,rfl⟩,⟨oN,oN⟩⟩,?_⟩|refine⟨.inr (.inl ⟨_,_,_,_,rfl,rfl,hp0⟩),?_⟩|refine⟨.inr (.inr (.inl ⟨_,_,_,rfl,rfl,hp0⟩)),?_⟩)
   ·repeat(first|exact trivial|refine jz ?_|refine jy rfl ?_)
  refine kR ?_;refine jm jj<|vC C4 tA<|vZ jj<|vS<|jm jj<|jn<|jb ?_;refine WpD.loop (α:={i:Nat//i≤9}) (fun i=>⟨[(1,.ptr 1 0),(3,.one (mag [])),(4,.app 504 1 i.1),(5,.one (lb (n/10^i.1))),(20,.one (i6 ((i.1:Nat):Int)))],[(1,[ex (.bool sb),mag [n]]),(504,(iC n i.1).map byt),(754,[])]⟩) (fun i=>9-i.1) ⟨0,oM⟩ ?_ ?_
  ·dsimp only
   rw[e00];exact Sub.mk sJ sJ
  rintro⟨i,hi⟩;dsimp only at hi ⊢
  by_cases hi9:i<9
  ·have e1:((n/10^i:Nat):Int).tmod 10=((n/10^i%10:Nat):Int):=(Int.ofNat_tmod _ 10).symm
   have hlt:n/10^i%10<10:=Nat.mod_lt _ oM;have e2:IntKind.u32.wrap (48+((n/10^i%10:Nat):Int))=((dgt n i:Nat):Int):=by rw[IntKind.wrap_u32];unfold dgt;omega
   have e3:IntKind.u8.wrap ((dgt n i:Nat):Int)=((dgt n i:Nat):Int):=by unfold dgt;rw[IntKind.wrap_u8];omega
   have hq:n/10^i/10=n/10^(i+1):=by rw[Nat.div_div_eq_div_mul,Nat.pow_succ]
   have hle:n/10^(i+1)≤n:=Nat.div_le_self _ _;have e4:IntKind.u32.wrap (((n/10^i:Nat):Int).tdiv 10)=((n/10^(i+1):Nat):Int):=by
    rw[show((n/10^i:Nat):Int).tdiv 10=((n/10^i/10:Nat):Int) from(Int.ofNat_tdiv _ 10).symm,hq,IntKind.wrap_u32]
    have h0:=Int.natCast_nonneg (n/10^(i+1));have h1:((n/10^(i+1):Nat):Int)≤(n:Int):=by exact_mod_cast hle
    generalize((n/10^(i+1):Nat):Int)=q at h0 h1 ⊢;omega
   have e6:=wS i oM;have hlen:((iC n i).map byt).length=i*1:=by simp[mA]
   have hr:(iC n i).map byt++[ex (.int .u8 ((dgt n i:Nat):Int))]=(iC n (i+1)).map byt:=by rw[hZ4,List.map_append];rfl
   refine vS<|vLt jj<|vW jj<|vS<|vV jj jj<|jS (bRe jj jj e1)<|vAd jj e2<|jS (bCv jj e3)<|jS (bW (ps:=[(_,_)]) ⟨jj,Part.c jj,trivial⟩ jj jj jj)<|RG.SW (LT.plain jj (cC 528 jj jj hlen jj oM oM jj jj jj jj jj hr)) jj<|vZ jj<|jr<|jm jj<|jS (bQu jj jj e4)<|vZ jj<|jr<|vAd jj e6<|jm jj<|jn ?_;refine⟨⟨i+1,oM⟩,?_,oD⟩;refine Sub.ren 504 528 rfl ?_ ?_ rfl
   ·repeat(first|exact trivial|refine⟨.inl ⟨pK,trivial,trivial⟩,?_⟩|refine⟨.inr ⟨_,_,rfl,.inl rfl,⟨oN,oN⟩⟩,?_⟩|refine⟨.inl ⟨⟨_,rfl,rfl⟩,oN,⟨aD,aD⟩⟩,?_⟩|refine⟨.inl ⟨⟨_,rfl,rfl⟩,⟨oN,oN⟩,⟨aD,aD,aD,aD⟩⟩,?_⟩|refine⟨.inl ⟨⟨_,rfl,rfl⟩,clo_live oN oN,clo_avoid aD aD aD aD⟩,?_⟩|refine⟨.inr ⟨_,_,rfl,.inr ⟨oM,rfl⟩,oN⟩,?_⟩)
   ·repeat(first|exact trivial|refine⟨.inr ⟨aD,.inr rfl⟩,?_⟩|refine⟨.inl ⟨rfl,_,rfl,PsLe.refl _⟩,?_⟩|refine⟨.inr ⟨aD,.inl ⟨aD,_,rfl,PsLe.refl _⟩⟩,?_⟩)
  ·have hi9:i=9:=oM
   subst hi9;refine vS<|vLf jj<|jn<|js<|jf jj<|je ?_;refine⟨false,?_,by decide⟩
   dsimp only[cond];exact Sub.mk sJ sJ
end
end
section
open Go.RowKit Limb Num
instance kb22:CBody PZ 22:=cB Tryz.func22
instance kb8:CBody PZ 8:=cB Tryz.func8
def mpr(p:Int)(sd:Int→Nat)(ss:Int→Int)(R:Rat):Nat→Rat
 |0=>R
 |k+1=>if 0<sd ((k:Int)-1) then mpr p sd ss R k*dia p (sd ((k:Int)-1)) (ss ((k:Int)-1)) else mpr p sd ss R k
theorem bZP{p:Int}{sd:Int→Nat}{ss:Int→Int}{R:Rat}(h1:2≤p)(h2:p≤9973)(hd:∀e,sd e≤9)(hs:∀e,-1≤ss e∧ss e≤1)(hR:Sz 1000 R):∀k,Sz (k*200+1000) (mpr p sd ss R k)
 |0=>hR.mono oM
 |k+1=>by
  rw[mpr];split
  ·exact(lI (bZP h1 h2 hd hs hR k) (iZc h1 h2 (hs _).1 (hs _).2 (hd _))).mono oM
  ·exact(bZP h1 h2 hd hs hR k).mono oM
end
section
open Go.RowKit Limb Num
instance kb177:CBody PZ 177:=cB Tryz.func177
instance kb78:CBody PZ 78:=cB Tryz.func78
instance kb129:CBody PZ 129:=cB Tryz.func129
def dsm(f:Nat→Co):Nat→Int
 |0=>0
 |i+1=>dsm f i+(f i).d
structure OddL(f:Nat→Co)(n:Nat):Prop extends OkL f n where
 e6:∀i,i<n→(f i).e≤60
 sg:∀i,i<n→(f i).s=1∨(f i).s= -1
 od:∀i,i<n→(f i).o=false
 oy:∀i,i<n→(f i).y=0
 sm:dsm f n≤8
theorem jZW{f:Nat→Co}{n:Nat}(H:OddL f n):∀{i:Nat},i≤n→(i:Int)≤dsm f i
 |0,_=>by simp[dsm]
 |i+1,h=>by
  have:=jZW H (i:=i) oM;have:=H.d0 i oM;rw[dsm];omega
theorem jZV{f:Nat→Co}{n:Nat}(H:OddL f n):∀(j:Nat) {i:Nat},i+j=n→dsm f i≤dsm f n
 |0,i,h=>by rw[show i=n by omega];exact Int.le_refl _
 |j+1,i,h=>by
  have:=jZV H j (i:=i+1) oM;have:=H.d0 i oM;have h2:dsm f (i+1)=dsm f i+(f i).d:=rfl;omega
theorem jZU{f:Nat→Co}{n i:Nat}(H:OddL f n)(h:i<n):0≤dsm f i∧dsm f i+(f i).d≤8:=by
 have h1:=jZW H (i:=i) oM;have h2:=jZV H (n-(i+1)) (i:=i+1) oM;have h3:=H.sm;have h4:dsm f (i+1)=dsm f i+(f i).d:=rfl;omega
theorem pZ4{f:Nat→Co}{n i:Nat}(H:OddL f n)(h:i<n):coc (f i)=[ex (.int .i64 (f i).e),ex (.int .i64 (f i).d),ex (.int .i64 (f i).s),ex (.bool false),i6 0]:=by
 unfold coc;rw[H.od i h,H.oy i h]
section
variable(En:Ev)
theorem rodd(p:Int)(hp:smP p=true)(h3:3≤p):Fn PZ En 78 [i6 p] (ex (.bool true)):=by
 have C1:=oZ6 En p;rw[hp] at C1;refine aA Tryz.func78 rfl Tryz.ntmps78 rfl ?_;intro w0 h0;refine vS<|vZ jj<|vS<|jm jj<|vNt jj<|jm jj<|jgm jj<|jg (aQ C1 tA)<|vq jj<|vZ jj<|ji ?_;exact rtT rfl jj
end
theorem oZx(p:Int)(f:Nat→Co)(n:Nat)(H:OddL f n)(hp:smP p=true)(h3:3≤p):Fn PZ TabD 129 [cO p f n] (ex (.bool true)):=by
 have hn8:=H.n8;have hn1:=H.n1;obtain⟨p1,p2,p3⟩:=eZ9 hp;have C1:=(fis p).tab;rw[p3] at C1;unfold cO;refine aA Tryz.func129 rfl Tryz.ntmps129 rfl ?_;intro w0 h0;refine vS<|vB jj<|vZ jj<|js<|vS<|vX jj<|vMf jj<|jm jj<|vY jj<|uGf jj<|vQ jj<|jm jj<|vY jj<|jg (aQ C1 tA)<|jg (bNo jj)<|vQ jj<|jm jj ?_;refine kG ?_;refine kG ?_;first|refine jg (dQ jj CSlice.ok) ?_|refine jk ?_|refine ju ?_
 first|refine jg (bEf jj jj) ?_|refine jk ?_|refine ju ?_
 refine kH ?_;refine jn<|jf jj<|jp<|vS<|ja jj<|vZ jj<|js<|vS<|vX jj<|jE jj<|jm jj<|jn<|jb ?_;refine WpD.loop (α:={i:Nat//i≤n}) (fun i=>⟨[(3,.one (i6 (dsm f i.1))),(4,.one (i6 (if i.1=0 then-1 else(f (i.1-1)).e))),(28,.one (slc 5 (rows (ccs f) n) n)),(29,.one (i6 n)),(30,.one (i6 i.1))],[]⟩) (fun i=>n-i.1) ⟨0,Nat.zero_le _⟩ ?_ ?_
 ·exact Sub.mk sJ sJ
 rintro⟨i,hi⟩;dsimp only at hi ⊢
 by_cases hlt:i<n
 ·have hq:((rows (ccs f) n).drop (i*5)).take 5=coc (f i):=bE (bC f) hlt
  rw[pZ4 H hlt] at hq;have w1:=wS i oM;obtain⟨m1,m2⟩:=jZU H hlt;have g1:=H.e0 i hlt;have g2:=H.e6 i hlt;have g3:=H.d0 i hlt;have g4:=H.d8 i hlt;have w2:IntKind.i64.wrap (8-dsm f i)=8-dsm f i:=w64 oM oM;have w3:IntKind.i64.wrap (dsm f i+(f i).d)=dsm f (i+1):=w64 oM oM;have g5:(if i=0 then-1 else(f (i-1)).e)<(f i).e:=by
   split
   ·omega
   ·exact H.up (i-1) i oM hlt
  have g6:(if i+1=0 then-1 else(f (i+1-1)).e)=(f i).e:=by rw[if_neg oM,Nat.add_sub_cancel]
  generalize(if i=0 then-1 else(f (i-1)).e)=last at*;rcases H.sg i hlt with hs|hs
  ·refine vS<|vLt jj<|vW jj<|vS<|vD jj hlt hq<|vR jj<|vA jj<|vP jj<|jn<|js<|vS<|vX jj<|jm jj<|vMf jj<|jm jj<|vY jj<|uGf jj<|vQ jj<|jm jj<|vY jj<|uLf jj<|vQ jj<|jm jj<|vY jj<|jgm jj<|jg (bSu jj jj w2)<|uGf jj<|vQ jj<|jn ?_
   refine jf jj<|jp<|js<|vS<|vX jj<|vNf jj<|jm jj<|jk<|jk<|jk<|vQ jj<|jm jj<|vY jj<|vQ jj<|jm jj ?_;refine kG ?_;refine kG ?_;first|refine jg (bNf jj jj) ?_|refine jk ?_|refine ju ?_
   refine kH ?_;refine jn<|jf jj<|jp<|vS<|jm jj<|vX jj<|vAd jj w3<|vZ jj<|jr<|vX jj<|vZ jj<|jr<|vAd jj w1<|jm jj<|jn ?_;refine⟨⟨i+1,oM⟩,?_,oD⟩;dsimp only;rw[g6];exact Sub.mk sJ sJ
  ·refine vS<|vLt jj<|vW jj<|vS<|vD jj hlt hq<|vR jj<|vA jj<|vP jj<|jn<|js<|vS<|vX jj<|jm jj<|vMf jj<|jm jj<|vY jj<|uGf jj<|vQ jj<|jm jj<|vY jj<|uLf jj<|vQ jj<|jm jj<|vY jj<|jgm jj<|jg (bSu jj jj w2)<|uGf jj<|vQ jj<|jn ?_
   refine jf jj<|jp<|js<|vS<|vX jj<|vNt jj<|jm jj<|vY jj<|uNf jj<|vq jj<|jm jj<|vY jj<|vQ jj<|jm jj ?_;refine kG ?_;refine kG ?_;first|refine jg (bNf jj jj) ?_|refine jk ?_|refine ju ?_
   refine kH ?_;refine jn<|jf jj<|jp<|vS<|jm jj<|vX jj<|vAd jj w3<|vZ jj<|jr<|vX jj<|vZ jj<|jr<|vAd jj w1<|jm jj<|jn ?_;refine⟨⟨i+1,oM⟩,?_,oD⟩;dsimp only;rw[g6];exact Sub.mk sJ sJ
 ·have:i=n:=oM
  subst this;refine vS<|vLf jj<|vU jj<|vS<|vZ jj<|ji ?_;exact rtT rfl jj
end
section
open Go.RowKit Limb Num
section
variable{P:Program}{En:Ev}{n:Nat}{sl:Sl}{bx:Bx}{dst:Option Tmp}{ty:TypeId}{pos:String}{after:Array Edge}{guard:Option (Nat×Bool)}
end
section
variable(En:Ev)
end
end
section
open Go.RowKit Limb Go.ChangeShapes Go.WideShapes
def wGH(W:World):GH:=fun b o=>W.cell? ⟨b,o,none⟩
theorem gZO(W:World):Holds (wGH W) W:=fun _ _ _ h=>h
section
variable{H:Type}{enc:TypeId×Value→H}{P:Program}{W:World}{base:Nat}{T t8 ts te:TypeId}{f0 f1:Field}
end
end
section
open Go.RowKit Limb
def dC(r o len cap:Nat):Pd:=⟨fun _ v=>∃c,v= .slice (some ⟨r,o,none⟩) len c∧cap≤c∧c≤maxLen,fun _ _ _ _ h=>h⟩
instance(r o len cap:Nat):C1 (dC r o len cap):=⟨fun _ _ ⟨_,h,_⟩=>by rw[h];rfl⟩
def dZU(r k len:Nat):Value:=match len with
 |0=> .slice none 0 0
 |l+1=> .slice (some ⟨r,k,none⟩) (l+1) 0
def tG(r k len:Nat):Pd:=ex (dZU r k len)
instance(r k len:Nat):C1 (tG r k len):=⟨fun _ _ h=>by rw[show _=_ from h];cases len<;>rfl⟩
class Flat(p:Pd):Prop where
 flat:∀h v,p.p h v→∀r o l c,v≠ .slice (some ⟨r,o,none⟩) l c
instance(k:IntKind)(n:Int):Flat (ex (.int k n)):=⟨fun _ _ h _ _ _ _ e=>by rw[show _=_ from h] at e;cases e⟩
instance(b:Bool):Flat (ex (.bool b)):=⟨fun _ _ h _ _ _ _ e=>by rw[show _=_ from h] at e;cases e⟩
instance:Flat (ex (.slice none 0 0)):=⟨fun _ _ h _ _ _ _ e=>by rw[show _=_ from h] at e;cases e⟩
theorem gV{β:Nat→Nat}{v:Value}(h:∀r o l c,v≠ .slice (some ⟨r,o,none⟩) l c):tr β v=v:=by
 unfold tr;split
 ·exact(h _ _ _ _ rfl).elim
 ·rfl
theorem eZ{β:Nat→Nat}{r o l c:Nat}(h:¬grows r):tr β (.slice (some ⟨r,o,none⟩) l c)= .slice (some ⟨β r,o,none⟩) l c:=by
 unfold tr;simp only;rw[if_neg h]
theorem pO{β:Nat→Nat}{r o l c:Nat}(h:grows r):tr β (.slice (some ⟨r,o,none⟩) l c)= .slice (some ⟨β r,0,none⟩) l (β (r+250)/o):=by
 unfold tr;simp only;rw[if_pos h]
theorem tN{β:Nat→Nat}{v:Value}(h:v.oneCell'=true):(tr β v).oneCell'=true:=by
 unfold tr;split
 ·split<;>rfl
 ·exact h
theorem Inv.boxK{En:Ev}{w0:World}{h0:GH}{c:Cx}{h:GH}{β:Nat→Nat}{bx:Bx}{w:World}(hi:Inv En w0 h0 c h β bx w){i:Nat}{ps:List Pd}(hp:aB bx i=some ps)(hps:ps≠[])(hl:lk i=true):
  ∃(vs rest:List Value) (T:TypeId),w.heap[β i]? =some (.cells (vs.map (tr β)++rest).toArray T (0,0))∧All2 h ps vs∧∀v∈vs,oK β bx v:=by
 obtain⟨_,_,vs,rest,T,h3,h4,_,h6⟩:=hi.box i ps hp hps;unfold tI at h3;rw[hl] at h3;exact⟨vs,rest,T,h3,h4,h6 hl⟩
section
variable{P:Program}{En:Ev}{n:Nat}{sl:Sl}{bx:Bx}{dst:Option Tmp}{ty:TypeId}{pos:String}{after:Array Edge}{guard:Option (Nat×Bool)}
theorem bZ9{T:TypeId}{x:Operand}{b o:Nat}{ps:List Pd}{p:Pd}{sd:SD}{rb:List Nat}[ht:COne P T](hx:osd sl x=some (.ptr b o))(hb:aB bx b=some ps)(hp:ps[o]? =some p)(hl:lk b=true)(hrb:b∈rb)
  (H:∀h β bx' v,(∀i∈rb,aB bx' i=aB bx i)→p.p h v→v.oneCell'=true→oK β bx' v→sd.ok h β (tr β v)∧sd.live bx'):
  RT P En n ⟨dst,.load T x,ty,pos,after,guard⟩ sl bx ⟨sd,rb,[]⟩:=by
 intro sl' bx' h1 h2 _ w0 h0 c h β a w Q hi hs;have hx':a.eval x= .pointer (some ⟨β b,o,none⟩):=(cH hs (x:=x) (sd:= .ptr b o) (by rw[h1 x (by simp[Op.operands])];exact hx)).1
 obtain⟨vs,rest,T',hg,ha,hr⟩:=hi.boxK (by rw[h2 b hrb];exact hb) (by rintro rfl;simp at hp) hl
 obtain⟨v,hv,hpv,hv1⟩:=ha.get hp;obtain⟨d,hd1,hd2,_⟩:=ht.ok;have hc:w.cell? ⟨β b,o,none⟩=some (tr β v):=by
  rw[cell_of_row w _ o _ T' _ hg];have hlt:=(List.getElem?_eq_some_iff.1 hv).1;simp only[List.getElem?_toArray];rw[List.getElem?_append_left (by simpa using hlt),List.getElem?_map,hv]
  rfl
 obtain⟨g1,g2⟩:=H h β bx' v h2 hpv hv1 (hr v (List.mem_of_getElem? hv));unfold Oper.wp;have:(execOp a.eval ⟨dst,.load T x,ty,pos,after,guard⟩).run P w= .ok (.value (tr β v)) w:=by
  simp only[execOp,hx',Instr.loadAt,Instr.sureAddr,loadVar,Sem.run_bind,Sem.run_pure,Result.andThen_ok,kF hd1,hd2];simp[load,Sem.run,hc]
 rw[this];exact⟨tr β v,h,β,rfl,hi,Le.refl _,fun _ _=>rfl,g1,g2⟩
theorem bQ{T:TypeId}{x:Operand}{b o r o' len cap:Nat}{ps:List Pd}[COne P T](hx:osd sl x=some (.ptr b o))(hb:aB bx b=some ps)(hp:ps[o]? =some (dC r o' len cap))(hg:¬grows r)(hl:lk b=true:=by rfl):
  RT P En n ⟨dst,.load T x,ty,pos,after,guard⟩ sl bx ⟨.own r o' len cap,[b],[]⟩:=
 bZ9 hx hb hp hl (List.mem_singleton.2 rfl) fun h β bx' v _ ⟨c,hv,h1,h2⟩ _ hr=>by
  subst hv;rw[eZ hg];exact⟨⟨c,rfl,h1,h2⟩,(hr _ _ _ _ rfl).1⟩
theorem yD{T:TypeId}{x:Operand}{b o r k len:Nat}{ps:List Pd}[COne P T](hx:osd sl x=some (.ptr b o))(hb:aB bx b=some ps)(hp:ps[o]? =some (tG r k len))(h1:aB bx r≠none)(h2:aB bx (r+250)≠none)(hg:grows r:=by unfold grows;omega)(hl:lk b=true:=by rfl):
  RT P En n ⟨dst,.load T x,ty,pos,after,guard⟩ sl bx ⟨.app r k len,[b,r,r+250],[]⟩:=
 bZ9 hx hb hp hl (by simp) fun h β bx' v hag hv _ hr=>by
  have hv:v=dZU r k len:=hv;subst hv;refine⟨?_,by rw[hag r (by simp)];exact h1,by rw[hag _ (by simp)];exact h2⟩
  cases len with
  |zero=>exact .inl ⟨gV (by intro r o l c e;cases e),rfl⟩
  |succ len=>
   obtain⟨_,g⟩:=hr _ _ _ _ rfl;obtain⟨_,g2,g3,g4,g5,g6⟩:=g hg;exact .inr ⟨_,pO hg,g3,g4,g5,g6⟩
theorem gC{T:TypeId}{x:Operand}{b o:Nat}{ps:List Pd}{p:Pd}[COne P T][hf:Flat p](hx:osd sl x=some (.ptr b o))(hb:aB bx b=some ps)(hp:ps[o]? =some p)(hl:lk b=true:=by rfl):
  RT P En n ⟨dst,.load T x,ty,pos,after,guard⟩ sl bx ⟨.one p,[b],[]⟩:=
 bZ9 hx hb hp hl (List.mem_singleton.2 rfl) fun h β bx' v _ hv _ _=>by
  rw[gV (hf.flat h v hv)];exact⟨hv,trivial⟩
end
theorem Inv.storeK{En:Ev}{w0:World}{h0:GH}{c:Cx}{h:GH}{β:Nat→Nat}{bx:Bx}{w:World}(hi:Inv En w0 h0 c h β bx w){i:Nat}{ps:List Pd}(hp:aB bx i=some ps)(hps:ps≠[])(hlk:lk i=true){q:Pd}{v:Value}(hq:q.p h v)(hv1:v.oneCell'=true)(hr:oK β bx v)(o:Nat)(hb:o<ps.length):
  Inv En w0 h0 c h β ((i,ps.set o q)::bx) (w.setCells (β i) o [tr β v]):=by
 obtain⟨h1,h2,vs,rest,T,h3,h4,h5,h6⟩:=hi.box i ps hp hps;have hvl:=h4.length;have hne:∀j rs,aB ((i,ps.set o q)::bx) j=some rs→rs≠[]→∃rs',aB bx j=some rs'∧rs'≠[]:=fun j rs hj hr=>by
  rw[aC] at hj
  by_cases e:i=j
  ·subst e;exact⟨ps,hp,hps⟩
  ·rw[if_neg e] at hj;exact⟨rs,hj,hr⟩
 have live:∀r,aB bx r≠none→aB ((i,ps.set o q)::bx) r≠none:=fun r hr=>by rw[aC];split<;>simp;exact hr
 refine⟨hi.env,fun b o' v e=>?_,hi.le0,hi.fresh,jY (by rcases Nat.lt_or_ge i 1000 with h|h;exact .inl (h1.1 h);exact .inr ⟨i,h1.2 h,hi.pin i h⟩) _ _ _ hi.below,hi.dis,hi.pin,fun j rs hj hr=>?_,fun j k rs ss hj hr hk hs e=>?_⟩
 ·have hb:b≠β i:=by rintro rfl;rw[h2 o'] at e;cases e
  rw[World.cell?_of_block (w:=w) (a:=⟨b,o',none⟩) (cS hb _ _ _)];exact hi.holds b o' v e
 ·rw[aC] at hj
  by_cases e:i=j
  ·subst e
   rw[if_pos rfl] at hj;cases hj
   refine⟨h1,h2,vs.set o v,rest,T,?_,h4.set o hq hv1,fun hg=>by rw[←h5 hg];simp,fun hl u hu=>?_⟩
   ·rw[iO [tr β v] o w _ T _ h3]
    have:eW (tI i β vs++rest) o [tr β v]=tI i β (vs.set o v)++rest:=by
     unfold tI;rw[hlk];show(vs.map (tr β)++rest).set o (tr β v)=(vs.set o v).map (tr β)++rest
     rw[List.set_append_left _ _ (by simp;omega),List.map_set]
    rw[this]
   ·rcases List.mem_or_eq_of_mem_set hu with hu|rfl
    ·exact(kM (h6 hl u hu) fun r hr=>⟨live r hr,rfl⟩).1
    ·exact(kM hr fun r hr=>⟨live r hr,rfl⟩).1
  ·rw[if_neg e] at hj
   obtain⟨g1,g2,us',rs',T',g3,g4,g5,g6⟩:=hi.box j rs hj hr;refine⟨g1,g2,us',rs',T',?_,g4,g5,jJ g6 live⟩;rw[cS (fun hh=>e (hi.inj i j _ _ hp hps hj hr hh.symm))];exact g3
 ·obtain⟨rs',a1,a2⟩:=hne j rs hj hr
  obtain⟨ss',b1,b2⟩:=hne k ss hk hs;exact hi.inj j k _ _ a1 a2 b1 b2 e
section
variable{P:Program}{En:Ev}{n:Nat}{sl:Sl}{bx:Bx}{dst:Option Tmp}{ty:TypeId}{pos:String}{after:Array Edge}{guard:Option (Nat×Bool)}
theorem dZa{T:TypeId}{x y:Operand}{b o:Nat}{ps rs:List Pd}{q:Pd}{s:SD}[ht:COne P T](hx:osd sl x=some (.ptr b o))(hy:osd sl y=some s)(hb:aB bx b=some ps)(ho:o<ps.length)(hl:lk b=true)(hr:ps.set o q=rs)
  (H:∀h β bx' u,s.ok h β u→s.live bx'→∃v,q.p h v∧v.oneCell'=true∧u=tr β v∧oK β bx' v):
  RT P En n ⟨dst,.store T x y,ty,pos,after,guard⟩ sl bx ⟨.one (ex undef),[b],[(b,rs)]⟩:=by
 subst hr;intro sl' bx' h1 h2 _ w0 h0 c h β a w Q hi hs;have hx':a.eval x= .pointer (some ⟨β b,o,none⟩):=(cH hs (x:=x) (sd:= .ptr b o) (by rw[h1 x (by simp[Op.operands])];exact hx)).1
 obtain⟨hy1,hy2⟩:=cH hs (x:=y) (sd:=s) (by rw[h1 y (by simp[Op.operands])];exact hy)
 obtain⟨v,k1,k2,k3,k4⟩:=H h β bx' _ hy1 hy2;have hb':aB bx' b=some ps:=by rw[h2 b (by simp)];exact hb
 have hps:ps≠[]:=by rintro rfl;simp at ho
 obtain⟨vs,rest,T',hg,ha,_⟩:=hi.boxK hb' hps hl;have hlen:=ha.length;have h1c:(a.eval y).oneCell'=true:=by rw[k3];exact tN k2
 have hth:=tO (k:=1) hg (show o+1≤(vs.map (tr β)).length by simp;omega)
 obtain⟨hs1,hs2⟩:=hth 0 oM;obtain⟨d,hd1,hd2,hd3⟩:=ht.ok;have hrun:(execOp a.eval ⟨dst,.store T x y,ty,pos,after,guard⟩).run P w= .ok .skip (w.setCells (β b) o [a.eval y]):=by
  have c1:∀j,j<[a.eval y].length→(w.cell? ⟨β b,o+0+j,none⟩).isSome=true:=by
   intro j hj;have:j=0:=by simpa using hj
   subst this;exact hs1
  have c2:∀j,j<[a.eval y].length→w.frozen? ⟨β b,o+0+j,none⟩=false:=by
   intro j hj;have:j=0:=by simpa using hj
   subst this;exact hs2
  have hsc:=run_storeCells_cells (P:=P) (β b) o [a.eval y] 0 w c1 c2 (fun v hv=>by simp at hv;rw[hv];exact h1c)
  cases hq:P.info? T with
  |none=>rw[hq] at hd3;cases hd3
  |some i=>
   rw[hq] at hd3;have hi1:i.size=1:=by simpa using hd3
   simp only[execOp,hx',Instr.storeAt,Instr.sureAddr,storeVar,Sem.run_bind,Sem.run_pure,Result.andThen_ok,iK h1c,sizeOf,run_typeInfo _ hq,hi1];simp only[List.size_toArray,List.length_singleton,ne_eq,not_true_eq_false,if_false];simp only[Nat.add_zero] at hsc;rw[hsc];rfl
 unfold Oper.wp;rw[hrun,k3];exact⟨undef,h,β,rfl,hi.storeK hb' hps hl k1 k2 k4 o ho,Le.refl _,fun _ _=>rfl,rfl,trivial⟩
theorem tW{T:TypeId}{x y:Operand}{b o r o' len cap:Nat}{ps rs:List Pd}[COne P T](hx:osd sl x=some (.ptr b o))(hy:osd sl y=some (.own r o' len cap))(hb:aB bx b=some ps)(ho:o<ps.length)(hg:¬grows r)(hr:ps.set o (dC r o' len cap)=rs)(hl:lk b=true:=by rfl):
  RT P En n ⟨dst,.store T x y,ty,pos,after,guard⟩ sl bx ⟨.one (ex undef),[b],[(b,rs)]⟩:=
 dZa hx hy hb ho hl hr fun h β bx' u ⟨c,hu,h1,h2⟩ hlv=>⟨_,⟨c,rfl,h1,h2⟩,rfl,by rw[hu,eZ hg],fun r' o'' l c' e=>by cases e;exact⟨hlv,fun h=>absurd h hg⟩⟩
theorem mX{T:TypeId}{x y:Operand}{b o r k len:Nat}{ps rs:List Pd}[COne P T](hx:osd sl x=some (.ptr b o))(hy:osd sl y=some (.app r k len))(hb:aB bx b=some ps)(ho:o<ps.length)(hk:Nat.blt 0 k=true)(hr:ps.set o (tG r k len)=rs)(hg:grows r:=by unfold grows;omega)(hl:lk b=true:=by rfl):
  RT P En n ⟨dst,.store T x y,ty,pos,after,guard⟩ sl bx ⟨.one (ex undef),[b],[(b,rs)]⟩:=
 dZa hx hy hb ho hl hr fun h β bx' u hu hlv=>by
  have hk:0<k:=Nat.le_of_ble_eq_true hk;refine⟨dZU r k len,rfl,by cases len<;>rfl,?_,?_⟩
  ·rcases hu with⟨rfl,rfl⟩|⟨cap,rfl,h1,h2,h3,h4⟩
   ·exact(gV (by intro r o l c e;cases e)).symm
   ·cases len with
    |zero=>omega
    |succ len=>
     show _=tr β (.slice (some ⟨r,k,none⟩) (len+1) 0)
     rw[pO hg,←h4,Nat.mul_div_cancel _ hk]
  ·intro r' o'' l c' e
   rcases hu with⟨rfl,rfl⟩|⟨cap,rfl,h1,h2,h3,h4⟩
   ·cases e
   ·cases len with
    |zero=>omega
    |succ len=>
     cases e
     exact⟨hlv.1,fun _=>⟨hlv.2,hk,h1,by rw[←h4,Nat.mul_div_cancel _ hk];exact h2,by rw[←h4,Nat.mul_div_cancel _ hk];exact h3,by rw[←h4,Nat.mul_div_cancel _ hk]⟩⟩
end
def rws(d:Nat)(f:Nat→List Pd):Bx:=[(d,f 0),(d+1,f 1),(d+2,f 2),(d+3,f 3),(d+4,f 4),(d+5,f 5),(d+6,f 6),(d+7,f 7)]
def ids(d:Nat):List Nat:=[d,d+1,d+2,d+3,d+4,d+5,d+6,d+7]
def Fam(bx:Bx)(d:Nat)(f:Nat→List Pd):Prop:=∀j,j<8→aB bx (d+j)=some (f j)
theorem Fam.mk{bx:Bx}{d:Nat}{f:Nat→List Pd}(h0:aB bx d=some (f 0))(h1:aB bx (d+1)=some (f 1))(h2:aB bx (d+2)=some (f 2))(h3:aB bx (d+3)=some (f 3))(h4:aB bx (d+4)=some (f 4))(h5:aB bx (d+5)=some (f 5))(h6:aB bx (d+6)=some (f 6))(h7:aB bx (d+7)=some (f 7)):Fam bx d f:=by
 intro j hj;match j,hj with
 |0,_=>exact h0
 |1,_=>exact h1
 |2,_=>exact h2
 |3,_=>exact h3
 |4,_=>exact h4
 |5,_=>exact h5
 |6,_=>exact h6
 |7,_=>exact h7
theorem fM{d j:Nat}(h:j<8):d+j∈ids d:=by
 unfold ids;match j,h with
 |0,_=>simp
 |1,_=>simp
 |2,_=>simp
 |3,_=>simp
 |4,_=>simp
 |5,_=>simp
 |6,_=>simp
 |7,_=>simp
theorem lZJ{d i:Nat}(h:i∈ids d):∃j,j<8∧i=d+j:=by
 unfold ids at h;simp only[List.mem_cons,List.not_mem_nil,or_false] at h;rcases h with h|h|h|h|h|h|h|h
 ·exact⟨0,oM,h⟩
 ·exact⟨1,oM,h⟩
 ·exact⟨2,oM,h⟩
 ·exact⟨3,oM,h⟩
 ·exact⟨4,oM,h⟩
 ·exact⟨5,oM,h⟩
 ·exact⟨6,oM,h⟩
 ·exact⟨7,oM,h⟩
theorem oS(d:Nat)(f:Nat→List Pd):(rws d f).map (·.1)=ids d:=rfl
theorem iM{d:Nat}{f:Nat→List Pd}{bx:Bx}(i:Nat):aB (rws d f++bx) i=if d≤i∧i<d+8 then some (f (i-d)) else aB bx i:=by
 by_cases h:d≤i∧i<d+8
 ·rw[if_pos h]
  obtain⟨j,hj,rfl⟩:∃j,j<8∧i=d+j:=⟨i-d,oM,oM⟩;rw[Nat.add_sub_cancel_left];exact(Fam.mk (bx:=rws d f++bx) (d:=d) (f:=f) (by simp[rws,aC]) (by simp[rws,aC]) (by simp[rws,aC]) (by simp[rws,aC]) (by simp[rws,aC]) (by simp[rws,aC]) (by simp[rws,aC]) (by simp[rws,aC])) j hj
 ·rw[if_neg h,cQ,nF]
  ·simp
  ·rw[oS]
   intro hm;obtain⟨j,hj,rfl⟩:=lZJ hm;omega
theorem wV(d:Nat)(f:Nat→List Pd)(bx:Bx):Fam (rws d f++bx) d f:=fun j hj=>by
 rw[iM,if_pos oM,Nat.add_sub_cancel_left]
def oJ(f:Nat→List Pd)(r:Nat)(x:List Pd):Nat→List Pd:=fun j=>if j=r then x else f j
theorem nN(f:Nat→List Pd)(r:Nat)(x:List Pd):oJ f r x r=x:=if_pos rfl
theorem pL{f:Nat→List Pd}{r j:Nat}{x:List Pd}(h:j≠r):oJ f r x j=f j:=if_neg h
theorem aZL{d r:Nat}{f:Nat→List Pd}{bx:Bx}{x:List Pd}(hf:Fam bx d f)(hr:r<8)(i:Nat):aB ([(d+r,x)]++bx) i=aB (rws d (oJ f r x)++bx) i:=by
 rw[iM,List.singleton_append,aC]
 by_cases h:d≤i∧i<d+8
 ·rw[if_pos h]
  obtain⟨j,hj,rfl⟩:∃j,j<8∧i=d+j:=⟨i-d,oM,oM⟩;rw[Nat.add_sub_cancel_left]
  by_cases e:j=r
  ·subst e;rw[if_pos rfl,nN]
  ·rw[if_neg oM,pL e];exact hf j hj
 ·rw[if_neg h,if_neg oM]
section
variable{P:Program}{En:Ev}{n:Nat}{sl:Sl}{bx:Bx}{dst:Option Tmp}{ty:TypeId}{pos:String}{after:Array Edge}{guard:Option (Nat×Bool)}
theorem Tri.alikeW{o:Oper}{sd:SD}{rb rb':List Nat}{wb wb':Bx}(h:Tri P En n o sl bx ⟨sd,rb,wb⟩)(ha:∀i,aB (wb++bx) i=aB (wb'++bx) i):Tri P En n o sl bx ⟨sd,rb',wb'⟩:=by
 intro w0 h0 c hh β a w Q hi hs;refine Oper.wp_mono ?_ (h w0 h0 c hh β a w Q hi hs);rintro a' w' ⟨v,h',β',e,g1,g2,g3,g4,g5⟩;exact⟨v,h',β',e,g1.alike ha,g2,g3,g4,(SD.live_alike ha sd).1 g5⟩
def sF(d:Nat):Bool:=(ids d).all (fun i=> !lk i)
theorem nZ{d j:Nat}(h:sF d=true)(hj:j<8):lk (d+j)=false:=by
 have:=List.all_eq_true.1 h _ (fM hj);simpa using this
theorem iZD{T:TypeId}{x:Operand}{d r o:Nat}{f:Nat→List Pd}{p:Pd}[ht:COne P T](hx:osd sl x=some (.ptr (d+r) o))(hf:Fam bx d f)(hr:r<8)(hp:(f r)[o]? =some p)(hl:sF d=true:=by rfl):
  RT P En n ⟨dst,.load T x,ty,pos,after,guard⟩ sl bx ⟨.one p,ids d,[]⟩:=fun sl' bx' h1 h2 _=>
 cZU (P:=P) (En:=En) (n:=n) o hx (hf r hr) ht.ok hp (nZ hl hr) sl' bx' h1 (fun b hb=>by rw[List.mem_singleton.1 hb];exact h2 _ (fM hr)) (fun b hb=>by cases hb)
theorem iZC{T:TypeId}{x:Operand}{d r o k:Nat}{f:Nat→List Pd}{qs:List Pd}[ht:CRow P T k](hx:osd sl x=some (.ptr (d+r) o))(hf:Fam bx d f)(hr:r<8)(hk:o+k≤(f r).length)(hq:((f r).drop o).take k=qs)(hl:sF d=true:=by rfl):
  RT P En n ⟨dst,.load T x,ty,pos,after,guard⟩ sl bx ⟨.one (cD qs),ids d,[]⟩:=by
 subst hq;exact fun sl' bx' h1 h2 _=>xX (P:=P) (En:=En) (n:=n) o hx (hf r hr) ht.ok (by rw[Nat.ble_eq];exact hk) (nZ hl hr) sl' bx' h1 (fun b hb=>by rw[List.mem_singleton.1 hb];exact h2 _ (fM hr)) (fun b hb=>by cases hb)
theorem lZ1{T:TypeId}{x y:Operand}{d r o:Nat}{f:Nat→List Pd}{q:Pd}{rs:List Pd}[ht:COne P T][C1 q](hx:osd sl x=some (.ptr (d+r) o))(hy:osd sl y=some (.one q))(hf:Fam bx d f)(hr:r<8)(ho:o<(f r).length)(hrs:(f r).set o q=rs)(hl:sF d=true:=by rfl):
  RT P En n ⟨dst,.store T x y,ty,pos,after,guard⟩ sl bx ⟨.one (ex undef),ids d,rws d (oJ f r rs)⟩:=by
 subst hrs;refine fun sl' bx' h1 h2 h3=>Tri.alikeW (tS (P:=P) (En:=En) (n:=n) o hx hy (hf r hr) ht.ok (by rw[Nat.blt,Nat.ble_eq];exact ho) (nZ hl hr) sl' bx' h1 (fun b hb=>by rw[List.mem_singleton.1 hb];exact h2 _ (fM hr)) (fun b hb=>?_)) (aZL (fun j hj=>(h2 _ (fM hj)).trans (hf j hj)) hr)
 have hb:b=d+r:=by simpa using hb
 rw[hb];exact h2 _ (fM hr)
theorem lZ0{T:TypeId}{x y:Operand}{d r o k:Nat}{f:Nat→List Pd}{qs rs:List Pd}[ht:CRow P T k](hx:osd sl x=some (.ptr (d+r) o))(hy:osd sl y=some (.one (cD qs)))(hf:Fam bx d f)(hr:r<8)(hq:Nat.beq qs.length k=true)(ho:o+k≤(f r).length)(hrs:eW (f r) o qs=rs)(hpos:Nat.blt 0 k=true:=by rfl)(hl:sF d=true:=by rfl):
  RT P En n ⟨dst,.store T x y,ty,pos,after,guard⟩ sl bx ⟨.one (ex undef),ids d,rws d (oJ f r rs)⟩:=by
 subst hrs;refine fun sl' bx' h1 h2 h3=>Tri.alikeW (aZ1 (P:=P) (En:=En) (n:=n) o hx hy (hf r hr) ht.ok hq (by rw[Nat.ble_eq];exact ho) hpos (nZ hl hr) sl' bx' h1 (fun b hb=>by rw[List.mem_singleton.1 hb];exact h2 _ (fM hr)) (fun b hb=>?_)) (aZL (fun j hj=>(h2 _ (fM hj)).trans (hf j hj)) hr)
 have hb:b=d+r:=by simpa using hb
 rw[hb];exact h2 _ (fM hr)
end
def mvr(a s:Nat):Nat→Nat:=fun x=>if x=a then s else if x=a+250 then s+250 else x
theorem cI(a s:Nat):mvr a s a=s:=if_pos rfl
theorem fT(a s:Nat):mvr a s (a+250)=s+250:=by unfold mvr;rw[if_neg oM,if_pos rfl]
theorem cJ{a s x:Nat}(h:x≠a)(h2:x≠a+250):mvr a s x=x:=by unfold mvr;rw[if_neg h,if_neg h2]
def PMv(ρ:Nat→Nat)(s t:Bx)(p' p:Pd):Prop:=∀h β v',p'.p h v'→v'.oneCell'=true→oK β s v'→∃v,p.p h v∧v.oneCell'=true∧tr β v'=tr (fun i=>β (ρ i)) v∧oK (fun i=>β (ρ i)) t v
def PsMv(ρ:Nat→Nat)(s t:Bx):List Pd→List Pd→Prop
 |[],[]=>True
 |p'::ps',p::ps=>PMv ρ s t p' p∧PsMv ρ s t ps' ps
 |_,_=>False
theorem PsMv.all{ρ:Nat→Nat}{s t:Bx}{h:GH}{β:Nat→Nat}:∀{ps' ps:List Pd} {vs':List Value},PsMv ρ s t ps' ps→All2 h ps' vs'→(∀v∈vs',oK β s v)→∃vs,vs'.map (tr β)=vs.map (tr fun i=>β (ρ i))∧All2 h ps vs∧∀v∈vs,oK (fun i=>β (ρ i)) t v
 |[],[],[],_,_,_=>⟨[],rfl,trivial,fun _ h=>by cases h⟩
 |p'::ps',p::ps,v'::vs',⟨a,b⟩,⟨x,y,z⟩,hr=>by
  obtain⟨v,g1,g2,g3,g4⟩:=a h β v' x y (hr v' (List.mem_cons_self ..));obtain⟨vs,k1,k2,k3⟩:=PsMv.all b z (fun v hv=>hr v (List.mem_cons_of_mem _ hv));refine⟨v::vs,by rw[List.map_cons,List.map_cons,k1,g3],⟨g1,g2,k2⟩,fun u hu=>?_⟩
  rcases List.mem_cons.1 hu with rfl|hu
  ·exact g4
  ·exact k3 u hu
 |[],[],_::_,_,h,_=>h.elim
 |_::_,_::_,[],_,h,_=>h.elim
 |[],_::_,_,h,_,_=>h.elim
 |_::_,[],_,h,_,_=>h.elim
def PsFl:List Pd→List Pd→Prop
 |[],[]=>True
 |p'::ps',p::ps=>(PLe p' p∧Flat p)∧PsFl ps' ps
 |_,_=>False
theorem PsFl.all{h:GH}{β:Nat→Nat}{t:Bx}:∀{ps' ps:List Pd} {vs:List Value},PsFl ps' ps→All2 h ps' vs→vs=vs.map (tr β)∧All2 h ps vs∧∀v∈vs,oK β t v
 |[],[],[],_,_=>⟨rfl,trivial,fun _ h=>by cases h⟩
 |p'::ps',p::ps,v::vs,⟨⟨a,f⟩,b⟩,⟨x,y,z⟩=>by
  obtain⟨k1,k2,k3⟩:=PsFl.all (β:=β) (t:=t) b z;have hf:=f.flat h v (a _ _ x);refine⟨by rw[List.map_cons,gV hf,←k1],⟨a _ _ x,y,k2⟩,fun u hu=>?_⟩
  rcases List.mem_cons.1 hu with rfl|hu
  ·exact fun r o l c e=>absurd e (hf r o l c)
  ·exact k3 u hu
 |[],[],_::_,_,h=>h.elim
 |_::_,_::_,[],_,h=>h.elim
 |[],_::_,_,h,_=>h.elim
 |_::_,[],_,h,_=>h.elim
def BMv(ρ:Nat→Nat)(s t:Bx)(i:Nat)(ps:List Pd):Prop:=
 ps=[]∨∃ps',aB s (ρ i)=some ps'∧(i<1000↔ρ i<1000)∧(grows i→grows (ρ i)∧ρ (i+250)=ρ i+250)∧
  ((lk i=false∧lk (ρ i)=false∧PsLe ps' ps)∨(lk i=true∧lk (ρ i)=true∧PsMv ρ s t ps' ps)∨(lk i=true∧lk (ρ i)=false∧PsFl ps' ps))
def SMv(ρ:Nat→Nat)(t:Bx):SD→SD→Prop
 | .one p,.one q=>PLe p q
 | .ptr j o,.ptr i o'=>ρ i=j∧o=o'∧aB t i≠none
 | .own j o l c,.own i o' l' c'=>ρ i=j∧o=o'∧l=l'∧c=c'∧aB t i≠none
 | .app j k l,.app i k' l'=>ρ i=j∧ρ (i+250)=j+250∧k=k'∧l=l'∧aB t i≠none∧aB t (i+250)≠none
 | .app j _ l,.own i o' l' c'=>ρ i=j∧0<l∧o'=0∧l=l'∧l=c'∧aB t i≠none
 |_,_=>False
theorem SMv.ok{ρ:Nat→Nat}{t:Bx}{s' s:SD}(hm:SMv ρ t s' s){h:GH}{β:Nat→Nat}{v:Value}(ho:s'.ok h β v):s.ok h (fun i=>β (ρ i)) v∧s.live t:=by
 cases s'<;>cases s<;>first|exact hm.elim|skip
 ·exact⟨hm _ _ ho,trivial⟩
 ·obtain⟨rfl,rfl,h3⟩:=hm;exact⟨ho,h3⟩
 ·obtain⟨rfl,rfl,rfl,rfl,h3⟩:=hm;exact⟨ho,h3⟩
 ·obtain⟨rfl,h0,rfl,rfl,rfl,h3⟩:=hm
  rcases ho with⟨_,e⟩|⟨cap,h1,h2,h4,h5,_⟩
  ·omega
  ·exact⟨⟨cap,h1,h4,h5⟩,h3⟩
 ·obtain⟨rfl,h0,rfl,rfl,h3,h4⟩:=hm
  refine⟨?_,h3,h4⟩;rcases ho with ho|⟨cap,h1,h2,h4,h5,h6⟩
  ·exact .inl ho
  ·exact .inr ⟨cap,h1,h2,h4,h5,by show _=β (ρ (_+250));rw[h0];exact h6⟩
theorem Sub.move{σ τ:St}(ρ:Nat→Nat)(hpin:∀i,1000≤i→ρ i=i)(hinj:∀i j ps qs,aB τ.bx i=some ps→ps≠[]→aB τ.bx j=some qs→qs≠[]→ρ i=ρ j→i=j)
  (hs:∀t sd,aB τ.sl t=some sd→∃sd',aB σ.sl t=some sd'∧SMv ρ τ.bx sd' sd) (hb:∀i ps,aB τ.bx i=some ps→BMv ρ σ.bx τ.bx i ps):Sub σ τ:=by
 rintro En n w0 h0 c a w ⟨h,β,hi,hsl⟩;have src:∀i ps,aB τ.bx i=some ps→ps≠[]→∃ps',aB σ.bx (ρ i)=some ps'∧ps'≠[]∧(i<1000↔ρ i<1000)∧(grows i→grows (ρ i)∧ρ (i+250)=ρ i+250)∧((lk i=false∧lk (ρ i)=false∧PsLe ps' ps)∨(lk i=true∧lk (ρ i)=true∧PsMv ρ σ.bx τ.bx ps' ps)∨(lk i=true∧lk (ρ i)=false∧PsFl ps' ps)):=fun i ps hp hps=>by
  rcases hb i ps hp with e|⟨ps',h1,h2,h3,h4⟩
  ·exact absurd e hps
  ·refine⟨ps',h1,?_,h2,h3,h4⟩
   rintro rfl;rcases h4 with⟨_,_,h⟩|⟨_,_,h⟩|⟨_,_,h⟩
   ·exact hps h.nil
   ·cases ps with
    |nil=>exact hps rfl
    |cons=>exact h.elim
   ·cases ps with
    |nil=>exact hps rfl
    |cons=>exact h.elim
 refine⟨h,fun i=>β (ρ i),⟨hi.env,hi.holds,hi.le0,hi.fresh,hi.below,hi.dis,fun i hge=>?_,fun i ps hp hps=>?_,fun i j ps qs hp hps hq hqs e=>?_⟩,hsl.defers,hsl.size,fun t sd ht=>?_⟩
 ·show β (ρ i)=_;rw[hpin i hge];exact hi.pin i hge
 ·obtain⟨ps',q1,q2,q3,q4,q5⟩:=src i ps hp hps
  obtain⟨⟨r0,r0'⟩,r2,us,rs,T',r3,r4,r5,r6⟩:=hi.box _ ps' q1 q2;refine⟨⟨fun hh=>r0 (q3.1 hh),fun hh=>?_⟩,r2,?_⟩
  ·have:=r0' (by rw[hpin i hh];exact hh);rwa[hpin i hh] at this
  rcases q5 with⟨l1,l2,hh⟩|⟨l1,l2,hh⟩|⟨l1,l2,hh⟩
  ·rw[dW l2] at r3
   obtain⟨v1,v2,e,hv⟩:=hh.all r4;refine⟨v1,v2++rs,T',by rw[dW l1,←List.append_assoc,←e];exact r3,hv,fun hg=>?_,cZ l1 _ _ _⟩
   rw[←List.append_assoc,←e,(q4 hg).2];exact r5 (q4 hg).1
  ·obtain⟨vs,k1,k2,k3⟩:=hh.all r4 (r6 l2)
   have e1:tI (ρ i) β us=us.map (tr β):=by unfold tI;rw[l2];rfl
   have e2:tI i (fun i=>β (ρ i)) vs=vs.map (tr fun i=>β (ρ i)):=by unfold tI;rw[l1];rfl
   have e3:=congrArg List.length k1;simp only[List.length_map] at e3;exact⟨vs,rs,T',by rw[e2,←k1,←e1];exact r3,k2,fun hg=>by rw[(q4 hg).2,←r5 (q4 hg).1];simp[e3],fun _=>k3⟩
  ·rw[dW l2] at r3
   obtain⟨k1,k2,k3⟩:=hh.all (β:=fun i=>β (ρ i)) (t:=τ.bx) r4;have e2:tI i (fun i=>β (ρ i)) us=us.map (tr fun i=>β (ρ i)):=by unfold tI;rw[l1];rfl
   exact⟨us,rs,T',by rw[e2,←k1];exact r3,k2,fun hg=>by rw[(q4 hg).2];exact r5 (q4 hg).1,fun _=>k3⟩
 ·obtain⟨ps',q1,q2,_⟩:=src i ps hp hps
  obtain⟨qs',k1,k2,_⟩:=src j qs hq hqs;exact hinj i j ps qs hp hps hq hqs (hi.inj _ _ _ _ q1 q2 k1 k2 e)
 ·obtain⟨sd',q1,q2⟩:=hs t sd ht
  obtain⟨v,r1,r2,_⟩:=hsl.slot t sd' q1;obtain⟨g1,g2⟩:=q2.ok r2;exact⟨v,r1,g1,g2⟩
end
end Go.Proofs.YtfmjdlogjmofbaaGreatDoor

/- The reference's Legal at legal constituents. -/
import Derived.Test.YtfmjdlogjmofbaaGreatDoorJ
import Derived.Test.YtfmjdlogjmofbaaGreatDoorTw
import Derived.Test.YtfmjdlogjmofbaaGreatDoorK
import Derived.Test.YtfmjdlogjmofbaaGreatDoorTh
import Derived.Test.YtfmjdlogjmofbaaGreatDoorGm
import Derived.Test.YtfmjdlogjmofbaaGreatDoorHg
import Derived.Test.YtfmjdlogjmofbaaGreatDoorV
import Derived.Test.YtfmjdlogjmofbaaGreatDoorW
set_option maxHeartbeats 4000000
set_option maxRecDepth 3000
namespace Go.Proofs.YtfmjdlogjmofbaaGreatDoor
section
open Go.RowKit Limb
section
variable(En:Ev)
theorem lZy(c:Co)(h:bR c):Fn PZ En 178 [cD (coc c)] (ex (.bool (decide (bR c)))):=by
 rw[decide_eq_true h];obtain⟨e,d,s,o,y⟩:=c;obtain⟨h1,h2,h3,h4,h5,h6,h7,h8⟩:=h;dsimp only at h1 h2 h3 h4 h5 h6 h7 h8;unfold coc;dsimp only;refine aA Tryz.func178 rfl Tryz.ntmps178 rfl ?_;intro w0 h0;refine vS<|vB jj<|vZ jj ?_;refine WpD.cut (α:=Unit) (fun _=>⟨[(1,.ptr 1 0)],[(1,[i6 e,i6 d,i6 s,ex (.bool o),i6 y])]⟩) ?_ ?_
 ·by_cases s1:s=1
  ·refine kR ?_
   refine vX jj<|vLf jj<|jm jj<|vY jj<|uGf jj<|vQ jj<|jm jj<|vY jj<|uLf jj<|vQ jj<|jm jj<|vY jj<|uGf jj<|vQ jj<|jm jj<|vY jj<|uNf jj<|jgm jj<|jk<|jk<|jk<|jg (bZ jj jj)<|vQ jj<|jm jj<|vY jj<|uLf jj<|vQ jj<|jm jj<|vY jj<|uGf jj<|vQ jj<|jn<|jf jj<|jp ?_;refine⟨(),?_⟩;exact Sub.mk sJ sJ
  ·have s2:s= -1:=oM
   refine kR ?_;refine vX jj<|vLf jj<|jm jj<|vY jj<|uGf jj<|vQ jj<|jm jj<|vY jj<|uLf jj<|vQ jj<|jm jj<|vY jj<|uGf jj<|vQ jj<|jm jj<|vY jj<|uNt jj<|jgm jj<|vY jj<|uNf jj<|jg (dE jj jj)<|vQ jj<|jm jj<|vY jj<|uLf jj<|vQ jj<|jm jj<|vY jj<|uGf jj<|vQ jj<|jn<|jf jj<|jp ?_;refine⟨(),?_⟩;exact Sub.mk sJ sJ
 rintro⟨⟩;have wm:d.tmod 2=d%2:=Int.tmod_eq_emod_of_nonneg oM;have w1:IntKind.i64.wrap (y-d)=y-d:=w64 oM oM;cases o with
 |false=>
  rw[if_neg aD] at h8;refine kR ?_;refine vX jj<|jS (bNo jj)<|jn<|jt jj<|vS<|vX jj<|jS (bRe jj jj wm)<|vEt jj<|jm jj<|vY jj<|uEt jj<|vq jj<|vZ jj<|ji ?_;exact rtT rfl jj
 |true=>
  rw[if_pos rfl] at h8;obtain⟨g1,g2,g3,g4,g5⟩:=h8;have t5:(y-d).tmod 2=0:=Int.tmod_eq_zero_of_dvd (Int.dvd_of_emod_eq_zero g1)
  by_cases d1:d=1
  ·by_cases s1:s=1
   ·by_cases y1:y=1
    ·refine kR ?_
     refine vX jj<|jS (bNo jj)<|jn<|jf jj<|jp<|js<|jb<|vS<|vX jj<|vX jj<|vSu jj w1<|jS (aY jj jj (fun w=>cR w _ _ _ _ _ _ aW))<|vNf jj<|vZ jj<|jf jj<|vS<|vX jj<|vEt jj<|jm jj<|vY jj<|uEt jj<|vq jj<|vZ jj<|jt jj<|vS<|vX jj<|vEt jj<|jm jj<|jk<|jk<|jk<|vq jj<|vZ jj ?_;refine ji ?_;exact rtT rfl jj
    ·have y7:y=7:=by have:=g2 ⟨d1,s1⟩;omega
     refine kR ?_;refine vX jj<|jS (bNo jj)<|jn<|jf jj<|jp<|js<|jb<|vS<|vX jj<|vX jj<|vSu jj w1<|jS (aY jj jj (fun w=>cR w _ _ _ _ _ _ aW))<|vNf jj<|vZ jj<|jf jj<|vS<|vX jj<|vEt jj<|jm jj<|vY jj<|uEt jj<|vq jj<|vZ jj<|jt jj<|vS<|vX jj<|vEf jj<|jm jj<|vY jj<|uEt jj<|vQ jj<|vZ jj ?_;refine ji ?_;exact rtT rfl jj
   ·by_cases y1:y=3
    ·refine kR ?_
     refine vX jj<|jS (bNo jj)<|jn<|jf jj<|jp<|js<|jb<|vS<|vX jj<|vX jj<|vSu jj w1<|jS (aY jj jj (fun w=>cR w _ _ _ _ _ _ aW))<|vNf jj<|vZ jj<|jf jj<|vS<|vX jj<|vEt jj<|jm jj<|vY jj<|uEf jj<|vq jj<|vZ jj<|jf jj<|vS<|vX jj<|vEt jj<|vZ jj ?_;refine jt jj<|vS<|vX jj<|vEt jj<|jm jj<|jk<|jk<|jk<|vq jj<|vZ jj<|ji ?_;exact rtT rfl jj
    ·have y7:y=5:=by have:=g3 ⟨d1,oM⟩;omega
     refine kR ?_;refine vX jj<|jS (bNo jj)<|jn<|jf jj<|jp<|js<|jb<|vS<|vX jj<|vX jj<|vSu jj w1<|jS (aY jj jj (fun w=>cR w _ _ _ _ _ _ aW))<|vNf jj<|vZ jj<|jf jj<|vS<|vX jj<|vEt jj<|jm jj<|vY jj<|uEf jj<|vq jj<|vZ jj<|jf jj<|vS<|vX jj<|vEt jj<|vZ jj ?_;refine jt jj<|vS<|vX jj<|vEf jj<|jm jj<|vY jj<|uEt jj<|vQ jj<|vZ jj<|ji ?_;exact rtT rfl jj
  by_cases d2:d=2
  ·by_cases s1:s=1
   ·have y4:=g4 ⟨d2,s1⟩
    refine kR ?_;refine vX jj<|jS (bNo jj)<|jn<|jf jj<|jp<|js<|jb<|vS<|vX jj<|vX jj<|vSu jj w1<|jS (aY jj jj (fun w=>cR w _ _ _ _ _ _ aW))<|vNf jj<|vZ jj<|jf jj<|vS<|vX jj<|vEf jj<|jm jj<|jk<|jk<|jk<|vQ jj<|vZ jj<|jf jj<|vS<|vX jj<|vEf jj<|vZ jj ?_;refine jf jj<|vS<|vX jj<|vEt jj<|jm jj<|vY jj<|uEt jj<|vq jj<|vZ jj<|jt jj<|vS<|vX jj<|vNt jj<|vZ jj<|ji ?_;exact rtT rfl jj
   ·have y4:=g5 ⟨d2,oM⟩
    refine kR ?_;refine vX jj<|jS (bNo jj)<|jn<|jf jj<|jp<|js<|jb<|vS<|vX jj<|vX jj<|vSu jj w1<|jS (aY jj jj (fun w=>cR w _ _ _ _ _ _ aW))<|vNf jj<|vZ jj<|jf jj<|vS<|vX jj<|vEf jj<|jm jj<|jk<|jk<|jk<|vQ jj<|vZ jj<|jf jj<|vS<|vX jj<|vEf jj<|vZ jj ?_;refine jf jj<|vS<|vX jj<|vEt jj<|jm jj<|vY jj<|uEf jj<|vq jj<|vZ jj<|jf jj<|vS<|vX jj<|vEt jj<|vZ jj<|jt jj<|vS<|vX jj<|vNt jj<|vZ jj<|ji ?_;exact rtT rfl jj
  ·refine kR ?_
   refine vX jj<|jS (bNo jj)<|jn<|jf jj<|jp<|js<|jb<|vS<|vX jj<|vX jj<|vSu jj w1<|jS (aY jj jj (fun w=>cR w _ _ _ _ _ _ aW))<|vNf jj<|vZ jj<|jf jj<|vS<|vX jj<|vEf jj<|jm jj<|jk<|jk<|jk<|vQ jj<|vZ jj<|jf jj<|vS<|vX jj<|vEf jj<|vZ jj ?_;refine jf jj<|vS<|vX jj<|vEf jj<|jm jj<|jk<|jk<|jk<|vQ jj<|vZ jj<|jf jj<|vS<|vX jj<|vEf jj<|vZ jj<|jf jj<|jp<|vS<|vZ jj<|ji ?_;exact rtT rfl jj
end
end
section
open Go.RowKit Limb Num
instance kb145:CBody PZ 145:=cB Tryz.func145
instance kb178:CBody PZ 178:=cB Tryz.func178
def lgU(f:Nat→Co):Nat→Prop
 |0=>True
 |i+1=>lgU f i∧bR (f i)
instance lZO(f:Nat→Co):∀n,Decidable (lgU f n)
 |0=> .isTrue trivial
 |n+1=>by unfold lgU;have:=lZO f n;infer_instance
theorem yX{f:Nat→Co}:∀{n i:Nat},i≤n→lgU f n→lgU f i
 |0,i,h,hs=>by rw[show i=0 by omega];exact hs
 |n+1,i,h,hs=>by
  by_cases e:i=n+1
  ·rw[e];exact hs
  ·exact yX oM hs.1
theorem eZY{f:Nat→Co}:∀{n:Nat},lgU f n→sgU f n
 |0,_=>trivial
 |_+1,⟨h1,h2⟩=>⟨eZY h1,h2.2.2.2.2.1⟩
def nW(p:Int)(f:Nat→Co)(n:Nat):Prop:=shP p f n∧lgU f n
instance(p:Int)(f:Nat→Co)(n:Nat):Decidable (nW p f n):=by unfold nW;infer_instance
section
variable(En:Ev)
theorem iZw(p:Int)(f:Nat→Co)(n:Nat)(hn:n≤1000)(hT:nW p f n):Fn PZ En 145 [cO p f n] (ex (.bool (decide (nW p f n)))):=by
 have C0:=lZw En f n hn ⟨hT.1.2.1,hT.1.2.2,eZY hT.2⟩;have key:∀i,i<n→¬lgU f (i+1)→¬nW p f n:=fun i hi h h'=>h (yX oM h'.2);unfold cO at*
 by_cases hp:p=2
 ·by_cases ho:aZj f n
  ·rw[decide_eq_true ho] at C0
   have fin:lgU f n→nW p f n:=fun h=>⟨⟨hp,ho.1,ho.2.1⟩,h⟩;refine aA Tryz.func145 rfl Tryz.ntmps145 rfl ?_;intro w0 h0;refine vS<|vB jj<|vZ jj<|js<|vS<|vX jj<|vNf jj<|jm jj<|vY jj<|jg (aQ C0 ⟨jj,trivial⟩)<|jg (bNo jj)<|vQ jj<|jn<|jf jj<|jp<|js<|vS<|vX jj<|jE jj<|jm jj<|jn<|jb ?_;refine WpD.loop (α:={i:Nat//i≤n∧lgU f i}) (fun i=>⟨[(15,.one (slc 5 (rows (ccs f) n) n)),(16,.one (i6 n)),(17,.one (i6 i.1))],[]⟩) (fun i=>n-i.1) ⟨0,Nat.zero_le _,trivial⟩ ?_ ?_
   ·exact Sub.mk sJ sJ
   rintro⟨i,hi,hs⟩;dsimp only at hi hs ⊢
   by_cases hlt:i<n
   ·have hq:((rows (ccs f) n).drop (i*5)).take 5=coc (f i):=bE (bC f) hlt
    have w1:=wS i oM;have L1:=lZy En (f i) (yX (n:=n) (i:=i+1) oM hT.2).2
    by_cases hL:bR (f i)
    ·rw[decide_eq_true hL] at L1
     refine vS<|vLt jj<|vW jj<|vS<|vD jj hlt hq<|vR jj<|vA jj<|vP jj<|vJ<|vL jj<|vC L1 ⟨jj,trivial⟩<|jS (bNo jj)<|jn<|jf jj<|jp<|jr<|vAd jj w1<|jm jj<|jn ?_;refine⟨⟨i+1,oM,hs,hL⟩,?_,oD⟩;exact Sub.mk sJ sJ
    ·rw[decide_eq_false hL] at L1
     exact absurd hT (key i hlt fun h=>hL h.2)
   ·have hin:i=n:=oM
    subst hin;rw[decide_eq_true (fin hs)];refine vS<|vLf jj<|vU jj<|vS<|vZ jj<|ji ?_;exact rtT rfl jj
  ·rw[decide_eq_false ho] at C0
   exact absurd hT (fun h:nW p f n=>ho ⟨h.1.2.1,h.1.2.2,eZY h.2⟩)
 ·exact absurd hT (fun h:nW p f n=>hp h.1.1)
theorem kZS(p:Int)(f:Nat→Co)(n:Nat)(hn:n≤1000)(hS:shP p f n):Fn PZ En 127 [cO p f n] (ex (.bool (decide (nW p f n)))):=by
 have C0:=cZH En p f n hn hS;have key:∀i,i<n→¬lgU f (i+1)→¬nW p f n:=fun i hi h h'=>h (yX oM h'.2);unfold cO at*
 by_cases hsh:shP p f n
 ·rw[decide_eq_true hsh] at C0
  have fin:lgU f n→nW p f n:=fun h=>⟨hsh,h⟩;refine aA Tryz.func127 rfl Tryz.ntmps127 rfl ?_;intro w0 h0;refine vS<|vB jj<|vZ jj<|js<|vS<|vL jj<|vC C0 ⟨jj,trivial⟩<|jS (bNo jj)<|jn<|jf jj<|jp<|js<|vS<|vX jj<|jE jj<|jm jj<|jn<|jb ?_;refine WpD.loop (α:={i:Nat//i≤n∧lgU f i}) (fun i=>⟨[(9,.one (slc 5 (rows (ccs f) n) n)),(10,.one (i6 n)),(11,.one (i6 i.1))],[]⟩) (fun i=>n-i.1) ⟨0,Nat.zero_le _,trivial⟩ ?_ ?_
  ·exact Sub.mk sJ sJ
  rintro⟨i,hi,hs⟩;dsimp only at hi hs ⊢
  by_cases hlt:i<n
  ·have hq:((rows (ccs f) n).drop (i*5)).take 5=coc (f i):=bE (bC f) hlt
   have w1:=wS i oM;have L1:=eZ4 En (f i)
   by_cases hL:bR (f i)
   ·rw[decide_eq_true hL] at L1
    refine vS<|vLt jj<|vW jj<|vS<|vD jj hlt hq<|vR jj<|vA jj<|vP jj<|vJ<|vL jj<|vC L1 ⟨jj,trivial⟩<|jS (bNo jj)<|jn<|jf jj<|jp<|jr<|vAd jj w1<|jm jj<|jn ?_;refine⟨⟨i+1,oM,hs,hL⟩,?_,oD⟩;exact Sub.mk sJ sJ
   ·rw[decide_eq_false hL] at L1
    rw[decide_eq_false (key i hlt fun h=>hL h.2)];refine vS<|vLt jj<|vW jj<|vS<|vD jj hlt hq<|vR jj<|vA jj<|vP jj<|vJ<|vL jj<|vC L1 ⟨jj,trivial⟩<|jS (bNo jj)<|jn<|jt jj<|vS<|vZ jj<|ji ?_;exact rtT rfl jj
  ·have hin:i=n:=oM
   subst hin;rw[decide_eq_true (fin hs)];refine vS<|vLf jj<|vU jj<|vS<|vZ jj<|ji ?_;exact rtT rfl jj
 ·exact absurd hS hsh
end
end
section
open Go.RowKit Limb Num
instance kb146:CBody PZ 146:=cB Tryz.func146
section
variable{P:Program}{En:Ev}{n:Nat}{w0:World}{h0:GH}{c:Cx}
theorem WpD.regL{id:Nat}{full:List Oper}(m:Nat){o:Oper}{es:List Eff}{σ τ:St}{K:Exit→St→Prop}[CMix P](hf:full.drop m=[o])(hc:Chain P En n full.toArray (full.take m) σ es τ)(hok:uA n (full.take m) o es=true)(hk:WpS P En n w0 h0 c full.toArray [m] (K .normal) τ):
  WpD P En n w0 h0 c (.region id full.toArray true) K σ:=by
 have e:full=full.take m++[o]:=by rw[←hf,List.take_append_drop]
 have hl:(full.take m).length=m:=by
  have h1:=congrArg List.length hf;have h2:=congrArg List.length e;simp at h1 h2 ⊢;omega
 generalize hl':full.take m=l at*;subst e;subst hl;exact WpD.regionL hc hok hk
end
theorem gD{bx:Bx}{d o b blk:Nat}(h1:aB bx d≠none)(h2:aB bx b≠none):(SD.gen (plB d o b blk)).live bx:=by
 intro x hx;have hx:x∈[d,b]:=hx;simp only[List.mem_cons,List.not_mem_nil,or_false] at hx;rcases hx with rfl|rfl
 ·exact h1
 ·exact h2
section
variable(En:Ev)
theorem fZO(p:Int)(f:Nat→Co)(n:Nat)(hn0:0<n)(hn:n≤20):FnG PZ En 146 ([cO p f n].map .one) [] (.gen (stB (i6 p) 7 n)) [(7,rows (ccs f) n)]:=by
 have hm:n≤1000000000:=oM;unfold cO;refine bL Tryz.func146 rfl Tryz.ntmps146 rfl ?_;intro w0 h0 c;refine kR ?_;refine vB jj<|vA jj<|jn ?_;refine kO ?_;refine WpD.regL 6 rfl (Chain.cons (LT.plain rfl (lL rfl rfl)) (Chain.cons (LT.plain rfl (aX rfl rfl rfl)) (Chain.cons (LT.plain rfl (lL rfl rfl)) (Chain.cons (LT.plain rfl (aX rfl rfl rfl)) (Chain.cons (LT.plain rfl (xV rfl (fun _ _ h=>⟨none,h⟩) rfl hn0 hm rfl rfl rfl)) (Chain.cons (LT.plain rfl (iZ9 rfl rfl rfl)) (Chain.nil _))))))) (by kernel_rfl) ?_
 refine WpS.openSt (t:=8) (q:=3) rfl rfl hn0 fun blk cap hc=>?_;refine WpS.N rfl (mU rfl rfl rfl rfl rfl rfl) rfl ?_;refine WpS.nil ?_;refine kO ?_;refine WpD.ret ?_;exact oZ7 rfl rfl rfl (q:=3) rfl hn0 hc ⟨.inl pQ,trivial⟩ (hl:=oN)
end
end
section
open Go.RowKit Limb Num
def zU(f:Nat→Co):Nat→Prop
 |0=>True
 |i+1=>zU f i∧(f i).o=false∧(f i).y=0
instance oZh(f:Nat→Co):∀n,Decidable (zU f n)
 |0=> .isTrue trivial
 |n+1=>by unfold zU;have:=oZh f n;infer_instance
def hZe(p:Int)(f:Nat→Co)(n:Nat):Prop:=smP p=true∧p≠2∧aZj f n∧zU f n
instance(p:Int)(f:Nat→Co)(n:Nat):Decidable (hZe p f n):=by unfold hZe;infer_instance
section
variable(En:Ev)
end
end
section
open Go.RowKit Limb Num
def cfB(f:Nat→Co)(n:Nat):Bool:=decide (FEs f (aL f n))
theorem gZ9{f:Nat→Co}{n:Nat}:cfB f n=true↔FEs f (aL f n):=by unfold cfB;exact decide_eq_true_iff
def hZB(p:Int)(f:Nat→Co)(n:Nat):Prop:=lD p f n∧fiP f (chn f n)∧cfB f n=true
instance(p:Int)(f:Nat→Co)(n:Nat):Decidable (hZB p f n):=by unfold hZB;infer_instance
def wJ(p:Int)(f:Nat→Co)(n:Nat):Prop:=hZe p f n∨nW p f n∨hZB p f n
instance(p:Int)(f:Nat→Co)(n:Nat):Decidable (wJ p f n):=by unfold wJ;infer_instance
section
variable(En:Ev)
end
end
section
open Go.RowKit Limb Num
instance kb98:CBody PZ 98:=cB Tryz.func98
instance kb100:CBody PZ 100:=cB Tryz.func100
instance kb41:CBody PZ 41:=cB Tryz.func41
def fzy(f:Nat→Co)(n i:Nat):Int:=if(cof (aL f n) i).getD 0 0=i then ysm f (cof (aL f n) i) (cof (aL f n) i).length%8 else 0
def fzk(f:Nat→Co)(n k:Nat):Nat→Co:=fun i=>if i∈((aL f n).take k).flatten then wy (f i) (fzy f n i) else f i
def fzf(f:Nat→Co)(n:Nat):Nat→Co:=fun i=>if i∈(aL f n).flatten then wy (f i) (fzy f n i) else f i
theorem mZf(f:Nat→Co)(n:Nat):fzk f n (aL f n).length=fzf f n:=by unfold fzk fzf;rw[List.take_length]
theorem jZF(f:Nat→Co)(n:Nat):fzk f n 0=f:=by unfold fzk;simp
def fzj(f:Nat→Co)(n k:Nat)(l:List Nat)(j:Nat):Nat→Co:=fun i=>if i∈l.take j then wy (f i) 0 else fzk f n k i
theorem oZk(f:Nat→Co)(n k i:Nat)(t:Int):wy (fzk f n k i) t=wy (f i) t:=by unfold fzk;split<;>rfl
theorem jZH(f:Nat→Co)(n k:Nat)(l:List Nat):fzj f n k l 0=fzk f n k:=by unfold fzj;simp
theorem jZI{f:Nat→Co}{n k:Nat}{l:List Nat}{j:Nat}(hj:j<l.length):(fun i=>if i=l.getD j 0 then wy (fzj f n k l j (l.getD j 0)) 0 else fzj f n k l j i)=fzj f n k l (j+1):=by
 funext i
 have e:l.take (j+1)=l.take j++[l.getD j 0]:=by rw[List.take_succ_eq_append_getElem hj];simp[List.getD,List.getElem?_eq_getElem hj]
 by_cases h:i=l.getD j 0
 ·rw[if_pos h,←h]
  have:i∈l.take (j+1):=by rw[e,←h];simp
  unfold fzj;rw[if_pos this];split
  ·rfl
  ·exact oZk f n k i 0
 ·rw[if_neg h]
  unfold fzj;have:i∈l.take (j+1)↔i∈l.take j:=by
   rw[e,List.mem_append,List.mem_singleton];exact⟨fun q=>q.elim id (fun q=>absurd q h),.inl⟩
  by_cases h2:i∈l.take j
  ·rw[if_pos h2,if_pos (this.2 h2)]
  ·rw[if_neg h2,if_neg (fun h3=>h2 (this.1 h3))]
theorem jZG{f:Nat→Co}{n k:Nat}(hk:k<(aL f n).length):(fun i=>if i=((aL f n).getD k []).getD 0 0 then wy (fzj f n k ((aL f n).getD k []) ((aL f n).getD k []).length (((aL f n).getD k []).getD 0 0)) (ysm f ((aL f n).getD k []) ((aL f n).getD k []).length%8) else fzj f n k ((aL f n).getD k []) ((aL f n).getD k []).length i)=fzk f n (k+1):=by
 have hmem:=mC [] hk;have hts:(aL f n).take (k+1)=(aL f n).take k++[(aL f n).getD k []]:=by rw[List.take_succ_eq_append_getElem hk];simp[List.getD,List.getElem?_eq_getElem hk]
 have hco:=fun i=>uS (gQ f n) hmem (i:=i);have hnn:=oE _ hmem;have hno:=fun x=>eZh (gQ f n) hk (x:=x)
 funext i
 have hin:i∈((aL f n).take (k+1)).flatten↔i∈((aL f n).take k).flatten∨i∈(aL f n).getD k []:=by rw[hts,List.flatten_append];simp
 generalize(aL f n).getD k []=l at*;have hl0:0<l.length:=List.length_pos_iff.2 hnn;have hm0:=mC 0 hl0;have hfz:∀i∈l,fzy f n i=if l.getD 0 0=i then ysm f l l.length%8 else 0:=fun i hi=>by unfold fzy;rw[hco i hi]
 unfold fzj;rw[List.take_length]
 by_cases h:i=l.getD 0 0
 ·rw[if_pos h,←h]
  rw[←h] at hm0;rw[if_pos hm0];unfold fzk;rw[if_pos (hin.2 (.inr hm0)),hfz i hm0,if_pos h.symm];rfl
 ·rw[if_neg h]
  by_cases h2:i∈l
  ·rw[if_pos h2]
   unfold fzk;rw[if_pos (hin.2 (.inr h2)),hfz i h2,if_neg (fun e=>h e.symm)]
  ·rw[if_neg h2]
   unfold fzk
   by_cases h3:i∈((aL f n).take k).flatten
   ·rw[if_pos h3,if_pos (hin.2 (.inl h3))]
   ·rw[if_neg h3,if_neg (fun h4=>(hin.1 h4).elim h3 h2)]
theorem pY{f:Nat→Co}{n i:Nat}(h:lgU f n)(hi:i<n):bR (f i):=(yX (i:=i+1) oM h).2
section
variable(En:Ev)
theorem rfuse(p:Int)(f:Nat→Co)(n:Nat)(hn:n≤20)(hraw:nW p f n):Fn PZ En 98 [cO p f n] (dK [cO p (fzf f n) n,ex (.bool true)]):=by
 have C0:=iZw En p f n oM hraw;rw[decide_eq_true hraw] at C0;have hsU:=hraw.1.2.2;have hn0:0<n:=Nat.pos_of_ne_zero hraw.1.2.1;have H:Shp f n:=⟨hn,fun k hk=>(dX hsU hk).1,fun k hk=>(dX hsU hk).2.1⟩;have hy:∀i,i<n→0≤(f i).y∧(f i).y≤7:=fun i hi=>by have:=pY hraw.2 hi;unfold bR at this;omega
 have C1:=fZO En p f n hn0 hn;have C2:=iZ7 En f n H;have hGi:∀g∈aL f n,g.length≤20:=fun g hg=>Nat.le_trans (mK g hg) hn;have hGt:∀g∈aL f n,∀k∈g,k<n:=fun g hg=>lM g hg;have hGn:∀g∈aL f n,g≠[]:=oE;have hl:(aL f n).length≤20:=Nat.le_trans (kU _ _ _).1 hn;have CT:=fun g (hg:g∈aL f n)=>iZ2 En f n g (hGi g hg) (hGt g hg) hy;have hz0:=jZF f n;have hzn:=mZf f n;have hzs:=fun k=>jZG (f:=f) (n:=n) (k:=k);unfold cO iA at*;generalize aL f n=G at*;refine aA Tryz.func98 rfl Tryz.ntmps98 rfl ?_;intro w0 h0;refine vS<|vB jj<|vA jj<|vZ jj<|js<|vS<|vL jj<|vC C0 ⟨jj,trivial⟩<|jS (bNo jj)<|jn<|jf jj<|jp<|js ?_;refine kO ?_;refine WpD.seqR ?_;refine WpS.S rfl rfl (dM rfl rfl rfl rfl) rfl ?_;refine WpS.S rfl rfl (aZy C1 rfl ⟨rfl,trivial⟩ rfl rfl) rfl ?_;refine WpS.openSt (t:=14) (q:=5) rfl rfl hn0 fun blk cap hc=>?_;refine WpS.S rfl rfl (xW rfl rfl rfl) rfl ?_;refine WpS.N rfl (mU rfl rfl rfl rfl rfl rfl) rfl ?_;refine WpS.sub (Sub.mkPl (t:=4) (q:=5) rfl rfl) ?_;refine WpS.nil ?_;skip
 refine kR ?_;refine vX jj<|vC C2 ⟨jj,trivial⟩<|jE jj<|jm jj<|jn<|jb ?_;refine WpD.loop (α:={k:Nat//k≤G.length}) (fun k=>⟨[(1,.ptr 1 0),(2,.ptr 2 0),(4,.gen (plB 4 0 14 blk)),(5,.pin 14 blk),(17,.one (slc 1 (G.map gP) G.length)),(18,.one (i6 G.length)),(19,.one (i6 k.1))],[(1,[i6 p,slc 5 (rows (ccs f) n) n]),(2,[i6 0,ex (.slice none 0 0)]),(4,[i6 p,ex (gvl blk n cap)]),(14,rows (ccs (fzk f n k.1)) n)]⟩) (fun k=>G.length-k.1) ⟨0,Nat.zero_le _⟩ ?_ ?_
 ·dsimp only
  rw[hz0];refine Sub.mk ?_ ?_<;>repeat(first|exact trivial|refine jV jj ?_|refine jy jj ?_|refine jw jj (js0 jj) ?_|refine jw jj (gD (js0 jj) (js0 jj)) ?_)
 rintro⟨k,hk⟩;dsimp only at hk ⊢
 by_cases hlt:k<G.length
 ·have hqG:=rD hlt
  have w1:=wS k oM;have hmem:=mC [] hlt;have hzs:=hzs k hlt;have n1:=hGi _ hmem;have n2:=hGt _ hmem;have n3:=hGn _ hmem;have CT:=CT _ hmem;generalize G.getD k []=l at*;unfold gP at hqG CT;refine vS<|vLt jj<|vW jj<|vS<|vD jj hlt hqG<|vT jj<|vZ jj<|js<|vS<|jm jj<|jE jj<|jm jj<|jn<|jb ?_;refine WpD.loop (α:={j:Nat//j≤l.length}) (fun j=>⟨[(1,.ptr 1 0),(2,.ptr 2 0),(4,.gen (plB 4 0 14 blk)),(5,.pin 14 blk),(6,.one (slc 1 (ixP l) l.length)),(17,.one (slc 1 (G.map gP) G.length)),(18,.one (i6 G.length)),(19,.one (i6 k)),(23,.one (slc 1 (ixP l) l.length)),(24,.one (i6 l.length)),(25,.one (i6 j.1))],[(1,[i6 p,slc 5 (rows (ccs f) n) n]),(2,[i6 0,ex (.slice none 0 0)]),(4,[i6 p,ex (gvl blk n cap)]),(14,rows (ccs (fzj f n k l j.1)) n)]⟩) (fun j=>l.length-j.1) ⟨0,Nat.zero_le _⟩ ?_ ?_
  ·dsimp only
   rw[jZH];refine Sub.mk ?_ ?_<;>repeat(first|exact trivial|refine jV jj ?_|refine jy jj ?_|refine jw jj (js0 jj) ?_|refine jw jj (gD (js0 jj) (js0 jj)) ?_)
  rintro⟨j,hj⟩;dsimp only at hj ⊢
  by_cases hlj:j<l.length
  ·have hqi:=iG hlj
   have hmi:=mC 0 hlj;have hx:=n2 _ hmi;have hset:=mV (g:=fzj f n k l j) hx 0;rw[jZI hlj] at hset;have hlen:(rows (ccs (fzj f n k l j)) n).length=n*5:=fA (bC _) n;have hsl:l.getD j 0*5+4<(rows (ccs (fzj f n k l j)) n).length:=by rw[hlen];omega
   have w34:=wS j oM;generalize l.getD j 0=x at*;refine vS<|vLt jj<|vW jj<|vS<|vD jj hlj hqi<|vT jj<|vZ jj<|jr<|jS (fZ jj jj)<|jS (iS jj jj jj hn0 hc)<|jm jj<|jS (cL jj jj hx (o':=x*5) oM)<|vF jj<|jO (bX jj jj jj hsl hset)<|jn<|jr<|vAd jj w34<|jm jj<|jn ?_;refine⟨⟨j+1,oM⟩,?_,oD⟩;dsimp only;refine Sub.mk ?_ ?_<;>repeat(first|exact trivial|refine jV jj ?_|refine jy jj ?_|refine jw jj (js0 jj) ?_|refine jw jj (gD (js0 jj) (js0 jj)) ?_)
  ·have hjl:j=l.length:=oM
   subst hjl;have hl0:0<l.length:=List.length_pos_iff.2 n3;have hq0:=iG hl0;have hm0:=mC 0 hl0;have hx:=n2 _ hm0;have hset:=mV (g:=fzj f n k l l.length) hx (ysm f l l.length%8);rw[hzs] at hset;have hlen:(rows (ccs (fzj f n k l l.length)) n).length=n*5:=fA (bC _) n;have hsl:l.getD 0 0*5+4<(rows (ccs (fzj f n k l l.length)) n).length:=by rw[hlen];omega
   generalize l.getD 0 0=x at*;refine vS<|vLf jj<|vU jj<|jr<|jS (fZ jj jj)<|jS (iS jj jj jj hn0 hc)<|jm jj<|jS (aK (i:=0) jj jj hl0 hq0)<|vT jj<|vX jj<|jm jj<|vC CT ⟨jj,jj,trivial⟩<|jS (cL jj jj hx (o':=x*5) oM)<|vF jj<|jO (bX jj jj jj hsl hset)<|jn<|jr<|vAd jj w1<|jm jj<|jn ?_;refine⟨⟨k+1,oM⟩,?_,oD⟩;dsimp only;refine Sub.mk ?_ ?_<;>repeat(first|exact trivial|refine jV jj ?_|refine jy jj ?_|refine jw jj (js0 jj) ?_|refine jw jj (gD (js0 jj) (js0 jj)) ?_)
 ·have hkG:k=G.length:=oM
  subst hkG;rw[hzn];refine vS<|vLf jj<|jn<|js<|jf jj<|je ?_;refine WpD.sub (Sub.unPl (t:=4) rfl) ?_;refine WpD.sub (τ:=⟨[(2,.ptr 2 0),(4,.ptr 4 0)],[(4,[i6 p,slc 5 (rows (ccs (fzf f n)) n) n]),(2,[i6 0,ex (.slice none 0 0)])]⟩) ?_ ?_
  ·exact Sub.trans (Sub.pubCell (bx0:=[(4,[i6 p,ex (gvl blk n cap)]),(2,[i6 0,ex (.slice none 0 0)])]) (sl:=[(2,.ptr 2 0),(4,.ptr 4 0)]) (b:=14) (d:=4) (p:=5) (k:=5) rfl rfl (fA (bC _) n) rfl rfl hn0 hc.1 hc.2 ⟨.inl pQ,.inl pQ,trivial⟩ rfl (h1:=⟨⟨_,rfl,rfl⟩,oN,⟨_,rfl,rfl⟩,oN,trivial⟩)) (Sub.mk (by repeat(first|exact trivial|refine jv rfl ?_|refine jw rfl (js0 rfl) ?_)) (by repeat(first|exact trivial|refine jz ?_|refine jy rfl ?_)))
  refine kR ?_;refine vL jj<|vP jj<|vZ jj<|ji ?_;exact rtD rfl jj jj jj
end
end
section
open Go.RowKit Limb Num
def ws(c:Co)(t:Int):Co:=⟨c.e,c.d,t,c.o,c.y⟩
theorem aZ3{g:Nat→Co}{n x:Nat}(h:x<n)(v:Int):(rows (ccs g) n).set (x*5+2) (i6 v)=rows (ccs (fun i=>if i=x then ws (g x) v else g i)) n:=by
 obtain⟨Lo,Hi,h1,h2,h3⟩:=qT (bC g) h;rw[h3 (ccs (fun i=>if i=x then ws (g x) v else g i)) (fun t ht=>by unfold ccs;dsimp only;rw[if_neg ht]),h2]
 unfold ccs;dsimp only;rw[if_pos rfl,List.set_append_right _ _ oM,h1,show x*5+2-x*5=2 by omega,List.set_append_left _ _ (by simp[coc])]
 rfl
theorem yA{g:Nat→Co}{n x:Nat}(h:x<n):(rows (ccs g) n)[x*5+2]? =some (ex (.int .i64 (g x).s)):=by
 have h5:((rows (ccs g) n).drop (x*5)).take 5=coc (g x):=bE (bC g) h;have h6:(((rows (ccs g) n).drop (x*5)).take 5)[2]? =some (ex (.int .i64 (g x).s)):=by rw[h5];rfl
 rwa[List.getElem?_take_of_lt aD,List.getElem?_drop] at h6
theorem xZ{g:Nat→Co}{n x:Nat}(h:x<n):(rows (ccs g) n)[x*5+4]? =some (ex (.int .i64 (g x).y)):=by
 have h5:((rows (ccs g) n).drop (x*5)).take 5=coc (g x):=bE (bC g) h;have h6:(((rows (ccs g) n).drop (x*5)).take 5)[4]? =some (ex (.int .i64 (g x).y)):=by rw[h5];rfl
 rwa[List.getElem?_take_of_lt aD,List.getElem?_drop] at h6
def tus(g:Nat→Co)(x:Nat):Nat→Co:=fun i=>if i=x then ws (g x) (-(g x).s) else g i
def tuy(g:Nat→Co)(x:Nat):Nat→Co:=fun i=>if i=x then wy (g x) (((g x).y+4)%8) else g i
def stp(f:Nat→Co)(n i:Nat):Nat→Co:=
 let g:=tus (tus f i) (i-1)
 let p:=cof (aL f n) (i-1)
 let q:=cof (aL f n) i
 let g1:=if 0<p.length then tuy g (p.getD 0 0) else g
 if 0<q.length∧(p.length=0∨p.getD 0 0≠q.getD 0 0) then tuy g1 (q.getD 0 0) else g1
theorem fZ4(g:Nat→Co)(x i:Nat):(tus g x i).y=(g i).y:=by unfold tus;split<;>(try subst_vars)<;>rfl
theorem cZx{f:Nat→Co}{n i:Nat}:∀k∈cof (aL f n) i,k<n:=fun k hk=>by
 rcases oF (aL f n) i with h|h
 ·rw[h] at hk;cases hk
 ·exact lM _ h k hk
theorem gZ5{f:Nat→Co}{n i:Nat}:(cof (aL f n) i).length≤n:=by
 rcases oF (aL f n) i with h|h
 ·rw[h];exact Nat.zero_le _
 ·exact mK _ h
section
variable(En:Ev)
theorem rstep(p:Int)(f:Nat→Co)(n i:Nat)(H:Shp f n)(hs:∀i,i<n→(f i).s=1∨(f i).s= -1)(hy:∀i,i<n→0≤(f i).y∧(f i).y≤7)(hi:i<n)(h0i:0<i):Fn PZ En 100 [cO p f n,i6 i] (cO p (stp f n i) n):=by
 have hn:=H.n20;have hn0:0<n:=oM;have hi1:i-1<n:=oM;have C1:=fZO En p f n hn0 hn;have CP:=bZ8 En f n (i-1) H;have CQ:=bZ8 En f n i H;have w1:=wM i oM;have l1:=fun g:Nat→Co=>fA (bC g) n;have c2:=yA (g:=f) hi;have s2:=aZ3 (g:=f) hi (-(f i).s);have wn2:IntKind.i64.wrap (-(f i).s)= -(f i).s:=by have:=hs i hi;exact w64 oM oM
 rw[show(fun j=>if j=i then ws (f i) (-(f i).s) else f j)=tus f i from rfl] at s2
 have hsx:(tus f i (i-1)).s=1∨(tus f i (i-1)).s= -1:=by
  unfold tus;rw[if_neg oM];exact hs _ hi1
 have c3:=yA (g:=tus f i) hi1;have s3:=aZ3 (g:=tus f i) hi1 (-(tus f i (i-1)).s);have wn3:IntKind.i64.wrap (-(tus f i (i-1)).s)= -(tus f i (i-1)).s:=by exact w64 oM oM
 rw[show(fun j=>if j=i-1 then ws (tus f i (i-1)) (-(tus f i (i-1)).s) else tus f i j)=tus (tus f i) (i-1) from rfl] at s3
 have hy1:∀x,x<n→0≤(tus (tus f i) (i-1) x).y∧(tus (tus f i) (i-1) x).y≤7:=fun x hx=>by rw[fZ4,fZ4];exact hy x hx
 have hpt:=cZx (f:=f) (n:=n) (i:=i-1);have hqt:=cZx (f:=f) (n:=n) (i:=i);have hpl:=gZ5 (f:=f) (n:=n) (i:=i-1);have hql:=gZ5 (f:=f) (n:=n) (i:=i);have k2:i*5+2<(rows (ccs f) n).length:=by rw[l1];omega
 have k3:(i-1)*5+2<(rows (ccs (tus f i)) n).length:=by rw[l1];omega
 unfold stp;dsimp only;unfold cO gP at*;generalize cof (aL f n) (i-1)=P at*;generalize cof (aL f n) i=Q at*;generalize tus (tus f i) (i-1)=g at*;generalize(tus f i (i-1)).s=sv2 at*;generalize tus f i=g0 at*;refine aA Tryz.func100 rfl Tryz.ntmps100 rfl ?_;intro w0 h0;refine vS<|vB jj<|vA jj<|jn<|js ?_;refine kO ?_;refine WpD.seqR ?_;refine WpS.S rfl rfl (dM rfl rfl rfl rfl) rfl ?_;refine WpS.S rfl rfl (aZy C1 rfl ⟨rfl,trivial⟩ rfl rfl) rfl ?_;refine WpS.openSt (t:=9) (q:=3) rfl rfl hn0 fun blk cap hc=>?_;refine WpS.S rfl rfl (xW rfl rfl rfl) rfl ?_;refine WpS.N rfl (mU rfl rfl rfl rfl rfl rfl) rfl ?_;refine WpS.sub (Sub.mkPl (t:=5) (q:=3) rfl rfl) ?_;refine WpS.nil ?_;skip
 refine kR ?_;refine jS (fZ jj jj)<|jS (iS jj jj jj hn0 hc)<|jm jj<|jS (fZ jj jj)<|jS (iS jj jj jj hn0 hc)<|jm jj<|jS (cL jj jj hi (o':=i*5) oM)<|vF jj<|jS (aX jj jj c2)<|jS (gN jj (fun w=>fO w _ _) (dV wn2))<|jS (cL jj jj hi (o':=i*5) oM)<|vF jj<|jO (bX jj jj jj k2 s2)<|vJ<|jS (fZ jj jj)<|jS (iS jj jj jj hn0 hc)<|jm jj<|vSu jj w1<|jS (fZ jj jj)<|jS (iS jj jj jj hn0 hc)<|jm jj<|vSu jj w1<|jS (cL jj jj hi1 (o':=(i-1)*5) oM)<|vF jj<|jS (aX jj jj c3)<|jS (gN jj (fun w=>fO w _ _) (dV wn3))<|jS (cL jj jj hi1 (o':=(i-1)*5) oM)<|vF jj<|jO (bX jj jj jj k3 s3)<|vJ<|vX jj<|jm jj<|vSu jj w1<|vC CP tB<|vX jj<|jm jj<|vC CQ tB<|ja jj<|vZ jj ?_;refine WpD.cut (α:={h:Nat→Co//h=(if 0<P.length then tuy g (P.getD 0 0) else g)}) (fun h=>⟨[(3,.pin 9 blk),(4,.ptr 4 0),(5,.gen (plB 5 0 9 blk)),(6,.one (slc 1 (ixP P) P.length)),(7,.one (slc 1 (ixP Q) Q.length))],[(4,[i6 0,ex (.slice none 0 0)]),(5,[i6 p,ex (gvl blk n cap)]),(9,rows (ccs h.1) n)]⟩) ?_ ?_
 ·by_cases hP:0<P.length
  ·have hq0:=iG hP
   have hx:=hpt (P.getD 0 0) (by simp[List.getD,List.getElem?_eq_getElem hP])
   have c6:=xZ (g:=g) hx;have hyx:=hy1 _ hx;have k6:P.getD 0 0*5+4<(rows (ccs g) n).length:=by rw[l1];omega
   have s6:=mV (g:=g) hx (((g (P.getD 0 0)).y+4)%8);rw[show(fun j=>if j=P.getD 0 0 then wy (g (P.getD 0 0)) (((g (P.getD 0 0)).y+4)%8) else g j)=tuy g (P.getD 0 0) from rfl] at s6
   have hif:tuy g (P.getD 0 0)=(if 0<P.length then tuy g (P.getD 0 0) else g):=by rw[if_pos hP]
   have w61:IntKind.i64.wrap ((g (P.getD 0 0)).y+4)=(g (P.getD 0 0)).y+4:=w64 oM oM;have w62:((g (P.getD 0 0)).y+4).tmod 8=((g (P.getD 0 0)).y+4)%8:=Int.tmod_eq_emod_of_nonneg oM;generalize P.getD 0 0=x at*;have hP':((P.length:Nat):Int)>0:=oM;refine kR ?_;refine jm jj<|jE jj<|vGt jj<|jn<|jt jj<|jr<|jS (fZ jj jj)<|jS (iS jj jj jj hn0 hc)<|jm jj<|jS (aK (i:=0) jj jj hP hq0)<|vT jj<|jS (fZ jj jj)<|jS (iS jj jj jj hn0 hc)<|jm jj<|jS (aK (i:=0) jj jj hP hq0)<|vT jj<|jS (cL jj jj hx (o':=x*5) oM)<|vF jj<|jS (aX jj jj c6)<|vAd jj w61<|jS (bRe jj jj w62)<|jS (cL jj jj hx (o':=x*5) oM)<|vF jj<|jO (bX jj jj jj k6 s6)<|jn ?_;refine⟨⟨_,hif⟩,?_⟩;dsimp only;refine Sub.mk ?_ ?_<;>repeat(first|exact trivial|refine jV jj ?_|refine jy jj ?_|refine jw jj (js0 jj) ?_|refine jw jj (gD (js0 jj) (js0 jj)) ?_)
  ·have hP':¬((P.length:Nat):Int)>0:=oM
   have hif:g=(if 0<P.length then tuy g (P.getD 0 0) else g):=by rw[if_neg hP]
   refine kR ?_;refine jm jj<|jE jj<|vGf jj<|jn<|jf jj<|jp ?_;refine⟨⟨_,hif⟩,?_⟩;dsimp only;refine Sub.mk ?_ ?_<;>repeat(first|exact trivial|refine jV jj ?_|refine jy jj ?_|refine jw jj (js0 jj) ?_|refine jw jj (gD (js0 jj) (js0 jj)) ?_)
 rintro⟨h,hh⟩;dsimp only;have hyh:∀x,x<n→0≤(h x).y∧(h x).y≤7:=fun x hx=>by
  rw[hh];split
  ·unfold tuy
   split
   ·show 0≤(((g (P.getD 0 0)).y+4)%8)∧(((g (P.getD 0 0)).y+4)%8)≤7
    omega
   ·exact hy1 x hx
  ·exact hy1 x hx
 rw[←hh];refine WpD.cut (α:={h2:Nat→Co//h2=(if 0<Q.length∧(P.length=0∨P.getD 0 0≠Q.getD 0 0) then tuy h (Q.getD 0 0) else h)}) (fun h=>⟨[(3,.pin 9 blk),(4,.ptr 4 0),(5,.gen (plB 5 0 9 blk))],[(4,[i6 0,ex (.slice none 0 0)]),(5,[i6 p,ex (gvl blk n cap)]),(9,rows (ccs h.1) n)]⟩) ?_ ?_
 ·clear hh
  by_cases hQ:0<Q.length
  ·have hq0:=iG hQ
   have hx:=hqt (Q.getD 0 0) (by simp[List.getD,List.getElem?_eq_getElem hQ])
   have c6:=xZ (g:=h) hx;have hyx:=hyh _ hx;have k6:Q.getD 0 0*5+4<(rows (ccs h) n).length:=by rw[l1];omega
   have s6:=mV (g:=h) hx (((h (Q.getD 0 0)).y+4)%8);rw[show(fun j=>if j=Q.getD 0 0 then wy (h (Q.getD 0 0)) (((h (Q.getD 0 0)).y+4)%8) else h j)=tuy h (Q.getD 0 0) from rfl] at s6
   have hif:(P.length=0∨P.getD 0 0≠Q.getD 0 0)→tuy h (Q.getD 0 0)=(if 0<Q.length∧(P.length=0∨P.getD 0 0≠Q.getD 0 0) then tuy h (Q.getD 0 0) else h):=fun hc=>by rw[if_pos ⟨hQ,hc⟩]
   have hif2:¬(P.length=0∨P.getD 0 0≠Q.getD 0 0)→h=(if 0<Q.length∧(P.length=0∨P.getD 0 0≠Q.getD 0 0) then tuy h (Q.getD 0 0) else h):=fun hc=>by rw[if_neg (fun q=>hc q.2)]
   have w61:IntKind.i64.wrap ((h (Q.getD 0 0)).y+4)=(h (Q.getD 0 0)).y+4:=w64 oM oM;have w62:((h (Q.getD 0 0)).y+4).tmod 8=((h (Q.getD 0 0)).y+4)%8:=Int.tmod_eq_emod_of_nonneg oM;have hqp:0<P.length→((ixP P).drop (0*1)).take 1=[i6 ((P.getD 0 0:Nat):Int)]:=fun h=>iG h;generalize Q.getD 0 0=x at*;generalize P.getD 0 0=z at*;have hQ':((Q.length:Nat):Int)>0:=oM
   by_cases hP:P.length=0
   ·have hP':((P.length:Nat):Int)=0:=oM
    refine kR ?_;refine jm jj<|jE jj<|vGt jj<|jm jj<|jgm jj<|jg (dQ jj CSlice.ok)<|uEt jj<|jgm jj<|jk<|jk<|jk<|jk<|jk<|jk<|jk<|jg (dE jj jj)<|vq jj<|jn<|jt jj<|jr<|jS (fZ jj jj)<|jS (iS jj jj jj hn0 hc)<|jm jj<|jS (aK (i:=0) jj jj hQ hq0)<|vT jj<|jS (fZ jj jj)<|jS (iS jj jj jj hn0 hc)<|jm jj<|jS (aK (i:=0) jj jj hQ hq0)<|vT jj<|jS (cL jj jj hx (o':=x*5) oM)<|vF jj<|jS (aX jj jj c6)<|vAd jj w61<|jS (bRe jj jj w62)<|jS (cL jj jj hx (o':=x*5) oM)<|vF jj<|jO (bX jj jj jj k6 s6)<|jn ?_;refine⟨⟨_,hif (.inl hP)⟩,?_⟩;dsimp only;refine Sub.mk ?_ ?_<;>repeat(first|exact trivial|refine jV jj ?_|refine jy jj ?_|refine jw jj (js0 jj) ?_|refine jw jj (gD (js0 jj) (js0 jj)) ?_)
   ·have hP':¬((P.length:Nat):Int)=0:=oM
    have hP0:0<P.length:=oM;have hqp:=hqp hP0
    by_cases hne:z=x
    ·have hne':((z:Nat):Int)=(x:Int):=oM
     refine kR ?_;refine jm jj<|jE jj<|vGt jj<|jm jj<|jgm jj<|jg (dQ jj CSlice.ok)<|uEf jj<|jgm jj<|jgm jj<|jg (aK (i:=0) jj jj hP0 hqp)<|jg (aZ jj jj)<|jgm jj<|jg (aK (i:=0) jj jj hQ hq0)<|jg (aZ jj jj)<|uNf jj<|jg (bZ jj jj)<|vq jj<|jn<|jf jj<|jp ?_;refine⟨⟨_,hif2 oM⟩,?_⟩;dsimp only;refine Sub.mk ?_ ?_<;>repeat(first|exact trivial|refine jV jj ?_|refine jy jj ?_|refine jw jj (js0 jj) ?_|refine jw jj (gD (js0 jj) (js0 jj)) ?_)
    ·have hne':((z:Nat):Int)≠(x:Int):=oM
     refine kR ?_;refine jm jj<|jE jj<|vGt jj<|jm jj<|jgm jj<|jg (dQ jj CSlice.ok)<|uEf jj<|jgm jj<|jgm jj<|jg (aK (i:=0) jj jj hP0 hqp)<|jg (aZ jj jj)<|jgm jj<|jg (aK (i:=0) jj jj hQ hq0)<|jg (aZ jj jj)<|uNt jj<|jg (bZ jj jj)<|vq jj<|jn<|jt jj<|jr<|jS (fZ jj jj)<|jS (iS jj jj jj hn0 hc)<|jm jj<|jS (aK (i:=0) jj jj hQ hq0)<|vT jj<|jS (fZ jj jj)<|jS (iS jj jj jj hn0 hc)<|jm jj<|jS (aK (i:=0) jj jj hQ hq0)<|vT jj<|jS (cL jj jj hx (o':=x*5) oM)<|vF jj<|jS (aX jj jj c6)<|vAd jj w61<|jS (bRe jj jj w62)<|jS (cL jj jj hx (o':=x*5) oM)<|vF jj<|jO (bX jj jj jj k6 s6)<|jn ?_;refine⟨⟨_,hif (.inr hne)⟩,?_⟩;dsimp only;refine Sub.mk ?_ ?_<;>repeat(first|exact trivial|refine jV jj ?_|refine jy jj ?_|refine jw jj (js0 jj) ?_|refine jw jj (gD (js0 jj) (js0 jj)) ?_)
  ·have hQ':¬((Q.length:Nat):Int)>0:=oM
   have hif:h=(if 0<Q.length∧(P.length=0∨P.getD 0 0≠Q.getD 0 0) then tuy h (Q.getD 0 0) else h):=by rw[if_neg (fun q=>hQ q.1)]
   refine kR ?_;refine jm jj<|jE jj<|vGf jj<|jm jj<|jk<|jk<|jk<|jk<|ju<|ju<|ju<|ju<|ju<|ju<|ju<|jk<|vQ jj<|jn<|jf jj<|jp ?_;refine⟨⟨_,hif⟩,?_⟩;dsimp only;refine Sub.mk ?_ ?_<;>repeat(first|exact trivial|refine jV jj ?_|refine jy jj ?_|refine jw jj (js0 jj) ?_|refine jw jj (gD (js0 jj) (js0 jj)) ?_)
 rintro⟨h2,hh2⟩;dsimp only;rw[←hh2];refine WpD.sub (Sub.unPl (t:=5) rfl) ?_;refine WpD.sub (τ:=⟨[(4,.ptr 4 0),(5,.ptr 5 0)],[(5,[i6 p,slc 5 (rows (ccs h2) n) n]),(4,[i6 0,ex (.slice none 0 0)])]⟩) ?_ ?_
 ·exact Sub.trans (Sub.pubCell (bx0:=[(5,[i6 p,ex (gvl blk n cap)]),(4,[i6 0,ex (.slice none 0 0)])]) (sl:=[(4,.ptr 4 0),(5,.ptr 5 0)]) (b:=9) (d:=5) (p:=3) (k:=5) rfl rfl (fA (bC _) n) rfl rfl hn0 hc.1 hc.2 ⟨.inl pQ,.inl pQ,trivial⟩ rfl (h1:=⟨⟨_,rfl,rfl⟩,oN,⟨_,rfl,rfl⟩,oN,trivial⟩)) (Sub.mk (by repeat(first|exact trivial|refine jv rfl ?_|refine jw rfl (js0 rfl) ?_)) (by repeat(first|exact trivial|refine jz ?_|refine jy rfl ?_)))
 refine kR ?_;refine vL jj<|vP jj<|jn ?_;refine kO ?_;refine WpD.ret ?_;exact rtC rfl jj jj
end
structure Like(f g:Nat→Co):Prop where
 e:∀i,(g i).e=(f i).e
 d:∀i,(g i).d=(f i).d
 o:∀i,(g i).o=(f i).o
theorem Like.trans{f g h:Nat→Co}(a:Like f g)(b:Like g h):Like f h:=⟨fun i=>(b.e i).trans (a.e i),fun i=>(b.d i).trans (a.d i),fun i=>(b.o i).trans (a.o i)⟩
theorem yW(g:Nat→Co)(x:Nat):Like g (tus g x):=by
 constructor<;>(intro i;unfold tus;split<;>(try subst_vars)<;>rfl)
theorem yV(g:Nat→Co)(x:Nat):Like g (tuy g x):=by
 constructor<;>(intro i;unfold tuy;split<;>(try subst_vars)<;>rfl)
theorem nH(f:Nat→Co)(n i:Nat):Like f (stp f n i):=by
 have h:Like f (tus (tus f i) (i-1)):=(yW f i).trans (yW _ _);unfold stp;dsimp only;split
 ·refine Like.trans ?_ (yV _ _)
  split
  ·exact h.trans (yV _ _)
  ·exact h
 ·split
  ·exact h.trans (yV _ _)
  ·exact h
theorem sI(f:Nat→Co)(n:Nat):Like f (fzf f n):=by
 constructor<;>(intro i;unfold fzf;split<;>rfl)
def Rng(f:Nat→Co)(n:Nat):Prop:=∀i,i<n→((f i).s=1∨(f i).s= -1)∧0≤(f i).y∧(f i).y≤7
theorem fZJ{f:Nat→Co}{n x:Nat}(h:Rng f n)(hx:x<n):Rng (tus f x) n:=fun i hi=>by
 have h1:=h i hi;have h2:=h x hx;unfold tus;split
 ·exact⟨by show-(f x).s=1∨-(f x).s= -1;omega,h2.2⟩
 ·exact h1
theorem fZI{f:Nat→Co}{n x:Nat}(h:Rng f n)(hx:x<n):Rng (tuy f x) n:=fun i hi=>by
 have h1:=h i hi;have h2:=h x hx;unfold tuy;split
 ·exact⟨h2.1,by show 0≤((f x).y+4)%8∧((f x).y+4)%8≤7;omega⟩
 ·exact h1
theorem jN{l:List Nat}(h:0<l.length):l.getD 0 0∈l:=by simp[List.getD,List.getElem?_eq_getElem h]
theorem fZK{f:Nat→Co}{n i:Nat}(h:Rng f n)(hi:i<n):Rng (stp f n i) n:=by
 have h1:Rng (tus (tus f i) (i-1)) n:=fZJ (fZJ h hi) oM;have h2:Rng (if 0<(cof (aL f n) (i-1)).length then tuy (tus (tus f i) (i-1)) ((cof (aL f n) (i-1)).getD 0 0) else tus (tus f i) (i-1)) n:=by
  split
  ·rename_i hp
   exact fZI h1 (cZx _ (jN hp))
  ·exact h1
 unfold stp;dsimp only;split
 ·rename_i hq
  exact fZI h2 (cZx _ (jN hq.1))
 ·exact h2
theorem fZL{f:Nat→Co}{n:Nat}(h:Rng f n):Rng (fzf f n) n:=fun i hi=>by
 have h1:=h i hi;unfold fzf;split
 ·refine⟨h1.1,?_⟩
  show 0≤fzy f n i∧fzy f n i≤7
  unfold fzy;split<;>omega
 ·exact h1
theorem Shp.like{f g:Nat→Co}{n:Nat}(H:Shp f n)(h:Like f g):Shp g n:=⟨H.n20,fun i hi=>by rw[h.e];exact H.e0 i hi,fun i hi=>by rw[h.e];exact H.e1 i hi⟩
def cst(n:Nat)(g:Nat→Co)(i:Nat):Nat→Co:=if(g i).s= -1∧lnk g n i=true then stp g n i else g
def fZr(n:Nat):Nat→(Nat→Co)→Nat→Co
 |0,g=>g
 |i+1,g=>fZr n i (cst n g (i+1))
def eZb(f:Nat→Co)(n:Nat):Nat→Co:=fZr n (n-1) (fzf f n)
section
variable(En:Ev)
theorem oZ9(p:Int)(f:Nat→Co)(n:Nat)(hn:n≤20)(hraw:nW p f n):Fn PZ En 41 [cO p f n] (dK [cO p (eZb f n) n,ex (.bool true)]):=by
 have C0:=rfuse En p f n hn hraw;have hsU:=hraw.1.2.2;have hn0:0<n:=Nat.pos_of_ne_zero hraw.1.2.1;have H:Shp f n:=⟨hn,fun k hk=>(dX hsU hk).1,fun k hk=>(dX hsU hk).2.1⟩;have hR:Rng f n:=fun i hi=>by have:=pY hraw.2 hi;unfold bR at this;omega
 have hR1:=fZL hR;have H1:=H.like (sI f n);have hcf:eZb f n=fZr n (n-1) (fzf f n):=rfl;generalize eZb f n=cf at*;generalize fzf f n=g at*;have wn:=wM n oM;unfold cO at*;refine aA Tryz.func41 rfl Tryz.ntmps41 rfl ?_;intro w0 h0;refine vS<|vB jj<|vA jj<|vZ jj<|vS<|vL jj<|vC C0 ⟨jj,trivial⟩<|jm jj<|vE jj<|vE jj<|vA jj<|vP jj<|vZ jj<|js<|vS<|jm jj<|jS (bNo jj)<|jn<|jf jj<|jp<|js<|vS<|vX jj<|jE jj<|vSu jj wn<|vZ jj<|jb ?_;refine WpD.loop (α:={q:Nat×(Nat→Co)//q.1<n∧Rng q.2 n∧Shp q.2 n∧cf=fZr n q.1 q.2}) (fun q=>⟨[(2,.ptr 2 0),(4,.ptr 4 0),(6,.one (i6 q.1.1))],[(2,[i6 0,ex (.slice none 0 0)]),(4,[i6 p,slc 5 (rows (ccs q.1.2) n) n])]⟩) (fun q=>q.1.1) ⟨(n-1,g),oD,hR1,H1,hcf⟩ ?_ ?_
 ·dsimp only
  refine Sub.mk ?_ ?_<;>repeat(first|exact trivial|refine jV jj ?_|refine jy jj ?_|refine jw jj (js0 jj) ?_|refine jw jj (gD (js0 jj) (js0 jj)) ?_)
 clear hcf hR1 H1 C0 g;rintro⟨⟨i,g⟩,hi,hR1,H1,hcf⟩;dsimp only at hi hR1 H1 hcf ⊢;have hq:((rows (ccs g) n).drop (i*5)).take 5=coc (g i):=bE (bC g) hi
 by_cases hi0:i=0
 ·subst hi0
  rw[show cf=g from hcf]
  refine js<|vS<|jm jj<|jS (bHf jj jj)<|jn<|jf jj<|je<|vS<|vL jj<|vP jj<|vZ jj<|ji ?_;exact rtD rfl jj jj jj
 ·have hi1:(i:Int)≥1:=oM
  have w22:=wM i oM;have hcf':cf=fZr n (i-1) (cst n g i):=by
   rw[hcf];cases i with
   |zero=>exact absurd rfl hi0
   |succ k=>rfl
  by_cases hs:(g i).s= -1
  ·have C1:=lZx En g n i H1 (fun j hj=>(hR1 j hj).2) hi oM
   cases hl:lnk g n i with
   |true=>
    rw[hl] at C1;have C2:=rstep En p g n i H1 (fun j hj=>(hR1 j hj).1) (fun j hj=>(hR1 j hj).2) hi oM;unfold cO at C2;have hc:cst n g i=stp g n i:=by unfold cst;rw[if_pos ⟨hs,hl⟩]
    rw[hc] at hcf';refine js<|vS<|jm jj<|jS (bHt jj jj)<|jn<|jt jj<|jp<|js<|jb<|vS<|vX jj<|jm jj<|vD jj hi hq<|jS (aI jj jj)<|vT jj<|vEt jj<|jm jj<|vY jj<|jgm jj<|jg (aQ C1 ⟨jj,jj,trivial⟩)<|vq jj<|jn<|jt jj<|jr<|vL jj<|jm jj<|vC C2 ⟨jj,jj,trivial⟩<|vP jj<|jn<|jr<|jm jj<|vSu jj w22<|vZ jj ?_;refine⟨⟨(i-1,stp g n i),oD,fZK hR1 hi,H1.like (nH g n i),hcf'⟩,?_,oD⟩;dsimp only;refine Sub.mk ?_ ?_<;>repeat(first|exact trivial|refine jV jj ?_|refine jy jj ?_|refine jw jj (js0 jj) ?_|refine jw jj (gD (js0 jj) (js0 jj)) ?_)
   |false=>
    rw[hl] at C1;have hc:cst n g i=g:=by unfold cst;rw[if_neg (fun h=>by rw[hl] at h;exact Bool.noConfusion h.2)]
    rw[hc] at hcf';refine js<|vS<|jm jj<|jS (bHt jj jj)<|jn<|jt jj<|jp<|js<|jb<|vS<|vX jj<|jm jj<|vD jj hi hq<|jS (aI jj jj)<|vT jj<|vEt jj<|jm jj<|vY jj<|jgm jj<|jg (aQ C1 ⟨jj,jj,trivial⟩)<|vq jj<|jn<|jf jj<|jp<|jr<|jm jj<|vSu jj w22<|vZ jj ?_;refine⟨⟨(i-1,g),oD,hR1,H1,hcf'⟩,?_,oD⟩;dsimp only;refine Sub.mk ?_ ?_<;>repeat(first|exact trivial|refine jV jj ?_|refine jy jj ?_|refine jw jj (js0 jj) ?_|refine jw jj (gD (js0 jj) (js0 jj)) ?_)
  ·have hc:cst n g i=g:=by unfold cst;rw[if_neg (fun h=>hs h.1)]
   rw[hc] at hcf';refine js<|vS<|jm jj<|jS (bHt jj jj)<|jn<|jt jj<|jp<|js<|jb<|vS<|vX jj<|jm jj<|vD jj hi hq<|jS (aI jj jj)<|vT jj<|vEf jj<|jm jj<|jk<|jk<|jk<|jk<|vQ jj<|jn<|jf jj<|jp<|jr<|jm jj<|vSu jj w22<|vZ jj ?_;refine⟨⟨(i-1,g),oD,hR1,H1,hcf'⟩,?_,oD⟩;dsimp only;refine Sub.mk ?_ ?_<;>repeat(first|exact trivial|refine jV jj ?_|refine jy jj ?_|refine jw jj (js0 jj) ?_|refine jw jj (gD (js0 jj) (js0 jj)) ?_)
end
end
section
open Go.RowKit Limb Num
def kyP(c:Co)(b:Bool):Int:=if c.o=true then(if b=true then c.d%2 else if c.s= -1 then(c.y+4)%8 else c.y) else 0
def rwO(o b:Bool)(k:Int):Nat:=if o=false then(if b=false then 0 else 1) else if b=true then(if k=1 then 2 else 3) else if k=0 then 4 else if k=1 then 5 else if k=7 then 6 else if k=2 then 7 else if k=6 then 8 else if k=3 then 9 else if k=5 then 10 else 11
def dyP(c:Co)(b:Bool):Int×Int:=
 if c.o=false then(if b=false then(c.d,c.s) else(c.d+1,0))
 else if b=true then(if c.d%2=1 then(c.d,0) else(c.d-1,0))
 else if(c.y+(if c.s= -1 then 4 else 0))%8=0 then(c.d-2,1)
 else if(c.y+(if c.s= -1 then 4 else 0))%8=1∨(c.y+(if c.s= -1 then 4 else 0))%8=7 then(c.d-1,1)
 else if(c.y+(if c.s= -1 then 4 else 0))%8=2∨(c.y+(if c.s= -1 then 4 else 0))%8=6 then(c.d-1,0)
 else if(c.y+(if c.s= -1 then 4 else 0))%8=4 then(c.d-2,-1) else(c.d-1,-1)
structure Ck(c:Co):Prop where
 d0:0≤c.d
 d8:c.d≤8
 s1:c.s=1∨c.s= -1
 y0:0≤c.y
 y7:c.y≤7
theorem jZN:∀(o b:Bool) (k:Fin 8),(o=false→k=0)→(b=true→k.1<2)→fits o b (k.1:Int) (rwO o b (k.1:Int)):=by unfold fits;decide+kernel
theorem jZM{c:Co}(h:Ck c)(b:Bool):fits c.o b (kyP c b) (rwO c.o b (kyP c b)):=by
 obtain⟨_,_,_,y0,y7⟩:=h;obtain⟨k,hk,h1,h2⟩:∃k:Fin 8,kyP c b=(k.1:Int)∧(c.o=false→k=0)∧(b=true→k.1<2):=by
  unfold kyP
  by_cases ho:c.o=true
  ·rw[if_pos ho]
   have hno:c.o=false→False:=fun h=>by rw[ho] at h;exact Bool.noConfusion h
   by_cases hb:b=true
   ·rw[if_pos hb]
    exact⟨⟨(c.d%2).toNat,oM⟩,oD,fun h=>(hno h).elim,fun _=>by dsimp only;omega⟩
   ·rw[if_neg hb]
    by_cases hs:c.s= -1
    ·rw[if_pos hs]
     exact⟨⟨((c.y+4)%8).toNat,oM⟩,oD,fun h=>(hno h).elim,fun h=>absurd h hb⟩
    ·rw[if_neg hs]
     exact⟨⟨c.y.toNat,oM⟩,oD,fun h=>(hno h).elim,fun h=>absurd h hb⟩
  ·rw[if_neg ho]
   exact⟨0,rfl,fun _=>rfl,fun _=>by decide⟩
 rw[hk];exact jZN c.o b k h1 h2
theorem lZv{c:Co}(h:Ck c)(b:Bool):rowS c.d c.s (rwO c.o b (kyP c b))=cD [ex (.int .i64 (dyP c b).1),ex (.int .i64 (dyP c b).2)]:=by
 obtain⟨_,_,hs,y0,y7⟩:=h;unfold dyP kyP rowS;cases c.o with
 |false=>
  cases b with
  |false=>rw[if_pos rfl,if_pos rfl];simp[rwO,mro,mrow]
  |true=>rw[if_pos rfl,if_neg aD];simp[rwO,mro,mrow]
 |true=>
  rw[if_pos rfl,if_neg (show ¬(true=false) by decide)]
  cases b with
  |true=>
   rw[if_pos rfl,if_pos rfl]
   by_cases hd:c.d%2=1
   ·rw[if_pos hd,hd];simp[rwO,mro,mrow]
   ·rw[if_neg hd,show c.d%2=0 by omega];simp[rwO,mro,mrow];rfl
  |false=>
   rw[if_neg (show ¬(false=true) by decide),if_neg (show ¬(false=true) by decide)]
   have key:(if c.s= -1 then(c.y+4)%8 else c.y)=(c.y+(if c.s= -1 then 4 else 0))%8:=by split<;>omega
   rw[key];have hk:0≤(c.y+(if c.s= -1 then 4 else 0))%8∧(c.y+(if c.s= -1 then 4 else 0))%8<8:=oM;generalize(c.y+(if c.s= -1 then 4 else 0))%8=k at*;have hk8:k=0∨k=1∨k=2∨k=3∨k=4∨k=5∨k=6∨k=7:=oM;rcases hk8 with rfl|rfl|rfl|rfl|rfl|rfl|rfl|rfl<;>simp[rwO,mro,mrow]<;>rfl
theorem mdyad(c:Co)(bnd:Bool)(hc:Ck c):Fn PZ TabD 75 [cD (coc c),ex (.bool bnd)] (cD [ex (.int .i64 (dyP c bnd).1),ex (.int .i64 (dyP c bnd).2)]):=by
 rw[←lZv hc];obtain⟨hm,ho,hb,hk,hno⟩:=jZM hc bnd;obtain⟨d0,d8,s1,y0,y7⟩:=hc;have hky:kyP c bnd=kyP c bnd:=rfl;generalize hK:kyP c bnd=K at*;clear hky;generalize rwO c.o bnd K=m at*;obtain⟨ce,d,s,o,y⟩:=c;unfold coc;dsimp only at*;refine aA Tryz.func75 rfl Tryz.ntmps75 rfl ?_;intro w0 h0;refine vS<|vB jj<|vA jj<|vJ<|vZ jj ?_;refine WpD.cut (α:=Unit) (fun _=>⟨[(1,.one (ex (.bool bnd))),(2,.ptr 2 0),(4,.ptr 4 0),(5,.one (i6 K))],[(2,[i6 ce,i6 d,i6 s,ex (.bool o),i6 y]),(4,[i6 0,i6 0])]⟩) ?_ ?_
 ·unfold kyP at hK
  dsimp only at hK;cases o with
  |false=>
   rw[if_neg aD] at hK;subst hK;refine kR ?_;refine vX jj<|jm jj ?_;refine kG ?_;refine kH ?_;refine vZ jj<|jf jj<|vS<|vX jj<|vZ jj<|jf jj<|jp ?_;refine⟨(),?_⟩;exact Sub.mk sJ sJ
  |true=>
   rw[if_pos rfl] at hK;cases bnd with
   |true=>
    rw[if_pos rfl] at hK;have m1:d.tmod 2=K:=by rw[←hK];exact Int.tmod_eq_emod_of_nonneg d0
    refine kR ?_;refine vX jj<|jm jj ?_;refine kG ?_;refine kH ?_;refine vZ jj<|jt jj<|jr<|vX jj<|jS (bRe jj jj m1)<|vZ jj ?_;refine⟨(),?_⟩;exact Sub.mk sJ sJ
   |false=>
    rw[if_neg aD] at hK
    by_cases hs:s= -1
    ·rw[if_pos hs] at hK
     have m1:IntKind.i64.wrap (y+4)=y+4:=w64 oM oM;have m2:(y+4).tmod 8=K:=by rw[←hK];exact Int.tmod_eq_emod_of_nonneg oM
     refine kR ?_;refine vX jj<|jm jj ?_;refine kG ?_;refine kH ?_;refine vZ jj<|jf jj<|vS<|vX jj<|vZ jj<|jt jj<|vS<|vX jj<|vZ jj<|vS<|vX jj<|vEt jj<|jn<|jt jj<|jr<|jm jj<|vAd jj m1<|jS (bRe jj jj m2)<|vZ jj ?_;refine⟨(),?_⟩;exact Sub.mk sJ sJ
    ·rw[if_neg hs] at hK
     subst hK;refine kR ?_;refine vX jj<|jm jj ?_;refine kG ?_;refine kH ?_;refine vZ jj<|jf jj<|vS<|vX jj<|vZ jj<|jt jj<|vS<|vX jj<|vZ jj<|vS<|vX jj<|vEf jj<|jn<|jf jj<|jp ?_;refine⟨(),?_⟩;exact Sub.mk sJ sJ
 intro _;refine kR ?_;refine jS (iZB (vs:=mtabV.toList) jj lZE jj iZY)<|jm jj<|jn<|jb ?_;rw[hZk];refine WpD.loop (α:={i:Nat//i≤m}) (fun i=>⟨[(1,.one (ex (.bool bnd))),(2,.ptr 2 0),(4,.ptr 4 0),(5,.one (i6 K)),(29,.one (cD (rows mtc 12))),(30,.one (i6 i.1))],[(2,[i6 ce,i6 d,i6 s,ex (.bool o),i6 y]),(4,[i6 0,i6 0])]⟩) (fun i=>m-i.1) ⟨0,Nat.zero_le _⟩ ?_ ?_
 ·exact Sub.mk sJ sJ
 rintro⟨i,hi⟩;dsimp only at hi ⊢;have hq:((rows mtc 12).drop (i*5)).take 5=mtc i:=bE (f:=mtc) (fun _=>rfl) oM;have hi12:i<12:=oM;have e1:=wS i oM;obtain⟨hb1,hb2⟩:=lZF ⟨i,hi12⟩;dsimp only at hb1 hb2
 by_cases hlt:i<m
 ·have hn:=hno i hlt
  rw[show mtc i=[ex (.bool (mro i).1),ex (.bool (mro i).2.1),ex (.int .i64 (mro i).2.2.1),ex (.int .i64 (mro i).2.2.2.1),ex (.int .i64 (mro i).2.2.2.2)] from rfl] at hq
  generalize mro i=r at*;obtain⟨r0,r1,r2,r3,r4⟩:=r;dsimp only at hn hq
  by_cases q0:r0=o
  ·have v0:(r0==o)=true:=by rw[q0];exact beq_self_eq_true _
   by_cases q1:r1=bnd
   ·have v1:(r1==bnd)=true:=by rw[q1];exact beq_self_eq_true _
    have q2:r2≠K:=fun h=>hn ⟨q0,q1,h⟩;refine vS<|vLt jj<|vW jj<|vS<|jS (mY jj jj hi12 hq)<|vA jj<|vP jj<|vJ<|vX jj<|vX jj<|jS (aH jj jj (fun w=>eS w CBool.ok _ _ _ _) (dH v0))<|jm jj ?_;refine kG ?_;refine kG ?_;refine kG ?_;first|refine jg (aH jj jj (fun w=>eS w CBool.ok _ _ _ _) (dH v1)) ?_|refine jk ?_|refine ju ?_
    refine kH ?_;refine jm jj ?_;refine kG ?_;refine kG ?_;refine kG ?_;first|refine jg (bEf jj jj) ?_|refine jk ?_|refine ju ?_
    refine kH ?_;refine jn<|jf jj<|jp<|jr<|vAd jj e1<|jm jj<|jn ?_;refine⟨⟨i+1,oM⟩,?_,oD⟩;exact Sub.mk sJ sJ
   ·have v1:(r1==bnd)=false:=by rw[beq_eq_false_iff_ne];exact q1
    refine vS<|vLt jj<|vW jj<|vS<|jS (mY jj jj hi12 hq)<|vA jj<|vP jj<|vJ<|vX jj<|vX jj<|jS (aH jj jj (fun w=>eS w CBool.ok _ _ _ _) (dH v0))<|jm jj ?_;refine kG ?_;refine kG ?_;refine kG ?_;first|refine jg (aH jj jj (fun w=>eS w CBool.ok _ _ _ _) (dH v1)) ?_|refine jk ?_|refine ju ?_
    refine kH ?_;refine jm jj ?_;refine kG ?_;refine kG ?_;refine kG ?_;first|refine jg (bEf jj jj) ?_|refine jk ?_|refine ju ?_
    refine kH ?_;refine jn<|jf jj<|jp<|jr<|vAd jj e1<|jm jj<|jn ?_;refine⟨⟨i+1,oM⟩,?_,oD⟩;exact Sub.mk sJ sJ
  ·have v0:(r0==o)=false:=by rw[beq_eq_false_iff_ne];exact q0
   refine vS<|vLt jj<|vW jj<|vS<|jS (mY jj jj hi12 hq)<|vA jj<|vP jj<|vJ<|vX jj<|vX jj<|jS (aH jj jj (fun w=>eS w CBool.ok _ _ _ _) (dH v0))<|jm jj ?_;refine kG ?_;refine kG ?_;refine kG ?_;first|refine jg (aY jj jj (fun w=>eS w CBool.ok _ _ _ _)) ?_|refine jk ?_|refine ju ?_
   refine kH ?_;refine jm jj ?_;refine kG ?_;refine kG ?_;refine kG ?_;first|refine jg (bEf jj jj) ?_|refine jk ?_|refine ju ?_
   refine kH ?_;refine jn<|jf jj<|jp<|jr<|vAd jj e1<|jm jj<|jn ?_;refine⟨⟨i+1,oM⟩,?_,oD⟩;exact Sub.mk sJ sJ
 ·have:i=m:=oM
  subst this;rw[show mtc i=[ex (.bool (mro i).1),ex (.bool (mro i).2.1),ex (.int .i64 (mro i).2.2.1),ex (.int .i64 (mro i).2.2.2.1),ex (.int .i64 (mro i).2.2.2.2)] from rfl] at hq
  unfold rowS;generalize mro i=r at*;obtain⟨r0,r1,r2,r3,r4⟩:=r;dsimp only at hq ho hb hk hb1 hb2 ⊢;have v0:(r0==o)=true:=by rw[ho];exact beq_self_eq_true _
  have v1:(r1==bnd)=true:=by rw[hb];exact beq_self_eq_true _
  have e2:IntKind.i64.wrap (d+r3)=d+r3:=w64 oM oM
  by_cases h2:r4=2
  ·rw[if_pos h2]
   refine vS<|vLt jj<|vW jj<|vS<|jS (mY jj jj hi12 hq)<|vA jj<|vP jj<|vJ<|vX jj<|vX jj<|jS (aH jj jj (fun w=>eS w CBool.ok _ _ _ _) (dH v0))<|jm jj ?_;refine kG ?_;refine kG ?_;refine kG ?_;first|refine jg (aH jj jj (fun w=>eS w CBool.ok _ _ _ _) (dH v1)) ?_|refine jk ?_|refine ju ?_
   refine kH ?_;refine jm jj ?_;refine kG ?_;refine kG ?_;refine kG ?_;first|refine jg (bEt jj jj) ?_|refine jk ?_|refine ju ?_
   refine kH ?_;refine jn<|jt jj<|vS<|vX jj<|vX jj<|vAd jj e2<|vX jj<|jS (aU (ps:=[(_,_),(_,_)]) ⟨jj,Part.c jj,jj,Part.c jj,trivial⟩ jj)<|vA jj<|vP jj<|jn<|js<|vS<|vX jj<|vEt jj<|jn<|jt jj<|jr<|vX jj<|vF jj<|jO (kI jj jj jj jj jj)<|vJ<|vL jj<|vP jj<|jn<|ji ?_;exact rtC rfl jj jj
  ·rw[if_neg h2]
   refine vS<|vLt jj<|vW jj<|vS<|jS (mY jj jj hi12 hq)<|vA jj<|vP jj<|vJ<|vX jj<|vX jj<|jS (aH jj jj (fun w=>eS w CBool.ok _ _ _ _) (dH v0))<|jm jj ?_;refine kG ?_;refine kG ?_;refine kG ?_;first|refine jg (aH jj jj (fun w=>eS w CBool.ok _ _ _ _) (dH v1)) ?_|refine jk ?_|refine ju ?_
   refine kH ?_;refine jm jj ?_;refine kG ?_;refine kG ?_;refine kG ?_;first|refine jg (bEt jj jj) ?_|refine jk ?_|refine ju ?_
   refine kH ?_;refine jn<|jt jj<|vS<|vX jj<|vX jj<|vAd jj e2<|vX jj<|jS (aU (ps:=[(_,_),(_,_)]) ⟨jj,Part.c jj,jj,Part.c jj,trivial⟩ jj)<|vA jj<|vP jj<|jn<|js<|vS<|vX jj<|vEf jj<|jn<|jf jj<|jp<|vS<|vL jj<|vP jj<|jn<|ji ?_;exact rtC rfl jj jj
theorem xL{f:Nat→Co}{e:Int}:∀{n:Nat},(∀j,j<n→(f j).e≠e)→spC f e n=⟨e,0,1,false,0⟩
 |0,_=>rfl
 |n+1,h=>by rw[spC,if_neg (h n oM)];exact xL fun j hj=>h j oM
theorem rU{f:Nat→Co}{e:Int}{i:Nat}(he:(f i).e=e):∀{n:Nat},i<n→(∀j,i<j→j<n→(f j).e≠e)→spC f e n=f i
 |n+1,hi,h=>by
  rw[spC]
  by_cases hn:i=n
  ·subst hn;rw[if_pos he]
  ·rw[if_neg (h n oM oM)]
   exact rU he oM fun j h1 h2=>h j h1 oM
theorem pR{f:Nat→Co}{e:Int}:∀{n:Nat},spB f e n=true↔∃i,i<n∧((f i).e=e-1∨(f i).e=e+1)∧(f i).o=true
 |0=>by simp[spB]
 |n+1=>by
  have ih:=pR (f:=f) (e:=e) (n:=n);have ex:(∃i,i<n+1∧((f i).e=e-1∨(f i).e=e+1)∧(f i).o=true)↔(∃i,i<n∧((f i).e=e-1∨(f i).e=e+1)∧(f i).o=true)∨(((f n).e=e-1∨(f n).e=e+1)∧(f n).o=true):=by
   constructor
   ·rintro⟨i,hi,h⟩
    rcases Nat.lt_or_ge i n with q|q
    ·exact .inl ⟨i,q,h⟩
    ·rw[show i=n by omega] at h;exact .inr h
   ·rintro(⟨i,hi,h⟩|h)
    ·exact⟨i,oM,h⟩
    ·exact⟨n,oM,h⟩
  rw[ex,←ih,spB];split
  ·rename_i h
   exact⟨.inl,fun q=>q.elim id fun q=>oM⟩
  ·split
   ·rename_i h
    rw[Bool.or_eq_true];exact⟨fun q=>q.elim .inl fun q=> .inr ⟨h,q⟩,fun q=>q.elim .inl fun q=> .inr q.2⟩
   ·rename_i h
    exact⟨.inl,fun q=>q.elim id fun q=>absurd q.1 h⟩
theorem lZg{f:Nat→Co}{n:Nat}(H:OkL f n){e:Int}:(spC f e n).o=true↔∃i,i<n∧(f i).e=e∧(f i).o=true:=by
 constructor
 ·intro h
  have:∀m,(spC f e m).o=true→∃i,i<m∧(f i).e=e∧(f i).o=true:=by
   intro m;induction m with
   |zero=>intro h;exact Bool.noConfusion (show false=true from h)
   |succ m ih=>
    intro h;rw[spC] at h;split at h
    ·rename_i he;exact⟨m,oM,he,h⟩
    ·obtain⟨i,a,b⟩:=ih h;exact⟨i,oM,b⟩
  exact this n h
 ·rintro⟨i,hi,he,ho⟩
  rw[rU he hi fun j h1 h2=>by have:=H.up i j h1 h2;omega]
  exact ho
section
variable(En:Ev)
def kin(p:Int)(f:Nat→Co)(n:Nat)(e:Int):Int×Int:=if p=2 then dyP (spC f e n) (spB f e n) else((spC f e n).d,spO p (spC f e n).d (spC f e n).s)
structure OkA(p:Int)(f:Nat→Co)(n:Nat):Prop extends OkL f n where
 rng:Rng f n
 pr:p=2∨(3≤p∧p≤9973∧p%2=1)
theorem kZn{f:Nat→Co}{n:Nat}(H:OkL f n)(hR:Rng f n)(e:Int):Ck (spC f e n):=by
 have key:∀m,m≤n→Ck (spC f e m):=by
  intro m;induction m with
  |zero=>intro _;exact⟨by show(0:Int)≤0;omega,by show(0:Int)≤8;omega,.inl rfl,by show(0:Int)≤0;omega,by show(0:Int)≤7;omega⟩
  |succ m ih=>
   intro h;rw[spC];split
   ·have:=H.d0 m oM
    exact⟨oM,H.d8 m oM,(hR m oM).1,(hR m oM).2.1,(hR m oM).2.2⟩
   ·exact ih oM
 exact key n (Nat.le_refl _)
theorem hZZ(p:Int)(f:Nat→Co)(n:Nat)(e:Int)(H:OkA p f n)(he1: -1≤e)(he2:e≤1000):Fn PZ TabD 29 [cO p f n,i6 e] (cD [ex (.int .i64 (kin p f n e).1),ex (.int .i64 (kin p f n e).2)]):=by
 have hc:=kZn H.toOkL H.rng e;have hn8:=H.n8;unfold kin;rcases H.pr with h|⟨h1,h2,h3⟩
 ·rw[if_pos h,h]
  exact hZm f n e oM he1 he2 _ ⟨_,_,rfl⟩ (mdyad _ _ hc)
 ·rw[if_neg oM]
  have:=hc.s1;exact hZl TabD p f n e h1 h2 oM he1 he2 hc.d0 oM oM
end
theorem eZC{f:Nat→Co}:∀{n i j:Nat},shU f n→i<j→j<n→(f i).e<(f j).e
 |n+1,i,j,h,hij,hj=>by
  by_cases hjn:j=n
  ·subst hjn
   have h1:=h.2.1;rcases Nat.lt_or_ge i (j-1) with q|q
   ·have:=eZC (n:=j) h.1 q oM
    unfold iN at h1;rw[if_neg oM] at h1;omega
   ·unfold iN at h1
    rw[if_neg oM] at h1;rw[show i=j-1 by omega]
    exact h1
  ·exact eZC h.1 hij oM
theorem uB{f:Nat→Co}{n:Nat}(h0:n≠0)(h:shU f n):OkL f n:=
 ⟨oM,iZj h,fun i hi=>(dX h hi).1,fun i hi=>by have:=(dX h hi).2.1;omega,fun i hi=>(dX h hi).2.2.1,fun i hi=>(dX h hi).2.2.2,fun _ _ a b=>eZC h a b⟩
theorem oZH{p:Nat}(h:isP p=true)(h2:p≠2):p%2=1:=by
 have hp:=((cZd p).1 h).1;rcases Nat.mod_two_eq_zero_or_one p with q|q
 ·have h3:=hp.1
  exact absurd (Nat.dvd_of_mod_eq_zero q) (hp.2 2 oM oM)
 ·exact q
theorem okA{p:Int}{f:Nat→Co}{n:Nat}(h:wJ p f n):OkA p f n:=by
 rcases h with h|h|h
 ·obtain⟨h1,h2,⟨h3,h4,h5⟩,h6⟩:=h
  obtain⟨b1,b2,b3⟩:=eZ9 h1;have ho:=oZH b3 oM;refine⟨uB h3 h4,fun i hi=>⟨wQ.1 h5 i hi,?_⟩,.inr ⟨oM,b2,oM⟩⟩;have hz:∀m,m≤n→zU f m→∀i,i<m→(f i).o=false∧(f i).y=0:=by
   intro m;induction m with
   |zero=>intro _ _ i hi;exact absurd hi (Nat.not_lt_zero _)
   |succ m ih=>
    intro hm h i hi
    by_cases e:i=m
    ·subst e;exact h.2
    ·exact ih oM h.1 i oM
  have:=(hz n (Nat.le_refl _) h6 i hi).2;omega
 ·exact⟨uB h.1.2.1 h.1.2.2,fun i hi=>by have:=pY h.2 hi;unfold bR at this;omega,.inl h.1.1⟩
 ·exact⟨uB h.1.1.2.1 h.1.1.2.2,fun i hi=>⟨(gH h.1.2.1 hi).1,(gH h.1.2.1 hi).2.1,(gH h.1.2.1 hi).2.2.1⟩,.inl h.1.1.1⟩
end
section
open Go.RowKit Limb Num
def tyS(f:Nat→Co)(i:Nat):Int:=if(f i).o=false then-(f i).d else if 0<i∧(f (i-1)).o=true∧(f (i-1)).e=(f i).e-1 then 1 else 0
def tyU(f:Nat→Co):Nat→Int
 |0=>0
 |i+1=>tyU f i+tyS f i
theorem oZl{f:Nat→Co}{n i:Nat}(H:OkL f n)(hi:i<n): -8≤tyS f i∧tyS f i≤1:=by
 have:=H.d0 i hi;have:=H.d8 i hi;unfold tyS;split
 ·omega
 ·split<;>omega
theorem eZ1{f:Nat→Co}{n:Nat}(H:OkL f n):∀{i:Nat},i≤n→-8*(i:Int)≤tyU f i∧tyU f i≤(i:Int)
 |0,_=>by simp[tyU]
 |i+1,h=>by
  have ih:=eZ1 H (i:=i) oM;have:=oZl H (i:=i) oM;rw[tyU];generalize tyU f i=x at*;generalize tyS f i=y at*;omega
section
variable(En:Ev)
theorem lZL(f:Nat→Co)(n:Nat)(H:OkL f n)(hA:Fn PZ En 69 [cO 2 f n] (ex (.bool true))):Fn PZ En 25 [cO 2 f n] (dK [i6 (tyU f n),i6 0]):=by
 have hn8:=H.n8;unfold cO at hA ⊢;refine aA Tryz.func25 rfl Tryz.ntmps25 rfl ?_;intro w0 h0;refine vS<|vB jj<|ja jj<|vZ jj<|js<|vS<|vL jj<|vC hA ⟨jj,trivial⟩<|jS (bNo jj)<|jn<|jf jj<|jp<|js<|vS<|vX jj<|vNf jj<|jn<|jf jj<|jp<|vS<|vZ jj<|js<|vS<|vX jj<|jE jj<|jm jj<|jn<|jb ?_;refine WpD.loop (α:={i:Nat//i≤n}) (fun i=>⟨[(1,.ptr 1 0),(4,.one (i6 (tyU f i.1))),(14,.one (slc 5 (rows (ccs f) n) n)),(15,.one (i6 n)),(16,.one (i6 i.1))],[(1,[i6 2,slc 5 (rows (ccs f) n) n])]⟩) (fun i=>n-i.1) ⟨0,Nat.zero_le _⟩ ?_ ?_
 ·exact Sub.mk sJ sJ
 rintro⟨i,hi⟩;dsimp only at hi ⊢;obtain⟨t1,t2⟩:=eZ1 H hi
 by_cases hlt:i<n
 ·have hq:((rows (ccs f) n).drop (i*5)).take 5=[ex (.int .i64 (f i).e),ex (.int .i64 (f i).d),ex (.int .i64 (f i).s),ex (.bool (f i).o),ex (.int .i64 (f i).y)]:=bE (bC f) hlt
  have w1:=wS i oM;have b1:=H.d0 i hlt;have b2:=H.d8 i hlt;have b3:=H.e0 i hlt;have b4:=H.e1 i hlt;have hu:tyU f (i+1)=tyU f i+tyS f i:=rfl;have hz:tyU f i+0=tyU f i:=Int.add_zero _;unfold tyS at hu
  by_cases hi0:i=0
  ·have hi0':¬(i:Int)>0:=oM
   cases ho:(f i).o with
   |false=>
    rw[ho] at hq;rw[if_pos ho] at hu;have ws:IntKind.i64.wrap (tyU f i-(f i).d)=tyU f (i+1):=by rw[hu];exact w64 oM oM
    refine vS<|vLt jj<|vW jj<|vS<|jm jj<|vD jj hlt hq<|vR jj<|vA jj<|ja jj<|vP jj<|jn<|jb<|vS<|vX jj<|jS (bNo jj)<|vZ jj<|jt jj<|jr<|jm jj<|vX jj<|vSu jj ws<|vZ jj<|jr<|vAd jj w1<|jm jj<|jn ?_;refine⟨⟨i+1,oM⟩,?_,oD⟩;exact Sub.mk sJ sJ
   |true=>
    rw[ho] at hq;rw[if_neg (by rw[ho];decide),if_neg oM,hz] at hu
    refine vS<|vLt jj<|vW jj<|vS<|jm jj<|vD jj hlt hq<|vR jj<|vA jj<|ja jj<|vP jj<|jn<|jb<|vS<|vX jj<|jS (bNo jj)<|vZ jj<|jf jj<|vS<|jm jj<|vGf jj<|jm jj<|jk<|jk<|jk<|jk<|jk<|jk<|jk<|vQ jj<|jm jj<|jk<|jk<|jk<|jk<|jk<|jk<|jk<|jk<|jk<|jk<|jk<|vQ jj<|vZ jj ?_;refine jf jj<|jp<|jr<|vAd jj w1<|jm jj<|jn ?_;refine⟨⟨i+1,oM⟩,?_,oD⟩;dsimp only;rw[hu];exact Sub.mk sJ sJ
  ·have hi0':(i:Int)>0:=oM
   have hi1:i-1<n:=oM;have hq1:((rows (ccs f) n).drop ((i-1)*5)).take 5=[ex (.int .i64 (f (i-1)).e),ex (.int .i64 (f (i-1)).d),ex (.int .i64 (f (i-1)).s),ex (.bool (f (i-1)).o),ex (.int .i64 (f (i-1)).y)]:=bE (bC f) hi1;have wi:=wM i oM;have we:IntKind.i64.wrap ((f i).e-1)=(f i).e-1:=w64 oM oM;cases ho:(f i).o with
   |false=>
    rw[ho] at hq;rw[if_pos ho] at hu;have ws:IntKind.i64.wrap (tyU f i-(f i).d)=tyU f (i+1):=by rw[hu];exact w64 oM oM
    refine vS<|vLt jj<|vW jj<|vS<|jm jj<|vD jj hlt hq<|vR jj<|vA jj<|ja jj<|vP jj<|jn<|jb<|vS<|vX jj<|jS (bNo jj)<|vZ jj<|jt jj<|jr<|jm jj<|vX jj<|vSu jj ws<|vZ jj<|jr<|vAd jj w1<|jm jj<|jn ?_;refine⟨⟨i+1,oM⟩,?_,oD⟩;exact Sub.mk sJ sJ
   |true=>
    rw[ho] at hq;rw[if_neg (by rw[ho];decide)] at hu
    cases hp:(f (i-1)).o with
    |false=>
     rw[hp] at hq1;rw[if_neg (by rw[hp];intro h;exact Bool.noConfusion h.2.1),hz] at hu
     refine vS<|vLt jj<|vW jj<|vS<|jm jj<|vD jj hlt hq<|vR jj<|vA jj<|ja jj<|vP jj<|jn<|jb<|vS<|vX jj<|jS (bNo jj)<|vZ jj<|jf jj<|vS<|jm jj<|vGt jj<|jm jj<|vY jj<|jgm jj<|jg (bSu jj jj wi)<|jg (aK jj jj hi1 hq1)<|jg (aI jj jj)<|jg (aZ jj jj)<|vq jj<|jm jj<|jk<|jk<|jk<|jk<|jk<|jk<|jk<|jk<|jk<|jk<|jk<|vQ jj<|vZ jj ?_;refine jf jj<|jp<|jr<|vAd jj w1<|jm jj<|jn ?_;refine⟨⟨i+1,oM⟩,?_,oD⟩;dsimp only;rw[hu];exact Sub.mk sJ sJ
    |true=>
     rw[hp] at hq1
     by_cases he:(f (i-1)).e=(f i).e-1
     ·rw[if_pos ⟨oM,hp,he⟩] at hu
      have wa:IntKind.i64.wrap (tyU f i+1)=tyU f (i+1):=by rw[hu];exact w64 oM oM
      refine vS<|vLt jj<|vW jj<|vS<|jm jj<|vD jj hlt hq<|vR jj<|vA jj<|ja jj<|vP jj<|jn<|jb<|vS<|vX jj<|jS (bNo jj)<|vZ jj<|jf jj<|vS<|jm jj<|vGt jj<|jm jj<|vY jj<|jgm jj<|jg (bSu jj jj wi)<|jg (aK jj jj hi1 hq1)<|jg (aI jj jj)<|jg (aZ jj jj)<|vq jj<|jm jj<|vY jj<|jgm jj<|jg (bSu jj jj wi)<|jg (aK jj jj hi1 hq1)<|jg (aI jj jj)<|jg (aZ jj jj)<|vY jj<|jg (bSu jj jj we)<|uEt jj<|vq jj<|vZ jj ?_;refine jt jj<|jr<|jm jj<|vAd jj wa<|vZ jj<|jr<|vAd jj w1<|jm jj<|jn ?_;refine⟨⟨i+1,oM⟩,?_,oD⟩;exact Sub.mk sJ sJ
     ·rw[if_neg (fun h=>he h.2.2),hz] at hu
      refine vS<|vLt jj<|vW jj<|vS<|jm jj<|vD jj hlt hq<|vR jj<|vA jj<|ja jj<|vP jj<|jn<|jb<|vS<|vX jj<|jS (bNo jj)<|vZ jj<|jf jj<|vS<|jm jj<|vGt jj<|jm jj<|vY jj<|jgm jj<|jg (bSu jj jj wi)<|jg (aK jj jj hi1 hq1)<|jg (aI jj jj)<|jg (aZ jj jj)<|vq jj<|jm jj<|vY jj<|jgm jj<|jg (bSu jj jj wi)<|jg (aK jj jj hi1 hq1)<|jg (aI jj jj)<|jg (aZ jj jj)<|vY jj<|jg (bSu jj jj we)<|uEf jj<|vq jj<|vZ jj ?_;refine jf jj<|jp<|jr<|vAd jj w1<|jm jj<|jn ?_;refine⟨⟨i+1,oM⟩,?_,oD⟩;dsimp only;rw[hu];exact Sub.mk sJ sJ
 ·have:i=n:=oM
  subst this;refine vS<|vLf jj<|vU jj<|vS<|jm jj<|ja jj<|vZ jj<|ji ?_;exact lB rfl (.tmp rfl) (.tmp rfl) (PLe.refl _)
end
theorem OkA.p2{p:Int}{f:Nat→Co}{n:Nat}(H:OkA p f n):2≤p∧p≤9973:=by
 rcases H.pr with h|h<;>omega
section
variable(En:Ev)
end
def tyN(p:Int)(f:Nat→Co)(n:Nat):Int:=if p=2 then tyU f n else 0
end
section
open Go.RowKit Limb Num
def Run(j:Nat→Bool)(g:List Nat):Prop:=∀k,k+1<g.length→g.getD (k+1) 0=g.getD k 0+1∧j (g.getD (k+1) 0)=true
theorem lZl(j:Nat→Bool)(i:Nat):Run j [i]:=fun k hk=>by simp at hk
theorem iZx{j:Nat→Bool}{g:List Nat}{i:Nat}(h:Run j g)(hl:∀x∈g.getLast?,x+1=i)(hj:j i=true):Run j (g++[i]):=fun k hk=>by
 rw[List.length_append,List.length_singleton] at hk
 by_cases e:k+1=g.length
 ·have h1:(g++[i]).getD (k+1) 0=i:=by rw[e];simp[List.getD]
  have h2:(g++[i]).getD k 0=g.getD k 0:=by simp only[List.getD,List.getElem?_append_left (show k<g.length by omega)]
  rw[h1,h2];have h3:g.getLast? =some (g.getD k 0):=by
   rw[List.getLast?_eq_getElem?,show g.length-1=k by omega]
   simp[List.getD,List.getElem?_eq_getElem (show k<g.length by omega)]
  have:=hl _ h3;exact⟨oM,hj⟩
 ·have h1:(g++[i]).getD (k+1) 0=g.getD (k+1) 0:=by simp only[List.getD,List.getElem?_append_left (show k+1<g.length by omega)]
  have h2:(g++[i]).getD k 0=g.getD k 0:=by simp only[List.getD,List.getElem?_append_left (show k<g.length by omega)]
  rw[h1,h2];exact h k oM
theorem hZx{b j:Nat→Bool}{i:Nat}(h:b i=true):(bO b j (i+1)).2.getLast? =some i:=by
 rw[bO,if_neg (by rw[h];decide)]
 split<;>simp
theorem dZ8(b j:Nat→Bool):∀n,(∀g∈(bO b j n).1,Run j g)∧Run j (bO b j n).2
 |0=>by
  rw[bO];exact⟨fun g hg=>(by cases hg),fun k hk=>(by simp at hk)⟩
 |n+1=>by
  obtain⟨h1,h2⟩:=dZ8 b j n;rw[bO];split
  ·exact⟨h1,h2⟩
  ·split
   ·rename_i hc
    obtain⟨c1,c2,c3⟩:=hc;refine⟨h1,iZx h2 (fun x hx=>?_) c3⟩;have:=hZx (b:=b) (j:=j) (i:=n-1) c2;rw[show n-1+1=n by omega] at this
    rw[this] at hx;cases hx
    omega
   ·refine⟨fun g hg=>?_,lZl j n⟩
    dsimp only at hg;split at hg
    ·exact h1 g hg
    ·rcases List.mem_append.1 hg with h|h
     ·exact h1 g h
     ·simp at h;subst h;exact h2
theorem aZb{b j:Nat→Bool}{n:Nat}:∀g∈dR (bO b j n),Run j g:=by
 obtain⟨h1,h2⟩:=dZ8 b j n;intro g hg;unfold dR at hg;split at hg
 ·exact h1 g hg
 ·rcases List.mem_append.1 hg with h|h
  ·exact h1 g h
  ·simp at h;subst h;exact h2
theorem dZF{f:Nat→Co}{n i:Nat}(hi:i<n)(ho:(f i).o=true)(hfr:∀k,k<n→(f k).o=true→(f k).e≠(f i).e-1∧(f k).e≠(f i).e+1):cof (aL f n) i=[i]:=by
 obtain⟨a,b⟩:=sW (jU.2 ⟨hi,ho⟩);have hr:Run (oI f) (cof (aL f n) i):=aZb _ a;have hm:∀x∈cof (aL f n) i,x<n∧(f x).o=true:=fun x hx=>jU.1 (List.mem_flatten.2 ⟨_,a,hx⟩);generalize cof (aL f n) i=g at*;obtain⟨k,hk,e⟩:=List.getElem_of_mem b;have e':g.getD k 0=i:=by simp[List.getD,List.getElem?_eq_getElem hk,e]
 have hl:g.length=1:=by
  apply Classical.byContradiction;intro hne;rcases Nat.eq_zero_or_pos k with h0|h0
  ·subst h0
   obtain⟨r1,r2⟩:=hr 0 oM;have hx:g.getD (0+1) 0∈g:=by simp[List.getD,List.getElem?_eq_getElem (show 0+1<g.length by omega)]
   obtain⟨m1,m2⟩:=hm _ hx;unfold oI at r2;have r2:=of_decide_eq_true r2;rw[r1,e',Nat.add_sub_cancel] at r2;rw[r1,e'] at m1 m2;exact(hfr _ m1 m2).2 r2
  ·obtain⟨r1,r2⟩:=hr (k-1) oM
   rw[show k-1+1=k by omega,e'] at r1 r2
   have hx:g.getD (k-1) 0∈g:=by simp[List.getD,List.getElem?_eq_getElem (show k-1<g.length by omega)]
   obtain⟨m1,m2⟩:=hm _ hx;unfold oI at r2;have r2:=of_decide_eq_true r2;rw[show i-1=g.getD (k-1) 0 by omega] at r2
   exact(hfr _ m1 m2).1 oM
 match g,hl with
 |[x],_=>
  have:x=i:=(List.mem_singleton.1 b).symm;rw[this]
theorem jZJ{p:Int}{f:Nat→Co}{n i:Nat}(h:wJ p f n)(hp:p=2)(hi:i<n)(ho:(f i).o=true)(hfr:∀k,k<n→(f k).o=true→(f k).e≠(f i).e-1∧(f k).e≠(f i).e+1):((f i).y-(f i).d)%2=0:=by
 rcases h with h|h|h
 ·exact absurd hp h.2.1
 ·have:=pY h.2 hi
  unfold bR at this;obtain⟨_,_,_,_,_,_,_,h8⟩:=this;rw[if_pos ho] at h8;exact h8.1
 ·have hc:=dZF hi ho hfr
  obtain⟨a,_⟩:=sW (jU.2 ⟨hi,ho⟩);have hg:=((qA (Nat.le_refl _)).1 h.1.2.2) _ (by rw[List.take_length];exact a)
  rw[hc] at hg;have:=hg.2;simpa [gsm,List.getD] using this
end
section
open Go.RowKit Limb Num
def twq(t:Int):Rat:=if 0≤t then((2:Int):Rat)^t.toNat else(((2:Int):Rat)⁻¹)^(-t).toNat
theorem oZm:((2:Int):Rat)≠0:=by intro h;have:=Rat.intCast_eq_zero_iff.1 h;omega
theorem eZ2{t:Int}(h1: -64≤t)(h2:t≤64):Sz 200 (twq t):=by
 have S2:=qH (z:=2) oM oM;unfold twq;split
 ·exact(wN S2 _).mono oM
 ·exact(wN (bZr S2 oM) _).mono oM
section
variable(En:Ev)
theorem mpow2(t:Int)(h1: -64≤t)(h2:t≤64):Fn PZ En 26 [qC ((2:Int):Rat),i6 t] (dK [qC (twq t),ex (.bool true)]):=by
 have S2:=qH (z:=2) oM oM;unfold twq
 by_cases h:0≤t
 ·rw[if_pos h]
  have:=nZC En ((2:Int):Rat) t.toNat (S2.mono oM) oM;rwa[Int.toNat_of_nonneg h] at this
 ·rw[if_neg h]
  have:=aZQ En ((2:Int):Rat) (-t).toNat (S2.mono oM) oM oM oZm;rwa[Int.toNat_of_nonneg oM,Int.neg_neg] at this
theorem oZV(p:Int)(f:Nat→Co)(n:Nat)(H:OkL f n)(hp:2≤p)(hp2:p≤9973)(R:Rat)(hb:Bool)(hR:Sz 700 R)(t:Int)(ht1: -64≤t)(ht2:t≤64)
  (hX:Fn PZ En 24 [cO p f n] (dK [vI R hb,i6 0]))
  (hT:Fn PZ En 25 [cO p f n] (dK [i6 t,i6 0]))
  (sd:Int→Nat) (ss:Int→Int) (hd:∀e,sd e≤9) (hs:∀e,-1≤ss e∧ss e≤1)
  (hS:∀e,-1≤e→e≤1000→Fn PZ En 29 [cO p f n,i6 e] (cD [i6 (sd e:Int),i6 (ss e)])):
  Fn PZ En 9 [cO p f n] (dK [vI (mpr p sd ss (twq t*R) ((f (n-1)).e.toNat+3)) hb,i6 0]):=by
 have hn1:=H.n1;have hlt:n-1<n:=oM;have he0:=H.e0 _ hlt;have he1:=H.e1 _ hlt;have hq:((rows (ccs f) n).drop ((n-1)*5)).take 5=coc (f (n-1)):=bE (bC f) hlt;have wz:IntKind.i64.wrap ((n:Int)-1)=((n-1:Nat):Int):=by have:=H.n8;rw[w64 oM oM];omega
 have W2:=qZ En 2 oM oM;have C1:=mpow2 En t ht1 ht2;have C2:=dZ2 En (twq t) R ((eZ2 ht1 ht2).mono oM) (hR.mono oM);have hR':Sz 1000 (twq t*R):=(lI (eZ2 ht1 ht2) hR).mono oM;generalize twq t=R1 at*;generalize R1*R=R0 at*;obtain⟨L,hL⟩:∃L:Nat,(f (n-1)).e=(L:Int):=⟨(f (n-1)).e.toNat,oM⟩;rw[show coc (f (n-1))=[i6 L,ex (.int .i64 (f (n-1)).d),ex (.int .i64 (f (n-1)).s),ex (.bool (f (n-1)).o),ex (.int .i64 (f (n-1)).y)] by unfold coc;rw[hL]] at hq
 rw[hL] at he0 he1 ⊢;rw[Int.toNat_natCast];unfold cO vI at*;refine aA Tryz.func9 rfl Tryz.ntmps9 rfl ?_;intro w0 h0;refine vS<|vB jj<|vA jj<|vZ jj<|vS<|vL jj<|vC hX ⟨jj,trivial⟩<|jm jj<|vE jj<|vE jj<|vA jj<|vP jj<|vZ jj<|js<|vS<|jm jj<|vNf jj<|jn<|jf jj<|jp<|vS<|vL jj<|vC hT ⟨jj,trivial⟩<|jm jj<|vE jj<|vE jj<|ja jj<|vZ jj<|vS<|vC W2 ⟨jj,trivial⟩<|jm jj<|vC C1 ⟨jj,jj,trivial⟩<|jm jj<|vE jj<|vE jj<|vA jj<|vP jj<|vZ jj ?_;refine vS<|vL jj<|vF jj<|vL jj<|vC C2 ⟨jj,jj,trivial⟩<|vP jj<|vJ<|vX jj<|vX jj<|jE jj<|vSu jj wz<|vD jj hlt hq<|jS (aI jj jj)<|vT jj<|vZ jj<|js<|vS<|vZ jj<|jb ?_;refine WpD.loop (α:={k:Nat//k≤L+3}) (fun k=>⟨[(1,.ptr 1 0),(2,.ptr 2 0),(4,.ptr 4 0),(8,.ptr 8 0),(10,.one (i6 L)),(11,.one (i6 ((k.1:Int)-1)))],[(1,[i6 p,slc 5 (rows (ccs f) n) n]),(2,[ex (.bool false),ex (.slice none 0 0),ex (.bool false),ex (.slice none 0 0),ex (.bool false)]),(4,tZ R++[ex (.bool hb)]),(8,tZ (mpr p sd ss R0 k.1))]⟩) (fun k=>L+3-k.1) ⟨0,Nat.zero_le _⟩ ?_ ?_
 ·exact Sub.mk sJ sJ
 rintro⟨k,hk⟩;dsimp only at hk ⊢;have w1:IntKind.i64.wrap ((L:Int)+1)=(L:Int)+1:=w64 oM oM
 by_cases hlk:k<L+3
 ·have w2:IntKind.i64.wrap ((k:Int)-1+1)=((k+1:Nat):Int)-1:=by rw[w64 oM oM];omega
  have C3:=hS ((k:Int)-1) oM oM;have Sk:=bZP hp hp2 hd hs hR' k;have hd':=hd ((k:Int)-1);have hs':=hs ((k:Int)-1);have hm:mpr p sd ss R0 (k+1)=if 0<sd ((k:Int)-1) then mpr p sd ss R0 k*dia p (sd ((k:Int)-1)) (ss ((k:Int)-1)) else mpr p sd ss R0 k:=rfl;generalize sd ((k:Int)-1)=D at*;generalize ss ((k:Int)-1)=S at*
  by_cases h0D:0<D
  ·rw[if_pos h0D] at hm
   have C4:=aZJ En p S D hp hp2 hs'.1 hs'.2 hd';have C5:=dZ2 En (mpr p sd ss R0 k) (dia p D S) (Sk.mono oM) ((iZc hp hp2 hs'.1 hs'.2 hd').mono oM);rw[←hm] at C5;refine js<|vS<|vV jj jj<|vAd jj w1<|jS (bMt jj jj)<|jn<|jt jj<|jp<|js<|jb<|vS<|vL jj<|jm jj<|vC C3 ⟨jj,jj,trivial⟩<|vA jj<|vP jj<|vJ<|vX jj<|vGt jj<|jn<|jt jj<|jr<|vL jj<|vX jj<|vL jj<|vC C4 ⟨jj,jj,trivial⟩<|vC C5 ⟨jj,jj,trivial⟩<|vP jj<|jn<|jr<|jm jj<|vAd jj w2<|vZ jj ?_;refine⟨⟨k+1,oM⟩,?_,oD⟩;exact Sub.mk sJ sJ
  ·rw[if_neg h0D] at hm
   refine js<|vS<|vV jj jj<|vAd jj w1<|jS (bMt jj jj)<|jn<|jt jj<|jp<|js<|jb<|vS<|vL jj<|jm jj<|vC C3 ⟨jj,jj,trivial⟩<|vA jj<|vP jj<|vJ<|vX jj<|vGf jj<|jn<|jf jj<|jp<|jr<|jm jj<|vAd jj w2<|vZ jj ?_;refine⟨⟨k+1,oM⟩,?_,oD⟩;dsimp only;rw[hm];exact Sub.mk sJ sJ
 ·have:k=L+3:=oM
  subst this;refine js<|vS<|vV jj jj<|vAd jj w1<|vMf jj<|jn<|jf jj<|je<|vS<|vL jj<|vX jj<|jS (aU (ps:=[(_,_),(_,_)]) ⟨jj,Part.c jj,jj,Part.c jj,trivial⟩ jj)<|vP jj<|vZ jj<|ji ?_;exact rtD rfl jj jj jj
end
theorem fZa{p:Int}{f:Nat→Co}{n:Nat}(ha:wJ p f n)(e:Int):0≤(kin p f n e).1∧(kin p f n e).1≤9∧-1≤(kin p f n e).2∧(kin p f n e).2≤1:=by
 have H:=okA ha;have hc:=kZn H.toOkL H.rng e;unfold kin
 by_cases hp:p=2
 ·rw[if_pos hp]
  have key:(spC f e n).o=true→1≤(spC f e n).d∧(spB f e n=false→((spC f e n).y-(spC f e n).d)%2=0):=by
   intro ho;obtain⟨i,hi,he,hoi⟩:=(lZg H.toOkL).1 ho;rw[rU he hi fun j h1 h2=>by have:=H.up i j h1 h2;omega]
   refine⟨H.d0 i hi,fun hb=>jZJ ha hp hi hoi fun k hk hok=>?_⟩;have hno:¬∃i,i<n∧((f i).e=e-1∨(f i).e=e+1)∧(f i).o=true:=fun h=>by
    have:=pR.2 h;rw[hb] at this;exact Bool.noConfusion this
   rw[he];exact⟨fun h=>hno ⟨k,hk,.inl h,hok⟩,fun h=>hno ⟨k,hk,.inr h,hok⟩⟩
  obtain⟨d0,d8,s1,y0,y7⟩:=hc;generalize spC f e n=c at*;generalize spB f e n=b at*;obtain⟨ce,d,s,o,y⟩:=c;dsimp only at*;unfold dyP;dsimp only;cases o with
  |false=>
   rw[if_pos rfl];cases b with
   |false=>rw[if_pos rfl];dsimp only;omega
   |true=>rw[if_neg aD];dsimp only;omega
  |true=>
   rw[if_neg aD];obtain⟨k1,k2⟩:=key rfl;cases b with
   |true=>
    rw[if_pos rfl];split<;>(dsimp only;omega)
   |false=>
    have k2:=k2 rfl;rw[if_neg aD];have hv:(if s= -1 then(4:Int) else 0)=4∨(if s= -1 then(4:Int) else 0)=0:=by split<;>simp
    generalize(if s= -1 then(4:Int) else 0)=v at*;split
    ·dsimp only;omega
    ·split
     ·dsimp only;omega
     ·split
      ·dsimp only;omega
      ·split<;>(dsimp only;omega)
 ·rw[if_neg hp]
  obtain⟨d0,d8,s1,y0,y7⟩:=hc;dsimp only;unfold spO;refine⟨d0,oM,?_⟩;split
  ·omega
  ·split<;>omega
def mG(p:Int)(f:Nat→Co)(n:Nat):Rat:=mpr p (fun e=>(kin p f n e).1.toNat) (fun e=>(kin p f n e).2) (twq (tyN p f n)*((p:Int):Rat)^((crH f n).toNat/2)) ((f (n-1)).e.toNat+3)
theorem hZS{p:Int}{f:Nat→Co}{n:Nat}(H:OkL f n): -64≤tyN p f n∧tyN p f n≤64:=by
 have:=eZ1 H (Nat.le_refl n);have:=H.n8;unfold tyN;split<;>omega
theorem nZO{p:Int}{h:Int}(h1:2≤p)(h2:p≤9973)(hb:h≤128):Sz 700 (((p:Int):Rat)^(h.toNat/2)):=(wN (qH (z:=p) oM oM) _).mono oM
theorem mG_sz{p:Int}{f:Nat→Co}{n:Nat}(ha:wJ p f n)(hb:crH f n≤128):Sz 134217728 (mG p f n):=by
 have H:=okA ha;have:=H.e1 (n-1) (by have:=H.n1;omega)
 have hk:=fun e=>fZa ha e;obtain⟨t1,t2⟩:=hZS (p:=p) H.toOkL;exact(bZP H.p2.1 H.p2.2 (fun e=>by have:=hk e;omega) (fun e=>by have:=hk e;omega) ((lI (eZ2 t1 t2) (nZO H.p2.1 H.p2.2 hb)).mono oM) _).mono oM
end
section
open Go.RowKit Limb Num
def al(two neg:Bool)(t:Fin 8):Bool:=if two then(if neg then t==2||t==4||t==6 else t==0||t==2||t==6) else(if neg then t==3||t==5 else t==1||t==7)
theorem pairW:∀(a b sa sb:Bool) (s:Fin 8),(a=true∨b=true)→(s.1+a.toNat+b.toNat)%2=0→∃t u:Fin 8,al a sa t=true∧al b sb u=true∧(t.1+u.1)%8=s.1:=by decide+kernel
theorem oZJ:∀(sa sb:Bool) (s:Fin 8),s.1%4=2→∃t u:Fin 8,al false sa t=true∧al false sb u=true∧(t.1+u.1)%8=s.1:=by decide+kernel
theorem tripW:∀(a sa sb sc:Bool) (s:Fin 8),(s.1+a.toNat+1)%2=0→∃t u v:Fin 8,al a sa t=true∧al false sb u=true∧al false sc v=true∧(t.1+u.1+v.1)%8=s.1:=by decide+kernel
structure Okc(c:Co):Prop where
 o:c.o=true
 e0:0≤c.e
 e1:c.e≤60
 d0:1≤c.d
 d1:c.d≤8
 s:c.s=1∨c.s= -1
theorem lW{c:Co}(h:Okc c){two:Bool}(hd:c.d=1+(two.toNat:Int))(t:Fin 8)(ht:al two (decide (c.s= -1)) t=true):bR (wy c (t.1:Int)):=by
 obtain⟨h1,h2,h3,h4,h5,h6⟩:=h;have ht7:=t.2;unfold bR wy;dsimp only;rw[if_pos h1];unfold al at ht;refine⟨h2,h3,h4,h5,h6,oM,oM,?_⟩;cases two with
 |true=>
  have hd:c.d=2:=hd;rcases h6 with e|e
  ·rw[e,decide_eq_false aD] at ht
   simp at ht;rcases ht with(rfl|rfl)|rfl<;>(rw[hd,e];decide)
  ·rw[e,decide_eq_true rfl] at ht
   simp at ht;rcases ht with(rfl|rfl)|rfl<;>(rw[hd,e];decide)
 |false=>
  have hd:c.d=1:=hd;rcases h6 with e|e
  ·rw[e,decide_eq_false aD] at ht
   simp at ht;rcases ht with rfl|rfl<;>(rw[hd,e];decide)
  ·rw[e,decide_eq_true rfl] at ht
   simp at ht;rcases ht with rfl|rfl<;>(rw[hd,e];decide)
theorem dZ1{c:Co}(h:Okc c)(hd:3≤c.d){t:Nat}(ht:t<8)(hp:((t:Int)-c.d)%2=0):bR (wy c (t:Int)):=by
 obtain⟨h1,h2,h3,h4,h5,h6⟩:=h;unfold bR wy;dsimp only;rw[if_pos h1];exact⟨h2,h3,h4,h5,h6,oM,oM,hp,oM,oM,oM,oM⟩
theorem jZx{c:Co}(h:Okc c):∃t:Nat,t<8∧((t:Int)-c.d)%2=0∧bR (wy c (t:Int)):=by
 have h4:=h.d0
 by_cases d1:c.d=1
 ·rcases h.s with e|e
  ·exact⟨1,oM,oM,lW h (two:=false) d1 1 (by rw[e];decide)⟩
  ·exact⟨3,oM,oM,lW h (two:=false) d1 3 (by rw[e];decide)⟩
 ·by_cases d2:c.d=2
  ·rcases h.s with e|e
   ·exact⟨2,oM,oM,lW h (two:=true) d2 2 (by rw[e];decide)⟩
   ·exact⟨2,oM,oM,lW h (two:=true) d2 2 (by rw[e];decide)⟩
  ·exact⟨(c.d%2).toNat,oM,oM,dZ1 h oM oM oM⟩
theorem lZP{c:Co}(h:c.o=true){t:Nat}(hl:bR (wy c (t:Int))):((t:Int)-c.d)%2=0:=by
 unfold bR wy at hl;dsimp only at hl;rw[if_pos h] at hl;exact hl.2.2.2.2.2.2.2.1
def dS(h:Nat→Co):List Nat→Int
 |[]=>0
 |i::l=>(h i).d+dS h l
theorem cZp{h:Nat→Co}:∀{l:List Nat} {s:Nat},(∀i∈l,(h i).o=true)→fea h l s→((s:Int)-dS h l)%2=0
 |[],s,_,hf=>by unfold fea at hf;unfold dS;omega
 |i::l,s,ho,hf=>by
  obtain⟨t,ht,h1,h2⟩:=fP.1 hf;have p1:=lZP (ho i (by simp)) h1
  have p2:=cZp (fun j hj=>ho j (by simp[hj])) h2
  unfold dS;omega
def hZ2(h:Nat→Co)(l:List Nat):Prop:=∀s:Nat,((s:Int)-dS h l)%2=0→fea h l s
theorem aZW{h:Nat→Co}{a:Nat}{l:List Nat}(ha:Okc (h a))(hl:hZ2 h l):hZ2 h (a::l):=fun s hs=>by
 obtain⟨t,ht,hp,hg⟩:=jZx ha;unfold dS at hs;exact fP.2 ⟨t,ht,hg,hl _ oM⟩
theorem dZJ{h:Nat→Co}:∀{l:List Nat},(∀i∈l,Okc (h i))→∃s,fea h l s
 |[],_=>⟨0,by unfold fea;rfl⟩
 |i::l,ho=>by
  obtain⟨t,ht,_,hg⟩:=jZx (ho i (by simp))
  obtain⟨s,hs⟩:=dZJ (l:=l) fun j hj=>ho j (by simp[hj])
  exact⟨s+t,fP.2 ⟨t,ht,hg,(gI oM).1 hs⟩⟩
theorem uJ{h:Nat→Co}{a:Nat}{l:List Nat}(ha:Okc (h a))(hd:3≤(h a).d)(hl:∀i∈l,Okc (h i)):hZ2 h (a::l):=fun s hs=>by
 obtain⟨s0,h0⟩:=dZJ hl;have p0:=cZp (fun i hi=>(hl i hi).o) h0;unfold dS at hs;exact fP.2 ⟨(s+7*s0)%8,Nat.mod_lt _ aD,dZ1 ha hd (Nat.mod_lt _ aD) oM,(gI oM).1 h0⟩
theorem cls{c:Co}(h:Okc c)(hd:¬3≤c.d):∃two:Bool,c.d=1+(two.toNat:Int):=by
 have:=h.d0
 by_cases e:c.d=1
 ·exact⟨false,e⟩
 ·exact⟨true,by show c.d=1+1;omega⟩
theorem cZo{h:Nat→Co}{a b:Nat}{s:Nat}{t u:Nat}(ht:t<8)(hu:u<8)(h1:bR (wy (h a) (t:Int)))(h2:bR (wy (h b) (u:Int)))(hs:(t+u)%8=s%8):fea h [a,b] s:=
 fP.2 ⟨t,ht,h1,fP.2 ⟨u,hu,h2,by unfold fea;omega⟩⟩
theorem hZ1{h:Nat→Co}{a b:Nat}(ha:Okc (h a))(hb:Okc (h b))(hn:¬((h a).d=1∧(h b).d=1)):hZ2 h [a,b]:=by
 by_cases d1:3≤(h a).d
 ·exact uJ ha d1 (fun i hi=>by simp at hi;rw[hi];exact hb)
 ·by_cases d2:3≤(h b).d
  ·exact aZW ha (uJ hb d2 (fun i hi=>by cases hi))
  ·intro s hs
   obtain⟨x,hx⟩:=cls ha d1;obtain⟨y,hy⟩:=cls hb d2;unfold dS dS dS at hs;have hxy:x=true∨y=true:=by
    cases x with
    |true=>exact .inl rfl
    |false=>
     cases y with
     |true=>exact .inr rfl
     |false=>exact absurd ⟨hx,hy⟩ hn
   obtain⟨t,u,h1,h2,h3⟩:=pairW x y (decide ((h a).s= -1)) (decide ((h b).s= -1)) ⟨s%8,Nat.mod_lt _ aD⟩ hxy oD;exact cZo t.2 u.2 (lW ha hx t h1) (lW hb hy u h2) h3
theorem hZ0{h:Nat→Co}{a b c:Nat}(ha:Okc (h a))(hb:Okc (h b))(hc:Okc (h c))(d2:(h b).d=1)(d3:(h c).d=1):hZ2 h [a,b,c]:=by
 by_cases d1:3≤(h a).d
 ·refine uJ ha d1 (fun i hi=>?_)
  simp at hi;rcases hi with rfl|rfl
  ·exact hb
  ·exact hc
 ·intro s hs
  obtain⟨x,hx⟩:=cls ha d1;unfold dS dS dS dS at hs;obtain⟨t,u,v,h1,h2,h3,h4⟩:=tripW x (decide ((h a).s= -1)) (decide ((h b).s= -1)) (decide ((h c).s= -1)) ⟨s%8,Nat.mod_lt _ aD⟩ oD;have h4:(t.1+u.1+v.1)%8=s%8:=h4;have:=t.2;exact fP.2 ⟨t.1,t.2,lW ha hx t h1,cZo u.2 v.2 (lW hb (two:=false) d2 u h2) (lW hc (two:=false) d3 v h3) oM⟩
theorem dZD{h:Nat→Co}:∀{l:List Nat},(∀i∈l,Okc (h i))→2≤l.length→¬(l.length=2∧(h (l.getD 0 0)).d=1∧(h (l.getD 1 0)).d=1)→hZ2 h l
 |[],_,h2,_=>by simp at h2
 |[_],_,h2,_=>by simp at h2
 |[a,b],ho,_,hn=>hZ1 (ho a (by simp)) (ho b (by simp)) (fun hd=>hn ⟨rfl,hd⟩)
 |a::b::c::r,ho,_,_=>by
  by_cases hb:(b::c::r).length=2∧(h ((b::c::r).getD 0 0)).d=1∧(h ((b::c::r).getD 1 0)).d=1
  ·obtain⟨h1,h2,h3⟩:=hb
   have hr:r=[]:=by
    cases r with
    |nil=>rfl
    |cons=>simp at h1
   subst hr;exact hZ0 (ho a (by simp)) (ho b (by simp)) (ho c (by simp)) h2 h3
  ·exact aZW (ho a (by simp)) (dZD (l:=b::c::r) (fun i hi=>ho i (List.mem_cons_of_mem _ hi)) (by simp) hb)
theorem jZP{h:Nat→Co}{l:List Nat}{s:Nat}(ho:∀i∈l,Okc (h i))(h2:2≤l.length)(hg:l.length≠2∨(h (l.getD 0 0)).d≠1∨(h (l.getD 1 0)).d≠1∨s%4≠0)(hf:fea h l s):fea h l (s+4):=by
 have hp:=cZp (fun i hi=>(ho i hi).o) hf
 by_cases hn:l.length=2∧(h (l.getD 0 0)).d=1∧(h (l.getD 1 0)).d=1
 ·obtain⟨n1,n2,n3⟩:=hn
  match l,n1 with
  |[a,b],_=>
   have n2:(h a).d=1:=n2;have n3:(h b).d=1:=n3;unfold dS dS dS at hp;obtain⟨t,u,q1,q2,q3⟩:=oZJ (decide ((h a).s= -1)) (decide ((h b).s= -1)) ⟨(s+4)%8,Nat.mod_lt _ aD⟩ (by
    dsimp only;rcases hg with g|g|g|g
    ·exact absurd rfl g
    ·exact absurd n2 g
    ·exact absurd n3 g
    ·omega)
   exact cZo t.2 u.2 (lW (ho a (by simp)) (two:=false) n2 t q1) (lW (ho b (by simp)) (two:=false) n3 u q2) q3
 ·exact dZD ho h2 hn (s+4) oM
theorem jZw{c c':Co}(h:Okc c)(hc:c'.e=c.e∧c'.d=c.d∧c'.s= -c.s∧c'.o=c.o){t:Nat}(ht:t<8)(hl:bR (wy c (t:Int))):bR (wy c' (((t+4)%8:Nat):Int)):=by
 obtain⟨c1,c2,c3,c4⟩:=hc;unfold bR wy at*;dsimp only at*;rw[c1,c2,c3,c4];rw[if_pos h.o] at hl ⊢;obtain⟨a1,a2,a3,a4,a5,a6,a7,a8,a9,a10,a11,a12⟩:=hl;refine⟨a1,a2,a3,a4,oM,oM,oM,oM,?_,?_,?_,?_⟩
 ·rintro⟨x,y⟩;have:=a10 ⟨x,oM⟩;omega
 ·rintro⟨x,y⟩;have:=a9 ⟨x,oM⟩;omega
 ·rintro⟨x,y⟩;have:=a12 ⟨x,oM⟩;omega
 ·rintro⟨x,y⟩;have:=a11 ⟨x,oM⟩;omega
theorem sR{g h:Nat→Co}{x:Nat}(hx:Okc (g x))(hc:(h x).e=(g x).e∧(h x).d=(g x).d∧(h x).s= -(g x).s∧(h x).o=(g x).o):∀{l:List Nat} {s:Nat},l.Pairwise (· < ·)→x∈l→(∀j∈l,j≠x→∀t,wy (h j) t=wy (g j) t)→fea g l s→fea h l (s+4)
 |a::l,s,hp,hm,hw,hf=>by
  obtain⟨t,ht,h1,h2⟩:=fP.1 hf;obtain⟨p1,p2⟩:=List.pairwise_cons.1 hp
  by_cases e:a=x
  ·subst e
   have hno:∀j∈l,j≠a:=fun j hj e=>by have:=p1 j hj;omega
   refine fP.2 ⟨(t+4)%8,Nat.mod_lt _ aD,jZw hx hc ht h1,?_⟩;have:fea h l (s+(8-t)):=(nI fun j hj u=>hw j (by simp[hj]) (hno j hj) u).2 h2
   exact(gI oM).1 this
  ·have hm':x∈l:=(List.mem_cons.1 hm).resolve_left (fun e'=>e e'.symm)
   refine fP.2 ⟨t,ht,by rw[hw a (by simp) e];exact h1,?_⟩
   have:=sR hx hc p2 hm' (fun j hj=>hw j (by simp[hj])) h2
   exact(gI oM).1 this
end
section
open Go.RowKit Limb Num
section
variable(En:Ev)
end
theorem gZy{f g:Nat→Co}:∀{n:Nat},(∀i,i<n→(g i).d=(f i).d)→dJ g n=dJ f n
 |0,_=>rfl
 |n+1,h=>by rw[dJ,dJ,gZy fun i hi=>h i oM,h n oM]
theorem iZk{f g:Nat→Co}:∀{n:Nat},(∀i,i<n→(g i).e=(f i).e∧(g i).d=(f i).d)→shU f n→shU g n
 |0,_,_=>trivial
 |n+1,h,hs=>by
  have hl:iN g n=iN f n:=by
   unfold iN;split
   ·rfl
   ·exact(h (n-1) oM).1
  refine⟨iZk (fun i hi=>h i oM) hs.1,?_⟩;rw[hl,(h n oM).1,(h n oM).2,gZy fun i hi=>(h i oM).2];exact hs.2
theorem gZh{f:Nat→Co}:∀{m:Nat},lgU f m↔∀i,i<m→bR (f i)
 |0=>by unfold lgU;exact⟨fun _ k h=>absurd h (Nat.not_lt_zero _),fun _=>trivial⟩
 |m+1=>by
  unfold lgU;rw[gZh];constructor
  ·rintro⟨a,b⟩ k hk
   rcases Nat.lt_or_ge k m with h|h
   ·exact a k h
   ·rw[show k=m by omega];exact b
  ·intro h;exact⟨fun k hk=>h k oM,h m oM⟩
end
section
open Go.RowKit Limb Num
theorem nJ{f g:Nat→Co}(h:Like f g)(n:Nat):aL g n=aL f n:=by
 unfold aL;have h1:(fun i=>(g i).o)=fun i=>(f i).o:=funext h.o;have h2:oI g=oI f:=by
  funext i
  exact decide_eq_decide.2 (by rw[h.e,h.e])
 rw[h1,h2]
theorem dZT:∀{G:List (List Nat)} {i:Nat},cof G i≠[]→i∈cof G i
 |[],_,h=>absurd rfl h
 |g::G,i,h=>by
  rw[cof] at h ⊢;split
  ·assumption
  ·rename_i hn
   rw[if_neg hn] at h;exact dZT h
theorem hZ7{f:Nat→Co}{n i:Nat}{γ:List Nat}(hγ:γ∈aL f n)(h0:0<i)(h1:i∈γ)(h2:i-1∈γ):(f i).e=(f (i-1)).e+1:=by
 have hr:Run (oI f) γ:=aZb _ hγ;have ha:=qG (gQ f n) hγ;obtain⟨a,ha1,e1⟩:=List.getElem_of_mem h2;obtain⟨b,hb1,e2⟩:=List.getElem_of_mem h1;have hab:a<b:=by
  rcases Nat.lt_trichotomy a b with h|h|h
  ·exact h
  ·subst h;omega
  ·have:=List.pairwise_iff_getElem.1 ha b a hb1 ha1 h;omega
 obtain⟨r1,r2⟩:=hr a oM;have g1:γ.getD a 0=i-1:=by simp[List.getD,List.getElem?_eq_getElem ha1,e1]
 rw[r1,g1,show i-1+1=i by omega] at r2
 exact of_decide_eq_true r2
theorem nZu(g:Nat→Co)(x j:Nat):(tuy g x j).y=if j=x then((g j).y+4)%8 else(g j).y:=by
 unfold tuy;split
 ·rename_i e;subst e;rfl
 ·rfl
theorem hZY(g:Nat→Co)(x j:Nat):(tuy g x j).s=(g j).s:=by
 unfold tuy;split
 ·rename_i e;subst e;rfl
 ·rfl
theorem aZt(g:Nat→Co)(x j:Nat):(tus g x j).s=if j=x then-(g j).s else(g j).s:=by
 unfold tus;split
 ·rename_i e;subst e;rfl
 ·rfl
theorem rS{f:Nat→Co}{n i:Nat}(h0:0<i)(j:Nat):(stp f n i j).s=if j=i∨j=i-1 then-(f j).s else(f j).s:=by
 have h:(tus (tus f i) (i-1) j).s=if j=i∨j=i-1 then-(f j).s else(f j).s:=by
  rw[aZt,aZt]
  by_cases a:j=i
  ·rw[if_neg oM,if_pos a,if_pos (.inl a)]
  ·by_cases b:j=i-1
   ·rw[if_pos b,if_neg a,if_pos (.inr b)]
   ·rw[if_neg b,if_neg a,if_neg oM]
 unfold stp;split
 ·rw[hZY]
  split
  ·rw[hZY];exact h
  ·exact h
 ·split
  ·rw[hZY];exact h
  ·exact h
theorem iZd{f:Nat→Co}{n i:Nat}(j:Nat):(stp f n i j).y=if(0<(cof (aL f n) (i-1)).length∧(cof (aL f n) (i-1)).getD 0 0=j)∨(0<(cof (aL f n) i).length∧(cof (aL f n) i).getD 0 0=j) then((f j).y+4)%8 else(f j).y:=by
 have h:(tus (tus f i) (i-1) j).y=(f j).y:=by rw[fZ4,fZ4]
 unfold stp;generalize cof (aL f n) (i-1)=P at*;generalize cof (aL f n) i=Q at*;generalize tus (tus f i) (i-1)=g at*;have hP:(if 0<P.length then tuy g (P.getD 0 0) else g) j=if 0<P.length then tuy g (P.getD 0 0) j else g j:=by split<;>rfl
 have hPy:((if 0<P.length then tuy g (P.getD 0 0) else g) j).y=if 0<P.length∧P.getD 0 0=j then((f j).y+4)%8 else(f j).y:=by
  rw[hP]
  by_cases a:0<P.length
  ·rw[if_pos a,nZu,h]
   by_cases b:j=P.getD 0 0
   ·rw[if_pos b,if_pos ⟨a,b.symm⟩]
   ·rw[if_neg b,if_neg (fun q=>b q.2.symm)]
  ·rw[if_neg a,if_neg (fun q=>a q.1),h]
 generalize(if 0<P.length then tuy g (P.getD 0 0) else g)=g1 at*
 by_cases c:0<Q.length∧(P.length=0∨P.getD 0 0≠Q.getD 0 0)
 ·rw[if_pos c,nZu,hPy]
  by_cases b:j=Q.getD 0 0
  ·have hn:¬(0<P.length∧P.getD 0 0=j):=fun q=>by
    rcases c.2 with z|z
    ·have:=q.1;omega
    ·exact z (q.2.trans b)
   rw[if_pos b,if_neg hn,if_pos (.inr ⟨c.1,b.symm⟩)]
  ·rw[if_neg b]
   by_cases a:0<P.length∧P.getD 0 0=j
   ·rw[if_pos a,if_pos (.inl a)]
   ·rw[if_neg a,if_neg (fun q=>q.elim a (fun q=>b q.2.symm))]
 ·rw[if_neg c,hPy]
  by_cases a:0<P.length∧P.getD 0 0=j
  ·rw[if_pos a,if_pos (.inl a)]
  ·rw[if_neg a,if_neg (fun q=>q.elim a (fun q=>by
    by_cases z:P.length=0
    ·exact c ⟨q.1,.inl z⟩
    ·by_cases y:P.getD 0 0=Q.getD 0 0
     ·exact a ⟨oM,y.trans q.2⟩
     ·exact c ⟨q.1,.inr y⟩))]
theorem dZ6{f:Nat→Co}{n:Nat}{γ:List Nat}(hγ:γ∈aL f n)(x:Nat){j:Nat}(hj:j∈γ):(0<(cof (aL f n) x).length∧(cof (aL f n) x).getD 0 0=j)↔(x∈γ∧γ.getD 0 0=j):=by
 constructor
 ·rintro⟨h1,h2⟩
  have hne:cof (aL f n) x≠[]:=List.length_pos_iff.1 h1;have hm:cof (aL f n) x∈aL f n:=(oF _ _).resolve_left hne;have hh:=jN h1;rw[h2] at hh;have e1:=uS (gQ f n) hm hh;have e2:=uS (gQ f n) hγ hj;have e:cof (aL f n) x=γ:=e1.symm.trans e2;have hs:=dZT hne;rw[e] at hs h2;exact⟨hs,h2⟩
 ·rintro⟨h1,h2⟩
  rw[uS (gQ f n) hγ h1];exact⟨List.length_pos_iff.2 (oE _ hγ),h2⟩
theorem bZu{f:Nat→Co}{n i:Nat}{γ:List Nat}(hγ:γ∈aL f n){j:Nat}(hj:j∈γ):(stp f n i j).y=if(i∈γ∨i-1∈γ)∧γ.getD 0 0=j then((f j).y+4)%8 else(f j).y:=by
 rw[iZd];have h1:=dZ6 hγ (i-1) hj;have h2:=dZ6 hγ i hj
 by_cases c:(i∈γ∨i-1∈γ)∧γ.getD 0 0=j
 ·rw[if_pos c,if_pos]
  rcases c.1 with q|q
  ·exact .inr (h2.2 ⟨q,c.2⟩)
  ·exact .inl (h1.2 ⟨q,c.2⟩)
 ·rw[if_neg c,if_neg]
  rintro(q|q)
  ·exact c ⟨.inr (h1.1 q).1,(h1.1 q).2⟩
  ·exact c ⟨.inl (h2.1 q).1,(h2.1 q).2⟩
theorem oZy{f:Nat→Co}{n i j:Nat}(ho:(f j).o=false):(stp f n i j).y=(f j).y:=by
 rw[iZd,if_neg];have key:∀x,¬(0<(cof (aL f n) x).length∧(cof (aL f n) x).getD 0 0=j):=by
  rintro x ⟨h1,h2⟩;have hm:cof (aL f n) x∈aL f n:=(oF _ _).resolve_left (List.length_pos_iff.1 h1);have:=(jU.1 (List.mem_flatten.2 ⟨_,hm,jN h1⟩)).2;rw[h2,ho] at this;exact Bool.noConfusion this
 rintro(q|q)
 ·exact key _ q
 ·exact key _ q
theorem cZl{f:Nat→Co}{n:Nat}(h:lD 2 f n):Rng f n:=fun _ hi=>⟨(gH h.2.1 hi).1,(gH h.2.1 hi).2.1,(gH h.2.1 hi).2.2.1⟩
theorem zH{f g:Nat→Co}(h:Like f g)(γ:List Nat):∀k,gsm g γ k=gsm f γ k
 |0=>rfl
 |k+1=>by rw[gsm,gsm,zH h γ k,h.d]
theorem shl{f g:Nat→Co}{n:Nat}(h:Like f g)(hs:shU f n):shU g n:=iZk (fun i _=>⟨h.e i,h.d i⟩) hs
theorem fZB{f:Nat→Co}{n i:Nat}(hf:lD 2 f n)(hi:i<n):lD 2 (stp f n i) n:=by
 have hL:=nH f n i;have hR:=fZK (cZl hf) hi;refine⟨⟨rfl,hf.1.2.1,shl hL hf.1.2.2⟩,cZn.2 fun j hj=>⟨(hR j hj).1,(hR j hj).2.1,(hR j hj).2.2,fun ho=>?_⟩,?_⟩
 ·rw[hL.o] at ho
  rw[hL.d,oZy ho];exact(gH hf.2.1 hj).2.2.2 ho
 ·rw[nJ hL,qA (Nat.le_refl _),List.take_length]
  have hG:=(qA (Nat.le_refl _)).1 hf.2.2;rw[List.take_length] at hG;intro γ hγ;obtain⟨g1,g2⟩:=hG γ hγ;have hl0:0<γ.length:=List.length_pos_iff.2 (oE _ hγ);refine⟨zJ.2 fun k hk h0=>?_,?_⟩
  ·have hm:=mC 0 hk
   rw[bZu hγ hm,if_neg (fun q=>eZi (qG (gQ f n) hγ) h0 hk q.2)];exact zJ.1 g1 k hk h0
  ·rw[zH hL,bZu hγ (jN hl0)]
   split<;>omega
theorem gZr{f:Nat→Co}{n j:Nat}(hf:lD 2 f n)(hj:j<n)(ho:(f j).o=true):Okc (f j):=by
 have h:=dX hf.1.2.2 hj;exact⟨ho,h.1,h.2.1,h.2.2.1,h.2.2.2,(gH hf.2.1 hj).1⟩
theorem cZC{c c':Co}(h1:c'.e=c.e)(h2:c'.d=c.d)(h3:c'.s=c.s)(h4:c'.o=c.o)(t:Int):wy c' t=wy c t:=by
 unfold wy;rw[h1,h2,h3,h4]
theorem oZz{f:Nat→Co}{n i:Nat}(hf:lD 2 f n)(hfe:FEs f (aL f n))(h0:0<i)(hi:i<n)(hl:lnk f n i=true):FEs (stp f n i) (aL (stp f n i) n):=by
 have hL:=nH f n i;have hf':=fZB hf hi;have hG:=(qA (Nat.le_refl _)).1 hf.2.2;rw[List.take_length] at hG;rw[nJ hL];intro γ hγ;have hfγ:fea f γ (f (γ.getD 0 0)).y.toNat:=hfe γ hγ;have hl0:0<γ.length:=List.length_pos_iff.2 (oE _ hγ);have hasc:=qG (gQ f n) hγ;have hmem:∀j∈γ,j<n∧(f j).o=true:=fun j hj=>jU.1 (List.mem_flatten.2 ⟨_,hγ,hj⟩);have hok:∀j∈γ,Okc (f j):=fun j hj=>gZr hf (hmem j hj).1 (hmem j hj).2;have hok':∀j∈γ,Okc (stp f n i j):=fun j hj=>gZr hf' (hmem j hj).1 (by rw[hL.o];exact(hmem j hj).2)
 have hy0:=(cZl hf _ (hmem _ (jN hl0)).1).2;show fea (stp f n i) γ (stp f n i (γ.getD 0 0)).y.toNat
 rw[bZu hγ (jN hl0)];have one:∀x,x∈γ→(x=i∨x=i-1)→(∀j∈γ,j≠x→j≠i∧j≠i-1)→fea (stp f n i) γ ((f (γ.getD 0 0)).y.toNat+4):=fun x hx hxi hno=>
  sR (hok x hx) ⟨hL.e x,hL.d x,by rw[rS h0,if_pos hxi],hL.o x⟩ hasc hx (fun j hj hne t=>cZC (hL.e j) (hL.d j) (by rw[rS h0,if_neg (fun q=>q.elim (hno j hj hne).1 (hno j hj hne).2)]) (hL.o j) t) hfγ
 have fin4:fea (stp f n i) γ ((f (γ.getD 0 0)).y.toNat+4)→fea (stp f n i) γ (((f (γ.getD 0 0)).y+4)%8).toNat:=fun h=>(gI oM).1 h
 by_cases a:i∈γ
 ·rw[if_pos ⟨.inl a,rfl⟩]
  refine fin4 ?_
  by_cases b:i-1∈γ
  ·have hee:=hZ7 hγ h0 a b
   have hcof:=uS (gQ f n) hγ a;have hgd:kD f γ:=by
    unfold lnk at hl;rw[if_pos oM,if_pos ⟨(hmem _ b).2,(hmem _ a).2⟩,hcof] at hl;exact of_decide_eq_true hl
   have L1:=yW f i;have f1:fea (tus f i) γ ((f (γ.getD 0 0)).y.toNat+4):=sR (hok i a) ⟨L1.e i,L1.d i,by rw[aZt,if_pos rfl],L1.o i⟩ hasc a (fun j hj hne t=>cZC (L1.e j) (L1.d j) (by rw[aZt,if_neg hne]) (L1.o j) t) hfγ
   have hne:i-1≠i:=oM;have hokm:Okc (tus f i (i-1)):=by
    have:tus f i (i-1)=f (i-1):=by unfold tus;rw[if_neg hne]
    rw[this];exact hok _ b
   have f2:fea (stp f n i) γ ((f (γ.getD 0 0)).y.toNat+4+4):=sR hokm ⟨by rw[hL.e,L1.e],by rw[hL.d,L1.d],by rw[rS h0,if_pos (.inr rfl),aZt,if_neg hne],by rw[hL.o,L1.o]⟩ hasc b (fun j hj hnj t=>cZC (by rw[hL.e,L1.e]) (by rw[hL.d,L1.d]) (by
    rw[rS h0,aZt]
    by_cases e:j=i
    ·rw[if_pos (.inl e),if_pos e]
    ·rw[if_neg (fun q=>q.elim e hnj),if_neg e]) (by rw[hL.o,L1.o]) t) f1
   have f3:fea (stp f n i) γ (f (γ.getD 0 0)).y.toNat:=(gI oM).1 f2;have hlen:2≤γ.length:=by
    match γ,a,b with
    |[x],a,b=>simp at a b;omega
    |_::_::_,_,_=>simp
   refine jZP hok' hlen ?_ f3;rw[hL.d,hL.d];rcases hgd with q|q|q|q
   ·exact .inl q
   ·exact .inr (.inl q)
   ·exact .inr (.inr (.inl q))
   ·by_cases h2:γ.length=2
    ·have hz:=zJ.1 (hG γ hγ).1 1 oM oM
     rw[hz] at q;exact .inr (.inr (.inr oM))
    ·exact .inl h2
  ·exact one i a (.inl rfl) fun j hj hne=>⟨hne,fun q=>b (by rw[←q];exact hj)⟩
 ·by_cases b:i-1∈γ
  ·rw[if_pos ⟨.inr b,rfl⟩]
   exact fin4 (one (i-1) b (.inr rfl) fun j hj hne=>⟨fun q=>a (by rw[←q];exact hj),hne⟩)
  ·rw[if_neg (fun q=>q.1.elim a b)]
   exact(nI fun j hj t=>cZC (hL.e j) (hL.d j) (by rw[rS h0,if_neg (fun q=>q.elim (fun q=>a (by rw[←q];exact hj)) (fun q=>b (by rw[←q];exact hj)))]) (hL.o j) t).2 hfγ
theorem stp_lnk{f:Nat→Co}{n i:Nat}:lnk (stp f n i) n=lnk f n:=by
 have hL:=nH f n i;have y4:∀j,(stp f n i j).y%4=(f j).y%4:=fun j=>by
  rw[iZd];split<;>omega
 funext j
 unfold lnk;rw[nJ hL,hL.e,hL.e,hL.o,hL.o];have hg:decide (kD (stp f n i) (cof (aL f n) j))=decide (kD f (cof (aL f n) j)):=by
  refine decide_eq_decide.2 ?_;unfold kD;rw[hL.d,hL.d];have a:=y4 ((cof (aL f n) j).getD 0 0);have b:=y4 ((cof (aL f n) j).getD 1 0);rw[show((stp f n i ((cof (aL f n) j).getD 0 0)).y+(stp f n i ((cof (aL f n) j).getD 1 0)).y)%4=((f ((cof (aL f n) j).getD 0 0)).y+(f ((cof (aL f n) j).getD 1 0)).y)%4 by omega]
 rw[hg]
theorem mZp{c c':Co}{b:Bool}(h1:c'.d=c.d)(h2:c'.o=c.o)(h3:c.o=false→b=false→c'.s=c.s)(h4:c.o=true→b=false→(c'.y+(if c'.s= -1 then 4 else 0))%8=(c.y+(if c.s= -1 then 4 else 0))%8):dyP c' b=dyP c b:=by
 unfold dyP;rw[h1,h2];cases ho:c.o with
 |false=>
  cases b with
  |false=>rw[h3 ho rfl];rfl
  |true=>rfl
 |true=>
  cases b with
  |false=>rw[h4 ho rfl];rfl
  |true=>rfl
theorem iZe{f g:Nat→Co}(h:Like f g)(e:Int)(n:Nat):spB g e n=spB f e n:=by
 rw[Bool.eq_iff_iff,pR,pR];exact exists_congr fun i=>by rw[h.e,h.o]
theorem dZ3{f g:Nat→Co}{n:Nat}(H:OkL f n)(h:Like f g)(hs:∀j,j<n→(f j).o=false→spB f (f j).e n=false→(g j).s=(f j).s)(hy:∀j,j<n→(f j).o=true→spB f (f j).e n=false→((g j).y+(if(g j).s= -1 then 4 else 0))%8=((f j).y+(if(f j).s= -1 then 4 else 0))%8)(e:Int):kin 2 g n e=kin 2 f n e:=by
 unfold kin;rw[if_pos rfl,if_pos rfl,iZe h]
 by_cases hx:∃j,j<n∧(f j).e=e
 ·obtain⟨j,hj,he⟩:=hx
  rw[rU (f:=g) (i:=j) (by rw[h.e];exact he) hj fun k h1 h2=>by rw[h.e];have:=H.up j k h1 h2;omega,rU (f:=f) he hj fun k h1 h2=>by have:=H.up j k h1 h2;omega]
  rw[←he];exact mZp (h.d j) (h.o j) (hs j hj) (hy j hj)
 ·have hno:∀j,j<n→(f j).e≠e:=fun j hj he=>hx ⟨j,hj,he⟩
  rw[xL (f:=g) fun j hj=>by rw[h.e];exact hno j hj,xL hno]
theorem gZs{f:Nat→Co}{n j:Nat}(hj:j<n)(ho:(f j).o=true)(hb:spB f (f j).e n=false):cof (aL f n) j=[j]:=by
 refine dZF hj ho fun k hk hok=>?_;have hno:¬∃i,i<n∧((f i).e=(f j).e-1∨(f i).e=(f j).e+1)∧(f i).o=true:=fun h=>by
  have:=pR.2 h;rw[hb] at this;exact Bool.noConfusion this
 exact⟨fun h=>hno ⟨k,hk,.inl h,hok⟩,fun h=>hno ⟨k,hk,.inr h,hok⟩⟩
theorem lZf{f:Nat→Co}{n i:Nat}(hf:lD 2 f n)(h0:0<i)(hi:i<n)(hl:lnk f n i=true)(e:Int):kin 2 (stp f n i) n e=kin 2 f n e:=by
 have hL:=nH f n i;refine dZ3 (uB hf.1.2.1 hf.1.2.2) hL (fun j hj ho hb=>?_) (fun j hj ho hb=>?_) e
 ·rw[rS h0,if_neg]
  intro hji;have hno:¬∃k,k<n∧((f k).e=(f j).e-1∨(f k).e=(f j).e+1)∧(f k).o=true:=fun h=>by
   have:=pR.2 h;rw[hb] at this;exact Bool.noConfusion this
  unfold lnk at hl
  by_cases d1:(f i).e-(f (i-1)).e=1
  ·rw[if_pos d1] at hl
   rcases hji with q|q
   ·subst q
    rw[if_neg (by rw[ho];simp),ho,Bool.or_false] at hl
    exact hno ⟨j-1,oM,.inl oM,hl⟩
   ·rw[←q] at hl d1
    rw[if_neg (by rw[ho];simp),ho,Bool.false_or] at hl
    exact hno ⟨i,hi,.inr oM,hl⟩
  ·rw[if_neg d1] at hl
   split at hl
   ·rcases hji with q|q
    ·subst q;rw[ho,Bool.and_false] at hl;exact Bool.noConfusion hl
    ·rw[←q,ho,Bool.false_and] at hl;exact Bool.noConfusion hl
   ·exact Bool.noConfusion hl
 ·have hc:=gZs hj ho hb
  have hγ:[j]∈aL f n:=by
   have:=(sW (jU.2 ⟨hj,ho⟩)).1;rwa[hc] at this
  have hr:=cZl hf j hj;rw[bZu hγ (List.mem_singleton.2 rfl),rS h0]
  by_cases a:j=i∨j=i-1
  ·rw[if_pos ⟨a.elim (fun q=> .inl (by rw[q];simp)) (fun q=> .inr (by rw[q];simp)),rfl⟩,if_pos a]
   rcases hr.1 with s|s
   ·rw[s,if_pos aD,if_neg aD];omega
   ·rw[s,if_neg aD,if_pos aD];omega
  ·rw[if_neg (fun q=>a (q.1.elim (fun z=> .inl (List.mem_singleton.1 z).symm) (fun z=> .inr (List.mem_singleton.1 z).symm))),if_neg a]
def aZi(f:Nat→Co):List Nat→Nat
 |[]=>0
 |i::l=>(f i).y.toNat+aZi f l
theorem dZK{f:Nat→Co}:∀{l:List Nat} {s:Nat},(∀i∈l,bR (f i))→s%8=aZi f l%8→fea f l s
 |[],s,_,h=>by unfold fea;unfold aZi at h;omega
 |i::l,s,hg,h=>by
  have h1:=hg i (by simp)
  have hy:0≤(f i).y∧(f i).y≤7:=by unfold bR at h1;omega
  unfold aZi at h;refine fP.2 ⟨(f i).y.toNat,oM,?_,dZK (fun j hj=>hg j (by simp[hj])) oM⟩
  rw[Int.toNat_of_nonneg hy.1];exact h1
theorem aZu(f:Nat→Co)(x:Nat):∀l,aZi f (l++[x])=aZi f l+(f x).y.toNat
 |[]=>by show(f x).y.toNat+0=0+_;omega
 |i::l=>by rw[List.cons_append,aZi,aZi,aZu f x l];omega
theorem fZx{f:Nat→Co}{g:List Nat}(hg:∀i∈g,0≤(f i).y):∀{k:Nat},k≤g.length→ysm f g k=(aZi f (g.take k):Int)
 |0,_=>rfl
 |k+1,h=>by
  have hm:g.getD k 0∈g:=by simp[List.getD,List.getElem?_eq_getElem (show k<g.length by omega)]
  have e:g.take (k+1)=g.take k++[g.getD k 0]:=by rw[List.take_succ_eq_append_getElem oM];simp[List.getD,List.getElem?_eq_getElem (show k<g.length by omega)]
  rw[ysm,fZx hg oM,e,aZu];have:=hg _ hm;omega
theorem fZy{f:Nat→Co}{g:List Nat}(hg:∀i∈g,((f i).y-(f i).d)%2=0):∀{k:Nat},k≤g.length→(ysm f g k-gsm f g k)%2=0
 |0,_=>rfl
 |k+1,h=>by
  have hm:g.getD k 0∈g:=by simp[List.getD,List.getElem?_eq_getElem (show k<g.length by omega)]
  have a:=hg _ hm;have b:=fZy hg (k:=k) oM;rw[ysm,gsm];omega
theorem zL{f:Nat→Co}{n j:Nat}{γ:List Nat}(hγ:γ∈aL f n)(hj:j∈γ):fzf f n j=wy (f j) (if γ.getD 0 0=j then ysm f γ γ.length%8 else 0):=by
 unfold fzf fzy;rw[if_pos (List.mem_flatten.2 ⟨γ,hγ,hj⟩),uS (gQ f n) hγ hj]
theorem lZ7{f:Nat→Co}{n:Nat}(h:nW 2 f n):lD 2 (fzf f n) n∧FEs (fzf f n) (aL (fzf f n) n):=by
 have hL:=sI f n;have hlg:∀j,j<n→bR (f j):=fun j hj=>pY h.2 hj;have hmem:∀γ∈aL f n,∀j∈γ,j<n∧(f j).o=true:=fun γ hγ j hj=>jU.1 (List.mem_flatten.2 ⟨_,hγ,hj⟩);rw[nJ hL];constructor
 ·refine⟨⟨rfl,h.1.2.1,shl hL h.1.2.2⟩,cZn.2 fun j hj=>?_,?_⟩
  ·have hR:=fZL (f:=f) (n:=n) (fun i hi=>by have:=hlg i hi;unfold bR at this;omega) j hj
   refine⟨hR.1,hR.2.1,hR.2.2,fun ho=>?_⟩;rw[hL.o] at ho;have hz:fzf f n j=f j:=by
    unfold fzf;rw[if_neg (fun q=>by have:=(jU.1 q).2;rw[ho] at this;exact Bool.noConfusion this)]
   rw[hz];have:=hlg j hj;unfold bR at this;rw[if_neg (by rw[ho];decide)] at this
   exact this.2.2.2.2.2.2.2
  ·rw[nJ hL,qA (Nat.le_refl _),List.take_length]
   intro γ hγ;have hl0:0<γ.length:=List.length_pos_iff.2 (oE _ hγ);refine⟨zJ.2 fun k hk h0=>?_,?_⟩
   ·have hm:=mC 0 hk
    rw[zL hγ hm,if_neg (eZi (qG (gQ f n) hγ) h0 hk)];rfl
   ·rw[zH hL,zL hγ (jN hl0),if_pos rfl]
    show(ysm f γ γ.length%8-gsm f γ γ.length)%2=0
    have:=fZy (f:=f) (g:=γ) (fun j hj=>by
     have q:=hlg j (hmem γ hγ j hj).1;unfold bR at q;rw[if_pos (hmem γ hγ j hj).2] at q;exact q.2.2.2.2.2.2.2.1) (Nat.le_refl γ.length)
    omega
 ·intro γ hγ
  have hl0:0<γ.length:=List.length_pos_iff.2 (oE _ hγ);show fea (fzf f n) γ (fzf f n (γ.getD 0 0)).y.toNat
  rw[zL hγ (jN hl0),if_pos rfl];refine(nI (f:=f) fun j hj t=>cZC (hL.e j) (hL.d j) ?_ (hL.o j) t).2 (dZK (fun j hj=>hlg j (hmem γ hγ j hj).1) ?_)
  ·rw[zL hγ hj];rfl
  ·show(ysm f γ γ.length%8).toNat%8=aZi f γ%8
   have:=fZx (f:=f) (g:=γ) (fun j hj=>by have q:=hlg j (hmem γ hγ j hj).1;unfold bR at q;omega) (Nat.le_refl γ.length)
   rw[List.take_length] at this;omega
theorem lZ6{f:Nat→Co}{n:Nat}(h:nW 2 f n)(e:Int):kin 2 (fzf f n) n e=kin 2 f n e:=by
 refine dZ3 (uB h.1.2.1 h.1.2.2) (sI f n) (fun j hj ho hb=>?_) (fun j hj ho hb=>?_) e
 ·unfold fzf;split<;>rfl
 ·have hc:=gZs hj ho hb
  have hγ:[j]∈aL f n:=by
   have:=(sW (jU.2 ⟨hj,ho⟩)).1;rwa[hc] at this
  have hy:0≤(f j).y∧(f j).y≤7:=by have q:=pY h.2 hj;unfold bR at q;omega
  rw[zL hγ (List.mem_singleton.2 rfl),if_pos (show[j].getD 0 0=j from rfl)]
  show(ysm f [j] 1%8+(if(f j).s= -1 then 4 else 0))%8=_
  rw[show ysm f [j] 1=0+(f j).y from rfl,Int.zero_add,Int.emod_eq_of_lt hy.1 oM]
structure Can2(f:Nat→Co)(n:Nat)(g:Nat→Co):Prop where
 fus:lD 2 g n
 fe:FEs g (aL g n)
 like:Like f g
 lnk:lnk g n=lnk (fzf f n) n
 kin:∀e,kin 2 g n e=kin 2 f n e
theorem kZu{f:Nat→Co}{n:Nat}{g:Nat→Co}(h:Can2 f n g){i:Nat}(h0:0<i)(hi:i<n):Can2 f n (cst n g i)∧(lnk (fzf f n) n i=true→(cst n g i i).s≠-1)∧∀j,i<j→(cst n g i j).s=(g j).s:=by
 unfold cst
 by_cases hc:(g i).s= -1∧lnk g n i=true
 ·rw[if_pos hc]
  refine⟨⟨fZB h.fus hi,oZz h.fus h.fe h0 hi hc.2,h.like.trans (nH g n i),stp_lnk.trans h.lnk,fun e=>(lZf h.fus h0 hi hc.2 e).trans (h.kin e)⟩,fun _=>?_,fun j hj=>?_⟩
  ·rw[rS h0,if_pos (.inl rfl),hc.1];decide
  ·rw[rS h0,if_neg oM]
 ·rw[if_neg hc]
  exact⟨h,fun hl hs=>hc ⟨hs,by rw[h.lnk];exact hl⟩,fun _ _=>rfl⟩
theorem gZA{f:Nat→Co}{n:Nat}:∀{i:Nat} {g:Nat→Co},i<n→Can2 f n g→(∀j,i<j→j<n→lnk (fzf f n) n j=true→(g j).s≠-1)→Can2 f n (fZr n i g)∧∀j,0<j→j<n→lnk (fzf f n) n j=true→(fZr n i g j).s≠-1
 |0,g,_,h,hs=>⟨h,hs⟩
 |i+1,g,hi,h,hs=>by
  obtain⟨k1,k2,k3⟩:=kZu h (i:=i+1) oM hi;refine gZA (i:=i) oM k1 fun j h1 h2 h3=>?_
  by_cases e:j=i+1
  ·rw[e];rw[e] at h3;exact k2 h3
  ·rw[k3 j oM];exact hs j oM h2 h3
theorem mZU{f:Nat→Co}{n:Nat}(h:nW 2 f n):wJ 2 (eZb f n) n∧Like f (eZb f n)∧∀e,kin 2 (eZb f n) n e=kin 2 f n e:=by
 have hn:0<n:=Nat.pos_of_ne_zero h.1.2.1;obtain⟨r1,r2⟩:=lZ7 h;obtain⟨c,hs⟩:=gZA (f:=f) (n:=n) (i:=n-1) (g:=fzf f n) oM ⟨r1,r2,sI f n,rfl,lZ6 h⟩ (fun j h1 h2=>oM);refine⟨.inr (.inr ⟨c.fus,?_,gZ9.2 c.fe⟩),c.like,c.kin⟩;intro γ hγ k hk;have hr:Run (lnk (eZb f n) n) γ:=aZb _ hγ;obtain⟨m,hm,e⟩:=List.getElem_of_mem hk;rw[List.length_drop] at hm;rw[List.getElem_drop] at e;obtain⟨q1,q2⟩:=hr m oM;have hkk:γ.getD (m+1) 0=k:=by
  simp only[List.getD,List.getElem?_eq_getElem (show m+1<γ.length by omega),Option.getD_some]
  rw[←e];congr 1
  omega
 rw[hkk] at q1 q2;exact hs k oM (lM γ hγ k (List.mem_of_mem_drop hk)) (by rw[←c.lnk];exact q2)
theorem dZR{f g:Nat→Co}(h:Like f g)(j:Nat):∀i,crI g j i=crI f j i
 |0=>rfl
 |i+1=>by rw[crI,crI,dZR h j i,h.e,h.e,h.d,h.d]
theorem zW{f g:Nat→Co}(h:Like f g):∀n,crH g n=crH f n
 |0=>rfl
 |n+1=>by rw[crH,crH,zW h n,dZR h]
end
section
open Go.RowKit Limb Det Num
theorem oZC{p:Int}(hp:2≤p)(e:Nat):(0:Rat)<(((p:Int):Rat)⁻¹)^e:=by
 have h:(0:Rat)<((p:Int):Rat)⁻¹:=Rat.inv_pos.2 (Rat.intCast_pos.2 oM);exact Rat.pow_pos h
theorem gZw{p c:Int}(hp:2≤p)(c1:c≤1){e:Nat}(he:1≤e):(0:Rat)<fct p c e:=by
 have h:=pinv hp e;have hq:=oZC hp e;have hpe:2≤p^e:=by
  obtain⟨k,rfl⟩:∃k,e=k+1:=⟨e-1,oM⟩;have:0<p^k:=Int.pow_pos oM;rw[Int.pow_succ];have h2:1*2≤p^k*p:=Int.mul_le_mul oM hp oM oM;omega
 have e1:fct p c e=(((p^e-c:Int)):Rat)*(((p:Int):Rat)⁻¹)^e:=by
  unfold fct;rw[Rat.intCast_sub];generalize(((p:Int):Rat)⁻¹)^e=q at*;generalize((p^e:Int):Rat)=P at*;generalize((c:Int):Rat)=x at*;have:((1:Int):Rat)=1:=rfl;grind
 rw[e1];exact Rat.mul_pos (Rat.intCast_pos.2 oM) hq
theorem cZs{p:Int}(hp:2≤p):∀k,(0:Rat)<dvs p k
 |0=>by show(0:Rat)<((2:Int):Rat);exact Rat.intCast_pos.2 oM
 |k+1=>Rat.mul_pos (cZs hp k) (gZw hp oM oM)
theorem uX{x:Rat}(h:(0:Rat)<x):(0:Rat)<((1:Int):Rat)/x:=by
 rw[Rat.div_def];exact Rat.mul_pos (Rat.intCast_pos.2 oM) (Rat.inv_pos.2 h)
theorem mZr{p c:Int}(hp:2≤p)(c1:c≤1)(n:Nat):(0:Rat)<dia p n c:=by
 unfold dia;split
 ·exact Rat.intCast_pos.2 oM
 ·split
  ·exact uX (cZs hp _)
  ·exact uX (Rat.mul_pos (cZs hp _) (gZw hp c1 oM))
end
section
open Go.RowKit Limb Det Num
def Q2(c:Co):Prop:=1≤c.d∧(c.s=1∨c.s= -1)∧0≤c.y∧c.y≤7∧
 (if c.o=true then(c.y-c.d)%2=0∧(c.d=1∧c.s=1→c.y=1∨c.y=7)∧(c.d=1∧c.s= -1→c.y=3∨c.y=5)∧(c.d=2∧c.s=1→c.y≠4)∧(c.d=2∧c.s= -1→c.y≠0) else c.d%2=0∧c.y=0)
theorem pZH{y:Bk}(ht:y.t=false)(c:Co):bG y c=⟨c.e,c.d+1,if y.a%8=3∨y.a%8=5 then-c.s else c.s,true,(c.y+y.a%8)%8⟩:=by
 unfold bG bD;rw[ht];rfl
theorem pZG{y:Bk}(ht:y.t=true)(c:Co):bG y c=⟨c.e,c.d+2,if(y.a%8*(y.c%8)-y.b%8*(y.b%8))%8=3∨(y.a%8*(y.c%8)-y.b%8*(y.b%8))%8=5 then-c.s else c.s,c.o,c.y⟩:=by
 unfold bG bD;rw[ht];rfl
theorem two_D{a b c:Int}(ha:(2:Int)∣a)(hb:¬(2:Int)∣b)(hc:(2:Int)∣c):(a%8*(c%8)-b%8*(b%8))%8=3∨(a%8*(c%8)-b%8*(b%8))%8=7:=by
 have h1:a%8=0∨a%8=2∨a%8=4∨a%8=6:=oM;have h2:b%8=1∨b%8=3∨b%8=5∨b%8=7:=oM;have h3:c%8=0∨c%8=2∨c%8=4∨c%8=6:=oM;generalize a%8=x at*;generalize b%8=y at*;generalize c%8=z at*;rcases h1 with rfl|rfl|rfl|rfl<;>rcases h2 with rfl|rfl|rfl|rfl<;>rcases h3 with rfl|rfl|rfl|rfl<;>decide
theorem oZE{r w s:Int}(hr:r=1∨r=3∨r=5∨r=7)(hw:(s=1∧(w=1∨w=7))∨(s= -1∧(w=3∨w=5))):((w+r)%8-2)%2=0∧((if r=3∨r=5 then-s else s)=1→(w+r)%8≠4)∧((if r=3∨r=5 then-s else s)= -1→(w+r)%8≠0):=by
 rcases hr with rfl|rfl|rfl|rfl<;>rcases hw with⟨rfl,rfl|rfl⟩|⟨rfl,rfl|rfl⟩<;>decide
theorem oZF{r:Int}(hr:r=1∨r=3∨r=5∨r=7):((0+r)%8-1)%2=0∧((if r=3∨r=5 then-1 else 1)=(1:Int)→(0+r)%8=1∨(0+r)%8=7)∧((if r=3∨r=5 then-1 else 1)=(-1:Int)→(0+r)%8=3∨(0+r)%8=5):=by
 rcases hr with rfl|rfl|rfl|rfl<;>decide
theorem lZ9{k:Nat}{e:Int}{y:Bk}(hv:BkV 2 k y){c:Co}(h:Q2 c∨c=⟨e,0,1,false,0⟩):Q2 (bG y c):=by
 obtain⟨ce,d,s,o,w⟩:=c;have hc:(s=1∨s= -1)∧0≤w∧w≤7∧0≤d∧((o=true∧1≤d∧(w-d)%2=0∧(d=1∧s=1→w=1∨w=7)∧(d=1∧s= -1→w=3∨w=5)∧(d=2∧s=1→w≠4)∧(d=2∧s= -1→w≠0))∨(o=false∧d%2=0∧w=0∧(d=0→s=1))):=by
  rcases h with h|h
  ·obtain⟨h1,h2,h3,h4,h5⟩:=h
   dsimp only at h1 h2 h3 h4 h5;refine⟨h2,h3,h4,oM,?_⟩;cases o with
   |true=>rw[if_pos rfl] at h5;exact .inl ⟨rfl,h1,h5⟩
   |false=>rw[if_neg aD] at h5;exact .inr ⟨rfl,h5.1,h5.2,fun h=>oM⟩
  ·cases h
   exact⟨.inl rfl,oM,oM,oM,.inr ⟨rfl,oM,rfl,fun _=>rfl⟩⟩
 clear h;obtain⟨h1,h2,h3,h4,h5⟩:=hc;rcases hv.s with⟨ht,_,hnd,_,_⟩|⟨ht,_,ha,hb,hcc⟩
 ·rw[pZH ht]
  have ha:¬(2:Int)∣y.a:=hnd;have hr:y.a%8=1∨y.a%8=3∨y.a%8=5∨y.a%8=7:=oM;generalize y.a%8=r at*;have hs:(if r=3∨r=5 then-s else s)=1∨(if r=3∨r=5 then-s else s)= -1:=by split<;>omega
  have big:3≤d+1→(w+r-d-1)%2=0→Q2 ⟨ce,d+1,if r=3∨r=5 then-s else s,true,(w+r)%8⟩:=fun g1 g2=>by
   refine⟨by dsimp only;omega,hs,oD,oD,?_⟩
   rw[if_pos rfl];dsimp only;exact⟨oM,fun h=>oM,fun h=>oM,fun h=>oM,fun h=>oM⟩
  rcases h5 with⟨_,g1,g2,g3,g4,_,_⟩|⟨_,g2,g3,g4⟩
  ·by_cases hd1:d=1
   ·subst hd1
    obtain⟨t1,t2,t3⟩:=oZE hr (show(s=1∧(w=1∨w=7))∨(s= -1∧(w=3∨w=5)) by
     rcases h1 with e|e
     ·exact .inl ⟨e,g3 ⟨rfl,e⟩⟩
     ·exact .inr ⟨e,g4 ⟨rfl,e⟩⟩)
    refine⟨by dsimp only;omega,hs,oD,oD,?_⟩
    rw[if_pos rfl];exact⟨t1,fun h=>absurd h.1 oD,fun h=>absurd h.1 oD,fun h=>t2 h.2,fun h=>t3 h.2⟩
   ·exact big oM oM
  ·by_cases hd0:d=0
   ·subst hd0
    have e:=g4 rfl;subst e g3;obtain⟨t1,t2,t3⟩:=oZF hr;refine⟨by dsimp only;omega,hs,oD,oD,?_⟩
    rw[if_pos rfl];exact⟨t1,fun h=>t2 h.2,fun h=>t3 h.2,fun h=>absurd h.1 oD,fun h=>absurd h.1 oD⟩
   ·exact big oM oM
 ·rw[pZG ht]
  have hD:=two_D ha hb hcc;generalize(y.a%8*(y.c%8)-y.b%8*(y.b%8))%8=r at*;have hs:(if r=3∨r=5 then-s else s)=s∨(if r=3∨r=5 then-s else s)= -s:=by split;exact .inr rfl;exact .inl rfl
  generalize(if r=3∨r=5 then-s else s)=s' at*;unfold Q2;dsimp only;refine⟨oM,oM,h2,h3,?_⟩;rcases h5 with⟨rfl,g⟩|⟨rfl,g⟩
  ·rw[if_pos rfl]
   refine⟨oM,fun _=>?_,fun _=>?_,fun _=>?_,fun _=>?_⟩<;>omega
  ·rw[if_neg aD]
   exact⟨oM,g.2.1⟩
def QO(c:Co):Prop:=1≤c.d∧(c.s=1∨c.s= -1)∧c.o=false∧c.y=0
theorem lZ8{p:Nat}{e a:Int}(hp:OP p)(ha:¬(p:Int)∣a){c:Co}(h:QO c∨c=⟨e,0,1,false,0⟩):QO ⟨c.e,c.d+1,c.s*fG a p,c.o,c.y⟩:=by
 have hl:fG a p=1∨fG a p= -1:=by
  rcases lX a p with h|h
  ·exact absurd ((kT hp).1 h) ha
  ·exact h
 generalize fG a p=l at*;rcases h with⟨h1,h2,h3,h4⟩|rfl
 ·refine⟨by dsimp only;omega,?_,h3,h4⟩
  dsimp only;rcases h2 with h|h<;>rcases hl with g|g<;>rw[h,g]<;>decide
 ·refine⟨by dsimp only;omega,?_,rfl,rfl⟩
  dsimp only;rcases hl with g|g<;>rw[g]<;>decide
theorem rC{f g:Nat→Int}:∀{n:Nat},(∀i,i<n→f i=g i)→pD f n=pD g n
 |0,_=>rfl
 |n+1,h=>by rw[pD,pD,rC fun i hi=>h i oM,h n oM]
theorem cZb(B:Nat→Bk):∀n,pD (fun t=>(bsz (B t):Int)) n=(ssz B n:Int)
 |0=>rfl
 |n+1=>by rw[pD,ssz,cZb B n];omega
theorem fZc(B:Nat→Bk):∀n,pD (fun t=>(bsz (B t):Int)*((B t).e:Int)) n=(wsm B n:Int)
 |0=>rfl
 |n+1=>by rw[pD,wsm,fZc B n,Int.natCast_add,Int.natCast_mul]
theorem nZr{f:Nat→Co}:∀{m:Nat},(∀i,i<m→(f i).o=false∧(f i).y=0)→zU f m
 |0,_=>trivial
 |m+1,h=>⟨nZr fun i hi=>h i oM,h m oM⟩
structure Sym3(p:Int)(n v:Nat)(f:Nat→Co)(c:Nat):Prop where
 acc:wJ p f c
 c8:c≤8
 cr:crH f c≤128
 par:crH f c%2=((n:Int)-1)*(v:Int)%2
theorem zM{E:Nat→Nat}{δ:Nat→Int}{Q:Co→Prop}{N n v:Nat}{z:CS}(F:Fold E δ Q N z)(hN:0<N)(hE:∀t,t<N→E t≤60)(hQ:∀c,Q c→1≤c.d)(hn:pD δ N=n)(hv:pD (fun t=>δ t*(E t:Int)) N=v)(h8:n≤8)(hc8:N≤8)(hnv:(n:Int)*(v:Int)≤128):
  shU z.1 z.2∧z.2≠0∧z.2≤8∧crH z.1 z.2≤128∧crH z.1 z.2%2=((n:Int)-1)*(v:Int)%2∧∀j,j<z.2→0≤(z.1 j).e∧(z.1 j).e≤60∧(z.1 j).d≤8∧Q (z.1 j):=by
 have he:∀j,j<z.2→0≤(z.1 j).e∧(z.1 j).e≤60:=fun j hj=>by
  obtain⟨t,ht,e⟩:=F.e0 j hj;have:=hE t ht;omega
 have hd:∀j,j<z.2→1≤(z.1 j).d:=fun j hj=>hQ _ (F.q j hj);have hs:=F.sd;have hw:=F.se;rw[hn] at hs;rw[hv] at hw;have hsh:=nZ1 he F.up hd oM (Nat.le_refl z.2);obtain⟨t,ht⟩:=gZ4 z.1 z.2;obtain⟨_,_,hle⟩:=pZ0 z.1 (n:=z.2) fun j hj=>⟨by have:=hd j hj;omega,(he j hj).1⟩
 rw[hs,hw] at ht hle;have h1:=(F.c1 hN).1;have h0:=F.c0;refine⟨hsh,oM,oM,oM,by rw[ht];generalize((n:Int)-1)*(v:Int)=x;omega,fun j hj=>⟨(he j hj).1,(he j hj).2,?_,F.q j hj⟩⟩
 have hm:=qE hd (show j+1≤z.2 from hj)
 rw[dJ] at hm;have h0':0≤dJ z.1 j:=by
  have h2:=qE (f:=z.1) (n:=j) (i:=0) (fun a ha=>hd a oM) (Nat.zero_le _);exact h2
 omega
theorem cZ3{p n v:Nat}{B:Nat→Bk}{N:Nat}(h:Blks p n v B N)(hn:1≤n)(h8:n≤8):0<N∧N≤8:=by
 have h1:=h.sz;have h2:=bZv B N;refine⟨?_,oM⟩;rcases Nat.eq_zero_or_pos N with e|e
 ·rw[e] at h1
  have h1:0=n:=h1;omega
 ·exact e
theorem lZd{n v:Nat}{B:Nat→Bk}{N:Nat}(h:Blks 2 n v B N)(hn:1≤n)(h8:n≤8)(hv:v≤50)(hnv:(n:Int)*(v:Int)≤128):nW 2 (csB B N).1 (csB B N).2∧(csB B N).2≤8∧crH (csB B N).1 (csB B N).2≤128∧crH (csB B N).1 (csB B N).2%2=((n:Int)-1)*(v:Int)%2:=by
 obtain⟨n1,n2⟩:=cZ3 h hn h8;have F:=fold (E:=fun i=>(B i).e) (δ:=fun t=>(bsz (B t):Int)) (U:=fun i=>bG (B i)) (Q:=Q2) (i:=N) h.up (fun t c _=>⟨rfl,by show c.d+(if(B t).t then 2 else 1)=_;unfold bsz;split<;>rfl⟩) (fun t c ht hc=>lZ9 (h.ok t ht) hc)
 rw[←nZK] at F;obtain⟨s1,s2,s3,s4,s5,s6⟩:=zM (n:=n) (v:=v) F n1 (fun t ht=>by have:=(h.ok t ht).e;omega) (fun c hc=>hc.1) (by rw[cZb,h.sz]) (by rw[fZc,h.sm]) h8 n2 hnv
 refine⟨⟨⟨rfl,s2,s1⟩,gZh.2 fun j hj=>?_⟩,s3,s4,s5⟩;obtain⟨a1,a2,a3,a4⟩:=s6 j hj;exact⟨a1,a2,a4.1,a3,a4.2.1,a4.2.2.1,a4.2.2.2.1,a4.2.2.2.2⟩
theorem lZe{p n v:Nat}{B:Nat→Bk}{N:Nat}(hp:OP p)(hsm:smP (p:Int)=true)(h:Blks p n v B N)(hn:1≤n)(h8:n≤8)(hv:v≤50)(hnv:(n:Int)*(v:Int)≤128):Sym3 (p:Int) n v (csF (fun i=>(B i).e) (fun i=>(B i).a) p N).1 (csF (fun i=>(B i).e) (fun i=>(B i).a) p N).2:=by
 obtain⟨n1,n2⟩:=cZ3 h hn h8;obtain⟨_,hp3,_⟩:=hp.half;have ho:∀t,t<N→(B t).t=false∧¬(p:Int)∣(B t).a:=fun t ht=>by
  rcases(h.ok t ht).s with⟨g1,_,g2,_,_⟩|⟨_,g,_⟩
  ·exact⟨g1,g2⟩
  ·omega
 have F:=fold (E:=fun i=>(B i).e) (δ:=fun _=>1) (U:=fun i c=>⟨c.e,c.d+1,c.s*fG (B i).a p,c.o,c.y⟩) (Q:=QO) (i:=N) h.up (fun t c _=>⟨rfl,rfl⟩) (fun t c ht hc=>lZ8 hp (ho t ht).2 hc);rw[←nZJ (fun i=>(B i).e) (fun i=>(B i).a) p N] at F;have hb:∀t,t<N→(1:Int)=(bsz (B t):Int):=fun t ht=>by unfold bsz;rw[(ho t ht).1];rfl
 obtain⟨s1,s2,s3,s4,s5,s6⟩:=zM (n:=n) (v:=v) F n1 (fun t ht=>by have:=(h.ok t ht).e;omega) (fun c hc=>hc.1) (by rw[rC hb,cZb,h.sz]) (by rw[rC (g:=fun t=>(bsz (B t):Int)*((B t).e:Int)) fun t ht=>by rw[←hb t ht],fZc,h.sm]) h8 n2 hnv
 refine⟨.inl ⟨hsm,oM,⟨s2,s1,wQ.2 fun j hj=>(s6 j hj).2.2.2.2.1⟩,nZr fun j hj=>(s6 j hj).2.2.2.2.2⟩,s3,s4,s5⟩
theorem bZQ{p:Int}(hp:2≤p){sd:Int→Nat}{ss:Int→Int}(hs:∀e,ss e≤1){R:Rat}(hR:0<R):∀k,0<mpr p sd ss R k
 |0=>hR
 |k+1=>by
  rw[mpr];split
  ·exact Rat.mul_pos (bZQ hp hs hR k) (mZr hp (hs _) _)
  ·exact bZQ hp hs hR k
theorem kZP(t:Int):0<twq t:=by
 unfold twq;have h2:(0:Rat)<((2:Int):Rat):=Rat.intCast_pos.2 oM;split
 ·exact Rat.pow_pos h2
 ·exact Rat.pow_pos (Rat.inv_pos.2 h2)
theorem oZW{p:Int}{f:Nat→Co}{n:Nat}(hp:2≤p)(ha:wJ p f n):0<mG p f n:=by
 unfold mG;exact bZQ hp (fun e=>(fZa ha e).2.2.2) (Rat.mul_pos (kZP _) (Rat.pow_pos (Rat.intCast_pos.2 oM))) _
theorem oZ2{a:Rat}(h:0<a):sg3 a.num=1:=by
 have h1:=(Rat.lt_iff 0 a).1 h;have h2:0<a.num:=by simpa using h1
 unfold sg3;grind
end
section
open Go.RowKit Limb Num
theorem tiscT(En:Ev)(p:Int)(f:Nat→Co)(n:Nat)(hn:n≤20)(hT:hZB p f n):Fn PZ En 128 [cO p f n] (ex (.bool (decide (hZB p f n)))):=
 lZa En p f n hn (cfB f n) hT jC jC fun h=>kZW En p f n hn h (cfB f n) gZ9
theorem eZv{f:Nat→Co}:∀{m i:Nat},zU f m→i<m→(f i).o=false∧(f i).y=0
 |m+1,i,h,hi=>by
  by_cases e:i=m
  ·rw[e];exact h.2
  ·exact eZv h.1 oM
theorem dZL(f:Nat→Co):∀n,dsm f n=dJ f n
 |0=>rfl
 |n+1=>by rw[dsm,dJ,dZL f n]
theorem odd_L{p:Int}{f:Nat→Co}{n:Nat}(h:hZe p f n):OddL f n:=by
 obtain⟨_,_,h3,h4⟩:=h;have hsh:=h3.2.1;refine⟨uB h3.1 hsh,fun i hi=>(dX hsh hi).2.1,fun i hi=>wQ.1 h3.2.2 i hi,fun i hi=>(eZv h4 hi).1,fun i hi=>(eZv h4 hi).2,?_⟩;have:=(qS hsh).2.1;rwa[dZL]
theorem nZi(p:Int)(f:Nat→Co)(n:Nat)(hn:n≤20)(ha:wJ p f n):Fn PZ TabD 69 [cO p f n] (ex (.bool true)):=by
 by_cases hp:p=2
 ·have ho:¬hZe p f n:=fun h=>h.2.1 hp
  have hS:shP p f n:=by
   rcases ha with h|h|h
   ·exact absurd h ho
   ·exact h.1
   ·exact h.1.1
  have C0:=kZS TabD p f n oM hS
  by_cases h1:nW p f n
  ·rw[decide_eq_true h1] at C0
   unfold cO at*;refine aA Tryz.func69 rfl Tryz.ntmps69 rfl ?_;intro w0 h0;refine vS<|vB jj<|vZ jj<|js<|vS<|vX jj<|vEt jj<|jn<|jt jj<|vS<|vL jj<|vC C0 ⟨jj,trivial⟩<|jm jj<|jk<|jk<|vq jj<|vZ jj<|ji ?_;exact rtT rfl jj
  ·rw[decide_eq_false h1] at C0
   have hc:hZB p f n:=(ha.resolve_left ho).resolve_left h1;have C1:=tiscT TabD p f n hn hc;rw[decide_eq_true hc] at C1;unfold cO at*;refine aA Tryz.func69 rfl Tryz.ntmps69 rfl ?_;intro w0 h0;refine vS<|vB jj<|vZ jj<|js<|vS<|vX jj<|vEt jj<|jn<|jt jj<|vS<|vL jj<|vC C0 ⟨jj,trivial⟩<|jm jj<|jg (dM jj jj jj jj)<|jg (aQ C1 ⟨jj,trivial⟩)<|vQ jj<|vZ jj<|ji ?_;exact rtT rfl jj
 ·have ho:hZe p f n:=by
   rcases ha with h|h|h
   ·exact h
   ·exact absurd h.1.1 hp
   ·exact absurd h.1.1.1 hp
  obtain⟨p1,p2,p3⟩:=eZ9 ho.1;have C2:=oZx p f n (odd_L ho) ho.1 oM;unfold cO at*;refine aA Tryz.func69 rfl Tryz.ntmps69 rfl ?_;intro w0 h0;refine vS<|vB jj<|vZ jj<|js<|vS<|vX jj<|vEf jj<|jn<|jf jj<|jp<|vS<|vL jj<|vC C2 ⟨jj,trivial⟩<|vZ jj<|ji ?_;exact rtT rfl jj
theorem nZ7(p:Int)(f:Nat→Co)(n:Nat)(hn:n≤20)(ha:wJ p f n)(hb:crH f n≤128):Fn PZ TabD 9 [cO p f n] (dK [vI (mG p f n) (dZ7 (crH f n)),i6 0]):=by
 have C0:=nZi p f n hn ha;have H:=okA ha;have CX:=oZX TabD p f n H.toOkL H.p2.1 H.p2.2 C0;have CT:Fn PZ TabD 25 [cO p f n] (dK [i6 (tyN p f n),i6 0]):=by
  unfold tyN
  by_cases hp:p=2
  ·rw[if_pos hp]
   subst hp;exact lZL TabD f n H.toOkL C0
  ·rw[if_neg hp]
   exact lZK TabD p f n hp C0
 obtain⟨t1,t2⟩:=hZS (p:=p) H.toOkL;have hk:=fun e=>fZa ha e;unfold crA at CX;rw[if_pos hb] at CX;exact oZV TabD p f n H.toOkL H.p2.1 H.p2.2 _ _ (nZO H.p2.1 H.p2.2 hb) _ t1 t2 CX CT (fun e=>(kin p f n e).1.toNat) (fun e=>(kin p f n e).2) (fun e=>by have:=hk e;omega) (fun e=>by have:=hk e;omega) (fun e h1 h2=>by
  have:=hZZ p f n e H h1 h2;rw[Int.toNat_of_nonneg (hk e).1];exact this)
end
section
open Go.RowKit Limb Det Num
instance kb15:CBody PZ 15:=cB Tryz.func15
theorem bk_ok{p v:Nat}{y:Bk}(hv:v≤50)(h:BkV p (v+3) y):BkOk p y:=by
 refine⟨by have:=h.e;omega,?_⟩
 rcases h.s with⟨h1,_,h3,h4,h5⟩|⟨h1,h2,h3,h4,h5⟩
 ·exact .inl ⟨h1,fun h=>h3 (Int.dvd_of_tmod_eq_zero h),h4,h5⟩
 ·exact .inr ⟨h1,h2,Int.tmod_eq_zero_of_dvd h3,fun h=>h4 (Int.dvd_of_tmod_eq_zero h),Int.tmod_eq_zero_of_dvd h5⟩
theorem dZj{A:Nat→Nat→Int}{n p:Nat}(hF:Fm n A)(hp:Pk p)(hp2:p≤100):fH p (det n A).toNat≤13∧p^dgs (det n A) p≤2147483648∧Blks p n (fH p (det n A).toNat) (dcG p (dgs (det n A) p) (p^dgs (det n A) p) n n (dc0 (eF A (p^dgs (det n A) p)))).B (dcG p (dgs (det n A) p) (p^dgs (det n A) p) n n (dc0 (eF A (p^dgs (det n A) p)))).n:=by
 have hpo:=hF.po n (Nat.le_refl n);have hdn:=hF.dn;have h2:=hp.two;have hv1:=lZ h2 (det n A).toNat;have hv2:=uM h2 (det n A).toNat oM;have hv3:=Nat.le_of_dvd oM hv1;have hd:det n A=((p^fH p (det n A).toNat:Nat):Int)*(((det n A).toNat/p^fH p (det n A).toNat:Nat):Int):=by
  rw[←Int.natCast_mul,Nat.mul_div_cancel' hv1];omega
 have hnd:¬(p:Int)∣(((det n A).toNat/p^fH p (det n A).toNat:Nat):Int):=fun h=>hv2 (Nat.mod_eq_zero_of_dvd (Int.natCast_dvd_natCast.1 h));unfold dgs;generalize fH p (det n A).toNat=v at*;have h13:v≤13:=by
  rcases Nat.lt_or_ge v 14 with h|h
  ·omega
  ·have h1:2^14≤2^v:=Nat.pow_le_pow_right oM h
   have h3:2^v≤p^v:=Nat.pow_le_pow_left h2 v;omega
 have hm:p^(v+if p=2 then 3 else 1)≤2147483648:=by
  rw[Nat.pow_add];have h1:p^(if p=2 then 3 else 1)≤100:=by
   split
   ·rename_i e;rw[e];decide
   ·rw[Nat.pow_one];exact hp2
  have:=Nat.mul_le_mul (show p^v≤10000 by omega) h1
  omega
 refine⟨h13,hm,blks (d:=det n A) hp rfl (by split<;>omega) (by split<;>omega) hd hnd (fun r x _ _=>?_) (fun r x _ _=>by unfold eF;rw[hF.sy r x]) (wW fun r c _ _=>Mo.mod _ _)⟩
 have:0<p^(v+if p=2 then 3 else 1):=Nat.pow_pos oM;exact⟨Int.emod_nonneg _ oM,Int.emod_lt_of_pos _ oM⟩
section
variable(En:Ev)
theorem hofG(A:Nat→Nat→Int)(n p:Nat)(hF:Fm n A)(hO:OP p)(hsm:smP (p:Int)=true)(hp2:p≤100):∃f c,Sym3 (p:Int) n (fH p (det n A).toNat) f c∧Fn PZ En 10 [imt A n n,i6 p] (cO (p:Int) f c):=by
 obtain⟨_,hp3,_⟩:=hO.half;obtain⟨h13,hm,hb⟩:=dZj hF (.inl hO) hp2;have hn1:=hF.n1;have hn7:=hF.n7;have hnv:(n:Int)*((fH p (det n A).toNat:Nat):Int)≤128:=by
  have:=Nat.mul_le_mul hn7 h13;rw[←Int.natCast_mul];omega
 obtain⟨n1,n2⟩:=cZ3 hb hn1 oM;have S:=lZe hO hsm hb hn1 oM oM hnv;have ho:∀t,t<(dcG p (dgs (det n A) p) (p^dgs (det n A) p) n n (dc0 (eF A (p^dgs (det n A) p)))).n→(dcG p (dgs (det n A) p) (p^dgs (det n A) p) n n (dc0 (eF A (p^dgs (det n A) p)))).B t=⟨((dcG p (dgs (det n A) p) (p^dgs (det n A) p) n n (dc0 (eF A (p^dgs (det n A) p)))).B t).e,false,((dcG p (dgs (det n A) p) (p^dgs (det n A) p) n n (dc0 (eF A (p^dgs (det n A) p)))).B t).a,0,0⟩∧¬(p:Int)∣((dcG p (dgs (det n A) p) (p^dgs (det n A) p) n n (dc0 (eF A (p^dgs (det n A) p)))).B t).a∧((dcG p (dgs (det n A) p) (p^dgs (det n A) p) n n (dc0 (eF A (p^dgs (det n A) p)))).B t).e≤60:=fun t ht=>by
  have hk:=hb.ok t ht;generalize(dcG p (dgs (det n A) p) (p^dgs (det n A) p) n n (dc0 (eF A (p^dgs (det n A) p)))).B t=y at*;obtain⟨e,t',a,b,c'⟩:=y;rcases hk.s with⟨g1,_,g2,g3,g4⟩|⟨_,g,_⟩
  ·dsimp only at g1 g2 g3 g4
   subst g1 g3 g4;exact⟨rfl,g2,by have:=hk.e;dsimp only at this ⊢;omega⟩
  ·omega
 have C1:=gZn En A n p _ _ hF oM oM rfl rfl hm;have hup:=hb.up;generalize dcG p (dgs (det n A) p) (p^dgs (det n A) p) n n (dc0 (eF A (p^dgs (det n A) p)))=T at*;have C2:=aZn En (fun i=>(T.B i).e) (fun i=>(T.B i).a) T.n p n1 n2 hsm hp3 oM (fun i hi=>(ho i hi).2.2) hup (fun i hi h=>(ho i hi).2.1 (Int.dvd_of_tmod_eq_zero h));rw[cY (e:=fun j=>bkP (T.B j)) (e':=fun i=>uT (T.B i).e (T.B i).a) fun j hj=>by
  conv=>lhs;rw[(ho j hj).1]
  rfl] at C1
 refine⟨_,_,S,?_⟩;unfold cO;rw[tU];generalize(csF (fun i=>(T.B i).e) (fun i=>(T.B i).a) p T.n).2=c at*;generalize(csF (fun i=>(T.B i).e) (fun i=>(T.B i).a) p T.n).1=g at*;refine aA Tryz.func10 rfl Tryz.ntmps10 rfl ?_;intro w0 h0;refine vS<|vA jj<|vJ<|vV jj jj<|vC C1 tB<|vC C2 tA<|jm jj<|vE jj<|vE jj<|ja jj<|vZ jj<|vS<|vV jj jj<|jS (aU (ps:=[(_,_),(_,_)]) ⟨jj,Part.c jj,jj,Part.c jj,trivial⟩ jj)<|vP jj<|jn<|ji ?_;exact rtC rfl jj jj
theorem hof2(A:Nat→Nat→Int)(n:Nat)(hF:Fm n A):∃f c,Sym3 2 n (fH 2 (det n A).toNat) f c∧Fn PZ En 14 [imt A n n] (cO 2 f c):=by
 obtain⟨h13,hm,hb⟩:=dZj hF (.inr rfl) oM;have hn1:=hF.n1;have hn7:=hF.n7;have hnv:(n:Int)*((fH 2 (det n A).toNat:Nat):Int)≤128:=by
  have:=Nat.mul_le_mul hn7 h13;rw[←Int.natCast_mul];omega
 obtain⟨n1,n2⟩:=cZ3 hb hn1 oM;obtain⟨hraw,c8,ccr,cpar⟩:=lZd hb hn1 oM oM hnv;have C1:=Go.Proofs.YtfmjdlogjmofbaaGreatDoor.hraw En A n _ _ hF rfl rfl hm n1 (by rw[hb.sz];omega) (fun i hi=>bk_ok oM (hb.ok i hi)) hb.up
 obtain⟨a1,a2,_⟩:=mZU hraw;have C2:=oZ9 En 2 _ _ oM hraw;refine⟨_,_,⟨a1,c8,by rw[zW a2];exact ccr,by rw[zW a2];exact cpar⟩,?_⟩
 generalize eZb (csB (dcG 2 (dgs (det n A) 2) (2^dgs (det n A) 2) n n (dc0 (eF A (2^dgs (det n A) 2)))).B (dcG 2 (dgs (det n A) 2) (2^dgs (det n A) 2) n n (dc0 (eF A (2^dgs (det n A) 2)))).n).1 (csB (dcG 2 (dgs (det n A) 2) (2^dgs (det n A) 2) n n (dc0 (eF A (2^dgs (det n A) 2)))).B (dcG 2 (dgs (det n A) 2) (2^dgs (det n A) 2) n n (dc0 (eF A (2^dgs (det n A) 2)))).n).2=f at*;generalize(csB (dcG 2 (dgs (det n A) 2) (2^dgs (det n A) 2) n n (dc0 (eF A (2^dgs (det n A) 2)))).B (dcG 2 (dgs (det n A) 2) (2^dgs (det n A) 2) n n (dc0 (eF A (2^dgs (det n A) 2)))).n).2=c at*;unfold cO at*;refine aA Tryz.func14 rfl Tryz.ntmps14 rfl ?_;intro w0 h0;refine vS<|vA jj<|vJ<|jm jj<|vC C1 tA<|vC C2 tA<|jm jj<|vE jj<|vE jj<|vA jj<|vP jj<|vZ jj<|vS<|vL jj<|vP jj<|jn<|ji ?_;exact rtC rfl jj jj
theorem hexp(n p:Nat)(hp:2≤p)(hp2:p≤4294967296)(hn:n≤4294967296):Fn PZ En 15 [i6 n,i6 p] (i6 ((fH p n:Nat):Int)):=by
 have C1:=uI En n p hp hp2 hn;refine aA Tryz.func15 rfl Tryz.ntmps15 rfl ?_;intro w0 h0;refine vS<|vZ jj<|vS<|vV jj jj<|vC C1 tB<|vZ jj<|ji ?_;exact rtT rfl jj
end
theorem jZf{p:Nat}{n v:Nat}{f:Nat→Co}{c:Nat}(h:Sym3 (p:Int) n v f c):Fn PZ TabD 9 [cO (p:Int) f c] (dK [vI (mG (p:Int) f c) (decide (n%2=0∧v%2=1)),i6 0]):=by
 have M:=nZ7 (p:Int) f c (by have:=h.c8;omega) h.acc h.cr
 have e:dZ7 (crH f c)=decide (n%2=0∧v%2=1):=by
  unfold dZ7;refine decide_eq_decide.2 ?_;rw[h.par];have hv:∀x:Int,x%2=1∨x%2=0:=fun x=>oM;have key:(((n:Int)-1)*(v:Int))%2=(((n:Int)-1)%2*((v:Int)%2))%2:=Int.mul_emod _ _ _;rw[key];rcases hv ((n:Int)-1) with h1|h1<;>rcases hv (v:Int) with h2|h2<;>rw[h1,h2]<;>omega
 rwa[e] at M
end
section
open Go.RowKit Limb Num
section
variable(En:Ev)
theorem xH(l:List Nat):(txt l).size=l.length:=by
 have:∀(l:List Nat) (b:ByteArray),((l.map fun(x:Nat)=>(x:Int)).foldl (fun r n=>r.push (UInt8.ofNat n.toNat)) b).size=b.size+l.length:=by
  intro l;induction l with
  |nil=>intro b;rfl
  |cons x l ih=>intro b;simp only[List.map_cons,List.foldl_cons,List.length_cons];rw[ih,ByteArray.size_push];omega
 have h:=this l ByteArray.empty;rw[show ByteArray.empty.size=0 from rfl,Nat.zero_add] at h
 exact h
theorem dZH(z:Int)(k:Nat):(rF z k).length≤k+1:=by
 unfold rF;rw[List.length_reverse,List.length_append,mA];split<;>simp
theorem nU(r:Rat)(k m:Nat)(hr:Sz 1073741824 r)(hd:r.den≠1)(h1:r.num.natAbs<10^k)(h2:k≤9)(h3:10^(k-1)≤r.num.natAbs)(h4:0<k)(m1:r.den<10^m)(m2:m≤9)(m3:10^(m-1)≤r.den)(m4:0<m):
  Fn PZ En 23 [qC r] (ex (.string (txt (rF r.num k)++⟨#[47]⟩++txt (rF r.den m)))):=by
 have C1:=eQ En (RQ.of r) (RQ.of_ok hr);have C2:=iZA En (RQ.of r) (RQ.of_ok hr);rw[RQ.of_v] at C1 C2;rw[show(gJ r.den 1==0)=false by have:=r.den_pos;unfold gJ;rw[if_neg oM,if_pos oM];rfl] at C2
 have C3:=gZk En r.num k h1 h2 h3 h4;have C4:=gZk En (r.den:Int) m m1 m2 m3 m4;have l1:=dZH r.num k;have l2:=dZH (r.den:Int) m;have s1:(txt (rF r.num k)).size+(⟨#[47]⟩:ByteArray).size≤1000000:=by rw[xH];show _+1≤_;omega
 have s2:(txt (rF r.num k)++(⟨#[47]⟩:ByteArray)).size+(txt (rF r.den m)).size≤1000000:=by rw[ByteArray.size_append,xH,xH];show _+1+_≤_;omega
 refine aA Tryz.func23 rfl Tryz.ntmps23 rfl ?_;intro w0 h0;refine vS<|vB jj<|vZ jj<|vS<|vL jj<|vC C1 ⟨jj,trivial⟩<|vA jj<|vP jj<|jn<|js<|vS<|vL jj<|vC C2 ⟨jj,trivial⟩<|jn<|jf jj<|jp<|vS<|vF jj<|vL jj<|vC C3 ⟨jj,trivial⟩<|jS (aY jj jj (fun w=>cZR w CStr.ok _ _ _ _ s1))<|vF jj<|vL jj<|vC C4 ⟨jj,trivial⟩<|jS (aY jj jj (fun w=>cZR w CStr.ok _ _ _ _ s2))<|vZ jj<|ji ?_;exact rtT rfl jj
end
theorem cZq{a b:ByteArray}(h:a.data=b.data):(a.toList==b.toList)=true:=by
 have:a=b:=ByteArray.ext h;rw[this];simp
end
section
open Go.RowKit Limb Num
def syA(d:Int):Nat→Co:=fun _=>⟨0,d,1,true,d⟩
theorem nZv(d:Int):Fn PZ TabD 22 [i6 d,i6 1,i6 d] (cO 2 (syA d) 1):=by
 unfold cO;refine aA Tryz.func22 rfl Tryz.ntmps22 rfl ?_;intro w0 h0;refine vS<|vA jj<|vJ<|vV jj jj<|jm jj<|jS (aU (ps:=[(_,_),(_,_),(_,_),(_,_)]) ⟨jj,Part.c jj,jj,Part.c jj,jj,Part.c jj,jj,Part.c jj,trivial⟩ jj)<|jS (bW (ps:=[(_,_)]) ⟨jj,Part.c jj,trivial⟩ jj jj jj)<|jS (aU (ps:=[(_,_),(_,_)]) ⟨jj,Part.c jj,jj,Part.c jj,trivial⟩ jj)<|vP jj<|jn<|ji ?_;exact rtC rfl jj jj
theorem maA(d:Int)(q:Rat)(ha:wJ 2 (syA d) 1)(hq:mG 2 (syA d) 1=q):Fn PZ TabD 9 [cO 2 (syA d) 1] (dK [vI q false,i6 0]):=by
 have h:=nZ7 2 (syA d) 1 oM ha (by show(0:Int)+0≤128;omega)
 rw[hq] at h;exact h
theorem stdA3:Fn PZ TabD 11 [i6 3,i6 1,i6 2] (dK [qC (mkRat 2 3),i6 0]):=by
 have C1:=(jZg 2).tab;rw[show smP 2=true by decide+kernel] at C1
 have C2:=aZJ TabD 2 0 3 oM oM oM oM oM;rw[show dia 2 3 0=mkRat 2 3 by decide+kernel] at C2
 have e:(3:Int).tmod 2=1:=by decide
 refine aA Tryz.func11 rfl Tryz.ntmps11 rfl ?_;intro w0 h0;refine vS<|vA jj<|vZ jj<|js<|vS<|jm jj<|vLf jj<|jm jj<|jgm jj<|uGf jj<|vQ jj<|jm jj<|jgm jj<|uLf jj<|vQ jj<|jm jj<|jgm jj<|uGf jj<|vQ jj<|jn<|jf jj<|jp<|js<|vS<|jm jj<|vC C1 tA<|jS (bNo jj)<|jn<|jf jj<|jp<|js<|vS<|jm jj<|jS (bRe jj jj e)<|vEt jj<|jn ?_;refine jt jj<|vS<|vV jj jj<|jS (aU (ps:=[(_,_)]) ⟨jj,Part.c jj,trivial⟩ jj)<|vC C2 tB<|vP jj<|vZ jj<|ji ?_;exact rtD rfl jj jj jj
theorem nZa:Fn PZ TabD 8 [] (ex (.bool true)):=by
 have A1:=nZv 2;have A2:=maA 2 (mkRat 1 8) (by decide+kernel) (by decide+kernel)
 have B1:=nZv 3;have B2:=maA 3 (mkRat 1 12) (by decide+kernel) (by decide+kernel)
 have D1:=stdA3;have F1:=nU TabD (mkRat 1 8) 1 1 ((eZ7 (by decide+kernel)).mono oM) (by decide+kernel) (by decide+kernel) oM (by decide+kernel) oM (by decide+kernel) oM (by decide+kernel) oM
 have F2:=nU TabD (mkRat 1 12) 1 2 ((eZ7 (by decide+kernel)).mono oM) (by decide+kernel) (by decide+kernel) oM (by decide+kernel) oM (by decide+kernel) oM (by decide+kernel) oM
 have F3:=nU TabD (mkRat 2 3) 1 1 ((eZ7 (by decide+kernel)).mono oM) (by decide+kernel) (by decide+kernel) oM (by decide+kernel) oM (by decide+kernel) oM (by decide+kernel) oM
 have t1:((txt (rF (mkRat 1 8).num 1)++(⟨#[47]⟩:ByteArray)++txt (rF (mkRat 1 8).den 1)).toList==(⟨#[49,47,56]⟩:ByteArray).toList)=true:=cZq (by rw[ByteArray.data_append,ByteArray.data_append];decide+kernel)
 have t2:((txt (rF (mkRat 1 12).num 1)++(⟨#[47]⟩:ByteArray)++txt (rF (mkRat 1 12).den 2)).toList==(⟨#[49,47,49,50]⟩:ByteArray).toList)=true:=cZq (by rw[ByteArray.data_append,ByteArray.data_append];decide+kernel)
 have t3:((txt (rF (mkRat 2 3).num 1)++(⟨#[47]⟩:ByteArray)++txt (rF (mkRat 2 3).den 1)).toList==(⟨#[50,47,51]⟩:ByteArray).toList)=true:=cZq (by rw[ByteArray.data_append,ByteArray.data_append];decide+kernel)
 unfold vI at A2 B2;unfold cO at A1 A2 B1 B2;refine aA Tryz.func8 rfl Tryz.ntmps8 rfl ?_;intro w0 h0;refine kR ?_;refine vZ jj ?_;refine kR ?_;refine vC A1 tC<|vC A2 tA<|jm jj<|vE jj<|vE jj<|vA jj<|vP jj<|vZ jj ?_;refine kR ?_;refine vC B1 tC<|vC B2 tA<|jm jj<|vE jj<|vE jj<|vA jj<|vP jj<|vZ jj ?_;refine kR ?_;refine vC D1 tC<|jm jj<|vE jj<|vE jj<|vA jj<|vP jj<|vZ jj ?_;refine kR ?_;refine jm jj<|jS (aY jj jj (fun w=>iR w _ _ _ _ _ _))<|jm jj ?_;refine kG ?_;first|refine jg (aY jj jj (fun w=>iR w _ _ _ _ _ _)) ?_|refine jk ?_|refine ju ?_
 refine kH ?_;refine jm jj ?_;refine kG ?_;first|refine jg (aY jj jj (fun w=>iR w _ _ _ _ _ _)) ?_|refine jk ?_|refine ju ?_
 refine kH ?_;refine jm jj ?_;refine kG ?_;first|refine jg (dM jj jj jj jj) ?_|refine jk ?_|refine ju ?_
 first|refine jg (aQ F1 tA) ?_|refine jk ?_|refine ju ?_
 first|refine jg (aH jj jj (fun w=>bZ5 w CStr.ok _ _ _ _) (dH t1)) ?_|refine jk ?_|refine ju ?_
 refine kH ?_;refine jm jj ?_;refine kG ?_;first|refine jg (dM jj jj jj jj) ?_|refine jk ?_|refine ju ?_
 first|refine jg (aQ F2 tA) ?_|refine jk ?_|refine ju ?_
 first|refine jg (aH jj jj (fun w=>bZ5 w CStr.ok _ _ _ _) (dH t2)) ?_|refine jk ?_|refine ju ?_
 refine kH ?_;refine jm jj ?_;first|refine jg (dM jj jj jj jj) ?_|refine jk ?_|refine ju ?_
 first|refine jg (aQ F3 tA) ?_|refine jk ?_|refine ju ?_
 first|refine jg (aH jj jj (fun w=>bZ5 w CStr.ok _ _ _ _) (dH t3)) ?_|refine jk ?_|refine ju ?_
 refine kH ?_;refine jm jj ?_;refine kG ?_;refine kG ?_;first|refine jg (bNo jj) ?_|refine jk ?_|refine ju ?_
 refine kH ?_;refine vZ jj ?_;refine kO ?_;refine WpD.ret ?_;exact rtT rfl jj
end
section
open Go.RowKit Limb Det Num
theorem iZS{p:Nat}(h:p=3∨p=5∨p=7):OP p∧smP (p:Int)=true:=by
 have key:isP p=true∧p%2=1∧p≤1000:=by
  rcases h with rfl|rfl|rfl<;>decide+kernel
 refine⟨⟨((cZd _).1 key.1).1,key.2.1⟩,?_⟩;unfold smP;rw[Int.toNat_natCast,key.1,decide_eq_true oM];rfl
theorem mZ8{a:Rat}(h:0<a):dZW a 0=1:=by
 have h1:=(Rat.lt_iff 0 a).1 h;have h2:0<a.num:=by simpa using h1
 unfold dZW gJ;simp
 grind
theorem hZr(dim kind:Nat)(f:Nat→Int)(N:Nat)(f':Nat→Int)(N':Nat)(k:Int)(hT:Tp f N)(hd:dim<256)(k1:0≤k):Fn PZ TabD 4 [jZ0 dim kind f N f' N',ex (.int .u8 k)] (ex (.bool true)):=by
 have C1:=mform TabD dim kind f N f' N' hT hd;have AW:=nZa;have hF:=mZh f N (1+dim%7) (kind%8) oM oM;generalize 1+dim%7=n at*;generalize gZt f N n (kind%8)=A at*;have hn1:=hF.n1;have hn7:=hF.n7;have hpo:=hF.po n (Nat.le_refl n);have hdn:=hF.dn;have hI:∀i j,i<n→j<n→I64 (A i j):=fun i j hi hj=>by
  have:=hF.en i j hi hj;exact⟨oM,oM⟩
 have CD:=mZa TabD A n 2 hn1 oM oM (fun i j hi hj=>by
  have:=hF.en i j hi hj;exact dL oM oM) hI ⟨oM,oM⟩
 obtain⟨f2,c2,S2',C2⟩:=hof2 TabD A n hF;refine aA Tryz.func4 rfl Tryz.ntmps4 rfl ?_;intro w0 h0;refine vS<|vB jj<|vZ jj<|vS<|vL jj<|vC C1 ⟨jj,jj,trivial⟩<|vZ jj ?_;refine WpD.cut (α:={p:Nat//p=2∨p=3∨p=5∨p=7}) (fun p=>⟨[(5,.one (imt A n n)),(6,.one (i6 p.1))],[]⟩) ?_ ?_
 ·rcases(show k%4=0∨k%4=1∨k%4=2∨k%4=3 by omega) with h|h|h|h
  ·have e:k.tmod 4=((0:Nat):Int):=by rw[Int.tmod_eq_emod_of_nonneg k1,h];rfl
   have hz:List.take 1 (List.drop (0*1) (eW (eW (eW (eW (List.replicate (4*1) jC) (0*1) [i6 2]) (1*1) [i6 3]) (2*1) [i6 5]) (3*1) [i6 7]))=[i6 2]:=rfl;refine kR ?_;refine jS (bW (ps:=[(_,_),(_,_),(_,_),(_,_)]) ⟨jj,Part.c jj,jj,Part.c jj,jj,Part.c jj,jj,Part.c jj,trivial⟩ jj jj jj)<|jm jj<|jS (bRe jj jj e)<|vD jj aO aM<|vT jj<|vZ jj ?_;refine⟨⟨2,oM⟩,?_⟩;dsimp only;exact Sub.mk sJ sJ
  ·have e:k.tmod 4=((1:Nat):Int):=by rw[Int.tmod_eq_emod_of_nonneg k1,h];rfl
   have hz:List.take 1 (List.drop (1*1) (eW (eW (eW (eW (List.replicate (4*1) jC) (0*1) [i6 2]) (1*1) [i6 3]) (2*1) [i6 5]) (3*1) [i6 7]))=[i6 3]:=rfl;refine kR ?_;refine jS (bW (ps:=[(_,_),(_,_),(_,_),(_,_)]) ⟨jj,Part.c jj,jj,Part.c jj,jj,Part.c jj,jj,Part.c jj,trivial⟩ jj jj jj)<|jm jj<|jS (bRe jj jj e)<|vD jj aO aM<|vT jj<|vZ jj ?_;refine⟨⟨3,oM⟩,?_⟩;dsimp only;exact Sub.mk sJ sJ
  ·have e:k.tmod 4=((2:Nat):Int):=by rw[Int.tmod_eq_emod_of_nonneg k1,h];rfl
   have hz:List.take 1 (List.drop (2*1) (eW (eW (eW (eW (List.replicate (4*1) jC) (0*1) [i6 2]) (1*1) [i6 3]) (2*1) [i6 5]) (3*1) [i6 7]))=[i6 5]:=rfl;refine kR ?_;refine jS (bW (ps:=[(_,_),(_,_),(_,_),(_,_)]) ⟨jj,Part.c jj,jj,Part.c jj,jj,Part.c jj,jj,Part.c jj,trivial⟩ jj jj jj)<|jm jj<|jS (bRe jj jj e)<|vD jj aO aM<|vT jj<|vZ jj ?_;refine⟨⟨5,oM⟩,?_⟩;dsimp only;exact Sub.mk sJ sJ
  ·have e:k.tmod 4=((3:Nat):Int):=by rw[Int.tmod_eq_emod_of_nonneg k1,h];rfl
   have hz:List.take 1 (List.drop (3*1) (eW (eW (eW (eW (List.replicate (4*1) jC) (0*1) [i6 2]) (1*1) [i6 3]) (2*1) [i6 5]) (3*1) [i6 7]))=[i6 7]:=rfl;refine kR ?_;refine jS (bW (ps:=[(_,_),(_,_),(_,_),(_,_)]) ⟨jj,Part.c jj,jj,Part.c jj,jj,Part.c jj,jj,Part.c jj,trivial⟩ jj jj jj)<|jm jj<|jS (bRe jj jj e)<|vD jj aO aM<|vT jj<|vZ jj ?_;refine⟨⟨7,oM⟩,?_⟩;dsimp only;exact Sub.mk sJ sJ
 rintro⟨p,hp⟩;dsimp only;refine kR ?_;refine jm jj<|vC C2 ⟨jj,trivial⟩<|vA jj<|vP jj<|jn ?_;refine WpD.cut (α:={s:(Nat→Co)×Nat//Sym3 (p:Int) n (fH p (det n A).toNat) s.1 s.2}) (fun s=>⟨[(5,.one (imt A n n)),(6,.one (i6 p)),(7,.ptr 7 0)],[(7,[i6 p,slc 5 (rows (ccs s.1.1) s.1.2) s.1.2])]⟩) ?_ ?_
 ·by_cases h2:p=2
  ·subst h2
   refine kR ?_;refine jm jj<|vNf jj<|jn<|jf jj<|jp ?_;refine⟨⟨(f2,c2),S2'⟩,?_⟩;dsimp only;exact Sub.mk sJ sJ
  ·obtain⟨hO,hsm⟩:=iZS (p:=p) oM
   obtain⟨f3,c3,S3,C3⟩:=hofG TabD A n p hF hO hsm oM;have h2':(p:Int)≠2:=oM;refine kR ?_;refine jm jj<|vNt jj<|jn<|jt jj<|jr<|vV jj jj<|vC C3 ⟨jj,jj,trivial⟩<|vP jj<|jn ?_;refine⟨⟨(f3,c3),S3⟩,?_⟩;dsimp only;exact Sub.mk sJ sJ
 rintro⟨⟨g,c'⟩,hS⟩;dsimp only at hS ⊢;have C4:=jZf hS;have hq:=oZW (show 2≤(p:Int) by omega) hS.acc
 have hsz:=(mG_sz hS.acc hS.cr).mono (show 134217728≤1073741824 by omega)
 have C5:=hexp TabD (det n A).toNat p oM oM oM;rw[Int.toNat_of_nonneg oM] at C5;have C6:=pZd TabD (mG (p:Int) g c') hsz;rw[oZ2 hq] at C6;have C7:=pZh TabD 0 1 oM oM oM oM oM;have e0:Rat.divInt 0 1=0:=by decide+kernel
 rw[e0] at C7;have C8:=krcmp TabD (mG (p:Int) g c') 0 hsz (Sz.mono (qH (z:=0) oM oM) oM);rw[mZ8 hq] at C8;generalize mG (p:Int) g c'=q at*;generalize fH p (det n A).toNat=v at*;unfold cO at C4;refine WpD.cut (α:=Unit) (fun _=>⟨[(5,.one (imt A n n)),(6,.one (i6 p)),(8,.ptr 8 0),(9,.one (i6 0))],[(8,tZ q++[ex (.bool (decide (n%2=0∧v%2=1)))])]⟩) ?_ ?_
 ·refine kR ?_
  refine vL jj<|vC C4 ⟨jj,trivial⟩<|jm jj<|vE jj<|vE jj<|vA jj<|vP jj<|vZ jj ?_;refine⟨(),?_⟩;try dsimp only
  exact Sub.mk sJ sJ
 rintro⟨⟩;try dsimp only
 by_cases hn2:n%2=0
 ·have t2:(n:Int).tmod 2=0:=by rw[Int.tmod_eq_emod_of_nonneg oM];omega
  by_cases hv2:v%2=1
  ·have t3:(v:Int).tmod 2=1:=by rw[Int.tmod_eq_emod_of_nonneg oM];omega
   rw[decide_eq_true (show n%2=0∧v%2=1 from⟨hn2,hv2⟩)]
   refine kR ?_;refine jm jj<|jE jj<|jS (aY jj jj (fun w=>cR w _ _ _ _ _ _ aW))<|vEt jj<|jm jj<|jgm jj<|jg (aQ CD ⟨jj,trivial⟩)<|jgm jj<|jg (aQ C5 ⟨jj,jj,trivial⟩)<|jg (aY jj jj (fun w=>cR w _ _ _ _ _ _ aW))<|uEt jj<|vq jj<|vZ jj<|vS<|jm jj<|vEt jj<|jm jj<|jgf jj jj<|jg (dM jj jj jj jj)<|jg (aQ C6 ⟨jj,trivial⟩)<|uGt jj<|vq jj<|jm jj<|vY jj<|jgm jj<|jg (aH jj jj (fun w=>eS w CBool.ok _ _ _ _) (dH (jj:(true==true)=true)))<|vq jj<|jm jj<|jgf jj jj<|jg (dM jj jj jj jj)<|jg (aQ C7 ⟨jj,jj,trivial⟩)<|jg (aQ C8 ⟨jj,jj,trivial⟩)<|uGt jj<|vq jj<|jm jj<|jg (aQ AW trivial)<|vq jj<|vZ jj ?_;refine ji ?_;exact rtT rfl jj
  ·have t3:(v:Int).tmod 2≠1:=by rw[Int.tmod_eq_emod_of_nonneg oM];omega
   rw[decide_eq_false (show ¬(n%2=0∧v%2=1) from fun h=>hv2 h.2)]
   refine kR ?_;refine jm jj<|jE jj<|jS (aY jj jj (fun w=>cR w _ _ _ _ _ _ aW))<|vEt jj<|jm jj<|jgm jj<|jg (aQ CD ⟨jj,trivial⟩)<|jgm jj<|jg (aQ C5 ⟨jj,jj,trivial⟩)<|jg (aY jj jj (fun w=>cR w _ _ _ _ _ _ aW))<|uEf jj<|vq jj<|vZ jj<|vS<|jm jj<|vEt jj<|jm jj<|jgf jj jj<|jg (dM jj jj jj jj)<|jg (aQ C6 ⟨jj,trivial⟩)<|uGt jj<|vq jj<|jm jj<|vY jj<|jgm jj<|jg (aH jj jj (fun w=>eS w CBool.ok _ _ _ _) (dH (jj:(false==false)=true)))<|vq jj<|jm jj<|jgf jj jj<|jg (dM jj jj jj jj)<|jg (aQ C7 ⟨jj,jj,trivial⟩)<|jg (aQ C8 ⟨jj,jj,trivial⟩)<|uGt jj<|vq jj<|jm jj<|jg (aQ AW trivial)<|vq jj<|vZ jj ?_;refine ji ?_;exact rtT rfl jj
 ·have t2:(n:Int).tmod 2≠0:=by rw[Int.tmod_eq_emod_of_nonneg oM];omega
  rw[decide_eq_false (show ¬(n%2=0∧v%2=1) from fun h=>hn2 h.1)]
  refine kR ?_;refine jm jj<|jE jj<|jS (aY jj jj (fun w=>cR w _ _ _ _ _ _ aW))<|vEf jj<|jm jj<|jk<|jk<|jk<|jk<|jk<|jk<|vQ jj<|vZ jj<|vS<|jm jj<|vEt jj<|jm jj<|jgf jj jj<|jg (dM jj jj jj jj)<|jg (aQ C6 ⟨jj,trivial⟩)<|uGt jj<|vq jj<|jm jj<|vY jj<|jgm jj<|jg (aH jj jj (fun w=>eS w CBool.ok _ _ _ _) (dH (jj:(false==false)=true)))<|vq jj<|jm jj<|jgf jj jj<|jg (dM jj jj jj jj)<|jg (aQ C7 ⟨jj,jj,trivial⟩)<|jg (aQ C8 ⟨jj,jj,trivial⟩)<|uGt jj<|vq jj<|jm jj<|jg (aQ AW trivial)<|vq jj<|vZ jj ?_;refine ji ?_;exact rtT rfl jj
end
section
open Go.RowKit Limb Go.ChangeShapes Go.WideShapes
theorem jZL{P:Program}{En:Ev}{f:FuncId}{ps:List Pd}{vs:List Value}(h:Fn P En f ps (ex (.bool true)))(w:World)(he:En.e w)(ha:AllV (wGH w) ps vs):Calls P f vs.toArray w fun e w'=>e= .returned (.bool true)∧Below w.heap.size w w':=by
 refine(h (wGH w) w vs he (gZO w) ha).mono ?_;rintro e w' ⟨v,h',rfl,_,_,_,hb,hv⟩;have hv:v= .bool true:=hv;exact⟨by rw[hv],hb⟩
theorem oO(k:Int)(w:World)(v:Value)(hv:∃dim kind f N f' N',Tp f N∧dim<256∧(jZ0 dim kind f N f' N').p (wGH w) v)(wk:(Lit.int .u8 k).wf=true)(ht:TabD.e w):
  Calls Tryz.prog 4 #[v,.int .u8 k] w fun e w'=>e= .returned (.bool true)∧Below w.heap.size w w':=by
 obtain⟨dim,kind,f,N,f',N',hT,hd,hv⟩:=hv;obtain⟨k1,_⟩:=bounds_u8 wk;exact jZL (hZr dim kind f N f' N' k hT hd oM) w ht ⟨hv,rfl,trivial⟩
end
end Go.Proofs.YtfmjdlogjmofbaaGreatDoor

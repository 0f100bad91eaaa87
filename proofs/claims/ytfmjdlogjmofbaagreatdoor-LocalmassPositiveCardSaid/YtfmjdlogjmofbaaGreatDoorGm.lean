/- Changes of a basis and bordered minors. Plain. -/
import Derived.Test.YtfmjdlogjmofbaaGreatDoorGe
import Derived.Test.YtfmjdlogjmofbaaGreatDoorJ
import Derived.Test.YtfmjdlogjmofbaaGreatDoorV
import Derived.Test.YtfmjdlogjmofbaaGreatDoorW
set_option maxHeartbeats 4000000
set_option maxRecDepth 3000
namespace Go.Proofs.YtfmjdlogjmofbaaGreatDoor.Det
def tr(M:Mx):Mx:=fun r c=>M c r
def opR(M:Mx)(i j:Nat)(q:Int):Mx:=fun r c=>if r=i then M i c-q*M j c else M r c
def opC(M:Mx)(i j:Nat)(q:Int):Mx:=fun r c=>if c=i then M r i-q*M r j else M r c
def opA(M:Mx)(i j:Nat)(q:Int):Mx:=opC (opR M i j q) i j q
theorem cZ1{M:Mx}{k j c:Nat}(h:j<k):bm M k j c=0:=by
 refine sU (k:=j) (l:=k) oM oM oM fun c _=>?_;unfold bo;simp only[if_pos h,if_neg (Nat.lt_irrefl k)]
theorem gZC{M:Mx}{k j c:Nat}(h:j<k):bm M k c j=0:=by
 rw[←nZY];exact cZ1 h
theorem bmR1{M:Mx}{i j k r c:Nat}{q:Int}(hj:j<i)(hi:i<k)(hr:k≤r):bm (opR M i j q) k r c=bm M k r c:=by
 have:=cZv (n:=k+1) (A:=bo (opR M i j q) k r c) (B:=bo M k r c) (k:=i) (l:=j) (x:=1) (y:= -q) oM oM oM (fun c' _=>by
   unfold bo opR;simp only[if_pos hi,if_pos (Nat.lt_trans hj hi),if_true];grind) (fun r' c' h1 _ h2=>by
   unfold bo opR;rw[if_neg];split<;>omega)
 rw[Int.one_mul] at this;exact this
theorem mZY{M:Mx}{i j k r c:Nat}{q:Int}(hi:k≤i)(hr:r≠i):bm (opR M i j q) k r c=bm M k r c:=by
 refine cG fun r' c' _ _=>?_;unfold bo opR;rw[if_neg];split<;>omega
theorem mZX{M:Mx}{i j k c:Nat}{q:Int}(hi:k≤i):bm (opR M i j q) k i c=bm M k i c-q*bm M k j c:=by
 have:=kY (n:=k+1) (A:=bo (opR M i j q) k i c) (B:=bo M k i c) (C:=bo M k j c) (k:=k) (x:=1) (y:= -q) oM (fun c' _=>by
   unfold bo opR;simp only[if_neg (Nat.lt_irrefl k),if_true];grind) (fun r' c' h1 _ h2=>by
   unfold bo opR;have h3:r'<k:=oM;simp only[if_pos h3,if_neg (show ¬r'=i by omega)]) (fun r' c' h1 _ h2=>by
   unfold bo opR;have h3:r'<k:=oM;simp only[if_pos h3,if_neg (show ¬r'=i by omega)])
 show det _ _=det _ _-q*det _ _
 rw[this];grind
theorem eZR(M:Mx)(i j:Nat)(q:Int):tr (opC M i j q)=opR (tr M) i j q:=rfl
theorem eZe(M:Mx)(k i j:Nat):bm M k i j=bm (tr M) k j i:=(nZY M k j i).symm
theorem bmC1{M:Mx}{i j k r c:Nat}{q:Int}(hj:j<i)(hi:i<k)(hc:k≤c):bm (opC M i j q) k r c=bm M k r c:=by
 rw[eZe,eZR,bmR1 hj hi hc,←eZe]
theorem bmC2{M:Mx}{i j k r c:Nat}{q:Int}(hi:k≤i)(hc:c≠i):bm (opC M i j q) k r c=bm M k r c:=by
 rw[eZe,eZR,mZY hi hc,←eZe]
theorem bmC3{M:Mx}{i j k r:Nat}{q:Int}(hi:k≤i):bm (opC M i j q) k r i=bm M k r i-q*bm M k r j:=by
 rw[eZe,eZR,mZX hi,←eZe,←eZe]
theorem kZw{M:Mx}{i j k r c:Nat}{q:Int}(hj:j<i)(hi:i<k)(hr:k≤r)(hc:k≤c):bm (opA M i j q) k r c=bm M k r c:=by
 unfold opA;rw[bmC1 hj hi hc,bmR1 hj hi hr]
theorem kZv{M:Mx}{i j k r c:Nat}{q:Int}(hi:k≤i)(hr:r≠i)(hc:c≠i):bm (opA M i j q) k r c=bm M k r c:=by
 unfold opA;rw[bmC2 hi hc,mZY hi hr]
theorem cZ2{M:Mx}{i j k c:Nat}{q:Int}(hi:k≤i)(hc:c≠i):bm (opA M i j q) k i c=bm M k i c-q*bm M k j c:=by
 unfold opA;rw[bmC2 hi hc,mZX hi]
def lam(M:Mx)(i j:Nat):Int:=bm M j i j
theorem bZZ{M:Mx}{i j r l:Nat}{q:Int}(hj:j<i)(hl:l<r)(hr:r≠i):lam (opA M i j q) r l=lam M r l:=by
 unfold lam
 by_cases h:i<l
 ·exact kZw hj h oM oM
 ·by_cases e:l=i
  ·subst e
   unfold opA;rw[bmC3 (Nat.le_refl _),mZY (Nat.le_refl _) hr,mZY (Nat.le_refl _) hr,gZC hj];omega
  ·exact kZv oM hr e
theorem gZi{M:Mx}{i j l:Nat}{q:Int}(_:j<i)(hl:l<i)(h:j<l):lam (opA M i j q) i l=lam M i l:=by
 unfold lam;rw[cZ2 oM oM,cZ1 h];omega
theorem lZS{M:Mx}{i j:Nat}{q:Int}(hj:j<i):lam (opA M i j q) i j=lam M i j-q*det (j+1) M:=by
 unfold lam;rw[cZ2 oM oM,iT]
theorem lZR{M:Mx}{i j l:Nat}{q:Int}(hj:j<i)(h:l<j):lam (opA M i j q) i l=lam M i l-q*lam M j l:=by
 unfold lam;rw[cZ2 oM oM]
theorem wH{M:Mx}{i j:Nat}{q:Int}(hj:j<i)(k:Nat):det k (opA M i j q)=det k M:=by
 cases k with
 |zero=>rfl
 |succ k=>
  rw[←iT,←iT]
  by_cases h:i<k
  ·exact kZw hj h (Nat.le_refl _) (Nat.le_refl _)
  ·by_cases e:k=i
   ·subst e
    unfold opA;rw[bmC3 (Nat.le_refl _),mZX (Nat.le_refl _),mZX (Nat.le_refl _),cZ1 hj,gZC hj,cZ1 hj];omega
   ·exact kZv oM e e
def tp(i r:Nat):Nat:=if r=i then i+1 else if r=i+1 then i else r
def sw(M:Mx)(i:Nat):Mx:=fun r c=>M (tp i r) (tp i c)
theorem cZI{i r:Nat}(h1:r≠i)(h2:r≠i+1):tp i r=r:=by unfold tp;rw[if_neg h1,if_neg h2]
theorem tp_i(i:Nat):tp i i=i+1:=by unfold tp;rw[if_pos rfl]
theorem tp_s(i:Nat):tp i (i+1)=i:=by unfold tp;rw[if_neg oM,if_pos rfl]
theorem cZu{M:Mx}{i k:Nat}(h:k≠i+1):det k (sw M i)=det k M:=by
 by_cases hk:k≤i
 ·exact cG fun r c hr hc=>by unfold sw;rw[cZI oM oM,cZI oM oM]
 ·have e1:=sT (n:=k) (A:=sw M i) (B:=fun r c=>M r (tp i c)) (k:=i) (l:=i+1) oM oM oM (fun c _=>by show M (tp i i) _=_;rw[tp_i]) (fun c _=>by show M (tp i (i+1)) _=_;rw[tp_s]) (fun r c _ _ h1 h2=>by show M (tp i r) _=_;rw[cZI h1 h2])
  have e2:=bZh (n:=k) (A:=fun r c=>M r (tp i c)) (B:=M) (k:=i) (l:=i+1) oM oM oM (fun c _=>by show M _ (tp i i)=_;rw[tp_i]) (fun c _=>by show M _ (tp i (i+1))=_;rw[tp_s]) (fun r c _ _ h1 h2=>by show M _ (tp i c)=_;rw[cZI h1 h2])
  omega
theorem uP(M:Mx)(i:Nat):det (i+1) (sw M i)=bm M i (i+1) (i+1):=by
 refine cG fun r c hr hc=>?_;have e:∀x,x<i+1→tp i x=if x<i then x else i+1:=fun x hx=>by
  by_cases g:x<i
  ·rw[if_pos g,cZI oM oM]
  ·rw[if_neg g,show x=i by omega,tp_i]
 unfold sw bo;rw[e r hr,e c hc]
def Sym(M:Mx):Prop:=∀r c,M r c=M c r
theorem Sym.tr{M:Mx}(h:Sym M):tr M=M:=by funext r c;exact h c r
theorem Sym.bm{M:Mx}(h:Sym M)(k i j:Nat):bm M k i j=bm M k j i:=by rw[eZe,h.tr]
theorem Sym.opA{M:Mx}(h:Sym M)(i j:Nat)(q:Int):Sym (opA M i j q):=fun r c=>by
 unfold Det.opA opC opR;have h1:=h r c;have h2:=h i j;have h3:=h j r;have h4:=h i r;have h5:=h j c;have h6:=h i c;split<;>split<;>grind
theorem Sym.sw{M:Mx}(h:Sym M)(i:Nat):Sym (sw M i):=fun _ _=>h _ _
def Pos(n:Nat)(M:Mx):Prop:=∀k,k≤n→0<det k M
theorem lJ{M:Mx}{n k r:Nat}(hs:Sym M)(hp:Pos n M)(hk:k<r)(hr:r<n):bm M (k+1) r r*det k M=det (k+1) M*bm M k r r-lam M r k*lam M r k:=by
 have e:=tE (M:=M) (k:=k) (i:=r) (j:=r) (fun l hl=>by have:=hp (l+1) oM;omega) hk hk
 rw[iT,hs.bm k k r] at e;exact e
theorem xP{M:Mx}{n r:Nat}(hs:Sym M)(hp:Pos n M)(hr:r<n):∀d k,k+d=r→0<bm M k r r
 |0,k,h=>by rw[show k=r by omega,iT];exact hp _ oM
 |d+1,k,h=>by
  have ih:=xP hs hp hr d (k+1) oM;have e:=lJ hs hp (k:=k) (r:=r) oM hr;have h1:0<bm M (k+1) r r*det k M:=Int.mul_pos ih (hp k oM);have h2:0≤lam M r k*lam M r k:=by
   rcases Int.le_total 0 (lam M r k) with g|g
   ·exact Int.mul_nonneg g g
   ·exact Int.mul_nonneg_of_nonpos_of_nonpos g g
  have h3:0<det (k+1) M*bm M k r r:=oM;exact Int.pos_of_mul_pos_right h3 (hp (k+1) oM)
theorem rT(x:Int):0≤x*x:=by
 rcases Int.le_total 0 x with g|g
 ·exact Int.mul_nonneg g g
 ·exact Int.mul_nonneg_of_nonpos_of_nonpos g g
theorem s_le{M:Mx}{n r:Nat}(hs:Sym M)(hp:Pos n M)(hr:r<n):∀k,k≤r→bm M k r r≤det k M*M r r
 |0,_=>by rw[jX];show _≤1*_;omega
 |k+1,hk=>by
  have ih:=s_le hs hp hr k oM;have e:=lJ hs hp (k:=k) (r:=r) oM hr;have h2:=rT (lam M r k);have hd:=hp (k+1) oM;have h3:=Int.mul_le_mul_of_nonneg_left ih (Int.le_of_lt hd);have h4:bm M (k+1) r r*det k M≤det (k+1) M*M r r*det k M:=by
   rw[show det (k+1) M*M r r*det k M=det (k+1) M*(det k M*M r r) by grind];omega
  exact Int.le_of_mul_le_mul_right h4 (hp k oM)
theorem pZc{M:Mx}{n k r:Nat}(hs:Sym M)(hp:Pos n M)(hk:k<r)(hr:r<n):lam M r k*lam M r k≤det (k+1) M*(det k M*M r r):=by
 have e:=lJ hs hp hk hr;have h1:=xP hs hp hr (r-(k+1)) (k+1) oM;have h2:=Int.mul_pos h1 (hp k oM);have h3:=Int.mul_le_mul_of_nonneg_left (s_le hs hp hr k oM) (Int.le_of_lt (hp (k+1) oM));omega
theorem s_up{M:Mx}{n r:Nat}{B D:Int}(hs:Sym M)(hp:Pos n M)(hr:r<n)(hB:0≤B)(hD:∀k,k≤n→det k M≤D)(hl:∀k,k<r→lam M r k*lam M r k≤B*(det (k+1) M*det (k+1) M)):∀d k,k+d=r→bm M k r r≤(D+d*(B*D))*det k M
 |0,k,h=>by
  rw[show k=r by omega,iT]
  have h1:=hD (r+1) oM;have h2:=hp r oM;have h3:=hp (r+1) oM;have h4:D*1≤D*det r M:=Int.mul_le_mul_of_nonneg_left oM oM;simp only[Int.natCast_zero,Int.zero_mul,Int.add_zero,Int.mul_one] at*;omega
 |d+1,k,h=>by
  have ih:=s_up hs hp hr hB hD hl d (k+1) oM;have e:=lJ hs hp (k:=k) (r:=r) oM hr;have hk:=hp k oM;have hk1:=hp (k+1) oM;have h1:=Int.mul_le_mul_of_nonneg_right ih (Int.le_of_lt hk);have h2:=hl k oM;have h3:=hD (k+1) oM;have h4:B*det (k+1) M≤B*D:=Int.mul_le_mul_of_nonneg_left h3 hB;have h5:(B*D)*1≤(B*D)*det k M:=Int.mul_le_mul_of_nonneg_left oM (Int.mul_nonneg hB oM);have h6:det (k+1) M*(B*det (k+1) M)≤det (k+1) M*((B*D)*det k M):=Int.mul_le_mul_of_nonneg_left oM oM;have h7:det (k+1) M*bm M k r r≤det (k+1) M*((D+((d+1:Nat):Int)*(B*D))*det k M):=by
   rw[show det (k+1) M*((D+((d+1:Nat):Int)*(B*D))*det k M)=(D+(d:Int)*(B*D))*det (k+1) M*det k M+det (k+1) M*((B*D)*det k M) by rw[Int.natCast_add];grind]
   have h8:B*(det (k+1) M*det (k+1) M)=det (k+1) M*(B*det (k+1) M):=by grind
   omega
  exact Int.le_of_mul_le_mul_left h7 hk1
end Go.Proofs.YtfmjdlogjmofbaaGreatDoor.Det
namespace Go.Proofs.YtfmjdlogjmofbaaGreatDoor.Det
theorem lZN{M:Mx}{n i:Nat}(hs:Sym M)(hp:Pos n M)(hi:i+1<n)(hl:4*(det i M*det (i+2) M+lam M (i+1) i*lam M (i+1) i)<3*(det (i+1) M*det (i+1) M)):det (i+1) (sw M i)<det (i+1) M:=by
 have e:=lJ hs hp (k:=i) (r:=i+1) oM hi;rw[iT,show i+1+1=i+2 from rfl] at e
 rw[uP];have hd:=hp (i+1) oM;refine Int.lt_of_mul_lt_mul_left (a:=det (i+1) M) ?_ oM;have h1:=rT (det (i+1) M);have h2:det (i+2) M*det i M=det i M*det (i+2) M:=Int.mul_comm _ _;have h3:=Int.mul_pos hd hd;omega
theorem Pos.sw{M:Mx}{n i:Nat}(hs:Sym M)(hp:Pos n M)(hi:i+1<n):Pos n (sw M i):=fun k hk=>by
 by_cases e:k=i+1
 ·subst e;rw[uP];exact xP hs hp hi 1 i rfl
 ·rw[cZu e];exact hp k hk
theorem Pos.opA{M:Mx}{n i j:Nat}{q:Int}(hp:Pos n M)(hj:j<i):Pos n (opA M i j q):=fun k hk=>by rw[wH hj];exact hp k hk
def phi(M:Mx):Nat→Nat
 |0=>1
 |k+1=>phi M k*(det (k+1) M).toNat
theorem nA{M N:Mx}:∀{n:Nat},(∀k,k≤n→det k M=det k N)→phi M n=phi N n
 |0,_=>rfl
 |n+1,h=>by show phi M n*_=phi N n*_;rw[nA (fun k hk=>h k oM),h (n+1) (Nat.le_refl _)]
theorem fZU{M:Mx}:∀{n:Nat},Pos n M→0<phi M n
 |0,_=>by show 0<1;omega
 |n+1,h=>Nat.mul_pos (fZU (fun k hk=>h k oM)) (by have:=h (n+1) (Nat.le_refl _);omega)
def szd(M:Mx)(i j:Nat):Bool:=decide (2*lam M i j≤det (j+1) M∧-(det (j+1) M)≤2*lam M i j)
def bZD(i:Nat):List (Nat×Nat):=(List.range i).reverse.map (fun j=>(i,j))
def plc:Nat→List (Nat×Nat)
 |0=>[]
 |n+1=>plc n++bZD n
def fpl(M:Mx)(n:Nat):Nat:=((plc n).takeWhile (fun x=>szd M x.1 x.2)).length
theorem cZF{α:Type}{p:α→Bool}:∀{A B:List α} {x:α},(∀y∈A,p y=true)→p x=false→((A++x::B).takeWhile p).length=A.length
 |[],B,x,_,h=>by simp[h]
 |a::A,B,x,h1,h2=>by
  have e:=cZF (p:=p) (A:=A) (B:=B) (fun y hy=>h1 y (List.mem_cons_of_mem _ hy)) h2;simp only[List.cons_append,List.takeWhile,h1 a List.mem_cons_self,List.length_cons,e]
theorem fZ2{α:Type}{p:α→Bool}:∀{A B:List α},(∀y∈A,p y=true)→A.length≤((A++B).takeWhile p).length
 |[],B,_=>by simp
 |a::A,B,h1=>by
  have e:=fZ2 (p:=p) (A:=A) (B:=B) (fun y hy=>h1 y (List.mem_cons_of_mem _ hy));simp only[List.cons_append,List.takeWhile,h1 a List.mem_cons_self,List.length_cons];omega
theorem hZV{α:Type}{p:α→Bool}:∀(A:List α),(A.takeWhile p).length≤A.length
 |[]=>by simp
 |a::A=>by
  have e:=hZV (p:=p) A;simp only[List.takeWhile];split<;>simp<;>omega
def iI(i j:Nat):List (Nat×Nat):=plc i++((List.range (i-1-j)).map (fun t=>(i,i-1-t)))
theorem bZH:∀{n:Nat} {x:Nat×Nat},x∈plc n→x.2<x.1∧x.1<n
 |0,_,h=>by simp[plc] at h
 |n+1,x,h=>by
  rcases List.mem_append.1 h with h|h
  ·have:=bZH h;omega
  ·simp only[bZD,List.mem_map,List.mem_reverse,List.mem_range] at h
   obtain⟨a,ha,rfl⟩:=h;exact⟨ha,by show n<n+1;omega⟩
theorem eZP{i j:Nat}(h:j<i):∃B,bZD i=((List.range (i-1-j)).map (fun t=>(i,i-1-t)))++(i,j)::B:=by
 have e:(List.range i).reverse=(List.range i).map (fun t=>i-1-t):=by
  apply List.ext_getElem
  ·simp
  ·intro k h1 h2;simp
 have e2:List.range i=List.range (i-1-j)++(i-1-j)::(List.range j).map (fun t=>i-j+t):=by
  apply List.ext_getElem
  ·simp;omega
  ·intro k h1 h2
   simp only[List.getElem_range,List.getElem_append,List.length_range,List.getElem_cons,List.getElem_map];split
   ·rfl
   ·split<;>omega
 refine⟨((List.range j).map (fun t=>i-j+t)).map (fun t=>(i,i-1-t)),?_⟩;unfold bZD;rw[e,e2];simp only[List.map_append,List.map_cons,List.map_map];rw[show i-1-(i-1-j)=j by omega]
 rfl
theorem aZC{i j:Nat}(hj:j<i):∀{n:Nat},i<n→∃B,plc n=iI i j++(i,j)::B
 |0,h=>oM
 |n+1,h=>by
  by_cases e:n=i
  ·subst e
   obtain⟨B,hB⟩:=eZP hj;exact⟨B,by show plc n++bZD n=_;rw[hB];unfold iI;rw[List.append_assoc]⟩
  ·obtain⟨B,hB⟩:=aZC hj (n:=n) oM
   exact⟨B++bZD n,by show plc n++bZD n=_;rw[hB,List.append_assoc];rfl⟩
theorem iZa{M:Mx}{i j r l:Nat}{q:Int}(hj:j<i)(h:(r≠i∧l<r)∨(r=i∧j<l∧l<i)):szd (opA M i j q) r l=szd M r l:=by
 unfold szd;rw[wH hj];rcases h with⟨h1,h2⟩|⟨h1,h2,h3⟩
 ·rw[bZZ hj h2 h1]
 ·subst h1;rw[gZi hj h3 h2]
def msr(M:Mx)(n:Nat):Nat:=phi M n*((plc n).length+1)+((plc n).length-fpl M n)
theorem msr_A{M:Mx}{n i j:Nat}{q:Int}(hj:j<i)(hi:i<n)(h1:∀y∈iI i j,szd M y.1 y.2=true)(h2:szd M i j=false)(h3:szd (opA M i j q) i j=true):msr (opA M i j q) n<msr M n:=by
 obtain⟨B,hB⟩:=aZC hj hi;have e1:fpl M n=(iI i j).length:=by
  have g:=cZF (p:=fun x:Nat×Nat=>szd M x.1 x.2) (A:=iI i j) (B:=B) (x:=(i,j)) h1 h2;unfold fpl;rw[hB,g]
 have e2:(iI i j).length+1≤fpl (opA M i j q) n:=by
  have:=fZ2 (p:=fun x=>szd (opA M i j q) x.1 x.2) (A:=iI i j++[(i,j)]) (B:=B) (fun y hy=>by
   rcases List.mem_append.1 hy with hy|hy
   ·rw[iZa hj (by
     rcases List.mem_append.1 hy with hy|hy
     ·have:=bZH hy
      omega
     ·simp only[List.mem_map,List.mem_range] at hy
      obtain⟨t,ht,rfl⟩:=hy;exact .inr ⟨rfl,by show j<i-1-t;omega,by show i-1-t<i;omega⟩)]
    exact h1 y hy
   ·simp at hy;subst hy;exact h3)
  unfold fpl;rw[hB];simpa using this
 have e3:(iI i j).length+1≤(plc n).length:=by rw[hB];simp
 have e4:phi (opA M i j q) n=phi M n:=nA fun k _=>wH hj k;unfold msr;rw[e4,e1];generalize phi M n*_=a;generalize fpl _ _=b at*;generalize(plc n).length=d at*;generalize(iI i j).length=c at*;clear hB h1 h2 h3 e1 e4;omega
end Go.Proofs.YtfmjdlogjmofbaaGreatDoor.Det
namespace Go.Proofs.YtfmjdlogjmofbaaGreatDoor
section
open Go.RowKit Limb Det
instance kb114:CBody PZ 114:=cB Tryz.func114
instance kb115:CBody PZ 115:=cB Tryz.func115
instance kb111:CBody PZ 111:=cB Tryz.func111
instance kb116:CBody PZ 116:=cB Tryz.func116
instance kb47:CBody PZ 47:=cB Tryz.func47
instance kb50:CBody PZ 50:=cB Tryz.func50
instance kb112:CBody PZ 112:=cB Tryz.func112
instance kb156:CBody PZ 156:=cB Tryz.func156
instance kb158:CBody PZ 158:=cB Tryz.func158
instance kb113:CBody PZ 113:=cB Tryz.func113
theorem jZ4(r:Nat→Nat)(k more:Nat):iX r k++[i6 ((more:Nat):Int)]=iX (fun a=>if a<k then r a else more) (k+1):=by
 have e1:iX r k=iX (fun a=>if a<k then r a else more) k:=cA fun a ha=>by dsimp only;rw[if_pos ha]
 have e2:((if k<k then r k else more:Nat):Int)=((more:Nat):Int):=by rw[if_neg (Nat.lt_irrefl k)]
 show iX r k++_=iX (fun a=>if a<k then r a else more) k++[i6 ((if k<k then r k else more:Nat):Int)]
 rw[←e1,e2]
theorem dZV(x y:Int):decide (gJ x y≤0)=decide (x≤y):=by
 unfold gJ
 by_cases h:x<y
 ·rw[if_pos h,decide_eq_true (p:=x≤y) oM];rfl
 ·rw[if_neg h]
  by_cases h2:y<x
  ·rw[if_pos h2,decide_eq_false (p:=x≤y) oM];rfl
  ·rw[if_neg h2,decide_eq_true (p:=x≤y) oM];rfl
theorem mZA(x y:Int):decide (gJ x y≥0)=decide (y≤x):=by
 unfold gJ
 by_cases h:x<y
 ·rw[if_pos h,decide_eq_false (p:=y≤x) oM];rfl
 ·rw[if_neg h]
  by_cases h2:y<x
  ·rw[if_pos h2,decide_eq_true (p:=y≤x) oM];rfl
  ·rw[if_neg h2,decide_eq_true (p:=y≤x) oM];rfl
section
variable(En:Ev)
theorem eZt{A:Nat→Nat→Int}{n K i j:Nat}(hn:n≤8)(hA:ZL A n n K)(hi:i<n)(hj:j<n):zl (lam A i j)≤9*K+82:=nZn hn hA oM hi hj
theorem bZR(A:Nat→Nat→Int)(n i j K:Nat)(hn8:n≤8)(hi:i<n)(hj:j<n)(hK:K≤1000000)(hA:ZL A n n K):Fn PZ En 114 [zmt A n n,i6 i,i6 j] (zC (lam A i j)):=by
 have C1:=gZb En A n n (j+1) (j+1) (kB j i) (kB j j) oM oM (fun a ha=>by unfold kB;split<;>omega) (fun a ha=>by unfold kB;split<;>omega)
 have C2:Fn PZ En 21 [zmt (fun a b=>A (kB j i a) (kB j j b)) (j+1) (j+1)] (zC (lam A i j)):=jZd En (fun a b=>A (kB j i a) (kB j j b)) (j+1) K oM oM hK fun a b ha hb=>hA _ _ (by unfold kB;split<;>omega) (by unfold kB;split<;>omega)
 refine aA Tryz.func114 rfl Tryz.ntmps114 rfl ?_;intro w0 h0;refine vS<|vA jj<|vJ<|ja jj<|vZ jj<|js<|vS<|vZ jj<|jb ?_;refine WpD.loop (α:={k:Nat//k≤j}) (fun k=>⟨[(0,.one (zmt A n n)),(1,.one (i6 i)),(2,.one (i6 j)),(6,.ptr 6 0),(7,.app 507 1 k.1),(8,.app 508 1 k.1),(9,.one (i6 k.1))],[(507,iX (fun a=>a) k.1),(757,[]),(508,iX (fun a=>a) k.1),(758,[]),(6,[ex (.bool false),ex (.slice none 0 0)])]⟩) (fun k=>j-k.1) ⟨0,Nat.zero_le _⟩ ?_ ?_
 ·dsimp only
  exact Sub.mk sJ ⟨.inr jj,.inr jj,.inr jj,.inr jj,.inl pQ,trivial⟩
 rintro⟨k,hk⟩;dsimp only
 by_cases hkj:k<j
 ·refine js<|vS<|vV jj jj<|vLt jj<|jn<|jt jj<|jp<|js<|jb<|vS<|vV jj jj<|jS (bW (ps:=[(_,_)]) ⟨jj,Part.c jj,trivial⟩ jj jj jj)<|RG.SW (LT.plain jj (cC 518 jj jj ((hZ _ _)) jj oM oM jj jj jj jj jj jj)) jj<|vZ jj<|jr<|vV jj jj<|jS (bW (ps:=[(_,_)]) ⟨jj,Part.c jj,trivial⟩ jj jj jj)<|RG.SW (LT.plain jj (cC 522 jj jj ((hZ _ _)) jj oM oM jj jj jj jj jj jj)) jj<|vZ jj<|jr<|jm jj<|vAd jj wO<|vZ jj ?_
  refine⟨⟨k+1,oM⟩,?_,oD⟩;dsimp only;refine Sub.trans (τ:=⟨[(0,.one (zmt A n n)),(1,.one (i6 i)),(2,.one (i6 j)),(6,.ptr 6 0),(7,.app 507 1 (k+1)),(8,.app 522 1 (k+1)),(9,.one (i6 ((k+1:Nat):Int)))],[(507,iX (fun a=>a) (k+1)),(757,[]),(522,iX (fun a=>a) (k+1)),(772,[]),(6,[ex (.bool false),ex (.slice none 0 0)])]⟩) ?_ ?_
  ·refine Sub.ren 507 518 rfl ?_ ?_ rfl
   ·repeat(first|exact trivial|refine⟨.inl ⟨pK,trivial,trivial⟩,?_⟩|refine⟨.inr ⟨_,_,rfl,.inl rfl,⟨oN,oN⟩⟩,?_⟩|refine⟨.inl ⟨⟨_,rfl,rfl⟩,oN,⟨aD,aD⟩⟩,?_⟩|refine⟨.inl ⟨⟨_,rfl,rfl⟩,⟨oN,oN⟩,⟨aD,aD,aD,aD⟩⟩,?_⟩|refine⟨.inl ⟨⟨_,rfl,rfl⟩,clo_live oN oN,clo_avoid aD aD aD aD⟩,?_⟩|refine⟨.inr ⟨_,_,rfl,.inr ⟨oM,rfl⟩,oN⟩,?_⟩)
   ·repeat(first|exact trivial|refine⟨.inr ⟨aD,.inr rfl⟩,?_⟩|refine⟨.inl ⟨rfl,_,rfl,PsLe.refl _⟩,?_⟩|refine⟨.inr ⟨aD,.inl ⟨aD,_,rfl,PsLe.refl _⟩⟩,?_⟩)
  ·refine Sub.ren 508 522 rfl ?_ ?_ rfl
   ·repeat(first|exact trivial|refine⟨.inl ⟨pK,trivial,trivial⟩,?_⟩|refine⟨.inr ⟨_,_,rfl,.inl rfl,⟨oN,oN⟩⟩,?_⟩|refine⟨.inl ⟨⟨_,rfl,rfl⟩,oN,⟨aD,aD⟩⟩,?_⟩|refine⟨.inl ⟨⟨_,rfl,rfl⟩,⟨oN,oN⟩,⟨aD,aD,aD,aD⟩⟩,?_⟩|refine⟨.inl ⟨⟨_,rfl,rfl⟩,clo_live oN oN,clo_avoid aD aD aD aD⟩,?_⟩|refine⟨.inr ⟨_,_,rfl,.inr ⟨oM,rfl⟩,oN⟩,?_⟩)
   ·repeat(first|exact trivial|refine⟨.inr ⟨aD,.inr rfl⟩,?_⟩|refine⟨.inl ⟨rfl,_,rfl,PsLe.refl _⟩,?_⟩|refine⟨.inr ⟨aD,.inl ⟨aD,_,rfl,PsLe.refl _⟩⟩,?_⟩)
 ·have e:k=j:=oM
  subst e;refine js<|vS<|vV jj jj<|vLf jj<|jn<|jf jj<|je<|js ?_;refine WpD.seqR ?_;show WpS _ _ _ _ _ _ _ [0,1,2,3,4,5,6,7,8,9,10,11] _ _
  refine WpS.S rfl rfl (eM rfl) rfl ?_;refine WpS.S rfl rfl (eM rfl) rfl ?_;refine WpS.S rfl rfl (eM rfl) rfl ?_;refine WpS.S rfl rfl (bW (ps:=[(_,_)]) ⟨rfl,Part.c rfl,trivial⟩ rfl rfl rfl) rfl ?_;refine WpS.S rfl rfl (cC 527 rfl rfl (hZ _ _) rfl oM oM rfl rfl rfl rfl rfl (jZ4 _ _ _)) rfl ?_;refine WpS.S rfl rfl (eM rfl) rfl ?_;refine WpS.S rfl rfl (eM rfl) rfl ?_;refine WpS.S rfl rfl (bW (ps:=[(_,_)]) ⟨rfl,Part.c rfl,trivial⟩ rfl rfl rfl) rfl ?_;refine WpS.S rfl rfl (cC 531 rfl rfl (hZ _ _) rfl oM oM rfl rfl rfl rfl rfl (jZ4 _ _ _)) rfl ?_;refine WpS.sub (τ:=⟨[(6,.ptr 6 0),(23,.one (zmt A n n)),(27,.one (isl (kB k i) (k+1))),(31,.app 531 1 (k+1))],[(531,iX (kB k k) (k+1)),(781,[]),(6,[ex (.bool false),ex (.slice none 0 0)])]⟩) ?_ ?_
  ·refine Sub.pub 527 rfl rfl ⟨.inl ⟨⟨_,rfl,rfl⟩,js0 rfl⟩,.inl ⟨pK,trivial⟩,.inr (.inr (.inl ⟨1,k+1,_,rfl,rfl,hZ _ _,PLe.refl _⟩)),.inl ⟨⟨_,rfl,rfl⟩,js0 rfl,js0 rfl⟩,trivial⟩ ⟨.inl pQ,.inr rfl,.inl pQ,trivial⟩ rfl
  refine WpS.sub (τ:=⟨[(6,.ptr 6 0),(23,.one (zmt A n n)),(27,.one (isl (kB k i) (k+1))),(31,.one (isl (kB k k) (k+1)))],[(6,[ex (.bool false),ex (.slice none 0 0)])]⟩) ?_ ?_
  ·refine Sub.pub 531 rfl rfl ⟨.inl ⟨⟨_,rfl,rfl⟩,js0 rfl⟩,.inl ⟨pK,trivial⟩,.inl ⟨pK,trivial⟩,.inr (.inr (.inl ⟨1,k+1,_,rfl,rfl,hZ _ _,PLe.refl _⟩)),trivial⟩ ⟨.inl pQ,trivial⟩ rfl
  refine WpS.S rfl rfl (aQ C1 ⟨rfl,rfl,rfl,trivial⟩) rfl ?_;refine WpS.S rfl rfl (aQ C2 ⟨rfl,trivial⟩) rfl ?_;refine WpS.N rfl (mU rfl rfl rfl rfl rfl rfl) rfl ?_;refine WpS.nil ?_;refine kO ?_;refine WpD.ret ?_;exact rtC rfl jj jj
theorem yO(A:Nat→Nat→Int)(n k:Nat)(hn8:n≤8)(hk:k≤n):Fn PZ En 115 [zsl (fun k=>det (k+1) A) n,i6 k] (zC (det k A)):=by
 cases k with
 |zero=>
  have C1:=iH En 1 oM oM;refine aA Tryz.func115 rfl Tryz.ntmps115 rfl ?_;intro w0 h0;refine vS<|vA jj<|jn<|js<|vS<|jm jj<|vEt jj<|jn<|jt jj<|vS<|vC C1 tA<|vP jj<|jn<|ji ?_;exact rtC rfl jj jj
 |succ k=>
  have e1:IntKind.i64.wrap (((k+1:Nat):Int)-1)=(k:Int):=by rw[w64 oM oM];omega
  have hk':k<n:=oM;refine aA Tryz.func115 rfl Tryz.ntmps115 rfl ?_;intro w0 h0;refine vS<|vA jj<|jn<|js<|vS<|jm jj<|vEf jj<|jn<|jf jj<|jp<|vS<|vV jj jj<|vSu jj e1<|jS (eU jj jj aO (fun _ _=>jj))<|vR jj<|vP jj<|jn<|ji ?_;exact rtC rfl jj jj
theorem oZu(A:Nat→Nat→Int)(i j:Nat):decide (gJ (2*((lam A i j).natAbs:Int)) (det (j+1) A)≤0)=szd A i j:=by
 rw[show decide (gJ (2*((lam A i j).natAbs:Int)) (det (j+1) A)≤0)=decide (2*((lam A i j).natAbs:Int)≤det (j+1) A) from dZV _ _]
 unfold szd
 by_cases h:2*((lam A i j).natAbs:Int)≤det (j+1) A
 ·rw[decide_eq_true h,decide_eq_true oM]
 ·rw[decide_eq_false h,decide_eq_false oM]
theorem oZP(A:Nat→Nat→Int)(n i j K:Nat)(hn8:n≤8)(hi:i<n)(hj:j<i)(hK:K≤1000000)(hA:ZL A n n K):Fn PZ En 111 [zmt A n n,zsl (fun k=>det (k+1) A) n,i6 i,i6 j] (ex (.bool (szd A i j))):=by
 have z1:=eZt hn8 hA hi (show j<n by omega)
 have z2:zl ((lam A i j).natAbs:Int)≤9*K+82:=by rw[show zl ((lam A i j).natAbs:Int)=zl (lam A i j) by unfold zl;rw[Int.natAbs_natCast]];exact z1
 have z3:=dU 2 ((lam A i j).natAbs:Int);have z4:zl 2≤2:=dL oM oM;have z5:zl (det (j+1) A)≤9*K+82:=mD oM fun a b ha hb=>hA a b oM oM;have C1:=iH En 2 oM oM;have C2:=bZR En A n i j K hn8 hi oM hK hA;have C3:=cabs En (lam A i j) (Nat.le_trans z1 oM);have C4:=wI En 2 ((lam A i j).natAbs:Int) oM oM;have C5:=yO En A n (j+1) hn8 oM;have C6:=kZt En (2*((lam A i j).natAbs:Int)) (det (j+1) A) oM oM;refine aA Tryz.func111 rfl Tryz.ntmps111 rfl ?_;intro w0 h0;refine vS<|vZ jj<|vS<|vC C1 tA<|vV jj jj<|jm jj<|vC C2 tC<|vC C3 tA<|vC C4 tB<|vV jj jj<|vAd jj wO<|vC C5 tB<|vC C6 tB<|jS (bVe jj jj (oZu A i j))<|vZ jj<|ji ?_;exact rtT rfl jj
def eZX(A:Nat→Nat→Int)(i:Nat):Bool:=decide (3*(det i A*det i A)≤4*(det (i-1) A*det (i+1) A+lam A i (i-1)*lam A i (i-1)))
theorem lZI(A:Nat→Nat→Int)(n i K:Nat)(hn8:n≤8)(hi:i<n)(hi1:1≤i)(hK:K≤1000000)(hA:ZL A n n K):Fn PZ En 116 [zmt A n n,zsl (fun k=>det (k+1) A) n,i6 i] (ex (.bool (eZX A i))):=by
 have z1:=eZt hn8 hA hi (show i-1<n by omega)
 have zd:∀k,k≤n→zl (det k A)≤9*K+82:=fun k hk=>mD oM fun a b ha hb=>hA a b oM oM;have d0:=zd (i-1) oM;have d1:=zd i oM;have d2:=zd (i+1) oM;have m1:=dU (det (i-1) A) (det (i+1) A);have m2:=dU (lam A i (i-1)) (lam A i (i-1));have m3:=oP (det (i-1) A*det (i+1) A) (lam A i (i-1)*lam A i (i-1));have z4:zl 4≤2:=dL oM oM;have z3:zl 3≤2:=dL oM oM;have m4:=dU 4 (det (i-1) A*det (i+1) A+lam A i (i-1)*lam A i (i-1));have m5:=dU (det i A) (det i A);have m6:=dU 3 (det i A*det i A);have C1:=bZR En A n i (i-1) K hn8 hi oM hK hA;have C2:=iH En 4 oM oM;have C3:=yO En A n (i-1) hn8 oM;have C4:=yO En A n (i+1) hn8 oM;have C5:=wI En (det (i-1) A) (det (i+1) A) oM oM;have C6:=wI En (lam A i (i-1)) (lam A i (i-1)) oM oM;have C7:=hZC En (det (i-1) A*det (i+1) A) (lam A i (i-1)*lam A i (i-1)) (by show zl _≤_;omega) (by show zl _≤_;omega)
 have C8:=wI En 4 (det (i-1) A*det (i+1) A+lam A i (i-1)*lam A i (i-1)) oM oM;have C9:=iH En 3 oM oM;have Ca:=yO En A n i hn8 oM;have Cb:=wI En (det i A) (det i A) oM oM;have Cc:=wI En 3 (det i A*det i A) oM oM;have Cd:=kZt En (4*(det (i-1) A*det (i+1) A+lam A i (i-1)*lam A i (i-1))) (3*(det i A*det i A)) oM oM;have e1:=wM i oM;have e2:IntKind.i64.wrap ((i:Int)+1)=((i+1:Nat):Int):=by rw[w64 oM oM];omega
 refine aA Tryz.func116 rfl Tryz.ntmps116 rfl ?_;intro w0 h0;refine vS<|vZ jj<|vS<|vV jj jj<|jm jj<|vSu jj e1<|vC C1 ⟨jj,jj,jj,trivial⟩<|vA jj<|vP jj<|vJ<|vC C2 ⟨jj,trivial⟩<|vV jj jj<|vSu jj e1<|vC C3 ⟨jj,jj,trivial⟩<|vV jj jj<|vAd jj e2<|vC C4 ⟨jj,jj,trivial⟩<|vC C5 ⟨jj,jj,trivial⟩<|vL jj<|vL jj<|vC C6 ⟨jj,jj,trivial⟩<|vC C7 ⟨jj,jj,trivial⟩<|vC C8 ⟨jj,jj,trivial⟩<|vA jj<|vP jj<|vJ<|vL jj<|vC C9 ⟨jj,trivial⟩<|vV jj jj<|vC Ca ⟨jj,jj,trivial⟩<|vV jj jj<|vC Ca ⟨jj,jj,trivial⟩<|vC Cb ⟨jj,jj,trivial⟩<|vC Cc ⟨jj,jj,trivial⟩<|vC Cd ⟨jj,jj,trivial⟩<|jS (bVh jj jj (mZA _ _))<|vZ jj ?_;refine ji ?_;exact rtT rfl jj
theorem oZO(A:Nat→Nat→Int)(n K:Nat)(hn:1≤n)(hn8:n≤8)(hK:K≤1000000)(hA:ZL A n n K):Fn PZ En 47 [zmt A n n] (ex (.bool (decide (det n A≤10000)))):=by
 have C1:=jZd En A n K hn hn8 hK hA;have C2:=iH En 10000 oM oM;have z1:zl (det n A)≤9*K+82:=mD oM hA;have z2:zl 10000≤2:=dL oM oM;have C3:=kZt En (det n A) 10000 oM oM;refine aA Tryz.func47 rfl Tryz.ntmps47 rfl ?_;intro w0 h0;refine vS<|vZ jj<|vS<|jm jj<|vC C1 tA<|vC C2 tA<|vC C3 tB<|jS (bVe jj jj (dZV _ _))<|vZ jj<|ji ?_;exact rtT rfl jj
end
end
section
open Go.RowKit Limb Det
def nrs(a b:Int):Rat:=Rat.divInt a b+Rat.divInt 1 2
def nrZ(a b:Int):Int:=(nrs a b).num/((nrs a b).den:Int)
def rqI(a b:Int):RQ:=⟨decide (a<0),aE a.natAbs,decide (b<0),aE b.natAbs⟩
theorem nZ3(a b:Int):(rqI a b).v=Rat.divInt a b:=by
 unfold RQ.v rqI;simp only;rw[eP,eP]
theorem iZ5{a b:Int}(ha:zl a≤100000000)(hb:zl b≤100000000):(rqI a b).okR:=⟨aJ _,aJ _,Nat.le_trans ha oM,Nat.le_trans hb oM⟩
theorem kZL(a b:Int):zl (a/b)≤zl a+1:=by
 have h:(a/b).natAbs≤a.natAbs+1:=by
  by_cases hb:b=0
  ·subst hb;simp
  ·have h1:=Int.emod_add_mul_ediv a b
   have h2:=Int.emod_nonneg a hb;have h3:a%b<(b.natAbs:Int):=by
    rcases Int.lt_or_gt_of_ne hb with h|h
    ·rw[←Int.emod_neg];have:=Int.emod_lt_of_pos a (show 0< -b by omega);omega
    ·have:=Int.emod_lt_of_pos a h;omega
   by_cases hq:(a/b).natAbs≤a.natAbs+1
   ·exact hq
   ·exfalso
    have h4:(b*(a/b)).natAbs=b.natAbs*(a/b).natAbs:=Int.natAbs_mul ..;have h5:b.natAbs*(a.natAbs+2)≤b.natAbs*(a/b).natAbs:=Nat.mul_le_mul_left _ oM;have h6:1≤b.natAbs:=oM;have h7:b.natAbs*(a.natAbs+2)=b.natAbs*a.natAbs+b.natAbs*2:=Nat.mul_add ..;have h8:a.natAbs≤b.natAbs*a.natAbs:=Nat.le_mul_of_pos_left _ h6;omega
 have h2:zl (a/b)≤zl ((a.natAbs:Int)+1):=nM oM;have h3:=oP (a.natAbs:Int) 1;have h4:zl (a.natAbs:Int)=zl a:=by unfold zl;rw[Int.natAbs_natCast]
 have h5:zl 1≤1:=cN (by rw[bM];decide)
 by_cases h0:a=0
 ·subst h0
  have:zl ((0:Int)/b)=0:=by rw[Int.zero_ediv];decide
  omega
 ·have h6:1≤zl a:=by
   unfold zl
   by_cases hh:(aE a.natAbs).length=0
   ·have:=eJ a.natAbs
    rw[hh,Nat.pow_zero] at this;omega
   ·omega
  omega
section
variable(En:Ev)
theorem hZn(a b:Int)(ha:zl a≤100000000)(hb:zl b≤100000000):Fn PZ En 113 [zC a,zC b] (qC (Rat.divInt a b)):=by
 have C1:=nX En (rqI a b) (iZ5 ha hb);rw[nZ3] at C1;refine aA Tryz.func113 rfl Tryz.ntmps113 rfl ?_;intro w0 h0;refine vS<|vB jj<|vB jj<|vA jj<|vJ<|vL jj<|vL jj<|jS (aU (ps:=[(_,_),(_,_)]) ⟨jj,Part.c jj,jj,Part.c jj,trivial⟩ jj)<|vC C1 tA<|vP jj<|jn<|ji ?_;exact rtC rfl jj jj
theorem oZS(r:Rat)(hr:Sz 134217728 r):Fn PZ En 156 [qC r] (zC (r.num/(r.den:Int))):=by
 have C1:=nX En (RQ.of r) (RQ.of_okR hr);rw[RQ.of_v] at C1;have C2:=mZ7 En r.num (r.den:Int) (Nat.le_trans hr.1 oM) (Nat.le_trans hr.2 oM) (by have:=r.den_pos;omega)
 refine aA Tryz.func156 rfl Tryz.ntmps156 rfl ?_;intro w0 h0;refine vS<|vB jj<|vA jj<|vJ<|vL jj<|vC C1 ⟨jj,trivial⟩<|vA jj<|vP jj<|vJ<|vF jj<|vL jj<|vF jj<|vL jj<|vC C2 ⟨jj,jj,trivial⟩<|vP jj<|jn<|ji ?_;exact rtC rfl jj jj
theorem mhalf:Fn PZ En 158 [] (qP (rqI 1 2)):=by
 have C1:=iH En 1 oM oM;have C2:=iH En 2 oM oM;refine aA Tryz.func158 rfl Tryz.ntmps158 rfl ?_;intro w0 h0;refine vS<|vA jj<|vJ<|vC C1 tA<|vC C2 tA<|jS (aU (ps:=[(_,_),(_,_)]) ⟨jj,Part.c jj,jj,Part.c jj,trivial⟩ jj)<|vP jj<|jn<|ji ?_;exact rtC rfl jj jj
theorem iZZ(a b:Int)(ha:zl a≤10000000)(hb:zl b≤10000000)(h0:b≠0):Fn PZ En 112 [qC (Rat.divInt a b)] (zC (nrZ a b)):=by
 have z1:zl 1≤2:=dL oM oM;have z2:zl 2≤2:=dL oM oM;have s1:Sz 10000000 (Rat.divInt a b):=fS h0 ha hb;have s2:Sz 2 (Rat.divInt 1 2):=fS oM z1 z2;have s3:Sz 134217728 (nrs a b):=(bZs s1 s2).mono oM;have C1:=mhalf En;have C2:=qadd En (RQ.of (Rat.divInt a b)) (rqI 1 2) (RQ.of_okR (s1.mono oM)) (iZ5 oM oM);rw[RQ.of_v,nZ3] at C2;have C3:=oZS En (nrs a b) s3;refine aA Tryz.func112 rfl Tryz.ntmps112 rfl ?_;intro w0 h0;refine vS<|vB jj<|vA jj<|vJ<|vL jj<|vC C1 trivial<|vC C2 ⟨jj,jj,trivial⟩<|vC C3 ⟨jj,trivial⟩<|vP jj<|jn<|ji ?_;exact rtC rfl jj jj
end
inductive Sr where
 |none
 |red (i j:Nat)
 |swp (i:Nat)
def tV(A:Nat→Nat→Int)(i:Nat):Nat→Option Nat
 |0=>Option.none
 |c+1=>if szd A i c=true then tV A i c else some c
def nL(A:Nat→Nat→Int)(n:Nat):Nat→Sr
 |0=> .none
 |c+1=>match tV A (n-(c+1)) (n-(c+1)) with
  |some j=> .red (n-(c+1)) j
  |Option.none=>if 0<n-(c+1)∧eZX A (n-(c+1))=false then .swp (n-(c+1)) else nL A n c
def qJ(A:Nat→Nat→Int)(i j:Nat):Nat→Nat→Int:=upm idM j i (-(nrZ (lam A i j) (det (j+1) A)))
def qI(i k:Nat):Nat:=if k=i then i-1 else if k=i-1 then i else k
def rQ(i:Nat):Nat→Nat→Int:=fun r c=>idM (qI i r) c
def srP(n:Nat)(A:Nat→Nat→Int):Sr→Pd
 | .none=>dK [ex (.slice Option.none 0 0),ex (.bool false)]
 | .red i j=>dK [zmt (qJ A i j) n n,ex (.bool true)]
 | .swp i=>dK [zmt (rQ i) n n,ex (.bool true)]
theorem uC{t:Bx}{d i n m:Nat}(hl:∀j,j<8→aB t (d+j)≠Option.none)(hd:d+8≤400)(hi:i≤8):∀p∈aS (iZ d i m) n,bZL t p:=fun p hp=>by
 obtain⟨a,ha,rfl⟩:=jH hp;unfold iZ
 by_cases h:a<i
 ·rw[if_pos h];exact iL (hl a oM) uG
 ·rw[if_neg h];exact gX
theorem PsLe.trans:∀{a b c:List Pd},PsLe a b→PsLe b c→PsLe a c
 |[],_,[],_,_=>trivial
 |_::_,_,[],_,_=>trivial
 |_::_,_::_,_::_,⟨h1,h2⟩,⟨k1,k2⟩=>⟨fun h v hv=>k1 h v (h1 h v hv),PsLe.trans h2 k2⟩
 |[],_::_,_::_,h,_=>h.elim
 |_,[],_::_,_,h=>h.elim
section
variable(En:Ev)
theorem mstep(A:Nat→Nat→Int)(n K:Nat)(hn:1≤n)(hn8:n≤8)(hK:K≤100000)(hA:ZL A n n K)(hd:∀k,k<n→det (k+1) A≠0):Fn PZ En 50 [zmt A n n] (srP n A (nL A n n)):=by
 have C1:=dZv En A n K hn hn8 oM hA;have C2:=aZI En n hn hn8;refine aA Tryz.func50 rfl Tryz.ntmps50 rfl ?_;intro w0 h0;refine vS<|ja jj<|vZ jj<|vS<|jm jj<|vC C1 tA<|jm jj<|vE jj<|vE jj<|ja jj<|vZ jj<|vS<|jm jj<|jE jj<|RG.SW (LT.plain jj (gZX 400 200 C2 tA (by intro i hi;omega) jj)) jj<|jm jj<|jS (lZp jj)<|jS (iZ0 jj)<|ja jj<|vZ jj<|js<|vS<|jm jj<|jE jj<|jm jj<|jn<|jb ?_
 refine WpD.loop (α:={i:Nat//i≤n∧nL A n n=nL A n (n-i)}) (fun i=>⟨[(0,.one (zmt A n n)),(4,.one (zsl (fun k=>det (k+1) A) n)),(6,.own 400 0 n n),(22,.one (i6 n)),(23,.one (i6 i.1))],(400,aS (fun j=>dC (200+j) 0 n n) n)::rws 200 (eD idM n n)⟩) (fun i=>n-i.1) ⟨0,Nat.zero_le _,rfl⟩ ?_ ?_
 ·dsimp only
  exact Sub.mk sJ ⟨.inl pQ,subBx.fam fFm (fun r _=>PsLe.of rfl) trivial⟩ (LKeep.all ⟨.inr (bI (π:=fun i=>i) (Fam.live fFm) oM oM),lkAll.fam rfl trivial⟩)
 rintro⟨i,hi,hR⟩;dsimp only
 by_cases hin:i<n
 ·obtain⟨c,hc⟩:∃c,n-i=c+1:=⟨n-i-1,oM⟩
  have hci:n-(c+1)=i:=oM;rw[hc] at hR;have hR:nL A n n=(match tV A i i with|some j=> .red i j|Option.none=>if 0<i∧eZX A i=false then .swp i else nL A n c):=by
   rw[hR,nL,hci]
  have e0:IntKind.i64.wrap ((i:Int)-1)=(i:Int)-1:=w64 oM oM;refine vS<|vLt jj<|vW jj<|vS<|jm jj<|vZ jj<|js<|vS<|jm jj<|vSu jj e0<|vZ jj<|jb ?_;refine WpD.loop (α:={j:Nat//j≤i∧tV A i i=tV A i j}) (fun j=>⟨[(0,.one (zmt A n n)),(4,.one (zsl (fun k=>det (k+1) A) n)),(6,.own 400 0 n n),(8,.one (i6 i)),(9,.one (i6 ((j.1:Int)-1))),(22,.one (i6 n)),(23,.one (i6 i))],(400,aS (fun j=>dC (200+j) 0 n n) n)::rws 200 (eD idM n n)⟩) (fun j=>j.1) ⟨i,Nat.le_refl _,rfl⟩ ?_ ?_
  ·dsimp only
   exact Sub.mk sJ ⟨.inl pQ,subBx.fam fFm (fun r _=>PsLe.of rfl) trivial⟩ (LKeep.all ⟨.inr (bI (π:=fun i=>i) (Fam.live fFm) oM oM),lkAll.fam rfl trivial⟩)
  rintro⟨j,hj,hJ⟩;dsimp only;cases j with
  |succ j=>
   have ej:(((j+1:Nat):Int)-1)=(j:Int):=oM;rw[ej];have b1:decide ((j:Int)≥0)=true:=decide_eq_true oM;have S1:=oZP En A n i j K hn8 hin oM oM hA;cases hs:szd A i j with
   |true=>
    rw[hs] at S1;have e1:IntKind.i64.wrap ((j:Int)-1)=(j:Int)-1:=w64 oM oM;refine js<|vS<|jm jj<|jS (bVh jj jj b1)<|jn<|jt jj<|jp<|js<|jb<|vS<|vV jj jj<|vV jj jj<|vC S1 tD<|jS (bNo jj)<|jn<|jf jj<|jp<|jr<|jm jj<|vSu jj e1<|vZ jj ?_;refine⟨⟨j,oM,by rw[hJ,tV,if_pos hs]⟩,?_,oD⟩
    dsimp only;exact Sub.mk sJ ⟨.inl pQ,subBx.fam fFm (fun r _=>PsLe.of rfl) trivial⟩ (LKeep.all ⟨.inr (bI (π:=fun i=>i) (Fam.live fFm) oM oM),lkAll.fam rfl trivial⟩)
   |false=>
    rw[hs] at S1;have hjn:j<n:=oM;have z1:=eZt hn8 hA hin hjn;have z2:zl (det (j+1) A)≤9*K+82:=mD oM fun a b ha hb=>hA a b oM oM;have L1:=bZR En A n i j K hn8 hin hjn oM hA;have M1:=yO En A n (j+1) hn8 oM;have Q1:=hZn En (lam A i j) (det (j+1) A) oM oM;have N1:=iZZ En (lam A i j) (det (j+1) A) oM oM (hd j hjn);have z3:zl (nrZ (lam A i j) (det (j+1) A))≤100000000:=by
     have s1:Sz (9*K+82) (Rat.divInt (lam A i j) (det (j+1) A)):=fS (hd j hjn) z1 z2;have s2:Sz 2 (Rat.divInt 1 2):=fS oM (dL oM oM) (dL oM oM);have s3:=bZs s1 s2;exact Nat.le_trans (kZL _ _) (Nat.le_trans (Nat.add_le_add_right s3.1 1) oM)
    have G1:=cneg En (nrZ (lam A i j) (det (j+1) A)) oM;have e2:=wS j oM;have he:eD idM n n j=rowL (fun c=>cV (idM j c)) n:=cM hjn;have hRR:nL A n n= .red i j:=by rw[hR,hJ,tV,if_neg (by rw[hs];simp)]
    rw[hRR];refine js<|vS<|jm jj<|jS (bVh jj jj b1)<|jn<|jt jj<|jp<|js<|jb<|vS<|vV jj jj<|vV jj jj<|vC S1 tD<|jS (bNo jj)<|jn<|jt jj<|vS<|vV jj jj<|jS (aF jj jj aO) ?_;refine jS (bB jj jj aO jj aG)<|vV jj jj<|vV jj jj<|vC L1 tC<|vV jj jj<|vAd jj e2<|vC M1 tB<|vC Q1 tB<|vC N1 tA<|vC G1 tA<|jS (aF jj jj aO)<|RG.NW (LT.plain jj (pT jj jj fFm aO aR aO (fun _ _=>jj))) jj ?_;refine jn<|js ?_;refine WpD.sub (τ:=⟨[(6,.one (zmt (qJ A i j) n n))],[]⟩) (Sub.pubX 400 200 (fun a c=>cV (qJ A i j a c)) (π:=fun i=>i) rfl fFm rfl oM (fun r hr=>(congrFun (lQ hjn) r).trans (cM hr)) (fun _ _ _ _=>rfl) ⟨.inr ⟨rfl,rfl⟩,trivial⟩ trivial rfl) ?_;refine kR ?_;refine jm jj<|ja jj<|vZ jj<|ji ?_;exact lB rfl (.tmp rfl) (.tmp rfl) (PLe.refl _)
  |zero=>
   have b1:decide ((((0:Nat):Int)-1)≥0)=false:=decide_eq_false oM;have hJ:tV A i i=Option.none:=hJ;rw[hJ] at hR;have hR:nL A n n=if 0<i∧eZX A i=false then .swp i else nL A n c:=hR
   by_cases hi0:0<i
   ·have V1:=lZI En A n i K hn8 hin hi0 oM hA
    have b2:decide ((i:Int)>0)=true:=decide_eq_true oM;cases hl:eZX A i with
    |true=>
     rw[hl] at V1;refine js<|vS<|jm jj<|jS (bVh jj jj b1)<|jn<|jf jj<|je<|vS<|jm jj<|jS (bVg jj jj b2)<|jm jj<|jgm jj<|jgm jj<|jgm jj<|jg (aQ V1 tC)<|jg (bNo jj)<|vq jj<|jn<|jf jj<|jp<|jr<|vAd jj wO<|jm jj<|jn ?_;refine⟨⟨i+1,oM,by rw[hR,if_neg (by rw[hl];simp)];congr 1;omega⟩,?_,oD⟩
     dsimp only;exact Sub.mk sJ ⟨.inl pQ,subBx.fam fFm (fun r _=>PsLe.of rfl) trivial⟩ (LKeep.all ⟨.inr (bI (π:=fun i=>i) (Fam.live fFm) oM oM),lkAll.fam rfl trivial⟩)
    |false=>
     rw[hl] at V1;have e1:=wM i oM;have hi1:i-1<n:=oM;rw[hR,if_pos ⟨hi0,hl⟩];refine js<|vS<|jm jj<|jS (bVh jj jj b1)<|jn<|jf jj<|je<|vS<|jm jj<|jS (bVg jj jj b2)<|jm jj<|jgm jj<|jgm jj<|jgm jj<|jg (aQ V1 tC)<|jg (bNo jj)<|vq jj<|jn<|jt jj<|vS<|vV jj jj<|vV jj jj<|vSu jj e1<|vV jj jj<|vSu jj e1<|jS (aF jj jj aO) ?_;refine jS (bB jj jj aO jj aG)<|vV jj jj<|jS (aF jj jj aO) ?_;refine jS (bB jj jj aO jj aG)<|jS (aF jj jj aO)<|jO (fN jj jj jj aO aG)<|jS (aF jj jj aO)<|jO (fN jj jj jj aO aG)<|jn<|js ?_;refine WpD.sub (τ:=⟨[(6,.one (zmt (rQ i) n n))],[]⟩) (Sub.pubX 400 200 (fun a c=>cV (rQ i a c)) (π:=qI i) (congrArg some (cA fun k _=>?_)) fFm rfl (fun k hk=>?_) (fun r hr=>cM ?_) (fun _ _ _ _=>rfl) ⟨.inr ⟨rfl,rfl⟩,trivial⟩ trivial rfl) ?_
     ·unfold qI
      by_cases h1:k=i-1
      ·rw[if_pos h1,if_neg oM,if_pos h1]
      ·rw[if_neg h1]
       by_cases h2:k=i
       ·rw[if_pos h2,if_pos h2]
       ·rw[if_neg h2,if_neg h2,if_neg h1]
     ·unfold qI;split<;>(try split)<;>omega
     ·unfold qI;split<;>(try split)<;>omega
     refine kR ?_;refine jm jj<|ja jj<|vZ jj<|ji ?_;exact lB rfl (.tmp rfl) (.tmp rfl) (PLe.refl _)
   ·have b2:decide ((i:Int)>0)=false:=decide_eq_false oM
    refine js<|vS<|jm jj<|jS (bVh jj jj b1)<|jn<|jf jj<|je<|vS<|jm jj<|jS (bVg jj jj b2)<|jm jj<|jk<|jk<|jk<|jk<|jk<|vQ jj<|jn<|jf jj<|jp<|jr<|vAd jj wO<|jm jj<|jn ?_;refine⟨⟨i+1,oM,by rw[hR,if_neg oM];congr 1;omega⟩,?_,oD⟩
    dsimp only;exact Sub.mk sJ ⟨.inl pQ,subBx.fam fFm (fun r _=>PsLe.of rfl) trivial⟩ (LKeep.all ⟨.inr (bI (π:=fun i=>i) (Fam.live fFm) oM oM),lkAll.fam rfl trivial⟩)
 ·have e:n-i=0:=oM
  rw[e] at hR;rw[hR];refine vS<|vLf jj<|vU jj<|vS<|ja jj<|vZ jj<|ji ?_;exact lB rfl (.tmp rfl) (.tmp rfl) (PLe.refl _)
theorem jZa(x:Int)(h:I64 x):Fn PZ En 20 [zC x] (dK [i6 x,ex (.bool true)]):=by
 obtain⟨h1,h2⟩:=h;have hz:zl x≤2:=dL oM oM
 by_cases h3:x= -9223372036854775808
 ·subst h3
  have C1:=qQ En (aE (9223372036854775808:Nat)) (Nat.le_trans hz oM);have hlen:(aE 9223372036854775808).length≤2:=hz;have C2:=flow En (aE (9223372036854775808:Nat)) hlen;rw[aN] at C1 C2;have b1:decide (((aE 9223372036854775808).length:Int)>2)=false:=decide_eq_false oM;have b2:decide (((9223372036854775808:Nat):Int)≤9223372036854775808)=true:=by decide
  have e2:IntKind.i64.wrap (IntKind.u64.wrap (-((9223372036854775808:Nat):Int)))= -9223372036854775808:=by rw[IntKind.wrap_u64,IntKind.wrap_i64];omega
  have ez:zC (-9223372036854775808)=zR true (aE 9223372036854775808):=by
   show zR (decide ((-9223372036854775808:Int)<0)) (aE (-9223372036854775808:Int).natAbs)=_
   rw[decide_eq_true oM,show(-9223372036854775808:Int).natAbs=9223372036854775808 by omega]
  rw[ez];refine aA Tryz.func20 rfl Tryz.ntmps20 rfl ?_;intro w0 h0;refine kR ?_;refine vB jj<|ja jj<|vZ jj ?_;refine kR ?_;refine vX jj<|vC C1 tA<|vZ jj ?_;refine kR ?_;refine jm jj<|vC C2 tA<|vZ jj ?_;refine kR ?_;refine jm jj<|jE jj<|jS (bVg jj jj b1)<|vZ jj ?_;refine kO ?_;refine WpD.condF rfl ?_;refine kR ?_;refine vX jj<|jm jj ?_;refine kG ?_;first|refine jg (bVe jj jj b2) ?_|refine jk ?_
  refine kH ?_;refine vZ jj ?_;refine kO ?_;refine WpD.condT rfl ?_;refine kR ?_;refine jm jj<|jS (fZH jj (fun w=>fO w _ _))<|jS (bCv jj e2)<|ja jj<|vZ jj ?_;refine kO ?_;refine WpD.ret ?_;exact lB rfl (.tmp rfl) (.tmp rfl) (PLe.refl _)
 ·have:=oZj En (decide (x<0)) (aE x.natAbs) (Nat.le_trans hz oM) (by rw[aN];omega)
  rwa[eP] at this
theorem lZD(A:Nat→Nat→Int)(n m:Nat)(hn:1≤n)(hn8:n≤8)(hm:1≤m)(hm8:m≤8)(hA:∀i j,i<n→j<m→I64 (A i j)):Fn PZ En 51 [zmt A n m] (dK [imt A n m,ex (.bool true)]):=by
 have CS:=bZO En A n m hn hn8 hm hm8;refine aA Tryz.func51 rfl Tryz.ntmps51 rfl ?_;intro w0 h0;refine vS<|ja jj<|vZ jj<|vS<|jm jj<|vC CS ⟨jj,trivial⟩<|jm jj<|vE jj<|vE jj<|vE jj<|ja jj<|ja jj<|vZ jj<|js<|vS<|jm jj<|jS (bNo jj)<|jn<|jf jj<|jp<|vS<|jm jj<|jT (fV jj jj jj jj oM jj jj)<|vZ jj<|js<|vS<|jm jj<|jS (cP jj CSlice.ok)<|jm jj<|jn<|jb ?_;refine WpD.loop (α:={i:Nat//i≤n}) (fun i=>⟨[(0,.one (zmt A n m)),(5,.one (i6 m)),(7,.own 400 0 n n),(23,.one (i6 n)),(24,.one (i6 i.1))],(400,aS (iZ 200 i.1 m) n)::rws 200 (bN A i.1 m)⟩) (fun i=>n-i.1) ⟨0,Nat.zero_le _⟩ ?_ ?_
 ·dsimp only
  refine Sub.mv 400 21 oM oM oM ⟨pK,pK,⟨_,rfl,cI _ _,rfl,rfl,rfl,js0 rfl⟩,pK,pK,trivial⟩ ⟨BMv.to rfl rfl uG oM oM (congrArg some (fX [ex (.slice Option.none 0 0)] n)) (fun i _=>⟨PLe.refl _,by unfold iZ;rw[if_neg oM];exact inferInstance⟩),mvBx.fam (fun j _=> .inl (bF oM)) trivial⟩
 rintro⟨i,hi⟩;dsimp only
 by_cases hin:i<n
 ·refine vS<|vLt jj<|vW jj<|vS<|jm jj<|vZ jj<|vS<|vV jj jj<|jm jj<|jT (fV jj jj jj jj oM jj jj)<|jS (aF jj jj aO)<|jO (fN jj jj jj aO aG)<|jn<|js ?_
  refine WpD.sub (τ:=⟨[(0,.one (zmt A n m)),(5,.one (i6 m)),(7,.own 400 0 n n),(8,.one (i6 i)),(23,.one (i6 n)),(24,.one (i6 i))],(400,aS (iZ 200 (i+1) m) n)::rws 200 (bN (fun r c=>if r<i∨r=i∧c<0 then A r c else 0) (i+1) m)⟩) ?_ ?_
  ·refine Sub.mv (200+i) 30 oM oM oM ⟨pK,pK,⟨_,rfl,cJ oM oM,rfl,rfl,rfl,js0 rfl⟩,pK,pK,pK,trivial⟩ ⟨BMv.out rfl oM oM uG rfl (lN oM oM oM hn8 (Fam.live fFm)),mvBx.famA fFm oM oM oM oM (fun j _ hj=>PsLe.of ?_) rfl ?_ trivial⟩ rfl ?_
   ·by_cases h:j<i
    ·rw[bA h,bA oM]
     exact cA fun c _=>by dsimp only;rw[if_pos (.inl h)]
    ·rw[bF h,bF oM]
   ·rw[bA oM]
    refine(show PsLe _ (fZf (fun _=>0) m) from hZv m).trans (PsLe.of (cA fun c _=>?_))
    dsimp only;rw[if_neg oM]
   ·dsimp only
    rw[aC,if_neg oM,kN,if_neg oM];rfl
  have hgi:iZ 200 (i+1) m i=dC (200+i) 0 m m:=if_pos oM;refine kR ?_;refine vV jj jj<|jS (aF jj jj aO) ?_;refine jS (bB jj jj hin hgi uG)<|jS (cP jj CSlice.ok)<|jm jj<|jn<|jb ?_;refine WpD.loop (α:={j:Nat//j≤m}) (fun j=>⟨[(0,.one (zmt A n m)),(5,.one (i6 m)),(7,.own 400 0 n n),(8,.one (i6 i)),(23,.one (i6 n)),(24,.one (i6 i)),(36,.one (i6 m)),(37,.one (i6 j.1))],(400,aS (iZ 200 (i+1) m) n)::rws 200 (bN (fun r c=>if r<i∨r=i∧c<j.1 then A r c else 0) (i+1) m)⟩) (fun j=>m-j.1) ⟨0,Nat.zero_le _⟩ ?_ ?_
  ·dsimp only
   exact Sub.mk sJ ⟨.inl pQ,subBx.fam fFm (fun r _=>PsLe.refl _) trivial⟩ (LKeep.all ⟨.inr (uC (Fam.live fFm) oM oM),lkAll.fam rfl trivial⟩)
  rintro⟨j,hj⟩;dsimp only
  by_cases hjm:j<m
  ·have C1:=jZa En (A i j) (hA i j hin hjm)
   have he:bN (fun r c=>if r<i∨r=i∧c<j then A r c else 0) (i+1) m i=aS (fun c=>i6 (if i<i∨i=i∧c<j then A i c else 0)) m:=bA oM;have hi1:i<i+1:=oM;refine vS<|vLt jj<|vW jj<|vS<|jm jj<|vZ jj<|vS<|vV jj jj<|jS (eE jj jj aO)<|vT jj<|jm jj<|jS (eU jj jj aO (fun _ _=>jj))<|vR jj<|vC C1 ⟨jj,trivial⟩<|jm jj<|vE jj<|vE jj<|ja jj<|vZ jj<|js<|vS<|jm jj<|jS (bNo jj)<|jn<|jf jj<|jp<|jr<|vV jj jj<|jS (aF jj jj aO) ?_;refine jS (bB jj jj hin hgi uG)<|vV jj jj<|jS (aF jj jj aO)<|RG.NW (LT.plain jj (gW jj jj fFm aO aR aO)) jj ?_;refine jn<|jr<|vAd jj wO<|jm jj<|jn ?_;refine⟨⟨j+1,oM⟩,?_,oD⟩;dsimp only;refine Sub.mk ?_ ⟨.inl pQ,subBx.fam fFm (fun r _=>PsLe.of (congrFun ((mW hi1).trans (fR fun a b _ _=>?_)) r)) trivial⟩ (LKeep.all ⟨.inr (uC (Fam.live fFm) oM oM),lkAll.fam rfl trivial⟩)
   ·repeat(first|exact trivial|refine jv rfl ?_|refine jw rfl (js0 rfl) ?_)
   ·unfold upm
    by_cases h1:a=i∧b=j
    ·obtain⟨rfl,rfl⟩:=h1
     rw[if_pos ⟨rfl,rfl⟩,if_pos oM]
    ·rw[if_neg h1]
     dsimp only
     by_cases h3:a<i∨a=i∧b<j
     ·rw[if_pos h3,if_pos oM]
     ·rw[if_neg h3,if_neg oM]
  ·have e:j=m:=oM
   subst e;refine vS<|vLf jj<|vU jj<|jr<|vAd jj wO<|jm jj<|jn ?_;refine⟨⟨i+1,oM⟩,?_,oD⟩;dsimp only;refine Sub.mk ?_ ⟨.inl pQ,subBx.fam fFm (fun r _=>PsLe.of (congrFun (fR fun a b _ _=>?_) r)) trivial⟩ (LKeep.all ⟨.inr (uC (Fam.live fFm) oM oM),lkAll.fam rfl trivial⟩)
   ·repeat(first|exact trivial|refine jv rfl ?_|refine jw rfl (js0 rfl) ?_)
   ·rw[if_pos oM]
 ·have e:i=n:=oM
  subst e;refine vS<|vLf jj<|vU jj<|js ?_;refine WpD.sub (τ:=⟨[(7,.one (imt A i m))],[]⟩) (Sub.pubX 400 200 (fun a c=>[i6 (A a c)]) (π:=fun i=>i) (congrArg some (mQ ..)) fFm rfl oM (fun r hr=>bA hr) (fun _ _ _ _=>rfl) ⟨.inr ⟨rfl,rfl⟩,trivial⟩ trivial rfl) ?_;refine kR ?_;refine jm jj<|ja jj<|vZ jj<|ji ?_;exact lB rfl (.tmp rfl) (.tmp rfl) (PLe.refl _)
end
end
end Go.Proofs.YtfmjdlogjmofbaaGreatDoor
namespace Go.Proofs.YtfmjdlogjmofbaaGreatDoor.Det
theorem fZC{x c:Int}(hc:0≤c)(h:x*x≤c*c): -c≤x∧x≤c:=by
 constructor
 ·by_cases g: -c≤x
  ·exact g
  ·exfalso
   have h1:(c+1)*(c+1)≤(-x)*(-x):=Int.mul_le_mul oM oM oM oM;have h2:(-x)*(-x)=x*x:=by grind
   have h3:(c+1)*(c+1)=c*c+2*c+1:=by grind
   omega
 ·by_cases g:x≤c
  ·exact g
  ·exfalso
   have h1:(c+1)*(c+1)≤x*x:=Int.mul_le_mul oM oM oM oM;have h3:(c+1)*(c+1)=c*c+2*c+1:=by grind
   omega
theorem cZ7{x c:Int}(h1: -c≤x)(h2:x≤c):x*x≤c*c:=by
 rcases Int.le_total 0 x with h|h
 ·exact Int.mul_le_mul h2 h2 h oM
 ·have h3:(-x)*(-x)≤c*c:=Int.mul_le_mul oM oM oM oM
  have h4:(-x)*(-x)=x*x:=by grind
  omega
theorem cs2{a b c x y:Int}(ha:0≤a)(hb:0≤b)(h:c*c≤a*b):2*(c*(x*y))≤a*(y*y)+b*(x*x):=by
 have hs:0≤a*(y*y)+b*(x*x):=by
  have h1:=Int.mul_nonneg ha (rT y);have h2:=Int.mul_nonneg hb (rT x);omega
 refine(fZC hs ?_).2;have h1:(2*(c*(x*y)))*(2*(c*(x*y)))=4*((c*c)*((x*x)*(y*y))):=by grind
 have h2:(a*(y*y)+b*(x*x))*(a*(y*y)+b*(x*x))=(a*(y*y)-b*(x*x))*(a*(y*y)-b*(x*x))+4*((a*b)*((x*x)*(y*y))):=by grind
 have h3:=rT (a*(y*y)-b*(x*x));have h4:(c*c)*((x*x)*(y*y))≤(a*b)*((x*x)*(y*y)):=Int.mul_le_mul_of_nonneg_right h (Int.mul_nonneg (rT x) (rT y));rw[h1,h2];omega
theorem nZZ{M:Mx}{n i j:Nat}(hs:Sym M)(hp:Pos n M)(hi:i<n)(hj:j<i):∀d k,k+d=j→bm M k i j*bm M k i j≤bm M k i i*bm M k j j
 |0,k,h=>by
  have e:k=j:=oM;subst e;have e:=lJ hs hp (k:=k) (r:=i) hj hi;have h1:=Int.mul_pos (xP hs hp hi (i-(k+1)) (k+1) oM) (hp k oM);have h2:bm M k k k=det (k+1) M:=iT M k;have h3:bm M k i k=lam M i k:=rfl;rw[h2,h3,Int.mul_comm];rw[Int.mul_comm (bm M k i i)];omega
 |d+1,k,h=>by
  have ih:=nZZ hs hp hi hj d (k+1) oM;have ei:=lJ hs hp (k:=k) (r:=i) oM hi;have ej:=lJ hs hp (k:=k) (r:=j) oM oM;have e:=tE (M:=M) (k:=k) (i:=i) (j:=j) (fun l hl=>by have:=hp (l+1) oM;omega) oM oM
  rw[iT,hs.bm k k j] at e;have hk:=hp k oM;have hk1:=hp (k+1) oM;have pi:=xP hs hp hi (i-(k+1)) (k+1) oM;have pj:=xP hs hp (show j<n by omega) (j-(k+1)) (k+1) oM
  have h1:(bm M (k+1) i j*det k M)*(bm M (k+1) i j*det k M)≤(bm M (k+1) i i*det k M)*(bm M (k+1) j j*det k M):=by
   have:=Int.mul_le_mul_of_nonneg_right ih (Int.le_of_lt (Int.mul_pos hk hk));have e1:(bm M (k+1) i j*det k M)*(bm M (k+1) i j*det k M)=bm M (k+1) i j*bm M (k+1) i j*(det k M*det k M):=by grind
   have e2:(bm M (k+1) i i*det k M)*(bm M (k+1) j j*det k M)=bm M (k+1) i i*bm M (k+1) j j*(det k M*det k M):=by grind
   omega
  have h2:=cs2 (x:=lam M i k) (y:=lam M j k) (Int.le_of_lt (Int.mul_pos pi hk)) (Int.le_of_lt (Int.mul_pos pj hk)) h1;have h3:bm M k j k=lam M j k:=rfl;have h4:bm M k i k=lam M i k:=rfl;rw[h3,h4] at e;generalize bm M (k+1) i j*det k M=c at*;generalize bm M (k+1) i i*det k M=a at*;generalize bm M (k+1) j j*det k M=b at*;generalize det (k+1) M=D at*;generalize lam M i k=x at*;generalize lam M j k=y at*;generalize bm M k i j=u at*;generalize bm M k i i=v at*;generalize bm M k j j=w at*;have q1:D*u=c+x*y:=oM;have q2:D*v=a+x*x:=oM;have q3:D*w=b+y*y:=oM;have q4:(D*u)*(D*u)≤(D*v)*(D*w):=by
   rw[q1,q2,q3];have r1:(c+x*y)*(c+x*y)=c*c+2*(c*(x*y))+(x*x)*(y*y):=by grind
   have r2:(a+x*x)*(b+y*y)=a*b+(a*(y*y)+b*(x*x))+(x*x)*(y*y):=by grind
   rw[r1,r2];omega
  have q5:(D*u)*(D*u)=(D*D)*(u*u):=by grind
  have q6:(D*v)*(D*w)=(D*D)*(v*w):=by grind
  rw[q5,q6] at q4;exact Int.le_of_mul_le_mul_left q4 (Int.mul_pos hk1 hk1)
theorem eZr{M:Mx}{n r:Nat}(hs:Sym M)(hp:Pos n M)(hr:r<n):0<M r r:=by
 have:=xP hs hp hr r 0 oM;rwa[jX] at this
theorem M_le{M:Mx}{n i j:Nat}{Y:Int}(hs:Sym M)(hp:Pos n M)(hi:i<n)(hj:j<n)(hY:∀r,r<n→M r r≤Y): -Y≤M i j∧M i j≤Y:=by
 have key:∀{i j:Nat},i<n→j<i→-Y≤M i j∧M i j≤Y:=fun {i j} hi hj=>by
  have h:=nZZ hs hp hi hj j 0 oM;rw[jX,jX,jX] at h;have h1:=eZr hs hp hi;have h2:=eZr hs hp (show j<n by omega)
  have h3:=hY i hi;have h4:=hY j oM;exact fZC oM (Int.le_trans h (Int.mul_le_mul h3 h4 oM oM))
 rcases Nat.lt_trichotomy i j with h|h|h
 ·rw[hs i j];exact key hj h
 ·subst h
  have h1:=eZr hs hp hi;have h3:=hY i hi;omega
 ·exact key hi h
def full(M:Mx)(r:Nat):Prop:=∀l,l<r→szd M r l=true
def wE(M:Mx)(i:Nat):Bool:=decide (3*(det i M*det i M)≤4*(det (i-1) M*det (i+1) M+lam M i (i-1)*lam M i (i-1)))
def zc(M:Mx)(r:Nat):Nat→Nat
 |0=>0
 |c+1=>if szd M r c=true then zc M r c+1 else 0
theorem cZB{M N:Mx}{r:Nat}:∀{c:Nat},(∀l,l<c→szd M r l=szd N r l)→zc M r c=zc N r c
 |0,_=>rfl
 |c+1,h=>by rw[zc,zc,h c oM,cZB fun l hl=>h l oM]
theorem nZo{M:Mx}{r:Nat}:∀c,zc M r c≤c
 |0=>Nat.le_refl 0
 |c+1=>by rw[zc];have:=nZo (M:=M) (r:=r) c;split<;>omega
theorem nZq{M:Mx}{r j:Nat}(hz:szd M r j=false):∀d,(∀l,j<l→l<j+1+d→szd M r l=true)→zc M r (j+1+d)=d
 |0,_=>by show zc M r (j+1)=0;rw[zc,if_neg (by rw[hz];simp)]
 |d+1,h=>by show zc M r (j+1+d+1)=d+1;rw[zc,if_pos (h _ oM oM),nZq hz d fun l h1 h2=>h l h1 oM]
theorem nZp{M:Mx}{r j:Nat}:∀d,(∀l,j≤l→l<j+d→szd M r l=true)→d≤zc M r (j+d)
 |0,_=>Nat.zero_le _
 |d+1,h=>by show d+1≤zc M r (j+d+1);rw[zc,if_pos (h _ oM oM)];have:=nZp d fun l h1 h2=>h l h1 oM;omega
theorem eZ6{M:Mx}{r l:Nat}{D:Int}(h:szd M r l=true)(_:0<det (l+1) M)(hD:det (l+1) M≤D): -D≤lam M r l∧lam M r l≤D:=by
 unfold szd at h;have:=of_decide_eq_true h;omega
structure J(n:Nat)(M:Mx):Prop where
 sy:Sym M
 po:Pos n M
 dt:∀k,k≤n→det k M≤268435456
 hi:∀r,r<n→(∃r',r'<r∧(¬full M r'∨(0<r'∧wE M r'=false)))→M r r≤2147483648
 la:∀r l,r<n→l<r→-(17592186044416*1073741824^zc M r r)≤lam M r l∧lam M r l≤17592186044416*1073741824^zc M r r
theorem iZG(k:Nat):(1:Int)≤1073741824^k:=by
 have:0<(1073741824:Int)^k:=Int.pow_pos oM;omega
theorem iZH{a:Nat}:∀d,(1073741824:Int)^a≤1073741824^(a+d)
 |0=>Int.le_refl _
 |d+1=>by
  have h:=iZH (a:=a) d;have h1:=iZG (a+d);rw[show a+(d+1)=a+d+1 from rfl,Int.pow_succ]
  generalize(1073741824:Int)^(a+d)=z at*;omega
theorem q_le{a b:Nat}(h:a≤b):(1073741824:Int)^a≤1073741824^b:=by
 have:=iZH (a:=a) (b-a);rwa[show a+(b-a)=b by omega] at this
theorem aZV{n r:Nat}{M:Mx}(hs:Sym M)(hp:Pos n M)(hd:∀k,k≤n→det k M≤268435456)(hn:n≤8)(hr:r<n)(h:full M r):M r r≤2147483648:=by
 have h1:=s_up hs hp hr (B:=1) (D:=268435456) oM hd (fun k hk=>by
  have h1:=hp (k+1) oM;obtain⟨h2,h3⟩:=eZ6 (h k hk) h1 (Int.le_refl _);rw[Int.one_mul];exact cZ7 h2 h3) r 0 oM
 rw[jX] at h1;have h2:det 0 M=1:=rfl;rw[h2] at h1;have h3:(r:Int)≤7:=oM;omega
theorem dZp{n r l:Nat}{M:Mx}(hs:Sym M)(hp:Pos n M)(hd:∀k,k≤n→det k M≤268435456)(hr:r<n)(hl:l<r)(h:M r r≤2147483648): -17592186044416≤lam M r l∧lam M r l≤17592186044416:=by
 refine fZC oM (Int.le_trans (pZc hs hp hl hr) ?_);have h1:=hd l oM;have h2:=hd (l+1) oM;have h3:=hp l oM;have h4:=hp (l+1) oM;have h5:=eZr hs hp hr;have h6:det l M*M r r≤268435456*2147483648:=Int.mul_le_mul h1 h oM oM;have h7:det (l+1) M*(det l M*M r r)≤268435456*(268435456*2147483648):=Int.mul_le_mul h2 h6 (Int.le_of_lt (Int.mul_pos h3 h5)) oM;omega
theorem nZA{x:Int}(k:Nat)(h: -17592186044416≤x∧x≤17592186044416): -(17592186044416*1073741824^k)≤x∧x≤17592186044416*1073741824^k:=by
 have h1:(17592186044416:Int)*1≤17592186044416*1073741824^k:=Int.mul_le_mul_of_nonneg_left (iZG k) oM;omega
theorem J.start{n:Nat}{M:Mx}(hs:Sym M)(hp:Pos n M)(hn:n≤7)(h:∀r,r<n→M r r≤15):J n M:=by
 have hd:∀k,k≤n→det k M≤15^k:=by
  intro k;induction k with
  |zero=>intro _;show(1:Int)≤1;omega
  |succ k ih=>
   intro hk;have h1:=s_le hs hp (show k<n by omega) k (Nat.le_refl _)
   rw[iT] at h1;have h2:=ih oM;have h3:=hp k oM;have h4:det k M*M k k≤15^k*15:=Int.mul_le_mul h2 (h k oM) (Int.le_of_lt (eZr hs hp oM)) (Int.le_trans (Int.le_of_lt h3) h2);rw[Int.pow_succ];omega
 have hd2:∀k,k≤n→det k M≤268435456:=fun k hk=>by
  have h1:=hd k hk;have h2:(15:Int)^k≤15^7:=by
   have:=Nat.pow_le_pow_right (show 0<15 by omega) (show k≤7 by omega)
   exact_mod_cast this
  have h3:(15:Int)^7=170859375:=by decide
  omega
 exact⟨hs,hp,hd2,fun r hr _=>by have:=h r hr;omega,fun r l hr hl=>nZA _ (dZp hs hp hd2 hr hl (by have:=h r hr;omega))⟩
structure Near(x d q:Int):Prop where
 lo: -d≤2*(x-q*d)
 hi:2*(x-q*d)≤d
 ql: -(x.natAbs:Int)-1≤q
 qh:q≤(x.natAbs:Int)+1
theorem J.red{n i j:Nat}{M:Mx}{q:Int}(h:J n M)(hi:i<n)(hj:j<i)(hf:∀r,r<i→full M r)(hl:∀r,0<r→r<i→wE M r=true)(hz:∀l,j<l→l<i→szd M i l=true)(hn:szd M i j=false)(hq:Near (lam M i j) (det (j+1) M) q):J n (opA M i j q)∧szd (opA M i j q) i j=true:=by
 have hsz:szd (opA M i j q) i j=true:=by
  unfold szd;rw[lZS hj,wH hj];have h1:=hq.lo;have h2:=hq.hi;exact decide_eq_true ⟨oM,oM⟩
 have other:∀r l,r≠i→l<r→szd (opA M i j q) r l=szd M r l:=fun r l hr hlr=>iZa hj (.inl ⟨hr,hlr⟩);have hmr:∀r,r≠i→opA M i j q r r=M r r:=fun r hr=>by unfold opA opC opR;rw[if_neg hr,if_neg hr]
 refine⟨⟨h.sy.opA i j q,h.po.opA hj,fun k hk=>by rw[wH hj];exact h.dt k hk,fun r hr hex=>?_,fun r l hr hlr=>?_⟩,hsz⟩
 ·by_cases e:i<r
  ·rw[hmr r oM]
   exact h.hi r hr ⟨i,e,.inl fun hfu=>by have:=hfu j hj;rw[hn] at this;cases this⟩
  ·exfalso
   obtain⟨r',h1,h2|⟨h2,h3⟩⟩:=hex
   ·exact h2 fun l hl'=>by rw[other r' l oM hl'];exact hf r' oM l hl'
   ·have:wE (opA M i j q) r'=wE M r':=by
     unfold wE;rw[wH hj,wH hj,wH hj,bZZ hj oM oM]
    rw[this,hl r' h2 oM] at h3;cases h3
 ·by_cases e:r=i
  ·subst e
   have hzM:zc M r r=r-1-j:=by
    have:=nZq hn (r-1-j) fun l h1 h2=>hz l h1 oM;rwa[show j+1+(r-1-j)=r by omega] at this
   have hzA:r-j≤zc (opA M r j q) r r:=by
    have:=nZp (M:=opA M r j q) (r:=r) (j:=j) (r-j) fun l h1 h2=>by
     by_cases e:l=j
     ·subst e;exact hsz
     ·rw[iZa hj (.inr ⟨rfl,oM,oM⟩)];exact hz l oM oM
    rwa[show j+(r-j)=r by omega] at this
   have hW:17592186044416*(1073741824:Int)^zc M r r*1073741824≤17592186044416*1073741824^zc (opA M r j q) r r:=by
    rw[Int.mul_assoc,←Int.pow_succ];refine Int.mul_le_mul_of_nonneg_left ?_ oM;exact q_le oM
   have hq1:=iZG (zc M r r);have hlj:=h.la r j hr hj;have hla:=fun l hlr=>h.la r l hr hlr;generalize 17592186044416*(1073741824:Int)^zc (opA M r j q) r r=Wd at*;generalize(1073741824:Int)^zc M r r=Wp at*;obtain⟨Wc,hWc⟩:∃Wc,Wc=17592186044416*Wp:=⟨_,rfl⟩;rw[←hWc] at hW hlj;have hW1:17592186044416≤Wc:=oM;rcases Nat.lt_trichotomy l j with e2|e2|e2
   ·rw[lZR hj e2]
    have h1:=hla l hlr;rw[←hWc] at h1;have h2:=eZ6 (hf j hj l e2) (h.po (l+1) oM) (h.dt (l+1) oM);have h3:=hq.ql;have h4:=hq.qh;have h5: -(Wc+1)≤q∧q≤Wc+1:=oM;have h6: -((Wc+1)*268435456)≤q*lam M j l∧q*lam M j l≤(Wc+1)*268435456:=by
     have h7:(q*lam M j l)*(q*lam M j l)≤((Wc+1)*268435456)*((Wc+1)*268435456):=by
      have a1:=cZ7 h5.1 h5.2;have a2:=cZ7 h2.1 h2.2;have a3:q*q*(lam M j l*lam M j l)≤(Wc+1)*(Wc+1)*(268435456*268435456):=Int.mul_le_mul a1 a2 (rT _) (Int.mul_nonneg oM oM);have a4:(q*lam M j l)*(q*lam M j l)=q*q*(lam M j l*lam M j l):=by grind
      have a5:((Wc+1)*268435456)*((Wc+1)*268435456)=(Wc+1)*(Wc+1)*(268435456*268435456):=by grind
      rw[a4,a5];exact a3
     exact fZC oM h7
    omega
   ·subst e2
    have h1:=eZ6 hsz (by rw[wH hj];exact h.po (l+1) oM) (by rw[wH hj];exact h.dt (l+1) oM)
    omega
   ·rw[gZi hj hlr e2]
    have h1:=hla l hlr;rw[←hWc] at h1;omega
  ·rw[bZZ hj hlr e,cZB (M:=opA M i j q) (N:=M) fun l hl'=>other r l e hl']
   exact h.la r l hr hlr
theorem J.norms{n i:Nat}{M:Mx}(h:J n M)(hn:n≤8)(hi0:0<i)(_:i<n)(hf:∀r,r≤i→full M r)(hl:wE M i=false):∀r,r<n→M r r≤2147483648:=fun r hr=>by
 by_cases e:r≤i
 ·exact aZV h.sy h.po h.dt hn hr (hf r e)
 ·exact h.hi r hr ⟨i,oM,.inr ⟨hi0,hl⟩⟩
theorem jZt{M:Mx}{i:Nat}(hl:wE M (i+1)=false):4*(det i M*det (i+2) M+lam M (i+1) i*lam M (i+1) i)<3*(det (i+1) M*det (i+1) M):=by
 unfold wE at hl;have:=of_decide_eq_false hl;simp only[Nat.add_sub_cancel] at this;exact Int.not_le.1 this
theorem J.swp{n i:Nat}{M:Mx}(h:J n M)(hn:n≤8)(hi:i+1<n)(hf:∀r,r≤i+1→full M r)(hl:wE M (i+1)=false):J n (sw M i):=by
 have hN:=h.norms hn oM hi hf hl;have hs:=h.sy.sw i;have hp:=h.po.sw h.sy hi;have hd:∀k,k≤n→det k (sw M i)≤268435456:=fun k hk=>by
  by_cases e:k=i+1
  ·subst e
   have:=lZN h.sy h.po hi (jZt hl);have:=h.dt (i+1) hk;omega
  ·rw[cZu e];exact h.dt k hk
 have hN':∀r,r<n→sw M i r r≤2147483648:=fun r hr=>hN _ (by unfold tp;split<;>(try split)<;>omega)
 exact⟨hs,hp,hd,fun r hr _=>hN' r hr,fun r l hr hlr=>nZA _ (dZp hs hp hd hr hlr (hN' r hr))⟩
def Wb:Int:=17592186044416*1073741824^8
theorem J.lam{n:Nat}{M:Mx}(h:J n M)(hn:n≤8){r l:Nat}(hr:r<n)(hl:l<r): -Wb≤lam M r l∧lam M r l≤Wb:=by
 have h1:=h.la r l hr hl;have h2:17592186044416*(1073741824:Int)^zc M r r≤Wb:=by
  unfold Wb;refine Int.mul_le_mul_of_nonneg_left ?_ oM;exact q_le (by have:=nZo (M:=M) (r:=r) r;omega)
 exact⟨Int.le_trans (Int.neg_le_neg h2) h1.1,Int.le_trans h1.2 h2⟩
def Eb:Int:=268435456+8*((Wb*Wb)*268435456)
theorem J.norm{n:Nat}{M:Mx}(h:J n M)(hn:n≤8){r:Nat}(hr:r<n):M r r≤Eb:=by
 have hW:0≤Wb*Wb:=rT _;have h1:=s_up h.sy h.po hr (B:=Wb*Wb) (D:=268435456) hW h.dt (fun k hk=>by
  have h1:=h.lam hn hr hk;have h2:=h.po (k+1) oM;have h3:(1:Int)*1≤det (k+1) M*det (k+1) M:=Int.mul_le_mul oM oM oM oM;have h4:=cZ7 h1.1 h1.2;have h5:Wb*Wb*1≤Wb*Wb*(det (k+1) M*det (k+1) M):=Int.mul_le_mul_of_nonneg_left oM hW;omega) r 0 oM
 rw[jX,show det 0 M=1 from rfl,Int.mul_one] at h1
 unfold Eb;have h2:(r:Int)*(Wb*Wb*268435456)≤8*(Wb*Wb*268435456):=Int.mul_le_mul_of_nonneg_right oM (Int.mul_nonneg hW oM);omega
theorem J.ent{n:Nat}{M:Mx}(h:J n M)(hn:n≤8){i j:Nat}(hi:i<n)(hj:j<n): -Eb≤M i j∧M i j≤Eb:=M_le h.sy h.po hi hj fun _ hr=>h.norm hn hr
theorem Eb_lt:Eb.natAbs<4294967296^19:=by decide
theorem oZc:Wb.natAbs+1<4294967296^10:=by decide
theorem iZL{M N:Mx}{i a b:Nat}:∀{n:Nat},(∀k,k≤n→k≠i+1→det k M=det k N)→i+1≤n→a*(det (i+1) M).toNat≤b*(det (i+1) N).toNat→a*phi M n≤b*phi N n
 |0,_,hi,_=>oM
 |n+1,h,hi,hlt=>by
  show a*(phi M n*_)≤b*(phi N n*_)
  by_cases e:n=i
  ·subst e
   rw[nA (M:=M) (N:=N) (fun k hk=>h k oM oM)];rw[Nat.mul_left_comm,Nat.mul_left_comm b];exact Nat.mul_le_mul_left _ hlt
  ·rw[h (n+1) (Nat.le_refl _) oM,←Nat.mul_assoc,←Nat.mul_assoc]
   exact Nat.mul_le_mul_right _ (iZL (fun k hk=>h k oM) oM hlt)
theorem oZI{M:Mx}{n i:Nat}(hs:Sym M)(hp:Pos n M)(hi:i+1<n)(hl:wE M (i+1)=false):4*phi (sw M i) n≤3*phi M n:=by
 refine iZL (fun k _ e=>cZu e) oM ?_;have e:=lJ hs hp (k:=i) (r:=i+1) oM hi;rw[iT,show i+1+1=i+2 from rfl] at e
 have hlt:=jZt hl;have h1:=(hp.sw hs hi) (i+1) oM;rw[uP] at h1 ⊢;have hd:=hp (i+1) oM;have h2:det (i+1) M*(4*bm M i (i+1) (i+1))<det (i+1) M*(3*det (i+1) M):=by
  have a1:det (i+1) M*(4*bm M i (i+1) (i+1))=4*(det (i+1) M*bm M i (i+1) (i+1)):=by grind
  have a2:det (i+1) M*(3*det (i+1) M)=3*(det (i+1) M*det (i+1) M):=by grind
  have a3:det (i+2) M*det i M=det i M*det (i+2) M:=Int.mul_comm _ _;rw[a1,a2];omega
 have h3:=Int.lt_of_mul_lt_mul_left h2 (Int.le_of_lt hd);omega
theorem few{S P x y:Nat}(h:4^S*x≤3^S*y)(hx:1≤x)(hy:y≤2^P):S≤3*P+2:=by
 have key:∀a,3^(3*a)*2^a≤4^(3*a):=fun a=>by
  rw[Nat.pow_mul,Nat.pow_mul,←Nat.mul_pow];exact Nat.pow_le_pow_left aD a
 by_cases hS:S≤3*P+2
 ·exact hS
 ·exfalso
  obtain⟨b,rfl⟩:∃b,S=3*(P+1)+b:=⟨S-3*(P+1),oM⟩;have h1:=key (P+1);have h2:3^b≤4^b:=Nat.pow_le_pow_left oM b;have h3:3^(3*(P+1))*2^(P+1)*3^b≤4^(3*(P+1))*4^b:=Nat.mul_le_mul h1 h2;rw[Nat.pow_add,Nat.pow_add 3] at h;have h4:4^(3*(P+1))*4^b*1≤4^(3*(P+1))*4^b*x:=Nat.mul_le_mul_left _ hx;have h5:3^(3*(P+1))*3^b*y≤3^(3*(P+1))*3^b*2^P:=Nat.mul_le_mul_left _ hy;have h6:3^(3*(P+1))*2^(P+1)*3^b=2*(3^(3*(P+1))*3^b*2^P):=by rw[Nat.pow_succ 2];grind
  have h7:0<3^(3*(P+1))*3^b*2^P:=Nat.mul_pos (Nat.mul_pos (Nat.pow_pos oM) (Nat.pow_pos oM)) (Nat.pow_pos oM);omega
theorem fZT{M:Mx}{n:Nat}(hp:Pos n M)(hd:∀k,k≤n→det k M≤268435456):∀k,k≤n→phi M k≤2^(28*k)
 |0,_=>Nat.le_refl 1
 |k+1,hk=>by
  show phi M k*_≤_
  have h1:=fZT hp hd k oM;have h2:=hd (k+1) hk;rw[Nat.mul_succ,Nat.pow_add];exact Nat.mul_le_mul h1 oM
theorem fpl_A{M:Mx}{n i j:Nat}{q:Int}(hj:j<i)(hi:i<n)(h1:∀y∈iI i j,szd M y.1 y.2=true)(h2:szd M i j=false)(h3:szd (opA M i j q) i j=true):fpl M n<fpl (opA M i j q) n:=by
 have h:=msr_A (q:=q) hj hi h1 h2 h3;unfold msr at h;rw[nA (M:=opA M i j q) (N:=M) fun k _=>wH hj k] at h;have:=hZV (p:=fun x:Nat×Nat=>szd M x.1 x.2) (plc n);have:fpl M n≤(plc n).length:=this;omega
theorem jZK(M:Mx)(n:Nat):fpl M n≤(plc n).length:=hZV (p:=fun x:Nat×Nat=>szd M x.1 x.2) (plc n)
theorem fZR:∀n,n≤8→(plc n).length≤28:=by
 intro n hn;have:∀n,(plc (n+1)).length=(plc n).length+n:=fun n=>by show(plc n++bZD n).length=_;rw[List.length_append];unfold bZD;simp
 match n,hn with
 |0,_=>decide
 |1,_=>decide
 |2,_=>decide
 |3,_=>decide
 |4,_=>decide
 |5,_=>decide
 |6,_=>decide
 |7,_=>decide
 |8,_=>decide
end Go.Proofs.YtfmjdlogjmofbaaGreatDoor.Det
namespace Go.Proofs.YtfmjdlogjmofbaaGreatDoor
section
open Go.RowKit Limb Det
theorem eZL{x y:Int}(hy:0<y):(Rat.divInt x y).num/((Rat.divInt x y).den:Int)=x/y:=by
 have hd:(0:Int)<((Rat.divInt x y).den:Int):=by have:=(Rat.divInt x y).den_pos;omega
 have e:(Rat.divInt x y).num*y=x*((Rat.divInt x y).den:Int):=by
  have h:=(Rat.divInt_eq_divInt_iff (n₁:=(Rat.divInt x y).num) (d₁:=(Rat.divInt x y).den) (n₂:=x) (d₂:=y) oM oM).1 (Rat.num_divInt_den _);exact h
 generalize(Rat.divInt x y).num=a at*;generalize((Rat.divInt x y).den:Int)=d at*;have key:∀q:Int,q≤a/d↔q≤x/y:=fun q=>by
  rw[Int.le_ediv_iff_mul_le hd,Int.le_ediv_iff_mul_le hy];constructor
  ·intro h
   have h1:q*d*y≤a*y:=Int.mul_le_mul_of_nonneg_right h (Int.le_of_lt hy);rw[e,Int.mul_right_comm] at h1;exact Int.le_of_mul_le_mul_right h1 hd
  ·intro h
   have h1:q*y*d≤x*d:=Int.mul_le_mul_of_nonneg_right h (Int.le_of_lt hd);rw[←e,Int.mul_right_comm] at h1;exact Int.le_of_mul_le_mul_right h1 hy
 have h1:=(key (a/d)).1 (Int.le_refl _);have h2:=(key (x/y)).2 (Int.le_refl _);omega
theorem oZM{a b:Int}(hb:0<b):nrZ a b=(2*a+b)/(2*b):=by
 have e:nrs a b=Rat.divInt (a*2+1*b) (b*2):=Rat.divInt_add_divInt a 1 oM oM;unfold nrZ;rw[e,eZL oM,Int.mul_comm a,Int.one_mul,Int.mul_comm b]
theorem dZq{x d:Int}(hd:0<d):Near x d (nrZ x d):=by
 rw[oZM hd];have h1:=Int.ediv_mul_le (2*x+d) (show 2*d≠0 by omega)
 have h2:=Int.lt_ediv_add_one_mul_self (2*x+d) (show 0<2*d by omega)
 generalize(2*x+d)/(2*d)=q at*;have e1:q*(2*d)=2*(q*d):=by grind
 have e2:(q+1)*(2*d)=2*(q*d)+2*d:=by grind
 rw[e1] at h1;rw[e2] at h2;have l1:q*d=q+q*(d-1):=by grind
 refine⟨oM,oM,?_,?_⟩
 ·by_cases g: -(x.natAbs:Int)-1≤q
  ·exact g
  ·exfalso
   have h3:q*(d-1)≤(-(x.natAbs:Int)-1)*(d-1):=Int.mul_le_mul_of_nonneg_right oM oM;have h4:(-(x.natAbs:Int)-1)*(d-1)≤(-1)*(d-1):=Int.mul_le_mul_of_nonneg_right oM oM;omega
 ·by_cases g:q≤(x.natAbs:Int)+1
  ·exact g
  ·exfalso
   have h3:((x.natAbs:Int)+1)*(d-1)≤q*(d-1):=Int.mul_le_mul_of_nonneg_right oM oM;have h4:1*(d-1)≤((x.natAbs:Int)+1)*(d-1):=Int.mul_le_mul_of_nonneg_right oM oM;omega
theorem rR{g:Nat→Int}{k:Int}{r j:Nat}:∀n,nP (fun a=>(idM a r+k*idM a j)*g a) n=(if r<n then g r else 0)+k*(if j<n then g j else 0)
 |0=>by rw[if_neg oM,if_neg oM,nP];omega
 |n+1=>by
  rw[nP,rR n];unfold idM
  by_cases h1:n=r
  ·subst h1
   by_cases h2:n=j
   ·subst h2
    simp only[Nat.lt_irrefl,Nat.lt_succ_self,if_true,if_false];grind
   ·by_cases h3:j<n
    ·rw[if_neg oM,if_pos h3,if_pos rfl,if_neg h2,if_pos oM,if_pos oM];grind
    ·rw[if_neg oM,if_neg h3,if_pos rfl,if_neg h2,if_pos oM,if_neg oM];grind
  ·rw[if_neg h1]
   have e1:(r<n+1)↔(r<n):=oM
   by_cases h2:n=j
   ·subst h2
    simp only[e1,Nat.lt_irrefl,Nat.lt_succ_self,if_true,if_false];grind
   ·have e2:(j<n+1)↔(j<n):=oM
    rw[if_neg h2];simp only[e1,e2];grind
theorem fZA{g:Nat→Int}{r n:Nat}(hr:r<n):nP (fun a=>idM a r*g a) n=g r:=by
 have h:=rR (g:=g) (k:=0) (r:=r) (j:=r) n;rw[if_pos hr,Int.zero_mul,Int.add_zero] at h;rw[←h];exact kE fun a _=>by rw[Int.zero_mul,Int.add_zero]
theorem dZe{A:Nat→Nat→Int}{i j:Nat}(hj:j<i)(a r:Nat):qJ A i j a r=idM a r+(if r=i then-(nrZ (lam A i j) (det (j+1) A)) else 0)*idM a j:=by
 unfold qJ upm
 by_cases h1:r=i
 ·rw[if_pos h1]
  by_cases h2:a=j
  ·rw[if_pos ⟨h2,h1⟩];unfold idM;rw[if_neg oM,if_pos h2];grind
  ·rw[if_neg (by grind)];unfold idM;rw[if_neg h2];grind
 ·rw[if_neg h1,if_neg (by grind)];grind
theorem hZa{A:Nat→Nat→Int}{n i j:Nat}(hj:j<i)(hi:i<n):∀r c,r<n→c<n→gY (gY (trM (qJ A i j)) A n) (qJ A i j) n r c=opA A i j (nrZ (lam A i j) (det (j+1) A)) r c:=fun r c hr hc=>by
 have hjn:j<n:=oM;have e1:∀r a,r<n→gY (trM (qJ A i j)) A n r a=A r a+(if r=i then-(nrZ (lam A i j) (det (j+1) A)) else 0)*A j a:=fun r a hr=>by
  unfold gY trM;rw[kE (g:=fun b=>(idM b r+(if r=i then-(nrZ (lam A i j) (det (j+1) A)) else 0)*idM b j)*A b a) fun b _=>by rw[dZe hj],rR,if_pos hr,if_pos hjn]
 rw[gY,kE (g:=fun b=>(idM b c+(if c=i then-(nrZ (lam A i j) (det (j+1) A)) else 0)*idM b j)*gY (trM (qJ A i j)) A n r b) fun b _=>by rw[dZe hj,Int.mul_comm],rR,if_pos hc,if_pos hjn,e1 r c hr,e1 r j hr]
 generalize nrZ (lam A i j) (det (j+1) A)=q;unfold opA opC opR
 by_cases h1:r=i
 ·subst h1
  by_cases h2:c=r
  ·subst h2;simp only[if_true];grind
  ·simp only[if_true,if_neg h2];grind
 ·by_cases h2:c=i
  ·subst h2;simp only[if_true,if_neg h1];grind
  ·simp only[if_neg h1,if_neg h2];grind
theorem fZ8{i:Nat}(hi:0<i)(r:Nat):qI i r=tp (i-1) r:=by unfold qI tp;split<;>(try split)<;>(try split)<;>omega
theorem fZ9{i n r:Nat}(hi:i<n)(hr:r<n):qI i r<n:=by unfold qI;split<;>(try split)<;>omega
theorem cZN{i:Nat}(hi:0<i)(a r:Nat):rQ i a r=idM a (qI i r):=by
 unfold rQ idM;have e:(qI i a=r)↔(a=qI i r):=by unfold qI;grind
 simp only[e]
theorem gZT{A:Nat→Nat→Int}{n i:Nat}(hi0:0<i)(hi:i<n):∀r c,r<n→c<n→gY (gY (trM (rQ i)) A n) (rQ i) n r c=sw A (i-1) r c:=fun r c hr hc=>by
 have e1:∀r a,r<n→gY (trM (rQ i)) A n r a=A (qI i r) a:=fun r a hr=>by
  unfold gY trM;rw[kE (g:=fun b=>idM b (qI i r)*A b a) fun b _=>by rw[cZN hi0],fZA (fZ9 hi hr)]
 rw[gY,kE (g:=fun b=>idM b (qI i c)*gY (trM (rQ i)) A n r b) fun b _=>by rw[cZN hi0,Int.mul_comm],fZA (fZ9 hi hc),e1 r _ hr]
 unfold sw;rw[fZ8 hi0,fZ8 hi0]
theorem aZ6{A:Nat→Nat→Int}{i:Nat}:∀{c:Nat},tV A i c=Option.none→∀l,l<c→szd A i l=true
 |0,_,l,h=>oM
 |c+1,h,l,hl=>by
  rw[tV] at h
  by_cases hs:szd A i c=true
  ·rw[if_pos hs] at h
   by_cases e:l=c
   ·subst e;exact hs
   ·exact aZ6 h l oM
  ·rw[if_neg hs] at h;cases h
theorem aZ5{A:Nat→Nat→Int}{i j:Nat}:∀{c:Nat},tV A i c=some j→j<c∧szd A i j=false∧∀l,j<l→l<c→szd A i l=true
 |0,h=>by cases h
 |c+1,h=>by
  rw[tV] at h
  by_cases hs:szd A i c=true
  ·rw[if_pos hs] at h
   obtain⟨h1,h2,h3⟩:=aZ5 h;exact⟨oM,h2,fun l g1 g2=>by
    by_cases e:l=c
    ·subst e;exact hs
    ·exact h3 l g1 oM⟩
  ·rw[if_neg hs] at h
   cases h
   exact⟨oM,by simpa using hs,fun l g1 g2=>oM⟩
def okR(A:Nat→Nat→Int)(r:Nat):Prop:=full A r∧(0<r→wE A r=true)
def aZd(A:Nat→Nat→Int)(n:Nat):Sr→Prop
 | .none=>∀r,r<n→okR A r
 | .red i j=>i<n∧j<i∧szd A i j=false∧(∀l,j<l→l<i→szd A i l=true)∧∀r,r<i→okR A r
 | .swp i=>0<i∧i<n∧full A i∧wE A i=false∧∀r,r<i→okR A r
theorem rK{A:Nat→Nat→Int}{n:Nat}:∀{c:Nat},c≤n→(∀r,r<n-c→okR A r)→aZd A n (nL A n c)
 |0,_,h=>h
 |c+1,hc,h=>by
  rw[nL];cases hr:tV A (n-(c+1)) (n-(c+1)) with
  |some j=>
   obtain⟨h1,h2,h3⟩:=aZ5 hr;exact⟨oM,h1,h2,h3,h⟩
  |none=>
   have hf:full A (n-(c+1)):=aZ6 hr;dsimp only
   by_cases hl:0<n-(c+1)∧eZX A (n-(c+1))=false
   ·rw[if_pos hl]
    exact⟨hl.1,oM,hf,hl.2,h⟩
   ·rw[if_neg hl]
    refine rK oM fun r hr'=>?_
    by_cases e:r<n-(c+1)
    ·exact h r e
    ·have e:r=n-(c+1):=oM
     subst e;refine⟨hf,fun h0=>?_⟩;cases hb:eZX A (n-(c+1)) with
     |true=>exact hb
     |false=>exact absurd ⟨h0,hb⟩ hl
def yL(A:Nat→Nat→Int):Sr→Nat→Nat→Int
 | .none=>A
 | .red i j=>opA A i j (nrZ (lam A i j) (det (j+1) A))
 | .swp i=>sw A (i-1)
def stepT(A:Nat→Nat→Int):Sr→Nat→Nat→Int
 | .none=>idM
 | .red i j=>qJ A i j
 | .swp i=>rQ i
def iF(n:Nat):Nat→(Nat→Nat→Int)→(Nat→Nat→Int)→(Nat→Nat→Int)×(Nat→Nat→Int)
 |0,H,T=>(H,T)
 |k+1,H,T=>match nL H n n with
  | .none=>(H,T)
  |s=>iF n k (yL H s) (gY T (stepT H s) n)
structure Rv(n:Nat)(A H T:Nat→Nat→Int)(S k:Nat):Prop where
 n7:n≤7
 j:J n H
 dn:det n H=det n A
 ph:4^S*phi H n≤3^S*phi A n
 pa:phi A n≤2^196
 tz:ZL T n n (2+18*(29*S+fpl H n))
 ku:20000≤k+(29*S+fpl H n)
theorem Rv.few{n:Nat}{A H T:Nat→Nat→Int}{S k:Nat}(h:Rv n A H T S k):29*S+fpl H n≤17138:=by
 have h1:=Det.few h.ph (fZU h.j.po) h.pa;have h2:=jZK H n;have h3:=fZR n (by have:=h.n7;omega)
 omega
theorem fZw(a b:Nat):zl (idM a b)≤2:=by unfold idM;split<;>decide
theorem Rv.zlH{n:Nat}{A H T:Nat→Nat→Int}{S k:Nat}(h:Rv n A H T S k):ZL H n n 20:=fun i j hi hj=>by
 obtain⟨h1,h2⟩:=h.j.ent (by have:=h.n7;omega) hi hj
 exact Nat.le_trans (nM (b:=Eb) oM) (Nat.le_trans (cN (k:=19) (by rw[bM];exact Eb_lt)) oM)
theorem zl_nr{n i j:Nat}{H:Nat→Nat→Int}(h:J n H)(hn:n≤8)(hi:i<n)(hj:j<i):zl (-(nrZ (lam H i j) (det (j+1) H)))≤10:=by
 have h1:=dZq (x:=lam H i j) (h.po (j+1) oM);have h2:=h.lam hn hi hj;have h3:=h1.ql;have h4:=h1.qh;have h5:=oZc;refine cN (k:=10) ?_;rw[bM];refine Nat.lt_of_le_of_lt ?_ oZc;generalize nrZ (lam H i j) (det (j+1) H)=q at*;generalize lam H i j=x at*;have:0≤Wb:=by decide
 omega
theorem Rv.stepT{n:Nat}{A H T:Nat→Nat→Int}{S k:Nat}(h:Rv n A H T S k){s:Sr}(hs:aZd H n s):ZL (Go.Proofs.YtfmjdlogjmofbaaGreatDoor.stepT H s) n n 10:=fun a b ha hb=>by
 cases s with
 |none=>exact Nat.le_trans (fZw a b) oM
 |red i j=>
  show zl (qJ H i j a b)≤10
  unfold qJ upm;split
  ·exact zl_nr h.j (by have:=h.n7;omega) hs.1 hs.2.1
  ·exact Nat.le_trans (fZw a b) oM
 |swp i=>exact Nat.le_trans (fZw _ b) oM
theorem fZv{T U:Nat→Nat→Int}{n b:Nat}(hn:n≤8)(hT:ZL T n n b)(hU:ZL U n n 10):ZL (gY T U n) n n (b+18):=fun i j hi hj=>by
 have:=bZo (f:=fun c=>T i c*U c j) (K:=b+10) (n:=n) fun c hc=>by
  have h1:=dU (T i c) (U c j);have h2:=hT i c hi hc;have h3:=hU c j hc hj;omega
 unfold gY;omega
theorem Rv.red{n i j:Nat}{A H T:Nat→Nat→Int}{S k:Nat}(h:Rv n A H T S (k+1))(hs:aZd H n (.red i j)):Rv n A (yL H (.red i j)) (gY T (Go.Proofs.YtfmjdlogjmofbaaGreatDoor.stepT H (.red i j)) n) S k:=by
 have hU:=h.stepT hs;obtain⟨hi,hj,hz,hl,hr⟩:=hs;have hn7:=h.n7;obtain⟨j1,j2⟩:=h.j.red hi hj (fun r h1=>(hr r h1).1) (fun r h1 h2=>(hr r h2).2 h1) hl hz (dZq (h.j.po (j+1) oM));have hf:=fpl_A (q:=nrZ (lam H i j) (det (j+1) H)) hj hi (fun y hy=>by
  unfold iI at hy;rcases List.mem_append.1 hy with hy|hy
  ·obtain⟨h1,h2⟩:=bZH hy
   exact(hr y.1 h2).1 y.2 h1
  ·obtain⟨t,ht,rfl⟩:=List.mem_map.1 hy
   have ht:=List.mem_range.1 ht;exact hl _ oM oM) hz j2
 have e:=wH (M:=H) (q:=nrZ (lam H i j) (det (j+1) H)) hj;refine⟨hn7,j1,by show det n (opA H i j _)=_;rw[e,h.dn],by show 4^S*phi (opA H i j _) n≤_;rw[nA fun k _=>e k];exact h.ph,h.pa,?_,?_⟩
 ·intro a b ha hb
  exact Nat.le_trans (fZv oM h.tz hU a b ha hb) (by show _≤2+18*(29*S+fpl (opA H i j _) n);omega)
 ·show 20000≤k+(29*S+fpl (opA H i j _) n)
  have:=h.ku;omega
theorem Rv.swp{n i:Nat}{A H T:Nat→Nat→Int}{S k:Nat}(h:Rv n A H T S (k+1))(hs:aZd H n (.swp i)):Rv n A (yL H (.swp i)) (gY T (Go.Proofs.YtfmjdlogjmofbaaGreatDoor.stepT H (.swp i)) n) (S+1) k:=by
 have hU:=h.stepT hs;obtain⟨hi0,hi,hf,hl,hr⟩:=hs;have hn7:=h.n7;obtain⟨m,rfl⟩:∃m,i=m+1:=⟨i-1,oM⟩;have hf':∀r,r≤m+1→full H r:=fun r h1=>by
  by_cases e:r=m+1
  ·subst e;exact hf
  ·exact(hr r oM).1
 have j1:=h.j.swp oM hi hf' hl;have p1:=oZI h.j.sy h.j.po hi hl;have f1:=jZK H n;have f2:=fZR n oM;refine⟨hn7,j1,by show det n (sw H m)=_;rw[cZu oM,h.dn],?_,h.pa,?_,?_⟩
 ·show 4^(S+1)*phi (sw H m) n≤_
  rw[Nat.pow_succ,Nat.pow_succ];have g1:4^S*(4*phi (sw H m) n)≤4^S*(3*phi H n):=Nat.mul_le_mul_left _ p1;have g2:=h.ph;have g3:4^S*4*phi (sw H m) n=4^S*(4*phi (sw H m) n):=Nat.mul_assoc ..;have g4:4^S*(3*phi H n)=3*(4^S*phi H n):=Nat.mul_left_comm ..;have g5:3^S*3*phi A n=3*(3^S*phi A n):=by rw[Nat.mul_comm (3^S) 3,Nat.mul_assoc]
  rw[g3,g5];omega
 ·intro a b ha hb
  exact Nat.le_trans (fZv oM h.tz hU a b ha hb) oM
 ·have:=h.ku
  omega
structure Red(n:Nat)(A H:Nat→Nat→Int):Prop where
 sy:Sym H
 po:Pos n H
 dn:det n H=det n A
 en:∀i j,i<n→j<n→-2147483648≤H i j∧H i j≤2147483648
theorem Rv.done{n:Nat}{A H T:Nat→Nat→Int}{S k:Nat}(h:Rv n A H T S k)(hs:aZd H n .none):Red n A H:=
 ⟨h.j.sy,h.j.po,h.dn,fun i j hi hj=>M_le h.j.sy h.j.po hi hj fun r hr=>aZV h.j.sy h.j.po h.j.dt (by have:=h.n7;omega) hr (hs r hr).1⟩
theorem qU{n:Nat}{A:Nat→Nat→Int}:∀{k:Nat} {H T:Nat→Nat→Int} {S:Nat},Rv n A H T S k→Red n A (iF n k H T).1
 |0,H,T,S,h=>by have h1:=h.ku;have h2:=h.few;omega
 |k+1,H,T,S,h=>by
  have hf:aZd H n (nL H n n):=rK (Nat.le_refl n) fun r hr=>oM;rw[iF];generalize nL H n n=s at*;cases s with
  |none=>exact h.done hf
  |red i j=>exact qU (h.red hf)
  |swp i=>exact qU (h.swp hf)
theorem Rv.start{n:Nat}{A:Nat→Nat→Int}(hn:n≤7)(hs:Sym A)(hp:Pos n A)(h:∀r,r<n→A r r≤15):Rv n A A idM 0 20000:=
 have hj:=J.start hs hp hn h
 ⟨hn,hj,rfl,Nat.le_refl (1*phi A n),Nat.le_trans (fZT hp hj.dt n (Nat.le_refl n)) (Nat.pow_le_pow_right oM oM),fun a b _ _=>Nat.le_trans (fZw a b) oM,oM⟩
end
section
open Go.RowKit Limb Det
def redH(A:Nat→Nat→Int)(n:Nat):Nat→Nat→Int:=(iF n 20000 A idM).1
def redU(A:Nat→Nat→Int)(n:Nat):Nat→Nat→Int:=(iF n 20000 A idM).2
theorem cZZ{n k:Nat}{H T:Nat→Nat→Int}(h:nL H n n= .none):iF n (k+1) H T=(H,T):=by rw[iF,h]
theorem cZY{n k i j:Nat}{H T:Nat→Nat→Int}(h:nL H n n= .red i j):iF n (k+1) H T=iF n k (yL H (.red i j)) (gY T (qJ H i j) n):=by rw[iF,h];rfl
theorem cZX{n k i:Nat}{H T:Nat→Nat→Int}(h:nL H n n= .swp i):iF n (k+1) H T=iF n k (yL H (.swp i)) (gY T (rQ i) n):=by rw[iF,h];rfl
section
variable(En:Ev)
theorem lZG(A:Nat→Nat→Int)(n:Nat)(hn:1≤n)(hn7:n≤7)(hs:Sym A)(hp:Pos n A)(h15:∀r,r<n→A r r≤15)(hd:det n A≤10000)(hA:ZL A n n 2):Fn PZ En 17 [zmt A n n] (dK [imt (redH A n) n n,zmt (redU A n) n n,i6 0]):=by
 have CV:=aZH En A n 2 hn oM oM hA (fun i j _ _=>hs i j);have hpB:bZG A n=true:=decide_eq_true fun k hk=>hp (k+1) oM;rw[hpB] at CV;have CS:=oZO En A n 2 hn oM oM hA;rw[decide_eq_true hd] at CS;have CC:=mcopy En A n n 2 oM hn oM oM hA;have CI:Fn PZ En 49 [i6 n] (dK [zmt idM n n,ex (.bool true)]):=FnX.const2 (aZI En n hn oM) (fun i hi=>oM) (fun i hi=>cM hi) (fun _ _ _ _=>rfl);refine aA Tryz.func17 rfl Tryz.ntmps17 rfl ?_;intro w0 h0;refine vS<|ja jj<|ja jj<|vZ jj<|js<|vS<|jm jj<|vC CV tA<|vZ jj<|vS<|jm jj<|jS (aY jj jj (fun w=>wT w _ _ _ _ _ _))<|jn<|jf jj<|jp<|js<|vS<|jm jj<|vC CS tA<|jS (bNo jj)<|jn<|jf jj<|jp<|vS<|jm jj<|vC CC tA<|vZ jj<|vS<|jm jj<|jE jj<|vC CI tA<|jm jj<|vE jj<|vE jj<|ja jj<|vZ jj ?_;refine jb ?_;refine WpD.loop (α:={p:(Nat→Nat→Int)×(Nat→Nat→Int)×Nat×Nat//Rv n A p.1 p.2.1 p.2.2.1 p.2.2.2∧iF n 20000 A idM=iF n p.2.2.2 p.1 p.2.1}) (fun p=>⟨[(6,.one (zmt p.1.1 n n)),(7,.one (zmt p.1.2.1 n n))],[]⟩) (fun p=>p.1.2.2.2) ⟨(A,idM,0,20000),Rv.start hn7 hs hp h15,rfl⟩ ?_ ?_
 ·dsimp only
  exact Sub.mk sJ sJ
 rintro⟨⟨H,T,S,k⟩,hR,hE⟩;dsimp only at hR hE ⊢;have hfew:=hR.few;obtain⟨k,rfl⟩:∃k',k=k'+1:=⟨k-1,by have:=hR.ku;omega⟩
 have hF:aZd H n (nL H n n):=rK (Nat.le_refl n) fun r hr=>oM;have C1:=mstep En H n 20 hn oM oM hR.zlH fun k hk=>by have:=hR.j.po (k+1) oM;omega
 cases hs:nL H n n with
 |none=>
  rw[hs] at C1 hF;have hr:=hR.done hF;rw[cZZ hs] at hE;have C2:=lZD En H n n hn oM hn oM fun i j hi hj=>by
   obtain⟨h1,h2⟩:=hr.en i j hi hj;exact⟨oM,oM⟩
  rw[show redH A n=H from congrArg Prod.fst hE,show redU A n=T from congrArg Prod.snd hE]
  refine jb<|vS<|jm jj<|vC C1 tA<|jm jj<|vE jj<|vE jj<|ja jj<|vZ jj<|js<|vS<|jm jj<|jS (bNo jj)<|jn<|jt jj<|vS<|jm jj<|vC C2 tA<|jm jj<|vE jj<|vE jj<|ja jj<|vZ jj<|vS<|vV jj jj<|ja jj<|ja jj<|vZ jj<|ji ?_;exact dZb rfl (.tmp rfl) (.tmp rfl) (.tmp rfl) (PLe.refl _)
 |red i j=>
  rw[hs] at C1 hF;have hz:=hR.stepT hF;have C3:=yQ En H (qJ H i j) n 20 hn oM oM hR.zlH (fun a b ha hb=>Nat.le_trans (hz a b ha hb) oM);rw[pI (hZa hF.2.1 hF.1)] at C3;have C4:=sG En T (qJ H i j) n n n 1000000 hn oM hn oM hn oM oM (fun a b ha hb=>Nat.le_trans (hR.tz a b ha hb) oM) (fun a b ha hb=>Nat.le_trans (hz a b ha hb) oM);refine jb<|vS<|jm jj<|vC C1 tA<|jm jj<|vE jj<|vE jj<|ja jj<|vZ jj<|js<|vS<|jm jj<|jS (bNo jj)<|jn<|jf jj<|jp<|jr<|vV jj jj<|vC C3 tB<|vV jj jj<|vC C4 tB<|ja jj<|vZ jj ?_;refine⟨⟨(yL H (.red i j),gY T (qJ H i j) n,S,k),hR.red hF,hE.trans (cZY hs)⟩,?_,oD⟩;dsimp only;exact Sub.mk sJ sJ
 |swp i=>
  rw[hs] at C1 hF;have hz:=hR.stepT hF;have C3:=yQ En H (rQ i) n 20 hn oM oM hR.zlH (fun a b ha hb=>Nat.le_trans (hz a b ha hb) oM);rw[pI (gZT hF.1 hF.2.1)] at C3;have C4:=sG En T (rQ i) n n n 1000000 hn oM hn oM hn oM oM (fun a b ha hb=>Nat.le_trans (hR.tz a b ha hb) oM) (fun a b ha hb=>Nat.le_trans (hz a b ha hb) oM);refine jb<|vS<|jm jj<|vC C1 tA<|jm jj<|vE jj<|vE jj<|ja jj<|vZ jj<|js<|vS<|jm jj<|jS (bNo jj)<|jn<|jf jj<|jp<|jr<|vV jj jj<|vC C3 tB<|vV jj jj<|vC C4 tB<|ja jj<|vZ jj ?_;refine⟨⟨(yL H (.swp i),gY T (rQ i) n,S+1,k),hR.swp hF,hE.trans (cZX hs)⟩,?_,oD⟩;dsimp only;exact Sub.mk sJ sJ
end
end
section
open Go.RowKit Limb
section
variable{P:Program}{En:Ev}
theorem mZV{w0:World}{h0:GH}{c:Cx}{h:GH}{β:Nat→Nat}{bx:Bx}{w:World}(hi:Inv En w0 h0 c h β bx w){f:FuncId}{az:List SD}{vs:List Value}{r:SD}{b d n m:Nat}{π:Nat→Nat}{g:Nat→List Pd}{cb cb':Bx}{μ:Nat→Nat}(hf:FnG P En f az cb r (cb'++mbx 400 200 π n m g))(ha:AllS h (fun i=>β (μ i)) cb az vs)(hl:lF bx μ cb)(hk:uH μ (cb.map (·.1)) (cb'.map (·.1))=true)(hπ:∀i,i<n→π i<8)(hnb:aB bx b=none)(hnd:∀j,j<8→aB bx (d+j)=none)(hlb:lk b=true)(hb:400≤b∧b<500)(hd:d+8≤400):
  Calls P f vs.toArray w (fun e w'=>∃v h' β',e= .returned v∧Inv En w0 h0 c h' β' (mbx b d π n m g++((cb'.map fun x=>(μ x.1,x.2))++bx)) w'∧Le h h'∧(∀i,aB bx i≠none→β' i=β i)∧∃βc,r.ok h' βc v∧βc 400=β' b):=by
 unfold uH at hk;rw[Bool.and_eq_true,Bool.and_eq_true] at hk;obtain⟨⟨k1,k2⟩,k3⟩:=hk;have k1:=cZr k1;have key':∀i,aB cb i≠none→(1000≤i∧(μ i<500∨1000≤μ i))∧lk i=false∧lk (μ i)=false:=fun i hi=>by
  have:=List.all_eq_true.1 k2 i (dA hi);rw[Bool.and_eq_true,Bool.and_eq_true,Bool.and_eq_true,Bool.or_eq_true] at this;obtain⟨⟨⟨t1,t2⟩,t3⟩,t4⟩:=this;refine⟨⟨Nat.le_of_ble_eq_true t1,t2.imp (fun h=>?_) (fun h=>Nat.le_of_ble_eq_true h)⟩,by simpa using t3,by simpa using t4⟩
  have:μ i<400:=Nat.le_of_ble_eq_true h;omega
 have key:∀i,aB cb i≠none→1000≤i∧(μ i<500∨1000≤μ i):=fun i hi=>(key' i hi).1;have minj:∀i j,aB cb i≠none→aB cb j≠none→μ i=μ j→i=j:=fun i j h1 h2=>oA k3 i (dA h1) j (dA h2);have hS:∀k,En.S k→k<w0.heap.size:=fun k hk=>En.lt _ hi.env k hk;have blk:∀i ps,aB cb i=some ps→ps≠[]→(w0.heap.size≤β (μ i)∨c.M (β (μ i))):=fun i ps hp hps=>by
  obtain⟨q1,_⟩:=hi.box (μ i) ps (eL hl hp) hps;rcases Nat.lt_or_ge (μ i) 1000 with hlt|hge
  ·exact .inl (q1.1 hlt)
  ·exact .inr ⟨μ i,q1.2 hge,hi.pin _ hge⟩
 refine Calls.mono (hf h _ w vs hi.envNow hi.holds ⟨fun i ps hp hps=>?_,fun i j ps qs hp hps hq hqs e=>?_⟩ (fun i ps hp hps=>⟨(key i (by rw[hp];simp)).1,fun hk=>?_⟩) ha) ?_
 ·obtain⟨_,q2,us,rs,T',q3,q4,_⟩:=hi.box0 (μ i) ps (eL hl hp) hps (key' i (by rw[hp];simp)).2.2
  have hli:=(key' i (by rw[hp];simp)).2.1
  exact⟨q2,us,rs,T',by rw[dW hli];exact q3,q4,cZ hli _ _ _⟩
 ·exact minj i j (by rw[hp];simp) (by rw[hq];simp) (hi.inj _ _ _ _ (eL hl hp) hps (eL hl hq) hqs e)
 ·rcases blk i ps hp hps with h|h
  ·have:=hS _ hk;omega
  ·exact hi.dis _ h hk
 rintro e w' ⟨v,h',β',rfl,g1,g2,g3,g4,g5,g6,g8,g7,_⟩
 -- places of the callee's boxes
 have keys:∀i,aB cb' i≠none→aB cb i≠none:=fun i hi'=>iV (by rw[k1];exact dA hi')
 have cb'ge:∀i,aB cb' i≠none→1000≤i:=fun i hi'=>(key i (keys i hi')).1;have LC:∀i,aB (cb'++mbx 400 200 π n m g) i=if 1000≤i then aB cb' i else aB (mbx 400 200 π n m g) i:=fun i=>by
  rw[cQ]
  by_cases h:1000≤i
  ·rw[if_pos h]
   cases hc:aB cb' i with
   |some x=>rfl
   |none=>rw[Option.none_or,nG,if_neg oM,if_neg oM]
  ·rw[if_neg h]
   cases hc:aB cb' i with
   |some x=>exact absurd (cb'ge i (by rw[hc];simp)) h
   |none=>rfl
 have c400:aB (cb'++mbx 400 200 π n m g) 400=some (aS (fun i=>dC (200+π i) 0 m m) n):=by rw[LC,if_neg oM,nG,if_pos rfl]
 have crow:∀j,j<8→aB (cb'++mbx 400 200 π n m g) (200+j)=some (g j):=fun j hj=>by rw[LC,if_neg oM,nG,if_neg oM,if_pos oM,Nat.add_sub_cancel_left]
 have chan:∀i ps,aB cb' i=some ps→aB (cb'++mbx 400 200 π n m g) i=some ps:=fun i ps hp=>by rw[LC,if_pos (cb'ge i (by rw[hp];simp))];exact hp
 let γ:Nat→Nat:=fun i=>if i=b then β' 400 else if d≤i∧i<d+8 then β' (200+(i-d)) else β i
 have gb:γ b=β' 400:=if_pos rfl;have gd:∀j,j<8→γ (d+j)=β' (200+j):=fun j hj=>by
  show(if _ then _ else if _ then _ else _)=_
  rw[if_neg oM,if_pos oM,Nat.add_sub_cancel_left]
 have go:∀i,aB bx i≠none→γ i=β i:=fun i hi'=>by
  show(if _ then _ else if _ then _ else _)=_
  rw[if_neg (by rintro rfl;exact hi' hnb),if_neg]
  rintro⟨q1,q2⟩;have:=hnd (i-d) oM;rw[show d+(i-d)=i by omega] at this
  exact hi' this
 have L:∀i,aB (mbx b d π n m g++((cb'.map fun x=>(μ x.1,x.2))++bx)) i=_:=fun i=>pC (b:=b) (d:=d) (n:=n) (m:=m) (π:=π) (g:=g) (bx:=(cb'.map fun x=>(μ x.1,x.2))++bx) i;have live:∀i,aB bx i≠none→aB (mbx b d π n m g++((cb'.map fun x=>(μ x.1,x.2))++bx)) i≠none∧γ i=β i:=fun i hi'=>by
  refine⟨?_,go i hi'⟩;rw[L];split
  ·simp
  ·split
   ·simp
   ·rw[cQ];cases aB (cb'.map fun x=>(μ x.1,x.2)) i<;>simp;exact hi'
 have hlt:∀j ps,aB bx j=some ps→ps≠[]→β j<w.heap.size:=fun j ps hj hp=>by
  obtain⟨_,_,us,rs,T',h3,_⟩:=hi.box j ps hj hp;exact dB h3
 have src:∀j qs,aB (mbx b d π n m g++((cb'.map fun x=>(μ x.1,x.2))++bx)) j=some qs→qs≠[]→(j=b∧qs=aS (fun i=>dC (d+π i) 0 m m) n)∨(∃r,r<8∧j=d+r∧qs=g r)∨(∃i qs0,μ i=j∧aB cb' i=some qs∧aB cb i=some qs0∧qs0≠[]∧aB bx j=some qs0∧β' i=β j)∨(aB bx j=some qs∧∀i,aB cb i≠none→μ i≠j):=fun j qs hj hq=>by
  rw[L] at hj
  by_cases e:j=b
  ·rw[if_pos e] at hj;cases hj;exact .inl ⟨e,rfl⟩
  ·rw[if_neg e] at hj
   by_cases e2:d≤j∧j<d+8
   ·rw[if_pos e2] at hj;cases hj;exact .inr (.inl ⟨j-d,oM,oM,rfl⟩)
   ·rw[if_neg e2,cQ] at hj
    cases hw:aB (cb'.map fun x=>(μ x.1,x.2)) j with
    |some qs'=>
     rw[hw] at hj;simp only[Option.some_or,Option.some.injEq] at hj;subst hj;obtain⟨i,rfl,h2⟩:=yS hw;have hge:=cb'ge i (by rw[h2];simp)
     obtain⟨qs0,e1,e2⟩:=(g8 i _ (chan i _ h2) hq).2 hge;exact .inr (.inr (.inl ⟨i,qs0,rfl,h2,e1,e2,eL hl e1,g6 i hge⟩))
    |none=>
     rw[hw] at hj;refine .inr (.inr (.inr ⟨by simpa using hj,fun i hi' e=>?_⟩))
     subst e;have:i∈cb'.map (·.1):=by rw[←k1];exact dA hi'
     obtain⟨y,hy,rfl⟩:=List.mem_map.1 this;exact iV (bx:=cb'.map fun x=>(μ x.1,x.2)) (List.mem_map.2 ⟨(μ y.1,y.2),List.mem_map.2 ⟨y,hy,rfl⟩,rfl⟩) hw
 have cal:∀i ps,i<1000→aB (cb'++mbx 400 200 π n m g) i=some ps→ps≠[]→w.heap.size≤β' i:=fun i ps hlo hp hps=>(g8 i ps hp hps).1 hlo;have outne:aS (fun i=>dC (d+π i) 0 m m) n≠[]→aS (fun i=>dC (200+π i) 0 m m) n≠[]:=fun hh hq=>hh (List.length_eq_zero_iff.1 (by rw[eG];have:=congrArg List.length hq;rw[eG] at this;simpa using this))
 have hblk:∀k,k<w.heap.size→(∀i ps,aB cb i=some ps→ps≠[]→k≠β (μ i))→w'.heap[k]? =w.heap[k]? :=fun k hk hne=>g4.block k hk (by rintro⟨i,⟨ps,h1,h2⟩,h3⟩;exact hne i ps h1 h2 h3)
 refine⟨v,h',γ,rfl,⟨hi.env,g2,hi.le0.trans g1,fun b' o u e e0=>?_,⟨g4.os.trans hi.below.os,g4.tape.trans hi.below.tape,g4.output.trans hi.below.output,Nat.le_trans hi.below.size g4.size,fun k hk hM=>?_⟩,hi.dis,fun j hj=>?_,fun j ps hj hp=>?_,fun i j ps qs' hi' hp hj' hq e=>?_⟩,g1,go,β',g7,gb.symm⟩
 ·cases he:h b' o with
  |none=>exact Nat.le_trans hi.below.size (g3 b' o u e he)
  |some u'=>exact hi.fresh b' o u' he e0
 ·rw[hblk k (Nat.lt_of_lt_of_le hk hi.below.size) ?_]
  ·exact hi.below.block k hk hM
  ·rintro i ps hp hps rfl
   rcases blk i ps hp hps with h|h
   ·omega
   ·exact hM h
 ·show(if _ then _ else if _ then _ else _)=_
  rw[if_neg oM,if_neg oM];exact hi.pin j hj
 ·rcases src j ps hj hp with⟨rfl,rfl⟩|⟨r',hr',rfl,rfl⟩|⟨i,qs0,rfl,e2,e3,e4,e5,e6⟩|⟨hj2,e2⟩
  ·rw[gb]
   obtain⟨r1,us,rs,T',r2,r3,r4⟩:=g5.box 400 _ c400 (outne hp);have l400:lk 400=true:=rfl;have r2':w'.heap[β' 400]? =some (.cells (us.map (tr β')++rs).toArray T' (0,0)):=by unfold tI at r2;rw[l400] at r2;exact r2
   obtain⟨vs2,k1,k2,k3⟩:=PsMv.all (ρ:=fun i=>200+(i-d)) (s:=cb'++mbx 400 200 π n m g) (t:=mbx j d π n m g++((cb'.map fun x=>(μ x.1,x.2))++bx)) (PsMv.out (f:=fun i=>dC (200+π i) 0 m m) (g:=fun i=>dC (d+π i) 0 m m) (n:=n) fun i hin=>PMv.own (by rw[Nat.add_sub_cancel_left]) (by rw[L,if_neg (by have:=hπ i hin;omega),if_pos (by have:=hπ i hin;omega)];simp) (by unfold grows;have:=hπ i hin;omega) (by unfold grows;have:=hπ i hin;omega)) r3 (r4 l400)
   have key:∀v∈vs2,tr (fun i=>β' (200+(i-d))) v=tr γ v∧oK γ (mbx j d π n m g++((cb'.map fun x=>(μ x.1,x.2))++bx)) v:=fun v hv=>by
    obtain⟨p,hp1,hp2⟩:=k2.mem v hv;obtain⟨i,hin,rfl⟩:=jH hp1;obtain⟨cc,rfl,_,_⟩:=hp2;have hng:¬grows (d+π i):=by unfold grows;have:=hπ i hin;omega
    refine⟨?_,fun r o l c e=>?_⟩
    ·rw[eZ hng,eZ hng,gd _ (hπ i hin)]
     simp only[Nat.add_sub_cancel_left]
    ·cases e
     exact⟨(k3 _ hv _ _ _ _ rfl).1,fun h=>absurd h hng⟩
   refine⟨⟨fun _=>Nat.le_trans hi.below.size (cal 400 _ oM c400 (outne hp)),fun h=>absurd h oM⟩,r1,vs2,rs,T',?_,k2,fun hg=>absurd hg uG,fun _ v hv=>(key v hv).2⟩;have e2:tI j γ vs2=vs2.map (tr γ):=by unfold tI;rw[hlb];rfl
   rw[e2,←List.map_congr_left fun v hv=>(key v hv).1,←k1];exact r2'
  ·rw[gd r' hr']
   obtain⟨r1,us,rs,T',r2,r3,_⟩:=g5.box (200+r') _ (crow r' hr') hp;have hl1:lk (200+r')=false:=eT oM;have hl2:lk (d+r')=false:=eT oM;rw[dW hl1] at r2;exact⟨⟨fun _=>Nat.le_trans hi.below.size (cal _ _ oM (crow r' hr') hp),fun h=>absurd h oM⟩,r1,us,rs,T',by rw[dW hl2];exact r2,r3,fun hg=>absurd hg uG,cZ hl2 _ _ _⟩
  ·obtain⟨q1,_⟩:=hi.box (μ i) qs0 e5 e4
   obtain⟨r1,us,rs,T',r2,r3,_⟩:=g5.box i ps (chan i _ e2) hp;have hkk:=(key' i (by rw[e3];simp)).2
   rw[dW hkk.1] at r2;rw[e6] at r1 r2;have hng:=(key i (by rw[e3];simp)).2
   rw[go (μ i) (by rw[e5];simp)]
   exact⟨q1,r1,us,rs,T',by rw[dW hkk.2];exact r2,r3,fun hg=>absurd hg uG,cZ hkk.2 _ _ _⟩
  ·rw[go j (by rw[hj2];simp)]
   obtain⟨r0,r1,us,rs,T',r2,r3,r4,r5⟩:=hi.box j ps hj2 hp;obtain⟨q1,q2⟩:=fK r5 live;refine⟨r0,fun o=>?_,us,rs,T',?_,r3.mono g1,fun hg=>?_,q1⟩
   ·cases he:h' (β j) o with
    |none=>rfl
    |some u=>
     have:=g3 _ _ _ he (r1 o);have:=dB r2;omega
   ·rw[q2,hblk _ (dB r2) ?_]
    ·exact r2
    ·intro i ps0 hp0 hps0 hh
     exact e2 i (by rw[hp0];simp) (hi.inj _ _ _ _ (eL hl hp0) hps0 hj2 hp hh.symm)
   ·rw[r4 hg]
    show _=(if _ then _ else if _ then _ else _)
    have:=hg.1;rw[if_neg oM,if_neg oM]
 ·have old:∀j qs,((∃i qs0,μ i=j∧aB cb' i=some qs∧aB cb i=some qs0∧qs0≠[]∧aB bx j=some qs0∧β' i=β j)∨(aB bx j=some qs∧∀i,aB cb i≠none→μ i≠j))→qs≠[]→∃qs',aB bx j=some qs'∧qs'≠[]:=fun j qs hj hq=>by
   rcases hj with⟨i,qs0,_,_,_,e4,e5,_⟩|⟨e1,_⟩
   ·exact⟨qs0,e5,e4⟩
   ·exact⟨qs,e1,hq⟩
  rcases src i ps hi' hp with⟨ei,epi⟩|⟨r1,hr1,ei,epi⟩|hi2<;>rcases src j qs' hj' hq with⟨ej,epj⟩|⟨r2,hr2,ej,epj⟩|hj2
  ·rw[ei,ej]
  ·subst ei ej
   rw[gb,gd _ hr2] at e;have:=g5.inj 400 (200+r2) _ _ c400 (outne (epi▸hp)) (crow r2 hr2) (epj▸hq) e;omega
  ·subst ei
   obtain⟨qs1,a1,a2⟩:=old j qs' hj2 hq;rw[gb,go j (by rw[a1];simp)] at e
   have:=cal 400 _ oM c400 (outne (epi▸hp));have:=hlt j _ a1 a2;omega
  ·subst ei ej
   rw[gb,gd _ hr1] at e;have:=g5.inj (200+r1) 400 _ _ (crow r1 hr1) (epi▸hp) c400 (outne (epj▸hq)) e;omega
  ·subst ei ej
   rw[gd _ hr1,gd _ hr2] at e;have:=g5.inj (200+r1) (200+r2) _ _ (crow r1 hr1) (epi▸hp) (crow r2 hr2) (epj▸hq) e;omega
  ·subst ei
   obtain⟨qs1,a1,a2⟩:=old j qs' hj2 hq;rw[gd _ hr1,go j (by rw[a1];simp)] at e
   have:=cal _ _ oM (crow r1 hr1) (epi▸hp);have:=hlt j _ a1 a2;omega
  ·subst ej
   obtain⟨qs1,a1,a2⟩:=old i ps hi2 hp;rw[gb,go i (by rw[a1];simp)] at e
   have:=cal 400 _ oM c400 (outne (epj▸hq));have:=hlt i _ a1 a2;omega
  ·subst ej
   obtain⟨qs1,a1,a2⟩:=old i ps hi2 hp;rw[gd _ hr2,go i (by rw[a1];simp)] at e
   have:=cal _ _ oM (crow r2 hr2) (epj▸hq);have:=hlt i _ a1 a2;omega
  ·obtain⟨ps1,a1,a2⟩:=old i ps hi2 hp
   obtain⟨qs1,b1,b2⟩:=old j qs' hj2 hq;rw[go i (by rw[a1];simp),go j (by rw[b1];simp)] at e
   exact hi.inj i j _ _ a1 a2 b1 b2 e
section
variable{nn:Nat}{sl:Sl}{bx:Bx}{dst:Option Tmp}{ty:TypeId}{pos:String}{after:Array Edge}{guard:Option (Nat×Bool)}
theorem gZY{f:FuncId}{rb:List Nat}{wb:Bx}{xs:List Operand}{ats:Array TypeId}{az:List SD}{cb cb':Bx}{n m:Nat}{π:Nat→Nat}{g:Nat→List Pd}(b d:Nat)(μ:Nat→Nat)[hb:CBody P f](hf:FnG P En f az cb (.own 400 0 n n) (cb'++mbx 400 200 π n m g))(ha:zZ sl cb μ xs az)(hl:lF bx μ cb)(hk:uH μ (cb.map (·.1)) (cb'.map (·.1))=true)(hπ:∀i,i<n→π i<8)(hbd:hZd bx b d=true)(hrb:cb.map (fun x=>μ x.1)=rb)(hwb:mbx b d π n m g++(cb'.map fun x=>(μ x.1,x.2))=wb):
  RT P En nn ⟨dst,.call ⟨.value (.func f),xs.toArray,ats⟩,ty,pos,after,guard⟩ sl bx ⟨.own b 0 n n,rb,wb⟩:=by
 obtain⟨b1,b2,b3,b4,b5⟩:=aZF hbd;subst hrb hwb;intro sl' bx' h1 h2 h3 w0 h0 c h β a w Q hi hs;have hl':lF bx' μ cb:=by
  have:∀(l:Bx),(∀x∈l,aB bx' (μ x.1)=aB bx (μ x.1))→lF bx μ l→lF bx' μ l:=by
   intro l;induction l with
   |nil=>intro _ _;trivial
   |cons x l ih=>intro hx hb;exact⟨(hx x (by simp)).trans hb.1,ih (fun y hy=>hx y (List.mem_cons_of_mem _ hy)) hb.2⟩
  exact this cb (fun x hx=>h2 _ (List.mem_map.2 ⟨x,hx,rfl⟩)) hl
 have hkey:∀i,i∈(mbx b d π n m g).map (·.1)→aB bx' i=aB bx i:=fun i hi'=>h3 i (by rw[List.map_append];exact List.mem_append_left _ hi')
 have hmem:∀j,j<8→d+j∈(mbx b d π n m g).map (·.1):=fun j hj=>by
  show d+j∈b::(rws d g).map (·.1)
  rw[oS];exact List.mem_cons_of_mem _ (fM hj)
 have hargs:=tF (cb:=cb) (μ:=μ) (xs:=xs) (az:=az) hs (fun x hx=>h1 x (by simp[Op.operands,Call.operands,hx])) ha
 unfold Oper.wp;rw[execOp_call_go];rw[show(#[]++xs.toArray.map a.eval++ #[])=(xs.map a.eval).toArray by simp,gL hb.ok]
 refine Calls.mono (mZV hi hf hargs hl' hk hπ ((hkey b (by show b∈b::_;simp)).trans b4) (fun j hj=>(hkey _ (hmem j hj)).trans (b5 j hj)) b1 b2 b3) ?_
 rintro e w' ⟨v,h',β',rfl,g1,g2,g3,βc,⟨cc,g4,g5⟩,g6⟩;refine⟨v,h',β',rfl,?_,g2,g3,⟨cc,by rw[←g6];exact g4,g5⟩,?_⟩
 ·show Inv En w0 h0 c h' β' ((mbx b d π n m g++cb'.map fun x=>(μ x.1,x.2))++bx') w'
  rw[List.append_assoc];exact g1
 ·show aB ((mbx b d π n m g++_)++bx') b≠none
  rw[List.append_assoc,pC,if_pos rfl];simp
end
end
end
section
open Go.RowKit Limb Det
instance cone_i8:COne Tryz.prog 201:=⟨⟨_,Tryz.underlying201,rfl,by kernel_rfl⟩⟩
instance pZv:CSlice Tryz.prog 22 201:=⟨Tryz.underlying22⟩
instance qZc:CElem Tryz.prog 22 201 1:=⟨Tryz.underlying22,by kernel_rfl⟩
instance qZo:COne Tryz.prog 22:=⟨⟨_,Tryz.underlying22,rfl,by kernel_rfl⟩⟩
instance cint_i8:CInt Tryz.prog 201 .i8:=⟨Tryz.underlying201⟩
instance mZE:CField Tryz.prog 107 0 0:=⟨⟨_,_,Tryz.underlying107,rfl,rfl,by kernel_rfl⟩⟩
instance mZD:CField Tryz.prog 107 1 1:=⟨⟨_,_,Tryz.underlying107,rfl,rfl,by kernel_rfl⟩⟩
instance kb120:CBody PZ 120:=cB Tryz.func120
instance kb57:CBody PZ 57:=cB Tryz.func57
instance kb58:CBody PZ 58:=cB Tryz.func58
instance kb55:CBody PZ 55:=cB Tryz.func55
instance kb56:CBody PZ 56:=cB Tryz.func56
def tpL(f:Nat→Int)(N:Nat):Pd:=slc 1 (aS (fun a=>ex (.int .i8 (f a))) N) N
instance(f:Nat→Int)(N:Nat):CLen (tpL f N) N:=by unfold tpL;exact inferInstance
instance(f:Nat→Int)(N:Nat):C1 (tpL f N):=by unfold tpL;exact inferInstance
def tpc(f:Nat→Int)(N p:Nat):List Pd:=[tpL f N,i6 ((min p N:Nat):Int)]
def gt(f:Nat→Int)(N p:Nat):Int:=if p<N then f p else 0
def bl(f:Nat→Int)(N p most:Nat):Nat:=(gt f N p%256).toNat%most
structure Tp(f:Nat→Int)(N:Nat):Prop where
 len:N<9223372036854775808
 lo:∀a,-128≤f a
 hi:∀a,f a<128
theorem Tp.gt{f:Nat→Int}{N:Nat}(h:Tp f N)(p:Nat): -128≤gt f N p∧gt f N p<128:=by
 unfold Go.Proofs.YtfmjdlogjmofbaaGreatDoor.gt;split
 ·exact⟨h.lo _,h.hi _⟩
 ·omega
section
variable(En:Ev)
theorem nZ6(f:Nat→Int)(N p:Nat)(hT:Tp f N):FnG PZ En 120 [.ptr 1000 0] [(1000,tpc f N p)] (.one (i6 (gt f N p))) [(1000,tpc f N (p+1))]:=by
 have hN:=hT.len;unfold tpc gt
 by_cases h:p<N
 ·rw[Nat.min_eq_left oM,Nat.min_eq_left oM,if_pos h]
  have hx:((aS (fun a=>ex (.int .i8 (f a))) N).drop (p*1)).take 1=[ex (.int .i8 (f p))]:=fY (e:=fun a=>[ex (.int .i8 (f a))]) (fun _ _=>rfl) h;have e1:IntKind.i64.wrap (((p+1:Nat):Int)-1)=(p:Int):=by rw[w64 oM oM];omega
  have l1:=hT.lo p;have l2:=hT.hi p;refine bL Tryz.func120 rfl Tryz.ntmps120 rfl ?_;intro w0 h0 c;refine vS<|vZ jj<|js<|vS<|jm jj<|vN jj<|vX jj<|jm jj<|vN jj<|vX jj<|jE jj<|jS (bHf jj jj)<|jn<|jf jj<|jp<|vS<|jm jj<|vN jj<|vX jj<|vAd jj wO<|vN jj<|vF jj<|jO (kI jj jj jj jj jj)<|vJ<|jm jj<|vN jj<|vX jj<|jm jj<|vN jj<|vX jj<|vSu jj e1<|vD jj aO aM<|vT jj<|jS (bCv jj wO)<|vZ jj ?_;refine ji ?_;exact kC rfl rfl (PLe.refl _) trivial ⟨.inl pQ,trivial⟩
 ·rw[Nat.min_eq_right oM,Nat.min_eq_right oM,if_neg h]
  refine bL Tryz.func120 rfl Tryz.ntmps120 rfl ?_;intro w0 h0 c;refine vS<|vZ jj<|js<|vS<|jm jj<|vN jj<|vX jj<|jm jj<|vN jj<|vX jj<|jE jj<|jS (bHt jj jj)<|jn<|jt jj<|vS<|vZ jj<|ji ?_;exact kC rfl rfl (PLe.refl _) trivial ⟨.inl pQ,trivial⟩
theorem bZT(f:Nat→Int)(N p most:Nat)(hT:Tp f N)(hm:1≤most)(hm2:most≤1000):FnG PZ En 57 [.ptr 1000 0,.one (i6 most)] [(1000,tpc f N p)] (.one (i6 ((bl f N p most:Nat):Int))) [(1000,tpc f N (p+1))]:=by
 have C1:=nZ6 En f N p hT;obtain⟨l1,l2⟩:=hT.gt p;have e1:IntKind.u8.wrap (gt f N p)=(((gt f N p%256).toNat:Nat):Int):=by
  have:IntKind.u8.wrap (gt f N p)=gt f N p%256:=by rw[IntKind.wrap_u8]
  rw[this];omega
 have e2:((((gt f N p%256).toNat:Nat):Int)).tmod (most:Int)=((bl f N p most:Nat):Int):=by
  unfold bl;rw[←Int.ofNat_tmod]
 refine bL Tryz.func57 rfl Tryz.ntmps57 rfl ?_;intro w0 h0 c;refine vS<|vZ jj<|vS<|jm jj<|jT (dI (fun _=>1000) C1 ⟨⟨jj,oN⟩,trivial⟩ tA jj jj jj)<|jS (bCv jj e1)<|jS (bCv jj wO)<|jm jj<|jS (bRe jj jj e2)<|vZ jj<|ji ?_;exact kC rfl rfl (PLe.refl _) trivial ⟨.inl pQ,trivial⟩
def dgM(f:Nat→Int)(N p most:Nat):Nat→Nat→Int:=fun i j=>if i=j then 1+((bl f N (p+i) most:Nat):Int) else 0
theorem sY(f:Nat→Int)(N p:Nat){most:Nat}(h:1≤most):bl f N p most<most:=Nat.mod_lt _ oM
theorem zD{n i:Nat}(hi:i<n)(v:Int):(List.replicate n ([.int .i64 0].map ex)).flatten.set (i*1) (i6 v)=aS (fun j=>if j=i then i6 v else i6 0) n:=by
 rw[fX,Nat.mul_one];exact nB (g:=fun _=>i6 0) hi
theorem zE(n:Nat):(List.replicate n ([.int .i64 0].map ex)).flatten.length=n:=by
 rw[fX];exact eG (fun _=>i6 0) n
theorem oZU(f:Nat→Int)(N p n most:Nat)(hT:Tp f N)(hn8:n≤8)(hm:1≤most)(hm2:most≤1000):FnG PZ En 58 [.ptr 1000 0,.one (i6 n),.one (i6 most)] [(1000,tpc f N p)] (.own 400 0 n n) ([(1000,tpc f N (p+n))]++mbx 400 200 (fun i=>i) n n (bN (dgM f N p most) n n)):=by
 refine bL Tryz.func58 rfl Tryz.ntmps58 rfl ?_;intro w0 h0 c;refine vS<|vZ jj<|vS<|jm jj<|jT (fV jj jj jj jj oM jj jj)<|vZ jj<|js<|vS<|jm jj<|jS (cP jj CSlice.ok)<|jm jj<|jn<|jb ?_;refine WpD.loop (α:={i:Nat//i≤n}) (fun i=>⟨[(0,.ptr 1000 0),(1,.one (i6 n)),(2,.one (i6 most)),(7,.own 400 0 n n),(12,.one (i6 n)),(13,.one (i6 i.1))],(400,aS (iZ 200 i.1 n) n)::(rws 200 (bN (dgM f N p most) i.1 n)++[(1000,tpc f N (p+i.1))])⟩) (fun i=>n-i.1) ⟨0,Nat.zero_le _⟩ ?_ ?_
 ·dsimp only
  refine Sub.mv 400 10 oM oM oM ⟨pM,pK,pK,⟨_,rfl,cI _ _,rfl,rfl,rfl,js0 rfl⟩,pK,pK,trivial⟩ ⟨BMv.to rfl rfl uG oM oM (congrArg some (fX [ex (.slice none 0 0)] n)) (fun i _=>⟨PLe.refl _,by unfold iZ;rw[if_neg oM];exact inferInstance⟩),mvBx.fam (fun j _=> .inl (bF oM)) ⟨bK,trivial⟩⟩
 rintro⟨i,hi⟩;dsimp only
 by_cases hin:i<n
 ·have C1:=bZT En f N (p+i) most hT hm hm2
  have hb:=sY f N (p+i) hm;have e1:IntKind.i64.wrap (1+((bl f N (p+i) most:Nat):Int))=1+((bl f N (p+i) most:Nat):Int):=w64 oM oM;refine vS<|vLt jj<|vW jj<|vS<|jm jj<|vZ jj<|vS<|vV jj jj<|jm jj<|jT (fV jj jj jj jj oM jj jj)<|jS (aF jj jj aO)<|jO (fN jj jj jj aO aG)<|jn<|jr<|vV jj jj<|jS (aF jj jj aO) ?_;refine jS (bB jj jj hin (if_pos jj) uG)<|vV jj jj<|jm jj<|jT (dI (fun _=>1000) C1 ⟨⟨jj,oN⟩,jj,trivial⟩ tA jj jj jj)<|vAd jj e1<|jS (aF jj jj aO)<|jO (bX jj jj jj (by rw[zE,Nat.mul_one];exact hin) (zD hin _))<|jn<|jr<|vAd jj wO<|jm jj<|jn ?_
  refine⟨⟨i+1,oM⟩,?_,oD⟩;dsimp only;refine Sub.mv (200+i) 19 oM oM oM ⟨pM,pK,pK,⟨_,rfl,cJ oM oM,rfl,rfl,rfl,js0 rfl⟩,pK,pK,trivial⟩ ⟨BMv.out rfl oM oM uG rfl (lN oM oM oM hn8 (Fam.live fFm)),mvBx.famA fFm oM oM oM oM (fun j _ hj=>PsLe.of ?_) rfl (PsLe.of ?_) ⟨bK,trivial⟩⟩ rfl ?_
  ·by_cases h:j<i
   ·rw[bA h,bA oM]
   ·rw[bF h,bF oM]
  ·rw[bA oM]
   refine cA fun j _=>?_;unfold dgM
   by_cases h:j=i
   ·rw[if_pos h,if_pos h.symm]
   ·rw[if_neg h,if_neg fun e=>h e.symm]
  ·dsimp only
   rw[aC,if_neg oM,iM,if_neg oM,aC,if_neg oM];rfl
 ·have e:i=n:=oM
  subst e;refine vS<|vLf jj<|vU jj<|vS<|jm jj<|vZ jj<|ji ?_;refine kC rfl rfl (SLe.rfl' _) (js0 rfl) ⟨.inl pQ,.inl ⟨_,rfl,PsLe.of (mQ ..)⟩,subBx.fam fFm (fun _ _=>PsLe.refl _) trivial⟩ (LKeep.all ⟨.inl rfl,.inr (bI (d:=200) (Fam.live fFm) oM oM),lkAll.fam rfl trivial⟩)
theorem jZc(f:Nat→Int)(N p n most:Nat)(hT:Tp f N)(hn8:n≤8)(hm:1≤most)(hm2:most≤1000):FnG PZ En 58 [.ptr 1000 0,.one (i6 n),.one (i6 most)] [(1000,tpc f N p)] (.one (imt (dgM f N p most) n n)) [(1000,tpc f N (p+n))]:=by
 refine bL Tryz.func58 rfl Tryz.ntmps58 rfl ?_;intro w0 h0 c;refine vS<|vZ jj<|vS<|jm jj<|jT (fV jj jj jj jj oM jj jj)<|vZ jj<|js<|vS<|jm jj<|jS (cP jj CSlice.ok)<|jm jj<|jn<|jb ?_;refine WpD.loop (α:={i:Nat//i≤n}) (fun i=>⟨[(0,.ptr 1000 0),(1,.one (i6 n)),(2,.one (i6 most)),(7,.own 400 0 n n),(12,.one (i6 n)),(13,.one (i6 i.1))],(400,aS (iZ 200 i.1 n) n)::(rws 200 (bN (dgM f N p most) i.1 n)++[(1000,tpc f N (p+i.1))])⟩) (fun i=>n-i.1) ⟨0,Nat.zero_le _⟩ ?_ ?_
 ·dsimp only
  refine Sub.mv 400 10 oM oM oM ⟨pM,pK,pK,⟨_,rfl,cI _ _,rfl,rfl,rfl,js0 rfl⟩,pK,pK,trivial⟩ ⟨BMv.to rfl rfl uG oM oM (congrArg some (fX [ex (.slice none 0 0)] n)) (fun i _=>⟨PLe.refl _,by unfold iZ;rw[if_neg oM];exact inferInstance⟩),mvBx.fam (fun j _=> .inl (bF oM)) ⟨bK,trivial⟩⟩
 rintro⟨i,hi⟩;dsimp only
 by_cases hin:i<n
 ·have C1:=bZT En f N (p+i) most hT hm hm2
  have hb:=sY f N (p+i) hm;have e1:IntKind.i64.wrap (1+((bl f N (p+i) most:Nat):Int))=1+((bl f N (p+i) most:Nat):Int):=w64 oM oM;refine vS<|vLt jj<|vW jj<|vS<|jm jj<|vZ jj<|vS<|vV jj jj<|jm jj<|jT (fV jj jj jj jj oM jj jj)<|jS (aF jj jj aO)<|jO (fN jj jj jj aO aG)<|jn<|jr<|vV jj jj<|jS (aF jj jj aO) ?_;refine jS (bB jj jj hin (if_pos jj) uG)<|vV jj jj<|jm jj<|jT (dI (fun _=>1000) C1 ⟨⟨jj,oN⟩,jj,trivial⟩ tA jj jj jj)<|vAd jj e1<|jS (aF jj jj aO)<|jO (bX jj jj jj (by rw[zE,Nat.mul_one];exact hin) (zD hin _))<|jn<|jr<|vAd jj wO<|jm jj<|jn ?_
  refine⟨⟨i+1,oM⟩,?_,oD⟩;dsimp only;refine Sub.mv (200+i) 19 oM oM oM ⟨pM,pK,pK,⟨_,rfl,cJ oM oM,rfl,rfl,rfl,js0 rfl⟩,pK,pK,trivial⟩ ⟨BMv.out rfl oM oM uG rfl (lN oM oM oM hn8 (Fam.live fFm)),mvBx.famA fFm oM oM oM oM (fun j _ hj=>PsLe.of ?_) rfl (PsLe.of ?_) ⟨bK,trivial⟩⟩ rfl ?_
  ·by_cases h:j<i
   ·rw[bA h,bA oM]
   ·rw[bF h,bF oM]
  ·rw[bA oM]
   refine cA fun j _=>?_;unfold dgM
   by_cases h:j=i
   ·rw[if_pos h,if_pos h.symm]
   ·rw[if_neg h,if_neg fun e=>h e.symm]
  ·dsimp only
   rw[aC,if_neg oM,iM,if_neg oM,aC,if_neg oM];rfl
 ·have e:i=n:=oM
  subst e;refine vS<|vLf jj<|vU jj<|js ?_;refine WpD.sub (τ:=⟨[(7,.one (imt (dgM f N p most) i i))],[(1000,tpc f N (p+i))]⟩) (Sub.pubX 400 200 (fun a c=>[i6 (dgM f N p most a c)]) (π:=fun i=>i) (congrArg some (mQ ..)) fFm rfl oM (fun r hr=>bA hr) (fun _ _ _ _=>rfl) ⟨.inr ⟨rfl,rfl⟩,trivial⟩ ⟨.inl pQ,trivial⟩ rfl) ?_;refine kR ?_;refine jm jj<|vZ jj<|ji ?_;exact kC rfl rfl (PLe.refl _) trivial ⟨.inl pQ,trivial⟩
def tri:Nat→Nat
 |0=>0
 |i+1=>tri i+i
def gO(f:Nat→Int)(N p i j:Nat):Int:=(gt f N (p+tri i+j)).tmod 3
def gnP(f:Nat→Int)(N p n i j:Nat):Nat→Nat→Int:=fun r c=>if r=c then 1+((bl f N (p+r) 6:Nat):Int) else if c<r then(if r<i∨r=i∧c<j then gO f N (p+n) r c else 0) else(if c<i∨c=i∧r<j then gO f N (p+n) c r else 0)
def gnM(f:Nat→Int)(N p n:Nat):Nat→Nat→Int:=gnP f N p n n 0
theorem jZb (f : Nat → Int) (N p n : Nat) (hT : Tp f N) (hn8 : n ≤ 8) : FnG PZ En 55 [.ptr 1000 0, .one (i6 n)] [(1000, tpc f N p)] (.one (imt (gnM f N p n) n n)) [(1000, tpc f N (p + n + tri n))] := by
 have CD := oZU En f N p n 6 hT hn8 oM oM;refine bL Tryz.func55 rfl Tryz.ntmps55 rfl ?_;intro w0 h0 c;refine vS<|vZ jj<|vS<|vV jj jj<|RG.SW (LT.plain jj (gZY 400 200 (fun _ => 1000) CD (by exact ⟨⟨jj, oN⟩, jj, jj, trivial⟩) (by exact ⟨jj, trivial⟩) (by rfl) (by intro i hi; omega) (by rfl) (by rfl) (by rfl))) jj<|vZ jj<|js<|vS<|jm jj<|jS (cP jj CSlice.ok)<|jm jj<|jn<|jb ?_
 refine WpD.loop (α := {i : Nat // i ≤ n}) (fun i => ⟨[(0, .ptr 1000 0), (5, .own 400 0 n n), (12, .one (i6 n)), (13, .one (i6 i.1))], (400, aS (fun j => dC (200 + j) 0 n n) n) :: (rws 200 (bN (gnP f N p n i.1 0) n n) ++ [(1000, tpc f N (p + n + tri i.1))])⟩) (fun i => n - i.1) ⟨0, Nat.zero_le _⟩ ?_ ?_
 ·dsimp only
  refine Sub.mk ?_ ⟨.inl pQ, subBx.fam fFm (fun r _ => PsLe.of (congrFun (fR fun a b _ _ => ?_) r)) ⟨.inl pQ, trivial⟩⟩ (LKeep.all ⟨.inr (bI (π := fun i => i) (Fam.live fFm) oM oM), lkAll.fam rfl ⟨.inl rfl, trivial⟩⟩)
  ·repeat (first | exact trivial | refine jv rfl ?_ | refine jw rfl (js0 rfl) ?_)
  ·unfold dgM gnP
   by_cases h : a = b
   ·rw [if_pos h, if_pos h]
   ·rw [if_neg h, if_neg h]
    by_cases h4 : b < a
    ·rw [if_pos h4, if_neg oM]
    ·rw [if_neg h4, if_neg oM]
 rintro ⟨i, hi⟩;dsimp only
 by_cases hin : i < n
 ·refine vS<|vLt jj<|vW jj<|vS<|jm jj<|vZ jj<|vS<|vZ jj<|jb ?_
  refine WpD.loop (α := {j : Nat // j ≤ i}) (fun j => ⟨[(0, .ptr 1000 0), (5, .own 400 0 n n), (6, .one (i6 i)), (7, .one (i6 j.1)), (12, .one (i6 n)), (13, .one (i6 i))], (400, aS (fun j => dC (200 + j) 0 n n) n) :: (rws 200 (bN (gnP f N p n i j.1) n n) ++ [(1000, tpc f N (p + n + tri i + j.1))])⟩) (fun j => i - j.1) ⟨0, Nat.zero_le _⟩ ?_ ?_
  ·dsimp only
   exact Sub.mk sJ ⟨.inl pQ, subBx.fam fFm (fun r _ => PsLe.of rfl) ⟨.inl pQ, trivial⟩⟩ (LKeep.all ⟨.inr (bI (π := fun i => i) (Fam.live fFm) oM oM), lkAll.fam rfl ⟨.inl rfl, trivial⟩⟩)
  rintro ⟨j, hj⟩;dsimp only
  by_cases hjl : j < i
  ·have C1 := nZ6 En f N (p + n + tri i + j) hT
   have he : bN (gnP f N p n i j) n n i = aS (fun c => i6 (gnP f N p n i j i c)) n := bA hin;have hj' : j < n := oM;have ex1 : bN (gnP f N p n i j) n n j = aS (fun c => i6 (gnP f N p n i j j c)) n := bA hj';have hs1 := mW (A := gnP f N p n i j) (n := n) (m := n) (r := i) (c := j) (v := gO f N (p + n) i j) hin;have he2 : oJ (bN (gnP f N p n i j) n n) i (aS (fun c => if c = j then i6 (gO f N (p + n) i j) else i6 (gnP f N p n i j i c)) n) i = aS (fun c => i6 (upm (gnP f N p n i j) i j (gO f N (p + n) i j) i c)) n := by rw [hs1]; exact bA hin
   have he3 : oJ (bN (gnP f N p n i j) n n) i (aS (fun c => if c = j then i6 (gO f N (p + n) i j) else i6 (gnP f N p n i j i c)) n) j = aS (fun c => i6 (upm (gnP f N p n i j) i j (gO f N (p + n) i j) j c)) n := by rw [hs1]; exact bA hj'
   have hv : upm (gnP f N p n i j) i j (gO f N (p + n) i j) i j = gO f N (p + n) i j := by unfold upm; rw [if_pos ⟨rfl, rfl⟩]
   refine js<|vS<|vV jj jj<|vLt jj<|jn<|jt jj<|jp<|js<|jb<|vS<|vV jj jj<|jS (aF jj jj aO) ?_;refine jS (bB jj jj aO jj aG)<|vV jj jj<|jT (dI (fun _ => 1000) C1 ⟨⟨jj, oN⟩, trivial⟩ ⟨jj, trivial⟩ jj jj jj)<|jS (aY jj jj (fun w => cR w _ _ _ _ _ _ aW))<|jS (aF jj jj aO)<|RG.NW (LT.plain jj (gW (q := i6 (gO f N (p + n) i j)) jj jj fFm oM he hj')) jj ?_;refine jn<|jr<|vV jj jj<|jS (aF jj jj aO) ?_;refine jS (bB jj jj aO jj aG)<|vV jj jj<|jm jj<|jS (aF jj jj aO) ?_;refine jS (bB jj jj aO jj aG)<|jm jj<|jS (aF jj jj aO)<|jS (cF (r := i) jj fFm oM he2 hj') ?_;refine jS (aF jj jj aO)<|RG.NW (LT.plain jj (gW (r := j) jj jj fFm oM he3 hin)) jj ?_;refine jn<|jr<|jm jj<|vAd jj wO<|vZ jj ?_;refine ⟨⟨j + 1, oM⟩, ?_, oD⟩;dsimp only;rw [hv];refine Sub.mk ?_ ⟨.inl pQ, subBx.fam fFm (fun r _ => PsLe.of ?_) ⟨.inl pQ, trivial⟩⟩ (LKeep.all ⟨.inr (bI (π := fun i => i) (Fam.live fFm) oM oM), lkAll.fam rfl ⟨.inl rfl, trivial⟩⟩)
   ·repeat (first | exact trivial | refine jv rfl ?_ | refine jw rfl (js0 rfl) ?_)
   ·refine congrFun ((congrArg (fun F => oJ F j _) hs1).trans ((mW hj').trans (fR fun a b _ _ => ?_))) r
    unfold upm
    by_cases h1 : a = j ∧ b = i
    ·obtain ⟨rfl, rfl⟩ := h1
     rw [if_pos ⟨rfl, rfl⟩];unfold gnP;rw [if_neg oM, if_neg oM, if_pos oM]
    ·rw [if_neg h1]
     by_cases h2 : a = i ∧ b = j
     ·obtain ⟨rfl, rfl⟩ := h2
      rw [if_pos ⟨rfl, rfl⟩];unfold gnP;rw [if_neg oM, if_pos oM, if_pos oM]
     ·rw [if_neg h2]
      unfold gnP
      by_cases h3 : a = b
      ·rw [if_pos h3, if_pos h3]
      ·rw [if_neg h3, if_neg h3]
       by_cases h4 : b < a
       ·rw [if_pos h4, if_pos h4]
        by_cases h5 : a < i ∨ a = i ∧ b < j
        ·rw [if_pos h5, if_pos oM]
        ·rw [if_neg h5, if_neg oM]
       ·rw [if_neg h4, if_neg h4]
        by_cases h5 : b < i ∨ b = i ∧ a < j
        ·rw [if_pos h5, if_pos oM]
        ·rw [if_neg h5, if_neg oM]
  ·have e : j = i := oM
   subst e;refine js<|vS<|vV jj jj<|vLf jj<|jn<|jf jj<|je<|jr<|vAd jj wO<|jm jj<|jn ?_;refine ⟨⟨j + 1, oM⟩, ?_, oD⟩;dsimp only;refine Sub.mk ?_ ⟨.inl pQ, subBx.fam fFm (fun r _ => PsLe.of (congrFun (fR fun a b _ _ => ?_) r)) ⟨.inl ⟨_, rfl, PsLe.of (by rw [tri, Nat.add_assoc (p + n)])⟩, trivial⟩⟩ (LKeep.all ⟨.inr (bI (π := fun i => i) (Fam.live fFm) oM oM), lkAll.fam rfl ⟨.inl rfl, trivial⟩⟩)
   ·repeat (first | exact trivial | refine jv rfl ?_ | refine jw rfl (js0 rfl) ?_)
   ·unfold gnP
    by_cases h3 : a = b
    ·rw [if_pos h3, if_pos h3]
    ·rw [if_neg h3, if_neg h3]
     by_cases h4 : b < a
     ·rw [if_pos h4, if_pos h4]
      by_cases h5 : a < j ∨ a = j ∧ b < j
      ·rw [if_pos h5, if_pos oM]
      ·rw [if_neg h5, if_neg oM]
     ·rw [if_neg h4, if_neg h4]
      by_cases h5 : b < j ∨ b = j ∧ a < j
      ·rw [if_pos h5, if_pos oM]
      ·rw [if_neg h5, if_neg oM]
 ·have e : i = n := oM
  subst e;refine vS<|vLf jj<|vU jj<|js ?_;refine WpD.sub (τ := ⟨[(5, .one (imt (gnM f N p i) i i))], [(1000, tpc f N (p + i + tri i))]⟩) (Sub.pubX 400 200 (fun a c => [i6 (gnM f N p i a c)]) (π := fun i => i) rfl fFm rfl oM (fun r hr => bA hr) (fun _ _ _ _ => rfl) ⟨.inr ⟨rfl, rfl⟩, trivial⟩ ⟨.inl pQ, trivial⟩ rfl) ?_;refine kR ?_;refine jm jj<|vZ jj<|ji ?_;exact kC rfl rfl (PLe.refl _) trivial ⟨.inl pQ, trivial⟩
end
end
section
open Go.RowKit Limb Det
instance kb59:CBody PZ 59:=cB Tryz.func59
instance kb19:CBody PZ 19:=cB Tryz.func19
instance pZU:CRow Tryz.prog 24 4:=⟨⟨_,Tryz.underlying24,rfl,by kernel_rfl⟩⟩
instance mZM:CField Tryz.prog 24 0 0:=⟨⟨_,_,Tryz.underlying24,rfl,rfl,by kernel_rfl⟩⟩
instance mZL:CField Tryz.prog 24 1 1:=⟨⟨_,_,Tryz.underlying24,rfl,rfl,by kernel_rfl⟩⟩
instance mZK:CField Tryz.prog 24 2 2:=⟨⟨_,_,Tryz.underlying24,rfl,rfl,by kernel_rfl⟩⟩
theorem gZL:gR Tryz.prog 107 [.slice none 0 0,.int .i64 0]:=⟨by kernel_rfl,by simp[Value.oneCell']⟩
instance mZ0:CStruct Tryz.prog 107 [(0,1),(1,1)] [.slice none 0 0,.int .i64 0]:=⟨⟨gZL,_,Tryz.underlying107,fun _=>by kernel_rfl⟩⟩
instance qZl:COne Tryz.prog 5:=⟨⟨_,Tryz.underlying5,rfl,by kernel_rfl⟩⟩
def kk(n:Nat)(fork:Bool)(i:Nat):Nat:=if fork=true∧i+1=n∧3<n then i-2 else i-1
def kZ(n:Nat)(fork:Bool)(i:Nat):Int:=if i=0 then-1 else((kk n fork i:Nat):Int)
theorem jZ3{n:Nat}{fork:Bool}{i:Nat}(h:¬(fork=true∧i+1=n∧3<n)):kZ n fork i=(i:Int)-1:=by
 unfold kZ kk;rw[if_neg h];split<;>omega
theorem kZ_ye{n:Nat}{fork:Bool}{i:Nat}(h:fork=true∧i+1=n∧3<n):kZ n fork i=(i:Int)-2:=by
 unfold kZ kk;rw[if_pos h];split<;>omega
theorem kk_lt{n:Nat}{fork:Bool}{i:Nat}(h:0<i):kk n fork i<i:=by unfold kk;split<;>omega
def chM(n:Nat)(fork:Bool):Nat→Nat→Int:=fun r c=>if r=c then 2 else if c<r then(if c=kk n fork r then-1 else 0) else(if r=kk n fork c then-1 else 0)
def chP(n:Nat)(fork:Bool)(i:Nat):Nat→Nat→Int:=fun r c=>if r<i∧c<i then chM n fork r c else 0
section
variable(En:Ev)
theorem gZe(n:Nat)(fork:Bool)(hn:1≤n)(hn8:n≤8):FnG PZ En 56 ([i6 n,ex (.bool fork)].map .one) [] (.own 400 0 n n) (mbx 400 200 (fun i=>i) n n (bN (chM n fork) n n)):=by
 refine bL Tryz.func56 rfl Tryz.ntmps56 rfl ?_;intro w0 h0 c;refine vS<|vZ jj<|vS<|jm jj<|jT (fV jj jj jj jj oM jj jj)<|vZ jj<|js<|vS<|jm jj<|jS (cP jj CSlice.ok)<|jm jj<|jn<|jb ?_;refine WpD.loop (α:={i:Nat//i≤n}) (fun i=>⟨[(0,.one (i6 n)),(1,.one (ex (.bool fork))),(5,.own 400 0 n n),(11,.one (i6 n)),(12,.one (i6 i.1))],(400,aS (iZ 200 i.1 n) n)::rws 200 (bN (chP n fork i.1) i.1 n)⟩) (fun i=>n-i.1) ⟨0,Nat.zero_le _⟩ ?_ ?_
 ·dsimp only
  refine Sub.mv 400 9 oM oM oM ⟨pK,pK,⟨_,rfl,cI _ _,rfl,rfl,rfl,js0 rfl⟩,pK,pK,trivial⟩ ⟨BMv.to rfl rfl uG oM oM (congrArg some (fX [ex (.slice none 0 0)] n)) (fun i _=>⟨PLe.refl _,by unfold iZ;rw[if_neg oM];exact inferInstance⟩),mvBx.fam (fun j _=> .inl (bF oM)) trivial⟩
 rintro⟨i,hi⟩;dsimp only
 by_cases hin:i<n
 ·have e1:IntKind.i64.wrap ((i:Int)-1)=(i:Int)-1:=w64 oM oM
  refine vS<|vLt jj<|vW jj<|vS<|jm jj<|vZ jj<|vS<|vV jj jj<|jm jj<|jT (fV jj jj jj jj oM jj jj)<|jS (aF jj jj aO)<|jO (fN jj jj jj aO aG)<|vJ<|vV jj jj<|jS (aF jj jj aO) ?_;refine jS (bB jj jj hin (if_pos jj) uG)<|jm jj<|jS (aF jj jj aO)<|jO (bX jj jj jj (by rw[zE,Nat.mul_one];exact hin) (zD hin _))<|vJ<|jm jj<|vSu jj e1<|vZ jj ?_
  refine WpD.cut (α:=Unit) (fun _=>⟨[(0,.one (i6 n)),(1,.one (ex (.bool fork))),(5,.own 400 0 n n),(6,.one (i6 i)),(7,.one (i6 (kZ n fork i))),(11,.one (i6 n)),(12,.one (i6 i))],(400,aS (fun j=>if j=i then dC 18 0 n n else iZ 200 i n j) n)::(rws 200 (bN (chP n fork i) i n)++[(18,aS (fun j=>if j=i then i6 2 else i6 0) n)])⟩) ?_ ?_
  ·have hL:∀p∈aS (fun j=>if j=i then dC 18 0 n n else iZ 200 i n j) n,∀(bx:Bx),aB bx 18≠none→(∀j,j<8→aB bx (200+j)≠none)→bZL bx p:=fun p hp bx h18 hf=>by
    obtain⟨a,ha,rfl⟩:=jH hp
    by_cases h1:a=i
    ·rw[if_pos h1];exact iL h18 uG
    ·rw[if_neg h1]
     unfold iZ
     by_cases h2:a<i
     ·rw[if_pos h2];exact iL (hf a oM) uG
     ·rw[if_neg h2];exact gX
   have fin:∀(v:Int),v=kZ n fork i→∀(s:Sl),aB s 0=some (.one (i6 n))→aB s 1=some (.one (ex (.bool fork)))→aB s 5=some (.own 400 0 n n)→aB s 6=some (.one (i6 i))→aB s 7=some (.one (i6 v))→aB s 11=some (.one (i6 n))→aB s 12=some (.one (i6 i))→∀(B:Bx),aB B 400=some (aS (fun j=>if j=i then dC 18 0 n n else iZ 200 i n j) n)→Fam B 200 (bN (chP n fork i) i n)→aB B 18=some (aS (fun j=>if j=i then i6 2 else i6 0) n)→
     Sub ⟨s,B⟩ ⟨[(0,.one (i6 n)),(1,.one (ex (.bool fork))),(5,.own 400 0 n n),(6,.one (i6 i)),(7,.one (i6 (kZ n fork i))),(11,.one (i6 n)),(12,.one (i6 i))],(400,aS (fun j=>if j=i then dC 18 0 n n else iZ 200 i n j) n)::(rws 200 (bN (chP n fork i) i n)++[(18,aS (fun j=>if j=i then i6 2 else i6 0) n)])⟩:=by
    intro v hv s s0 s1 s5 s6 s7 s11 s12 B b1 b2 b3;subst hv;exact Sub.mk (jv s0 (jv s1 (jw s5 (js0 rfl) (jv s6 (jv s7 (jv s11 (jv s12 trivial))))))) ⟨.inl ⟨_,b1,PsLe.refl _⟩,subBx.fam b2 (fun _ _=>PsLe.refl _) ⟨.inl ⟨_,b3,PsLe.refl _⟩,trivial⟩⟩ (LKeep.all ⟨.inr (fun p hp=>hL p hp _ (js0 rfl) (Fam.live fFm)),lkAll.fam rfl ⟨.inl rfl,trivial⟩⟩)
   have k0:fork=false→(i:Int)-1=kZ n fork i:=fun hf=>(jZ3 (by rw[hf];simp)).symm
   cases fork with
   |false=>
    refine kR ?_;refine jm jj<|jm jj ?_;refine kG ?_;refine kG ?_;first|refine jg (aY jj jj (fun w=>eR w _ _ _ _ _ _)) ?_|refine jk ?_
    first|refine jg (aY jj jj (fun w=>iR w _ _ _ _ _ _)) ?_|refine jk ?_
    refine kH ?_;refine jm jj ?_;refine kG ?_;first|refine jg (aY jj jj (fun w=>nS w _ _ _ _ _ _)) ?_|refine jk ?_
    refine kH ?_;refine jn ?_;refine kO ?_;refine WpD.condF rfl ?_;refine kO ?_;refine WpD.skip ?_;exact⟨(),fin _ (k0 rfl) _ rfl rfl rfl rfl rfl rfl rfl _ rfl fFm rfl⟩
   |true=>
    have e2:IntKind.i64.wrap ((n:Int)-1)=(n:Int)-1:=w64 oM oM
    by_cases h1:i+1=n
    ·have b1:((i:Int)==(n:Int)-1)=true:=beqT oM
     by_cases h2:3<n
     ·have b2:decide ((n:Int)>3)=true:=decide_eq_true oM
      have e3:IntKind.i64.wrap ((i:Int)-2)=(i:Int)-2:=w64 oM oM;refine kR ?_;refine jm jj<|jm jj ?_;refine kG ?_;refine kG ?_;first|refine jg (bSu jj jj e2) ?_|refine jk ?_
      first|refine jg (bVq jj jj b1) ?_|refine jk ?_
      refine kH ?_;refine jm jj ?_;refine kG ?_;first|refine jg (bVg jj jj b2) ?_|refine jk ?_
      refine kH ?_;refine jn ?_;refine kO ?_;refine WpD.condT rfl ?_;refine kR ?_;refine jm jj<|vSu jj e3<|vZ jj ?_;exact⟨(),fin _ (kZ_ye ⟨rfl,h1,h2⟩).symm _ rfl rfl rfl rfl rfl rfl rfl _ rfl fFm rfl⟩
     ·have b2:decide ((n:Int)>3)=false:=decide_eq_false oM
      refine kR ?_;refine jm jj<|jm jj ?_;refine kG ?_;refine kG ?_;first|refine jg (bSu jj jj e2) ?_|refine jk ?_
      first|refine jg (bVq jj jj b1) ?_|refine jk ?_
      refine kH ?_;refine jm jj ?_;refine kG ?_;first|refine jg (bVg jj jj b2) ?_|refine jk ?_
      refine kH ?_;refine jn ?_;refine kO ?_;refine WpD.condF rfl ?_;refine kO ?_;refine WpD.skip ?_;exact⟨(),fin _ (jZ3 (fun h=>h2 h.2.2)).symm _ rfl rfl rfl rfl rfl rfl rfl _ rfl fFm rfl⟩
    ·have b1:((i:Int)==(n:Int)-1)=false:=beqF oM
     refine kR ?_;refine jm jj<|jm jj ?_;refine kG ?_;refine kG ?_;first|refine jg (bSu jj jj e2) ?_|refine jk ?_
     first|refine jg (bVq jj jj b1) ?_|refine jk ?_
     refine kH ?_;refine jm jj ?_;refine kG ?_;first|refine jg (aY jj jj (fun w=>nS w _ _ _ _ _ _)) ?_|refine jk ?_
     refine kH ?_;refine jn ?_;refine kO ?_;refine WpD.condF rfl ?_;refine kO ?_;refine WpD.skip ?_;exact⟨(),fin _ (jZ3 (fun h=>h1 h.2.1)).symm _ rfl rfl rfl rfl rfl rfl rfl _ rfl fFm rfl⟩
  rintro⟨⟩;skip
  skip
  by_cases h0:i=0
  ·have b1:decide (kZ n fork i≥0)=false:=decide_eq_false (by unfold kZ;rw[if_pos h0];omega)
   refine kR ?_;refine jm jj<|jS (bVh jj jj b1)<|jn<|jf jj<|jp<|jr<|vAd jj wO<|jm jj<|jn ?_;refine⟨⟨i+1,oM⟩,?_,oD⟩;dsimp only;refine Sub.mv (200+i) 18 oM oM oM ⟨pK,pK,⟨_,rfl,cJ oM oM,rfl,rfl,rfl,js0 rfl⟩,pK,pK,trivial⟩ ⟨BMv.out rfl oM oM uG rfl (lN oM oM oM hn8 (Fam.live fFm)),mvBx.famA fFm oM oM oM oM (fun j _ hj=>PsLe.of ?_) rfl (PsLe.of ?_) trivial⟩ rfl ?_
   ·rw[bF oM,bF oM]
   ·rw[bA oM]
    refine cA fun j hj=>?_;unfold chP
    by_cases h:j=i
    ·rw[if_pos h,if_pos (show i<i+1∧j<i+1 by omega)]
     unfold chM;rw[if_pos h.symm]
    ·rw[if_neg h,if_neg (show ¬(i<i+1∧j<i+1) by omega)]
   ·dsimp only
    rw[aC,if_neg oM,kN,if_neg oM];rfl
  ·have hkz:kZ n fork i=((kk n fork i:Nat):Int):=by unfold kZ;rw[if_neg h0]
   have hki:=kk_lt (n:=n) (fork:=fork) (show 0<i by omega)
   rw[hkz];generalize hk:kk n fork i=k at*;have hkn:k<n:=oM;have hgk:(fun j=>if j=i then dC 18 0 n n else iZ 200 i n j) k=dC (200+k) 0 n n:=by
    dsimp only;rw[if_neg oM];unfold iZ;rw[if_pos hki]
   have he:bN (chP n fork i) i n k=aS (fun c=>i6 (chP n fork i k c)) n:=bA hki;refine kR ?_;refine jm jj<|jS (bHt jj jj)<|jn<|jt jj<|jr<|vV jj jj<|jS (aF jj jj aO) ?_;refine jS (bB jj jj hin (if_pos jj) uG)<|vV jj jj<|jm jj<|jS (aF jj jj aO) ?_;refine jS (bB jj jj hkn hgk uG)<|jm jj<|jS (aF jj jj aO)<|jO (bX jj jj jj (by rw[eG,Nat.mul_one];exact hkn) (Eq.trans (by rw[Nat.mul_one]) (nB hkn)))<|jS (aF jj jj aO)<|RG.NW (LT.plain jj (gW jj jj fFm oM he hin)) jj ?_
   refine jn<|jr<|vAd jj wO<|jm jj<|jn ?_;refine⟨⟨i+1,oM⟩,?_,oD⟩;dsimp only;refine Sub.mv (200+i) 18 oM oM oM ⟨pK,pK,⟨_,rfl,cJ oM oM,rfl,rfl,rfl,js0 rfl⟩,pK,pK,trivial⟩ ⟨BMv.out rfl oM oM uG rfl (lN oM oM oM hn8 (Fam.live fFm)),mvBx.famA fFm oM oM oM oM (fun j _ hj=>PsLe.of ?_) rfl (PsLe.of ?_) trivial⟩ rfl ?_
   ·by_cases hjk:j=k
    ·subst hjk
     rw[nN,bA oM];refine cA fun c hc=>?_;unfold chP
     by_cases h:c=i
     ·rw[if_pos h,if_pos (show j<i+1∧c<i+1 by omega)]
      unfold chM;rw[if_neg oM,if_neg oM,h,if_pos hk.symm]
     ·rw[if_neg h]
      by_cases h2:c<i
      ·rw[if_pos ⟨hki,h2⟩,if_pos (show j<i+1∧c<i+1 by omega)]
      ·rw[if_neg oM,if_neg oM]
    ·rw[pL hjk]
     by_cases h:j<i
     ·rw[bA h,bA oM]
      refine cA fun c hc=>?_;unfold chP
      by_cases h2:c<i
      ·rw[if_pos ⟨h,h2⟩,if_pos oM]
      ·rw[if_neg oM]
       by_cases h3:c=i
       ·rw[if_pos oM]
        unfold chM;rw[if_neg oM,if_neg oM,h3,hk,if_neg hjk]
       ·rw[if_neg oM]
     ·rw[bF h,bF oM]
   ·rw[bA oM]
    refine cA fun j hj=>?_;unfold chP
    by_cases h1:j=k
    ·rw[if_pos h1,if_pos (show i<i+1∧j<i+1 by omega)]
     unfold chM;rw[if_neg oM,if_pos oM,hk,if_pos h1]
    ·rw[if_neg h1]
     by_cases h:j=i
     ·rw[if_pos h,if_pos (show i<i+1∧j<i+1 by omega)]
      unfold chM;rw[if_pos h.symm]
     ·rw[if_neg h]
      by_cases h2:j<i
      ·rw[if_pos (show i<i+1∧j<i+1 by omega)]
       unfold chM;rw[if_neg oM,if_pos h2,hk,if_neg h1]
      ·rw[if_neg oM]
   ·dsimp only
    rw[aC,if_neg oM,kN,if_neg oM];rfl
 ·have e:i=n:=oM
  subst e;refine vS<|vLf jj<|vU jj<|vS<|jm jj<|vZ jj<|ji ?_;refine kC rfl rfl (SLe.rfl' _) (js0 rfl) ⟨.inl ⟨_,rfl,PsLe.of (mQ ..)⟩,subBx.fam fFm (fun r _=>PsLe.of (congrFun (fR fun a b h1 h2=>?_) r)) trivial⟩ (LKeep.all ⟨.inr (bI (Fam.live fFm) oM oM),lkAll.fam rfl trivial⟩);unfold chP;rw[if_pos ⟨h1,h2⟩]
structure Sb(A:Nat→Nat→Int)(n:Nat):Prop where
 lo:∀i j,i<n→j<n→-15≤A i j
 hi:∀i j,i<n→j<n→A i j≤15
 sy:∀i j,i<n→j<n→A i j=A j i
theorem Sb.zl{A:Nat→Nat→Int}{n:Nat}(h:Sb A n):ZL A n n 2:=fun i j hi hj=>dL (by have:=h.lo i j hi hj;omega) (by have:=h.hi i j hi hj;omega)
theorem Sb.i64{A:Nat→Nat→Int}{n:Nat}(h:Sb A n):∀i j,i<n→j<n→I64 (A i j):=fun i j hi hj=>⟨by have:=h.lo i j hi hj;omega,by have:=h.hi i j hi hj;omega⟩
def aZU(A:Nat→Nat→Int)(n:Nat):Bool:=bZG A n&&decide (det n A≤10000)
theorem mZ9(x y:Int):decide (gJ x y≤0)=decide (x≤y):=by
 unfold gJ
 by_cases h:x<y
 ·rw[if_pos h,decide_eq_true (p:=x≤y) oM];rfl
 ·rw[if_neg h]
  by_cases h2:y<x
  ·rw[if_pos h2,decide_eq_false (p:=x≤y) oM];rfl
  ·rw[if_neg h2,decide_eq_true (p:=x≤y) oM];rfl
theorem mgood(A:Nat→Nat→Int)(n:Nat)(hn:1≤n)(hn8:n≤8)(hA:Sb A n):Fn PZ En 59 [imt A n n] (ex (.bool (aZU A n))):=by
 have C1:=mof En A n n hn hn8 hn hn8 hA.i64;have C2:=aZH En A n 2 hn hn8 oM hA.zl hA.sy;have C3:=jZd En A n 2 hn hn8 oM hA.zl;have C4:=iH En 10000 oM oM;have z1:zl (det n A)≤9*2+82:=mD oM hA.zl;have z2:zl 10000≤2:=dL oM oM;have C5:=kZt En (det n A) 10000 oM oM;unfold aZU;cases hp:bZG A n with
 |true=>
  rw[hp] at C2;have b1:((bif true then(0:Int) else 5)==0)=true:=rfl;refine aA Tryz.func59 rfl Tryz.ntmps59 rfl ?_;intro w0 h0;refine vS<|vZ jj<|vS<|jm jj<|vC C1 tA<|vZ jj<|vS<|jm jj<|vC C2 tA<|jS (bVq jj jj b1)<|jm jj<|jgm jj<|jg (aQ C3 tA)<|jg (aQ C4 tA)<|jg (aQ C5 tB)<|jg (bVe jj jj (mZ9 _ _))<|vq jj<|vZ jj<|ji ?_;exact rtT rfl jj
 |false=>
  rw[hp] at C2;have b1:((bif false then(0:Int) else 5)==0)=false:=rfl;refine aA Tryz.func59 rfl Tryz.ntmps59 rfl ?_;intro w0 h0;refine vS<|vZ jj<|vS<|jm jj<|vC C1 tA<|vZ jj<|vS<|jm jj<|vC C2 tA<|jS (bVq jj jj b1)<|jm jj<|jk<|jk<|jk<|jk<|jk<|vQ jj<|vZ jj<|ji ?_;exact rtT rfl jj
def cand(f:Nat→Int)(N n:Nat):Nat→(Nat→Nat→Int)×Nat
 |0=>(gnM f N 0 n,0+n+tri n)
 |1=>(gnM f N 0 n,0+n+tri n)
 |2=>(gnM f N 0 n,0+n+tri n)
 |3=>(gnM f N 0 n,0+n+tri n)
 |4=>(upm (chM n false) 0 0 (2+((bl f N 0 3:Nat):Int)),0+1)
 |5=>(upm (chM n true) (n-1) (n-1) (2+((bl f N 0 2:Nat):Int)),0+1)
 |6=>(dgM f N 0 9,0+n)
 |_=>(dgM f N 0 1,0+n)
theorem nZD{f:Nat→Int}{N:Nat}(p i j:Nat): -3≤gO f N p i j∧gO f N p i j≤3:=by
 unfold gO;have h1:=Int.tmod_lt_of_pos (gt f N (p+tri i+j)) (show(0:Int)<3 by omega)
 have h2:=Int.lt_tmod_of_pos (gt f N (p+tri i+j)) (show(0:Int)<3 by omega)
 omega
theorem Sb.gn(f:Nat→Int)(N p n:Nat):Sb (gnM f N p n) n:=by
 have key:∀i j,-15≤gnM f N p n i j∧gnM f N p n i j≤15:=fun i j=>by
  unfold gnM gnP;have h1:=sY f N (p+i) (show 1≤6 by omega)
  have h2:=nZD (f:=f) (N:=N) (p+n) i j;have h3:=nZD (f:=f) (N:=N) (p+n) j i;split<;>(try split)<;>(try split)<;>omega
 refine⟨fun i j _ _=>(key i j).1,fun i j _ _=>(key i j).2,fun i j _ _=>?_⟩;unfold gnM gnP
 by_cases h:i=j
 ·subst h;rfl
 ·rw[if_neg h,if_neg (show ¬j=i from fun e=>h e.symm)]
  by_cases h2:j<i
  ·rw[if_pos h2,if_neg (show ¬i<j by omega)]
  ·rw[if_neg h2,if_pos (show i<j by omega)]
theorem Sb.dg(f:Nat→Int)(N p n most:Nat)(h:1≤most)(h2:most≤14):Sb (dgM f N p most) n:=by
 refine⟨fun i j _ _=>?_,fun i j _ _=>?_,fun i j _ _=>?_⟩
 ·unfold dgM;split<;>omega
 ·have:=sY f N (p+i) h
  unfold dgM;split<;>omega
 ·unfold dgM
  by_cases e:i=j
  ·subst e;rfl
  ·rw[if_neg e,if_neg fun h=>e h.symm]
theorem Sb.ch(n:Nat)(fork:Bool)(r:Nat)(v:Int)(h1:0≤v)(h2:v≤15):Sb (upm (chM n fork) r r v) n:=by
 have key:∀i j,-15≤chM n fork i j∧chM n fork i j≤15:=fun i j=>by unfold chM;split<;>(try split)<;>(try split)<;>omega
 refine⟨fun i j _ _=>?_,fun i j _ _=>?_,fun i j _ _=>?_⟩
 ·unfold upm;split;omega;exact(key i j).1
 ·unfold upm;split;omega;exact(key i j).2
 ·unfold upm
  by_cases e:i=r∧j=r
  ·rw[if_pos e,if_pos ⟨e.2,e.1⟩]
  ·rw[if_neg e,if_neg fun h=>e ⟨h.2,h.1⟩]
   unfold chM
   by_cases e2:i=j
   ·subst e2;rfl
   ·rw[if_neg e2,if_neg (show ¬j=i from fun h=>e2 h.symm)]
    by_cases h3:j<i
    ·rw[if_pos h3,if_neg (show ¬i<j by omega)]
    ·rw[if_neg h3,if_pos (show i<j by omega)]
theorem Sb.cand(f:Nat→Int)(N n q:Nat):Sb (cand f N n q).1 n:=by
 have h1:=sY f N 0 (show 1≤3 by omega)
 have h2:=sY f N 0 (show 1≤2 by omega)
 unfold Go.Proofs.YtfmjdlogjmofbaaGreatDoor.cand;split
 ·exact Sb.gn ..
 ·exact Sb.gn ..
 ·exact Sb.gn ..
 ·exact Sb.gn ..
 ·exact Sb.ch _ _ _ _ oM oM
 ·exact Sb.ch _ _ _ _ oM oM
 ·exact Sb.dg _ _ _ _ _ oM oM
 ·exact Sb.dg _ _ _ _ _ oM oM
theorem dZO:∀{n:Nat} {D:Nat→Int} {A:Mx},(∀i j,i<n→j<n→A i j=if i=j then D i else 0)→(∀i,i<n→1≤D i∧D i≤2)→0<det n A∧det n A≤2^n
 |0,_,A,_,_=>by show(0:Int)<1∧(1:Int)≤2^0;decide
 |n+1,D,A,h,hD=>by
  have e:det (n+1) A=A 0 0*det n (mn 0 A):=by
   show sm (fun i=>sg i*A i 0*det n (mn i A)) (n+1)=_
   rw[bZx (k:=0) oM fun i hi hne=>by rw[h i 0 hi oM,if_neg hne];simp]
   show 1*A 0 0*_=_
   rw[Int.one_mul]
  obtain⟨h1,h2⟩:=dZO (n:=n) (D:=fun i=>D (i+1)) (A:=mn 0 A) (fun i j hi hj=>by
   show A (sk 0 i) (j+1)=_
   rw[nQ,h _ _ oM oM]
   by_cases e:i=j
   ·rw[if_pos e,if_pos oM]
   ·rw[if_neg e,if_neg oM]) (fun i hi=>hD (i+1) oM)
  have h3:=hD 0 oM;have h4:A 0 0=D 0:=by rw[h 0 0 oM oM,if_pos rfl]
  rw[e,h4];have h5:(2:Int)^(n+1)=2^n*2:=Int.pow_succ ..;rcases(show D 0=1∨D 0=2 by omega) with e1|e1<;>rw[e1]<;>omega
theorem hZy(f:Nat→Int)(N p n:Nat)(hn:n≤8):(∀k,k<n→0<det (k+1) (dgM f N p 2))∧det n (dgM f N p 2)≤10000:=by
 have key:∀k,k≤8→0<det k (dgM f N p 2)∧det k (dgM f N p 2)≤2^k:=fun k _=>dZO (D:=fun i=>1+((bl f N (p+i) 2:Nat):Int)) (fun i j _ _=>rfl) fun i _=>by have:=sY f N (p+i) (show 1≤2 by omega);omega
 refine⟨fun k hk=>(key (k+1) oM).1,?_⟩;have h1:=(key n hn).2;have h2:(2:Int)^n≤2^8:=by
  have:=Nat.pow_le_pow_right (show 0<2 by omega) hn
  exact_mod_cast this
 have h3:(2:Int)^8=256:=by decide
 omega
structure Gm(G:Nat→Nat→Int)(n:Nat):Prop where
 n1:1≤n
 n7:n≤7
 sb:Sb G n
 pos:∀k,k<n→0<det (k+1) G
 top:det n G≤10000
def zI(f:Nat→Int)(N n q:Nat):Nat→Nat→Int:=if aZU (cand f N n q).1 n=true then(cand f N n q).1 else dgM f N (cand f N n q).2 2
theorem Gm.gram(f:Nat→Int)(N n q:Nat)(h1:1≤n)(h7:n≤7):Gm (zI f N n q) n:=by
 unfold zI
 by_cases h:aZU (Go.Proofs.YtfmjdlogjmofbaaGreatDoor.cand f N n q).1 n=true
 ·rw[if_pos h]
  unfold aZU bZG at h;rw[Bool.and_eq_true] at h;exact⟨h1,h7,Sb.cand ..,of_decide_eq_true h.1,of_decide_eq_true h.2⟩
 ·rw[if_neg h]
  obtain⟨g1,g2⟩:=hZy f N (Go.Proofs.YtfmjdlogjmofbaaGreatDoor.cand f N n q).2 n oM;exact⟨h1,h7,Sb.dg _ _ _ _ _ oM oM,g1,g2⟩
def jZ0(dim kind:Nat)(f:Nat→Int)(N:Nat)(f':Nat→Int)(N':Nat):Pd:=cD [ex (.int .u8 (dim:Int)),ex (.int .u8 (kind:Int)),tpL f N,tpL f' N']
end
end
section
open Go.RowKit Limb Det
section
variable(En:Ev)
theorem mgram(dim kind:Nat)(f:Nat→Int)(N:Nat)(f':Nat→Int)(N':Nat)(hT:Tp f N)(hd:dim<256):Fn PZ En 19 [jZ0 dim kind f N f' N',i6 7] (imt (zI f N (1+dim%7) (kind%8)) (1+dim%7) (1+dim%7)):=by
 have hn7:1+dim%7≤7:=oM;have hn1:1≤1+dim%7:=oM;have e1:IntKind.i64.wrap (dim:Int)=(dim:Int):=w64 oM oM;have e2:((dim:Int)).tmod 7=((dim%7:Nat):Int):=by rw[show(7:Int)=((7:Nat):Int) from rfl,←Int.ofNat_tmod]
 have e3:IntKind.i64.wrap (1+((dim%7:Nat):Int))=((1+dim%7:Nat):Int):=by rw[w64 oM oM];omega
 have e4:((kind:Int)).tmod 8=((kind%8:Nat):Int):=by rw[show(8:Int)=((8:Nat):Int) from rfl,←Int.ofNat_tmod]
 unfold zI;generalize hn:1+dim%7=n at*;generalize hq:kind%8=q at*;have hq8:q<8:=oM;have hsb:=Sb.cand f N n q;have CG:=mgood En (cand f N n q).1 n hn1 oM hsb;have C2:=jZc En f N (cand f N n q).2 n 2 hT oM oM oM;refine aA Tryz.func19 rfl Tryz.ntmps19 rfl ?_;intro w0 h0;refine vS<|vB jj<|vZ jj<|vS<|vX jj<|jS (aU (ps:=[(_,_)]) ⟨jj,Part.c jj,trivial⟩ jj)<|vB jj<|vZ jj<|vS<|vX jj<|jS (bCv jj e1)<|jm jj<|jS (bRe jj jj e2)<|vAd jj e3<|vZ jj<|vS<|vZ jj ?_;refine WpD.cut (α:=Unit) (fun _=>⟨[(5,.ptr 11 0),(6,.one (i6 n)),(7,.one (imt (cand f N n q).1 n n))],[(11,tpc f N (cand f N n q).2)]⟩) ?_ ?_
 ·have e0:(0:Int)=((min 0 N:Nat):Int):=by simp
  have CGN:=jZb En f N 0 n hT oM;have CD9:=jZc En f N 0 n 9 hT oM oM oM;have CD1:=jZc En f N 0 n 1 hT oM oM oM;have CB3:=bZT En f N 0 3 hT oM oM;have CB2:=bZT En f N 0 2 hT oM oM;have CF:=gZe En n false hn1 oM;have CT:=gZe En n true hn1 oM;refine WpD.sub (τ:=⟨[(2,.ptr 2 0),(5,.ptr 11 0),(6,.one (i6 n))],[(2,[ex (.int .u8 (dim:Int)),ex (.int .u8 (kind:Int)),tpL f N,tpL f' N']),(11,tpc f N 0)]⟩) ?_ ?_
  ·exact Sub.mk ⟨⟨_,rfl,SLe.rfl' _⟩,js0 rfl,⟨_,rfl,SLe.rfl' _⟩,js0 rfl,pK,trivial,trivial⟩ ⟨.inl pQ,.inl ⟨_,rfl,⟨PLe.refl _,fun h v hv=>by show v=_;rw[←e0];exact hv,trivial⟩⟩,trivial⟩
  rcases(show q=0∨q=1∨q=2∨q=3∨q=4∨q=5∨q=6∨q=7 by omega) with h|h|h|h|h|h|h|h
  ·subst h
   refine kR ?_;refine vX jj<|jS (bRe jj jj e4)<|jn<|jb<|js<|vS<|vEt jj<|vZ jj<|jt jj<|jp<|jt jj<|jr<|vV jj jj<|jT (dI (fun _=>11) CGN ⟨⟨jj,oN⟩,jj,trivial⟩ tA jj jj jj)<|vZ jj ?_;refine⟨(),?_⟩;exact Sub.mk sJ sJ
  ·subst h
   refine kR ?_;refine vX jj<|jS (bRe jj jj e4)<|jn<|jb<|js<|vS<|vEf jj<|vZ jj<|jf jj<|vS<|vEt jj<|vZ jj<|jt jj<|jp<|jt jj<|jr<|vV jj jj<|jT (dI (fun _=>11) CGN ⟨⟨jj,oN⟩,jj,trivial⟩ tA jj jj jj)<|vZ jj ?_;refine⟨(),?_⟩;exact Sub.mk sJ sJ
  ·subst h
   refine kR ?_;refine vX jj<|jS (bRe jj jj e4)<|jn<|jb<|js<|vS<|vEf jj<|vZ jj<|jf jj<|vS<|vEf jj<|vZ jj<|jf jj<|vS<|vEt jj<|vZ jj<|jt jj<|jp<|jt jj<|jr<|vV jj jj<|jT (dI (fun _=>11) CGN ⟨⟨jj,oN⟩,jj,trivial⟩ tA jj jj jj)<|vZ jj ?_;refine⟨(),?_⟩;exact Sub.mk sJ sJ
  ·subst h
   refine kR ?_;refine vX jj<|jS (bRe jj jj e4)<|jn<|jb<|js<|vS<|vEf jj<|vZ jj<|jf jj<|vS<|vEf jj<|vZ jj<|jf jj<|vS<|vEf jj<|vZ jj<|jf jj<|jr<|vEt jj<|vZ jj<|jt jj<|jr<|vV jj jj<|jT (dI (fun _=>11) CGN ⟨⟨jj,oN⟩,jj,trivial⟩ tA jj jj jj)<|vZ jj ?_;refine⟨(),?_⟩;exact Sub.mk sJ sJ
  ·subst h
   have hc:chM n false 0 0=2:=if_pos rfl;have hb:=sY f N 0 (show 1≤3 by omega)
   have e5:IntKind.i64.wrap (chM n false 0 0+((bl f N 0 3:Nat):Int))=2+((bl f N 0 3:Nat):Int):=by rw[hc,w64 oM oM]
   have h0:0<n:=oM;have he:bN (chM n false) n n 0=aS (fun c=>i6 (chM n false 0 c)) n:=bA h0;refine kR ?_;refine vX jj<|jS (bRe jj jj e4)<|jn<|jb<|js<|vS<|vEf jj<|vZ jj<|jf jj<|vS<|vEf jj<|vZ jj<|jf jj<|vS<|vEf jj<|vZ jj<|jf jj<|jr<|vEf jj<|vZ jj<|jf jj<|vS<|vEt jj<|vZ jj<|jt jj<|vS<|jm jj<|RG.SW (LT.plain jj (lA 400 200 CF tB (by intro i hi;omega) jj)) jj<|vZ jj ?_
   refine jr<|jm jj<|jS (aF (i:=0) jj jj aO) ?_;refine jS (bB jj jj aO jj aG)<|jS (aF (i:=0) jj jj aO)<|jS (cF (r:=0) (c:=0) jj fFm oM he h0) ?_;refine jm jj<|jT (dI (fun _=>11) CB3 ⟨⟨jj,oN⟩,jj,trivial⟩ tA jj jj jj)<|vAd jj e5<|jS (aF (i:=0) jj jj aO)<|RG.NW (LT.plain jj (gW (r:=0) (c:=0) jj jj fFm oM he h0)) jj ?_;refine jn ?_;refine⟨(),Sub.pubX 400 200 (fun a c=>[i6 (upm (chM n false) 0 0 (2+((bl f N 0 3:Nat):Int)) a c)]) (π:=fun i=>i) rfl fFm rfl oM (fun r hr=>(congrFun (mW h0) r).trans (bA hr)) (fun _ _ _ _=>rfl) ⟨.inl ⟨⟨_,rfl,SLe.rfl' _⟩,js0 rfl⟩,.inl ⟨pK,trivial⟩,.inr ⟨rfl,rfl⟩,trivial⟩ ⟨.inl pQ,trivial⟩ rfl⟩
  ·subst h
   have hc:chM n true (n-1) (n-1)=2:=if_pos rfl;have hb:=sY f N 0 (show 1≤2 by omega)
   have e5:IntKind.i64.wrap (chM n true (n-1) (n-1)+((bl f N 0 2:Nat):Int))=2+((bl f N 0 2:Nat):Int):=by rw[hc,w64 oM oM]
   have e6:=wM n oM;have h0:n-1<n:=oM;have he:bN (chM n true) n n (n-1)=aS (fun c=>i6 (chM n true (n-1) c)) n:=bA h0;refine kR ?_;refine vX jj<|jS (bRe jj jj e4)<|jn<|jb<|js<|vS<|vEf jj<|vZ jj<|jf jj<|vS<|vEf jj<|vZ jj<|jf jj<|vS<|vEf jj<|vZ jj<|jf jj<|jr<|vEf jj<|vZ jj<|jf jj<|vS<|vEf jj<|vZ jj<|jf jj<|vS<|vEt jj<|vZ jj ?_;refine jt jj<|vS<|jm jj<|RG.SW (LT.plain jj (lA 400 200 CT tB (by intro i hi;omega) jj)) jj<|vZ jj<|jr<|vV jj jj<|vSu jj e6<|jS (aF jj jj aO) ?_
   refine jS (bB jj jj aO jj aG)<|jm jj<|vSu jj e6<|jS (aF jj jj aO)<|jS (cF (r:=n-1) (c:=n-1) jj fFm oM he h0) ?_;refine jm jj<|jT (dI (fun _=>11) CB2 ⟨⟨jj,oN⟩,jj,trivial⟩ tA jj jj jj)<|vAd jj e5<|jS (aF jj jj aO)<|RG.NW (LT.plain jj (gW (r:=n-1) (c:=n-1) jj jj fFm oM he h0)) jj ?_;refine jn ?_;refine⟨(),Sub.pubX 400 200 (fun a c=>[i6 (upm (chM n true) (n-1) (n-1) (2+((bl f N 0 2:Nat):Int)) a c)]) (π:=fun i=>i) rfl fFm rfl oM (fun r hr=>(congrFun (mW h0) r).trans (bA hr)) (fun _ _ _ _=>rfl) ⟨.inl ⟨⟨_,rfl,SLe.rfl' _⟩,js0 rfl⟩,.inl ⟨pK,trivial⟩,.inr ⟨rfl,rfl⟩,trivial⟩ ⟨.inl pQ,trivial⟩ rfl⟩
  ·subst h
   refine kR ?_;refine vX jj<|jS (bRe jj jj e4)<|jn<|jb<|js<|vS<|vEf jj<|vZ jj<|jf jj<|vS<|vEf jj<|vZ jj<|jf jj<|vS<|vEf jj<|vZ jj<|jf jj<|jr<|vEf jj<|vZ jj<|jf jj<|vS<|vEf jj<|vZ jj<|jf jj<|vS<|vEf jj<|vZ jj ?_;refine jf jj<|vS<|vEt jj<|vZ jj<|jt jj<|jr<|vV jj jj<|jT (dI (fun _=>11) CD9 ⟨⟨jj,oN⟩,jj,jj,trivial⟩ tA jj jj jj)<|vZ jj ?_;refine⟨(),?_⟩;exact Sub.mk sJ sJ
  ·subst h
   refine kR ?_;refine vX jj<|jS (bRe jj jj e4)<|jn<|jb<|js<|vS<|vEf jj<|vZ jj<|jf jj<|vS<|vEf jj<|vZ jj<|jf jj<|vS<|vEf jj<|vZ jj<|jf jj<|jr<|vEf jj<|vZ jj<|jf jj<|vS<|vEf jj<|vZ jj<|jf jj<|vS<|vEf jj<|vZ jj ?_;refine jf jj<|vS<|vEf jj<|vZ jj<|jf jj<|jr<|vV jj jj<|jT (dI (fun _=>11) CD1 ⟨⟨jj,oN⟩,jj,jj,trivial⟩ tA jj jj jj)<|vZ jj ?_;refine⟨(),?_⟩;exact Sub.mk sJ sJ
 rintro⟨⟩
 by_cases hg:aZU (cand f N n q).1 n=true
 ·rw[if_pos hg]
  rw[hg] at CG;refine kR ?_;refine jm jj<|vC CG tA<|jS (bNo jj)<|jn<|jf jj<|jp<|vS<|jm jj<|vZ jj<|ji ?_;exact rtT rfl jj
 ·rw[if_neg hg]
  rw[Bool.not_eq_true] at hg;rw[hg] at CG;refine kR ?_;refine jm jj<|vC CG tA<|jS (bNo jj)<|jn<|jt jj<|vS<|vV jj jj<|jT (dI (fun _=>11) C2 ⟨⟨jj,oN⟩,jj,jj,trivial⟩ tA jj jj jj)<|vZ jj<|ji ?_;exact rtT rfl jj
end
end
section
open Go.RowKit Limb Det
def aZh(G:Nat→Nat→Int)(n:Nat):Nat→Nat→Int:=fun r c=>if r<n∧c<n then G r c else 0
theorem wP{G:Nat→Nat→Int}{n r c:Nat}(hr:r<n)(hc:c<n):aZh G n r c=G r c:=if_pos ⟨hr,hc⟩
theorem dZN{G:Nat→Nat→Int}{n k:Nat}(hk:k≤n):det k (aZh G n)=det k G:=cG fun r c hr hc=>wP oM oM
def gZt(f:Nat→Int)(N n q:Nat):Nat→Nat→Int:=redH (aZh (zI f N n q) n) n
structure Fm(n:Nat)(H:Nat→Nat→Int):Prop where
 n1:1≤n
 n7:n≤7
 sy:Sym H
 po:Pos n H
 dn:det n H≤10000
 en:∀i j,i<n→j<n→-2147483648≤H i j∧H i j≤2147483648
theorem Gm.symm{G:Nat→Nat→Int}{n:Nat}(h:Gm G n):Sym (aZh G n)∧Pos n (aZh G n)∧(∀r,r<n→aZh G n r r≤15)∧det n (aZh G n)≤10000∧ZL (aZh G n) n n 2:=by
 refine⟨fun r c=>?_,fun k hk=>?_,fun r hr=>?_,?_,fun i j hi hj=>?_⟩
 ·unfold aZh
  by_cases e:r<n∧c<n
  ·rw[if_pos e,if_pos ⟨e.2,e.1⟩,h.sb.sy r c e.1 e.2]
  ·rw[if_neg e,if_neg fun g=>e ⟨g.2,g.1⟩]
 ·rw[dZN hk]
  cases k with
  |zero=>show(0:Int)<1;omega
  |succ k=>exact h.pos k oM
 ·rw[wP hr hr];exact h.sb.hi r r hr hr
 ·rw[dZN (Nat.le_refl n)];exact h.top
 ·rw[wP hi hj];exact h.sb.zl i j hi hj
theorem mZh(f:Nat→Int)(N n q:Nat)(h1:1≤n)(h7:n≤7):Fm n (gZt f N n q):=by
 obtain⟨a,b,c,d,_⟩:=(Gm.gram f N n q h1 h7).symm;have h:=qU (Rv.start h7 a b c);exact⟨h1,h7,h.sy,h.po,by show det n (iF _ _ _ _).1≤_;rw[h.dn];exact d,h.en⟩
instance kb17:CBody PZ 17:=cB Tryz.func17
instance kb5:CBody PZ 5:=cB Tryz.func5
section
variable(En:Ev)
theorem mform(dim kind:Nat)(f:Nat→Int)(N:Nat)(f':Nat→Int)(N':Nat)(hT:Tp f N)(hd:dim<256):Fn PZ En 5 [jZ0 dim kind f N f' N',i6 7] (imt (gZt f N (1+dim%7) (kind%8)) (1+dim%7) (1+dim%7)):=by
 have C1:=mgram En dim kind f N f' N' hT hd;have hn7:1+dim%7≤7:=oM;have hn1:1≤1+dim%7:=oM;unfold gZt;generalize 1+dim%7=n at*;generalize kind%8=q at*;have hG:=Gm.gram f N n q hn1 hn7;obtain⟨a,b,c,d,e⟩:=hG.symm;have C2:=mof En (zI f N n q) n n hn1 oM hn1 oM hG.sb.i64;rw[pI (B:=aZh (zI f N n q) n) fun i j hi hj=>(wP hi hj).symm] at C2;have C3:=lZG En _ n hn1 hn7 a b c d e;refine aA Tryz.func5 rfl Tryz.ntmps5 rfl ?_;intro w0 h0;refine vS<|vB jj<|vZ jj<|vS<|vL jj<|jm jj<|vC C1 ⟨jj,jj,trivial⟩<|vC C2 ⟨jj,trivial⟩<|vC C3 ⟨jj,trivial⟩<|jm jj<|vE jj<|vE jj<|vE jj<|ja jj<|ja jj<|vZ jj<|vS<|jm jj<|vZ jj<|ji ?_;exact rtT rfl jj
end
end
end Go.Proofs.YtfmjdlogjmofbaaGreatDoor

/- Matrices of the call's own: rows in a family, a box that names them. For any program. -/
import Derived.Test.YtfmjdlogjmofbaaGreatDoorK
import Derived.Test.YtfmjdlogjmofbaaGreatDoorN
import Derived.Test.YtfmjdlogjmofbaaGreatDoorJ
import Derived.Test.YtfmjdlogjmofbaaGreatDoorV
import Derived.Test.YtfmjdlogjmofbaaGreatDoorW
set_option maxHeartbeats 4000000
set_option maxRecDepth 3000
namespace Go.Proofs.YtfmjdlogjmofbaaGreatDoor
section
open Go.RowKit Limb
def rowL(e:Nat→List Pd):Nat→List Pd
 |0=>[]
 |m+1=>rowL e m++e m
theorem cX{e:Nat→List Pd}{k:Nat}:∀{m:Nat},(∀c,c<m→(e c).length=k)→(rowL e m).length=m*k
 |0,_=>by simp[rowL]
 |m+1,h=>by rw[rowL,List.length_append,cX fun c hc=>h c oM,h m oM,Nat.succ_mul]
theorem cY{e e':Nat→List Pd}:∀{m:Nat},(∀c,c<m→e c=e' c)→rowL e m=rowL e' m
 |0,_=>rfl
 |m+1,h=>by rw[rowL,rowL,cY fun c hc=>h c oM,h m oM]
theorem fY{e:Nat→List Pd}{k:Nat}:∀{m c:Nat},(∀c,c<m→(e c).length=k)→c<m→((rowL e m).drop (c*k)).take k=e c
 |0,_,_,h=>oM
 |m+1,c,h,hc=>by
  have hl:=cX (k:=k) (fun c (hc:c<m)=>h c oM);rw[rowL]
  by_cases e1:c=m
  ·subst e1
   rw[List.drop_append_of_le_length oM,List.drop_of_length_le oM,List.nil_append,List.take_of_length_le (by rw[h c oM];omega)]
  ·have h2:c*k+k≤m*k:=by rw[←Nat.succ_mul];exact Nat.mul_le_mul_right _ oM
   rw[List.drop_append_of_le_length oM,List.take_append_of_le_length (by rw[List.length_drop];omega)]
   exact fY (fun c hc=>h c oM) oM
theorem iZJ{α:Type}:∀(us vs rest:List α) (o:Nat),o+us.length≤vs.length→eW (vs++rest) o us=eW vs o us++rest:=fun us vs rest o h=>oY rest us vs o h
theorem dZg{α:Type}:∀(us vs ws:List α),us.length=ws.length→eW (vs++ws) vs.length us=vs++us
 |[],vs,ws,h=>by
  have:ws=[]:=List.length_eq_zero_iff.1 (by simpa using h.symm)
  subst this;rfl
 |u::us,vs,[],h=>by cases h
 |u::us,vs,w::ws,h=>by
  simp only[eW];rw[show(vs++w::ws).set vs.length u=(vs++[u])++ws by simp]
  have:=dZg us (vs++[u]) ws (by simpa using h)
  rw[List.length_append,List.length_singleton] at this;rw[this];simp
theorem yC{e:Nat→List Pd}{k:Nat}{q:List Pd}(hq:q.length=k):∀{m c:Nat},(∀c,c<m→(e c).length=k)→c<m→eW (rowL e m) (c*k) q=rowL (fun j=>if j=c then q else e j) m
 |0,_,_,h=>oM
 |m+1,c,h,hc=>by
  have hl:=cX (k:=k) (fun c (hc:c<m)=>h c oM);rw[rowL,rowL]
  by_cases e1:c=m
  ·subst e1
   rw[←hl,dZg q _ _ (by rw[hq,h c oM]),if_pos rfl]
   rw[cY (m:=c) (e':=fun j=>if j=c then q else e j) fun j hj=>by rw[if_neg oM]]
  ·have h2:c*k+k≤m*k:=by rw[←Nat.succ_mul];exact Nat.mul_le_mul_right _ oM
   rw[iZJ _ _ _ _ oM,yC hq (fun c hc=>h c oM) oM,if_neg (fun h=>e1 h.symm)]
theorem fX(zs:List Pd):∀m,(List.replicate m zs).flatten=rowL (fun _=>zs) m
 |0=>rfl
 |m+1=>by rw[List.replicate_succ',List.flatten_append,fX zs m];simp[rowL]
def aS(g:Nat→Pd)(n:Nat):List Pd:=rowL (fun i=>[g i]) n
theorem eG(g:Nat→Pd)(n:Nat):(aS g n).length=n:=by
 have:=cX (e:=fun i=>[g i]) (k:=1) (m:=n) (fun _ _=>rfl);rw[Nat.mul_one] at this;exact this
theorem yG {g : Nat → Pd} {n i : Nat} (h : i < n) : (aS g n)[i]? = some (g i) := by
 have := fY (e := fun i => [g i]) (k := 1) (m := n) (c := i) (fun _ _ => rfl) h;rw [Nat.mul_one] at this;have h2 : ((aS g n).drop i)[0]? = some (g i) := by
  have h3 := congrArg (fun l => l[0]?) this;simp only [List.getElem?_take] at h3;exact h3
 rw [List.getElem?_drop] at h2;exact h2
theorem iZI{α:Type}(l:List α)(o:Nat)(x:α):eW l o [x]=l.set o x:=rfl
theorem nB{g:Nat→Pd}{n i:Nat}{p:Pd}(h:i<n):(aS g n).set i p=aS (fun j=>if j=i then p else g j) n:=by
 have:=yC (e:=fun i=>[g i]) (k:=1) (q:=[p]) rfl (m:=n) (c:=i) (fun _ _=>rfl) h;rw[Nat.mul_one,iZI] at this;unfold aS;rw[this];refine cY fun c _=>?_
 by_cases e:c=i
 ·simp only[if_pos e]
 ·simp only[if_neg e]
theorem cA{g g':Nat→Pd}{n:Nat}(h:∀i,i<n→g i=g' i):aS g n=aS g' n:=cY fun i hi=>by rw[h i hi]
theorem jH{g:Nat→Pd}:∀{n:Nat} {p:Pd},p∈aS g n→∃i,i<n∧p=g i
 |0,p,h=>by cases h
 |n+1,p,h=>by
  rw[aS,rowL,List.mem_append] at h;rcases h with h|h
  ·obtain⟨i,h1,h2⟩:=jH (g:=g) (n:=n) h
   exact⟨i,oM,h2⟩
  ·exact⟨n,oM,by simpa using h⟩
theorem PsMv.append{ρ:Nat→Nat}{s t:Bx}:∀{a b c d:List Pd},PsMv ρ s t a b→PsMv ρ s t c d→PsMv ρ s t (a++c) (b++d)
 |[],[],_,_,_,h=>h
 |_::_,_::_,_,_,⟨x,y⟩,h=>⟨x,PsMv.append y h⟩
 |[],_::_,_,_,h,_=>h.elim
 |_::_,[],_,_,h,_=>h.elim
theorem PsMv.out{ρ:Nat→Nat}{s t:Bx}{f g:Nat→Pd}:∀{n:Nat},(∀i,i<n→PMv ρ s t (f i) (g i))→PsMv ρ s t (aS f n) (aS g n)
 |0,_=>trivial
 |n+1,h=>(PsMv.out fun i hi=>h i oM).append ⟨h n oM,trivial⟩
theorem PsFl.append:∀{a b c d:List Pd},PsFl a b→PsFl c d→PsFl (a++c) (b++d)
 |[],[],_,_,_,h=>h
 |_::_,_::_,_,_,⟨x,y⟩,h=>⟨x,PsFl.append y h⟩
 |[],_::_,_,_,h,_=>h.elim
 |_::_,[],_,_,h,_=>h.elim
theorem PsFl.out{f g:Nat→Pd}:∀{n:Nat},(∀i,i<n→PLe (f i) (g i)∧Flat (g i))→PsFl (aS f n) (aS g n)
 |0,_=>trivial
 |n+1,h=>(PsFl.out fun i hi=>h i oM).append ⟨h n oM,trivial⟩
theorem PMv.own{ρ:Nat→Nat}{s t:Bx}{r' r o len cap:Nat}(h:ρ r=r')(hl:aB t r≠none)(hg:¬grows r)(hg':¬grows r'):PMv ρ s t (dC r' o len cap) (dC r o len cap):=by
 subst h;rintro hh β v' ⟨c,rfl,h1,h2⟩ _ _;exact⟨.slice (some ⟨r,o,none⟩) len c,⟨c,rfl,h1,h2⟩,rfl,by rw[eZ hg',eZ hg],fun r' o' l c' e=>by cases e;exact⟨hl,fun h=>absurd h hg⟩⟩
theorem PMv.app{ρ:Nat→Nat}{s t:Bx}{r' r k len:Nat}(h:ρ r=r')(h2:ρ (r+250)=r'+250)(hl:aB t r≠none)(hl2:aB t (r+250)≠none)(hg:grows r:=by unfold grows;omega)(hg':grows r':=by unfold grows;omega):PMv ρ s t (tG r' k len) (tG r k len):=by
 intro h0 β v' hv _ hr;have hv:v'=dZU r' k len:=hv;subst hv;refine⟨dZU r k len,rfl,by cases len<;>rfl,?_,?_⟩
 ·cases len with
  |zero=>rw[gV (by intro r o l c e;cases e)];exact(gV (by intro r o l c e;cases e)).symm
  |succ len=>show tr β (.slice _ _ _)=tr _ (.slice _ _ _);rw[pO hg',pO hg];simp only[h,h2]
 ·intro r1 o l c e
  cases len with
  |zero=>cases e
  |succ len=>
   cases e
   obtain⟨_,g⟩:=hr _ _ _ _ rfl;obtain⟨_,g2⟩:=g hg';refine⟨hl,fun _=>⟨hl2,?_⟩⟩;simp only[h2];exact g2
theorem PMv.fix{ρ:Nat→Nat}{s t:Bx}{r' r k len:Nat}(h:ρ r=r')(hlen:0<len)(hl:aB t r≠none)(hg:¬grows r)(hg':grows r':=by unfold grows;omega):PMv ρ s t (tG r' k len) (dC r 0 len len):=by
 intro h0 β v' hv _ hr;have hv:v'=dZU r' k len:=hv;subst hv;cases len with
 |zero=>omega
 |succ len=>
  obtain⟨_,g⟩:=hr _ _ _ _ rfl;obtain⟨_,g2,g3,g4,g5,g6⟩:=g hg';refine⟨.slice (some ⟨r,0,none⟩) (len+1) (β (r'+250)/k),⟨_,rfl,g4,g5⟩,rfl,?_,fun r1 o l c e=>by cases e;exact⟨hl,fun h=>absurd h hg⟩⟩
  show tr β (.slice _ _ _)=tr _ (.slice _ _ _)
  rw[pO hg',eZ hg];simp only[h]
theorem PMv.flat{ρ:Nat→Nat}{s t:Bx}{p' p:Pd}[hf:Flat p](h:PLe p' p):PMv ρ s t p' p:=fun h0 β v' hv h1 _=>by
 have:=hf.flat h0 v' (h _ _ hv);exact⟨v',h _ _ hv,h1,by rw[gV this,gV this],fun r o l c e=>absurd e (this r o l c)⟩
theorem iL{t:Bx}{r o len cap:Nat}(h:aB t r≠none)(hg:¬grows r):bZL t (dC r o len cap):=fun _ v r' o' l c ⟨_,e,_⟩ e'=>by
 rw[e] at e';cases e';exact⟨h,fun h=>absurd h hg⟩
theorem dZo{t:Bx}{r k len:Nat}(h:aB t r≠none)(h2:aB t (r+250)≠none):bZL t (tG r k len):=fun _ v r' o' l c e e'=>by
 have e:v=dZU r k len:=e;subst e;cases len with
 |zero=>cases e'
 |succ len=>cases e';exact⟨h,fun _=>h2⟩
theorem gX{t:Bx}{p:Pd}[hf:Flat p]:bZL t p:=fun h v r o l c hp e=>absurd e (hf.flat h v hp r o l c)
def lkAll(full:Bx):Bx→Prop
 |[]=>True
 |(i,ps)::l=>(lk i=false∨∀p∈ps,bZL full p)∧lkAll full l
theorem aZM{full:Bx}:∀{l:Bx},lkAll full l→∀i ps,lk i=true→aB l i=some ps→∀p∈ps,bZL full p
 |[],_,_,_,_,h=>by cases h
 |(k,x)::l,⟨h1,h2⟩,i,ps,hl,h=>by
  rw[aC] at h;split at h
  ·rename_i e
   subst e;cases h
   rcases h1 with h1|h1
   ·rw[hl] at h1;cases h1
   ·exact h1
  ·exact aZM h2 i ps hl h
theorem LKeep.all{s t:Bx}(h:lkAll t t):LKeep s t:=fun i ps hl hp=> .inr (aZM h i ps hl hp)
def mbx(b d:Nat)(π:Nat→Nat)(n m:Nat)(g:Nat→List Pd):Bx:=(b,aS (fun i=>dC (d+π i) 0 m m) n)::rws d g
theorem bI{t:Bx}{d n m:Nat}{π:Nat→Nat}(hl:∀j,j<8→aB t (d+j)≠none)(hd:d+8≤400∨1000≤d)(hπ:∀i,i<n→π i<8):∀p∈aS (fun i=>dC (d+π i) 0 m m) n,bZL t p:=fun p hp=>by
 obtain⟨i,hi,rfl⟩:=jH hp;exact iL (hl _ (hπ i hi)) (by unfold grows;have:=hπ i hi;omega)
theorem Fam.live{bx:Bx}{d:Nat}{f:Nat→List Pd}(h:Fam bx d f):∀j,j<8→aB bx (d+j)≠none:=fun j hj=>by rw[h j hj];simp
def aZg(b n:Nat):BP:=⟨[b],fun _ β v=>∃c,v= .tuple #[.slice (some ⟨β b,0,none⟩) n c,.bool true]∧n≤c∧c≤maxLen,fun h h' β β' v _ hb ⟨c,e,h1⟩=>⟨c,by rw[hb b (by simp)];exact e,h1⟩⟩
def cmt(k m:Nat)(F:Nat→Nat→List Pd)(n:Nat):Pd:=slc 1 (aS (fun i=>slc k (rowL (F i) m) m) n) n
section
variable{En:Ev}{w0:World}{h0:GH}{c:Cx}{h:GH}{β:Nat→Nat}{bx:Bx}{w:World}
theorem Inv.pubRows(hi:Inv En w0 h0 c h β bx w){d:Nat}{g:Nat→List Pd}(hf:Fam bx d g)(hd:d+8≤400):∀t,t≤8→∃h',Inv En w0 h0 c h' β ((List.range t).map (fun j=>(d+j,([]:List Pd)))++bx) w∧Le h h'∧∀j,j<t→∃vs,All2 h' (g j) vs∧∀o u,vs[o]? =some u→h' (β (d+j)) o=some u
 |0,_=>⟨h,by simpa using hi,Le.refl _,fun j hj=>oM⟩
 |t+1,ht=>by
  obtain⟨h1,i1,l1,k1⟩:=hi.pubRows hf hd t oM;have hlk:∀t i,aB ((List.range t).map (fun j=>(d+j,([]:List Pd)))++bx) i=if d≤i∧i<d+t then some [] else aB bx i:=by
   intro t i;induction t with
   |zero=>rw[if_neg oM];rfl
   |succ t ih=>
    rw[List.range_succ,List.map_append,List.append_assoc,cQ] at*;cases hx:aB ((List.range t).map fun j=>(d+j,([]:List Pd))) i with
    |some ps=>
     rw[hx] at ih;simp only[Option.some_or] at ih ⊢
     by_cases hc:d≤i∧i<d+t
     ·rw[if_pos hc] at ih;rw[if_pos oM];exact ih
     ·rw[if_neg hc] at ih
      have:=kS hx;obtain⟨j,hj,e⟩:=List.mem_map.1 this;cases e
      rw[if_pos (by have:=List.mem_range.1 hj;omega)]
    |none=>
     rw[hx] at ih;simp only[Option.none_or] at ih ⊢;rw[List.map_cons,List.map_nil,List.singleton_append,aC]
     by_cases e:d+t=i
     ·rw[if_pos e,if_pos oM]
     ·rw[if_neg e,ih]
      by_cases hc:d≤i∧i<d+t
      ·rw[if_pos hc,if_pos oM]
      ·rw[if_neg hc,if_neg oM]
  have hb:aB ((List.range t).map (fun j=>(d+j,([]:List Pd)))++bx) (d+t)=some (g t):=by rw[hlk,if_neg oM];exact hf t oM
  have hlow:lk (d+t)=false:=eT oM;obtain⟨h2,vs,i2,l2,a2,_,c2⟩:=i1.pubG (bx':=(List.range (t+1)).map (fun j=>(d+j,([]:List Pd)))++bx) (d+t) oM hb (fun i qs hq=>by
   rw[hlk] at hq ⊢
   by_cases hc:d≤i∧i<d+(t+1)
   ·rw[if_pos hc] at hq;cases hq;exact .inr rfl
   ·rw[if_neg hc] at hq;rw[if_neg oM];exact .inl ⟨qs,hq,PsLe.refl _⟩) (fun qs hq=>by
   rw[hlk,if_pos oM] at hq;cases hq;rfl) (fun i ps _ _=> .inl fun r hr=>by
   rw[hlk] at hr ⊢
   by_cases hc:d≤r∧r<d+(t+1)
   ·rw[if_pos hc];simp
   ·rw[if_neg oM] at hr;rw[if_neg hc];exact hr)
  rw[dW hlow] at c2;refine⟨h2,i2,l1.trans l2,fun j hj=>?_⟩
  by_cases e:j=t
  ·subst e;exact⟨vs,a2,c2⟩
  ·obtain⟨us,u1,u2⟩:=k1 j oM
   exact⟨us,u1.mono l2,fun o u hu=>l2 _ _ _ (u2 o u hu)⟩
theorem All2.mapO{h:GH}{t:Value→Value}{f g:Nat→Pd}:∀{n:Nat} {vs:List Value},(∀i v,i<n→(f i).p h v→v.oneCell'=true→(g i).p h (t v)∧(t v).oneCell'=true)→All2 h (aS f n) vs→All2 h (aS g n) (vs.map t)
 |0,[],_,_=>trivial
 |0,_::_,_,h=>h.elim
 |n+1,vs,H,ha=>by
  have hl:=ha.length;rw[aS,rowL] at ha;have hlen:(rowL (fun i=>[f i]) n).length=n:=eG f n;have e:vs=vs.take n++vs.drop n:=(List.take_append_drop n vs).symm;have h1:All2 h (aS f n) (vs.take n):=by have:=ha.take n;rwa[List.take_append_of_le_length oM,List.take_of_length_le oM] at this
  have h2:All2 h [f n] (vs.drop n):=by have:=ha.drop n;rwa[List.drop_append_of_le_length oM,List.drop_of_length_le oM,List.nil_append] at this
  rw[e,List.map_append,aS,rowL];refine(All2.mapO (fun i v hi=>H i v oM) h1).append ?_;cases hv:vs.drop n with
  |nil=>rw[hv] at h2;exact h2.elim
  |cons v l=>
   rw[hv] at h2;cases l with
   |nil=>
    obtain⟨a,b⟩:=H n v oM h2.1 h2.2.1;exact⟨a,b,trivial⟩
   |cons=>exact h2.2.2.elim
theorem Inv.pubX(hi:Inv En w0 h0 c h β bx w){b d n m k:Nat}{π:Nat→Nat}{g:Nat→List Pd}{F:Nat→Nat→List Pd}(hb:aB bx b=some (aS (fun i=>dC (d+π i) 0 m m) n))(hlb:lk b=true)(hb0:b<1000)(hf:Fam bx d g)(hd:d+8≤400)(hπ:∀i,i<n→π i<8)
  (hg:∀i,i<n→g (π i)=rowL (F i) m) (hk:∀i c,i<n→c<m→(F i c).length=k) {bx2:Bx} (h2:subBx bx bx2) (h3:∀qs,aB bx2 b=some qs→qs=[]) (h4:∀j qs,j<8→aB bx2 (d+j)=some qs→qs=[]) (hke:LKeep bx bx2):
  ∃h',Inv En w0 h0 c h' β bx2 w∧Le h h'∧∀cap,n≤cap→cap≤maxLen→(cmt k m F n).p h' (.slice (some ⟨β b,0,none⟩) n cap):=by
 obtain⟨h1,i1,l1,k1⟩:=hi.pubRows hf hd 8 oM;have hbd:¬(d≤b∧b<d+8):=by rintro⟨q1,q2⟩;rw[eT oM] at hlb;cases hlb
 have hlk:∀i,aB ((List.range 8).map (fun j=>(d+j,([]:List Pd)))++bx) i=if d≤i∧i<d+8 then some [] else aB bx i:=fun i=>iM (d:=d) (f:=fun _=>[]) i;obtain⟨h2',vs,i2,l2,a2,_,c2⟩:=i1.pubG (bx':=bx2) b hb0 (by rw[hlk,if_neg hbd];exact hb) (fun i qs hq=>by
   rw[hlk]
   by_cases hc:d≤i∧i<d+8
   ·rw[if_pos hc]
    refine .inr (h4 (i-d) qs oM ?_);rw[show d+(i-d)=i by omega];exact hq
   ·rw[if_neg hc];exact lP h2 hq) h3 (fun i ps hl hp=>by
   rcases hke i ps hl hp with k|k
   ·refine .inl fun r hr=>k r ?_
    rw[hlk] at hr
    by_cases hc:d≤r∧r<d+8
    ·have:=hf.live (r-d) oM
     rwa[show d+(r-d)=r by omega] at this
    ·rwa[if_neg hc] at hr
   ·exact .inr k)
 have etI:tI b β vs=vs.map (tr β):=by unfold tI;rw[hlb];rfl
 rw[etI] at c2;refine⟨h2',i2,l1.trans l2,fun cap hc1 hc2=>⟨some ⟨β b,0,none⟩,cap,rfl,hc1,hc2,(fun h=>by cases h),by rw[eG,Nat.mul_one],fun _=>⟨β b,0,vs.map (tr β),rfl,?_,fun j u hu=>by rw[Nat.zero_add];exact c2 j u hu⟩⟩⟩
 refine All2.mapO (t:=tr β) (fun i v hin hv h1c=>⟨?_,tN h1c⟩) a2;obtain⟨cc,rfl,q1,q2⟩:=hv;rw[eZ (by unfold grows;have:=hπ i hin;omega)]
 obtain⟨us,u1,u2⟩:=k1 (π i) (hπ i hin);rw[hg i hin] at u1;exact⟨some ⟨β (d+π i),0,none⟩,cc,rfl,q1,q2,(fun h=>by cases h),cX (hk i · hin),fun _=>⟨β (d+π i),0,us,rfl,u1.mono l2,fun j u hu=>by rw[Nat.zero_add];exact l2 _ _ _ (u2 j u hu)⟩⟩
end
def iZK(s:Sl)(bx:Bx)(b n:Nat)(p:Pd):Sl→Prop
 |[]=>True
 |(t,sd)::l=>(((∃sd',aB s t=some sd'∧SLe sd' sd)∧sd.live bx)∨(aB s t=some (.own b 0 n n)∧sd= .one p))∧iZK s bx b n p l
theorem aZA{s:Sl}{bx:Bx}{b n:Nat}{p:Pd}:∀{l:Sl},iZK s bx b n p l→∀{t:Nat} {sd:SD},aB l t=some sd→(((∃sd',aB s t=some sd'∧SLe sd' sd)∧sd.live bx)∨(aB s t=some (.own b 0 n n)∧sd= .one p))
 |[],_,_,_,h=>by cases h
 |(k,x)::l,⟨h1,h3⟩,t,sd,h=>by
  rw[aC] at h;split at h
  ·rename_i e;subst e;cases h;exact h1
  ·exact aZA h3 h
theorem Sub.pubX{σ τ:St}(b d:Nat){n m k:Nat}{π:Nat→Nat}{g:Nat→List Pd}(F:Nat→Nat→List Pd)(hb:aB σ.bx b=some (aS (fun i=>dC (d+π i) 0 m m) n))(hf:Fam σ.bx d g)(hd:(lk b&&Nat.blt b 1000&&Nat.ble (d+8) 400)=true)(hπ:∀i,i<n→π i<8)
  (hg:∀i,i<n→g (π i)=rowL (F i) m) (hk:∀i c,i<n→c<m→(F i c).length=k) (h1:iZK σ.sl τ.bx b n (cmt k m F n) τ.sl) (h2:subBx σ.bx τ.bx) (h3:aB τ.bx b=none) (h4:(ids d).all (fun i=>(aB τ.bx i).isNone)=true:=by rfl) (hke:LKeep σ.bx τ.bx:=by exact jK rfl):Sub σ τ:=by
 rintro En nn w0 h0 c a w ⟨h,β,hi,hs⟩;rw[Bool.and_eq_true,Bool.and_eq_true] at hd;obtain⟨⟨hd1,hd2⟩,hd3⟩:=hd;have hd2:b<1000:=Nat.le_of_ble_eq_true hd2;obtain⟨h',i',l',k'⟩:=hi.pubX (F:=F) (k:=k) hb hd1 hd2 hf (Nat.le_of_ble_eq_true hd3) hπ hg hk h2 (fun qs hq=>by rw[h3] at hq;cases hq) (fun j qs hj hq=>by
  have:=List.all_eq_true.1 h4 _ (fM hj);rw[hq] at this;cases this) hke
 refine⟨h',β,i',hs.defers,hs.size,fun t sd ht=>?_⟩;rcases aZA h1 ht with⟨⟨sd',g1,g2⟩,g3⟩|⟨g1,rfl⟩
 ·obtain⟨v,r1,r2,_⟩:=hs.slot t sd' g1
  exact⟨v,r1,SD.ok_mono (g2.ok r2) g3 l' (fun _ _=>rfl),g3⟩
 ·obtain⟨v,r1,⟨cap,r2,r3,r4⟩,_⟩:=hs.slot t _ g1
  exact⟨v,r1,by rw[r2];exact k' cap r3 r4,trivial⟩
end
section
open Go.RowKit Limb
theorem pC{b d n m:Nat}{π:Nat→Nat}{g:Nat→List Pd}{bx:Bx}(i:Nat):aB (mbx b d π n m g++bx) i=if i=b then some (aS (fun i=>dC (d+π i) 0 m m) n) else if d≤i∧i<d+8 then some (g (i-d)) else aB bx i:=by
 show aB ((b,_)::(rws d g++bx)) i=_
 rw[aC,iM]
 by_cases e:b=i
 ·rw[if_pos e,if_pos e.symm]
 ·rw[if_neg e,if_neg (show ¬i=b from fun h=>e h.symm)]
theorem nG{b d n m:Nat}{π:Nat→Nat}{g:Nat→List Pd}(i:Nat):aB (mbx b d π n m g) i=if i=b then some (aS (fun i=>dC (d+π i) 0 m m) n) else if d≤i∧i<d+8 then some (g (i-d)) else none:=by
 have:=pC (b:=b) (d:=d) (n:=n) (m:=m) (π:=π) (g:=g) (bx:=[]) i;rw[List.append_nil] at this;exact this
theorem aZa{h:GH}{β:Nat→Nat}:∀{az:List Pd} {vs:List Value},AllV h az vs→AllS h β [] (az.map .one) vs
 |[],[],_=>trivial
 |_::_,_::_,⟨a,b⟩=>⟨a,trivial,aZa b⟩
 |[],_::_,h=>h.elim
 |_::_,[],h=>h.elim
section
variable{P:Program}{En:Ev}
theorem pZD{w0:World}{h0:GH}{c:Cx}{h:GH}{β:Nat→Nat}{bx:Bx}{w:World}(hi:Inv En w0 h0 c h β bx w){f:FuncId}{az:List Pd}{vs:List Value}{r:SD}{b d n m:Nat}{π:Nat→Nat}{g:Nat→List Pd}(hf:FnG P En f (az.map .one) [] r (mbx 400 200 π n m g))(ha:AllV h az vs)(hπ:∀i,i<n→π i<8)(hnb:aB bx b=none)(hnd:∀j,j<8→aB bx (d+j)=none)(hlb:lk b=true)(hb:400≤b∧b<500)(hd:d+8≤400):
  Calls P f vs.toArray w (fun e w'=>∃v h' β',e= .returned v∧Inv En w0 h0 c h' β' (mbx b d π n m g++bx) w'∧Le h h'∧(∀i,aB bx i≠none→β' i=β i)∧∃βc,r.ok h' βc v∧βc 400=β' b):=by
 refine Calls.mono (hf h β w _ hi.envNow hi.holds ⟨fun i qs hq=>(by cases hq),fun i j ps qs hi'=>(by cases hi')⟩ (fun i ps hi'=>(by cases hi')) (aZa ha)) ?_
 rintro e w' ⟨v,h',β',rfl,g1,g2,g3,g4,g5,g6,g8,g7,_⟩;have hbel:Below w.heap.size w w':=⟨g4.os,g4.tape,g4.output,g4.size,fun k hk=>g4.block k hk (by rintro⟨i,⟨ps,hi',_⟩,_⟩;cases hi')⟩
 have hI:=hi.call g1 g2 g3 hbel;have L0:∀i,aB (mbx 400 200 π n m g) i=_:=fun i=>nG (b:=400) (d:=200) (n:=n) (m:=m) (π:=π) (g:=g) i;have L:∀i,aB (mbx b d π n m g++bx) i=_:=fun i=>pC (b:=b) (d:=d) (n:=n) (m:=m) (π:=π) (g:=g) (bx:=bx) i;let ρ:Nat→Nat:=fun i=>if i=b then 400 else 200+(i-d)
 let γ:Nat→Nat:=fun i=>if i=b then β' 400 else if d≤i∧i<d+8 then β' (200+(i-d)) else β i
 have gb:γ b=β' 400:=if_pos rfl;have gd:∀j,j<8→γ (d+j)=β' (200+j):=fun j hj=>by
  show(if _ then _ else if _ then _ else _)=_
  rw[if_neg oM,if_pos oM,Nat.add_sub_cancel_left]
 have go:∀i,aB bx i≠none→γ i=β i:=fun i hi'=>by
  show(if _ then _ else if _ then _ else _)=_
  rw[if_neg (by rintro rfl;exact hi' hnb),if_neg]
  rintro⟨q1,q2⟩;have:=hnd (i-d) oM;rw[show d+(i-d)=i by omega] at this
  exact hi' this
 have live:∀i,aB bx i≠none→aB (mbx b d π n m g++bx) i≠none∧γ i=β i:=fun i hi'=>by
  refine⟨?_,go i hi'⟩;rw[L];split
  ·simp
  ·split
   ·simp
   ·exact hi'
 have src:∀i ps,aB (mbx b d π n m g++bx) i=some ps→ps≠[]→(i=b∧ps=aS (fun i=>dC (d+π i) 0 m m) n)∨(∃j,j<8∧i=d+j∧ps=g j)∨(aB bx i=some ps∧i≠b∧¬(d≤i∧i<d+8)):=fun i ps hp hps=>by
  rw[L] at hp
  by_cases e:i=b
  ·rw[if_pos e] at hp;cases hp;exact .inl ⟨e,rfl⟩
  ·rw[if_neg e] at hp
   by_cases e2:d≤i∧i<d+8
   ·rw[if_pos e2] at hp;cases hp;exact .inr (.inl ⟨i-d,oM,oM,rfl⟩)
   ·rw[if_neg e2] at hp;exact .inr (.inr ⟨hp,e,e2⟩)
 have cal:∀i ps,aB (mbx 400 200 π n m g) i=some ps→ps≠[]→w.heap.size≤β' i:=fun i ps hp hps=>(g8 i ps hp hps).1 (by
  rw[L0] at hp;split at hp
  ·omega
  ·split at hp
   ·omega
   ·cases hp)
 have c400:aB (mbx 400 200 π n m g) 400=some (aS (fun i=>dC (200+π i) 0 m m) n):=by rw[L0,if_pos rfl]
 have crow:∀j,j<8→aB (mbx 400 200 π n m g) (200+j)=some (g j):=fun j hj=>by rw[L0,if_neg oM,if_pos oM,Nat.add_sub_cancel_left]
 have outne:aS (fun i=>dC (d+π i) 0 m m) n≠[]→aS (fun i=>dC (200+π i) 0 m m) n≠[]:=fun hh hq=>hh (List.length_eq_zero_iff.1 (by rw[eG];have:=congrArg List.length hq;rw[eG] at this;simpa using this))
 have hlt:∀j ps,aB bx j=some ps→ps≠[]→β j<w.heap.size:=fun j ps hj hp=>by
  obtain⟨_,_,us,rs,T',h3,_⟩:=hi.box j ps hj hp;exact dB h3
 refine⟨v,h',γ,rfl,⟨hI.env,hI.holds,hI.le0,hI.fresh,hI.below,hI.dis,fun j hj=>?_,fun j ps hj hp=>?_,fun i j ps qs' hi' hp hj' hq e=>?_⟩,g1,go,β',g7,gb.symm⟩
 ·show(if _ then _ else if _ then _ else _)=_
  rw[if_neg oM,if_neg oM];exact hI.pin j hj
 ·rcases src j ps hj hp with⟨rfl,rfl⟩|⟨r',hr',rfl,rfl⟩|⟨hj2,e1,e2⟩
  ·rw[gb]
   obtain⟨r1,us,rs,T',r2,r3,r4⟩:=g5.box 400 _ c400 (outne hp);have l400:lk 400=true:=rfl;have r2':w'.heap[β' 400]? =some (.cells (us.map (tr β')++rs).toArray T' (0,0)):=by unfold tI at r2;rw[l400] at r2;exact r2
   obtain⟨vs2,k1,k2,k3⟩:=PsMv.all (ρ:=fun i=>200+(i-d)) (s:=mbx 400 200 π n m g) (t:=mbx j d π n m g++bx) (PsMv.out (f:=fun i=>dC (200+π i) 0 m m) (g:=fun i=>dC (d+π i) 0 m m) (n:=n) fun i hin=>PMv.own (by rw[Nat.add_sub_cancel_left]) (by rw[L,if_neg (by have:=hπ i hin;omega),if_pos (by have:=hπ i hin;omega)];simp) (by unfold grows;have:=hπ i hin;omega) (by unfold grows;have:=hπ i hin;omega)) r3 (r4 l400)
   have key:∀v∈vs2,tr (fun i=>β' (200+(i-d))) v=tr γ v∧oK γ (mbx j d π n m g++bx) v:=fun v hv=>by
    obtain⟨p,hp1,hp2⟩:=k2.mem v hv;obtain⟨i,hin,rfl⟩:=jH hp1;obtain⟨cc,rfl,_,_⟩:=hp2;have hng:¬grows (d+π i):=by unfold grows;have:=hπ i hin;omega
    refine⟨?_,fun r o l c e=>?_⟩
    ·rw[eZ hng,eZ hng,gd _ (hπ i hin)]
     simp only[Nat.add_sub_cancel_left]
    ·cases e
     exact⟨(k3 _ hv _ _ _ _ rfl).1,fun h=>absurd h hng⟩
   refine⟨⟨fun _=>Nat.le_trans hi.below.size (cal 400 _ c400 (outne hp)),fun h=>absurd h oM⟩,r1,vs2,rs,T',?_,k2,fun hg=>absurd hg uG,fun _ v hv=>(key v hv).2⟩;have e2:tI j γ vs2=vs2.map (tr γ):=by unfold tI;rw[hlb];rfl
   rw[e2,←List.map_congr_left fun v hv=>(key v hv).1,←k1];exact r2'
  ·rw[gd r' hr']
   obtain⟨r1,us,rs,T',r2,r3,_⟩:=g5.box (200+r') _ (crow r' hr') hp;have hl1:lk (200+r')=false:=eT oM;have hl2:lk (d+r')=false:=eT oM;rw[dW hl1] at r2;exact⟨⟨fun _=>Nat.le_trans hi.below.size (cal _ _ (crow r' hr') hp),fun h=>absurd h oM⟩,r1,us,rs,T',by rw[dW hl2];exact r2,r3,fun hg=>absurd hg uG,cZ hl2 _ _ _⟩
  ·rw[go j (by rw[hj2];simp)]
   obtain⟨r0,r1,us,rs,T',r2,r3,r4,r5⟩:=hI.box j ps hj2 hp;obtain⟨k1,k2⟩:=fK r5 live;refine⟨r0,r1,us,rs,T',by rw[k2];exact r2,r3,fun hg=>?_,k1⟩
   rw[r4 hg];show _=(if _ then _ else if _ then _ else _)
   have:=hg.1;rw[if_neg oM,if_neg oM]
 ·rcases src i ps hi' hp with⟨ei,epi⟩|⟨r1,hr1,ei,epi⟩|⟨hi2,e1,e2⟩<;>rcases src j qs' hj' hq with⟨ej,epj⟩|⟨r2,hr2,ej,epj⟩|⟨hj2,f1,f2⟩
  ·rw[ei,ej]
  ·subst ei ej
   rw[gb,gd _ hr2] at e;have:=g5.inj 400 (200+r2) _ _ c400 (outne (epi▸hp)) (crow r2 hr2) (epj▸hq) e;omega
  ·subst ei
   rw[gb,go j (by rw[hj2];simp)] at e
   have:=cal 400 _ c400 (outne (epi▸hp));have:=hlt j _ hj2 hq;omega
  ·subst ei ej
   rw[gb,gd _ hr1] at e;have:=g5.inj (200+r1) 400 _ _ (crow r1 hr1) (epi▸hp) c400 (outne (epj▸hq)) e;omega
  ·subst ei ej
   rw[gd _ hr1,gd _ hr2] at e;have:=g5.inj (200+r1) (200+r2) _ _ (crow r1 hr1) (epi▸hp) (crow r2 hr2) (epj▸hq) e;omega
  ·subst ei
   rw[gd _ hr1,go j (by rw[hj2];simp)] at e
   have:=cal _ _ (crow r1 hr1) (epi▸hp);have:=hlt j _ hj2 hq;omega
  ·subst ej
   rw[gb,go i (by rw[hi2];simp)] at e
   have:=cal 400 _ c400 (outne (epj▸hq));have:=hlt i _ hi2 hp;omega
  ·subst ej
   rw[gd _ hr2,go i (by rw[hi2];simp)] at e
   have:=cal _ _ (crow r2 hr2) (epj▸hq);have:=hlt i _ hi2 hp;omega
  ·rw[go i (by rw[hi2];simp),go j (by rw[hj2];simp)] at e
   exact hI.inj i j _ _ hi2 hp hj2 hq e
section
variable{nn:Nat}{sl:Sl}{bx:Bx}{dst:Option Tmp}{ty:TypeId}{pos:String}{after:Array Edge}{guard:Option (Nat×Bool)}
def hZd(bx:Bx)(b d:Nat):Bool:=lk b&&Nat.ble 400 b&&Nat.blt b 500&&Nat.ble (d+8) 400&&(aB bx b).isNone&&(ids d).all (fun i=>(aB bx i).isNone)
theorem aZF{bx:Bx}{b d:Nat}(h:hZd bx b d=true):lk b=true∧(400≤b∧b<500)∧d+8≤400∧aB bx b=none∧∀j,j<8→aB bx (d+j)=none:=by
 unfold hZd at h;simp only[Bool.and_eq_true] at h;obtain⟨⟨⟨⟨⟨h1,h2⟩,h3⟩,h4⟩,h5⟩,h6⟩:=h;refine⟨h1,⟨Nat.le_of_ble_eq_true h2,Nat.le_of_ble_eq_true h3⟩,Nat.le_of_ble_eq_true h4,by simpa using h5,fun j hj=>?_⟩
 have:=List.all_eq_true.1 h6 _ (fM hj);simpa using this
theorem aZx{f:FuncId}{xs:List Operand}{ats:Array TypeId}{az:List Pd}{r r':SD}{b d n m:Nat}{π:Nat→Nat}{g:Nat→List Pd}[hb:CBody P f](hf:FnG P En f (az.map .one) [] r (mbx 400 200 π n m g))(ha:args sl xs az)(hπ:∀i,i<n→π i<8)(hbd:hZd bx b d=true)
  (hr:∀h β βc v,r.ok h βc v→βc 400=β b→r'.ok h β v) (hl:∀t,aB t b≠none→r'.live t):
  RT P En nn ⟨dst,.call ⟨.value (.func f),xs.toArray,ats⟩,ty,pos,after,guard⟩ sl bx ⟨r',[],mbx b d π n m g⟩:=by
 obtain⟨b1,b2,b3,b4,b5⟩:=aZF hbd;intro sl' bx' h1 _ h3 w0 h0 c h β a w Q hi hs;have hargs:AllV h az (xs.map a.eval):=oG ha (fun x hx s hxs=>cH hs (by rw[h1 x (by simp[Op.operands,Call.operands,hx])];exact hxs))
 have hkey:∀i,i∈(mbx b d π n m g).map (·.1)→aB bx' i=aB bx i:=h3;have hmem:∀j,j<8→d+j∈(mbx b d π n m g).map (·.1):=fun j hj=>by
  show d+j∈b::(rws d g).map (·.1)
  rw[oS];exact List.mem_cons_of_mem _ (fM hj)
 unfold Oper.wp;rw[execOp_call_go];rw[show(#[]++xs.toArray.map a.eval++ #[])=(xs.map a.eval).toArray by simp,gL hb.ok]
 refine Calls.mono (pZD hi hf hargs hπ ((hkey b (by show b∈b::_;simp)).trans b4) (fun j hj=>(hkey _ (hmem j hj)).trans (b5 j hj)) b1 b2 b3) ?_
 rintro e w' ⟨v,h',β',rfl,g1,g2,g3,βc,g4,g5⟩;refine⟨v,h',β',rfl,g1,g2,g3,hr _ _ _ _ g4 g5,hl _ ?_⟩;rw[pC,if_pos rfl];simp
theorem lA{f:FuncId}{xs:List Operand}{ats:Array TypeId}{az:List Pd}{n m:Nat}{π:Nat→Nat}{g:Nat→List Pd}(b d:Nat)[hb:CBody P f](hf:FnG P En f (az.map .one) [] (.own 400 0 n n) (mbx 400 200 π n m g))(ha:args sl xs az)(hπ:∀i,i<n→π i<8)(hbd:hZd bx b d=true):
  RT P En nn ⟨dst,.call ⟨.value (.func f),xs.toArray,ats⟩,ty,pos,after,guard⟩ sl bx ⟨.own b 0 n n,[],mbx b d π n m g⟩:=
 aZx hf ha hπ hbd (fun h β βc v ⟨c,e,h1⟩ e2=>⟨c,by rw[←e2];exact e,h1⟩) (fun t h=>h)
theorem gZX{f:FuncId}{xs:List Operand}{ats:Array TypeId}{az:List Pd}{n m:Nat}{π:Nat→Nat}{g:Nat→List Pd}(b d:Nat)[hb:CBody P f](hf:FnG P En f (az.map .one) [] (.gen (aZg 400 n)) (mbx 400 200 π n m g))(ha:args sl xs az)(hπ:∀i,i<n→π i<8)(hbd:hZd bx b d=true):
  RT P En nn ⟨dst,.call ⟨.value (.func f),xs.toArray,ats⟩,ty,pos,after,guard⟩ sl bx ⟨.gen (aZg b n),[],mbx b d π n m g⟩:=
 aZx hf ha hπ hbd (fun h β βc v ⟨c,e,h1⟩ e2=>⟨c,by rw[←e2];exact e,h1⟩) (fun t h i hi=>by rw[show i=b from by simpa [aZg] using hi];exact h)
theorem lZp{x:Operand}{b n:Nat}(hx:osd sl x=some (.gen (aZg b n))):RT P En nn ⟨dst,.extract x 0,ty,pos,after,guard⟩ sl bx ⟨.own b 0 n n,[],[]⟩:=
 RT.pure fun ρ h β bx' H=>by
  obtain⟨⟨c,e,h1⟩,hl⟩:=H x (by simp[Op.operands]) _ hx
  exact⟨_,fun _ _=>by simp only[execOp,e];rfl,⟨c,rfl,h1⟩,hl b (by simp[aZg])⟩
theorem iZ0{x:Operand}{b n:Nat}(hx:osd sl x=some (.gen (aZg b n))):RT P En nn ⟨dst,.extract x 1,ty,pos,after,guard⟩ sl bx ⟨.one (ex (.bool true)),[],[]⟩:=
 RT.pure fun ρ h β bx' H=>by
  obtain⟨⟨c,e,h1⟩,hl⟩:=H x (by simp[Op.operands]) _ hx
  exact⟨_,fun _ _=>by simp only[execOp,e];rfl,rfl,trivial⟩
end
theorem FnX.const{f:FuncId}{az:List Pd}{r:SD}{rp:Pd}{n m k:Nat}{π:Nat→Nat}{g:Nat→List Pd}{F:Nat→Nat→List Pd}(hf:FnG P En f (az.map .one) [] r (mbx 400 200 π n m g))(hπ:∀i,i<n→π i<8)(hg:∀i,i<n→g (π i)=rowL (F i) m)(hk:∀i c,i<n→c<m→(F i c).length=k)
  (hr:∀h h' β v,r.ok h β v→(∀cap,n≤cap→cap≤maxLen→(cmt k m F n).p h' (.slice (some ⟨β 400,0,none⟩) n cap))→rp.p h' v):Fn P En f az rp:=by
 intro h w vs he hh ha;refine(hf h (fun _=>0) w vs he hh ⟨fun i qs hq=>(by cases hq),fun i j ps qs hi'=>(by cases hi')⟩ (fun i ps hi'=>(by cases hi')) (aZa ha)).mono ?_
 rintro e w' ⟨v,h',β',rfl,g1,g2,g3,g4,g5,g6,g8,g7,_⟩;have L0:∀i,aB (mbx 400 200 π n m g) i=_:=fun i=>nG (b:=400) (d:=200) (n:=n) (m:=m) (π:=π) (g:=g) i;have small:∀i ps,aB (mbx 400 200 π n m g) i=some ps→i<500:=fun i ps hp=>by
  rw[L0] at hp;split at hp
  ·omega
  ·split at hp
   ·omega
   ·cases hp
 have hI:Inv En w h ⟨fun _=>False,β'⟩ h' β' (mbx 400 200 π n m g) w':=by
  refine⟨he,g2,g1,g3,⟨g4.os,g4.tape,g4.output,g4.size,fun k hk _=>g4.block k hk (by rintro⟨i,⟨ps,hi',_⟩,_⟩;cases hi')⟩,fun k hm=>hm.elim fun _ h=>h.1.elim,fun _ _=>rfl,fun i ps hp hps=>?_,g5.inj⟩
  obtain⟨r1,us,rs,T',r2,r3,r4⟩:=g5.box i ps hp hps;have:=small i ps hp;exact⟨⟨(g8 i ps hp hps).1,fun h=>absurd h oM⟩,r1,us,rs,T',r2,r3,fun hg=>absurd hg.1 oM,r4⟩
 obtain⟨h2,i2,l2,k2⟩:=hI.pubX (b:=400) (d:=200) (F:=F) (k:=k) (bx2:=[]) (by rw[L0,if_pos rfl]) rfl oM (fun j hj=>by rw[L0,if_neg oM,if_pos oM,Nat.add_sub_cancel_left]) oM hπ hg hk trivial (fun qs hq=>by cases hq) (fun j qs _ hq=>by cases hq) (fun i ps _ hp=>by cases hp)
 exact⟨v,h2,rfl,i2.le0,i2.holds,i2.fresh,(i2.below.weaken fun _ h=>h.elim fun _ h=>h.1.elim).toBelow,hr _ _ _ _ g7 k2⟩
theorem FnX.const1{f:FuncId}{az:List Pd}{n m k:Nat}{π:Nat→Nat}{g:Nat→List Pd}{F:Nat→Nat→List Pd}(hf:FnG P En f (az.map .one) [] (.own 400 0 n n) (mbx 400 200 π n m g))(hπ:∀i,i<n→π i<8)(hg:∀i,i<n→g (π i)=rowL (F i) m)(hk:∀i c,i<n→c<m→(F i c).length=k):Fn P En f az (cmt k m F n):=
 FnX.const hf hπ hg hk fun _ _ _ _ ⟨c,e,h1,h2⟩ H=>by rw[e];exact H c h1 h2
theorem FnX.const2{f:FuncId}{az:List Pd}{n m k:Nat}{π:Nat→Nat}{g:Nat→List Pd}{F:Nat→Nat→List Pd}(hf:FnG P En f (az.map .one) [] (.gen (aZg 400 n)) (mbx 400 200 π n m g))(hπ:∀i,i<n→π i<8)(hg:∀i,i<n→g (π i)=rowL (F i) m)(hk:∀i c,i<n→c<m→(F i c).length=k):Fn P En f az (dK [cmt k m F n,ex (.bool true)]):=
 FnX.const hf hπ hg hk fun _ _ _ _ ⟨c,e,h1,h2⟩ H=>⟨[_,_],e,H c h1 h2,rfl,trivial⟩
end
end
section
open Go.RowKit Limb
theorem Fam.skip{bx:Bx}{d i:Nat}{f:Nat→List Pd}{ps:List Pd}(h:(ids d).all (fun j=> !Nat.beq i j)=true)(hf:Fam bx d f):Fam ((i,ps)::bx) d f:=fun j hj=>by
 have:=List.all_eq_true.1 h _ (fM hj);rw[aC,if_neg (by rintro rfl;simp at this)]
 exact hf j hj
theorem Fam.skipF{bx:Bx}{d d':Nat}{f f':Nat→List Pd}(h:(Nat.ble (d'+8) d||Nat.ble (d+8) d')=true)(hf:Fam bx d f):Fam (rws d' f'++bx) d f:=fun j hj=>by
 rw[Bool.or_eq_true] at h;rw[iM,if_neg (by rcases h with h|h<;>have:=Nat.le_of_ble_eq_true h<;>omega)]
 exact hf j hj
theorem fFm{bx:Bx}{d:Nat}{f:Nat→List Pd}(h:Fam bx d f:=by (try dsimp only);(try unfold mbx);(try rw[List.cons_append]);(try rw[List.nil_append]);repeat(first|exact wV _ _ _|exact fam_rws0 _ _|apply Fam.skip (by rfl)|apply Fam.skipF (by rfl))):Fam bx d f:=h
theorem kN{d:Nat}{f:Nat→List Pd}(i:Nat):aB (rws d f) i=if d≤i∧i<d+8 then some (f (i-d)) else none:=by have:=iM (d:=d) (f:=f) (bx:=[]) i;rwa[List.append_nil] at this
section
variable{P:Program}{En:Ev}{nn:Nat}{sl:Sl}{bx:Bx}{dst:Option Tmp}{ty:TypeId}{pos:String}{after:Array Edge}{guard:Option (Nat×Bool)}
theorem aF{T E:TypeId}{x ix:Operand}{b len cap k:Nat}{kk:IntKind}{i:Nat}[hT:CElem P T E k](hx:osd sl x=some (.own b 0 len cap))(hi:osd sl ix=some (.one (ex (.int kk (i:Int)))))(hy:i<len):
  RT P En nn ⟨dst,.indexAddr T x ix,ty,pos,after,guard⟩ sl bx ⟨.ptr b (i*k),[],[]⟩:=cL hx hi hy (Nat.zero_add _)
theorem bB{T:TypeId}{x:Operand}{b i n r len cap:Nat}{g:Nat→Pd}[COne P T](hx:osd sl x=some (.ptr b (i*1)))(hb:aB bx b=some (aS g n))(hi:i<n)(hg:g i=dC r 0 len cap)(hng:¬grows r)(hl:lk b=true:=by rfl):
  RT P En nn ⟨dst,.load T x,ty,pos,after,guard⟩ sl bx ⟨.own r 0 len cap,[b],[]⟩:=bQ hx hb (by rw[Nat.mul_one,yG hi,hg]) hng hl
theorem fN{T:TypeId}{x y:Operand}{b i n r len cap:Nat}{g:Nat→Pd}[COne P T](hx:osd sl x=some (.ptr b (i*1)))(hy:osd sl y=some (.own r 0 len cap))(hb:aB bx b=some (aS g n))(hi:i<n)(hng:¬grows r)(hl:lk b=true:=by rfl):
  RT P En nn ⟨dst,.store T x y,ty,pos,after,guard⟩ sl bx ⟨.one (ex undef),[b],[(b,aS (fun j=>if j=i then dC r 0 len cap else g j) n)]⟩:=tW (o:=i*1) hx hy hb (by rw[eG,Nat.mul_one];exact hi) hng (by rw[Nat.mul_one,nB hi]) hl
theorem lR{T:TypeId}{x:Operand}{d r c k m:Nat}{f e:Nat→List Pd}[ht:CRow P T k](hx:osd sl x=some (.ptr (d+r) (c*k)))(hf:Fam bx d f)(hr:r<8)(he:f r=rowL e m)(hc:c<m)(hl:∀c,c<m→(e c).length=k)(hn:sF d=true:=by rfl):
  RT P En nn ⟨dst,.load T x,ty,pos,after,guard⟩ sl bx ⟨.one (cD (e c)),ids d,[]⟩:=
 iZC hx hf hr (by rw[he,cX hl,←Nat.succ_mul];exact Nat.mul_le_mul_right _ oM) (by rw[he];exact fY hl hc) hn
theorem pT{T:TypeId}{x y:Operand}{d r c k m:Nat}{f e:Nat→List Pd}{qs:List Pd}[ht:CRow P T k](hx:osd sl x=some (.ptr (d+r) (c*k)))(hy:osd sl y=some (.one (cD qs)))(hf:Fam bx d f)(hr:r<8)(he:f r=rowL e m)(hc:c<m)(hl:∀c,c<m→(e c).length=k)(hq:Nat.beq qs.length k=true:=by rfl)(hpos:Nat.blt 0 k=true:=by rfl)(hn:sF d=true:=by rfl):
  RT P En nn ⟨dst,.store T x y,ty,pos,after,guard⟩ sl bx ⟨.one (ex undef),ids d,rws d (oJ f r (rowL (fun j=>if j=c then qs else e j) m))⟩:=
 lZ0 hx hy hf hr hq (by rw[he,cX hl,←Nat.succ_mul];exact Nat.mul_le_mul_right _ oM) (by rw[he];exact yC (Nat.eq_of_beq_eq_true hq) hl hc) hpos hn
theorem cF{T:TypeId}{x:Operand}{d r c m:Nat}{f:Nat→List Pd}{e:Nat→Pd}[COne P T](hx:osd sl x=some (.ptr (d+r) (c*1)))(hf:Fam bx d f)(hr:r<8)(he:f r=aS e m)(hc:c<m)(hn:sF d=true:=by rfl):
  RT P En nn ⟨dst,.load T x,ty,pos,after,guard⟩ sl bx ⟨.one (e c),ids d,[]⟩:=iZD hx hf hr (by rw[he,Nat.mul_one];exact yG hc) hn
theorem gW{T:TypeId}{x y:Operand}{d r c m:Nat}{f:Nat→List Pd}{e:Nat→Pd}{q:Pd}[COne P T][C1 q](hx:osd sl x=some (.ptr (d+r) (c*1)))(hy:osd sl y=some (.one q))(hf:Fam bx d f)(hr:r<8)(he:f r=aS e m)(hc:c<m)(hn:sF d=true:=by rfl):
  RT P En nn ⟨dst,.store T x y,ty,pos,after,guard⟩ sl bx ⟨.one (ex undef),ids d,rws d (oJ f r (aS (fun j=>if j=c then q else e j) m))⟩:=
 lZ1 hx hy hf hr (by rw[he,eG,Nat.mul_one];exact hc) (by rw[he,Nat.mul_one];exact nB hc) hn
theorem eE{T E:TypeId}{x ix:Operand}{k m n i:Nat}{F:Nat→Nat→List Pd}{kk:IntKind}[hT:CElem P T E 1](hx:osd sl x=some (.one (cmt k m F n)))(hi:osd sl ix=some (.one (ex (.int kk (i:Int)))))(hy:i<n):
  RT P En nn ⟨dst,.indexAddr T x ix,ty,pos,after,guard⟩ sl bx ⟨.one (cpR [slc k (rowL (F i) m) m]),[],[]⟩:=
 aK (k:=1) hx hi hy (fY (e:=fun i=>[slc k (rowL (F i) m) m]) (fun _ _=>rfl) hy)
theorem eU{T E:TypeId}{x ix:Operand}{k m c:Nat}{e:Nat→List Pd}{kk:IntKind}[hT:CElem P T E k](hx:osd sl x=some (.one (slc k (rowL e m) m)))(hi:osd sl ix=some (.one (ex (.int kk (c:Int)))))(hy:c<m)(hl:∀c,c<m→(e c).length=k)(hk:Nat.blt 0 k=true:=by rfl):
  RT P En nn ⟨dst,.indexAddr T x ix,ty,pos,after,guard⟩ sl bx ⟨.one (cpR (e c)),[],[]⟩:=aK hx hi hy (fY hl hy) hk
instance(k m n:Nat)(F:Nat→Nat→List Pd):CLen (cmt k m F n) n:=by unfold cmt;exact inferInstance
instance(k m n:Nat)(F:Nat→Nat→List Pd):C1 (cmt k m F n):=⟨fun _ _ ⟨_,_,h,_⟩=>by rw[h];rfl⟩
end
theorem retX2{P:Program}{fn:Func}{σ:St}{bx':Bx}{t u b n:Nat}(hf:fn.results= #[.tmp t,.tmp u])(h1:aB σ.sl t=some (.own b 0 n n))(h2:aB σ.sl u=some (.one (ex (.bool true))))(hs:subBx σ.bx bx')(hk:LKeep σ.bx bx')(hl:aB bx' b≠none:=by exact js0 rfl):aZq P fn σ (.gen (aZg b n)) bx':=by
 refine⟨⟨hs,hk⟩,fun En nn w0 h0 c h β a w hi hsl=>?_⟩;obtain⟨v,hv,⟨cap,e,h3,h4⟩,_⟩:=hsl.slot t _ h1;obtain⟨u',hu,e2,_⟩:=hsl.slot u _ h2;have e2:u'= .bool true:=e2;exact⟨.tuple #[v,u'],by rw[fJ,hf];simp[rX,hv,hu],⟨cap,by rw[e,e2],h3,h4⟩,fun i hi=>by rw[show i=b from by simpa [aZg] using hi];exact hl⟩
def mvSl(ρ:Nat→Nat)(s:Sl)(t:Bx):Sl→Prop
 |[]=>True
 |(k,sd)::l=>(∃sd',aB s k=some sd'∧SMv ρ t sd' sd)∧mvSl ρ s t l
def mvBx(ρ:Nat→Nat)(s t:Bx):Bx→Prop
 |[]=>True
 |(i,ps)::l=>BMv ρ s t i ps∧mvBx ρ s t l
theorem dZs{ρ:Nat→Nat}{s:Sl}{t:Bx}:∀{l:Sl},mvSl ρ s t l→∀k sd,aB l k=some sd→∃sd',aB s k=some sd'∧SMv ρ t sd' sd
 |[],_,_,_,h=>by cases h
 |(k,x)::l,⟨h1,h2⟩,i,sd,h=>by
  rw[aC] at h;split at h
  ·rename_i e;subst e;cases h;exact h1
  ·exact dZs h2 i sd h
theorem dZt{ρ:Nat→Nat}{s t:Bx}:∀{l:Bx},mvBx ρ s t l→∀i ps,aB l i=some ps→BMv ρ s t i ps
 |[],_,_,_,h=>by cases h
 |(k,x)::l,⟨h1,h2⟩,i,ps,h=>by
  rw[aC] at h;split at h
  ·rename_i e;subst e;cases h;exact h1
  ·exact dZt h2 i ps h
theorem Sub.mv{σ τ:St}(a s:Nat)(ha:a<1000)(hs:s<750)(ha2:a<750)(h1:mvSl (mvr a s) σ.sl τ.bx τ.sl)(h2:mvBx (mvr a s) σ.bx τ.bx τ.bx)(hn':(aB τ.bx s).getD []=[]:=by rfl)(hn2':(aB τ.bx (a+250)).getD []=[]:=by rfl):Sub σ τ:=by
 have hn:∀ps,aB τ.bx s=some ps→ps=[]:=fun ps h=>by rw[h] at hn';exact hn'
 have hn2:∀ps,aB τ.bx (a+250)=some ps→ps=[]:=fun ps h=>by rw[h] at hn2';exact hn2'
 refine Sub.move (mvr a s) (fun i hi=>cJ oM oM) (fun i j ps qs hp hps hq hqs e=>?_) (fun t sd h=>dZs h1 t sd h) (fun i ps h=>dZt h2 i ps h);have k1:i≠a+250:=by rintro rfl;exact hps (hn2 _ hp)
 have k2:j≠a+250:=by rintro rfl;exact hqs (hn2 _ hq)
 by_cases e1:i=a<;>by_cases e2:j=a
 ·rw[e1,e2]
 ·rw[e1,cI,cJ e2 k2] at e
  subst e;exact absurd (hn _ hq) hqs
 ·rw[e2,cI,cJ e1 k1] at e
  subst e;exact absurd (hn _ hp) hps
 ·rw[cJ e1 k1,cJ e2 k2] at e
  exact e
theorem BMv.out{s t:Bx}{a src b n:Nat}{f g:Nat→Pd}(hb:lk b=true)(hab:b≠a)(hab2:b≠a+250)(hgr:¬grows b)(hl:aB s b=some (aS f n))(h:∀i,i<n→PMv (mvr a src) s t (f i) (g i)):BMv (mvr a src) s t b (aS g n):=by
 refine .inr ⟨aS f n,?_,?_,fun hg=>absurd hg hgr,.inr (.inl ⟨hb,?_,PsMv.out h⟩)⟩<;>rw[cJ hab hab2]
 ·exact hl
 ·exact hb
theorem BMv.cells{s t:Bx}{a src b:Nat}{ps' ps:List Pd}(hb:lk b=true)(hab:b≠a)(hab2:b≠a+250)(hgr:¬grows b)(hl:aB s b=some ps')(h:PsMv (mvr a src) s t ps' ps):BMv (mvr a src) s t b ps:=by
 refine .inr ⟨ps',?_,?_,fun hg=>absurd hg hgr,.inr (.inl ⟨hb,?_,h⟩)⟩<;>rw[cJ hab hab2]
 ·exact hl
 ·exact hb
theorem BMv.keep{s t:Bx}{a src b:Nat}{ps' ps:List Pd}(hb:lk b=false)(hab:b≠a)(hab2:b≠a+250)(hgr:¬grows b)(hl:aB s b=some ps')(h:PsLe ps' ps):BMv (mvr a src) s t b ps:=by
 refine .inr ⟨ps',?_,?_,fun hg=>absurd hg hgr,.inl ⟨hb,?_,h⟩⟩<;>rw[cJ hab hab2]
 ·exact hl
 ·exact hb
theorem BMv.at{s t:Bx}{a src:Nat}{ps' ps:List Pd}(hb:lk a=false)(hb':lk src=false)(hgr:grows a→grows src)(hlo:a<1000)(hlo2:src<1000)(hl:aB s src=some ps')(h:PsLe ps' ps):BMv (mvr a src) s t a ps:=by
 refine .inr ⟨ps',by rw[cI];exact hl,by rw[cI];omega,fun hg=>?_,.inl ⟨hb,by rw[cI];exact hb',h⟩⟩
 rw[cI,fT];exact⟨hgr hg,rfl⟩
theorem BMv.to{s t:Bx}{a src n:Nat}{f g:Nat→Pd}(hb:lk a=true)(hb':lk src=false)(hgr:grows a→grows src)(hlo:a<1000)(hlo2:src<1000)(hl:aB s src=some (aS f n))(h:∀i,i<n→PLe (f i) (g i)∧Flat (g i)):BMv (mvr a src) s t a (aS g n):=by
 refine .inr ⟨aS f n,by rw[cI];exact hl,by rw[cI];omega,fun hg=>?_,.inr (.inr ⟨hb,by rw[cI];exact hb',PsFl.out h⟩)⟩
 rw[cI,fT];exact⟨hgr hg,rfl⟩
theorem BMv.toC{s t:Bx}{a src:Nat}{ps' ps:List Pd}(hb:lk a=true)(hb':lk src=false)(hgr:grows a→grows src)(hlo:a<1000)(hlo2:src<1000)(hl:aB s src=some ps')(h:PsFl ps' ps):BMv (mvr a src) s t a ps:=by
 refine .inr ⟨ps',by rw[cI];exact hl,by rw[cI];omega,fun hg=>?_,.inr (.inr ⟨hb,by rw[cI];exact hb',h⟩)⟩
 rw[cI,fT];exact⟨hgr hg,rfl⟩
theorem mvBx.fam{s t:Bx}{ρ:Nat→Nat}{d:Nat}{g:Nat→List Pd}{l:Bx}(h:∀j,j<8→BMv ρ s t (d+j) (g j))(r:mvBx ρ s t l):mvBx ρ s t (rws d g++l):=
 ⟨h 0 oM,h 1 oM,h 2 oM,h 3 oM,h 4 oM,h 5 oM,h 6 oM,h 7 oM,r⟩
theorem mvBx.famK{s t:Bx}{a src d:Nat}{f g:Nat→List Pd}{l:Bx}(hf:Fam s d f)(hd:d+8≤400)(ha:a<d∨d+8≤a)(ha3:200≤a)(hle:∀j,j<8→PsLe (f j) (g j))(r:mvBx (mvr a src) s t l):mvBx (mvr a src) s t (rws d g++l):=
 mvBx.fam (fun j hj=>by
  by_cases e:d+j=a+250
  ·omega
  ·exact BMv.keep (eT oM) oM e uG (hf j hj) (hle j hj)) r
theorem mvBx.famA{s t:Bx}{i src d:Nat}{f g:Nat→List Pd}{ps':List Pd}{l:Bx}(hf:Fam s d f)(hd:d+8≤400)(hd1:150≤d)(hi:i<8)(hsrc:src<400)(hle:∀j,j<8→j≠i→PsLe (f j) (g j))(hnew:aB s src=some ps')(hnew2:PsLe ps' (g i))(r:mvBx (mvr (d+i) src) s t l):mvBx (mvr (d+i) src) s t (rws d g++l):=
 mvBx.fam (fun j hj=>by
  by_cases e:j=i
  ·subst e
   exact BMv.at (eT oM) (eT hsrc) uG oM oM hnew hnew2
  ·exact BMv.keep (eT oM) oM oM uG (hf j hj) (hle j hj e)) r
theorem lkAll.fam{full:Bx}{d:Nat}{g:Nat→List Pd}{l:Bx}(h:sF d=true)(r:lkAll full l):lkAll full (rws d g++l):=by
 have k:∀j,j<8→lk (d+j)=false:=fun j hj=>nZ h hj;exact⟨.inl (k 0 oM),.inl (k 1 oM),.inl (k 2 oM),.inl (k 3 oM),.inl (k 4 oM),.inl (k 5 oM),.inl (k 6 oM),.inl (k 7 oM),r⟩
theorem subBx.fam{s:Bx}{d:Nat}{f g:Nat→List Pd}{l:Bx}(hf:Fam s d f)(h:∀j,j<8→PsLe (f j) (g j))(r:subBx s l):subBx s (rws d g++l):=
 ⟨.inl ⟨_,hf 0 oM,h 0 oM⟩,.inl ⟨_,hf 1 oM,h 1 oM⟩,.inl ⟨_,hf 2 oM,h 2 oM⟩,.inl ⟨_,hf 3 oM,h 3 oM⟩,.inl ⟨_,hf 4 oM,h 4 oM⟩,.inl ⟨_,hf 5 oM,h 5 oM⟩,.inl ⟨_,hf 6 oM,h 6 oM⟩,.inl ⟨_,hf 7 oM,h 7 oM⟩,r⟩
theorem PsLe.of{a b:List Pd}(h:a=b):PsLe a b:=h▸PsLe.refl a
theorem PsLe.append:∀{a b c d:List Pd},a.length=b.length→PsLe a b→PsLe c d→PsLe (a++c) (b++d)
 |[],[],_,_,_,_,h=>h
 |_::_,_::_,_,_,hl,⟨x,y⟩,h=>⟨x,PsLe.append (by simpa using hl) y h⟩
 |[],_::_,_,_,hl,_,_=>by cases hl
 |_::_,[],_,_,hl,_,_=>by cases hl
theorem PsLe.rowL{e e':Nat→List Pd}{k:Nat}:∀{m:Nat},(∀c,c<m→(e c).length=k)→(∀c,c<m→(e' c).length=k)→(∀c,c<m→PsLe (e c) (e' c))→PsLe (rowL e m) (rowL e' m)
 |0,_,_,_=>trivial
 |m+1,h1,h2,h=>PsLe.append (by rw[cX (k:=k) fun c hc=>h1 c oM,cX (k:=k) fun c hc=>h2 c oM]) (PsLe.rowL (fun c hc=>h1 c oM) (fun c hc=>h2 c oM) fun c hc=>h c oM) (h m oM)
def imt(A:Nat→Nat→Int)(n m:Nat):Pd:=cmt 1 m (fun i c=>[i6 (A i c)]) n
def zmt(A:Nat→Nat→Int)(n m:Nat):Pd:=cmt 2 m (fun i c=>cV (A i c)) n
instance(A:Nat→Nat→Int)(n m:Nat):CLen (imt A n m) n:=by unfold imt;exact inferInstance
instance(A:Nat→Nat→Int)(n m:Nat):CLen (zmt A n m) n:=by unfold zmt;exact inferInstance
instance(A:Nat→Nat→Int)(n m:Nat):C1 (imt A n m):=by unfold imt;exact inferInstance
instance(A:Nat→Nat→Int)(n m:Nat):C1 (zmt A n m):=by unfold zmt;exact inferInstance
def fZf(f:Nat→Int)(m:Nat):List Pd:=aS (fun c=>i6 (f c)) m
def wC(f:Nat→Int)(m:Nat):List Pd:=rowL (fun c=>cV (f c)) m
theorem xC:PsLe [ex (.bool false),ex (.slice none 0 0)] (cV 0):=⟨PLe.refl _,pX,trivial⟩
theorem gZN(m:Nat):PsLe (List.replicate m ([.bool false,.slice none 0 0].map ex)).flatten (wC (fun _=>0) m):=by
 rw[fX];exact PsLe.rowL (k:=2) (fun _ _=>rfl) (fun _ _=>rfl) fun _ _=>xC
theorem hZv(m:Nat):PsLe (List.replicate m ([.int .i64 0].map ex)).flatten (fZf (fun _=>0) m):=by
 rw[fX];exact PsLe.refl _
def eD(A:Nat→Nat→Int)(n m:Nat):Nat→List Pd:=fun r=>bif Nat.blt r n then wC (A r) m else[]
def bN(A:Nat→Nat→Int)(n m:Nat):Nat→List Pd:=fun r=>bif Nat.blt r n then fZf (A r) m else[]
theorem oZa{r n:Nat}(h:r<n):Nat.blt r n=true:=by rw[Nat.blt,Nat.ble_eq];exact h
theorem oZb{r n:Nat}(h:¬r<n):Nat.blt r n=false:=by cases e:Nat.blt r n;rfl;exact absurd (Nat.le_of_ble_eq_true e) h
theorem cM{A:Nat→Nat→Int}{n m r:Nat}(h:r<n):eD A n m r=wC (A r) m:=by unfold eD;rw[oZa h];rfl
theorem iJ{A:Nat→Nat→Int}{n m r:Nat}(h:¬r<n):eD A n m r=[]:=by unfold eD;rw[oZb h];rfl
theorem bA{A:Nat→Nat→Int}{n m r:Nat}(h:r<n):bN A n m r=fZf (A r) m:=by unfold bN;rw[oZa h];rfl
theorem bF{A:Nat→Nat→Int}{n m r:Nat}(h:¬r<n):bN A n m r=[]:=by unfold bN;rw[oZb h];rfl
def upm(A:Nat→Nat→Int)(r c:Nat)(v:Int):Nat→Nat→Int:=fun i j=>if i=r∧j=c then v else A i j
theorem lQ{A:Nat→Nat→Int}{n m r c:Nat}{v:Int}(h:r<n):oJ (eD A n m) r (rowL (fun j=>if j=c then cV v else cV (A r j)) m)=eD (upm A r c v) n m:=by
 funext i
 by_cases e:i=r
 ·subst e
  rw[nN,cM h];refine cY fun j _=>?_;unfold upm
  by_cases e2:j=c
  ·rw[if_pos e2,if_pos ⟨rfl,e2⟩]
  ·rw[if_neg e2,if_neg fun h=>e2 h.2]
 ·rw[pL e]
  by_cases h2:i<n
  ·rw[cM h2,cM h2]
   refine cY fun j _=>?_;unfold upm;rw[if_neg fun h=>e h.1]
  ·rw[iJ h2,iJ h2]
theorem mW{A:Nat→Nat→Int}{n m r c:Nat}{v:Int}(h:r<n):oJ (bN A n m) r (aS (fun j=>if j=c then i6 v else i6 (A r j)) m)=bN (upm A r c v) n m:=by
 funext i
 by_cases e:i=r
 ·subst e
  rw[nN,bA h];refine cA fun j _=>?_;unfold upm
  by_cases e2:j=c
  ·rw[if_pos e2,if_pos ⟨rfl,e2⟩]
  ·rw[if_neg e2,if_neg fun h=>e2 h.2]
 ·rw[pL e]
  by_cases h2:i<n
  ·rw[bA h2,bA h2]
   refine cA fun j _=>?_;unfold upm;rw[if_neg fun h=>e h.1]
  ·rw[bF h2,bF h2]
theorem cW{A B:Nat→Nat→Int}{n m:Nat}(h:∀i j,i<n→j<m→A i j=B i j):eD A n m=eD B n m:=by
 funext i
 by_cases h2:i<n
 ·rw[cM h2,cM h2];exact cY fun j hj=>by rw[h i j h2 hj]
 ·rw[iJ h2,iJ h2]
theorem fR{A B:Nat→Nat→Int}{n m:Nat}(h:∀i j,i<n→j<m→A i j=B i j):bN A n m=bN B n m:=by
 funext i
 by_cases h2:i<n
 ·rw[bA h2,bA h2];exact cA fun j hj=>by rw[h i j h2 hj]
 ·rw[bF h2,bF h2]
def iZ(d i m:Nat):Nat→Pd:=fun j=>if j<i then dC (d+j) 0 m m else ex (.slice none 0 0)
theorem mQ(d n m:Nat):aS (iZ d n m) n=aS (fun i=>dC (d+i) 0 m m) n:=cA fun _ hi=>if_pos hi
theorem lN{d i m n src:Nat}{s t:Bx}(hd:d+8≤400)(hd1:150≤d)(hsrc:src<150)(hn:n≤8)(hl:∀j,j<8→aB t (d+j)≠none):∀j,j<n→PMv (mvr (d+i) src) s t (if j=i then dC src 0 m m else iZ d i m j) (iZ d (i+1) m j):=fun j hj=>by
 unfold iZ
 by_cases e:j=i
 ·subst e
  rw[if_pos rfl,if_pos oM];exact PMv.own (cI _ _) (hl j oM) uG uG
 ·rw[if_neg e]
  by_cases h:j<i
  ·rw[if_pos h,if_pos oM]
   exact PMv.own (cJ oM oM) (hl j oM) uG uG
  ·rw[if_neg h,if_neg oM]
   exact PMv.flat (PLe.refl _)
end
section
open Go.RowKit Limb
instance pZX:COne Tryz.prog 3:=⟨⟨_,Tryz.underlying3,rfl,by kernel_rfl⟩⟩
instance pZY:COne Tryz.prog 2:=⟨⟨_,Tryz.underlying2,rfl,by kernel_rfl⟩⟩
instance pZM:CSlice Tryz.prog 116 32:=⟨Tryz.underlying116⟩
instance qZq:CElem Tryz.prog 116 32 2:=⟨Tryz.underlying116,by kernel_rfl⟩
instance crowz_z:CRowZ Tryz.prog 32 2 [.bool false,.slice none 0 0] 32:=⟨by kernel_rfl,rfl,rfl⟩
instance cone_zs:COne Tryz.prog 116:=⟨⟨_,Tryz.underlying116,rfl,by kernel_rfl⟩⟩
instance qZg:CRowZ Tryz.prog 116 1 [.slice none 0 0] 24:=⟨by kernel_rfl,rfl,rfl⟩
instance pZs:CSlice Tryz.prog 53 116:=⟨Tryz.underlying53⟩
instance pZZ:CElem Tryz.prog 53 116 1:=⟨Tryz.underlying53,by kernel_rfl⟩
instance pZP:CSlice Tryz.prog 49 2:=⟨Tryz.underlying49⟩
instance qZt:CElem Tryz.prog 49 2 1:=⟨Tryz.underlying49,by kernel_rfl⟩
instance pZR:CRowZ Tryz.prog 2 1 [.int .i64 0] 8:=⟨by kernel_rfl,rfl,rfl⟩
instance cone_is:COne Tryz.prog 49:=⟨⟨_,Tryz.underlying49,rfl,by kernel_rfl⟩⟩
instance qZj:CRowZ Tryz.prog 49 1 [.slice none 0 0] 24:=⟨by kernel_rfl,rfl,rfl⟩
instance pZu:CSlice Tryz.prog 25 49:=⟨Tryz.underlying25⟩
instance qZb:CElem Tryz.prog 25 49 1:=⟨Tryz.underlying25,by kernel_rfl⟩
instance qZm:COne Tryz.prog 25:=⟨⟨_,Tryz.underlying25,rfl,by kernel_rfl⟩⟩
instance kb109:CBody PZ 109:=cB Tryz.func109
instance kb54:CBody PZ 54:=cB Tryz.func54
instance kb18:CBody PZ 18:=cB Tryz.func18
instance kb51:CBody PZ 51:=cB Tryz.func51
instance kb49:CBody PZ 49:=cB Tryz.func49
instance kb48:CBody PZ 48:=cB Tryz.func48
instance kb118:CBody PZ 118:=cB Tryz.func118
instance kb160:CBody PZ 160:=cB Tryz.func160
instance kb119:CBody PZ 119:=cB Tryz.func119
instance kb53:CBody PZ 53:=cB Tryz.func53
instance kb154:CBody PZ 154:=cB Tryz.func154
instance kb21:CBody PZ 21:=cB Tryz.func21
instance kb117:CBody PZ 117:=cB Tryz.func117
instance kb104:CBody PZ 104:=cB Tryz.func104
section
variable(En:Ev)
theorem fZX(n m:Nat)(hn:n≤8)(hm:m≤8):FnG PZ En 109 ([i6 n,i6 m].map .one) [] (.own 400 0 n n) (mbx 400 200 (fun i=>i) n m (eD (fun _ _=>0) n m)):=by
 refine bL Tryz.func109 rfl Tryz.ntmps109 rfl ?_;intro w0 h0 c;refine vS<|vZ jj<|vS<|jm jj<|jT (fV jj jj jj jj oM jj jj)<|vZ jj<|js<|vS<|jm jj<|jS (cP jj CSlice.ok)<|jm jj<|jn<|jb ?_;refine WpD.loop (α:={i:Nat//i≤n}) (fun i=>⟨[(1,.one (i6 m)),(5,.own 400 0 n n),(10,.one (i6 n)),(11,.one (i6 i.1))],(400,aS (iZ 200 i.1 m) n)::rws 200 (eD (fun _ _=>0) i.1 m)⟩) (fun i=>n-i.1) ⟨0,Nat.zero_le _⟩ ?_ ?_
 ·dsimp only
  refine Sub.mv 400 8 oM oM oM ⟨pK,⟨_,rfl,cI _ _,rfl,rfl,rfl,js0 rfl⟩,pK,pK,trivial⟩ ⟨BMv.to rfl rfl uG oM oM (congrArg some (fX [ex (.slice none 0 0)] n)) (fun i _=>⟨PLe.refl _,by unfold iZ;rw[if_neg oM];exact inferInstance⟩),mvBx.fam (fun j _=> .inl (iJ oM)) trivial⟩
 rintro⟨i,hi⟩;dsimp only
 by_cases hin:i<n
 ·refine vS<|vLt jj<|vW jj<|vS<|jm jj<|vZ jj<|jr<|vV jj jj<|jm jj<|jT (fV jj jj jj jj oM jj jj)<|jS (aF jj jj aO)<|jO (fN jj jj jj aO aG)<|jn<|jr<|vAd jj wO<|jm jj<|jn ?_
  refine⟨⟨i+1,oM⟩,?_,oD⟩;dsimp only;refine Sub.mv (200+i) 17 oM oM oM ⟨pK,⟨_,rfl,cJ oM oM,rfl,rfl,rfl,js0 rfl⟩,pK,pK,trivial⟩ ⟨BMv.out rfl oM oM uG rfl (lN oM oM oM hn (Fam.live fFm)),mvBx.famA fFm oM oM oM oM (fun j _ hj=>PsLe.of ?_) rfl ?_ trivial⟩ rfl ?_
  ·by_cases h:j<i
   ·rw[cM h,cM oM]
   ·rw[iJ h,iJ oM]
  ·rw[cM oM];exact gZN m
  ·dsimp only
   rw[aC,if_neg oM,kN,if_neg oM];rfl
 ·have e:i=n:=oM
  subst e;refine vS<|vLf jj<|vU jj<|vS<|jm jj<|vZ jj<|ji ?_;refine kC rfl rfl (SLe.rfl' _) (js0 rfl) ⟨.inl ⟨_,rfl,PsLe.of (mQ ..)⟩,subBx.fam fFm (fun _ _=>PsLe.refl _) trivial⟩ (LKeep.all ⟨.inr (bI (Fam.live fFm) oM oM),lkAll.fam rfl trivial⟩)
def I64(x:Int):Prop:= -9223372036854775808≤x∧x≤9223372036854775807
theorem hZo(A:Nat→Nat→Int)(n m:Nat)(hn:1≤n)(hn8:n≤8)(hm:1≤m)(hm8:m≤8)(hA:∀i j,i<n→j<m→I64 (A i j)):Fn PZ En 54 [imt A n m] (dK [zmt A n m,ex (.bool true)]):=by
 have b1:decide ((n:Int)<1)=false:=decide_eq_false oM;have b2:decide ((n:Int)>16)=false:=decide_eq_false oM;have b3:decide ((m:Int)<1)=false:=decide_eq_false oM;have b4:decide ((m:Int)>16)=false:=decide_eq_false oM;have b5:((m:Int) !=(m:Int))=false:=by simp
 have CZ:=fZX En n m hn8 hm8;refine aA Tryz.func54 rfl Tryz.ntmps54 rfl ?_;intro w0 h0;refine vS<|ja jj<|vZ jj<|js<|vS<|jm jj<|jE jj<|jS (bVl jj jj b1)<|jm jj<|jgm jj<|jg (dQ jj CSlice.ok)<|jg (bVg jj jj b2)<|vQ jj<|jn<|jf jj<|jp<|js<|vS<|jm jj<|jE jj<|jm jj<|jn<|jb ?_;refine WpD.loop (α:={i:Nat//i≤n}) (fun i=>⟨[(0,.one (imt A n m)),(17,.one (imt A n m)),(18,.one (i6 n)),(19,.one (i6 i.1))],[]⟩) (fun i=>n-i.1) ⟨0,Nat.zero_le _⟩ ?_ ?_
 ·dsimp only
  exact Sub.mk sJ sJ
 rintro⟨i,hi⟩;dsimp only
 by_cases hin:i<n
 ·refine vS<|vLt jj<|vW jj<|vS<|jS (eE jj jj aO)<|vT jj<|vZ jj<|vS<|jm jj<|jE jj<|jS (bVl jj jj b3)<|jm jj<|jgm jj<|jg (dQ jj CSlice.ok)<|jg (bVg jj jj b4)<|vQ jj<|jm jj<|jgm jj<|jg (dQ jj CSlice.ok)<|jgm jj<|jg (eE (i:=0) jj jj aO)<|jg (aZ jj jj)<|jg (dQ jj CSlice.ok)<|uNf jj<|vQ jj<|jn<|jf jj<|jp<|jr<|vAd jj wO<|jm jj<|jn ?_
  refine⟨⟨i+1,oM⟩,?_,oD⟩;dsimp only;exact Sub.mk sJ sJ
 ·have e:i=n:=oM
  subst e;refine vS<|vLf jj<|vU jj<|vS<|jm jj<|jE jj<|jm jj<|jS (eE (i:=0) jj jj aO)<|vT jj<|jE jj<|RG.SW (LT.plain jj (lA 400 200 CZ tB (by intro i hi;omega) jj)) jj<|vZ jj<|js<|vS<|jm jj<|jE jj<|jm jj<|jn<|jb ?_
  refine WpD.loop (α:={k:Nat//k≤i}) (fun k=>⟨[(0,.one (imt A i m)),(6,.own 400 0 i i),(49,.one (i6 i)),(50,.one (i6 k.1))],(400,aS (fun j=>dC (200+j) 0 m m) i)::rws 200 (eD (fun r c=>if r<k.1 then A r c else 0) i m)⟩) (fun k=>i-k.1) ⟨0,Nat.zero_le _⟩ ?_ ?_
  ·dsimp only
   exact Sub.mk sJ ⟨.inl pQ,subBx.fam fFm (fun r _=>PsLe.of (by rw[cW fun i j _ _=>(if_neg (Nat.not_lt_zero i)).symm])) trivial⟩ (LKeep.all ⟨.inr (bI (π:=fun i=>i) (Fam.live fFm) oM oM),lkAll.fam rfl trivial⟩)
  rintro⟨k,hk⟩;dsimp only
  by_cases hkn:k<i
  ·refine vS<|vLt jj<|vW jj<|vS<|jm jj<|vZ jj<|vS<|vV jj jj<|jS (eE jj jj aO)<|vT jj<|jE jj<|jm jj<|jn<|jb ?_
   refine WpD.loop (α:={j:Nat//j≤m}) (fun j=>⟨[(0,.one (imt A i m)),(6,.own 400 0 i i),(7,.one (i6 k)),(49,.one (i6 i)),(50,.one (i6 k)),(57,.one (i6 m)),(58,.one (i6 j.1))],(400,aS (fun j=>dC (200+j) 0 m m) i)::rws 200 (eD (fun r c=>if r<k∨r=k∧c<j.1 then A r c else 0) i m)⟩) (fun j=>m-j.1) ⟨0,Nat.zero_le _⟩ ?_ ?_
   ·dsimp only
    exact Sub.mk sJ ⟨.inl pQ,subBx.fam fFm (fun r _=>PsLe.of (by rw[cW (B:=fun r c=>if r<k∨r=k∧c<0 then A r c else 0) fun i j _ _=>by by_cases h:i<k<;>simp[h]])) trivial⟩ (LKeep.all ⟨.inr (bI (π:=fun i=>i) (Fam.live fFm) oM oM),lkAll.fam rfl trivial⟩)
   rintro⟨j,hj⟩;dsimp only
   by_cases hjm:j<m
   ·have C1:=iH En (A k j) (hA k j hkn hjm).1 (hA k j hkn hjm).2
    have he:eD (fun r c=>if r<k∨r=k∧c<j then A r c else 0) i m k=rowL (fun c=>cV (if k<k∨k=k∧c<j then A k c else 0)) m:=cM hkn;refine vS<|vLt jj<|vW jj<|vS<|jm jj<|vZ jj<|jr<|vV jj jj<|jS (aF jj jj aO) ?_;refine jS (bB jj jj aO jj aG)<|vV jj jj<|jm jj<|jS (eE jj jj aO)<|vT jj<|jm jj<|jS (eU jj jj aO (fun _ _=>jj))<|vT jj<|vC C1 tA<|jS (aF jj jj aO)<|RG.NW (LT.plain jj (pT jj jj fFm aO aR aO (fun _ _=>jj))) jj ?_;refine jn<|jr<|vAd jj wO<|jm jj<|jn ?_;refine⟨⟨j+1,oM⟩,?_,oD⟩;dsimp only;refine Sub.mk ?_ ⟨.inl pQ,subBx.fam fFm (fun r _=>PsLe.of ?_) trivial⟩ (LKeep.all ⟨.inr (bI (π:=fun i=>i) (Fam.live fFm) oM oM),lkAll.fam rfl trivial⟩)
    ·repeat(first|exact trivial|refine jv rfl ?_|refine jw rfl (js0 rfl) ?_)
    ·refine congrFun ((lQ hkn).trans (cW fun a b _ _=>?_)) r
     unfold upm
     by_cases h1:a=k<;>by_cases h2:b=j<;>simp[h1,h2]
     by_cases h3:b<j<;>by_cases h4:b<j+1<;>simp[h3,h4]<;>omega
   ·refine vS<|vLf jj<|vU jj<|jr<|vAd jj wO<|jm jj<|jn ?_
    refine⟨⟨k+1,oM⟩,?_,oD⟩;dsimp only;refine Sub.mk ?_ ⟨.inl pQ,subBx.fam fFm (fun r _=>PsLe.of (congrFun (cW fun a b _ _=>?_) r)) trivial⟩ (LKeep.all ⟨.inr (bI (π:=fun i=>i) (Fam.live fFm) oM oM),lkAll.fam rfl trivial⟩)
    ·repeat(first|exact trivial|refine jv rfl ?_|refine jw rfl (js0 rfl) ?_)
    ·by_cases h:a<k∨a=k∧b<j
     ·rw[if_pos h,if_pos oM]
     ·rw[if_neg h,if_neg oM]
  ·have e:k=i:=oM
   subst e;refine vS<|vLf jj<|vU jj<|js ?_;refine WpD.sub (τ:=⟨[(6,.one (zmt A k m))],[]⟩) (Sub.pubX 400 200 (fun i c=>cV (A i c)) (π:=fun i=>i) rfl fFm rfl oM (fun r hr=>?_) (fun _ _ _ _=>rfl) ⟨.inr ⟨rfl,rfl⟩,trivial⟩ trivial rfl) ?_
   ·rw[cM hr]
    exact cY fun c _=>by dsimp only;rw[if_pos hr]
   refine kR ?_;refine jm jj<|ja jj<|vZ jj<|ji ?_;exact lB rfl (.tmp rfl) (.tmp rfl) (PLe.refl _)
theorem mof(A:Nat→Nat→Int)(n m:Nat)(hn:1≤n)(hn8:n≤8)(hm:1≤m)(hm8:m≤8)(hA:∀i j,i<n→j<m→I64 (A i j)):Fn PZ En 18 [imt A n m] (zmt A n m):=by
 have C:=hZo En A n m hn hn8 hm hm8 hA;refine aA Tryz.func18 rfl Tryz.ntmps18 rfl ?_;intro w0 h0;refine vS<|vZ jj<|vS<|jm jj<|vC C tA<|jm jj<|vE jj<|vE jj<|ja jj<|vZ jj<|vS<|jm jj<|vZ jj<|ji ?_;exact rtT rfl jj
theorem bZO(A:Nat→Nat→Int)(n m:Nat)(hn:1≤n)(hn8:n≤8)(hm:1≤m)(hm8:m≤8):Fn PZ En 117 [zmt A n m] (dK [i6 n,i6 m,ex (.bool true)]):=by
 have b1:decide ((n:Int)<1)=false:=decide_eq_false oM;have b2:decide ((n:Int)>16)=false:=decide_eq_false oM;have b3:decide ((m:Int)<1)=false:=decide_eq_false oM;have b4:decide ((m:Int)>16)=false:=decide_eq_false oM;have b5:((m:Int) !=(m:Int))=false:=by simp
 refine aA Tryz.func117 rfl Tryz.ntmps117 rfl ?_;intro w0 h0;refine vS<|ja jj<|ja jj<|vZ jj<|js<|vS<|jm jj<|jE jj<|jS (bVl jj jj b1)<|jm jj<|jgm jj<|jg (dQ jj CSlice.ok)<|jg (bVg jj jj b2)<|vQ jj<|jn<|jf jj<|jp<|js<|vS<|jm jj<|jE jj<|jm jj<|jn<|jb ?_;refine WpD.loop (α:={i:Nat//i≤n}) (fun i=>⟨[(0,.one (zmt A n m)),(15,.one (zmt A n m)),(16,.one (i6 n)),(17,.one (i6 i.1))],[]⟩) (fun i=>n-i.1) ⟨0,Nat.zero_le _⟩ ?_ ?_
 ·dsimp only
  exact Sub.mk sJ sJ
 rintro⟨i,hi⟩;dsimp only
 by_cases hin:i<n
 ·refine vS<|vLt jj<|vW jj<|vS<|jS (eE jj jj aO)<|vT jj<|vZ jj<|vS<|jm jj<|jE jj<|jS (bVl jj jj b3)<|jm jj<|jgm jj<|jg (dQ jj CSlice.ok)<|jg (bVg jj jj b4)<|vQ jj<|jm jj<|jgm jj<|jg (dQ jj CSlice.ok)<|jgm jj<|jg (eE (i:=0) jj jj aO)<|jg (aZ jj jj)<|jg (dQ jj CSlice.ok)<|uNf jj<|vQ jj<|jn<|jf jj<|jp<|jr<|vAd jj wO<|jm jj<|jn ?_
  refine⟨⟨i+1,oM⟩,?_,oD⟩;dsimp only;exact Sub.mk sJ sJ
 ·refine vS<|vLf jj<|vU jj<|vS<|jm jj<|jE jj<|jm jj<|jS (eE (i:=0) jj jj aO)<|vT jj<|jE jj<|ja jj<|ja jj<|vZ jj<|ji ?_
  exact dZb rfl (.tmp rfl) (.tmp rfl) (.tmp rfl) (PLe.refl _)
theorem gZa(A:Nat→Nat→Int)(n:Nat)(hn:1≤n)(hn8:n≤8):Fn PZ En 104 [zmt A n n] (dK [i6 n,ex (.bool true)]):=by
 have C:=bZO En A n n hn hn8 hn hn8;have b5:((n:Int) !=(n:Int))=false:=by simp
 refine aA Tryz.func104 rfl Tryz.ntmps104 rfl ?_;intro w0 h0;refine vS<|ja jj<|vZ jj<|vS<|jm jj<|vC C tA<|jm jj<|vE jj<|vE jj<|vE jj<|ja jj<|ja jj<|vZ jj<|js<|vS<|jm jj<|jS (bNo jj)<|jm jj ?_;refine kG ?_;refine kG ?_;first|refine jg (bVn jj jj b5) ?_|refine jk ?_
 refine kH ?_;refine jn<|jf jj<|jp<|vS<|jm jj<|ja jj<|vZ jj<|ji ?_;exact lB rfl (.tmp rfl) (.tmp rfl) (PLe.refl _)
def idM:Nat→Nat→Int:=fun i j=>if i=j then 1 else 0
theorem aZI(n:Nat)(hn:1≤n)(hn8:n≤8):FnG PZ En 49 ([i6 n].map .one) [] (.gen (aZg 400 n)) (mbx 400 200 (fun i=>i) n n (eD idM n n)):=by
 have b1:decide ((n:Int)<1)=false:=decide_eq_false oM;have b2:decide ((n:Int)>16)=false:=decide_eq_false oM;have CZ:=fZX En n n hn8 hn8;have C1:=iH En 1 oM oM;refine bL Tryz.func49 rfl Tryz.ntmps49 rfl ?_;intro w0 h0 c;refine vS<|ja jj<|vZ jj<|js<|vS<|jm jj<|jS (bVl jj jj b1)<|jm jj<|jgm jj<|jg (bVg jj jj b2)<|vQ jj<|jn<|jf jj<|jp<|vS<|vV jj jj<|RG.SW (LT.plain jj (lA 400 200 CZ tB (by intro i hi;omega) jj)) jj<|vZ jj<|js<|vS<|jm jj<|jS (cP jj CSlice.ok)<|jm jj<|jn<|jb ?_
 refine WpD.loop (α:={i:Nat//i≤n}) (fun i=>⟨[(4,.own 400 0 n n),(16,.one (i6 n)),(17,.one (i6 i.1))],(400,aS (fun j=>dC (200+j) 0 n n) n)::rws 200 (eD (fun r c=>if r=c∧r<i.1 then 1 else 0) n n)⟩) (fun i=>n-i.1) ⟨0,Nat.zero_le _⟩ ?_ ?_
 ·dsimp only
  exact Sub.mk sJ ⟨.inl pQ,subBx.fam fFm (fun r _=>PsLe.of (congrFun (cW fun a b _ _=>(by simp)) r)) trivial⟩ (LKeep.all ⟨.inr (bI (π:=fun i=>i) (Fam.live fFm) oM oM),lkAll.fam rfl trivial⟩)
 rintro⟨i,hi⟩;dsimp only
 by_cases hin:i<n
 ·have he:eD (fun r c=>if r=c∧r<i then 1 else 0) n n i=rowL (fun c=>cV (if i=c∧i<i then 1 else 0)) n:=cM hin
  refine vS<|vLt jj<|vW jj<|vS<|jm jj<|vZ jj<|jr<|vV jj jj<|jS (aF jj jj aO) ?_;refine jS (bB jj jj aO jj aG)<|jm jj<|vC C1 tA<|jS (aF jj jj aO)<|RG.NW (LT.plain jj (pT jj jj fFm aO aR aO (fun _ _=>jj))) jj ?_;refine jn<|jr<|vAd jj wO<|jm jj<|jn ?_;refine⟨⟨i+1,oM⟩,?_,oD⟩;dsimp only;refine Sub.mk ?_ ⟨.inl pQ,subBx.fam fFm (fun r _=>PsLe.of (congrFun ((lQ hin).trans (cW fun a b _ _=>?_)) r)) trivial⟩ (LKeep.all ⟨.inr (bI (π:=fun i=>i) (Fam.live fFm) oM oM),lkAll.fam rfl trivial⟩)
  ·repeat(first|exact trivial|refine jv rfl ?_|refine jw rfl (js0 rfl) ?_)
  unfold upm
  by_cases h:a=i∧b=i
  ·rw[if_pos h,if_pos oM]
  ·rw[if_neg h]
   dsimp only
   by_cases h2:a=b∧a<i
   ·rw[if_pos h2,if_pos oM]
   ·rw[if_neg h2,if_neg oM]
 ·refine vS<|vLf jj<|vU jj<|vS<|jm jj<|ja jj<|vZ jj<|ji ?_
  refine retX2 rfl rfl rfl ⟨.inl pQ,subBx.fam fFm (fun r _=>PsLe.of (congrFun (cW fun a b h1 _=>?_) r)) trivial⟩ (LKeep.all ⟨.inr (bI (Fam.live fFm) oM oM),lkAll.fam rfl trivial⟩);unfold idM
  by_cases h2:a=b
  ·rw[if_pos h2,if_pos oM]
  ·rw[if_neg h2,if_neg oM]
end
end
section
open Go.RowKit Limb
theorem nZQ(En:Ev)(a:Int)(ha:zl a≤1099511627776):Fn PZ En 108 [zC a] (zC a):=by
 have:=nZl En (decide (a<0)) (aE a.natAbs) ha;rwa[eP] at this
def ZL(A:Nat→Nat→Int)(n m K:Nat):Prop:=∀i j,i<n→j<m→zl (A i j)≤K
def nP(f:Nat→Int):Nat→Int
 |0=>0
 |n+1=>nP f n+f n
theorem kE{f g:Nat→Int}:∀{n:Nat},(∀i,i<n→f i=g i)→nP f n=nP g n
 |0,_=>rfl
 |n+1,h=>by rw[nP,nP,kE fun i hi=>h i oM,h n oM]
theorem bZo{f:Nat→Int}{K:Nat}:∀{n:Nat},(∀i,i<n→zl (f i)≤K)→zl (nP f n)≤K+n
 |0,_=>by
  have:zl 0=0:=by decide
  rw[nP,this];omega
 |n+1,h=>by
  have h1:=bZo fun i (hi:i<n)=>h i oM;have h2:=h n oM;have h3:=oP (nP f n) (f n);rw[nP];omega
def trM(A:Nat→Nat→Int):Nat→Nat→Int:=fun i j=>A j i
def gY(A B:Nat→Nat→Int)(k:Nat):Nat→Nat→Int:=fun i j=>nP (fun c=>A i c*B c j) k
section
variable(En:Ev)
theorem uY(A:Nat→Nat→Int)(n m K:Nat)(hn:1≤n)(hn8:n≤8)(hm:1≤m)(hm8:m≤8)(hK:K≤1099511627776)(hA:ZL A n m K):Fn PZ En 118 [zmt A n m] (dK [zmt (trM A) m n,ex (.bool true)]):=by
 have CS:=bZO En A n m hn hn8 hm hm8;have CZ:=fZX En m n hm8 hn8;refine aA Tryz.func118 rfl Tryz.ntmps118 rfl ?_;intro w0 h0;refine vS<|ja jj<|vZ jj<|vS<|jm jj<|vC CS ⟨jj,trivial⟩<|jm jj<|vE jj<|vE jj<|vE jj<|ja jj<|ja jj<|vZ jj<|js<|vS<|jm jj<|jS (bNo jj)<|jn<|jf jj<|jp<|vS<|vV jj jj<|RG.SW (LT.plain jj (lA 400 200 CZ ⟨jj,jj,trivial⟩ (by intro i hi;omega) jj)) jj<|vZ jj<|js<|vS<|jm jj<|jE jj<|jm jj<|jn<|jb ?_
 refine WpD.loop (α:={k:Nat//k≤n}) (fun k=>⟨[(0,.one (zmt A n m)),(7,.own 400 0 m m),(22,.one (i6 n)),(23,.one (i6 k.1))],(400,aS (fun j=>dC (200+j) 0 n n) m)::rws 200 (eD (fun r c=>if c<k.1 then A c r else 0) m n)⟩) (fun k=>n-k.1) ⟨0,Nat.zero_le _⟩ ?_ ?_
 ·dsimp only
  exact Sub.mk sJ ⟨.inl pQ,subBx.fam fFm (fun r _=>PsLe.of (congrFun (cW fun a b _ _=>(by simp)) r)) trivial⟩ (LKeep.all ⟨.inr (bI (π:=fun i=>i) (Fam.live fFm) oM oM),lkAll.fam rfl trivial⟩)
 rintro⟨k,hk⟩;dsimp only
 by_cases hkn:k<n
 ·refine vS<|vLt jj<|vW jj<|vS<|jm jj<|vZ jj<|vS<|vV jj jj<|jS (eE jj jj aO)<|vT jj<|jE jj<|jm jj<|jn<|jb ?_
  refine WpD.loop (α:={j:Nat//j≤m}) (fun j=>⟨[(0,.one (zmt A n m)),(7,.own 400 0 m m),(8,.one (i6 k)),(22,.one (i6 n)),(23,.one (i6 k)),(30,.one (i6 m)),(31,.one (i6 j.1))],(400,aS (fun j=>dC (200+j) 0 n n) m)::rws 200 (eD (fun r c=>if c<k∨c=k∧r<j.1 then A c r else 0) m n)⟩) (fun j=>m-j.1) ⟨0,Nat.zero_le _⟩ ?_ ?_
  ·dsimp only
   exact Sub.mk sJ ⟨.inl pQ,subBx.fam fFm (fun r _=>PsLe.of (congrFun (cW fun a b _ _=>(by by_cases h:b<k<;>simp[h])) r)) trivial⟩ (LKeep.all ⟨.inr (bI (π:=fun i=>i) (Fam.live fFm) oM oM),lkAll.fam rfl trivial⟩)
  rintro⟨j,hj⟩;dsimp only
  by_cases hjm:j<m
  ·have C1:=nZQ En (A k j) (Nat.le_trans (hA k j hkn hjm) hK)
   have he:eD (fun r c=>if c<k∨c=k∧r<j then A c r else 0) m n j=rowL (fun c=>cV (if c<k∨c=k∧j<j then A c j else 0)) n:=cM hjm;refine vS<|vLt jj<|vW jj<|vS<|jm jj<|vZ jj<|jr<|vV jj jj<|jS (aF jj jj aO) ?_;refine jS (bB jj jj aO jj aG)<|vV jj jj<|jm jj<|jS (eE jj jj aO)<|vT jj<|jm jj<|jS (eU jj jj aO (fun _ _=>jj))<|vR jj<|vC C1 ⟨jj,trivial⟩<|jS (aF jj jj aO)<|RG.NW (LT.plain jj (pT jj jj fFm aO aR aO (fun _ _=>jj))) jj ?_;refine jn<|jr<|vAd jj wO<|jm jj<|jn ?_;refine⟨⟨j+1,oM⟩,?_,oD⟩;dsimp only;refine Sub.mk ?_ ⟨.inl pQ,subBx.fam fFm (fun r _=>PsLe.of (congrFun ((lQ hjm).trans (cW fun a b _ _=>?_)) r)) trivial⟩ (LKeep.all ⟨.inr (bI (π:=fun i=>i) (Fam.live fFm) oM oM),lkAll.fam rfl trivial⟩)
   ·repeat(first|exact trivial|refine jv rfl ?_|refine jw rfl (js0 rfl) ?_)
   unfold upm
   by_cases h1:a=j∧b=k
   ·obtain⟨rfl,rfl⟩:=h1
    rw[if_pos ⟨rfl,rfl⟩,if_pos oM]
   ·rw[if_neg h1]
    dsimp only
    by_cases h3:b<k∨b=k∧a<j
    ·rw[if_pos h3,if_pos oM]
    ·rw[if_neg h3,if_neg oM]
  ·refine vS<|vLf jj<|vU jj<|jr<|vAd jj wO<|jm jj<|jn ?_
   refine⟨⟨k+1,oM⟩,?_,oD⟩;dsimp only;refine Sub.mk ?_ ⟨.inl pQ,subBx.fam fFm (fun r _=>PsLe.of (congrFun (cW fun a b _ _=>?_) r)) trivial⟩ (LKeep.all ⟨.inr (bI (π:=fun i=>i) (Fam.live fFm) oM oM),lkAll.fam rfl trivial⟩)
   ·repeat(first|exact trivial|refine jv rfl ?_|refine jw rfl (js0 rfl) ?_)
   by_cases h:b<k∨b=k∧a<j
   ·rw[if_pos h,if_pos oM]
   ·rw[if_neg h,if_neg oM]
 ·have e:k=n:=oM
  subst e;refine vS<|vLf jj<|vU jj<|js ?_;refine WpD.sub (τ:=⟨[(7,.one (zmt (trM A) m k))],[]⟩) (Sub.pubX 400 200 (fun i c=>cV (trM A i c)) (π:=fun i=>i) rfl fFm rfl oM (fun r hr=>?_) (fun _ _ _ _=>rfl) ⟨.inr ⟨rfl,rfl⟩,trivial⟩ trivial rfl) ?_
  ·rw[cM hr]
   exact cY fun c hc=>by dsimp only;rw[if_pos hc];rfl
  refine kR ?_;refine jm jj<|ja jj<|vZ jj<|ji ?_;exact lB rfl (.tmp rfl) (.tmp rfl) (PLe.refl _)
def zsl(f:Nat→Int)(n:Nat):Pd:=slc 2 (wC f n) n
instance(f:Nat→Int)(n:Nat):CLen (zsl f n) n:=by unfold zsl;exact inferInstance
instance(f:Nat→Int)(n:Nat):C1 (zsl f n):=⟨fun _ _ ⟨_,_,h,_⟩=>by rw[h];rfl⟩
theorem mdot(f g:Nat→Int)(n K:Nat)(hn:n≤16)(hK:K≤268435456)(hf:∀i,i<n→zl (f i)≤K)(hg:∀i,i<n→zl (g i)≤K):Fn PZ En 160 [zsl f n,zsl g n] (zC (nP (fun c=>f c*g c) n)):=by
 refine aA Tryz.func160 rfl Tryz.ntmps160 rfl ?_;intro w0 h0;refine vS<|vA jj<|vJ<|jS (aU (ps:=[]) trivial jj)<|vA jj<|vP jj<|jn<|js<|vS<|jm jj<|jE jj<|jm jj<|jn<|jb ?_;refine WpD.loop (α:={i:Nat//i≤n}) (fun i=>⟨[(0,.one (zsl f n)),(1,.one (zsl g n)),(4,.ptr 4 0),(5,.ptr 5 0),(9,.one (i6 n)),(10,.one (i6 i.1))],[(5,cV (nP (fun c=>f c*g c) i.1)),(4,[ex (.bool false),ex (.slice none 0 0)])]⟩) (fun i=>n-i.1) ⟨0,Nat.zero_le _⟩ ?_ ?_
 ·dsimp only
  exact Sub.mk sJ ⟨.inl ⟨_,jj,xC⟩,.inl pQ,trivial⟩
 rintro⟨i,hi⟩;dsimp only
 by_cases hin:i<n
 ·have k1:=hf i hin
  have k2:=hg i hin;have k3:=dU (f i) (g i);have k4:zl (nP (fun c=>f c*g c) i)≤2*K+i:=bZo fun c hc=>by
   have:=dU (f c) (g c);have:=hf c oM;have:=hg c oM;omega
  have C1:=wI En (f i) (g i) oM oM;have C2:=hZC En (nP (fun c=>f c*g c) i) (f i*g i) (by show zl _≤_;omega) (by show zl _≤_;omega)
  refine vS<|vLt jj<|vW jj<|vS<|jm jj<|vZ jj<|jr<|vL jj<|vV jj jj<|jS (eU jj jj aO (fun _ _=>jj))<|vR jj<|vV jj jj<|jS (eU jj jj aO (fun _ _=>jj))<|vR jj<|vC C1 ⟨jj,jj,trivial⟩<|vC C2 ⟨jj,jj,trivial⟩<|vP jj<|jn<|jr<|vAd jj wO<|jm jj<|jn ?_;refine⟨⟨i+1,oM⟩,?_,oD⟩;dsimp only;exact Sub.mk sJ sJ
 ·have e:i=n:=oM
  subst e;refine vS<|vLf jj<|vU jj<|vS<|vL jj<|vP jj<|jn<|ji ?_;exact rtC rfl jj jj
theorem mmul(A B:Nat→Nat→Int)(n k m K:Nat)(hn:1≤n)(hn8:n≤8)(hk:1≤k)(hk8:k≤8)(hm:1≤m)(hm8:m≤8)(hK:K≤268435456)(hA:ZL A n k K)(hB:ZL B k m K):Fn PZ En 119 [zmt A n k,zmt B k m] (dK [zmt (gY A B k) n m,ex (.bool true)]):=by
 have CS:=bZO En A n k hn hn8 hk hk8;have CT:=uY En B k m K hk hk8 hm hm8 oM hB;have CZ:=fZX En n m hn8 hm8;have b5:((k:Int) !=(k:Int))=false:=by simp
 refine aA Tryz.func119 rfl Tryz.ntmps119 rfl ?_;intro w0 h0;refine vS<|ja jj<|vZ jj<|vS<|jm jj<|vC CS tA<|jm jj<|vE jj<|vE jj<|vE jj<|ja jj<|ja jj<|vZ jj<|vS<|jm jj<|vC CT tA<|jm jj<|vE jj<|vE jj<|ja jj<|vZ jj<|js<|vS<|jm jj<|jS (bNo jj)<|jm jj<|jgm jj<|jg (bNo jj)<|vQ jj<|jm jj<|jgm jj<|jg (dQ jj CSlice.ok)<|jgm jj<|jg (bVn jj jj b5)<|vQ jj<|jn ?_;refine jf jj<|jp<|vS<|jm jj<|jE jj<|jm jj<|jE jj<|RG.SW (LT.plain jj (lA 400 200 CZ tB (by intro i hi;omega) jj)) jj<|vZ jj<|js<|vS<|jm jj<|jE jj<|jm jj<|jn<|jb ?_
 refine WpD.loop (α:={i:Nat//i≤n}) (fun i=>⟨[(0,.one (zmt A n k)),(9,.one (zmt (trM B) m k)),(11,.own 400 0 n n),(43,.one (i6 n)),(44,.one (i6 i.1))],(400,aS (fun j=>dC (200+j) 0 m m) n)::rws 200 (eD (fun r c=>if r<i.1 then gY A B k r c else 0) n m)⟩) (fun i=>n-i.1) ⟨0,Nat.zero_le _⟩ ?_ ?_
 ·dsimp only
  exact Sub.mk sJ ⟨.inl pQ,subBx.fam fFm (fun r _=>PsLe.of (congrFun (cW fun a b _ _=>(by simp)) r)) trivial⟩ (LKeep.all ⟨.inr (bI (π:=fun i=>i) (Fam.live fFm) oM oM),lkAll.fam rfl trivial⟩)
 rintro⟨i,hi⟩;dsimp only
 by_cases hin:i<n
 ·refine vS<|vLt jj<|vW jj<|vS<|jm jj<|vZ jj<|vS<|jm jj<|jE jj<|jm jj<|jn<|jb ?_
  refine WpD.loop (α:={j:Nat//j≤m}) (fun j=>⟨[(0,.one (zmt A n k)),(9,.one (zmt (trM B) m k)),(11,.own 400 0 n n),(12,.one (i6 i)),(43,.one (i6 n)),(44,.one (i6 i)),(48,.one (i6 m)),(49,.one (i6 j.1))],(400,aS (fun j=>dC (200+j) 0 m m) n)::rws 200 (eD (fun r c=>if r<i∨r=i∧c<j.1 then gY A B k r c else 0) n m)⟩) (fun j=>m-j.1) ⟨0,Nat.zero_le _⟩ ?_ ?_
  ·dsimp only
   exact Sub.mk sJ ⟨.inl pQ,subBx.fam fFm (fun r _=>PsLe.of (congrFun (cW fun a b _ _=>(by by_cases h:a<i<;>simp[h])) r)) trivial⟩ (LKeep.all ⟨.inr (bI (π:=fun i=>i) (Fam.live fFm) oM oM),lkAll.fam rfl trivial⟩)
  rintro⟨j,hj⟩;dsimp only
  by_cases hjm:j<m
  ·have C1:Fn PZ En 160 [zsl (A i) k,zsl (trM B j) k] (zC (gY A B k i j)):=mdot En (A i) (trM B j) k K oM hK (fun c hc=>hA i c hin hc) (fun c hc=>hB c j hc hjm)
   have he:eD (fun r c=>if r<i∨r=i∧c<j then gY A B k r c else 0) n m i=rowL (fun c=>cV (if i<i∨i=i∧c<j then gY A B k i c else 0)) m:=cM hin;refine vS<|vLt jj<|vW jj<|vS<|jm jj<|vZ jj<|jr<|vV jj jj<|jS (aF jj jj aO) ?_;refine jS (bB jj jj aO jj aG)<|vV jj jj<|jm jj<|jS (eE jj jj aO)<|vT jj<|vV jj jj<|jS (eE jj jj aO)<|vT jj<|vC C1 tB<|jS (aF jj jj aO)<|RG.NW (LT.plain jj (pT jj jj fFm aO aR aO (fun _ _=>jj))) jj ?_;refine jn<|jr<|vAd jj wO<|jm jj<|jn ?_;refine⟨⟨j+1,oM⟩,?_,oD⟩;dsimp only;refine Sub.mk ?_ ⟨.inl pQ,subBx.fam fFm (fun r _=>PsLe.of (congrFun ((lQ hin).trans (cW fun a b _ _=>?_)) r)) trivial⟩ (LKeep.all ⟨.inr (bI (π:=fun i=>i) (Fam.live fFm) oM oM),lkAll.fam rfl trivial⟩)
   ·repeat(first|exact trivial|refine jv rfl ?_|refine jw rfl (js0 rfl) ?_)
   unfold upm
   by_cases h1:a=i∧b=j
   ·obtain⟨rfl,rfl⟩:=h1
    rw[if_pos ⟨rfl,rfl⟩,if_pos oM]
   ·rw[if_neg h1]
    dsimp only
    by_cases h3:a<i∨a=i∧b<j
    ·rw[if_pos h3,if_pos oM]
    ·rw[if_neg h3,if_neg oM]
  ·refine vS<|vLf jj<|vU jj<|jr<|vAd jj wO<|jm jj<|jn ?_
   refine⟨⟨i+1,oM⟩,?_,oD⟩;dsimp only;refine Sub.mk ?_ ⟨.inl pQ,subBx.fam fFm (fun r _=>PsLe.of (congrFun (cW fun a b _ _=>?_) r)) trivial⟩ (LKeep.all ⟨.inr (bI (π:=fun i=>i) (Fam.live fFm) oM oM),lkAll.fam rfl trivial⟩)
   ·repeat(first|exact trivial|refine jv rfl ?_|refine jw rfl (js0 rfl) ?_)
   by_cases h:a<i∨a=i∧b<j
   ·rw[if_pos h,if_pos oM]
   ·rw[if_neg h,if_neg oM]
 ·have e:i=n:=oM
  subst e;refine vS<|vLf jj<|vU jj<|js ?_;refine WpD.sub (τ:=⟨[(11,.one (zmt (gY A B k) i m))],[]⟩) (Sub.pubX 400 200 (fun i c=>cV (gY A B k i c)) (π:=fun i=>i) rfl fFm rfl oM (fun r hr=>?_) (fun _ _ _ _=>rfl) ⟨.inr ⟨rfl,rfl⟩,trivial⟩ trivial rfl) ?_
  ·rw[cM hr]
   exact cY fun c _=>by dsimp only;rw[if_pos hr]
  refine kR ?_;refine jm jj<|ja jj<|vZ jj<|ji ?_;exact lB rfl (.tmp rfl) (.tmp rfl) (PLe.refl _)
theorem sG(A B:Nat→Nat→Int)(n k m K:Nat)(hn:1≤n)(hn8:n≤8)(hk:1≤k)(hk8:k≤8)(hm:1≤m)(hm8:m≤8)(hK:K≤268435456)(hA:ZL A n k K)(hB:ZL B k m K):Fn PZ En 53 [zmt A n k,zmt B k m] (zmt (gY A B k) n m):=by
 have C:=mmul En A B n k m K hn hn8 hk hk8 hm hm8 hK hA hB;refine aA Tryz.func53 rfl Tryz.ntmps53 rfl ?_;intro w0 h0;refine vS<|vZ jj<|vS<|vV jj jj<|vC C tB<|jm jj<|vE jj<|vE jj<|ja jj<|vZ jj<|vS<|jm jj<|vZ jj<|ji ?_;exact rtT rfl jj
end
end
end Go.Proofs.YtfmjdlogjmofbaaGreatDoor
namespace Go.Proofs.YtfmjdlogjmofbaaGreatDoor.Det
def sm(f:Nat→Int):Nat→Int
 |0=>0
 |n+1=>sm f n+f n
theorem gK{f g:Nat→Int}:∀{n:Nat},(∀i,i<n→f i=g i)→sm f n=sm g n
 |0,_=>rfl
 |n+1,h=>by
  show sm f n+f n=sm g n+g n
  rw[gK (fun i hi=>h i oM),h n oM]
theorem bZw{f:Nat→Int}{n:Nat}(h:∀i,i<n→f i=0):sm f n=0:=by
 rw[gK (g:=fun _=>0) h];induction n with
 |zero=>rfl
 |succ n ih=>show sm (fun _=>0) n+0=0;rw[ih (fun i hi=>h i oM)];rfl
theorem iZg{f g:Nat→Int}(x y:Int):∀(n:Nat),sm (fun i=>x*f i+y*g i) n=x*sm f n+y*sm g n
 |0=>by simp[sm]
 |n+1=>by
  show sm _ n+(x*f n+y*g n)=x*(sm f n+f n)+y*(sm g n+g n)
  rw[iZg x y n,Int.mul_add,Int.mul_add];omega
theorem eZ8{f:Nat→Int}(x:Int):∀(n:Nat),sm (fun i=>x*f i) n=x*sm f n
 |0=>by simp[sm]
 |n+1=>by
  show sm _ n+x*f n=x*(sm f n+f n)
  rw[eZ8 x n,Int.mul_add]
theorem iZh{f g:Nat→Int}:∀(n:Nat),sm (fun i=>f i+g i) n=sm f n+sm g n
 |0=>rfl
 |n+1=>by
  show sm _ n+(f n+g n)=(sm f n+f n)+(sm g n+g n)
  rw[iZh n];omega
theorem bZy{f:Nat→Int}:∀(n:Nat),sm f (n+1)=f 0+sm (fun i=>f (i+1)) n
 |0=>by show 0+f 0=f 0+0;omega
 |n+1=>by
  show sm f (n+1)+f (n+1)=f 0+(sm (fun i=>f (i+1)) n+f (n+1))
  rw[bZy n];omega
theorem fZD{f:Nat→Nat→Int}:∀(n m:Nat),sm (fun i=>sm (fun j=>f i j) m) n=sm (fun j=>sm (fun i=>f i j) n) m
 |0,m=>by show 0=_;rw[bZw];intro i _;rfl
 |n+1,m=>by
  show sm (fun i=>sm (fun j=>f i j) m) n+sm (fun j=>f n j) m=sm (fun j=>sm (fun i=>f i j) n+f n j) m
  rw[iZh,fZD n m]
theorem bZx{f:Nat→Int}{n k:Nat}(hk:k<n)(h:∀i,i<n→i≠k→f i=0):sm f n=f k:=by
 induction n with
 |zero=>omega
 |succ n ih=>
  show sm f n+f n=f k
  by_cases e:k=n
  ·subst e;rw[bZw (fun i hi=>h i oM oM)];omega
  ·rw[ih oM (fun i hi h1=>h i oM h1),h n oM oM];omega
theorem iZf{f:Nat→Int}{n k:Nat}(hk:k+1<n)(h:∀i,i<n→i≠k→i≠k+1→f i=0):sm f n=f k+f (k+1):=by
 induction n with
 |zero=>omega
 |succ n ih=>
  show sm f n+f n=_
  by_cases e:k+1=n
  ·subst e;rw[bZx (k:=k) oM (fun i hi h1=>h i oM h1 oM)]
  ·rw[ih oM (fun i hi h1 h2=>h i oM h1 h2),h n oM oM oM];omega
abbrev Mx:=Nat→Nat→Int
def sg(i:Nat):Int:=if i%2=0 then 1 else-1
theorem bZz(i:Nat):sg (i+1)= -sg i:=by
 unfold sg;rcases Nat.mod_two_eq_zero_or_one i with h|h
 ·rw[if_neg oM,if_pos h]
 ·rw[if_pos oM,if_neg oM];rfl
def sk(i r:Nat):Nat:=if r<i then r else r+1
def mn(i:Nat)(M:Mx):Mx:=fun r c=>M (sk i r) (c+1)
def det:Nat→Mx→Int
 |0,_=>1
 |n+1,M=>sm (fun i=>sg i*M i 0*det n (mn i M)) (n+1)
theorem xM{i r n:Nat}(h:r<n):sk i r<n+1:=by unfold sk;split<;>omega
theorem nZ0{i k:Nat}(e:¬i=k):sk i (if k<i then k else k-1)=k:=by
 unfold sk;by_cases h:k<i
 ·simp[h]
 ·simp only[if_neg h];rw[if_neg oM];omega
theorem nZz{i k r:Nat}(_:¬i=k)(h:r≠if k<i then k else k-1):sk i r≠k:=by unfold sk;grind
theorem oZ0{i k:Nat}(e:¬i=k)(e2:¬i=k+1):sk i ((if k<i then k else k-1)+1)=k+1:=by
 unfold sk;by_cases h:k<i
 ·simp only[if_pos h];rw[if_pos oM]
 ·simp only[if_neg h];rw[if_neg oM];omega
theorem cG:∀{n:Nat} {M N:Mx},(∀r c,r<n→c<n→M r c=N r c)→det n M=det n N
 |0,_,_,_=>rfl
 |n+1,M,N,h=>by
  refine gK fun i hi=>?_;rw[h i 0 hi oM,cG (M:=mn i M) (N:=mn i N) (fun r c hr hc=>h _ _ (xM hr) oM)]
theorem kY:∀{n:Nat} {A B C:Mx} {k:Nat} {x y:Int},k<n→(∀c,c<n→A k c=x*B k c+y*C k c)→(∀r c,r<n→c<n→r≠k→B r c=A r c)→(∀r c,r<n→c<n→r≠k→C r c=A r c)→det n A=x*det n B+y*det n C
 |0,_,_,_,_,_,_,hk,_,_,_=>oM
 |n+1,A,B,C,k,x,y,hk,h,hB,hC=>by
  show sm _ _=x*sm _ _+y*sm _ _
  rw[←iZg];refine gK fun i hi=>?_
  by_cases e:i=k
  ·subst e
   rw[cG (M:=mn i B) (N:=mn i A) (fun r c hr hc=>hB _ _ (xM hr) oM (by unfold sk;split<;>omega)),cG (M:=mn i C) (N:=mn i A) (fun r c hr hc=>hC _ _ (xM hr) oM (by unfold sk;split<;>omega)),h 0 oM]
   grind
  ·rw[hB i 0 hi oM e,hC i 0 hi oM e]
   have:=kY (n:=n) (A:=mn i A) (B:=mn i B) (C:=mn i C) (k:=if k<i then k else k-1) (x:=x) (y:=y) (by split<;>omega) (fun c hc=>by
     have:sk i (if k<i then k else k-1)=k:=nZ0 e;show A (sk i _) _=x*B (sk i _) _+y*C (sk i _) _
     rw[this];exact h _ oM) (fun r c hr hc hk'=>hB _ _ (xM hr) oM (nZz e hk')) (fun r c hr hc hk'=>hC _ _ (xM hr) oM (nZz e hk'))
   rw[this];grind
theorem sV:∀{n:Nat} {A:Mx} {k:Nat},k+1<n→(∀c,c<n→A k c=A (k+1) c)→det n A=0
 |0,_,_,hk,_=>oM
 |n+1,A,k,hk,h=>by
  show sm _ _=0
  rw[iZf (k:=k) hk]
  ·rw[bZz,h 0 oM,cG (M:=mn k A) (N:=mn (k+1) A)]
   ·generalize det n _=d;generalize A _ _=e
    rw[Int.neg_mul,Int.neg_mul];omega
   ·intro r c hr hc
    show A _ _=A _ _
    by_cases e:r=k
    ·subst e;rw[show sk r r=r+1 by unfold sk;split<;>omega,show sk (r+1) r=r by unfold sk;split<;>omega];exact(h _ oM).symm
    ·rw[show sk k r=sk (k+1) r by unfold sk;split<;>split<;>omega]
  ·intro i hi h1 h2
   rw[sV (n:=n) (A:=mn i A) (k:=if k<i then k else k-1) (by split<;>omega) ?_]
   ·exact Int.mul_zero _
   ·intro c hc
    show A _ _=A _ _
    rw[nZ0 h1,oZ0 h1 h2];exact h _ oM
def rsw(k l:Nat)(M:Mx):Mx:=fun r c=>M (if r=k then l else if r=l then k else r) c
theorem cZw{n:Nat}{A:Mx}{k:Nat}(hk:k+1<n):det n (rsw k (k+1) A)= -det n A:=by
 -- rows k and k+1 both the sum
 have e0:=sV (n:=n) (A:=fun r c=>if r=k∨r=k+1 then A k c+A (k+1) c else A r c) (k:=k) hk (fun c _=>by simp)
 rw[kY (k:=k) (x:=1) (y:=1) (B:=fun r c=>if r=k then A k c else if r=k+1 then A k c+A (k+1) c else A r c) (C:=fun r c=>if r=k then A (k+1) c else if r=k+1 then A k c+A (k+1) c else A r c) oM (fun c _=>by simp) (fun r c _ _ h=>by simp[h]) (fun r c _ _ h=>by simp[h])] at e0
 rw[kY (A:=fun r c=>if r=k then A k c else if r=k+1 then A k c+A (k+1) c else A r c) (k:=k+1) (x:=1) (y:=1) (B:=fun r c=>if r=k+1 then A k c else A r c) (C:=A) oM (fun c _=>by simp) (fun r c _ _ h=>by rw[if_neg h,if_neg h];split<;>simp_all) (fun r c _ _ h=>by rw[if_neg h];split<;>simp_all)] at e0
 rw[kY (A:=fun r c=>if r=k then A (k+1) c else if r=k+1 then A k c+A (k+1) c else A r c) (k:=k+1) (x:=1) (y:=1) (B:=rsw k (k+1) A) (C:=fun r c=>if r=k then A (k+1) c else A r c) oM (fun c _=>by simp[rsw]) (fun r c _ _ h=>by simp only[rsw,if_neg h];split<;>rfl) (fun r c _ _ h=>by simp[h])] at e0
 rw[sV (A:=fun r c=>if r=k+1 then A k c else A r c) (k:=k) hk (fun c _=>by simp),sV (A:=fun r c=>if r=k then A (k+1) c else A r c) (k:=k) hk (fun c _=>by simp)] at e0
 omega
theorem fZn:∀{m:Nat} {n:Nat} {A:Mx} {k:Nat},k+m+1<n→(∀c,c<n→A k c=A (k+m+1) c)→det n A=0
 |0,n,A,k,hk,h=>sV (k:=k) hk h
 |m+1,n,A,k,hk,h=>by
  have e:=cZw (n:=n) (A:=A) (k:=k) oM;have e2:=fZn (m:=m) (n:=n) (A:=rsw k (k+1) A) (k:=k+1) oM (fun c hc=>by
   show A _ c=A _ c
   rw[if_neg oM,if_pos rfl,if_neg oM,if_neg oM,h c hc];congr 1;omega)
  omega
theorem sU{n:Nat}{A:Mx}{k l:Nat}(hk:k<n)(hl:l<n)(hkl:k≠l)(h:∀c,c<n→A k c=A l c):det n A=0:=by
 rcases Nat.lt_or_gt_of_ne hkl with g|g
 ·exact fZn (m:=l-k-1) (k:=k) oM (fun c hc=>by rw[h c hc,show k+(l-k-1)+1=l by omega])
 ·exact fZn (m:=k-l-1) (k:=l) oM (fun c hc=>by rw[←h c hc,show l+(k-l-1)+1=k by omega])
theorem cZv{n:Nat}{A B:Mx}{k l:Nat}{x y:Int}(hk:k<n)(hl:l<n)(hkl:k≠l)(h:∀c,c<n→A k c=x*B k c+y*B l c)(hB:∀r c,r<n→c<n→r≠k→A r c=B r c):det n A=x*det n B:=by
 rw[kY (k:=k) (x:=x) (y:=y) (B:=B) (C:=fun r c=>if r=k then B l c else B r c) hk (fun c hc=>by simp[h c hc]) (fun r c hr hc e=>(hB r c hr hc e).symm) (fun r c hr hc e=>by simp only[if_neg e];exact(hB r c hr hc e).symm)]
 rw[sU (A:=fun r c=>if r=k then B l c else B r c) hk hl hkl (fun c _=>by simp[Ne.symm hkl])]
 omega
theorem sT{n:Nat}{A B:Mx}{k l:Nat}(hk:k<n)(hl:l<n)(hkl:k≠l)(h1:∀c,c<n→A k c=B l c)(h2:∀c,c<n→A l c=B k c)(hB:∀r c,r<n→c<n→r≠k→r≠l→A r c=B r c):det n A= -det n B:=by
 -- rows k and l both the sum
 have e0:=sU (n:=n) (A:=fun r c=>if r=k∨r=l then B k c+B l c else B r c) hk hl hkl (fun c _=>by simp)
 rw[kY (k:=k) (x:=1) (y:=1) (B:=fun r c=>if r=k then B k c else if r=l then B k c+B l c else B r c) (C:=fun r c=>if r=k then B l c else if r=l then B k c+B l c else B r c) hk (fun c _=>by simp) (fun r c _ _ h=>by simp[h]) (fun r c _ _ h=>by simp[h])] at e0
 rw[kY (A:=fun r c=>if r=k then B k c else if r=l then B k c+B l c else B r c) (k:=l) (x:=1) (y:=1) (B:=fun r c=>if r=l then B k c else B r c) (C:=B) hl (fun c _=>by simp[Ne.symm hkl]) (fun r c _ _ h=>by rw[if_neg h,if_neg h];split<;>simp_all) (fun r c _ _ h=>by rw[if_neg h];split<;>simp_all)] at e0
 rw[kY (A:=fun r c=>if r=k then B l c else if r=l then B k c+B l c else B r c) (k:=l) (x:=1) (y:=1) (B:=A) (C:=fun r c=>if r=k then B l c else B r c) hl (fun c hc=>by simp[Ne.symm hkl,h2 c hc]) (fun r c hr hc h=>by by_cases e:r=k;(subst e;simp[h1 c hc]);(simp[e,h,hB r c hr hc e h])) (fun r c _ _ h=>by simp[h])] at e0
 rw[sU (A:=fun r c=>if r=l then B k c else B r c) hk hl hkl (fun c _=>by simp[hkl]),sU (A:=fun r c=>if r=k then B l c else B r c) hk hl hkl (fun c _=>by simp[Ne.symm hkl])] at e0
 omega
def mr(j:Nat)(M:Mx):Mx:=fun r c=>M (r+1) (sk j c)
theorem nQ(r:Nat):sk 0 r=r+1:=by unfold sk;rw[if_neg oM]
theorem nZy(i r:Nat):sk (i+1) (r+1)=sk i r+1:=by unfold sk;split<;>split<;>omega
theorem nZx(i:Nat):sk (i+1) 0=0:=by unfold sk;rw[if_pos oM]
theorem bZg:∀(n:Nat) (M:Mx),det (n+1) M=sm (fun j=>sg j*M 0 j*det n (mr j M)) (n+1)
 |0,M=>rfl
 |n+1,M=>by
  show sm (fun i=>sg i*M i 0*det (n+1) (mn i M)) (n+1+1)=_
  rw[bZy (n+1),bZy (f:=fun j=>sg j*M 0 j*det (n+1) (mr j M)) (n+1)];have e0:det (n+1) (mn 0 M)=det (n+1) (mr 0 M):=cG fun r c _ _=>by show M _ _=M _ _;rw[nQ,nQ]
  have e1:∀i,i<n+1→sg (i+1)*M (i+1) 0*det (n+1) (mn (i+1) M)=sm (fun j=>sg (i+1)*M (i+1) 0*(sg j*M 0 (j+1)*det n (mr j (mn (i+1) M)))) (n+1):=fun i _=>by
   rw[eZ8,bZg n];refine congrArg _ (gK fun j _=>?_);show sg j*M (sk (i+1) 0) (j+1)*_=_
   rw[nZx]
  have e2:∀j,j<n+1→sg (j+1)*M 0 (j+1)*det (n+1) (mr (j+1) M)=sm (fun i=>sg (j+1)*M 0 (j+1)*(sg i*M (i+1) 0*det n (mr j (mn (i+1) M)))) (n+1):=fun j _=>by
   rw[eZ8];congr 1
   show sm _ _=_
   refine gK fun i _=>?_;show sg i*M (i+1) (sk (j+1) 0)*_=_
   rw[nZx];congr 1
   refine cG fun r c _ _=>?_;show M (sk i r+1) (sk (j+1) (c+1))=M (sk (i+1) (r+1)) (sk j c+1)
   rw[nZy,nZy]
  rw[e0,gK e1,gK e2,fZD];congr 1
  refine gK fun j _=>gK fun i _=>?_;rw[bZz,bZz];grind
theorem uO:∀(n:Nat) (M:Mx),det n (fun r c=>M c r)=det n M
 |0,_=>rfl
 |n+1,M=>by
  rw[bZg n M];show sm _ _=_
  refine gK fun i _=>?_;congr 1
  exact(cG fun r c _ _=>rfl).trans (uO n (mr i M))
theorem mZu{n:Nat}{A B:Mx}{k l:Nat}{x y:Int}(hk:k<n)(hl:l<n)(hkl:k≠l)(h:∀r,r<n→A r k=x*B r k+y*B r l)(hB:∀r c,r<n→c<n→c≠k→A r c=B r c):det n A=x*det n B:=by
 rw[←uO n A,←uO n B];exact cZv (A:=fun r c=>A c r) (B:=fun r c=>B c r) hk hl hkl h (fun r c hr hc e=>hB c r hc hr e)
theorem bZh{n:Nat}{A B:Mx}{k l:Nat}(hk:k<n)(hl:l<n)(hkl:k≠l)(h1:∀r,r<n→A r k=B r l)(h2:∀r,r<n→A r l=B r k)(hB:∀r c,r<n→c<n→c≠k→c≠l→A r c=B r c):det n A= -det n B:=by
 rw[←uO n A,←uO n B];exact sT (A:=fun r c=>A c r) (B:=fun r c=>B c r) hk hl hkl h1 h2 (fun r c hr hc e1 e2=>hB c r hc hr e1 e2)
def cn(M:Mx):Mx:=fun r c=>M 0 0*M (r+1) (c+1)-M (r+1) 0*M 0 (c+1)
def chP(M:Mx)(k:Nat):Mx:=fun r c=>if r=0∨k<r then M r c else M 0 0*M r c-M r 0*M 0 c
theorem gZ8(n:Nat)(M:Mx):∀k,k≤n→det (n+1) (chP M k)=M 0 0^k*det (n+1) M
 |0,_=>by
  rw[Int.pow_zero,Int.one_mul];exact cG fun r c _ _=>by unfold chP;rw[if_pos oM]
 |k+1,hk=>by
  rw[cZv (A:=chP M (k+1)) (B:=chP M k) (k:=k+1) (l:=0) (x:=M 0 0) (y:= -M (k+1) 0) oM oM oM,gZ8 n M k oM,Int.pow_succ]
  ·grind
  ·intro c _
   unfold chP;rw[if_neg oM,if_pos oM,if_pos oM];grind
  ·intro r c _ _ hr
   unfold chP
   by_cases h:r=0∨k<r
   ·rw[if_pos oM,if_pos h]
   ·rw[if_neg oM,if_neg h]
theorem mZC(n:Nat)(M:Mx):M 0 0^n*det (n+1) M=M 0 0*det n (cn M):=by
 rw[←gZ8 n M n (Nat.le_refl _)];show sm _ _=_
 rw[bZx (k:=0) oM]
 ·show sg 0*chP M n 0 0*_=_
  have e:chP M n 0 0=M 0 0:=by unfold chP;rw[if_pos oM]
  rw[e,show sg 0=1 from rfl,Int.one_mul]
  congr 1
  refine cG fun r c hr hc=>?_;show chP M n (sk 0 r) (c+1)=_
  unfold chP cn;rw[nQ,if_neg oM]
 ·intro i hi h0
  have e:chP M n i 0=0:=by unfold chP;rw[if_neg oM];grind
  rw[e,Int.mul_zero,Int.zero_mul]
def bo(M:Mx)(k i j:Nat):Mx:=fun r c=>M (if r<k then r else i) (if c<k then c else j)
def bm(M:Mx)(k i j:Nat):Int:=det (k+1) (bo M k i j)
theorem jX(M:Mx)(i j:Nat):bm M 0 i j=M i j:=by
 show 0+1*M i j*1=M i j
 omega
theorem iT(M:Mx)(k:Nat):bm M k k k=det (k+1) M:=cG fun r c hr hc=>by
 unfold bo;rw[show(if r<k then r else k)=r by split<;>omega,show(if c<k then c else k)=c by split<;>omega]
theorem nZY(M:Mx)(k i j:Nat):bm (fun r c=>M c r) k i j=bm M k j i:=uO (k+1) (bo M k j i)
theorem mZW(M:Mx)(k i j:Nat):M 0 0^(k+1)*bm M (k+1) (i+1) (j+1)=M 0 0*bm (cn M) k i j:=by
 have e:=mZC (k+1) (bo M (k+1) (i+1) (j+1));have e0:bo M (k+1) (i+1) (j+1) 0 0=M 0 0:=by unfold bo;rw[if_pos oM,if_pos oM]
 rw[e0] at e;unfold bm;rw[e];congr 1
 refine cG fun r c hr hc=>?_;have e1:∀x t:Nat,(if x+1<k+1 then x+1 else t+1)=(if x<k then x else t)+1:=fun x t=>by split<;>split<;>omega
 show M _ _*M _ _-M _ _*M _ _=M _ _*M _ _-M _ _*M _ _
 simp only[e1,if_pos (show(0:Nat)<k+1 by omega)]
theorem bZE{a:Int}(h:a≠0):∀k:Nat,a^k≠0
 |0=>by simp
 |k+1=>by rw[Int.pow_succ];exact Int.mul_ne_zero (bZE h k) h
theorem gZ0(M:Mx):det 1 M=M 0 0:=jX M 0 0
theorem nK{M:Mx}(h:M 0 0≠0)(k i j:Nat):bm (cn M) k i j=M 0 0^k*bm M (k+1) (i+1) (j+1):=by
 have e:=mZW M k i j;rw[Int.pow_succ,Int.mul_comm (M 0 0^k),Int.mul_assoc] at e;exact(Int.eq_of_mul_eq_mul_left h e).symm
theorem nZR{M:Mx}(h:M 0 0≠0){l:Nat}(hl:det (l+1) M≠0):det l (cn M)≠0:=by
 intro e;have:=mZC l M;rw[e,Int.mul_zero] at this;exact(Int.mul_ne_zero (bZE h l) hl) this
theorem tE:∀{k:Nat} {M:Mx} {i j:Nat},(∀l,l<k→det (l+1) M≠0)→k<i→k<j→bm M (k+1) i j*det k M=bm M k k k*bm M k i j-bm M k i k*bm M k k j
 |0,M,i,j,_,hi,hj=>by
  simp only[jX];show(0+1*M 0 0*(0+1*M i j*1)+ -1*M i 0*(0+1*M 0 j*1))*1=_
  grind
 |k+1,M,i+1,j+1,h,hi,hj=>by
  have h0:M 0 0≠0:=by rw[←gZ0 M];exact h 0 oM
  have ih:=tE (k:=k) (M:=cn M) (i:=i) (j:=j) (fun l hl=>nZR h0 (h (l+1) oM)) oM oM;rw[nK h0,nK h0,nK h0,nK h0,nK h0] at ih;have e:=mZC k M;have hz:=bZE h0 (k+k);refine Int.eq_of_mul_eq_mul_left (a:=M 0 0^(k+k)*M 0 0) (Int.mul_ne_zero hz h0) ?_;rw[Int.pow_succ] at ih;rw[Int.pow_add];generalize M 0 0=a at*;generalize a^k=b at*;grind
theorem bZf:∀{k n:Nat} {M:Mx},(∀l,l<k→det (l+1) M≠0)→k<n→(∀i,k≤i→i<n→bm M k i k=0)→det n M=0
 |0,n+1,M,_,_,h=>by
  show sm _ _=0
  refine bZw fun i hi=>?_;have:=h i oM hi;rw[jX] at this;rw[this,Int.mul_zero,Int.zero_mul]
 |k+1,n+1,M,h,hk,hz=>by
  have h0:M 0 0≠0:=by rw[←gZ0 M];exact h 0 oM
  have ih:=bZf (k:=k) (n:=n) (M:=cn M) (fun l hl=>nZR h0 (h (l+1) oM)) oM (fun i h1 h2=>by rw[nK h0,hz (i+1) oM oM,Int.mul_zero])
  have e:=mZC n M;rw[ih,Int.mul_zero] at e;rcases Int.mul_eq_zero.1 e with g|g
  ·exact absurd g (bZE h0 n)
  ·exact g
end Go.Proofs.YtfmjdlogjmofbaaGreatDoor.Det
namespace Go.Proofs.YtfmjdlogjmofbaaGreatDoor.Det
def tq(k p r:Nat):Nat:=if r=k then p else if r=p then k else r
theorem pZF{M:Mx}{k p i j:Nat}(hp:k≤p):bm (rsw k p M) k i j=bm M k (tq k p i) j:=by
 refine cG fun r c hr hc=>?_;unfold bo rsw tq
 by_cases h:r<k
 ·simp only[if_pos h,if_neg (show ¬r=k by omega),if_neg (show ¬r=p by omega)]
 ·simp only[if_neg h]
theorem zS{M:Mx}{k p l:Nat}(hp:k≤p)(hl:l≤k):det l (rsw k p M)=det l M:=
 cG fun r c hr hc=>by unfold rsw;rw[if_neg oM,if_neg oM]
theorem mZt{M:Mx}{n k p:Nat}(hk:k<n)(hp:p<n)(h:k≠p):det n (rsw k p M)= -det n M:=
 sT hk hp h (fun c _=>by unfold rsw;rw[if_pos rfl]) (fun c _=>by unfold rsw;rw[if_neg (fun e=>h e.symm),if_pos rfl]) (fun r c _ _ h1 h2=>by unfold rsw;rw[if_neg h1,if_neg h2])
structure El(n:Nat)(M0:Mx)(k:Nat)(neg:Bool)(last:Int)(A M:Mx):Prop where
 ent:∀i j,k≤i→i<n→k≤j→j<n→A i j=bm M k i j
 ne:∀l,l<k→det (l+1) M≠0
 lst:last=det k M
 val:det n M=(bif neg then-1 else 1)*det n M0
theorem El.start(n:Nat)(M:Mx):El n M 0 false 1 M M:=⟨fun i j _ _ _ _=>(jX M i j).symm,fun l h=>oM,rfl,by simp⟩
theorem El.none{n k:Nat}{M0 A M:Mx}{neg:Bool}{last:Int}(h:El n M0 k neg last A M)(hk:k<n)(hz:∀i,k≤i→i<n→A i k=0):det n M0=0:=by
 have e:=bZf h.ne hk (fun i h1 h2=>by rw[←h.ent i k h1 h2 (Nat.le_refl _) hk];exact hz i h1 h2)
 have:=h.val;rw[e] at this;cases neg<;>simp at this<;>omega
theorem El.swap{n k p:Nat}{M0 A M:Mx}{neg:Bool}{last:Int}(h:El n M0 k neg last A M)(hk:k<p)(hp:p<n):El n M0 k (!neg) last (rsw k p A) (rsw k p M) where
 ent i j h1 h2 h3 h4:=by
  rw[pZF oM];exact h.ent _ j (by split<;>(try split)<;>omega) (by split<;>(try split)<;>omega) h3 h4
 ne l hl:=by rw[zS oM oM];exact h.ne l hl
 lst:=by rw[zS oM oM];exact h.lst
 val:=by
  rw[mZt oM hp oM,h.val];cases neg<;>simp
theorem El.step{n k:Nat}{M0 A B M:Mx}{neg:Bool}{last:Int}(h:El n M0 k neg last A M)(hk:k<n)(hz:A k k≠0)(hB:∀i j,k<i→i<n→k<j→j<n→B i j=(A k k*A i j-A i k*A k j).tdiv last):El n M0 (k+1) neg (A k k) B M:=by
 have e0:A k k=det (k+1) M:=by rw[h.ent k k oM hk oM hk,iT]
 have hd:det k M≠0:=by
  cases k with
  |zero=>show(1:Int)≠0;omega
  |succ k=>exact h.ne k oM
 refine⟨fun i j h1 h2 h3 h4=>?_,fun l hl=>?_,e0,h.val⟩
 ·rw[hB i j oM h2 oM h4,h.ent k k oM hk oM hk,h.ent i j oM h2 oM h4,h.ent i k oM h2 oM hk,h.ent k j oM hk oM h4,←tE h.ne oM oM,h.lst]
  exact Int.mul_tdiv_cancel _ hd
 ·by_cases e:l=k
  ·subst e;rw[←e0];exact hz
  ·exact h.ne l oM
theorem El.step'{n k:Nat}{M0 A B M:Mx}{neg:Bool}{last:Int}(h:El n M0 k neg last A M)(hk:k<n)(hz:A k k≠0)(hB:∀i j,k<i→i<n→k<j→j<n→B i j=(A k k*A i j-A i k*A k j)/last):El n M0 (k+1) neg (A k k) B M:=by
 refine h.step hk hz fun i j h1 h2 h3 h4=>?_;have hd:det k M≠0:=by
  cases k with
  |zero=>show(1:Int)≠0;omega
  |succ k=>exact h.ne k oM
 rw[hB i j h1 h2 h3 h4,h.ent k k oM hk oM hk,h.ent i j oM h2 oM h4,h.ent i k oM h2 oM hk,h.ent k j oM hk oM h4,←tE h.ne oM oM,h.lst,Int.mul_tdiv_cancel _ hd,Int.mul_ediv_cancel _ hd]
end Go.Proofs.YtfmjdlogjmofbaaGreatDoor.Det
namespace Go.Proofs.YtfmjdlogjmofbaaGreatDoor
section
open Go.RowKit Limb Det
theorem oQ(f:Nat→Int)(m:Nat):(wC f m).length=m*2:=cX (k:=2) fun _ _=>rfl
def dZS(i j m:Nat):Nat→Pd:=fun a=>if a<i then dC (200+a) 0 m m else if a=i then tG 505 2 j else ex (.slice none 0 0)
theorem nZm{f:Nat→Int}{K:Nat}:∀{n:Nat},(∀i,i<n→zl (f i)≤K)→zl (sm f n)≤K+n
 |0,_=>by
  have:zl 0=0:=by decide
  show zl 0≤_;rw[this];omega
 |n+1,h=>by
  have h1:=nZm fun i (hi:i<n)=>h i oM;have h2:=h n oM;have h3:=oP (sm f n) (f n);show zl (sm f n+f n)≤_;omega
theorem zl_sg(i:Nat)(x:Int):zl (sg i*x)=zl x:=by
 unfold sg;split
 ·rw[Int.one_mul]
 ·rw[Int.neg_mul,Int.one_mul,wZ]
theorem hZK{K:Nat}:∀{n:Nat} {M:Mx},(∀i j,i<n→j<n→zl (M i j)≤K)→zl (det n M)≤n*K+n*n+1
 |0,M,_=>by
  have:zl 1=1:=by decide
  show zl 1≤_;omega
 |n+1,M,h=>by
  have h1:zl (det (n+1) M)≤(K+(n*K+n*n+1))+(n+1):=nZm fun i hi=>by
   rw[Int.mul_assoc,zl_sg];have a1:=dU (M i 0) (det n (mn i M));have a2:=h i 0 hi oM;have a3:=hZK (n:=n) (M:=mn i M) fun r c hr hc=>h _ _ (xM hr) oM;omega
  have e1:(n+1)*K=n*K+K:=Nat.succ_mul n K;have e2:(n+1)*(n+1)=n*n+2*n+1:=by rw[Nat.succ_mul,Nat.mul_succ];omega
  omega
theorem mD{K n:Nat}{M:Mx}(hn:n≤9)(h:∀i j,i<n→j<n→zl (M i j)≤K):zl (det n M)≤9*K+82:=by
 have h1:=hZK h;have h2:n*K≤9*K:=Nat.mul_le_mul_right _ hn;have h3:n*n≤9*9:=Nat.mul_le_mul hn hn;omega
theorem nZn{K n k i j:Nat}{M:Mx}(hn:n≤8)(h:∀i j,i<n→j<n→zl (M i j)≤K)(hk:k≤n)(hi:i<n)(hj:j<n):zl (bm M k i j)≤9*K+82:=
 mD oM fun r c hr hc=>h _ _ (by split<;>omega) (by split<;>omega)
structure DS(n K:Nat)(A:Nat→Nat→Int) where
 k:Nat
 neg:Bool
 last:Int
 π:Nat→Nat
 B:Nat→Nat→Int
 M:Nat→Nat→Int
 hk:k≤n
 el:El n A k neg last (fun i j=>B (π i) j) M
 hπ:∀i,i<n→π i<n
 inj:∀i j,i<n→j<n→π i=π j→i=j
 hM:∀i j,i<n→j<n→zl (M i j)≤K
theorem DS.zlB{n K:Nat}{A:Nat→Nat→Int}(s:DS n K A)(hn:n≤8){i j:Nat}(h1:s.k≤i)(h2:i<n)(h3:s.k≤j)(h4:j<n):zl (s.B (s.π i) j)≤9*K+82:=by
 rw[s.el.ent i j h1 h2 h3 h4];exact nZn hn s.hM s.hk h2 h4
theorem DS.zlL{n K:Nat}{A:Nat→Nat→Int}(s:DS n K A)(hn:n≤8):zl s.last≤9*K+82:=by
 rw[s.el.lst];have:=s.hk;exact mD oM fun i j hi hj=>s.hM i j oM oM
theorem DS.last_ne{n K:Nat}{A:Nat→Nat→Int}(s:DS n K A):s.last≠0:=by
 rw[s.el.lst];cases hk:s.k with
 |zero=>show(1:Int)≠0;omega
 |succ k=>exact s.el.ne k oM
section
variable(En:Ev)
theorem jZe(A:Nat→Nat→Int)(n m K:Nat)(hn8:n≤8)(hm:1≤m)(hm8:m≤8)(hK:K≤1099511627776)(hA:ZL A n m K):FnG PZ En 48 ([zmt A n m].map .one) [] (.own 400 0 n n) (mbx 400 200 (fun i=>i) n m (eD A n m)):=by
 refine bL Tryz.func48 rfl Tryz.ntmps48 rfl ?_;intro w0 h0 c;refine vS<|vZ jj<|vS<|jm jj<|jE jj<|jT (fV jj jj jj jj oM jj jj)<|vZ jj<|js<|vS<|jm jj<|jE jj<|jm jj<|jn<|jb ?_;refine WpD.loop (α:={i:Nat//i≤n}) (fun i=>⟨[(0,.one (zmt A n m)),(3,.own 400 0 n n),(11,.one (i6 n)),(12,.one (i6 i.1))],(400,aS (iZ 200 i.1 m) n)::rws 200 (eD A i.1 m)⟩) (fun i=>n-i.1) ⟨0,Nat.zero_le _⟩ ?_ ?_
 ·dsimp only
  refine Sub.mv 400 9 oM oM oM ⟨pK,⟨_,rfl,cI _ _,rfl,rfl,rfl,js0 rfl⟩,pK,pK,trivial⟩ ⟨BMv.to rfl rfl uG oM oM (congrArg some (fX [ex (.slice none 0 0)] n)) (fun i _=>⟨PLe.refl _,by unfold iZ;rw[if_neg oM];exact inferInstance⟩),mvBx.fam (fun j _=> .inl (iJ oM)) trivial⟩
 rintro⟨i,hi⟩;dsimp only
 by_cases hin:i<n
 ·refine vS<|vLt jj<|vW jj<|vS<|jm jj<|vZ jj<|vS<|vV jj jj<|jS (eE jj jj aO)<|vT jj<|jE jj<|jm jj<|jn<|jb ?_
  refine WpD.loop (α:={j:Nat//j≤m}) (fun j=>⟨[(0,.one (zmt A n m)),(3,.own 400 0 n n),(4,.one (i6 i)),(11,.one (i6 n)),(12,.one (i6 i)),(18,.one (zsl (A i) m)),(19,.one (i6 m)),(20,.one (i6 j.1))],(400,aS (dZS i j.1 m) n)::(rws 200 (eD A i m)++[(505,wC (A i) j.1),(755,[])])⟩) (fun j=>m-j.1) ⟨0,Nat.zero_le _⟩ ?_ ?_
  ·dsimp only
   refine Sub.mk ?_ ⟨.inl ⟨_,rfl,PsLe.of (cA fun a ha=>?_)⟩,subBx.fam fFm (fun r _=>PsLe.refl _) ⟨.inr rfl,.inr rfl,trivial⟩⟩ (LKeep.all ⟨.inr (fun p hp=>?_),lkAll.fam rfl ⟨.inl rfl,.inl rfl,trivial⟩⟩)
   ·repeat(first|exact trivial|refine jv rfl ?_|refine jw rfl (js0 rfl) ?_)
   ·unfold iZ dZS
    by_cases h1:a<i
    ·rw[if_pos h1,if_pos h1]
    ·rw[if_neg h1,if_neg h1]
     by_cases h2:a=i
     ·rw[if_pos h2];rfl
     ·rw[if_neg h2]
   ·obtain⟨a,ha,rfl⟩:=jH hp
    unfold dZS
    by_cases h1:a<i
    ·rw[if_pos h1];exact iL ((Fam.live fFm) a oM) uG
    ·rw[if_neg h1]
     by_cases h2:a=i
     ·rw[if_pos h2];exact dZo (js0 rfl) (js0 rfl)
     ·rw[if_neg h2];exact gX
  rintro⟨j,hj⟩;dsimp only
  by_cases hjm:j<m
  ·have C1:=nZQ En (A i j) (Nat.le_trans (hA i j hin hjm) hK)
   have hp:(aS (dZS i j m) n)[i*1]? =some (tG 505 2 j):=by rw[Nat.mul_one,yG hin];unfold dZS;rw[if_neg oM,if_pos rfl]
   have ho:i*1<(aS (dZS i j m) n).length:=by rw[eG];omega
   refine vS<|vLt jj<|vW jj<|vS<|jS (eU jj jj aO (fun _ _=>jj))<|vR jj<|vA jj<|vP jj<|jn<|jr<|vV jj jj<|vV jj jj<|jS (aF jj jj aO)<|jS (yD jj jj hp (js0 jj) (js0 jj))<|vL jj<|vC C1 ⟨jj,trivial⟩<|jS (bW (ps:=[(_,_)]) ⟨jj,Part.c jj,trivial⟩ jj jj jj)<|RG.SW (LT.plain jj (cC 533 jj jj ((oQ _ _)) jj oM oM jj jj jj jj jj jj)) jj<|jS (aF jj jj aO)<|jO (mX jj jj jj ho jj (by rw[Nat.mul_one,nB hin]))<|jn<|jr<|vAd jj wO<|jm jj<|jn ?_
   refine⟨⟨j+1,oM⟩,?_,oD⟩;dsimp only;refine Sub.mv 505 533 oM oM oM ⟨pK,⟨_,rfl,cJ oM oM,rfl,rfl,rfl,js0 rfl⟩,pK,pK,pK,pK,pK,pK,trivial⟩ ⟨BMv.out rfl oM oM uG rfl (fun a ha=>?_),mvBx.famK fFm oM oM oM (fun r _=>PsLe.refl _) ⟨BMv.at rfl rfl (fun _=>by unfold grows;omega) oM oM rfl (PsLe.refl _),.inl rfl,trivial⟩⟩ rfl rfl
   unfold dZS
   by_cases h2:a=i
   ·rw[if_pos h2,if_neg oM,if_pos h2]
    exact PMv.app (cI _ _) (fT _ _) (js0 rfl) (js0 rfl)
   ·rw[if_neg h2]
    by_cases h1:a<i
    ·rw[if_pos h1,if_pos h1]
     exact PMv.own (cJ oM oM) ((Fam.live fFm) a oM) uG uG
    ·rw[if_neg h1,if_neg h2,if_neg h1,if_neg h2]
     exact PMv.flat (PLe.refl _)
  ·have e:j=m:=oM
   subst e;refine vS<|vLf jj<|vU jj<|jr<|vAd jj wO<|jm jj<|jn ?_;refine⟨⟨i+1,oM⟩,?_,oD⟩;dsimp only;refine Sub.mv (200+i) 505 oM oM oM ⟨pK,⟨_,rfl,cJ oM oM,rfl,rfl,rfl,js0 rfl⟩,pK,pK,trivial⟩ ⟨BMv.out rfl oM oM uG rfl (fun a ha=>?_),mvBx.fam (fun r hr=>?_) trivial⟩ rfl ?_
   ·unfold dZS iZ
    by_cases h1:a<i
    ·rw[if_pos h1,if_pos oM]
     exact PMv.own (cJ oM oM) ((Fam.live fFm) a oM) uG uG
    ·rw[if_neg h1]
     by_cases h2:a=i
     ·subst h2
      rw[if_pos rfl,if_pos oM];exact PMv.fix (cI _ _) oM ((Fam.live fFm) a oM) uG
     ·rw[if_neg h2,if_neg oM]
      exact PMv.flat (PLe.refl _)
   ·by_cases h2:r=i
    ·subst h2
     exact BMv.at (eT oM) rfl uG oM oM rfl (PsLe.of (cM oM).symm)
    ·refine BMv.keep (eT oM) oM oM uG ((show Fam _ 200 (eD A i j) from fFm) r hr) (PsLe.of ?_)
     by_cases h1:r<i
     ·rw[cM h1,cM oM]
     ·rw[iJ h1,iJ oM]
   ·dsimp only
    rw[aC,if_neg oM,kN,if_neg oM];rfl
 ·have e:i=n:=oM
  subst e;refine vS<|vLf jj<|vU jj<|vS<|jm jj<|vZ jj<|ji ?_;refine kC rfl rfl (SLe.rfl' _) (js0 rfl) ⟨.inl ⟨_,rfl,PsLe.of (mQ ..)⟩,subBx.fam fFm (fun _ _=>PsLe.refl _) trivial⟩ (LKeep.all ⟨.inr (bI (Fam.live fFm) oM oM),lkAll.fam rfl trivial⟩)
theorem mcopy(A:Nat→Nat→Int)(n m K:Nat)(hn8:n≤8)(hm:1≤m)(hm8:m≤8)(hK:K≤1099511627776)(hA:ZL A n m K):Fn PZ En 48 [zmt A n m] (zmt A n m):=
 FnX.const1 (jZe En A n m K hn8 hm hm8 hK hA) (fun i hi=>oM) (fun i hi=>cM hi) (fun _ _ _ _=>rfl)
end
end
section
open Go.RowKit Limb Det
structure DP(n K k:Nat)(A:Nat→Nat→Int)(last:Int) where
 neg:Bool
 π:Nat→Nat
 B:Nat→Nat→Int
 M:Nat→Nat→Int
 el:El n A k neg last (fun i j=>B (π i) j) M
 hπ:∀i,i<n→π i<n
 inj:∀i j,i<n→j<n→π i=π j→i=j
 hM:∀i j,i<n→j<n→zl (M i j)≤K
 hz:B (π k) k≠0
def dnw(k:Nat)(last:Int)(π:Nat→Nat)(B:Nat→Nat→Int)(a c:Nat):Int:=(B (π k) k*B (π a) c-B (π a) k*B (π k) c)/last
theorem lZt{n k p:Nat}{π:Nat→Nat}(hk:k<n)(hp:p<n)(h:∀i j,i<n→j<n→π i=π j→i=j):∀i j,i<n→j<n→π (if i=k then p else if i=p then k else i)=π (if j=k then p else if j=p then k else j)→i=j:=fun i j hi hj e=>by
 have:=h _ _ (by split<;>(try split)<;>omega) (by split<;>(try split)<;>omega) e
 split at this<;>split at this<;>(try split at this)<;>(try split at this)<;>omega
section
variable(En:Ev)
theorem jZd(A:Nat→Nat→Int)(n K:Nat)(hn:1≤n)(hn8:n≤8)(hK:K≤1000000)(hA:ZL A n n K):Fn PZ En 21 [zmt A n n] (zC (det n A)):=by
 have CC:=jZe En A n n K hn8 hn hn8 oM hA;have CS:=iH En 1 oM oM;refine aA Tryz.func21 rfl Tryz.ntmps21 rfl ?_;intro w0 h0;refine vS<|vA jj<|vJ<|jm jj<|RG.SW (LT.plain jj (lA 400 200 CC ⟨jj,trivial⟩ (by intro i hi;omega) jj)) jj<|vZ jj<|vS<|jm jj<|jS (cP jj CSlice.ok)<|vZ jj<|vS<|vC CS ⟨jj,trivial⟩<|vA jj<|vP jj<|vZ jj<|js<|vS<|vZ jj<|jb ?_
 refine WpD.loop (α:=DS n K A) (fun s=>⟨[(2,.ptr 2 0),(3,.own 400 0 n n),(4,.one (i6 n)),(5,.ptr 5 0),(6,.one (ex (.bool s.neg))),(7,.one (i6 s.k))],(400,aS (fun j=>dC (200+s.π j) 0 n n) n)::(rws 200 (eD s.B n n)++[(5,cV s.last),(2,[ex (.bool false),ex (.slice none 0 0)])])⟩) (fun s=>n-s.k) ⟨0,false,1,fun i=>i,A,A,oM,El.start n A,fun i h=>h,fun i j _ _ h=>h,hA⟩ ?_ ?_
 ·dsimp only
  exact Sub.mk sJ ⟨.inl pQ,subBx.fam fFm (fun r _=>PsLe.of rfl) ⟨.inl pQ,.inl pQ,trivial⟩⟩ (LKeep.all ⟨.inr (bI (π:=fun i=>i) (Fam.live fFm) oM oM),lkAll.fam rfl ⟨.inl rfl,.inl rfl,trivial⟩⟩)
 intro s;have szL:=s.zlL hn8;have szB:=fun {i j:Nat}=>s.zlB hn8 (i:=i) (j:=j);have hl0:=s.last_ne;obtain⟨k,neg,last,π,B,M,hk,el,hπ,hinj,hM⟩:=s;dsimp only at*
 by_cases hkn:k<n
 ·refine js<|vS<|vV jj jj<|vLt jj<|jn<|jt jj<|jp<|js<|jb<|vS<|jm jj<|vZ jj<|js<|jb ?_
  refine WpD.loop (α:={p:Nat//k≤p∧p≤n∧(∀i,k≤i→i<p→B (π i) k=0)}) (fun p=>⟨[(2,.ptr 2 0),(3,.own 400 0 n n),(4,.one (i6 n)),(5,.ptr 5 0),(6,.one (ex (.bool neg))),(7,.one (i6 k)),(8,.one (i6 p.1))],(400,aS (fun j=>dC (200+π j) 0 n n) n)::(rws 200 (eD B n n)++[(5,cV last),(2,[ex (.bool false),ex (.slice none 0 0)])])⟩) (fun p=>n-p.1) ⟨k,oM,oM,fun i h1 h2=>oM⟩ ?_ ?_
  ·dsimp only
   exact Sub.mk sJ ⟨.inl pQ,subBx.fam fFm (fun r _=>PsLe.of rfl) ⟨.inl pQ,.inl pQ,trivial⟩⟩ (LKeep.all ⟨.inr (bI (π:=π) (Fam.live fFm) oM (fun i hi=>by have:=hπ i hi;omega)),lkAll.fam rfl ⟨.inl rfl,.inl rfl,trivial⟩⟩)
  rintro⟨p,hp1,hp2,hp3⟩;dsimp only
  by_cases hpn:p<n
  ·have hpp:=hπ p hpn
   have he:eD B n n (π p)=rowL (fun c=>cV (B (π p) c)) n:=cM hpp;have C1:=gZ1 En (B (π p) k) (Nat.le_trans (szB hp1 hpn oM hkn) oM)
   by_cases hz:B (π p) k=0
   ·have b1:(sg3 (B (π p) k)==0)=true:=by rw[hz];rfl
    refine js<|vS<|vV jj jj<|vLt jj<|jm jj<|jgm jj<|jgm jj<|jg (aF jj jj aO) ?_;refine jg (bB jj jj aO jj aG)<|jgm jj<|jg (aF jj jj aO)<|jg (lR jj fFm aO aR aO (fun _ _=>jj)) ?_;refine jg (aQ C1 ⟨jj,trivial⟩)<|jg (bVq jj jj b1)<|vq jj<|jn<|jt jj<|jp<|jb<|jr<|jm jj<|vAd jj wO<|vZ jj ?_;refine⟨⟨p+1,oM,oM,fun i h1 h2=>?_⟩,?_,oD⟩
    ·by_cases e:i=p
     ·rw[e];exact hz
     ·exact hp3 i h1 oM
    ·dsimp only
     exact Sub.mk sJ ⟨.inl pQ,subBx.fam fFm (fun r _=>PsLe.of rfl) ⟨.inl pQ,.inl pQ,trivial⟩⟩ (LKeep.all ⟨.inr (bI (π:=π) (Fam.live fFm) oM (fun i hi=>by have:=hπ i hi;omega)),lkAll.fam rfl ⟨.inl rfl,.inl rfl,trivial⟩⟩)
   ·have b1:(sg3 (B (π p) k)==0)=false:=by
     unfold sg3;split<;>(try split)<;>first|rfl|(exfalso;omega)
    have b2:((p:Int)==(n:Int))=false:=beqF oM;refine js<|vS<|vV jj jj<|vLt jj<|jm jj<|jgm jj<|jgm jj<|jg (aF jj jj aO) ?_;refine jg (bB jj jj aO jj aG)<|jgm jj<|jg (aF jj jj aO)<|jg (lR jj fFm aO aR aO (fun _ _=>jj)) ?_;refine jg (aQ C1 ⟨jj,trivial⟩)<|jg (bVq jj jj b1)<|vq jj<|jn<|jf jj<|je<|js<|vS<|vV jj jj<|jS (bVq jj jj b2)<|jn<|jf jj<|jp ?_;refine WpD.cut (α:=DP n K k A last) (fun s=>⟨[(2,.ptr 2 0),(3,.own 400 0 n n),(4,.one (i6 n)),(5,.ptr 5 0),(6,.one (ex (.bool s.neg))),(7,.one (i6 k))],(400,aS (fun j=>dC (200+s.π j) 0 n n) n)::(rws 200 (eD s.B n n)++[(5,cV last),(2,[ex (.bool false),ex (.slice none 0 0)])])⟩) ?_ ?_
    ·by_cases hpk:p=k
     ·subst hpk
      have b3:decide ((p:Int)>(p:Int))=false:=decide_eq_false oM;refine kR ?_;refine vV jj jj<|jS (bVg jj jj b3)<|jn ?_;refine kO ?_;refine WpD.condF rfl ?_;refine kO ?_;refine WpD.skip ?_;refine⟨⟨neg,π,B,M,el,hπ,hinj,hM,hz⟩,?_⟩;dsimp only;exact Sub.mk sJ ⟨.inl pQ,subBx.fam fFm (fun r _=>PsLe.of rfl) ⟨.inl pQ,.inl pQ,trivial⟩⟩ (LKeep.all ⟨.inr (bI (π:=π) (Fam.live fFm) oM (fun i hi=>by have:=hπ i hi;omega)),lkAll.fam rfl ⟨.inl rfl,.inl rfl,trivial⟩⟩)
     ·have b3:decide ((p:Int)>(k:Int))=true:=decide_eq_true oM
      have hpk':=hπ k hkn;refine kR ?_;refine vV jj jj<|jS (bVg jj jj b3)<|jn ?_;refine kO ?_;refine WpD.condT rfl ?_;refine kR ?_;refine vV jj jj<|vV jj jj<|vV jj jj<|jS (aF jj jj aO) ?_;refine jS (bB jj jj aO jj aG)<|vV jj jj<|jS (aF jj jj aO) ?_;refine jS (bB jj jj aO jj aG)<|jS (aF jj jj aO)<|jO (fN jj jj jj aO aG)<|jS (aF jj jj aO)<|jO (fN jj jj jj aO aG)<|jn ?_;refine kR ?_;refine jm jj<|jS (bNo jj)<|vZ jj ?_;refine⟨⟨!neg,fun i=>π (if i=k then p else if i=p then k else i),B,rsw k p M,el.swap oM hpn,fun i hi=>hπ _ (by split<;>(try split)<;>omega),lZt hkn hpn hinj,fun i j hi hj=>?_,?_⟩,?_⟩
      ·unfold rsw;exact hM _ _ (by split<;>(try split)<;>omega) hj
      ·rw[if_pos rfl];exact hz
      ·skip
       refine Sub.mk ?_ ⟨.inl ⟨_,rfl,PsLe.of (cA fun j _=>?_)⟩,subBx.fam fFm (fun r _=>PsLe.of rfl) ⟨.inl pQ,.inl pQ,trivial⟩⟩ (LKeep.all ⟨.inr (bI (π:=fun i=>π (if i=k then p else if i=p then k else i)) (Fam.live fFm) oM (fun i hi=>by have:=hπ _ (show(if i=k then p else if i=p then k else i)<n by split<;>(try split)<;>omega);omega)),lkAll.fam rfl ⟨.inl rfl,.inl rfl,trivial⟩⟩)
       ·repeat(first|exact trivial|refine jv rfl ?_|refine jw rfl (js0 rfl) ?_)
       dsimp only
       by_cases h1:j=k
       ·rw[if_pos h1,if_pos h1]
       ·rw[if_neg h1,if_neg h1]
        by_cases h2:j=p
        ·rw[if_pos h2,if_pos h2]
        ·rw[if_neg h2,if_neg h2]
    ·rintro⟨neg,π,B,M,el,hπ,hinj,hM,hz⟩
     have szB:∀{i j:Nat},k≤i→i<n→k≤j→j<n→zl (B (π i) j)≤9*K+82:=fun h1 h2 h3 h4=>(DS.mk (K:=K) k neg last π B M hk el hπ hinj hM).zlB hn8 h1 h2 h3 h4;skip
     skip
     have hpk':=hπ k hkn;have sk:=szB (Nat.le_refl k) hkn (Nat.le_refl k) hkn;refine kR ?_;refine jm jj<|vAd jj wO<|vZ jj<|jb ?_;refine WpD.loop (α:={x:Nat×(Nat→Nat→Int)//k<x.1∧x.1≤n∧∀a c,a<n→c<n→x.2 (π a) c=if k<a∧k<c∧a<x.1 then dnw k last π B a c else B (π a) c}) (fun x=>⟨[(2,.ptr 2 0),(3,.own 400 0 n n),(4,.one (i6 n)),(5,.ptr 5 0),(6,.one (ex (.bool neg))),(7,.one (i6 k)),(9,.one (i6 x.1.1))],(400,aS (fun j=>dC (200+π j) 0 n n) n)::(rws 200 (eD x.1.2 n n)++[(5,cV last),(2,[ex (.bool false),ex (.slice none 0 0)])])⟩) (fun x=>n-x.1.1) ⟨(k+1,B),oD,oD,fun a c _ _=>by dsimp only;rw[if_neg oM]⟩ ?_ ?_
     ·dsimp only
      exact Sub.mk sJ ⟨.inl pQ,subBx.fam fFm (fun r _=>PsLe.of rfl) ⟨.inl pQ,.inl pQ,trivial⟩⟩ (LKeep.all ⟨.inr (bI (π:=π) (Fam.live fFm) oM (fun i hi=>by have:=hπ i hi;omega)),lkAll.fam rfl ⟨.inl rfl,.inl rfl,trivial⟩⟩)
     rintro⟨⟨i,B1⟩,hi1,hi2,hB1⟩;replace hi1:k<i:=hi1;replace hi2:i≤n:=hi2;replace hB1:∀a c,a<n→c<n→B1 (π a) c=if k<a∧k<c∧a<i then dnw k last π B a c else B (π a) c:=hB1;dsimp only
     by_cases hin:i<n
     ·have hpi:=hπ i hin
      refine js<|vS<|vV jj jj<|vLt jj<|jn<|jt jj<|jp<|js<|jb<|vS<|jm jj<|vAd jj wO<|vZ jj<|jb ?_;refine WpD.loop (α:={x:Nat×(Nat→Nat→Int)//k<x.1∧x.1≤n∧∀a c,a<n→c<n→x.2 (π a) c=if k<a∧k<c∧(a<i∨a=i∧c<x.1) then dnw k last π B a c else B (π a) c}) (fun x=>⟨[(2,.ptr 2 0),(3,.own 400 0 n n),(4,.one (i6 n)),(5,.ptr 5 0),(6,.one (ex (.bool neg))),(7,.one (i6 k)),(9,.one (i6 i)),(10,.one (i6 x.1.1))],(400,aS (fun j=>dC (200+π j) 0 n n) n)::(rws 200 (eD x.1.2 n n)++[(5,cV last),(2,[ex (.bool false),ex (.slice none 0 0)])])⟩) (fun x=>n-x.1.1) ⟨(k+1,B1),oD,oD,fun a c ha hc=>by
       dsimp only;rw[hB1 a c ha hc]
       by_cases h1:k<a∧k<c∧a<i
       ·rw[if_pos h1,if_pos oM]
       ·rw[if_neg h1,if_neg oM]⟩ ?_ ?_
      ·dsimp only
       exact Sub.mk sJ ⟨.inl pQ,subBx.fam fFm (fun r _=>PsLe.of rfl) ⟨.inl pQ,.inl pQ,trivial⟩⟩ (LKeep.all ⟨.inr (bI (π:=π) (Fam.live fFm) oM (fun i hi=>by have:=hπ i hi;omega)),lkAll.fam rfl ⟨.inl rfl,.inl rfl,trivial⟩⟩)
      rintro⟨⟨j,B2⟩,hj1,hj2,hB2⟩;replace hj1:k<j:=hj1;replace hj2:j≤n:=hj2;replace hB2:∀a c,a<n→c<n→B2 (π a) c=if k<a∧k<c∧(a<i∨a=i∧c<j) then dnw k last π B a c else B (π a) c:=hB2;dsimp only
      by_cases hjn:j<n
      ·have e1:B2 (π k) k=B (π k) k:=by rw[hB2 k k hkn hkn,if_neg oM]
       have e2:B2 (π i) j=B (π i) j:=by rw[hB2 i j hin hjn,if_neg oM]
       have e3:B2 (π i) k=B (π i) k:=by rw[hB2 i k hin hkn,if_neg oM]
       have e4:B2 (π k) j=B (π k) j:=by rw[hB2 k j hkn hjn,if_neg oM]
       have s1:=szB (i:=i) (j:=j) oM hin oM hjn;have s2:=szB (i:=i) (j:=k) oM hin oM hkn;have s3:=szB (i:=k) (j:=j) oM hkn oM hjn;have t1:=dU (B (π k) k) (B (π i) j);have t2:=dU (B (π i) k) (B (π k) j);have t3:zl (B (π k) k*B (π i) j-B (π i) k*B (π k) j)≤max (zl (B (π k) k*B (π i) j)) (zl (B (π i) k*B (π k) j))+1:=by
        have:=oP (B (π k) k*B (π i) j) (-(B (π i) k*B (π k) j));rw[wZ] at this;exact this
       have C1:=wI En (B2 (π k) k) (B2 (π i) j) (by rw[e1];omega) (by rw[e2];omega)
       have C2:=wI En (B2 (π i) k) (B2 (π k) j) (by rw[e3];omega) (by rw[e4];omega)
       have C3:=csub En (B2 (π k) k*B2 (π i) j) (B2 (π i) k*B2 (π k) j) (by rw[e1,e2];show zl _≤_;omega) (by rw[e3,e4];show zl _≤_;omega)
       have C4:=mZ7 En (B2 (π k) k*B2 (π i) j-B2 (π i) k*B2 (π k) j) last (by rw[e1,e2,e3,e4];omega) oM hl0
       have hek:eD B2 n n (π k)=rowL (fun c=>cV (B2 (π k) c)) n:=cM hpk';have hei:eD B2 n n (π i)=rowL (fun c=>cV (B2 (π i) c)) n:=cM hpi;refine js<|vS<|vV jj jj<|vLt jj<|jn<|jt jj<|jp<|js<|jb<|jr<|vV jj jj<|jS (aF jj jj aO) ?_;refine jS (bB jj jj aO jj aG)<|vV jj jj<|jm jj<|jS (aF jj jj aO) ?_;refine jS (bB jj jj aO jj aG)<|jm jj<|jS (aF jj jj aO)<|jS (lR jj fFm aO aR aO (fun _ _=>jj)) ?_;refine vV jj jj<|jS (aF jj jj aO) ?_;refine jS (bB jj jj aO jj aG)<|jm jj<|jS (aF jj jj aO)<|jS (lR jj fFm aO aR aO (fun _ _=>jj)) ?_;refine vC C1 ⟨jj,jj,trivial⟩<|vV jj jj<|jS (aF jj jj aO) ?_;refine jS (bB jj jj aO jj aG)<|jm jj<|jS (aF jj jj aO)<|jS (lR jj fFm aO aR aO (fun _ _=>jj)) ?_;refine vV jj jj<|jS (aF jj jj aO) ?_;refine jS (bB jj jj aO jj aG)<|jm jj<|jS (aF jj jj aO)<|jS (lR jj fFm aO aR aO (fun _ _=>jj)) ?_;refine vC C2 ⟨jj,jj,trivial⟩<|vC C3 ⟨jj,jj,trivial⟩<|vL jj<|vC C4 ⟨jj,jj,trivial⟩<|jS (aF jj jj aO)<|RG.NW (LT.plain jj (pT jj jj fFm aO aR aO (fun _ _=>jj))) jj ?_;refine jn<|jr<|jm jj<|vAd jj wO<|vZ jj ?_;refine⟨⟨(j+1,upm B2 (π i) j (dnw k last π B i j)),oD,oD,fun a c ha hc=>?_⟩,?_,oD⟩
       ·dsimp only
        unfold upm
        by_cases h1:a=i∧c=j
        ·obtain⟨rfl,rfl⟩:=h1
         rw[if_pos ⟨rfl,rfl⟩,if_pos oM]
        ·rw[if_neg (fun h=>h1 ⟨hinj _ _ ha hin h.1,h.2⟩),hB2 a c ha hc]
         by_cases h2:k<a∧k<c∧(a<i∨a=i∧c<j)
         ·rw[if_pos h2,if_pos oM]
         ·rw[if_neg h2,if_neg oM]
       ·dsimp only
        have hnew:dnw k last π B i j=(B2 (π k) k*B2 (π i) j-B2 (π i) k*B2 (π k) j)/last:=by unfold dnw;rw[e1,e2,e3,e4]
        rw[hnew];exact Sub.mk sJ ⟨.inl pQ,subBx.fam fFm (fun r _=>PsLe.of (congrFun (lQ hpi) r)) ⟨.inl pQ,.inl pQ,trivial⟩⟩ (LKeep.all ⟨.inr (bI (π:=π) (Fam.live fFm) oM (fun i hi=>by have:=hπ i hi;omega)),lkAll.fam rfl ⟨.inl rfl,.inl rfl,trivial⟩⟩)
      ·refine js<|vS<|vV jj jj<|vLf jj<|jn<|jf jj<|je<|jr<|jm jj<|vAd jj wO<|vZ jj ?_
       refine⟨⟨(i+1,B2),oD,oD,fun a c ha hc=>?_⟩,?_,oD⟩
       ·dsimp only
        rw[hB2 a c ha hc]
        by_cases h2:k<a∧k<c∧(a<i∨a=i∧c<j)
        ·rw[if_pos h2,if_pos oM]
        ·rw[if_neg h2,if_neg oM]
       ·dsimp only
        exact Sub.mk sJ ⟨.inl pQ,subBx.fam fFm (fun r _=>PsLe.of rfl) ⟨.inl pQ,.inl pQ,trivial⟩⟩ (LKeep.all ⟨.inr (bI (π:=π) (Fam.live fFm) oM (fun i hi=>by have:=hπ i hi;omega)),lkAll.fam rfl ⟨.inl rfl,.inl rfl,trivial⟩⟩)
     ·have ein:i=n:=oM
      have e1:B1 (π k) k=B (π k) k:=by rw[hB1 k k hkn hkn,if_neg oM]
      have hek:eD B1 n n (π k)=rowL (fun c=>cV (B1 (π k) c)) n:=cM hpk';refine js<|vS<|vV jj jj<|vLf jj<|jn<|jf jj<|je<|jr<|vV jj jj<|jS (aF jj jj aO) ?_;refine jS (bB jj jj aO jj aG)<|jm jj<|jS (aF jj jj aO)<|jS (lR jj fFm aO aR aO (fun _ _=>jj)) ?_;refine vP jj<|jn<|jr<|jm jj<|vAd jj wO<|vZ jj ?_;refine⟨⟨k+1,neg,B (π k) k,π,B1,M,oM,el.step' hkn hz fun a c h1 h2 h3 h4=>?_,hπ,hinj,hM⟩,?_,oD⟩
      ·rw[hB1 a c h2 h4,if_pos oM];rfl
      ·dsimp only
       rw[←e1];exact Sub.mk sJ ⟨.inl pQ,subBx.fam fFm (fun r _=>PsLe.of rfl) ⟨.inl pQ,.inl pQ,trivial⟩⟩ (LKeep.all ⟨.inr (bI (π:=π) (Fam.live fFm) oM (fun i hi=>by have:=hπ i hi;omega)),lkAll.fam rfl ⟨.inl rfl,.inl rfl,trivial⟩⟩)
  ·have e:p=n:=oM
   subst e;have b2:((p:Int)==(p:Int))=true:=beqT rfl;refine js<|vS<|vV jj jj<|vLf jj<|jm jj<|jk<|jk<|jk<|jk<|jk<|jk<|jk<|jk<|jk<|vQ jj<|jn<|jf jj<|je<|js<|vS<|vV jj jj<|jS (bVq jj jj b2)<|jn<|jt jj<|vS<|jS (aU (ps:=[]) trivial jj)<|vP jj<|jn<|ji ?_;refine wD rfl (.cell rfl rfl CRow.ok rfl) ?_;rw[el.none hkn hp3];exact eZx
 ·have e:k=n:=oM
  subst e;have mZa:det k A=(bif neg then-last else last):=by
   have h1:=el.val;have h2:=el.lst;rw[←h2] at h1;cases neg<;>simp at h1 ⊢<;>omega
  rw[mZa];cases neg with
  |true=>
   have C1:=cneg En last oM;refine js<|vS<|vV jj jj<|vLf jj<|jn<|jf jj<|je<|js<|vS<|jm jj<|jn<|jt jj<|vS<|vL jj<|vC C1 ⟨jj,trivial⟩<|vP jj<|jn<|ji ?_;exact rtC rfl jj jj
  |false=>
   refine js<|vS<|vV jj jj<|vLf jj<|jn<|jf jj<|je<|js<|vS<|jm jj<|jn<|jf jj<|jp<|vS<|vL jj<|vP jj<|jn<|ji ?_;exact rtC rfl jj jj
end
end
section
open Go.RowKit Limb Det
instance pZO:CSlice Tryz.prog 193 3:=⟨Tryz.underlying193⟩
instance qZs:CElem Tryz.prog 193 3 1:=⟨Tryz.underlying193,by kernel_rfl⟩
instance qZi:CRowZ Tryz.prog 3 1 [.int .i64 0] 8:=⟨by kernel_rfl,rfl,rfl⟩
instance kb155:CBody PZ 155:=cB Tryz.func155
instance kb110:CBody PZ 110:=cB Tryz.func110
instance kb105:CBody PZ 105:=cB Tryz.func105
instance kb106:CBody PZ 106:=cB Tryz.func106
instance kb46:CBody PZ 46:=cB Tryz.func46
instance kb52:CBody PZ 52:=cB Tryz.func52
def iX(r:Nat→Nat)(n:Nat):List Pd:=aS (fun a=>i6 ((r a:Nat):Int)) n
def isl(r:Nat→Nat)(n:Nat):Pd:=slc 1 (iX r n) n
instance(r:Nat→Nat)(n:Nat):CLen (isl r n) n:=by unfold isl;exact inferInstance
instance(r:Nat→Nat)(n:Nat):C1 (isl r n):=by unfold isl;exact inferInstance
theorem pI{A B:Nat→Nat→Int}{n m:Nat}(h:∀i j,i<n→j<m→A i j=B i j):zmt A n m=zmt B n m:=by
 unfold zmt cmt;rw[cA (g':=fun i=>slc 2 (rowL (fun c=>cV (B i c)) m) m) fun i hi=>by rw[cY (e':=fun c=>cV (B i c)) fun j hj=>by show cV _=cV _;rw[h i j hi hj]]]
theorem hZ(r:Nat→Nat)(n:Nat):(iX r n).length=n*1:=by rw[Nat.mul_one];exact eG ..
theorem dZ5{r:Nat→Nat}{n i:Nat}(h:i<n):((iX r n).drop (i*1)).take 1=[i6 ((r i:Nat):Int)]:=fY (e:=fun a=>[i6 ((r a:Nat):Int)]) (fun _ _=>rfl) h
def kB(k more:Nat):Nat→Nat:=fun a=>if a<k then a else more
section
variable(En:Ev)
theorem oZT(k more:Nat)(hk:k≤8):Fn PZ En 155 [i6 k,i6 more] (isl (kB k more) (k+1)):=by
 refine aA Tryz.func155 rfl Tryz.ntmps155 rfl ?_;intro w0 h0;refine vS<|vZ jj<|vS<|vZ jj<|js<|vS<|vZ jj<|jb ?_;refine WpD.loop (α:={i:Nat//i≤k}) (fun i=>⟨[(0,.one (i6 k)),(1,.one (i6 more)),(5,.app 505 1 i.1),(6,.one (i6 i.1))],[(505,iX (fun a=>a) i.1),(755,[])]⟩) (fun i=>k-i.1) ⟨0,Nat.zero_le _⟩ ?_ ?_
 ·dsimp only
  exact Sub.mk sJ ⟨.inr jj,.inr jj,trivial⟩
 rintro⟨i,hi⟩;dsimp only
 by_cases hin:i<k
 ·refine js<|vS<|vV jj jj<|vLt jj<|jn<|jt jj<|jp<|js<|jb<|jr<|vV jj jj<|jS (bW (ps:=[(_,_)]) ⟨jj,Part.c jj,trivial⟩ jj jj jj)<|RG.SW (LT.plain jj (cC 515 jj jj ((hZ _ _)) jj oM oM jj jj jj jj jj jj)) jj<|vZ jj<|jr<|jm jj<|vAd jj wO<|vZ jj ?_
  refine⟨⟨i+1,oM⟩,?_,oD⟩;dsimp only;refine Sub.ren 505 515 rfl ?_ ?_ rfl
  ·repeat(first|exact trivial|refine⟨.inl ⟨pK,trivial,trivial⟩,?_⟩|refine⟨.inr ⟨_,_,rfl,.inl rfl,⟨oN,oN⟩⟩,?_⟩|refine⟨.inl ⟨⟨_,rfl,rfl⟩,oN,⟨aD,aD⟩⟩,?_⟩|refine⟨.inl ⟨⟨_,rfl,rfl⟩,⟨oN,oN⟩,⟨aD,aD,aD,aD⟩⟩,?_⟩|refine⟨.inl ⟨⟨_,rfl,rfl⟩,clo_live oN oN,clo_avoid aD aD aD aD⟩,?_⟩|refine⟨.inr ⟨_,_,rfl,.inr ⟨oM,rfl⟩,oN⟩,?_⟩)
  ·repeat(first|exact trivial|refine⟨.inr ⟨aD,.inr rfl⟩,?_⟩|refine⟨.inl ⟨rfl,_,rfl,PsLe.refl _⟩,?_⟩|refine⟨.inr ⟨aD,.inl ⟨aD,_,rfl,PsLe.refl _⟩⟩,?_⟩)
 ·have e:i=k:=oM
  subst e;refine js<|vS<|vV jj jj<|vLf jj<|jn<|jf jj<|je<|js ?_;refine kR ?_;refine vV jj jj<|jS (bW (ps:=[(_,_)]) ⟨jj,Part.c jj,trivial⟩ jj jj jj)<|RG.SW (LT.plain jj (cC 519 jj jj ((hZ _ _)) jj oM oM jj jj jj jj jj jj)) jj<|vZ jj ?_;refine WpD.sub (τ:=⟨[(4,.one (isl (kB i more) (i+1)))],[]⟩) ?_ ?_
  ·refine Sub.pub 519 rfl rfl ⟨.inr (.inr (.inl ⟨1,i+1,_,rfl,rfl,?_,?_⟩)),trivial⟩ trivial rfl
   ·show(iX _ i++[_]).length=_
    rw[List.length_append,hZ];simp
   ·have:iX (fun a=>a) i++[i6 more]=iX (kB i more) (i+1):=by
     unfold iX;rw[aS,aS,rowL];rw[cY (e':=fun a=>[i6 ((kB i more a:Nat):Int)]) fun a ha=>by unfold kB;rw[if_pos ha]]
     unfold kB;rw[if_neg (Nat.lt_irrefl i)]
    show PLe (slc 1 (iX (fun a=>a) i++[i6 more]) (i+1)) _
    rw[this];exact PLe.refl _
  refine kO ?_;refine WpD.ret ?_;exact rtT rfl jj
theorem gZb(A:Nat→Nat→Int)(n m k l:Nat)(r c:Nat→Nat)(hk:k≤8)(hl:l≤8)(hr:∀i,i<k→r i<n)(hc:∀j,j<l→c j<m):Fn PZ En 154 [zmt A n m,isl r k,isl c l] (zmt (fun i j=>A (r i) (c j)) k l):=by
 refine aA Tryz.func154 rfl Tryz.ntmps154 rfl ?_;intro w0 h0;refine vS<|vZ jj<|vS<|vZ jj<|js<|vS<|jm jj<|jE jj<|jm jj<|jn<|jb ?_;refine WpD.loop (α:={i:Nat//i≤k}) (fun i=>⟨[(0,.one (zmt A n m)),(2,.one (isl c l)),(7,.app 507 1 i.1),(13,.one (isl r k)),(14,.one (i6 k)),(15,.one (i6 i.1))],[(507,aS (fun i=>slc 2 (wC (fun j=>A (r i) (c j)) l) l) i.1),(757,[])]⟩) (fun i=>k-i.1) ⟨0,Nat.zero_le _⟩ ?_ ?_
 ·dsimp only
  exact Sub.mk sJ ⟨.inr jj,.inr jj,trivial⟩
 rintro⟨i,hi⟩;dsimp only
 by_cases hin:i<k
 ·have hx:=dZ5 (r:=r) hin
  have hri:=hr i hin;refine vS<|vLt jj<|vW jj<|vS<|vD jj aO aM<|vT jj<|vZ jj<|vS<|vZ jj<|js<|vS<|jm jj<|jE jj<|jm jj<|jn<|jb ?_;refine WpD.loop (α:={j:Nat//j≤l}) (fun j=>⟨[(0,.one (zmt A n m)),(2,.one (isl c l)),(7,.app 507 1 i),(9,.one (i6 ((r i:Nat):Int))),(10,.app 510 2 j.1),(13,.one (isl r k)),(14,.one (i6 k)),(15,.one (i6 i)),(19,.one (isl c l)),(20,.one (i6 l)),(21,.one (i6 j.1))],[(507,aS (fun i=>slc 2 (wC (fun j=>A (r i) (c j)) l) l) i),(757,[]),(510,wC (fun j=>A (r i) (c j)) j.1),(760,[])]⟩) (fun j=>l-j.1) ⟨0,Nat.zero_le _⟩ ?_ ?_
  ·dsimp only
   exact Sub.mk sJ ⟨.inl pQ,.inr jj,.inr jj,.inr jj,trivial⟩
  rintro⟨j,hj⟩;dsimp only
  by_cases hjl:j<l
  ·have hy:=dZ5 (r:=c) hjl
   have hcj:=hc j hjl;refine vS<|vLt jj<|vW jj<|vS<|vD jj aO aM<|vT jj<|vZ jj<|jr<|vV jj jj<|jm jj<|jS (eE jj jj aO)<|vT jj<|jm jj<|jS (eU jj jj aO (fun _ _=>jj))<|vR jj<|jS (bW (ps:=[(_,_)]) ⟨jj,Part.c jj,trivial⟩ jj jj jj)<|RG.SW (LT.plain jj (cC 534 jj jj ((oQ _ _)) jj oM oM jj jj jj jj jj jj)) jj<|vZ jj<|jr<|vAd jj wO<|jm jj<|jn ?_;refine⟨⟨j+1,oM⟩,?_,oD⟩;dsimp only;refine Sub.ren 510 534 rfl ?_ ?_ rfl
   ·repeat(first|exact trivial|refine⟨.inl ⟨pK,trivial,trivial⟩,?_⟩|refine⟨.inr ⟨_,_,rfl,.inl rfl,⟨oN,oN⟩⟩,?_⟩|refine⟨.inl ⟨⟨_,rfl,rfl⟩,oN,⟨aD,aD⟩⟩,?_⟩|refine⟨.inl ⟨⟨_,rfl,rfl⟩,⟨oN,oN⟩,⟨aD,aD,aD,aD⟩⟩,?_⟩|refine⟨.inl ⟨⟨_,rfl,rfl⟩,clo_live oN oN,clo_avoid aD aD aD aD⟩,?_⟩|refine⟨.inr ⟨_,_,rfl,.inr ⟨oM,rfl⟩,oN⟩,?_⟩)
   ·repeat(first|exact trivial|refine⟨.inr ⟨aD,.inr rfl⟩,?_⟩|refine⟨.inl ⟨rfl,_,rfl,PsLe.refl _⟩,?_⟩|refine⟨.inr ⟨aD,.inl ⟨aD,_,rfl,PsLe.refl _⟩⟩,?_⟩)
  ·have e:j=l:=oM
   subst e;refine vS<|vLf jj<|jn<|js<|jf jj<|je ?_;refine WpD.sub (τ:=⟨[(0,.one (zmt A n m)),(2,.one (isl c j)),(7,.app 507 1 i),(10,.one (slc 2 (wC (fun j=>A (r i) (c j)) j) j)),(13,.one (isl r k)),(14,.one (i6 k)),(15,.one (i6 i))],[(507,aS (fun i'=>slc 2 (wC (fun j=>A (r i') (c j)) j) j) i),(757,[])]⟩) ?_ ?_
   ·refine Sub.pub 510 rfl rfl ?_ ⟨.inl pQ,.inr rfl,trivial⟩ rfl
    refine⟨.inl ⟨pK,trivial⟩,.inl ⟨pK,trivial⟩,.inl ⟨⟨_,rfl,rfl⟩,js0 rfl,js0 rfl⟩,.inr (.inr (.inl ⟨2,j,_,rfl,rfl,oQ _ _,PLe.refl _⟩)),.inl ⟨pK,trivial⟩,.inl ⟨pK,trivial⟩,.inl ⟨pK,trivial⟩,trivial⟩
   refine kR ?_;refine vV jj jj<|jS (bW (ps:=[(_,_)]) ⟨jj,Part.c jj,trivial⟩ jj jj jj)<|RG.SW (LT.plain jj (cC 539 jj jj ((by rw[eG,Nat.mul_one])) jj oM oM jj jj jj jj jj jj)) jj<|vZ jj<|jr<|vAd jj wO<|jm jj<|jn ?_
   refine⟨⟨i+1,oM⟩,?_,oD⟩;dsimp only;refine Sub.ren 507 539 rfl ?_ ?_ rfl
   ·repeat(first|exact trivial|refine⟨.inl ⟨pK,trivial,trivial⟩,?_⟩|refine⟨.inr ⟨_,_,rfl,.inl rfl,⟨oN,oN⟩⟩,?_⟩|refine⟨.inl ⟨⟨_,rfl,rfl⟩,oN,⟨aD,aD⟩⟩,?_⟩|refine⟨.inl ⟨⟨_,rfl,rfl⟩,⟨oN,oN⟩,⟨aD,aD,aD,aD⟩⟩,?_⟩|refine⟨.inl ⟨⟨_,rfl,rfl⟩,clo_live oN oN,clo_avoid aD aD aD aD⟩,?_⟩|refine⟨.inr ⟨_,_,rfl,.inr ⟨oM,rfl⟩,oN⟩,?_⟩)
   ·repeat(first|exact trivial|refine⟨.inr ⟨aD,.inr rfl⟩,?_⟩|refine⟨.inl ⟨rfl,_,rfl,PsLe.refl _⟩,?_⟩|refine⟨.inr ⟨aD,.inl ⟨aD,_,rfl,PsLe.refl _⟩⟩,?_⟩)
 ·have e:i=k:=oM
  subst e;refine vS<|vLf jj<|vU jj<|js ?_;refine WpD.sub (τ:=⟨[(7,.one (zmt (fun i j=>A (r i) (c j)) i l))],[]⟩) ?_ ?_
  ·refine Sub.pub 507 rfl rfl ⟨.inr (.inr (.inl ⟨1,i,_,rfl,rfl,(by rw[eG,Nat.mul_one]),PLe.refl _⟩)),trivial⟩ trivial rfl
  refine kR ?_;refine jm jj<|vZ jj<|ji ?_;exact rtT rfl jj
theorem dZv(A:Nat→Nat→Int)(n K:Nat)(hn:1≤n)(hn8:n≤8)(hK:K≤1000000)(hA:ZL A n n K):Fn PZ En 110 [zmt A n n] (dK [zsl (fun k=>det (k+1) A) n,ex (.bool true)]):=by
 have C0:=gZa En A n hn hn8;refine aA Tryz.func110 rfl Tryz.ntmps110 rfl ?_;intro w0 h0;refine vS<|ja jj<|vZ jj<|vS<|jm jj<|vC C0 tA<|jm jj<|vE jj<|vE jj<|ja jj<|vZ jj<|js<|vS<|jm jj<|jS (bNo jj)<|jn<|jf jj<|jp<|vS<|vZ jj<|js<|vS<|vZ jj<|jb ?_;refine WpD.loop (α:={i:Nat//i≤n}) (fun i=>⟨[(0,.one (zmt A n n)),(4,.one (i6 n)),(6,.app 506 2 i.1),(7,.one (i6 i.1))],[(506,wC (fun k=>det (k+1) A) i.1),(756,[])]⟩) (fun i=>n-i.1) ⟨0,Nat.zero_le _⟩ ?_ ?_
 ·dsimp only
  exact Sub.mk sJ ⟨.inr jj,.inr jj,trivial⟩
 rintro⟨i,hi⟩;dsimp only
 by_cases hin:i<n
 ·have C1:=oZT En i i oM
  have C2:=gZb En A n n (i+1) (i+1) (kB i i) (kB i i) oM oM (fun a ha=>by unfold kB;split<;>omega) (fun a ha=>by unfold kB;split<;>omega)
  have e:zmt (fun a b=>A (kB i i a) (kB i i b)) (i+1) (i+1)=zmt A (i+1) (i+1):=pI fun a b ha hb=>by
   have:∀x,x<i+1→kB i i x=x:=fun x hx=>by unfold kB;split<;>omega
   rw[this a ha,this b hb]
  rw[e] at C2;have C3:=jZd En A (i+1) K oM oM hK fun a b ha hb=>hA a b oM oM;refine js<|vS<|vV jj jj<|vLt jj<|jn<|jt jj<|jp<|js<|jb<|jr<|vV jj jj<|vV jj jj<|vC C1 tB<|vV jj jj<|vC C1 tB<|vC C2 tC<|vC C3 tA<|jS (bW (ps:=[(_,_)]) ⟨jj,Part.c jj,trivial⟩ jj jj jj)<|RG.SW (LT.plain jj (cC 531 jj jj ((oQ _ _)) jj oM oM jj jj jj jj jj jj)) jj<|vZ jj<|jr<|jm jj<|vAd jj wO<|vZ jj ?_;refine⟨⟨i+1,oM⟩,?_,oD⟩;dsimp only;refine Sub.ren 506 531 rfl ?_ ?_ rfl
  ·repeat(first|exact trivial|refine⟨.inl ⟨pK,trivial,trivial⟩,?_⟩|refine⟨.inr ⟨_,_,rfl,.inl rfl,⟨oN,oN⟩⟩,?_⟩|refine⟨.inl ⟨⟨_,rfl,rfl⟩,oN,⟨aD,aD⟩⟩,?_⟩|refine⟨.inl ⟨⟨_,rfl,rfl⟩,⟨oN,oN⟩,⟨aD,aD,aD,aD⟩⟩,?_⟩|refine⟨.inl ⟨⟨_,rfl,rfl⟩,clo_live oN oN,clo_avoid aD aD aD aD⟩,?_⟩|refine⟨.inr ⟨_,_,rfl,.inr ⟨oM,rfl⟩,oN⟩,?_⟩)
  ·repeat(first|exact trivial|refine⟨.inr ⟨aD,.inr rfl⟩,?_⟩|refine⟨.inl ⟨rfl,_,rfl,PsLe.refl _⟩,?_⟩|refine⟨.inr ⟨aD,.inl ⟨aD,_,rfl,PsLe.refl _⟩⟩,?_⟩)
 ·have e:i=n:=oM
  subst e;refine js<|vS<|vV jj jj<|vLf jj<|jn<|jf jj<|je<|js ?_;refine WpD.sub (τ:=⟨[(6,.one (zsl (fun k=>det (k+1) A) i))],[]⟩) ?_ ?_
  ·refine Sub.pub 506 rfl rfl ⟨.inr (.inr (.inl ⟨2,i,_,rfl,rfl,oQ _ _,PLe.refl _⟩)),trivial⟩ trivial rfl
  refine kR ?_;refine jm jj<|ja jj<|vZ jj<|ji ?_;exact lB rfl (.tmp rfl) (.tmp rfl) (PLe.refl _)
theorem mZB{x y:Int}(h:x=y):(gJ x y !=0)=false:=by subst h;unfold gJ;simp
theorem yM(A:Nat→Nat→Int)(n K:Nat)(hn8:n≤8)(hK:K≤1000000)(hA:ZL A n n K)(hs:∀i j,i<n→j<n→A i j=A j i):Fn PZ En 105 [zmt A n n] (ex (.bool true)):=by
 refine aA Tryz.func105 rfl Tryz.ntmps105 rfl ?_;intro w0 h0;refine vS<|vZ jj<|js<|vS<|jm jj<|jE jj<|jm jj<|jn<|jb ?_;refine WpD.loop (α:={i:Nat//i≤n}) (fun i=>⟨[(0,.one (zmt A n n)),(6,.one (i6 n)),(7,.one (i6 i.1))],[]⟩) (fun i=>n-i.1) ⟨0,Nat.zero_le _⟩ ?_ ?_
 ·dsimp only
  exact Sub.mk sJ sJ
 rintro⟨i,hi⟩;dsimp only
 by_cases hin:i<n
 ·refine vS<|vLt jj<|vW jj<|vS<|jm jj<|vZ jj<|vS<|vZ jj<|jb ?_
  refine WpD.loop (α:={j:Nat//j≤i}) (fun j=>⟨[(0,.one (zmt A n n)),(3,.one (i6 i)),(4,.one (i6 j.1)),(6,.one (i6 n)),(7,.one (i6 i))],[]⟩) (fun j=>i-j.1) ⟨0,Nat.zero_le _⟩ ?_ ?_
  ·dsimp only
   exact Sub.mk sJ sJ
  rintro⟨j,hj⟩;dsimp only
  by_cases hjl:j<i
  ·have C1:=kZt En (A i j) (A j i) (Nat.le_trans (hA _ _ hin oM) oM) (Nat.le_trans (hA _ _ oM hin) oM)
   have b1:=mZB (hs i j hin oM);refine js<|vS<|vV jj jj<|vLt jj<|jn<|jt jj<|jp<|js<|jb<|vS<|vV jj jj<|jS (eE jj jj aO)<|vT jj<|jm jj<|jS (eU jj jj aO (fun _ _=>jj))<|vR jj<|vV jj jj<|jS (eE jj jj aO)<|vT jj<|jm jj<|jS (eU jj jj aO (fun _ _=>jj))<|vR jj<|vC C1 ⟨jj,jj,trivial⟩<|jS (bVn jj jj b1)<|jn<|jf jj<|jp<|jr<|jm jj<|vAd jj wO<|vZ jj ?_;refine⟨⟨j+1,oM⟩,?_,oD⟩;dsimp only;exact Sub.mk sJ sJ
  ·refine js<|vS<|vV jj jj<|vLf jj<|jn<|jf jj<|je<|jr<|vAd jj wO<|jm jj<|jn ?_
   refine⟨⟨i+1,oM⟩,?_,oD⟩;dsimp only;exact Sub.mk sJ sJ
 ·refine vS<|vLf jj<|vU jj<|vS<|vZ jj<|ji ?_
  exact rtT rfl jj
def bZG(A:Nat→Nat→Int)(n:Nat):Bool:=decide (∀k,k<n→0<det (k+1) A)
theorem fZF(x:Int):decide (sg3 x≤0)=decide (x≤0):=by
 unfold sg3
 by_cases h:x=0
 ·subst h;rfl
 ·rw[if_neg h]
  by_cases h2:x<0
  ·rw[if_pos h2,decide_eq_true (p:=x≤0) oM];rfl
  ·rw[if_neg h2,decide_eq_false (p:=x≤0) oM];rfl
theorem hZp(A:Nat→Nat→Int)(n K:Nat)(hn:1≤n)(hn8:n≤8)(hK:K≤1000000)(hA:ZL A n n K)(hs:∀i j,i<n→j<n→A i j=A j i):Fn PZ En 106 [zmt A n n] (ex (.bool (bZG A n))):=by
 have C0:=dZv En A n K hn hn8 hK hA;have C1:=yM En A n K hn8 hK hA hs;refine aA Tryz.func106 rfl Tryz.ntmps106 rfl ?_;intro w0 h0;refine vS<|vZ jj<|vS<|jm jj<|vC C0 ⟨jj,trivial⟩<|jm jj<|vE jj<|vE jj<|ja jj<|vZ jj<|js<|vS<|jm jj<|jS (bNo jj)<|jm jj<|jgm jj<|jg (aQ C1 ⟨jj,trivial⟩)<|jg (bNo jj)<|vQ jj<|jn<|jf jj<|jp<|js<|vS<|jm jj<|jE jj<|jm jj<|jn<|jb ?_;refine WpD.loop (α:={i:Nat//i≤n∧∀k,k<i→0<det (k+1) A}) (fun i=>⟨[(19,.one (zsl (fun k=>det (k+1) A) n)),(20,.one (i6 n)),(21,.one (i6 i.1))],[]⟩) (fun i=>n-i.1) ⟨0,Nat.zero_le _,fun k hk=>oM⟩ ?_ ?_
 ·dsimp only
  exact Sub.mk sJ sJ
 rintro⟨i,hi,hpos⟩;dsimp only
 by_cases hin:i<n
 ·have C2:=gZ1 En (det (i+1) A) (Nat.le_trans (mD oM fun a b ha hb=>hA a b oM oM) oM)
  by_cases hd:0<det (i+1) A
  ·have b1:decide (sg3 (det (i+1) A)≤0)=false:=by rw[fZF,decide_eq_false];omega
   refine vS<|vLt jj<|vW jj<|vS<|jS (eU jj jj aO (fun _ _=>jj))<|vR jj<|vA jj<|vP jj<|vJ<|vL jj<|vC C2 ⟨jj,trivial⟩<|jS (bVe jj jj b1)<|jn<|jf jj<|jp<|jr<|vAd jj wO<|jm jj<|jn ?_;refine⟨⟨i+1,oM,fun k hk=>?_⟩,?_,oD⟩
   ·by_cases e:k=i
    ·rw[e];exact hd
    ·exact hpos k oM
   dsimp only;exact Sub.mk sJ sJ
  ·have b1:decide (sg3 (det (i+1) A)≤0)=true:=by rw[fZF,decide_eq_true];omega
   refine vS<|vLt jj<|vW jj<|vS<|jS (eU jj jj aO (fun _ _=>jj))<|vR jj<|vA jj<|vP jj<|vJ<|vL jj<|vC C2 ⟨jj,trivial⟩<|jS (bVe jj jj b1)<|jn<|jt jj<|vS<|vZ jj<|ji ?_;refine wD rfl (.tmp rfl) ?_;unfold bZG;rw[decide_eq_false fun h=>hd (h i hin)];exact PLe.refl _
 ·refine vS<|vLf jj<|vU jj<|vS<|vZ jj<|ji ?_
  refine wD rfl (.tmp rfl) ?_;unfold bZG;rw[decide_eq_true fun k hk=>hpos k oM];exact PLe.refl _
theorem aZH(A:Nat→Nat→Int)(n K:Nat)(hn:1≤n)(hn8:n≤8)(hK:K≤1000000)(hA:ZL A n n K)(hs:∀i j,i<n→j<n→A i j=A j i):Fn PZ En 46 [zmt A n n] (i6 (bif bZG A n then 0 else 5)):=by
 have C0:=gZa En A n hn hn8;have C1:=yM En A n K hn8 hK hA hs;have C2:=hZp En A n K hn hn8 hK hA hs;have b1:decide ((n:Int)>8)=false:=decide_eq_false oM;cases hp:bZG A n with
 |true=>
  rw[hp] at C2;refine aA Tryz.func46 rfl Tryz.ntmps46 rfl ?_;intro w0 h0;refine vS<|vZ jj<|vS<|jm jj<|vC C0 tA<|jm jj<|vE jj<|vE jj<|ja jj<|vZ jj<|js<|jb<|vS<|jm jj<|jS (bNo jj)<|jm jj<|jgm jj<|jg (bVg jj jj b1)<|vQ jj<|vZ jj<|jf jj<|vS<|jm jj<|vC C1 tA<|jS (bNo jj)<|vZ jj<|jf jj<|vS<|jm jj<|vC C2 tA<|jS (bNo jj)<|vZ jj ?_;refine jf jj<|jp<|vS<|vZ jj<|ji ?_;exact rtT rfl jj
 |false=>
  rw[hp] at C2;refine aA Tryz.func46 rfl Tryz.ntmps46 rfl ?_;intro w0 h0;refine vS<|vZ jj<|vS<|jm jj<|vC C0 tA<|jm jj<|vE jj<|vE jj<|ja jj<|vZ jj<|js<|jb<|vS<|jm jj<|jS (bNo jj)<|jm jj<|jgm jj<|jg (bVg jj jj b1)<|vQ jj<|vZ jj<|jf jj<|vS<|jm jj<|vC C1 tA<|jS (bNo jj)<|vZ jj<|jf jj<|vS<|jm jj<|vC C2 tA<|jS (bNo jj)<|vZ jj ?_;refine jt jj<|vS<|vZ jj<|ji ?_;exact rtT rfl jj
theorem yQ(A T:Nat→Nat→Int)(n K:Nat)(hn:1≤n)(hn8:n≤8)(hK:K≤1000000)(hA:ZL A n n K)(hT:ZL T n n K):Fn PZ En 52 [zmt A n n,zmt T n n] (zmt (gY (gY (trM T) A n) T n) n n):=by
 have C0:=uY En T n n K hn hn8 hn hn8 oM hT;have hT':ZL (trM T) n n K:=fun i j hi hj=>hT j i hj hi;have C1:=sG En (trM T) A n n n K hn hn8 hn hn8 hn hn8 oM hT' hA;have h2:ZL (gY (trM T) A n) n n (2*K+8):=fun i j hi hj=>by
  have:=bZo (f:=fun c=>trM T i c*A c j) (K:=2*K) (n:=n) fun c hc=>by
   have a1:=dU (trM T i c) (A c j);have a2:=hT' i c hi hc;have a3:=hA c j hc hj;omega
  show zl (nP _ n)≤_
  omega
 have C2:=sG En (gY (trM T) A n) T n n n (2*K+8) hn hn8 hn hn8 hn hn8 oM h2 (fun i j hi hj=>Nat.le_trans (hT i j hi hj) oM);refine aA Tryz.func52 rfl Tryz.ntmps52 rfl ?_;intro w0 h0;refine vS<|vZ jj<|vS<|jm jj<|vC C0 tA<|jm jj<|vE jj<|vE jj<|ja jj<|vZ jj<|vS<|vV jj jj<|vC C1 tB<|jm jj<|vC C2 tB<|vZ jj<|ji ?_;exact rtT rfl jj
theorem oZj(s:Bool)(l:List Nat)(hlen:l.length≤1099511627776)(hv:val l<9223372036854775808):Fn PZ En 20 [zR s l] (dK [i6 (zv s l),ex (.bool true)]):=by
 have C1:=qQ En l hlen;unfold zv;generalize val l=n at*;have h2:(aE n).length≤2:=cN (by rw[bM];omega)
 have C2:=flow En (aE n) h2;rw[aN] at C2;have b1:decide (((aE n).length:Int)>2)=false:=decide_eq_false oM;cases s with
 |true=>
  have b2:decide ((n:Int)≤9223372036854775808)=true:=decide_eq_true oM;have e2:IntKind.i64.wrap (IntKind.u64.wrap (-(n:Int)))=aT true n:=by rw[IntKind.wrap_u64,IntKind.wrap_i64];unfold aT;simp;omega
  refine aA Tryz.func20 rfl Tryz.ntmps20 rfl ?_;intro w0 h0;refine kR ?_;refine vB jj<|ja jj<|vZ jj ?_;refine kR ?_;refine vX jj<|vC C1 tA<|vZ jj ?_;refine kR ?_;refine jm jj<|vC C2 tA<|vZ jj ?_;refine kR ?_;refine jm jj<|jE jj<|jS (bVg jj jj b1)<|vZ jj ?_;refine kO ?_;refine WpD.condF rfl ?_;refine kR ?_;refine vX jj<|jm jj ?_;refine kG ?_;first|refine jg (bVe jj jj b2) ?_|refine jk ?_
  refine kH ?_;refine vZ jj ?_;refine kO ?_;refine WpD.condT rfl ?_;refine kR ?_;refine jm jj<|jS (fZH jj (fun w=>fO w _ _))<|jS (bCv jj e2)<|ja jj<|vZ jj ?_;refine kO ?_;refine WpD.ret ?_;exact lB rfl (.tmp rfl) (.tmp rfl) (PLe.refl _)
 |false=>
  have b2:decide ((n:Int)<9223372036854775808)=true:=decide_eq_true oM;have e2:IntKind.i64.wrap (n:Int)=aT false n:=by rw[IntKind.wrap_i64];unfold aT;simp;omega
  refine aA Tryz.func20 rfl Tryz.ntmps20 rfl ?_;intro w0 h0;refine kR ?_;refine vB jj<|ja jj<|vZ jj ?_;refine kR ?_;refine vX jj<|vC C1 tA<|vZ jj ?_;refine kR ?_;refine jm jj<|vC C2 tA<|vZ jj ?_;refine kR ?_;refine jm jj<|jE jj<|jS (bVg jj jj b1)<|vZ jj ?_;refine kO ?_;refine WpD.condF rfl ?_;refine kR ?_;refine vX jj<|jm jj ?_;refine kG ?_;first|refine jg (aY jj jj (fun w=>pU w _ _ _ _ _ _)) ?_|refine jk ?_
  refine kH ?_;refine vZ jj ?_;refine kO ?_;refine WpD.condF rfl ?_;refine kR ?_;refine vX jj<|jS (bNo jj)<|jm jj ?_;refine kG ?_;first|refine jg (bVl jj jj b2) ?_|refine jk ?_
  refine kH ?_;refine vZ jj ?_;refine kO ?_;refine WpD.condT rfl ?_;refine kR ?_;refine jm jj<|jS (bCv jj e2)<|ja jj<|vZ jj ?_;refine kO ?_;refine WpD.ret ?_;exact lB rfl (.tmp rfl) (.tmp rfl) (PLe.refl _)
end
end
end Go.Proofs.YtfmjdlogjmofbaaGreatDoor

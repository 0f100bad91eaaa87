/- Regions whose last operation waits for all others; structs that hold a slice of the call's own. For any program. -/
import Derived.Test.YtfmjdlogjmofbaaGreatDoorTc
import Derived.Test.YtfmjdlogjmofbaaGreatDoorW
set_option maxRecDepth 3000
namespace Go.Proofs.YtfmjdlogjmofbaaGreatDoor
section
open Go.RowKit Limb
section
variable{P:Program}{En:Ev}{n:Nat}{ops:Array Oper}{Q:Exit→Act→World→Prop}{w0:World}{h0:GH}{c:Cx}{D:List Nat}
theorem nZe{L:Nat}{oL:Oper}(hL:ops[L]? =some oL)(hLs:L+1=ops.size)(hLd:∀i,i<L→(D.getD L 0).testBit i=true)(hLm:D.getD L 0=bZU D (kX oL))(hLb:∀k∈kX oL,k<L):
  ∀(fuel:Nat) (listed:Array Bool) (R:List It) (σ:St) (a:Act) (w:World),R.length+1≤fuel→listed.size=ops.size→listed.getD L true=false→
  (∀x∈R,ops[x.1]? =some x.2.1∧listed.getD x.1 true=false∧kJ n D x=true∧x.1<L)→
  (∀i,i<L→listed.getD i true=false→∃o e,(i,o,e)∈R)→
  R.Pairwise (fun x y=>x.1<y.1)→R.Pairwise (fun x y=>(D.getD y.1 0).testBit x.1=true∨sM ops x.2 y.2=true)→
  (∀j,listed.getD j false=true→∀i,(D.getD j 0).testBit i=true→listed.getD i false=true)→
  CR P En n ops R σ→Gam En n w0 h0 c σ a w→(∀a w,Gam En n w0 h0 c (fin R σ) a w→wpOps P ops Q [L] a w)→wpAny P .any ops Q fuel listed a w:=by
 intro fuel;have hgd:∀(l:Array Bool) i,l.getD i true=false→i<l.size∧l.getD i false=false:=fun l i h=>by
  rcases Nat.lt_or_ge i l.size with hlt|hge
  ·exact⟨hlt,by simp[hlt] at h ⊢;exact h⟩
  ·simp[Array.getElem?_eq_none hge] at h
 have hin:∀(l:Array Bool) i,i<l.size→l.getD i true=true→l.getD i false=true:=fun l i h hl=>by
  simp[h] at hl ⊢;exact hl
 induction fuel with
 |zero=>intro listed R σ a w hf;omega
 |succ fuel ih=>
  intro listed R σ a w hf hsz hLl hR hall hsort hpair hclosed hcr hg hQ;have hready:R=[]→∀i,i∈Region.ready .any ops listed↔i=L:=by
   rintro rfl i;have hlist:∀i,i<L→listed.getD i true=true:=fun i hi=>by
    cases hl:listed.getD i true with
    |true=>rfl
    |false=>obtain⟨_,_,hm⟩:=hall i hi hl;cases hm
   refine⟨fun hi=>?_,?_⟩
   ·obtain⟨h1,o,h2,_⟩:=mem_ready.1 hi
    have:=(Array.getElem?_eq_some_iff.1 h2).1;rcases Nat.lt_or_ge i L with h|h
    ·rw[hlist i h] at h1;cases h1
    ·omega
   ·rintro rfl
    refine mem_ready.2 ⟨hLl,oL,hL,fun e he hb=>?_⟩;have hk:=hLb e.on (by
     unfold kX;exact List.mem_map.2 ⟨e,List.mem_filter.2 ⟨by simpa using he,hb⟩,rfl⟩)
    exact hin _ _ oM (hlist _ hk)
  refine⟨fun hr=>?_,fun i hi=>?_⟩
  ·exfalso
   cases R with
   |nil=>
    have:=(hready rfl L).2 rfl;rw[hr] at this;cases this
   |cons x R=>
    obtain⟨h1,h2,h3,h4⟩:=hR x (List.mem_cons_self ..);have:x.1∈Region.ready .any ops listed:=by
     refine mem_ready.2 ⟨h2,x.2.1,h1,fun e he hb=>?_⟩;simp only[kJ,Bool.and_eq_true] at h3;have hk:=List.all_eq_true.1 h3.1.2 e.on (by
      unfold kX;refine List.mem_map.2 ⟨e,List.mem_filter.2 ⟨by simpa using he,hb⟩,rfl⟩)
     have hk:e.on<x.1:=by have:=Nat.le_of_ble_eq_true hk;omega
     cases hl:listed.getD e.on true with
     |true=>exact hin _ _ oM hl
     |false=>
      obtain⟨o',e',hm⟩:=hall e.on oM hl;rcases List.mem_cons.1 hm with h|h
      ·have:=congrArg Prod.fst h;simp only at this;omega
      ·have:=List.rel_of_pairwise_cons hsort h;simp only at this;omega
    rw[hr] at this;cases this
  ·by_cases hRn:R=[]
   ·have hiL:=(hready hRn i).1 hi
    subst hRn hiL;have h1:=hQ a w hg;rw[wpOps_cons] at h1;refine wpOp_mono (fun a' w' hq=>?_) h1;have hno:Region.ready .any ops (listed.setIfInBounds i true)=[]:=by
     rw[List.eq_nil_iff_forall_not_mem];intro j hj;obtain⟨g1,o,g2,_⟩:=mem_ready.1 hj;have hjs:=(Array.getElem?_eq_some_iff.1 g2).1
     by_cases e:j=i
     ·subst e
      have:j<listed.size:=oM;simp[this] at g1
     ·have:(listed.setIfInBounds i true).getD j true=listed.getD j true:=by simp[Array.getElem?_setIfInBounds_ne (Ne.symm e)]
      rw[this] at g1;obtain⟨_,_,hm⟩:=hall j oM g1;cases hm
    have hq:Q .normal a' w':=hq;cases fuel with
    |zero=>exact⟨hno,hq⟩
    |succ f=>exact⟨fun _=>hq,fun j hj=>by rw[hno] at hj;cases hj⟩
   ·obtain⟨h1,o,h2,h3⟩:=mem_ready.1 hi
    have hilt:=(Array.getElem?_eq_some_iff.1 h2).1;have hiL:i<L:=by
     rcases Nat.lt_or_ge i L with h|h
     ·exact h
     ·exfalso
      have hiL:i=L:=oM;subst hiL;rw[hL] at h2;cases h2
      obtain⟨x,hx⟩:=List.exists_mem_of_ne_nil R hRn;obtain⟨_,x2,_,x4⟩:=hR x hx;have hbit:=hLd x.1 x4;rw[hLm] at hbit;have:listed.getD x.1 false=true:=by
       rcases oB D x.1 _ 0 hbit with h|⟨k,hk,h⟩
       ·simp at h
       ·obtain⟨ed,hed,rfl⟩:=List.mem_map.1 hk
        obtain⟨he1,he2⟩:=List.mem_filter.1 hed;have hl:=h3 ed (by simpa using he1) he2
        rcases h with h|h
        ·rw[h];exact hl
        ·exact hclosed _ hl _ h
      rw[(hgd _ _ x2).2] at this;cases this
    obtain⟨o',e,hm⟩:=hall i hiL h1;obtain⟨A,B,rfl⟩:=List.append_of_mem hm;obtain⟨k1,_,k3,_⟩:=hR _ hm;simp only at k1;rw[h2] at k1;cases k1
    simp only[kJ,Bool.and_eq_true] at k3;obtain⟨⟨kd,kb⟩,km⟩:=k3;have hdeps:∀j,(D.getD i 0).testBit j=true→listed.getD j false=true:=fun j hj=>by
     rw[Nat.eq_of_beq_eq_true km] at hj;rcases oB D j _ 0 hj with h|⟨k,hk,h⟩
     ·simp at h
     ·obtain⟨ed,hed,rfl⟩:=List.mem_map.1 hk
      obtain⟨he1,he2⟩:=List.mem_filter.1 hed;have hl:=h3 ed (by simpa using he1) he2
      rcases h with rfl|h
      ·exact hl
      ·exact hclosed _ hl j h
    have hA:∀y∈A,sM ops y.2 (o,e)=true:=fun y hy=>by
     have hy':y∈A++(i,o,e)::B:=List.mem_append_left _ hy;rcases(List.pairwise_append.1 hpair).2.2 y hy (i,o,e) (List.mem_cons_self ..) with h|h
     ·have q1:=hdeps _ h
      have q2:=(hgd _ _ (hR y hy').2.1).2;rw[q1] at q2;cases q2
     ·exact h
    obtain⟨g1,g2,g3⟩:=fZt A σ hA hcr;obtain⟨h,β,hinv,hslots⟩:=hg;have key:=g1 σ.sl σ.bx (fun _ _=>rfl) (fun _ _=>rfl) (fun _ _=>rfl) w0 h0 c h β a w Q hinv hslots
     (wpAny P .any ops Q fuel (listed.setIfInBounds i true)) (fun a' w' hh=>by
      obtain⟨v,h',β',rfl,q1,q2,q3,q4,q5⟩:=hh;have hG:Gam En n w0 h0 c (kA σ o e) (a.put o.dst v) w':=sO (fun d hd=>by rw[hd] at kd;exact Nat.le_of_ble_eq_true (show Nat.ble (d+1) n=true from kd)) hslots q1 q2 q3 q4 q5
      have hset:∀j d,j≠i→(listed.setIfInBounds i true).getD j d=listed.getD j d:=fun j d hj=>by
       simp[Array.getElem?_setIfInBounds_ne (Ne.symm hj)]
      have hset':∀d,(listed.setIfInBounds i true).getD i d=true:=fun d=>by simp[hsz,hilt]
      have hne:∀x∈A++B,x.1≠i:=fun x hx=>by
       rcases List.mem_append.1 hx with hx|hx
       ·have:=(List.pairwise_append.1 hsort).2.2 x hx (i,o,e) (List.mem_cons_self ..);simp only at this;omega
       ·have:=List.rel_of_pairwise_cons (List.pairwise_append.1 hsort).2.1 hx;simp only at this;omega
      have hsub:(A++B).Sublist (A++(i,o,e)::B):=List.Sublist.append_left (List.sublist_cons_self _ _) _;refine ih _ (A++B) (kA σ o e) _ _ (by simp at hf ⊢;omega) (by simpa using hsz) (by rw[hset _ _ oM];exact hLl) (fun x hx=>?_) (fun j hj hl=>?_) (hsort.sublist hsub) (hpair.sublist hsub) (fun j hj k hk=>?_) g2 hG (fun a w hG=>hQ a w ?_)
      ·obtain⟨r1,r2,r3,r4⟩:=hR x (hsub.subset hx)
       exact⟨r1,by rw[hset _ _ (hne x hx)];exact r2,r3,r4⟩
      ·have hji:j≠i:=by rintro rfl;rw[hset'] at hl;cases hl
       rw[hset _ _ hji] at hl;obtain⟨o',e',hm'⟩:=hall j hj hl;refine⟨o',e',?_⟩;rcases List.mem_append.1 hm' with hm'|hm'
       ·exact List.mem_append_left _ hm'
       ·rcases List.mem_cons.1 hm' with hm'|hm'
        ·exact absurd (congrArg Prod.fst hm') hji
        ·exact List.mem_append_right _ hm'
      ·by_cases hki:k=i
       ·subst hki;exact hset' _
       ·rw[hset _ _ hki]
        by_cases hji:j=i
        ·subst hji;exact hdeps k hk
        ·rw[hset _ _ hji] at hj;exact hclosed j hj k hk
      ·exact hG.alike (fun t=>(g3.sl t).symm) (fun t=>(g3.bx t).symm))
    unfold wpOp;rw[h2];exact key
def uA(n:Nat)(l:List Oper)(o:Oper)(es:List Eff):Bool:=
 Nat.beq l.length es.length&&(gF l es 0).all (kJ n (nD (l++[o]) []))&&sE (l++[o]).toArray (nD (l++[o]) []) (gF l es 0)&&Nat.beq ((nD (l++[o]) []).getD l.length 0) (bZU (nD (l++[o]) []) (kX o))&&(kX o).all (fun k=>Nat.blt k l.length)&&(List.range l.length).all (fun i=>((nD (l++[o]) []).getD l.length 0).testBit i)
theorem WpD.regionL{id:Nat}{l:List Oper}{o:Oper}{es:List Eff}{σ τ:St}{K:Exit→St→Prop}[hm:CMix P](hc:Chain P En n (l++[o]).toArray l σ es τ)(hok:uA n l o es=true)(hk:WpS P En n w0 h0 c (l++[o]).toArray [l.length] (K .normal) τ):
  WpD P En n w0 h0 c (.region id (l++[o]).toArray true) K σ:=by
 intro Q a w hg hQ;unfold uA at hok;simp only[Bool.and_eq_true] at hok;obtain⟨⟨⟨⟨⟨hl,hi⟩,hp⟩,h1⟩,h2⟩,h3⟩:=hok;have hl:=Nat.eq_of_beq_eq_true hl;obtain⟨hcr,hfin⟩:=dZX hc 0;have hlt:∀x∈gF l es 0,x.1<l.length:=fun x hx=>by
  have:=(pW hx).2;have:=(List.getElem?_eq_some_iff.1 this).1;omega
 have hget:∀x∈gF l es 0,(l++[o]).toArray[x.1]? =some x.2.1∧kJ n (nD (l++[o]) []) x=true:=fun x hx=>⟨by
  have:=(pW hx).2;have h:=hlt x hx;simp only[List.getElem?_toArray];rw[List.getElem?_append_left h];simpa using this,List.all_eq_true.1 hi x hx⟩
 refine wp_region_any hm.ok ?_;refine nZe (D:=nD (l++[o]) []) (L:=l.length) (oL:=o) (by simp) (by simp) (fun i hi=>List.all_eq_true.1 h3 i (by simpa using hi)) (Nat.eq_of_beq_eq_true h1) (fun k hk=>by have:=List.all_eq_true.1 h2 k hk;exact Nat.le_of_ble_eq_true this) (l++[o]).toArray.size _ (gF l es 0) σ a _ ?_ (by simp) (by simp) (fun x hx=>?_) (fun i hi' _=>?_) (oC _ _ _) (nY hp) (fun j hj i hi=>?_) hcr ?_ (fun a w h=>hk Q a w (by rw[←hfin];exact h) fun τ a' w' hk' hg'=>hQ .normal τ a' w' hk' hg')
 ·have:=congrArg List.length (mF l es 0 hl)
  simp at this ⊢;omega
 ·obtain⟨q1,q2⟩:=hget x hx
  have h:=hlt x hx;exact⟨q1,by rw[Array.getD_eq_getD_getElem?,Array.getElem?_eq_getElem (by simp;omega)];simp,q2,h⟩
 ·have:=aZR (k:=0) hl (i:=i) hi'
  simpa using this
 ·exfalso
  rw[Array.getD_eq_getD_getElem?] at hj;rcases Nat.lt_or_ge j (l++[o]).length with h|h
  ·simp only[List.size_toArray] at hj
   rw[Array.getElem?_eq_getElem (by simpa using h)] at hj
   simp at hj
  ·simp only[List.size_toArray] at hj
   rw[Array.getElem?_eq_none (by simpa using h)] at hj
   simp at hj
 ·obtain⟨h,β,hi,hs⟩:=hg
  exact⟨h,β,hi.drew,hs⟩
end
def stB(p:Pd)(b n:Nat):BP:=⟨[b],fun h β v=>∃u cap,v= .agg #[u,.slice (some ⟨β b,0,none⟩) n cap]∧p.p h u∧u.oneCell'=true∧n≤cap∧cap≤maxLen,
 fun _ _ _ _ _ hl hb ⟨u,cap,e,hp,h1,h2,h3⟩=>⟨u,cap,by rw[hb b (by simp)];exact e,p.mono _ _ _ hl hp,h1,h2,h3⟩⟩
def plB(d o b blk:Nat):BP:=⟨[d,b],fun _ β v=>v= .pointer (some ⟨β d,o,none⟩)∧β b=blk,fun _ _ _ _ _ _ hb ⟨e1,e2⟩=>⟨by rw[hb d (by simp)];exact e1,by rw[hb b (by simp)];exact e2⟩⟩
theorem cZf{blk n cap:Nat}(hn:0<n):gvl blk n cap= .slice (some ⟨blk,0,none⟩) n cap:=by
 cases n with
 |zero=>omega
 |succ n=>rfl
section
variable{P:Program}{En:Ev}{n:Nat}{w0:World}{h0:GH}{c:Cx}{ops:Array Oper}{l:List Nat}{σ:St}{sl:Sl}{bx:Bx}{dst:Option Tmp}{ty:TypeId}{pos:String}{after:Array Edge}{guard:Option (Nat×Bool)}
theorem eZA{h:GH}{β:Nat→Nat}{a:Act}{t q b m:Nat}{p:Pd}(hs:Slots n h β σ.sl σ.bx a)(hq:q<n)(h1:aB σ.sl t=some (.gen (stB p b m)))(hm:0<m):∃blk cap,(m≤cap∧cap≤maxLen)∧Slots n h β ((t,.one (cD [p,ex (gvl blk m cap)]))::(q,.pin b blk)::σ.sl) σ.bx a:=by
 obtain⟨v,r1,⟨u,cap,e,hp,g1,g2,g3⟩,hlv⟩:=hs.slot t _ h1;have s1:=pS (b:=b) hs hq (hlv b (by show b∈[b];simp))
 refine⟨β b,cap,⟨g2,g3⟩,hs.defers,hs.size,fun t' sd ht=>?_⟩;rw[aC] at ht;split at ht
 ·rename_i e'
  subst e';cases ht
  refine⟨v,r1,⟨[u,.slice (some ⟨β b,0,none⟩) m cap],e,hp,g1,?_,rfl,trivial⟩,trivial⟩;show _=gvl (β b) m cap
  rw[cZf hm]
 ·exact s1.slot t' sd ht
theorem WpS.openSt{K:St→Prop}{t q b m:Nat}{p:Pd}(hq:Nat.blt q n=true)(h1:aB σ.sl t=some (.gen (stB p b m)))(hm:0<m)
  (h:∀blk cap,(m≤cap∧cap≤maxLen)→WpS P En n w0 h0 c ops l K ⟨(t,.one (cD [p,ex (gvl blk m cap)]))::(q,.pin b blk)::σ.sl,σ.bx⟩):WpS P En n w0 h0 c ops l K σ:=by
 rintro Q a w ⟨h',β,hi,hs⟩ hQ;obtain⟨blk,cap,h2,hs2⟩:=eZA hs (Nat.le_of_ble_eq_true hq) h1 hm;exact h blk cap h2 Q a w ⟨h',β,hi,hs2⟩ hQ
theorem Sub.mkPl{t q d o b blk:Nat}(h1:aB σ.sl t=some (.ptr d o))(h2:aB σ.sl q=some (.pin b blk)):Sub σ ⟨(t,.gen (plB d o b blk))::σ.sl,σ.bx⟩:=by
 rintro En n w0 h0 c a w ⟨h,β,hi,hs⟩;obtain⟨v,r1,r2,l1⟩:=hs.slot t _ h1;obtain⟨_,_,r3,l3⟩:=hs.slot q _ h2;refine⟨h,β,hi,hs.defers,hs.size,fun t' sd ht=>?_⟩;rw[aC] at ht;split at ht
 ·rename_i e
  subst e;cases ht
  refine⟨v,r1,⟨r2,r3⟩,fun x hx=>?_⟩;have hx:x∈[d,b]:=hx;simp only[List.mem_cons,List.not_mem_nil,or_false] at hx;rcases hx with rfl|rfl
  ·exact l1
  ·exact l3
 ·exact hs.slot t' sd ht
theorem Sub.unPl{t d o b blk:Nat}(h1:aB σ.sl t=some (.gen (plB d o b blk))):Sub σ ⟨(t,.ptr d o)::σ.sl,σ.bx⟩:=by
 rintro En n w0 h0 c a w ⟨h,β,hi,hs⟩;obtain⟨v,r1,r2,l1⟩:=hs.slot t _ h1;refine⟨h,β,hi,hs.defers,hs.size,fun t' sd ht=>?_⟩;rw[aC] at ht;split at ht
 ·rename_i e
  subst e;cases ht
  exact⟨v,r1,r2.1,l1 d (by show d∈[d,b];simp)⟩
 ·exact hs.slot t' sd ht
theorem fZ{S:TypeId}{x:Operand}{f off d o b blk:Nat}[hf:CField P S f off](hx:osd sl x=some (.gen (plB d o b blk))){o':Nat}(ho:o+off=o'):RT P En n ⟨dst,.fieldAddr S x f,ty,pos,after,guard⟩ sl bx ⟨.gen (plB d o' b blk),[],[]⟩:=
 RT.pure fun ρ h β bx' H=>by
  subst ho;obtain⟨h1,h2⟩:=H x (by simp[Op.operands]) _ hx
  have hb:β b=blk:=h1.2;have h1:ρ x= .pointer (some ⟨β d,o,none⟩):=h1.1;obtain⟨fs,fd,e1,e2,e3,e45⟩:=hf.ok;obtain⟨i,e4,e5'⟩:=Option.map_eq_some_iff.1 e45;have e5:i.size≠0:=by intro h0;rw[h0] at e5';cases e5'
  refine⟨.pointer (some ⟨β d,o+off,none⟩),fun w _=>?_,⟨rfl,hb⟩,h2⟩;simp only[execOp,h1,Instr.fieldAt,Instr.sureAddr,Sem.run_bind,run_underlying e1,Result.andThen_ok,e2,Sem.run_pure,fieldPlace,sizeOf,run_typeInfo _ e4,if_neg e5];rw[Addr.add_mid,e3]
theorem iS{T:TypeId}{x:Operand}{d o b blk m cap:Nat}{ps:List Pd}[ht:COne P T](hx:osd sl x=some (.gen (plB d o b blk)))(hb:aB bx d=some ps)(hp:ps[o]? =some (ex (gvl blk m cap)))(hm:0<m)(hc:m≤cap∧cap≤maxLen)(hlk:lk d=false:=by rfl):
  RT P En n ⟨dst,.load T x,ty,pos,after,guard⟩ sl bx ⟨.own b 0 m m,[d],[]⟩:=by
 intro sl' bx' h1 h2 _ w0 h0 c h β a w Q hi hs;obtain⟨⟨hx',hbb⟩,hlv⟩:=cH hs (x:=x) (sd:= .gen (plB d o b blk)) (by rw[h1 x (by simp[Op.operands])];exact hx)
 have hx':a.eval x= .pointer (some ⟨β d,o,none⟩):=hx';obtain⟨_,_,vs,rest,T',hg,ha,_⟩:=hi.box0 d ps (by rw[h2 d (by simp)];exact hb) (by rintro rfl;simp at hp) hlk
 obtain⟨v,hv,hpv,_⟩:=ha.get hp;obtain⟨dd,hd1,hd2,_⟩:=ht.ok;have hc':w.cell? ⟨β d,o,none⟩=some v:=by
  rw[cell_of_row w _ o _ T' _ hg];have hlt:=(List.getElem?_eq_some_iff.1 hv).1;simpa [List.getElem?_append_left hlt] using hv
 unfold Oper.wp;have:(execOp a.eval ⟨dst,.load T x,ty,pos,after,guard⟩).run P w= .ok (.value v) w:=by
  simp only[execOp,hx',Instr.loadAt,Instr.sureAddr,loadVar,Sem.run_bind,Sem.run_pure,Result.andThen_ok,kF hd1,hd2];simp[load,Sem.run,hc']
 rw[this];refine⟨v,h,β,rfl,hi,Le.refl _,fun _ _=>rfl,⟨cap,?_,hc.1,hc.2⟩,hlv b (by show b∈[d,b];simp)⟩
 have hpv:v=gvl blk m cap:=hpv;rw[hpv,cZf hm,hbb]
theorem iZ9{T:TypeId}{tx ty' b m:Nat}{p:Pd}[C1 p]{z0 z1:Value}[ht:CStruct P T [(0,1),(1,1)] [z0,z1]](hx:aB sl tx=some (.one p))(hy:aB sl ty'=some (.own b 0 m m))(hne:Nat.beq ty' tx=false):
  RT P En n ⟨dst,.build T #[(0,.tmp tx),(1,.tmp ty')],ty,pos,after,guard⟩ sl bx ⟨.gen (stB p b m),[],[]⟩:=
 RT.pure fun ρ h β bx' H=>by
  obtain⟨h1,_⟩:=H (.tmp tx) (by simp[Op.operands]) _ (show osd sl (.tmp tx)=_ from hx)
  obtain⟨⟨cap,h2,c1,c2⟩,hlv⟩:=H (.tmp ty') (by simp[Op.operands]) _ (show osd sl (.tmp ty')=_ from hy)
  obtain⟨hz,fs,e1,e2⟩:=ht.ok;have hsl:∀t,aB [(ty',SD.one (ex (.slice (some ⟨β b,0,none⟩) m cap))),(tx,SD.one p)] t=if ty'=t then some (SD.one (ex (.slice (some ⟨β b,0,none⟩) m cap))) else if tx=t then some (SD.one p) else none:=fun t=>by rw[aC,aC];rfl
  have hne':ty'≠tx:=by rintro rfl;simp at hne
  have H2:∀x∈[((0:Nat),Operand.tmp tx),(1,.tmp ty')],∀s,osd [(ty',SD.one (ex (.slice (some ⟨β b,0,none⟩) m cap))),(tx,SD.one p)] x.2=some s→s.ok h β (ρ x.2)∧s.live []:=by
   intro x hx s hs;simp only[List.mem_cons,List.not_mem_nil,or_false] at hx;rcases hx with rfl|rfl
   ·have hs:aB _ tx=some s:=hs
    rw[hsl,if_neg hne',if_pos rfl] at hs;cases hs
    exact⟨h1,trivial⟩
   ·have hs:aB _ ty'=some s:=hs
    rw[hsl,if_pos rfl] at hs;cases hs
    exact⟨h2,trivial⟩
  obtain⟨us,g1,g2⟩:=sP (sl:=[(ty',.one (ex (.slice (some ⟨β b,0,none⟩) m cap))),(tx,.one p)]) (ρ:=ρ) (β:=β) (h:=h) (bx':=[]) (pl:=fun(i:Nat)=>[(0,1),(1,1)][i]?) (xs:=[(0,.tmp tx),(1,.tmp ty')]) (ps:=[(0,[p]),(1,[ex (.slice (some ⟨β b,0,none⟩) m cap)])]) (cs:=[z0,z1].map ex) (rs:=[p,ex (.slice (some ⟨β b,0,none⟩) m cap)])
   ⟨rfl,Part.c (show aB _ tx=_ by rw[hsl,if_neg hne',if_pos rfl]),rfl,Part.c (show aB _ ty'=_ by rw[hsl,if_pos rfl]),trivial⟩ H2 rfl (mL hz.2)
  match us,g2 with
  |[u,v],⟨q1,q2,q3,q4,q5⟩=>
   have q3:v= .slice (some ⟨β b,0,none⟩) m cap:=q3;refine⟨.agg #[u,v],fun w _=>?_,⟨u,cap,by rw[q3],q1,q2,c1,c2⟩,fun x hx=>?_⟩
   ·obtain⟨z,y1,y2⟩:=lS hz w
    simp only[execOp,Instr.build,Sem.run_bind,y1,Result.andThen_ok,run_underlying e1];rw[e2 w];simp only[Result.andThen_ok,y2];have:(#[(0,Operand.tmp tx),(1,Operand.tmp ty')].map fun x=>(x.1,ρ x.2)).toList=[(0,Operand.tmp tx),(1,Operand.tmp ty')].map fun x=>(x.1,ρ x.2):=by simp
    have hpl:(fun(i:Nat)=>[((0:Nat),(1:Nat)),(1,1)].toArray[i]?)=fun(i:Nat)=>[((0:Nat),(1:Nat)),(1,1)][i]? :=by funext i;simp
    rw[this,hpl,g1];rfl
   ·have hx:x∈[b]:=hx
    simp only[List.mem_singleton] at hx;subst hx;exact hlv
theorem oZ7{fn:Func}{T:TypeId}{p:Pd}{d b q m blk cap:Nat}{bx':Bx}[ht:CRow P T 2](hf:fn.results= #[.cell d T])(h1:aB σ.sl d=some (.ptr d 0))(h2:aB σ.bx d=some [p,ex (gvl blk m cap)])(h3:aB σ.sl q=some (.pin b blk))(hm:0<m)(hc:m≤cap∧cap≤maxLen)(hs:subBx σ.bx bx')(hke:LKeep σ.bx bx':=by exact jK rfl)(hlk:lk d=false:=by rfl)(hl:aB bx' b≠none):aZq P fn σ (.gen (stB p b m)) bx':=by
 refine⟨⟨hs,hke⟩,fun En n w0 h0 c h β a w hi hsl=>?_⟩;obtain⟨v,hv,vs,hva,hall⟩:=(RV.cell (P:=P) (σ:=σ) (T:=T) (k:=2) h1 h2 ht.ok rfl hlk).run hi hsl;obtain⟨_,_,r3,_⟩:=hsl.slot q _ h3;have r3:β b=blk:=r3;match vs,hall with
 |[u0,u1],⟨g1,g2,g3,g4,g5⟩=>
  have g3:u1=gvl blk m cap:=g3;refine⟨v,by rw[fJ,hf];simp[hv],⟨u0,cap,?_,g1,g2,hc.1,hc.2⟩,fun x hx=>?_⟩
  ·rw[hva,g3,cZf hm,r3]
  ·have hx:x∈[b]:=hx
   simp only[List.mem_singleton] at hx;subst hx;exact hl
theorem aZy{f:FuncId}{xs:List Operand}{ats:Array TypeId}{az:List Pd}{qs:List Pd}{p:Pd}{k m d:Nat}[hb:CBody P f](hf:FnG P En f (az.map .one) [] (.gen (stB p k m)) [(k,qs)])(hk:Nat.blt k 1000=true)(ha:args sl xs az)(hd:Nat.blt d 400=true)(hn:aB bx d=none)(hlk:lk k=false:=by rfl):
  RT P En n ⟨some d,.call ⟨.value (.func f),xs.toArray,ats⟩,ty,pos,after,guard⟩ sl bx ⟨.gen (stB p d m),[],[(d,qs)]⟩:=by
 intro sl' bx' h1 _ h3 w0 h0 c h β a w Q hi hs;have hd:d<400:=Nat.le_of_ble_eq_true hd;have hn':aB bx' d=none:=by rw[h3 d (by simp)];exact hn
 have hargs:AllV h az (xs.map a.eval):=oG ha (fun x hx s hxs=>cH hs (by rw[h1 x (by simp[Op.operands,Call.operands,hx])];exact hxs))
 have hargs':∀(az:List Pd) (vs:List Value),AllV h az vs→AllS h β [] (az.map .one) vs:=by
  intro az;induction az with
  |nil=>intro vs h;cases vs with
   |nil=>trivial
   |cons=>exact h.elim
  |cons p ps ih=>intro vs h;cases vs with
   |nil=>exact h.elim
   |cons v vs=>exact⟨h.1,trivial,ih vs h.2⟩
 unfold Oper.wp;rw[execOp_call_go];rw[show(#[]++xs.toArray.map a.eval++ #[])=(xs.map a.eval).toArray by simp,gL hb.ok]
 refine Calls.mono (hf h β w _ hi.envNow hi.holds ⟨fun i qs hq=>(by cases hq),fun i j ps qs hi'=>(by cases hi')⟩ (fun i ps hi'=>(by cases hi')) (hargs' _ _ hargs)) ?_
 rintro e w' ⟨v,h',β',rfl,g1,g2,g3,g4,g5,g6,g8,g7,_⟩;have hbel:Below w.heap.size w w':=⟨g4.os,g4.tape,g4.output,g4.size,fun k hk=>g4.block k hk (by rintro⟨i,⟨ps,hi',_⟩,_⟩;cases hi')⟩
 have hI:=hi.call g1 g2 g3 hbel;have hqk:aB ([(k,qs)]:Bx) k=some qs:=by rw[aC,if_pos rfl]
 have hnew:qs≠[]→w.heap.size≤β' k:=fun hq=>(g8 k qs hqk hq).1 (Nat.le_of_ble_eq_true hk);have hlt:∀j ps,aB bx' j=some ps→ps≠[]→β j<w.heap.size:=fun j ps hj hp=>by
  obtain⟨_,_,us,rs,T',h3,_⟩:=hi.box j ps hj hp;exact dB h3
 refine⟨v,h',upd β d (β' k),rfl,⟨hI.env,hI.holds,hI.le0,hI.fresh,hI.below,hI.dis,fun j hj=>?_,fun j ps hj hp=>?_,fun i j ps qs' hi' hp hj' hq e=>?_⟩,g1,fun j hj=>aV (by rintro rfl;exact hj hn'),?_,?_⟩
 ·rw[aV oM];exact hI.pin j hj
 ·rw[List.singleton_append,aC] at hj
  by_cases e:d=j
  ·subst e
   rw[if_pos rfl] at hj;cases hj
   rw[cK];obtain⟨r1,us,rs,T',r2,r3,_⟩:=g5.box k qs hqk hp;rw[dW hlk] at r2;exact⟨⟨fun _=>Nat.le_trans hi.below.size (hnew hp),fun h=>absurd hd oM⟩,r1,us,rs,T',by rw[dW (eT hd)];exact r2,r3,fun hg=>absurd hg.1 oM,cZ (eT hd) _ _ _⟩
  ·rw[if_neg e] at hj
   rw[aV (fun h=>e (Eq.symm h))];obtain⟨r0,r1,us,rs,T',r2,r3,r4,r5⟩:=hI.box j ps hj hp;obtain⟨k1,k2⟩:=fK (β':=upd β d (β' k)) (bx':=(d,qs)::bx') r5 (fun r hr=>⟨by rw[aC];split<;>simp;exact hr,aV (by rintro rfl;exact hr hn')⟩)
   exact⟨r0,r1,us,rs,T',by rw[k2];exact r2,r3,fun hg=>by rw[aV (by have:=hg.1;omega)];exact r4 hg,k1⟩
 ·rw[List.singleton_append,aC] at hi' hj'
  by_cases e1:d=i<;>by_cases e2:d=j
  ·rw[←e1,←e2]
  ·subst e1
   rw[cK,aV (fun h=>e2 (Eq.symm h))] at e;rw[if_neg e2] at hj';rw[if_pos rfl] at hi';cases hi'
   have:=hlt j _ hj' hq;have:=hnew hp;omega
  ·subst e2
   rw[cK,aV (fun h=>e1 (Eq.symm h))] at e;rw[if_neg e1] at hi';rw[if_pos rfl] at hj';cases hj'
   have:=hlt i _ hi' hp;have:=hnew hq;omega
  ·rw[aV (fun h=>e1 (Eq.symm h)),aV (fun h=>e2 (Eq.symm h))] at e
   rw[if_neg e1] at hi';rw[if_neg e2] at hj';exact hI.inj i j _ _ hi' hp hj' hq e
 ·obtain⟨u,cap,e1,e2⟩:=g7
  exact⟨u,cap,by rw[cK];exact e1,e2⟩
 ·intro x hx
  have hx:x∈[d]:=hx;simp only[List.mem_singleton] at hx;subst hx;show aB ((x,qs)::bx') x≠none
  rw[aC,if_pos rfl];simp
theorem xV{T E:TypeId}{s x:Operand}{k m bytes d:Nat}{zs:List Value}{p0:Pd}{qs:List Pd}[hT:CElem P T E k][hz:CRowZ P E k zs bytes](h1:osd sl s=some (.one p0))(hp0:PLe p0 ⟨fun _ v=>∃a,v= .slice a 0 0,fun _ _ _ _ h=>h⟩)(h2:osd sl x=some (.one (slc k qs m)))(hm:0<m)(hmax:m≤1000000000)(hby:Nat.ble bytes 10000=true)(hd:Nat.blt d 400=true)(hn:aB bx d=none)(hk0:Nat.blt 0 k=true:=by rfl):
  RT P En n ⟨some d,.call ⟨.builtin .append, #[s,x], #[T,T]⟩,ty,pos,after,guard⟩ sl bx ⟨.own d 0 m m,[],[(d,qs)]⟩:=by
 intro sl' bx' g1 _ g3 w0 h0 c h β a w Q hi hs;have hd:d<400:=Nat.le_of_ble_eq_true hd;have hn':aB bx' d=none:=by rw[g3 d (by simp)];exact hn
 obtain⟨sa,hsv⟩:=hp0 _ _ (cH hs (x:=s) (sd:= .one p0) (by rw[g1 s (by simp[Op.operands,Call.operands])];exact h1)).1
 obtain⟨ao,capx,hx,x2,x3,x4,x5,x6⟩:(slc k qs m).p h (a.eval x):=(cH hs (x:=x) (sd:= .one (slc k qs m)) (by rw[g1 x (by simp[Op.operands,Call.operands])];exact h2)).1
 obtain⟨inf,z,q1,q2,q3,q4,q5,q6,q7⟩:=hz.get;have hk0:0<k:=Nat.le_of_ble_eq_true hk0;have hmk:0<m*k:=Nat.mul_pos hm hk0;obtain⟨bb,off,us,rfl,hua,huc⟩:=x6 (by rintro rfl;simp at x5;omega)
 have hby:=Nat.le_of_ble_eq_true hby;have hul:us.length=m*k:=by rw[←hua.length,x5]
 have hnews:∀j u,us[j]? =some u→w.cell? ((⟨bb,off,none⟩:Addr).add j)=some u:=fun j u hu=>by rw[Addr.add_mid];exact hi.holds _ _ _ (huc j u hu)
 have hbytes:(0+m)*bytes≤140737488355328:=by
  have:(0+m)*bytes≤1000000000*10000:=Nat.mul_le_mul oM hby;omega
 have h63:0+m≤maxLen:=by unfold maxLen;omega
 have hsz:z.cells.size=k:=by rw[q3];simp[q6]
 obtain⟨v',w',hr,hown,hgrow⟩:∃v' w',(Builtin.append_ #[T,T] ty #[a.eval s,a.eval x]).run P w= .ok v' w'∧w'.ownsRow w.heap.size E k v' (0+m) ([]++us)∧w.grownBy w' none:=by
  cases sa with
  |none=>
   obtain⟨v',w',hr,hown,hgrow,_⟩:=run_append_own (P:=P) w w.heap.size T ty E inf z k bytes hT.ok.1 q1 q2 q4 q5 hsz hk0 (.slice none 0 0) 0 [] (World.ownsRow_nil w _ E k) ⟨bb,off,none⟩ m capx us hul hnews (fun u hu=>hua.one u hu) oM oM (Nat.le_refl _);exact⟨v',w',by rw[hsv,hx];exact hr,by simpa using hown,by simpa [Value.ownBlock] using hgrow⟩
  |some b0=>
   obtain⟨v',w',hr,hown,hgrow⟩:=run_append_arg_grows (P:=P) w T ty E inf z k bytes hT.ok.1 q1 q2 q4 q5 hsz hk0 b0 0 0 [] (by simp) (by simp) ⟨bb,off,none⟩ m capx us hul hnews oM h63 hbytes
   exact⟨v',w',by rw[hsv,hx];exact hr,hown,hgrow⟩
 rw[Nat.zero_add,List.nil_append] at hown;obtain⟨o1,o2⟩:=hown;rcases o2 with⟨_,o2⟩|⟨g,cap,cur,rfl,ob,og,on,om,os,ot⟩
 ·omega
 have hbel:Below w.heap.size w w':=⟨hgrow.os,hgrow.tape,hgrow.output,hgrow.size,fun k hk=>hgrow.block k hk (by simp)⟩
 have hI:=hi.call (Le.refl h) (fun b o v e=>by rw[hbel.cell (p:=⟨b,o,none⟩) (hi.holds.lt e)];exact hi.holds b o v e) (fun b o v e e0=>by rw[e] at e0;cases e0) hbel
 have hlt:∀k ps,aB bx' k=some ps→ps≠[]→β k<w.heap.size:=fun k ps hk hp=>by
  obtain⟨_,_,us,rs,T',h3,_⟩:=hi.box k ps hk hp;exact dB h3
 have hhg:∀o,h g o=none:=fun o=>by
  cases hh:h g o with
  |none=>rfl
  |some v=>have:=hi.holds.lt hh;omega
 have hcur:cur=(us++cur.toList.drop (m*k)).toArray:=by
  apply Array.ext';simp only;rw[←ot,List.take_append_drop]
 unfold Oper.wp;rw[iP a s x T w (v:= .slice (some ⟨g,0,none⟩) m cap) (w':=w') hr];refine⟨_,h,upd β d g,rfl,⟨hI.env,hI.holds,hI.le0,hI.fresh,hI.below,hI.dis,fun j hj=>?_,fun j ps hj hp=>?_,fun i j ps qs hi' hp hj' hq e=>?_⟩,Le.refl _,fun j hj=>aV (by rintro rfl;exact hj hn'),⟨cap,by rw[cK],on,om⟩,?_⟩
 ·rw[aV oM];exact hI.pin j hj
 ·rw[List.singleton_append,aC] at hj
  by_cases e:d=j
  ·subst e
   rw[if_pos rfl] at hj;cases hj
   rw[cK];exact⟨⟨fun _=>Nat.le_trans hi.below.size ob,fun h=>absurd hd oM⟩,hhg,_,_,E,by rw[dW (eT hd),og,←hcur],hua,fun hg=>absurd hg.1 oM,cZ (eT hd) _ _ _⟩
  ·rw[if_neg e] at hj
   rw[aV (fun h=>e (Eq.symm h))];obtain⟨r0,r1,us,rs,T',r2,r3,r4,r5⟩:=hI.box j ps hj hp;obtain⟨k1,k2⟩:=fK (β':=upd β d g) (bx':=(d,qs)::bx') r5 (fun r hr=>⟨by rw[aC];split<;>simp;exact hr,aV (by rintro rfl;exact hr hn')⟩)
   exact⟨r0,r1,us,rs,T',by rw[k2];exact r2,r3,fun hg=>by rw[aV (by have:=hg.1;omega)];exact r4 hg,k1⟩
 ·rw[List.singleton_append,aC] at hi' hj'
  by_cases e1:d=i<;>by_cases e2:d=j
  ·rw[←e1,←e2]
  ·subst e1
   rw[cK,aV (fun h=>e2 (Eq.symm h))] at e;rw[if_neg e2] at hj';have:=hlt j _ hj' hq;omega
  ·subst e2
   rw[cK,aV (fun h=>e1 (Eq.symm h))] at e;rw[if_neg e1] at hi';have:=hlt i _ hi' hp;omega
  ·rw[aV (fun h=>e1 (Eq.symm h)),aV (fun h=>e2 (Eq.symm h))] at e
   rw[if_neg e1] at hi';rw[if_neg e2] at hj';exact hI.inj i j _ _ hi' hp hj' hq e
 ·show aB ((d,_)::bx') d≠none
  rw[aC,if_pos rfl];simp
theorem lZ3{T E:TypeId}{x:Operand}{T':TypeId}{k m:Nat}{ps:List Pd}[hT:CSlice P T E](hm:0<m)(hk:0<k)(hx:osd sl x=some (.one (slc k ps m))):RT P En n ⟨dst,.binOp .eql T x (.const (.slice none 0 0)) T',ty,pos,after,guard⟩ sl bx ⟨.one (ex (.bool false)),[],[]⟩:=
 RT.pure fun ρ h β bx' H=>by
  obtain⟨ao,cap,hv,x2,x3,x4,x5,x6⟩:(slc k ps m).p h (ρ x):=(H x (by simp[Op.operands]) _ hx).1
  have hmk:0<m*k:=Nat.mul_pos hm hk;obtain⟨bb,off,us,rfl,hua,huc⟩:=x6 (by rintro rfl;simp at x5;omega)
  have hc:ρ (.const (.slice none 0 0))= .slice none 0 0:=(H (.const (.slice none 0 0)) (by simp[Op.operands]) _ rfl).1
  refine⟨.bool false,fun w _=>?_,rfl,trivial⟩;have:=run_equal_slice_nil (P:=P) w T E (some ⟨bb,off,none⟩) m cap hT.ok;simp[execOp,eqGuard,Go.binOp,hv,hc,this]
end
end
section
open Go.RowKit Limb
theorem Fn.env{P:Program}{E1 E2:Ev}{f:FuncId}{ps:List Pd}{r:Pd}(h:Fn P E1 f ps r)(he:∀w,E2.e w→E1.e w):Fn P E2 f ps r:=
 fun hh w vs hw=>h hh w vs (he w hw)
section
variable{P:Program}{En:Ev}{n:Nat}{ops:Array Oper}{o:Oper}{sl:Sl}{bx:Bx}
theorem LT.skipU{g t:Nat}{b:Bool}(hg:o.guard=some (g,b))(hd:(ops[g]?).bind (·.dst)=some t)(ht:aB sl t=some (.one (ex undef))):LT P En n ops o sl bx ⟨.one (ex undef),[],[]⟩:=by
 intro sl' bx' h1 _ _ w0 h0 c hh β a w Q hi hs K hK;obtain⟨v,hv,hok,_⟩:=hs.slot t _ (by rw[h1 t (pE hg hd)];exact ht)
 have hv':v=undef:=hok;subst hv';have:Region.wanted o (yielded ops a.tmps)=false:=by simp[Region.wanted,hg,yielded,hd,hv,undef]
 rw[this];simp only[Bool.false_eq_true,if_false];exact hK _ _ ⟨undef,hh,β,rfl,hi,Le.refl _,fun _ _=>rfl,rfl,trivial⟩
theorem RT.pureE{sd:SD}(H:∀(ρ:Operand→Value) (h:GH) (β:Nat→Nat) (bx':Bx),(∀x∈o.op.operands.toList,∀s,osd sl x=some s→s.ok h β (ρ x)∧s.live bx')→∃v,(∀w,En.e w→Holds h w→(execOp ρ o).run P w= .ok (.value v) w)∧sd.ok h β v∧sd.live bx'):
  RT P En n o sl bx ⟨sd,[],[]⟩:=by
 intro sl' bx' h1 _ _ w0 h0 c h β a w Q hi hs;obtain⟨v,hv,hok,hl⟩:=H a.eval h β bx' (fun x hx s hxs=>cH hs (by rw[h1 x hx];exact hxs))
 unfold Oper.wp;rw[hv w hi.envNow hi.holds];exact⟨v,h,β,rfl,hi,Le.refl _,fun _ _=>rfl,hok,hl⟩
end
section
variable{P:Program}{En:Ev}{n:Nat}{sl:Sl}{bx:Bx}{dst:Option Tmp}{ty:TypeId}{pos:String}{after:Array Edge}{guard:Option (Nat×Bool)}
theorem iZB{T:TypeId}{x:Operand}{g off k:Nat}{vs:List Value}[ht:CRow P T k](hx:osd sl x=some (.one (ex (.pointer (some ⟨g,off,none⟩)))))(hE:∀w,En.e w→w.rangeAt g off vs)(hk:vs.length=k)(h1c:∀v∈vs,v.oneCell'=true):
  RT P En n ⟨dst,.load T x,ty,pos,after,guard⟩ sl bx ⟨.one (cD (vs.map ex)),[],[]⟩:=
 RT.pureE fun ρ h β bx' H=>by
  have h1:ρ x= .pointer (some ⟨g,off,none⟩):=(H x (by simp[Op.operands]) _ hx).1
  obtain⟨d,hd1,hd2,hd3⟩:=ht.ok;refine⟨.agg vs.toArray,fun w he _=>?_,⟨vs,rfl,mL h1c⟩,trivial⟩;simp only[execOp,h1,Sem.run_bind,run_loadAt_mid w g off T vs d (hE w he) hd1 hd2 (by rw[hk];exact hd3),Result.andThen_ok,Sem.run_pure]
theorem mY{T E:TypeId}{x ix:Operand}{len k:Nat}{ps:List Pd}{kk:IntKind}{i:Nat}[hT:CArr P T len E k][hE:CRow P E k](hx:osd sl x=some (.one (cD ps)))(hi:osd sl ix=some (.one (ex (.int kk (i:Int)))))(hy:i<len){qs:List Pd}(hq:(ps.drop (i*k)).take k=qs):
  RT P En n ⟨dst,.index T x ix,ty,pos,after,guard⟩ sl bx ⟨.one (cD qs),[],[]⟩:=
 RT.pure fun ρ h β bx' H=>by
  subst hq;obtain⟨vs,h1,h2⟩:(cD ps).p h (ρ x):=(H x (by simp[Op.operands]) _ hx).1
  have h6:ρ ix= .int kk (i:Int):=(H ix (by simp[Op.operands]) _ hi).1
  obtain⟨t1,t2⟩:=hT.ok;obtain⟨inf,t3,t4⟩:=Option.map_eq_some_iff.1 t2;obtain⟨d,hd1,hd2,_⟩:=hE.ok;have h5:(0:Int)≤(i:Int)∧(i:Int)<(len:Int):=oM;refine⟨.agg ((vs.drop (i*k)).take k).toArray,fun w _=>?_,⟨_,rfl,(h2.drop _).take _⟩,trivial⟩;simp only[execOp,h1,h6,Instr.index,asIntOf,Sem.run_bind,Sem.run_pure,Result.andThen_ok,run_underlying t1,if_pos h5,sizeOf,run_typeInfo _ t3,t4,part,kF hd1,hd2,if_true,Int.toNat_natCast,List.extract_toArray,List.extract_eq_take_drop,Nat.add_sub_cancel_left]
end
end
end Go.Proofs.YtfmjdlogjmofbaaGreatDoor

/- From the laid table of species to its cells. -/
import Derived.Test.YtfmjdlogjmofbaaGreatDoorK
import Derived.Lib.LaidTab
import Derived.OpenShut
import Derived.Test.YtfmjdlogjmofbaaGreatDoorV
import Derived.Test.YtfmjdlogjmofbaaGreatDoorW
set_option maxRecDepth 3000
namespace Go.Proofs.YtfmjdlogjmofbaaGreatDoor
open Go.RowKit Go.ChangeShapes Go.WideShapes
def iZ8{H:Type}(r:Bool×Bool×Int×Int×Int):DataW H:= .agg [.lit (.bool r.1),.lit (.bool r.2.1),.lit (.int .i64 r.2.2.1),.lit (.int .i64 r.2.2.2.1),.lit (.int .i64 r.2.2.2.2)]
section
variable{H:Type}{enc:TypeId×Value→H}{P:Program}{w:World}{base:Nat}{sp:Nat→Bool}{held:Bool}{fuel:Nat}{e tb ti:TypeId}{f0 f1 f2 f3 f4:Field}
theorem cZy{cs:List Value}{r:Bool×Bool×Int×Int×Int}{p:List MemPlace}(he:P.underlying e=some (.struct #[f0,f1,f2,f3,f4]))
  (t0:f0.type=tb) (t1:f1.type=tb) (t2:f2.type=ti) (t3:f3.type=ti) (t4:f4.type=ti) (o0:f0.offset=0) (o1:f1.offset=1) (o2:f2.offset=2) (o3:f3.offset=3) (o4:f4.offset=4)
  (hb:P.underlying tb=some .bool) (hi:P.underlying ti=some (.int .i64)) (cb:P.cellsOf tb=1) (ci:P.cellsOf ti=1) (ce:P.cellsOf e=5)
  (h:DataW.trod enc P w base sp held fuel e cs=some (iZ8 r,p)):cs=bZS r:=by
 obtain⟨xs,n,_,hx,hl,hlen,hf⟩:=DataW.trod_struct he h;have g0:=hf 0 f0 rfl;have g1:=hf 1 f1 rfl;have g2:=hf 2 f2 rfl;have g3:=hf 3 f3 rfl;have g4:=hf 4 f4 rfl;rw[t0,o0,cb] at g0;rw[t1,o1,cb] at g1;rw[t2,o2,ci] at g2;rw[t3,o3,ci] at g3;rw[t4,o4,ci] at g4;obtain⟨y0,y1,y2,y3,y4,rfl⟩:∃y0 y1 y2 y3 y4,xs=[y0,y1,y2,y3,y4]:=by
  match xs,hlen with
  |[y0,y1,y2,y3,y4],_=>exact⟨y0,y1,y2,y3,y4,rfl⟩
 obtain⟨u0,u1,u2,u3,u4,rfl⟩:∃u0 u1 u2 u3 u4,cs=[u0,u1,u2,u3,u4]:=by
  rw[ce] at hl;match cs,hl with
  |[u0,u1,u2,u3,u4],_=>exact⟨u0,u1,u2,u3,u4,rfl⟩
 obtain⟨b0,e0,k0⟩:=DataW.trod_bool hb (show DataW.trod enc P w base sp held n tb [u0]=some y0 from g0)
 obtain⟨b1,e1,k1⟩:=DataW.trod_bool hb (show DataW.trod enc P w base sp held n tb [u1]=some y1 from g1)
 obtain⟨z2,e2,k2,_⟩:=DataW.trod_int hi (show DataW.trod enc P w base sp held n ti [u2]=some y2 from g2)
 obtain⟨z3,e3,k3,_⟩:=DataW.trod_int hi (show DataW.trod enc P w base sp held n ti [u3]=some y3 from g3)
 obtain⟨z4,e4,k4,_⟩:=DataW.trod_int hi (show DataW.trod enc P w base sp held n ti [u4]=some y4 from g4)
 subst k0 k1 k2 k3 k4;obtain⟨r0,r1,r2,r3,r4⟩:=r;simp[iZ8] at hx
 simp at e0 e1 e2 e3 e4;obtain⟨⟨h0,h1,h2,h3,h4⟩,_⟩:=hx;subst e0 e1 e2 e3 e4;subst h0 h1 h2 h3 h4;rfl
theorem gZu{f:(Bool×Bool×Int×Int×Int)→List Value}(hf:∀r,(f r).length=5):∀(l:List (Bool×Bool×Int×Int×Int)) (cs:List Value),cs.length=l.length*5→(∀i r,l[i]? =some r→(cs.drop (i*5)).take 5=f r)→cs=l.flatMap f
 |[],cs,h,_=>by simp at h;simp[h]
 |r::l,cs,h,H=>by
  have h0:=H 0 r rfl;rw[Nat.zero_mul,List.drop_zero] at h0;have ih:=gZu hf l (cs.drop 5) (by rw[List.length_drop,h,List.length_cons];omega) (fun i r' hi=>by
   have:=H (i+1) r' (by simpa using hi)
   rw[List.drop_drop,←this];congr 2
   omega)
  rw[List.flatMap_cons,←h0,←ih,List.take_append_drop]
theorem aZp{t:TypeId}{n:Nat}{cs:List Value}{rs:List (Bool×Bool×Int×Int×Int)}{p:List MemPlace}(ht:P.underlying t=some (.array n e))(he:P.underlying e=some (.struct #[f0,f1,f2,f3,f4]))
  (t0:f0.type=tb) (t1:f1.type=tb) (t2:f2.type=ti) (t3:f3.type=ti) (t4:f4.type=ti) (o0:f0.offset=0) (o1:f1.offset=1) (o2:f2.offset=2) (o3:f3.offset=3) (o4:f4.offset=4)
  (hb:P.underlying tb=some .bool) (hi:P.underlying ti=some (.int .i64)) (cb:P.cellsOf tb=1) (ci:P.cellsOf ti=1) (ce:P.cellsOf e=5) (ct:P.cellsOf t=n*5)
  (h:DataW.trod enc P w base sp held fuel t cs=some (.agg (rs.map iZ8),p)):cs=rs.flatMap bZS:=by
 obtain⟨xs,m,_,hx,hl,hlen,hf⟩:=DataW.trod_array ht h;have hxs:rs.map iZ8=xs.map (·.1):=by
  have:=congrArg Prod.fst hx;simpa using this
 have hrl:rs.length=n:=by
  have:=congrArg List.length hxs;simp at this;omega
 refine gZu (fun _=>rfl) rs cs (by rw[hl,ct,hrl]) fun i r hr=>?_
 have hi':i<n:=by
  rw[←hrl];exact(List.getElem?_eq_some_iff.1 hr).1
 have g:=hf i hi';rw[ce] at g;have hxi:(xs[i]?).map (·.1)=some (iZ8 r):=by rw[←List.getElem?_map,←hxs,List.getElem?_map,hr];rfl
 obtain⟨y,hy,hy1⟩:=Option.map_eq_some_iff.1 hxi;rw[hy] at g;exact cZy (r:=r) (p:=y.2) he t0 t1 t2 t3 t4 o0 o1 o2 o3 o4 hb hi cb ci ce (by rw[g,←hy1])
end
end Go.Proofs.YtfmjdlogjmofbaaGreatDoor

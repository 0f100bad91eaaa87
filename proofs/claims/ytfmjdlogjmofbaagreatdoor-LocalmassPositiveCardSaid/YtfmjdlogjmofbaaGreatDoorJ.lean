/- Short words for walks. For any program. -/
import Derived.Test.YtfmjdlogjmofbaaGreatDoorG
import Derived.Test.YtfmjdlogjmofbaaGreatDoorTc
import Derived.Test.YtfmjdlogjmofbaaGreatDoorW
set_option maxRecDepth 3000
namespace Go.Proofs.YtfmjdlogjmofbaaGreatDoor
open Go.RowKit Limb
theorem jj{α:Type}{a:α}:a=a:=rfl
section
variable{P:Program}{En:Ev}{n:Nat}{w0:World}{h0:GH}{c:Cx}{K:Exit→St→Prop}{σ:St}{full rest:List Oper}{acc:List Eff}{sl:Sl}{bx:Bx}
variable{d:Nat}{op:Op}{ty:TypeId}{pos:String}{after:Array Edge}{sd:SD}{rb:List Nat}{y:Nat×List Pd}{g tt:Nat}{b:Bool}
theorem jn(hk:K .normal σ)(hok:jI n full acc.reverse=true:=by kernel_rfl):RG P En n full [] acc K σ:=RG.nil hok hk
theorem jk(t:RG P En n full rest (⟨.one (ex undef),[],[]⟩::acc) K ⟨(d,.one (ex undef))::sl,bx⟩)(hd:(full.toArray[g]?).bind (·.dst)=some tt:=by exact rfl)(ht:aB sl tt=some (.one (ex (.bool (!b)))):=by exact rfl):RG P En n full (⟨some d,op,ty,pos,after,some (g,b)⟩::rest) acc K ⟨sl,bx⟩:=RG.S0 (LT.skip rfl hd ht) t
theorem ju(t:RG P En n full rest (⟨.one (ex undef),[],[]⟩::acc) K ⟨(d,.one (ex undef))::sl,bx⟩)(hd:(full.toArray[g]?).bind (·.dst)=some tt:=by exact rfl)(ht:aB sl tt=some (.one (ex undef)):=by exact rfl):RG P En n full (⟨some d,op,ty,pos,after,some (g,b)⟩::rest) acc K ⟨sl,bx⟩:=RG.S0 (LT.skipU rfl hd ht) t
theorem jg(h:RT P En n ⟨some d,op,ty,pos,after,some (g,b)⟩ sl bx ⟨sd,rb,[]⟩)(t:RG P En n full rest (⟨sd,rb,[]⟩::acc) K ⟨(d,sd)::sl,bx⟩)(hd:(full.toArray[g]?).bind (·.dst)=some tt:=by exact rfl)(ht:aB sl tt=some (.one (ex (.bool b))):=by exact rfl):RG P En n full (⟨some d,op,ty,pos,after,some (g,b)⟩::rest) acc K ⟨sl,bx⟩:=RG.S0 (LT.run rfl hd ht h) t
theorem jt{cc:Operand}{x y:Code}(hc:osd σ.sl cc=some (.one (ex (.bool true))))(h:WpD P En n w0 h0 c x K σ):WpD P En n w0 h0 c (.cond cc x y) K σ:=WpD.condT hc h
theorem jf{cc:Operand}{x y:Code}(hc:osd σ.sl cc=some (.one (ex (.bool false))))(h:WpD P En n w0 h0 c y K σ):WpD P En n w0 h0 c (.cond cc x y) K σ:=WpD.condF hc h
theorem jp(h:K .normal σ):WpD P En n w0 h0 c .skip K σ:=WpD.skip h
theorem je{id:Nat}(h:K (.exit id) σ):WpD P En n w0 h0 c (.exit id) K σ:=WpD.exit h
theorem ji(h:K .ret σ):WpD P En n w0 h0 c .ret K σ:=WpD.ret h
end
section
variable{P:Program}{En:Ev}{n:Nat}{sl:Sl}{bx:Bx}{dst:Option Tmp}{ty:TypeId}{pos:String}{after:Array Edge}{guard:Option (Nat×Bool)}{T T':TypeId}{x y:Operand}{k:IntKind}{u v r:Int}
theorem bLt(hx:osd sl x=some (.one (ex (.int k u))))(hy:osd sl y=some (.one (ex (.int k v))))(h:u<v:=by first|assumption|omega):RT P En n ⟨dst,.binOp .lss T x y T',ty,pos,after,guard⟩ sl bx ⟨.one (ex (.bool true)),[],[]⟩:=aH hx hy (fun w=>rY w _ _ _ _ _ _) (dH (decide_eq_true h))
theorem bLf(hx:osd sl x=some (.one (ex (.int k u))))(hy:osd sl y=some (.one (ex (.int k v))))(h:¬u<v:=by first|assumption|omega):RT P En n ⟨dst,.binOp .lss T x y T',ty,pos,after,guard⟩ sl bx ⟨.one (ex (.bool false)),[],[]⟩:=aH hx hy (fun w=>rY w _ _ _ _ _ _) (dH (decide_eq_false h))
theorem bMt(hx:osd sl x=some (.one (ex (.int k u))))(hy:osd sl y=some (.one (ex (.int k v))))(h:u≤v:=by first|assumption|omega):RT P En n ⟨dst,.binOp .leq T x y T',ty,pos,after,guard⟩ sl bx ⟨.one (ex (.bool true)),[],[]⟩:=aH hx hy (fun w=>pU w _ _ _ _ _ _) (dH (decide_eq_true h))
theorem bMf(hx:osd sl x=some (.one (ex (.int k u))))(hy:osd sl y=some (.one (ex (.int k v))))(h:¬u≤v:=by first|assumption|omega):RT P En n ⟨dst,.binOp .leq T x y T',ty,pos,after,guard⟩ sl bx ⟨.one (ex (.bool false)),[],[]⟩:=aH hx hy (fun w=>pU w _ _ _ _ _ _) (dH (decide_eq_false h))
theorem bGt(hx:osd sl x=some (.one (ex (.int k u))))(hy:osd sl y=some (.one (ex (.int k v))))(h:u>v:=by first|assumption|omega):RT P En n ⟨dst,.binOp .gtr T x y T',ty,pos,after,guard⟩ sl bx ⟨.one (ex (.bool true)),[],[]⟩:=aH hx hy (fun w=>nS w _ _ _ _ _ _) (dH (decide_eq_true h))
theorem bGf(hx:osd sl x=some (.one (ex (.int k u))))(hy:osd sl y=some (.one (ex (.int k v))))(h:¬u>v:=by first|assumption|omega):RT P En n ⟨dst,.binOp .gtr T x y T',ty,pos,after,guard⟩ sl bx ⟨.one (ex (.bool false)),[],[]⟩:=aH hx hy (fun w=>nS w _ _ _ _ _ _) (dH (decide_eq_false h))
theorem bHt(hx:osd sl x=some (.one (ex (.int k u))))(hy:osd sl y=some (.one (ex (.int k v))))(h:u≥v:=by first|assumption|omega):RT P En n ⟨dst,.binOp .geq T x y T',ty,pos,after,guard⟩ sl bx ⟨.one (ex (.bool true)),[],[]⟩:=aH hx hy (fun w=>bZ4 w _ _ _ _ _ _) (dH (decide_eq_true h))
theorem bHf(hx:osd sl x=some (.one (ex (.int k u))))(hy:osd sl y=some (.one (ex (.int k v))))(h:¬u≥v:=by first|assumption|omega):RT P En n ⟨dst,.binOp .geq T x y T',ty,pos,after,guard⟩ sl bx ⟨.one (ex (.bool false)),[],[]⟩:=aH hx hy (fun w=>bZ4 w _ _ _ _ _ _) (dH (decide_eq_false h))
theorem bEt(hx:osd sl x=some (.one (ex (.int k u))))(hy:osd sl y=some (.one (ex (.int k v))))(h:u=v:=by first|assumption|omega):RT P En n ⟨dst,.binOp .eql T x y T',ty,pos,after,guard⟩ sl bx ⟨.one (ex (.bool true)),[],[]⟩:=aH hx hy (fun w=>iR w _ _ _ _ _ _) (dH (beqT h))
theorem bEf(hx:osd sl x=some (.one (ex (.int k u))))(hy:osd sl y=some (.one (ex (.int k v))))(h:u≠v:=by first|assumption|omega):RT P En n ⟨dst,.binOp .eql T x y T',ty,pos,after,guard⟩ sl bx ⟨.one (ex (.bool false)),[],[]⟩:=aH hx hy (fun w=>iR w _ _ _ _ _ _) (dH (beqF h))
theorem bNt(hx:osd sl x=some (.one (ex (.int k u))))(hy:osd sl y=some (.one (ex (.int k v))))(h:u≠v:=by first|assumption|omega):RT P En n ⟨dst,.binOp .neq T x y T',ty,pos,after,guard⟩ sl bx ⟨.one (ex (.bool true)),[],[]⟩:=aH hx hy (fun w=>wT w _ _ _ _ _ _) (dH (bneT h))
theorem bNf(hx:osd sl x=some (.one (ex (.int k u))))(hy:osd sl y=some (.one (ex (.int k v))))(h:u=v:=by first|assumption|omega):RT P En n ⟨dst,.binOp .neq T x y T',ty,pos,after,guard⟩ sl bx ⟨.one (ex (.bool false)),[],[]⟩:=aH hx hy (fun w=>wT w _ _ _ _ _ _) (dH (bneF h))
theorem bAd(hx:osd sl x=some (.one (ex (.int k u))))(hy:osd sl y=some (.one (ex (.int k v))))(h:k.wrap (u+v)=r):RT P En n ⟨dst,.binOp .add T x y T',ty,pos,after,guard⟩ sl bx ⟨.one (ex (.int k r)),[],[]⟩:=aH hx hy (fun w=>iZz w _ _ _ _ _ _) (dV h)
theorem bSu(hx:osd sl x=some (.one (ex (.int k u))))(hy:osd sl y=some (.one (ex (.int k v))))(h:k.wrap (u-v)=r):RT P En n ⟨dst,.binOp .sub T x y T',ty,pos,after,guard⟩ sl bx ⟨.one (ex (.int k r)),[],[]⟩:=aH hx hy (fun w=>eR w _ _ _ _ _ _) (dV h)
theorem bMu(hx:osd sl x=some (.one (ex (.int k u))))(hy:osd sl y=some (.one (ex (.int k v))))(h:k.wrap (u*v)=r):RT P En n ⟨dst,.binOp .mul T x y T',ty,pos,after,guard⟩ sl bx ⟨.one (ex (.int k r)),[],[]⟩:=aH hx hy (fun w=>cZQ w _ _ _ _ _ _) (dV h)
theorem bRe(hx:osd sl x=some (.one (ex (.int k u))))(hy:osd sl y=some (.one (ex (.int k v))))(h:u.tmod v=r)(hv:v≠0:=by first|decide|omega|assumption):RT P En n ⟨dst,.binOp .rem T x y T',ty,pos,after,guard⟩ sl bx ⟨.one (ex (.int k r)),[],[]⟩:=aH hx hy (fun w=>cR w _ _ _ _ _ _ hv) (dV h)
theorem bQu(hx:osd sl x=some (.one (ex (.int k u))))(hy:osd sl y=some (.one (ex (.int k v))))(h:k.wrap (u.tdiv v)=r)(hv:v≠0:=by first|decide|omega|assumption):RT P En n ⟨dst,.binOp .quo T x y T',ty,pos,after,guard⟩ sl bx ⟨.one (ex (.int k r)),[],[]⟩:=aH hx hy (fun w=>iZy w _ _ _ _ _ _ hv) (dV h)
theorem bCv{S:TypeId}{k':IntKind}[hS:CInt P S k'][hT:CInt P T k](hx:osd sl x=some (.one (ex (.int k' u))))(h:k.wrap u=r):RT P En n ⟨dst,.convert S T x,ty,pos,after,guard⟩ sl bx ⟨.one (ex (.int k r)),[],[]⟩:=eZH hx (fun w=>tQ w CInt.ok CInt.ok _ _) (dV h)
theorem bNo{q:Bool}(hx:osd sl x=some (.one (ex (.bool q)))):RT P En n ⟨dst,.unOp .not T x,ty,pos,after,guard⟩ sl bx ⟨.one (ex (.bool (!q))),[],[]⟩:=fZH hx (fun w=>lZm w _)
end
section
variable{P:Program}{En:Ev}{n:Nat}{K:Exit→St→Prop}{full rest:List Oper}{acc:List Eff}{sl:Sl}{bx:Bx}
variable{d:Nat}{ty:TypeId}{pos:String}{after:Array Edge}
theorem jA{T:TypeId}{vs:List Value}[CZero P T vs]{ps:List Pd}(hd:Nat.blt d 400=true)(hn:aB bx d=none)(hp:vs.map ex=ps)(t:RG P En n full rest (⟨.ptr d 0,[],[(d,ps)]⟩::acc) K ⟨(d,.ptr d 0)::sl,(d,ps)::bx⟩):RG P En n full (⟨some d,.alloc T,ty,pos,after,none⟩::rest) acc K ⟨sl,bx⟩:=jT (xW hd hn hp) t
theorem jB{T:TypeId}{x:Operand}{ps:List Pd}(hx:osd sl x=some (.one (cD ps)))(hd:Nat.blt d 400=true)(hn:aB bx d=none)(t:RG P En n full rest (⟨.ptr d 0,[],[(d,ps)]⟩::acc) K ⟨(d,.ptr d 0)::sl,(d,ps)::bx⟩):RG P En n full (⟨some d,.box T x,ty,pos,after,none⟩::rest) acc K ⟨sl,bx⟩:=jT (lZq hx hd hn) t
theorem jF{S:TypeId}{x:Operand}{f off b o:Nat}[CField P S f off](hx:osd sl x=some (.ptr b o)){o':Nat}(ho:o+off=o')(t:RG P En n full rest (⟨.ptr b o',[],[]⟩::acc) K ⟨(d,.ptr b o')::sl,bx⟩):RG P En n full (⟨some d,.fieldAddr S x f,ty,pos,after,none⟩::rest) acc K ⟨sl,bx⟩:=jS (lL hx ho) t
theorem jl{T:TypeId}{x:Operand}{b o:Nat}{ps:List Pd}{p:Pd}[COne P T](hx:osd sl x=some (.ptr b o))(hb:aB bx b=some ps)(hp:ps[o]? =some p)(t:RG P En n full rest (⟨.one p,[b],[]⟩::acc) K ⟨(d,.one p)::sl,bx⟩)(hl:lk b=false:=by exact rfl):RG P En n full (⟨some d,.load T x,ty,pos,after,none⟩::rest) acc K ⟨sl,bx⟩:=jS (aX hx hb hp hl) t
theorem jP{T:TypeId}{x y:Operand}{b k o:Nat}{ps qs rs:List Pd}[CRow P T k](hx:osd sl x=some (.ptr b o))(hy:osd sl y=some (.one (cD qs)))(hb:aB bx b=some ps)(hr:eW ps o qs=rs)(t:RG P En n full rest (⟨.one (ex undef),[b],[(b,rs)]⟩::acc) K ⟨sl,(b,rs)::bx⟩)(hq:Nat.beq qs.length k=true:=by exact rfl)(hk:Nat.ble (o+k) ps.length=true:=by exact rfl)(hp:Nat.blt 0 k=true:=by exact rfl)(hl:lk b=false:=by exact rfl):RG P En n full (⟨none,.store T x y,ty,pos,after,none⟩::rest) acc K ⟨sl,bx⟩:=jO (mU hx hy hb hq hk hr hp hl) t
theorem jL{T:TypeId}{x:Operand}{b k o:Nat}{ps qs:List Pd}[CRow P T k](hx:osd sl x=some (.ptr b o))(hb:aB bx b=some ps)(hq:(ps.drop o).take k=qs)(t:RG P En n full rest (⟨.one (cD qs),[b],[]⟩::acc) K ⟨(d,.one (cD qs))::sl,bx⟩)(hk:Nat.ble (o+k) ps.length=true:=by exact rfl)(hl:lk b=false:=by exact rfl):RG P En n full (⟨some d,.load T x,ty,pos,after,none⟩::rest) acc K ⟨sl,bx⟩:=jS (dM hx hb hk hq hl) t
theorem jE{x:Operand}{T E:TypeId}{p:Pd}{k:Nat}[CLen p k][CSlice P T E](hx:osd sl x=some (.one p))(t:RG P En n full rest (⟨.one (i6 k),[],[]⟩::acc) K ⟨(d,.one (i6 k))::sl,bx⟩):RG P En n full (⟨some d,.call ⟨.builtin .len, #[x], #[T]⟩,ty,pos,after,none⟩::rest) acc K ⟨sl,bx⟩:=jS (dQ hx CSlice.ok) t
theorem jq{q x y:Operand}{sd:SD}(hc:osd sl q=some (.one (ex (.bool true))))(hx:osd sl x=some sd)(t:RG P En n full rest (⟨sd,[],[]⟩::acc) K ⟨(d,sd)::sl,bx⟩):RG P En n full (⟨some d,.pick q x y,ty,pos,after,none⟩::rest) acc K ⟨sl,bx⟩:=jS (dE hc hx) t
theorem jQ{q x y:Operand}{sd:SD}(hc:osd sl q=some (.one (ex (.bool false))))(hx:osd sl y=some sd)(t:RG P En n full rest (⟨sd,[],[]⟩::acc) K ⟨(d,sd)::sl,bx⟩):RG P En n full (⟨some d,.pick q x y,ty,pos,after,none⟩::rest) acc K ⟨sl,bx⟩:=jS (bZ hc hx) t
theorem jx'{x:Operand}{i:Nat}{ps:List Pd}{p:Pd}(hx:osd sl x=some (.one (dK ps)))(hp:ps[i]? =some p)(t:RG P En n full rest (⟨.one p,[],[]⟩::acc) K ⟨(d,.one p)::sl,bx⟩):RG P En n full (⟨some d,.extract x i,ty,pos,after,none⟩::rest) acc K ⟨sl,bx⟩:=jS (eZG hx hp) t
theorem jgm{g tt:Nat}{b:Bool}{x:Operand}{sd:SD}(hx:osd sl x=some sd)(t:RG P En n full rest (⟨sd,[],[]⟩::acc) K ⟨(d,sd)::sl,bx⟩)(hd:(full.toArray[g]?).bind (·.dst)=some tt:=by exact rfl)(ht:aB sl tt=some (.one (ex (.bool b))):=by exact rfl):RG P En n full (⟨some d,.move x,ty,pos,after,some (g,b)⟩::rest) acc K ⟨sl,bx⟩:=jg (eM hx) t hd ht
theorem jgf{g tt:Nat}{q:Bool}{S:TypeId}{x:Operand}{f off b o o':Nat}[CField P S f off](hx:osd sl x=some (.ptr b o))(ho:o+off=o')(t:RG P En n full rest (⟨.ptr b o',[],[]⟩::acc) K ⟨(d,.ptr b o')::sl,bx⟩)(hd:(full.toArray[g]?).bind (·.dst)=some tt:=by exact rfl)(ht:aB sl tt=some (.one (ex (.bool q))):=by exact rfl):RG P En n full (⟨some d,.fieldAddr S x f,ty,pos,after,some (g,q)⟩::rest) acc K ⟨sl,bx⟩:=jg (lL hx ho) t hd ht
theorem jgl{g tt:Nat}{q:Bool}{T:TypeId}{x:Operand}{b o:Nat}{ps:List Pd}{p:Pd}[COne P T](hx:osd sl x=some (.ptr b o))(hb:aB bx b=some ps)(hp:ps[o]? =some p)(t:RG P En n full rest (⟨.one p,[b],[]⟩::acc) K ⟨(d,.one p)::sl,bx⟩)(hd:(full.toArray[g]?).bind (·.dst)=some tt:=by exact rfl)(ht:aB sl tt=some (.one (ex (.bool q))):=by exact rfl)(hl:lk b=false:=by exact rfl):RG P En n full (⟨some d,.load T x,ty,pos,after,some (g,q)⟩::rest) acc K ⟨sl,bx⟩:=jg (aX hx hb hp hl) t hd ht
theorem rtT{σ:St}{fn:Func}{t:Nat}{p:Pd}(hf:fn.results= #[.tmp t])(h:aB σ.sl t=some (.one p)):tL P fn σ p:=wD hf (.tmp h) (PLe.refl _)
theorem rtC{σ:St}{fn:Func}{t b k:Nat}{T:TypeId}{ps:List Pd}[CRow P T k](hf:fn.results= #[.cell t T])(h:aB σ.sl t=some (.ptr b 0))(hb:aB σ.bx b=some ps)(hk:Nat.beq ps.length k=true:=by exact rfl)(hl:lk b=false:=by exact rfl):tL P fn σ (cD ps):=wD hf (.cell h hb CRow.ok hk hl) (PLe.refl _)
theorem rtD{σ:St}{fn:Func}{t b k u:Nat}{T:TypeId}{ps:List Pd}{p:Pd}[CRow P T k](hf:fn.results= #[.cell t T,.tmp u])(h:aB σ.sl t=some (.ptr b 0))(hb:aB σ.bx b=some ps)(hu:aB σ.sl u=some (.one p))(hk:Nat.beq ps.length k=true:=by exact rfl)(hl:lk b=false:=by exact rfl):tL P fn σ (dK [cD ps,p]):=lB hf (.cell h hb CRow.ok hk hl) (.tmp hu) (PLe.refl _)
theorem jV{s l:Sl}{bs:Bx}{t:Nat}{p q:Pd}(h:aB s t=some (.one q))(r:mS s bs l)(e:PLe q p:=by exact PLe.refl _):mS s bs ((t,.one p)::l):=⟨⟨_,h,e⟩,trivial,r⟩
end
theorem wS(i:Nat)(h:i<9223372036854775807):IntKind.i64.wrap ((i:Int)+1)=((i+1:Nat):Int):=by rw[IntWalk.i64_in _ ⟨oM,oM⟩];rfl
theorem mC{α:Type}{l:List α}{k:Nat}(d:α)(h:k<l.length):l.getD k d∈l:=by simp[List.getD,List.getElem?_eq_getElem h]
end Go.Proofs.YtfmjdlogjmofbaaGreatDoor

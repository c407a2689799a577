/- DocRefuses: the walk. -/
import Derived.Test.YthfjefcljeamgaaGreatDoorLwE
namespace Go.Proofs.YthfjefcljeamgaaGreatDoor
set_option maxRecDepth 100000
set_option maxHeartbeats 4000000
open Go.RowKit
attribute [local go_sem ↓] Go.wp_at_zero Go.wp_at_succ
/-- the document of a row of ops -/
noncomputable def En(l:List Dc.Op):Dc.Doc:=l.foldl Dc.Doc.act Dc.Doc.new
theorem OD:∀(l:List Dc.Op) (d:Dc.Doc),Dc.BS d→Dc.BS (l.foldl Dc.Doc.act d)
 |[],_,h=>h
 |o::l,d,h=>OD l (d.act o) (h.act o)
theorem Ni(l:List Dc.Op):Dc.BS (En l):=OD l _ Dc.BS.new
theorem Wz(d:Dc.Doc)(o:Dc.Op):(d.act o).ops.length≤d.ops.length+1:=by
 unfold Dc.Doc.act
 split
 ·show(d.ops++[o]).length≤_
  simp
 ·omega
theorem Rb:∀(l:List Dc.Op) (d:Dc.Doc),(l.foldl Dc.Doc.act d).ops.length≤d.ops.length+l.length
 |[],_=>Ac _
 |o::l,d=>by
  have h1:=Rb l (d.act o)
  have h2:=Wz d o
  simp only[Nv,BO]
  omega
theorem KX(l:List Dc.Op):(En l).ops.length≤l.length:=by
 have:=Rb l Dc.Doc.new
 have h0:Dc.Doc.new.ops.length=0:=rfl
 unfold En
 omega
theorem Tu{l:List Dc.Op}{k:Nat}(hk:k<l.length):En (l.take (k+1))=(En (l.take k)).act (l[k]'hk):=by
 unfold En
 rw[AW,Aj hk,Dy]
 rfl
theorem EI.form{v:Value}{l:List Dc.Op}{w:World}(h:EI v l w):∃ao c,v= .slice ao l.length c∧l.length≤maxLen:=by
 obtain⟨ps,rfl,⟨h0,ao,c,rfl,_⟩,_⟩:=h
 exact⟨ao,c,by rw[AM],by rw[AM];exact h0⟩
/-- one op of the argument -/
theorem EI.at{v:Value}{l:List Dc.Op}{w:World}(h:EI v l w){k:Nat}(hk:k<l.length):∃g of c sa sc,v= .slice (some ⟨g,of,none⟩) l.length c∧g<w.heap.size∧w.rangeAt g (of+k*20) (As (l[k]'hk) (.slice sa (l[k]'hk).cuts.length sc)).toList∧
  BI 4 AD (.slice sa (l[k]'hk).cuts.length sc) (l[k]'hk).cuts w:=by
 obtain⟨ps,rfl,h2,h3⟩:=h
 rw[AM]at hk
 obtain⟨_,ao,c,rfl,_,_,h5⟩:=id h2
 obtain⟨g,of,rfl,hgl,_⟩:=h5 (by intro e;rw[e]at hk;simp at hk)
 have hr:=h2.range hk (Ac _)
 have hc:=(h3 _ (AQ hk)).1
 have hn:(ps[k]'hk).2.n=(ps[k]'hk).1.cuts.length:=by
  obtain⟨_,ao,c,e,_⟩:=hc
  have e':Value.slice (ps[k]'hk).2.a (ps[k]'hk).2.n (ps[k]'hk).2.c= .slice ao (ps[k]'hk).1.cuts.length c:=e
  injection e'
 simp only[List.getElem_map,AM]
 have hv:(ps[k]'hk).2.v= .slice (ps[k]'hk).2.a (ps[k]'hk).1.cuts.length (ps[k]'hk).2.c:=by unfold Sl.v;rw[hn]
 refine⟨g,of,c,(ps[k]'hk).2.a,(ps[k]'hk).2.c,rfl,hgl,?_,hv▸hc⟩
 rw[←hv]
 exact hr
/-- the document's part of a row of ops that is not too great -/
theorem Q8{l:List Dc.Op}(h:Hz l=false):l.length≤40∧∀o∈l,o.text.length≤200∧o.cuts.length≤40:=by
 unfold Hz at h
 rw[Bool.or_eq_false_iff]at h
 exact⟨(EZ h.1).1,fun o ho=>⟨((EZ h.1).2 o ho).1,((EZ h.1).2 o ho).2.2⟩⟩
end Go.Proofs.YthfjefcljeamgaaGreatDoor

/- Laws of walks, each under its own conditions. -/
import Derived.Test.YtpbhoidjmpjfpaaGreatDoorXP20
import Derived.Test.YtpbhoidjmpjfpaaGreatDoorXP22
set_option maxRecDepth 100000
set_option maxHeartbeats 40000000
namespace Go.Proofs.Wit
open Go Go.RowKit
abbrev Qc(e:ax)(ls:List LV)(sp:ai):Obj:=.cells (ls.flatMap LV.cells++sp).toArray e (0,0)
theorem Up{ls:List LV}:(ls.flatMap LV.cells).length=ls.length*5:=qS (enc:=LV.cells) (sz:=5) (λ_=>rfl)
def pT:Tr:=.leaf 3 0 0 0
theorem yX:pT.ok:=⟨aI,rfl,aI⟩
theorem V3{t:Tr}(h:t.ok)(hf:j7 (bT t)=0):Cf (bT t) t:=nH h (λe=>by rw[e]at hf;exact absurd hf aI)
theorem K1{l:Int}{ls:List LV}{i:Nat}{x:LV}(h1:j7 x.f.f=0)(h2:1<=x.r/\x.r<=12)(h3:oG i x=0)(h4:gJ l x.r=true)(h5:pK ls x):jM l ls i x=0:=by
 rw[jM,if_neg (by simp[h1]),if_neg aH,if_neg (by simp[h3]),if_neg (by simp[h4]),if_pos h5]
theorem Tt{t:Tr}(h:t.ok)(hf:j7 (bT t)=0):fF (bT t)=t:=(V3 h hf).top
end Go.Proofs.Wit
namespace Go.Proofs.Wit
open Go Go.RowKit Go.ChangeShapes Go.WideShapes Go.ChangeAt Go.Deep Go.Joins
instance:Inhabited LV:=⟨⟨⟨none,0,[]⟩,0,0,0,0⟩⟩
section
variable{H:Type}{enc:ax×aC->H}{P:av}
theorem DX{W:aB}{t e:ax}{ps rs:ab}{va:Bool}{n fuel:Nat}{cs:ai}{D:List (DataW H)}{p:List MemPlace}(ht:P.underlying t=some (.array n e))(ce:P.cellsOf e=1)(he:P.underlying e=some (.func ps rs va))
  (h:DataW.trod enc P W 0 (λ_=>true) true fuel t cs=some (.agg D,p)):∀(r:Nat) (d:DataW H),D[r]?=some d->∃v q,cs[r]?=some v/\∃m,DataW.trod enc P W 0 (λ_=>true) true m e [v]=some (d,q):=by
 obtain⟨xs,m,_,ex,_,hl,hel⟩:=DataW.trod_array ht h;have e3:(xs.map (·.1))=D:=(DataW.agg.inj (Prod.mk.inj ex).1).symm;intro r d hr;have hD:D.length=xs.length:=by rw[<-e3,dY]
 have hrx:r<xs.length:=by rw[<-hD];exact(bB.1 hr).1
 have hE:=hel r aH;rw[ce,eS,bJ hrx]at hE;have hx1:xs[r].1=d:=by
  rw[<-e3,dB,bJ hrx]at hr;exact eA hr
 generalize hL:(cs.drop r).take 1=L at hE;have hLl:L.length<=1:=by rw[<-hL];exact List.length_take_le _ _
 match L,hLl with
 |[],_=>
  exfalso;cases m with
  |zero=>simp[DataW.trod]at hE
  |succ k=>simp[DataW.trod,he]at hE
 |[v],_=>
  refine⟨v,xs[r].2,?_,m,?_⟩;have h0:((cs.drop r).take 1)[0]?=some v:=by rw[hL];rfl
  simpa using h0;rw[hE,<-hx1]
end
end Go.Proofs.Wit

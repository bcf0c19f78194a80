/- What calls of the program return, under the conditions that each theorem states. -/
import Derived.Test.YtchhieaagchhhaaGreatDoorXT46
set_option maxRecDepth 100000
set_option maxHeartbeats 4000000
namespace Go.Proofs.YtchhieaagchhhaaGreatDoor
open Go.RowKit Go.Proofs.Wit Tryz
theorem CJ (l:Int) (A:Option Addr) (cA:Nat) (b:List NV) (B:Option Addr) (cB:Nat) (ss:List SV) (w:World) (J:FA w A b) (F:pE w B ss) (E:b.length≤maxLen) (C:ss.length≤maxLen):
  Cn Tryz.prog 7 [.agg (aJ l A b.length cA B ss.length cB)] w (fun v w'=>∃m p D os,v=.tuple #[m,.int .i64 (lD l b (cK ss))]∧oP w w' p D m os∧(lD l b (cK ss)=0→p=l∧D=b∧cK os=dN b (cK ss))∧(lD l b (cK ss)≠0→p=0∧D=[]∧os=[])):=
 (Dm l A cA b B cB ss w J F E C).mono (fun v w' _ ⟨m,h1,h2,N⟩=>by
  by_cases e:lD l b (cK ss)=0;obtain ⟨os,M,K⟩:=h2 e;exact ⟨m,l,b,os,h1,M,fun _=>⟨rfl,rfl,K⟩,fun h=>absurd e h⟩;rw [N e] at h1;exact ⟨_,0,[],[],h1,oP.none,fun h=>absurd h e,fun _=>⟨rfl,rfl,rfl⟩⟩)
theorem CQ (l:Int) (A:Option Addr) (cA:Nat) (b:List NV) (B:Option Addr) (cB:Nat) (ss:List SV) (w:World) (J:FA w A b) (F:pE w B ss) (E:b.length≤maxLen) (C:ss.length≤maxLen):
  Cn Tryz.prog 6 [.agg (aJ l A b.length cA B ss.length cB)] w (fun v w'=>∃m p D os,v=.tuple #[m,.int .i64 (lD l b (cK ss))]∧oP w w' p D m os∧(lD l b (cK ss)=0→p=l∧D=b∧cK os=dN b (cK ss))∧(lD l b (cK ss)≠0→p=0∧D=[]∧os=[])):=
 (xp l A cA b B cB ss w J F E C).mono (fun v w' _ ⟨m,h1,h2,N⟩=>by
  by_cases e:lD l b (cK ss)=0;obtain ⟨os,M,K⟩:=h2 e;exact ⟨m,l,b,os,h1,M,fun _=>⟨rfl,rfl,K⟩,fun h=>absurd e h⟩;rw [N e] at h1;exact ⟨_,0,[],[],h1,oP.none,fun h=>absurd h e,fun _=>⟨rfl,rfl,rfl⟩⟩)
open Classical in
theorem rK (l:Int) (A:Option Addr) (cA:Nat) (b:List NV) (B:Option Addr) (cB:Nat) (ss:List SV) (w:World) (hT:HW w) (hA:FA w A b) (hB:pE w B ss):
    Cn Tryz.prog 3 [.agg (aJ l A b.length cA B ss.length cB)] w (fun v _=>v=.bool true):=by
  refine Cn.of func3 rfl rfl ?_;refine gW ?_;refine ab.jE (fun b1=>?_);refine gW ?_;refine cF call4 (fun w _ h=>(by exact tD w (hT.ex h.ext))) ?_;refine gW ?_;refine cF call5 (fun w _ h=>(by exact Fx l A cA b B cB ss w (hB.aq h.ext))) ?_;refine gW ?_;refine aD (fun h1:¬sD b ss=>?_) fun h1:sD b ss=>?_;refine gW ?_;refine cF call4 (fun w _ h=>(by exact tD w (hT.ex h.ext))) ?_;refine gW ?_;refine gT func3 fun w' h=>?_;exact ⟨h.ext,rfl⟩;obtain ⟨M,P⟩:=Ee h1;refine gW ?_;refine bt call6 (fun w _ h=>(by exact CQ l A cA b B cB ss w (hA.aq h.ext) (hB.aq h.ext) M P)) ?_;rintro v w1 w2 Y' h he ⟨v1,l1,E,K,rfl,⟨qa1,qo1,ca1,co1,spa1,spo1,H1,rfl,W,S,D,J⟩,m,C⟩;refine ⟨_,h.fi (pre:=[_,_]) he D,?_⟩;refine gW ?_;refine ab.bP (fun _=>Nf _) (fun b3=>?_);refine ab.aX MZ 0 ?_;refine gW ?_;refine bt call7 (fun w _ h=>(by exact CJ l A cA b B cB ss w (hA.aq h.ext) (hB.aq h.ext) M P)) ?_;rintro v w1 w2 Y' h he ⟨v2,l2,b2',N,rfl,⟨qa2,qo2,ca2,co2,spa2,spo2,H2,rfl,T,Q,D,F⟩,X,Y⟩;refine ⟨_,h.fi (pre:=[_,_]) he D,?_⟩;refine gW ?_;refine ab.bP (fun _=>Nf _) (fun b5=>?_);refine ab.aX MZ 0 ?_;refine gW ?_;refine eD rfl rfl rfl rfl (xk (v:=true) (beq_self_eq_true _)) ?_;have hall:l1=l2∧E=b2'∧cK K=cK N:=by
    by_cases e:lD l b (cK ss)=0;obtain ⟨x1,x2,x3⟩:=m e;obtain ⟨y1,y2,y3⟩:=X e;exact ⟨x1.trans y1.symm,x2.trans y2.symm,x3.trans y3.symm⟩;obtain ⟨x1,x2,x3⟩:=C e;obtain ⟨y1,y2,y3⟩:=Y e;exact ⟨x1.trans y1.symm,x2.trans y2.symm,by rw [x3,y3]⟩
  obtain ⟨rfl,rfl,hdd⟩:=hall;have hbm:E.length≤maxLen:=by
    by_cases e:lD l b (cK ss)=0;rw [(m e).2.1];exact M;rw [(C e).2.1];exact Nat.zero_le _
  have hom:K.length≤maxLen:=by
    by_cases e:lD l b (cK ss)=0;have h5:=congrArg List.length (m e).2.2;rw [nY,dL,dL] at h5;have:=oK (p:=dn (cK ss)) (k:=ss.length);omega;rw [(C e).2.2];exact Nat.zero_le _
  refine gW ?_;refine cF call8 (fun w _ h=>(by have:=zX l1 (qa1.map (fun b=>⟨b,0,none⟩)) ca1 E (qo1.map (fun b=>⟨b,0,none⟩)) co1 K l1 (qa2.map (fun b=>⟨b,0,none⟩)) ca2 E (qo2.map (fun b=>⟨b,0,none⟩)) co2 N w (aI h 4 rfl W) (xz h 5 rfl S (fun x hx=>⟨(J x hx).1.mono (fun z hz=>by simp [hz]),(J x hx).2⟩)) (aI h 1 rfl T) (xz h 2 rfl Q (fun x hx=>⟨(F x hx).1.mono (fun z hz=>by simp [hz]),(F x hx).2⟩)) hbm hom;rw [decide_eq_true ⟨rfl,rfl,hdd⟩] at this;exact this)) ?_;refine gW ?_;refine gT func3 fun w' h=>?_;exact ⟨h.ext,rfl⟩
end Go.Proofs.YtchhieaagchhhaaGreatDoor

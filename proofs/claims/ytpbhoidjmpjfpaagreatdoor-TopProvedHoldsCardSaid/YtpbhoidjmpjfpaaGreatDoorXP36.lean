/- Laws of walks, each under its own conditions. -/
import Derived.Test.YtpbhoidjmpjfpaaGreatDoorXP03
set_option maxRecDepth 100000
set_option maxHeartbeats 40000000
namespace Go.Proofs.Wit
open Go Go.RowKit
section
variable{P:av}{r:ah}{f:ay}{R:aC->aB->Prop}{w0:aB}{S:aq}{Y:List (Nat×Obj)}{n:Nat}{k:al}{l:Fl}{h:Hl}
variable{ops:aj}{i d:Nat}{rest:aq}{ty:ax}{pos:aA}{aft:ak}{g:Option (Nat×Bool)}
theorem M5{α:Type}(enc:α->ai)(size:Nat)(hen:∀a,(enc a).length=size){t e:ax}{x y:au}{inf:TypeInfo}{z:aC}{q:ah}{xs:List α}{sp:ai}{cap:Nat}{an:ae}{m c:Nat}(news:List α)
  (ho:ops[i]?=some ⟨some d,.call ⟨.builtin .append,#[x,y],#[t,t]⟩,ty,pos,aft,g⟩)(hw:fE ops l g=true)(hx:fW l x=some (gx q xs.length cap))(hy:fW l y=some (.slice an m c))(hd:Nat.blt d n=true)
  (hu:P.underlying t=some (.slice e))(hi:P.info? e=some inf)(hz:inf.zero=some z)(hsz:inf.size=size)(hz1:z.cells.size=size)
  (hq:q=none->xs.length=0/\cap=0)(j:Nat)(hj:h[j]?=some (q,.cells (xs.flatMap enc++sp).toArray e (0,0)))(hsl:∀w Y',St w0 S w h Y'->Sl w an (news.flatMap enc))
  (fB:(xs.flatMap enc++sp).length=cap*size)(hl:m=news.length)(hm0:0<m)(hs0:0<size)(h1:∀a,∀u∈enc a,u.oneCell'=true)(hmx:xs.length+m<=maxLen)(hbytes:(xs.length+m)*inf.bytes<=140737488355328)
  (hk:∀b' sp' cap',((xs++news).flatMap enc++sp').length=cap'*size->ff P r f R w0 S Y n (.inRegion ops rest::k) ((d,gx (some b') (xs++news).length cap')::l) (h.set j (some b',.cells ((xs++news).flatMap enc++sp').toArray e (0,0)))):ff P r f R w0 S Y n (.inRegion ops (i::rest)::k) l h:=
 .mem ho hw rfl rfl hd (λt' w Ds Y' hF hS=>by
  have hfl:∀as:List α,(as.flatMap enc).length=as.length*size:=λas=>qS (enc:=enc) (sz:=size) hen;have hs:=hsl w Y' hS;have hpos:0<(news.flatMap enc).length:=by
   rw[hfl];exact Nat.mul_pos aH hs0
  obtain⟨bn,o,rfl,_⟩:=hs.isSome hpos;have hnews:∀j u,(news.flatMap enc)[j]?=some u->w.cell? ((⟨bn,o,none⟩:Addr).add j)=some u:=by
   intro j u hv;have hjl:=(bB.1 hv).1;have e1:(⟨bn,o,none⟩:Addr).add j=tS (some ⟨bn,o,none⟩) j:=by
    unfold Addr.add tS;split;rename_i h0;rw[h0];rfl;rfl
   rw[e1,hs.cell j hjl];rw[aY,hv];rfl
  subst hl;obtain⟨b',sp',cap',w',hrun,hlen,hS'⟩:=yu hu hi hz hsz hz1 hS (xs:=xs.flatMap enc) (nx:=xs.length) (hfl xs) fB hq hj (c:=c) (m:=news.length) (news:=news.flatMap enc) (hfl news) hm0 hnews (λu hu=>by obtain⟨a,_,ha⟩:=List.mem_flatMap.1 hu;exact h1 a u ha) hmx hbytes ty;have e2:xs.flatMap enc++news.flatMap enc=(xs++news).flatMap enc:=by simp
  have e3:xs.length+news.length=(xs++news).length:=by simp
  rw[e2]at hlen hS';rw[e3]at hrun;refine⟨_,w',_,?_,hS',hk b' sp' cap' hlen⟩;have e1:(#[x,y]:aa).map (Act.eval ⟨t',Ds.map mark⟩)=#[gx q xs.length cap,.slice (some ⟨bn,o,none⟩) news.length c]:=by simp[hF.fW hx,hF.fW hy]
  simp only[execOp,resolve,e1,Sem.run_bind,Sem.run_pure,Result.andThen_ok,invoke,builtin,hrun])
end
end Go.Proofs.Wit

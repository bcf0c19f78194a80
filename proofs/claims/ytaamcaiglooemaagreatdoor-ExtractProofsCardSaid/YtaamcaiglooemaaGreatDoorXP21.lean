/- Laws of walks, each under its own conditions. -/
import Derived.Test.YtaamcaiglooemaaGreatDoorXP19
set_option maxRecDepth 100000
set_option maxHeartbeats 40000000
namespace Go.Proofs.Wit
open Go Go.RowKit
section
variable{u:Tr}{α:Type}
structure Tk (c:List NV) (r:Nat) (s:ao) (o st:aq):Prop where
  len:s.length=c.length
  nd:o.Nodup
  mem:∀j,j∈o↔sB s j=true
  lt:∀j∈st,j<c.length
  sub:∀j,j∈o\/j∈st->∀u∈ov (eP c j),u∈ov (eP c r)
  root:r∈o\/r∈st
  cl:∀j∈o,∀hj:j<c.length,m9 c[j].op=false->(jd c[j].op=true->c[j].x.toNat∈o\/c[j].x.toNat∈st)/\(iH c[j].op=true->c[j].y.toNat∈o\/c[j].y.toNat∈st)
section
variable{c:List NV}{r i:Nat}{s:ao}{o st st':aq}
theorem Tk.init(hr:r<c.length):Tk c r (List.replicate c.length false) [] [r]:=
 ⟨by simp,ed,λj=>⟨λh=>(by cases h),λh=>(by
  unfold sB at h;rw[aX,List.getElem?_replicate]at h;split at h<;>cases h)⟩,λj hj=>(by rw[de.1 hj];exact hr),λj hj u hu=>(by
  rcases hj with h|h;cases h;rw[de.1 h]at hu;exact hu),.inr (de.2 rfl),λj hj=>by cases hj⟩
theorem Tk.Kk(h:Tk c r s o st){j:Nat}(hj:j∈o):j<c.length:=by
 have h1:=(h.mem j).1 hj;rw[<-h.len];rcases eC j s.length with h2|h2;exact h2;unfold sB at h1;rw[aX,bX h2]at h1;cases h1
theorem Tk.Qb(h:Tk c r s o st):o.length<=c.length:=by
 have:=h.nd.length_le_of_subset (λj hj=>ec.2 (h.Kk hj):o⊆List.range c.length);simpa using this
theorem Tk.skip(h:Tk c r s o (st++[i]))(hs:sB s i=true):Tk c r s o st:=by
 have hi:=(h.mem i).2 hs;have k:∀j,(j∈o\/j∈st++[i])->j∈o\/j∈st:=λj hj=>by
  rcases hj with hj|hj;exact .inl hj;rcases dP.1 hj with hj|hj;exact .inr hj;rw[de.1 hj];exact .inl hi
 refine⟨h.len,h.nd,h.mem,λj hj=>h.lt j (cD _ hj),λj hj=>h.sub j ?_,k r h.root,λj hj hjl hlf=>⟨λhx=>k _ ((h.cl j hj hjl hlf).1 hx),λhy=>k _ ((h.cl j hj hjl hlf).2 hy)⟩⟩;rcases hj with hj|hj;exact .inl hj;exact .inr (cD _ hj)
theorem Tk.BE(h:Tk c r s o (st++[i])):i<c.length:=h.lt i (bZ _ (de.2 rfl))
theorem Tk.Pg(h:Tk c r s o (st++[i]))(hs:sB s i=false):o.length<c.length:=by
 have hi:=h.BE;have hn:(i::o).Nodup:=dS.2 ⟨λhm=>(by rw[(h.mem i).1 hm]at hs;cases hs),h.nd⟩;have:=hn.length_le_of_subset (λj hj=>ec.2 (by
  rcases ew.1 hj with e|hj;rw[e];exact hi;exact h.Kk hj):i::o⊆List.range c.length);rw[dC,List.length_range]at this;exact this
theorem Tk.go(h:Tk c r s o (st++[i]))(hs:sB s i=false)(h1:∀j∈st,j∈st')(h2:∀j∈st',j∈st\/(j<c.length/\∀u∈ov (eP c j),u∈ov (eP c i)))
  (h3:∀hi:i<c.length,m9 c[i].op=false->(jd c[i].op=true->c[i].x.toNat∈st')/\(iH c[i].op=true->c[i].y.toNat∈st')):Tk c r (s.set i true) (o++[i]) st':=by
 have hi:=h.BE;have his:i<s.length:=by rw[h.len];exact hi
 have hio:i∉o:=λhm=>by rw[(h.mem i).1 hm]at hs;cases hs
 have hsub:∀u∈ov (eP c i),u∈ov (eP c r):=h.sub i (.inr (bZ _ (de.2 rfl)));have k:∀j,(j∈o\/j∈st++[i])->j∈o++[i]\/j∈st':=λj hj=>by
  rcases hj with hj|hj;exact .inl (cD _ hj);rcases dP.1 hj with hj|hj;exact .inr (h1 j hj);exact .inl (bZ _ hj)
 refine⟨by rw[dN];exact h.len,?_,λj=>?_,λj hj=>?_,λj hj=>?_,k r h.root,λj hj hjl hlf=>?_⟩;refine dq.2 ⟨h.nd,by simp,λa ha b hb e=>?_⟩;rw[de.1 hb]at e;exact hio (e ▸ ha);rw[dP,de,wu his,h.mem j];by_cases e:j=i;rw[if_pos e];simp[e];rw[if_neg e];simp[e];rcases h2 j hj with h'|⟨h',_⟩;exact h.lt j (cD _ h');exact h';rcases hj with hj|hj;rcases dP.1 hj with hj|hj;exact h.sub j (.inl hj);rw[de.1 hj];exact hsub;rcases h2 j hj with h'|⟨_,h'⟩;exact h.sub j (.inr (cD _ h'));exact λu hu=>hsub u (h' u hu);rcases dP.1 hj with hj|hj;exact⟨λhx=>k _ ((h.cl j hj hjl hlf).1 hx),λhy=>k _ ((h.cl j hj hjl hlf).2 hy)⟩;obtain rfl:=de.1 hj;exact⟨λhx=>.inr ((h3 hjl hlf).1 hx),λhy=>.inr ((h3 hjl hlf).2 hy)⟩
def BL(c:List NV)(o:aq):aq:=o.filter (λj=>m9 (c.getD j (⟨0,0,0,0,0,0⟩:NV)).op)
theorem yZ{j:Nat}(hj:j<c.length):(c.getD j (⟨0,0,0,0,0,0⟩:NV))=c[j]:=by simp[aX,hj]
theorem Tk.done(h:Tk c r s o [])(hO:fT c):∀u,u∈(BL c o).map (eP c)↔u∈ov (eP c r):=by
 have key:∀j,j∈o->∀u∈ov (eP c j),u∈(BL c o).map (eP c):=by
  intro j
  induction j using Nat.strongRecOn with
  |_ j ih=>
   intro hj u hu;have hjl:=h.Kk hj;have ht:lE (eP c j)=c[j].op:=oM hjl hO;cases hl:m9 c[j].op with
   |true=>
    rw[ur (by rw[ht];exact hl),de]at hu;rw[hu];exact cQ (dQ.2 ⟨hj,by rw[yZ hjl];exact hl⟩)
   |false=>
    have kx:jd c[j].op=true->c[j].x.toNat∈o:=λhx=>by
     rcases(h.cl j hj hjl hl).1 hx with h'|h';exact h';cases h'
    have ky:iH c[j].op=true->c[j].y.toNat∈o:=λhx=>by
     rcases(h.cl j hj hjl hl).2 hx with h'|h';exact h';cases h'
    have hord:=hO.ord j hjl;rcases iB hjl hO with⟨h1,h2⟩|⟨h1,h1',h2⟩|⟨h1,h2⟩;rw[h2]at hu;unfold ov at hu;rw[hl]at hu;cases hu;rw[h2]at hu;unfold ov at hu;rw[hl]at hu;have hx:=hord.1 h1;exact ih _ aH (kx h1) u hu;rw[h2]at hu;unfold ov at hu;rw[hl]at hu;have hx:=hord.1 (jQ h1);have hy:=hord.2 h1;rcases dP.1 hu with hu|hu;exact ih _ aH (kx (jQ h1)) u hu;exact ih _ aH (ky h1) u hu
 have hr:r∈o:=by
  rcases h.root with h'|h';exact h';cases h'
 refine λu=>⟨λhu=>?_,key r hr u⟩;obtain⟨j,hj,rfl⟩:=eA.1 hu;obtain⟨hj,hl⟩:=dQ.1 hj;have hjl:=h.Kk hj;rw[yZ hjl]at hl;have ht:lE (eP c j)=c[j].op:=oM hjl hO;exact h.sub j (.inl hj) _ (by rw[ur (by rw[ht];exact hl)];exact de.2 rfl)
theorem BJ(h:Tk c r s o []):∀j∈BL c o,j<c.length:=λ_ hj=>h.Kk (dQ.1 hj).1
theorem BI(h:Tk c r s o []):(BL c o).Nodup:=h.nd.filter _
theorem F9{j:Nat}(hj:j<c.length):BL c (o++[j])=if m9 c[j].op=true then BL c o++[j]else BL c o:=by
 unfold BL;rw[List.filter_append];by_cases hl:m9 c[j].op=true;rw[if_pos hl,List.filter_cons_of_pos (by rw[yZ hj];exact hl)];rfl;rw[if_neg hl,List.filter_cons_of_neg (by rw[yZ hj];exact hl)];simp
def AZ(L:List Tr)(u:Tr)(k:Nat):Int:=if L.idxOf u<k then(L.idxOf u:Int)else -1
def ID(L:List Tr)(v:Nat)(u:Tr):Bool:=if u∈L then v.testBit (L.idxOf u)else false
theorem JV{L:List Tr} {k:Nat}(hn:L.Nodup)(hk:k<L.length)(h:L[k]=u):AZ L u (k+1)=(k:Int):=by
 have:L.idxOf u=k:=by rw[<-h];exact hn.idxOf_getElem k hk
 rw[AZ,this,if_pos (dH _)]
theorem MT{L:List Tr} {k:Nat}(hk:k<L.length)(h:L[k]≠u):AZ L u (k+1)=AZ L u k:=by
 have hne:L.idxOf u≠k:=λe=>by
  have hlt:L.idxOf u<L.length:=aH;have h2:=db hlt;apply h;rw[<-h2]
  congr 1
  exact e.symm
 unfold AZ;by_cases h1:L.idxOf u<k;rw[if_pos h1,if_pos aH];rw[if_neg h1,if_neg aH]
theorem Hg{L:List Tr} (h:u∈L):AZ L u L.length=(L.idxOf u:Int):=if_pos (List.idxOf_lt_length_of_mem h)
theorem JW{L:List Tr} (h:u∉L):AZ L u L.length=-1:=if_neg (λhl=>h (bJ.1 hl))
theorem Hh{L:List Tr} :0<=AZ L u L.length↔u∈L:=by
 by_cases h:u∈L;rw[Hg h];simp[h];rw[JW h];simp[h]
theorem CD{L:List Tr}{v:Nat} (h:u∈L):ID L v u=v.testBit (L.idxOf u):=if_pos h
theorem CC{L:List Tr}{v:Nat} (h:u∉L):ID L v u=false:=if_neg h
theorem tU {g:Nat->α}{k j:Nat}{d:α}(h:j<k):((List.range k).map g).getD j d=g j:=by simp[aX,h]
theorem xZ {g:Nat->α}{k:Nat}:(List.range (k+1)).map g=(List.range k).map g++[g k]:=by rw[dT,dO];rfl
theorem Al {g:Nat->α}{k:Nat}:((List.range k).map g).length=k:=by simp
theorem Ap{op:Int}(h:1<=op/\op<=21):m9 op=false↔(1<=op/\op<=8)/\op≠3:=by
 unfold m9;simp only[cz,bP,cR];omega
theorem zp:∀{t u:Tr},u∈ov t->m9 (lE u)=true
 |.leaf op i e g,u,h=>by
  unfold ov at h;split at h;rename_i hl;rw[de.1 h];exact hl;cases h
 |.un op i e g a,u,h=>by
  unfold ov at h;split at h;rename_i hl;rw[de.1 h];exact hl;exact zp h
 |.bin op i e g a b,u,h=>by
  unfold ov at h;split at h;rename_i hl;rw[de.1 h];exact hl;rcases dP.1 h with h|h;exact zp h;exact zp h
end
end
end Go.Proofs.Wit

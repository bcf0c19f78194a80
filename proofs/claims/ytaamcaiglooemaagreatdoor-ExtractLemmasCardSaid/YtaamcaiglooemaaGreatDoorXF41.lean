/- Laws of walks, for any program, under the conditions that each theorem states. -/
import Derived.Test.YtaamcaiglooemaaGreatDoorXF38
set_option maxRecDepth 100000
set_option maxHeartbeats 4000000
namespace Go.Proofs.Wit
open Go Go.RowKit
section
variable {l:Int} {b:List NV} {L:List SD}
theorem B5 (hb:aX b) {s:aE} {a:Int} {n:Nat} (hn:(mw l b s a).getLsbD n=true) (he:fU b s a n=n):(nd b n).op=9∨(nd b n).op=10:=by
 obtain ⟨z,_,h⟩:=r0 hb hn he;obtain ⟨i,h1,_⟩:=(lh hb).1 hn;have hnb:n<b.length:=by
  rcases h with ⟨h,_⟩|⟨h,_⟩
  all_goals
   refine Classical.byContradiction fun e=>?_;have:aa b n=aa b n:=rfl;obtain ⟨i,h1,h2,h3,h4⟩:=(lh hb).1 hn;rcases h4 with ⟨h4,h5⟩|⟨h4,_⟩;have:=hb.x h1 (by omega);omega;omega
 rcases hb.node hnb with ⟨g1,g2⟩|⟨g1,g2⟩|⟨g1,g2⟩;rcases h with ⟨h,_⟩|⟨h,_⟩<;>rw [g2] at h<;>cases h
 rcases h with ⟨h,_⟩|⟨h,_⟩<;>rw [g2] at h<;>injection h with h1<;>omega
 rcases h with ⟨h,_⟩|⟨h,_⟩<;>rw [g2] at h<;>cases h
theorem jf.J6 (h:jf l b L) {p:SP} {q:Nat} (e1:p.l=l) (e2:p.b=b) (e3:fP p.tl=dL b L) (hq:q<p.tl.length) (e4:p.x=p.tl[q]) (e5:p.full=(di L L.length).getD q 0#64) (e6:p.last.length=q):p.Ok q:=by
 have hb:=h.base;have ht:=h.tr;have htl:p.tl.length=(dL b L).length:=by rw [←e3,fg]
 have hqt:q<(dL b L).length:=by omega
 have hxd:p.x.d=(dL b L)[q]:=by
  rw [e4];have:(fP p.tl)[q]'(by rw [fg];exact hq)=p.tl[q].d:=nM hq;rw [←this];simp only [e3]
 obtain ⟨k,hk,hn,hkq,htq⟩:=wx hqt;have hfull:p.full=L[k].set:=by rw [e5,List.getD_eq_getElem?_getD,←hkq,uz hn (Nat.le_refl _) hk hk];rfl
 have hcor:=ht.m6 q hqt;rw [←hxd] at hcor htq;have hru:p.x.d.aC=L[k].aC:=by rw [htq];rfl
 have hon:p.x.d.on=L[k].on:=by rw [htq];rfl
 have hfr:p.x.d.fr=L[k].fr.map (fun j=>((cu (dW L) j.toNat:Nat):Int)):=by rw [htq];rfl
 have hS0:∀j:Nat,L[k].fr=[(j:Int)]→p.S0=qg b L j:=fun j hj=>by
  have hm:(j:Int)∈L[k].fr:=by rw [hj];simp
  unfold SP.S0;rw [hfr,hj,e3];exact tX (by have:=(h.pre hk hn hm).2.1;omega) (h.pre hk hn hm).1
 have mT:=h.Io hk;have hag9:∀{o:Nat},o<b.length→(nd b o).op=10→0≤(nd b o).i∧(nd b o).i<4:=fun {o} ho h2=>by
  have hok:=hb.ok ho;rcases hb.node ho with ⟨g1,g2⟩|⟨g1,g2⟩|⟨g1,g2⟩;omega;rw [g2] at hok;exact (nj hok (by omega)).1;omega
 refine ⟨e2 ▸ hb,?_,?_,hq,e6,fun j hj=>?_,fun j hj=>?_,fun h67 n hno hsn=>?_,fun h67=>?_⟩;rw [hfull,e2];exact (h.m6 k hk).1;rw [e1,e2,e3];exact hcor;rw [e3,e2,eW (by omega)];exact (ht.m6 j (by omega)).1;obtain ⟨n,h1,_⟩:=ht.BG j (by omega);have h2:=ht.sub j (by omega) n h1;rw [e3,eW (by omega)];exact fun e=>by have:=dz.2 h2;rw [e] at this;cases this
 rw [e2] at hsn⊢;have hns:=SP.xU hno;cases mT with
 |Fh o g1=>omega
 |neg o e g1=>omega
 |and o j g1=>omega
 |or o j i g1=>omega
 |cut o e j i g1=>omega
 |t o j g1=>omega
 |k o j g1 g2 g3 g4 g5 g6 g7 g8 g9 g10=>
  have hag:p.ag=(nd b o).i:=by unfold SP.ag;rw [if_neg (by omega),e2,hon,g5]
  rw [hS0 j g3] at hns;have hnx:(n:Int)≠(nd b o).x:=fun e=>by
   have hx:=hb.x g6 (by omega);unfold SP.own at hno;rw [if_pos (by omega),dz,ib,e2,hon,g5,pH (by have:=hb.len;omega)] at hno;exact hno.2 e
  have:=g9 n (by
   have hm:(j:Int)∈L[k].fr:=by rw [g3];simp
   have:=(h.pre hk hn hm).2.1;rw [eW (by omega)];exact h.sub j (by omega) n (dz.1 hns));rw [hag,hfull] at hsn;exact B5 hb (this.resolve_right hnx) hsn
 |d j g1 g2 g3 g4 g5 g6 g7 g8=>
  have hag:p.ag=L[k].on:=by unfold SP.ag;rw [if_pos (by omega),hon]
  rw [hS0 j g4] at hns;rw [hag,hfull] at hsn;exact B5 hb (g7 n (by
   have hm:(j:Int)∈L[k].fr:=by rw [g4];simp
   have:=(h.pre hk hn hm).2.1;rw [eW (by omega)];exact h.sub j (by omega) n (dz.1 hns))) hsn
 cases mT with
 |Fh o g1=>omega
 |neg o e g1=>omega
 |and o j g1=>omega
 |or o j i g1=>omega
 |cut o e j i g1=>omega
 |t o j g1=>omega
 |k o j g1 g2 g3 g4 g5 g6 g7 g8 g9 g10=>
  unfold SP.ag;rw [if_neg (by omega),e2,hon,g5];exact hag9 g6 g8
 |d j g1 g2 g3 g4 g5 g6 g7 g8=>
  unfold SP.ag;rw [if_pos (by omega),hon];exact g6
theorem vn {T:Tr→Prop} {tl:List SD} {fl:List aE} {q:Nat}:∀{r:Nat},q≤r→r≤tl.length→(aV T b tl fl q).2.Le (aV T b tl fl r).2
 |0,h,_=>by rw [show q=0 by omega];exact Sg.Le.refl _
 |r+1,h,h2=>by
  by_cases e:q=r+1;rw [e];exact Sg.Le.refl _;refine (vn (r:=r) (by omega) (by omega)).trans ?_;rw [eX (by omega)];exact u7
theorem Dy {T:Tr→Prop}:(aV T b (dL b L) (di L L.length) (dL b L).length).2.Le (iw T b L).2:=by
 unfold iw;dsimp only;split;exact Sg.Le.refl _;exact dA
open Classical in
noncomputable def Gf (l:Int) (b:List NV) (L:List SD):Int:=if sh l b L≠0 then sh l b L else if (iw ae b L).2.bad=true then 8 else 0
noncomputable def JO (b:List NV) (L:List SD):List LD:=(iw ae b L).2.ls.map (fun x=>x.v.d)
end
section
variable {P:Program} {tn tw tl:TypeId} {ef:Bool→Value} {bw:Nat} {Γ:List FV} {σ:Sg} {s:Ws}
variable {r:Option Nat} {f:FuncId} {R:Value→World→Prop} {w0:World} {S:List Nat} {Y:List (Nat×Obj)} {n:Nat} {k:List Item} {l:Fl} {ops:Array Oper} {i d:Nat} {rest:List Nat} {ty:TypeId} {pos:String} {aft:Array Edge} {g:Option (Nat×Bool)}
variable {az:Array Operand} {ts:Array TypeId} {cal:Operand} {gf:FuncId} {vs:List Value}
theorem E2 {pre H:Hl} {er:Value}:(pre++(bX tw tl er bw s++H)).Perm ((pre++H)++bX tw tl er bw s):=by
 rw [List.append_assoc];exact List.Perm.append_left pre List.perm_append_comm
theorem ab.Hk {pre H hR':Hl} {res:Nat×Sg} (hW:eB tn Γ σ s) (hsub:hR'.Sublist (pre++H)) (ho:ops[i]?=some ⟨some d,.call ⟨.value cal,az,ts⟩,ty,pos,aft,g⟩) (hw:aq ops l g=true)
  (hc:aM l cal=some (.func (.func gf) #[] #[])) (hx:cP l az.toList=some vs) (hd:Nat.blt d n=true) (hcf:∀args w,(callFunc gf args).run P w=.ok (.enter gf args) w)
  (hcall:∀w Y',St w0 S w ((pre++H)++bX tw tl (ef σ.bad) bw s) Y'→oS P tn tw tl ef bw Γ σ gf vs w hR' res)
  (hk:∀s' Γ',eB tn Γ' res.2 s'→Γ⊆Γ'→ab P r f R w0 S Y n (.inRegion ops rest::k) ((d,.int .i64 (res.1:Int))::l) (pre++(bX tw tl (ef res.2.bad) bw s'++H))):
  ab P r f R w0 S Y n (.inRegion ops (i::rest)::k) l (pre++(bX tw tl (ef σ.bad) bw s++H)):=by
 refine ab.hJ E2 ?_;refine ab.pG hW hsub ho hw hc hx hd hcf hcall (fun s' Γ' hW' hg'=>?_);exact ab.hJ E2.symm (hk s' Γ' hW' hg')
theorem ab.Kk {h h':Hl} (hm:∀w Y',St w0 S w h Y'→St w0 S w h' Y') (hg:ab P r f R w0 S Y n k l h'):ab P r f R w0 S Y n k l h:=fun t w Ds hF hS=>hg t w Ds hF (hm w _ hS)
theorem cR.pG {K:Value→Hl→Prop} {pre hR':Hl} {res:Nat×Sg} (hW:eB tn Γ σ s) (hsub:hR'.Sublist pre) (ho:ops[i]?=some ⟨some d,.call ⟨.value cal,az,ts⟩,ty,pos,aft,g⟩) (hw:aq ops l g=true)
  (hc:aM l cal=some (.func (.func gf) #[] #[])) (hx:cP l az.toList=some vs) (hd:Nat.blt d n=true) (hcf:∀args w,(callFunc gf args).run P w=.ok (.enter gf args) w)
  (hcall:∀w Y',St w0 S w (pre++bX tw tl (ef σ.bad) bw s) Y'→oS P tn tw tl ef bw Γ σ gf vs w hR' res)
  (hk:∀s' Γ',eB tn Γ' res.2 s'→Γ⊆Γ'→K (.int .i64 (res.1:Int)) (pre++bX tw tl (ef res.2.bad) bw s')):cR P w0 S n (pre++bX tw tl (ef σ.bad) bw s) ops i l d K:=by
 have hp:(pre++bX tw tl (ef σ.bad) bw s).Perm (bX tw tl (ef σ.bad) bw s++pre):=List.perm_append_comm;refine ⟨_,ho,rfl,rfl,rfl,hd,.inl ⟨hw,fun t w Ds Y' hF' hS=>.inr ⟨gf,vs.toArray,fun v w'=>∃h',(∃s' Γ',v=.int .i64 (res.1:Int)∧h'=bX tw tl (ef res.2.bad) bw s'∧eB tn Γ' res.2 s'∧Γ⊆Γ')∧St w (cm (bX tw tl (ef σ.bad) bw s)) w' h' [],?_,?_,fun v w' ⟨h',h1,h2⟩=>?_⟩⟩⟩;have e1:=gI (P:=P) (ty:=ty) (ts:=ts) (Ds:=Ds) (w:=w) (first:=#[]) (captured:=#[]) hF' hc hx;simp only [execOp,Sem.run_bind,e1,Result.andThen_ok,invoke,hcf];simp;have:=hcall w Y' hS s hW ((hS.perm hp).has.sub (List.Sublist.append (List.Sublist.refl _) hsub));exact Calls.mono this (fun e w' ⟨v,h',e1,e2,e3⟩=>⟨v,e1,h',e2,e3⟩);obtain ⟨s',Γ',rfl,rfl,hW',hs'⟩:=h1;exact ⟨_,((hS.perm hp).frame h2).perm List.perm_append_comm,hk s' Γ' hW' hs'⟩
end
theorem vY:∀(xs:List Tr),∃l:List Tr,l.Nodup∧(∀u,u∈l↔u∈xs)∧l.length≤xs.length
 |[]=>⟨[],List.nodup_nil,fun _=>Iff.rfl,Nat.le_refl _⟩
 |x::xs=>by
  obtain ⟨l,h1,h2,h3⟩:=vY xs;by_cases h:x∈l;exact ⟨l,h1,fun u=>by rw [h2,List.mem_cons];exact ⟨.inr,fun e=>e.elim (fun e=>by rw [e];exact (h2 x).1 h) id⟩,by simp;omega⟩;exact ⟨x::l,List.nodup_cons.2 ⟨h,h1⟩,fun u=>by rw [List.mem_cons,List.mem_cons,h2],by simp;omega⟩
theorem G8 {t:Tr} (h:(jl t).length≤10):ae t:=by
 obtain ⟨l,h1,h2,h3⟩:=vY (jl t);exact ⟨l,h1,h2,by omega⟩
def JP (t:Tr) (r:Int) (ls:List TL):Bool:=decide ((cg t).length≤200) && (decide (ls.length<400) && (decide (r≠1)||decide ((jl t).length≤10)))
theorem jU {t:Tr} {r:Int} {a b:Nat} {g:Int} {ls:List TL} (h:JP t r ls=true):bP ae t r a b g ⟨ls,false⟩=(ls.length,⟨ls++[⟨t,r,a,b,g⟩],false⟩):=by
 unfold JP at h;simp only [Bool.and_eq_true,Bool.or_eq_true,decide_eq_true_eq] at h;obtain ⟨h1,h2,h3⟩:=h;rw [bP,if_neg];rintro (e|e|e|⟨e1,e2⟩);cases e;exact e h1;dsimp only at e;omega;rcases h3 with h3|h3;exact h3 e1;exact e2 (G8 h3)
theorem ud {t:Tr} (h:decide ((cg (aF t)).length≤200)=true):eR t=(ay t).2:=by
 unfold eR;split;rfl;rename_i h2;exact absurd (of_decide_eq_true h:(cg (aF t)).length≤200) h2
theorem DD:eR pT=aF pT:=by rw [ud (by decide+kernel)];decide+kernel
theorem E4:eR (aF pT)=pT:=by rw [ud (by decide+kernel)];decide+kernel
theorem Kc:eR (ar 0 pT)=gp 0 (aF pT):=by rw [ud (by decide+kernel)];decide+kernel
theorem mU {g u:Tr} {fr:List Nat} {ls:List TL} (hu:u=cD (fr.map (gi ⟨ls,false⟩)) g) (h:JP u 1 ls=true):aT ae g fr ⟨ls,false⟩=jZ ae g (fr.map (fun n=>(n,gi ⟨ls,false⟩ n))) ls.length ⟨ls++[⟨u,1,0,0,0⟩],false⟩:=by
 rw [aT,if_neg (by simp),←hu,jU h]
theorem mS {g u t:Tr} {n m:Nat} {ps:List (Nat×Tr)} {ls:List TL} (hu:u=cD (ps.map (·.2)) g) (h:JP u 10 ls=true):jZ ae g ((m,t)::ps) n ⟨ls,false⟩=jZ ae g ps ls.length ⟨ls++[⟨u,10,m,n,0⟩],false⟩:=by
 rw [jZ,←hu,jU h]
abbrev Gs:Tr:=aF (aF pT)
abbrev Hi (ei:Bool):Tr:=if ei=true then .bin 6 0 0 0 pT (aF pT) else aF (jG pT (aF pT))
abbrev Ep (ei:Bool):Tr:=if ei=true then .bin 6 0 0 0 (ar 0 pT) (gp 0 (aF pT)) else aF (jG (ar 0 pT) (gp 0 (aF pT)))
abbrev kP (ei:Bool):Tr:=if ei=true then Gs else pT
abbrev kQ (ei:Bool):Tr:=if ei=true then pT else Gs
abbrev Kl (ei:Bool):List TL:=[⟨Hi ei,1,0,0,0⟩]
abbrev A9 (ei:Bool):List TL:=[⟨Hi ei,1,0,0,0⟩,⟨aL (Hi ei) (aL (kP ei) (kQ ei)),1,0,0,0⟩,⟨aL (kP ei) (kQ ei),10,0,1,0⟩]
abbrev GC (ei:Bool):List TL:=A9 ei++[⟨ar 0 (aL (kP ei) (kQ ei)),11,2,0,0⟩,⟨aL (ar 0 (aL (kP ei) (kQ ei))) (aL (ar 0 (kP ei)) (ar 0 (kQ ei))),2,0,0,0⟩,⟨aL (ar 0 (kP ei)) (ar 0 (kQ ei)),10,3,4,0⟩,⟨nV (gp 0 (aF pT)) (aF (ar 0 Gs)),7,0,0,0⟩]
abbrev JR (ei:Bool):List TL:=GC ei++[⟨aL (aL (ar 0 (kP ei)) (ar 0 (kQ ei))) (aL (nV (gp 0 (aF pT)) (aF (ar 0 Gs))) (Ep ei)),1,0,0,0⟩,⟨aL (nV (gp 0 (aF pT)) (aF (ar 0 Gs))) (Ep ei),10,5,7,0⟩,⟨Ep ei,10,6,8,0⟩]
theorem Kz {ei:Bool}:kq ei pT=Hi ei:=by unfold kq Hi;rw [DD]
theorem KA {ei:Bool}:kq ei (ar 0 pT)=Ep ei:=by unfold kq Ep;rw [Kc]
theorem GG {ei:Bool}:aA ae ei pT ⟨[],false⟩=(0,⟨Kl ei,false⟩):=by
 show aA ae ei (.leaf 3 0 0 0) _=_;rw [aA,show (Tr.leaf 3 0 0 0)=pT from rfl,Kz,mU (u:=Hi ei) rfl (by cases ei<;>decide+kernel)];rfl
theorem GH {ei:Bool}:aA ae ei (ar 0 pT) ⟨[],false⟩=(9,⟨JR ei,false⟩):=by
 show aA ae ei (.un 9 0 0 0 pT) _=_;rw [aA,if_pos (.inl rfl),GG,show (Tr.un 9 0 0 0 pT)=ar 0 pT from rfl];have hp:ph ei 9 pT=kP ei:=by unfold ph kP vT uT;rw [if_pos rfl,if_pos rfl,DD]
 have hq:pe ei 9 pT=kQ ei:=by unfold pe kQ vT uT;rw [if_pos rfl,if_pos rfl,DD]
 have hv:vT 9 pT=aF pT:=by unfold vT;rw [if_pos rfl,DD]
 have h1:aT ae (aL (kP ei) (kQ ei)) [0] ⟨Kl ei,false⟩=(2,⟨A9 ei,false⟩):=by
  rw [mU (u:=aL (Hi ei) (aL (kP ei) (kQ ei))) rfl (by cases ei<;>decide+kernel)];rw [List.map_cons,List.map_nil,mS (u:=aL (kP ei) (kQ ei)) rfl (by cases ei<;>decide+kernel)];rfl
 have h2:gO ae 0 (kP ei) (kQ ei) 2 ⟨A9 ei,false⟩=(5,⟨A9 ei++[⟨ar 0 (aL (kP ei) (kQ ei)),11,2,0,0⟩,⟨aL (ar 0 (aL (kP ei) (kQ ei))) (aL (ar 0 (kP ei)) (ar 0 (kQ ei))),2,0,0,0⟩,⟨aL (ar 0 (kP ei)) (ar 0 (kQ ei)),10,3,4,0⟩],false⟩):=by
  rw [gO,jU (by cases ei<;>decide+kernel)];dsimp only;rw [kW,jU (by cases ei<;>decide+kernel)];dsimp only;rw [jU (by cases ei<;>decide+kernel)];rfl
 have h3:dT ae 0 (aF pT) ⟨A9 ei++[⟨ar 0 (aL (kP ei) (kQ ei)),11,2,0,0⟩,⟨aL (ar 0 (aL (kP ei) (kQ ei))) (aL (ar 0 (kP ei)) (ar 0 (kQ ei))),2,0,0,0⟩,⟨aL (ar 0 (kP ei)) (ar 0 (kQ ei)),10,3,4,0⟩],false⟩=(6,⟨GC ei,false⟩):=by
  rw [dT,jU (by cases ei<;>decide+kernel)];rfl
 have h4:aT ae (Ep ei) [5,6] ⟨GC ei,false⟩=(9,⟨JR ei,false⟩):=by
  rw [mU (u:=aL (aL (ar 0 (kP ei)) (ar 0 (kQ ei))) (aL (nV (gp 0 (aF pT)) (aF (ar 0 Gs))) (Ep ei))) rfl (by cases ei<;>decide+kernel)];rw [List.map_cons,List.map_cons,List.map_nil,mS (u:=aL (nV (gp 0 (aF pT)) (aF (ar 0 Gs))) (Ep ei)) rfl (by cases ei<;>decide+kernel),mS (u:=Ep ei) rfl (by cases ei<;>decide+kernel)];rfl
 rw [pr,hp,hq,hv,h1];dsimp only;rw [h2];dsimp only;rw [h3];dsimp only;rw [KA,h4]
def iB:List NV:=[⟨3,0,0,0,0,0⟩,⟨4,0,0,0,0,0⟩,⟨9,0,0,0,0,0⟩]
def C1:SD:=⟨7#64,1,1,0,[]⟩
def C0:SD:=⟨6#64,5,2,0,[0]⟩
def dP:List SD:=[C1,C0]
theorem FM:aX iB:=⟨by decide+kernel,by decide,by decide+kernel⟩
theorem Ii:aa iB 0=pT:=by decide+kernel
theorem Ih:aa iB 1=aF pT:=by decide+kernel
theorem J2:aa iB 2=ar 0 pT:=by decide+kernel
theorem FK:jY iB 1=0:=sW (i:=1) (j:=0) (by decide) (by rw [Ii,show tA iB 1=aa iB 1 from rfl,Ih,E4]) (fun k hk=>absurd hk (Nat.not_lt_zero _))
theorem CZ:eI 2 iB dP 0 C1:=by
 refine ⟨fun k hk=>?_,.inl ⟨rfl,rfl,.inr ⟨by decide+kernel,by decide,by decide+kernel,FK⟩⟩⟩;have:∀k:Fin 64,(7#64).getLsbD k.val=true→k.val<3:=by decide+kernel
 exact this ⟨k,BitVec.lt_of_getLsbD hk⟩ hk
theorem CY:eI 2 iB dP 1 C0:=by
 refine ⟨fun k hk=>?_,.inr (.inr (.inr (.inr (.inl ⟨rfl,rfl,.inl rfl,⟨by decide,by decide+kernel,by decide+kernel⟩,?_⟩))))⟩;have:∀k:Fin 64,(6#64).getLsbD k.val=true→k.val<3:=by decide+kernel
 exact this ⟨k,BitVec.lt_of_getLsbD hk⟩ hk;exact ⟨⟨⟨by decide,by decide⟩,by decide+kernel⟩,trivial⟩
theorem xD:jf 2 iB dP:=by
 refine ⟨by decide,FM,by decide,by decide,fun k hk=>?_⟩
 match k,hk with
 |0,_=>exact CZ
 |1,_=>exact CY
theorem CW:qg iB dP 0=3#64:=by decide+kernel
theorem CV:qg iB dP 1=6#64:=by decide+kernel
theorem EX:dW dP 1=true:=iR.2 (.last rfl)
theorem EY:dW dP 0=true:=iR.2 (.fr (k:=1) (by decide) (.last rfl) (by decide+kernel))
theorem qP:dL iB dP=[⟨3#64,1,1,0,[]⟩,⟨6#64,5,2,0,[0]⟩]:=by
 have h0:nZ iB dP 1=[⟨3#64,1,1,0,[]⟩]:=by
  rw [kG (k:=0) (by decide),if_pos EY];show []++[iv iB dP 0 C1]=_;rw [iv,CW,if_neg (by decide+kernel)];rfl
 have hc:cu (dW dP) 0=0:=rfl;rw [dL];show nZ iB dP 2=_;rw [kG (k:=1) (by decide),if_pos EX,h0];show _++[iv iB dP 1 C0]=_;rw [iv,CV,if_neg (by decide+kernel)];show [_]++[SD.mk 6#64 5 2 0 [((cu (dW dP) 0:Nat):Int)]]=_;rw [hc];rfl
theorem Ak:di dP dP.length=[7#64,6#64]:=by
 show di dP 2=_;have h0:di dP 1=[7#64]:=by
  show (match dP[0]? with|some x=>if dW dP 0=true then di dP 0++[x.set] else di dP 0|none=>di dP 0)=_;show (if dW dP 0=true then _ else _)=_;rw [if_pos EY];rfl
 show (if dW dP 1=true then di dP 1++[6#64] else di dP 1)=_;rw [if_pos EX,h0];rfl
abbrev D7:Tr:=aF (jG pT (aF pT))
abbrev G5:Tr:=aF (jG (aF pT) (ar 0 pT))
abbrev H6:Tr:=aF (jG (aF pT) pT)
abbrev wV:List TL:=[⟨H6,1,0,0,0⟩,⟨aL H6 D7,1,0,0,0⟩,⟨D7,10,0,1,0⟩]
abbrev HY:List TL:=wV++[⟨aL (ar 0 pT) pT,3,0,0,0⟩,⟨aL (aL (ar 0 pT) pT) (aL D7 G5),1,0,0,0⟩,⟨aL D7 G5,10,3,4,0⟩,⟨G5,10,2,5,0⟩]
theorem IQ:dM iB 3#64=D7:=by decide+kernel
theorem IP:dM iB 6#64=G5:=by decide+kernel
theorem Km:aA ae false (aF pT) ⟨[],false⟩=(0,⟨[⟨H6,1,0,0,0⟩],false⟩):=by
 have hc:kq false (aF pT)=H6:=by unfold kq;rw [if_neg (by decide),E4]
 show aA ae false (.un 4 0 0 0 pT) _=_;rw [aA,if_neg (by decide),show (Tr.un 4 0 0 0 pT)=aF pT from rfl,hc,mU (u:=H6) rfl (by decide+kernel)];rfl
theorem J5:ct ae iB (dL iB dP) 7#64 ⟨3#64,1,1,0,[]⟩ [] ⟨[],false⟩=(2,⟨wV,false⟩):=by
 unfold ct;dsimp only;rw [if_pos rfl,if_neg (by decide+kernel),IQ,show tA iB 1=aa iB 1 from rfl,Ih,Km];dsimp only;rw [mU (u:=aL H6 D7) rfl (by decide+kernel),List.map_cons,List.map_nil,mS (u:=D7) rfl (by decide+kernel)];rfl
theorem J4:ct ae iB (dL iB dP) 6#64 ⟨6#64,5,2,0,[0]⟩ [2] ⟨wV,false⟩=(6,⟨HY,false⟩):=by
 unfold ct;dsimp only;rw [if_neg (by decide),if_neg (by decide),if_neg (by decide),if_neg (by decide),if_pos rfl,IP,show tA iB 2=aa iB 2 from rfl,J2,show tA iB (nd iB 2).x=aa iB 0 from rfl,Ii,jU (by decide+kernel)];dsimp only;rw [show ([2]:List Nat).getD (([0]:List Int).getD 0 0).toNat 0=2 from rfl,show wV.length=3 from rfl];rw [mU (u:=aL (aL (ar 0 pT) pT) (aL D7 G5)) rfl (by decide+kernel),List.map_cons,List.map_cons,List.map_nil,mS (u:=aL D7 G5) rfl (by decide+kernel),mS (u:=G5) rfl (by decide+kernel)];rfl
theorem Gc:iw ae iB dP=(6,⟨HY,false⟩):=by
 have hl:(dL iB dP).length=2:=by rw [qP];rfl
 have h1:aV ae iB (dL iB dP) (di dP dP.length) 1=([2],⟨wV,false⟩):=by
  rw [eX (q:=0) (by omega),Ak];have e:(dL iB dP)[0]'(by omega)=⟨3#64,1,1,0,[]⟩:=by simp only [qP];rfl
  rw [e];show ([]++[(ct ae iB (dL iB dP) 7#64 ⟨3#64,1,1,0,[]⟩ [] ⟨[],false⟩).1],(ct ae iB (dL iB dP) 7#64 ⟨3#64,1,1,0,[]⟩ [] ⟨[],false⟩).2)=_;rw [J5];rfl
 have h2:aV ae iB (dL iB dP) (di dP dP.length) 2=([2,6],⟨HY,false⟩):=by
  rw [eX (q:=1) (by omega),h1,Ak];have e:(dL iB dP)[1]'(by omega)=⟨6#64,5,2,0,[0]⟩:=by simp only [qP];rfl
  rw [e];show ([2]++[(ct ae iB (dL iB dP) 6#64 ⟨6#64,5,2,0,[0]⟩ [2] ⟨wV,false⟩).1],(ct ae iB (dL iB dP) 6#64 ⟨6#64,5,2,0,[0]⟩ [2] ⟨wV,false⟩).2)=_;rw [J4];rfl
 unfold iw;dsimp only;rw [hl,h2,if_pos (by rw [qP];decide+kernel)];rfl
theorem rE {l:Int} {σ:Sg} (hg:Good l σ) (hl:0≤l∧l≤6) (h0:0<σ.ls.length) {ls:List LV} (hd:ls.map LV.d=σ.ls.map (fun x=>x.v.d)):ij l ls=0:=by
 have h1:ij l (σ.ls.map TL.v)=0:=mq.2 ⟨hl,by rw [List.length_map];exact h0,by rw [List.length_map];exact hg.len,hg.ok⟩;exact xm (by rw [hd,List.map_map];rfl) h1
theorem yG {ls:List LV} {ts:List TL} (hd:ls.map LV.d=ts.map (fun x=>x.v.d)) {k:Nat} (hk:k<ls.length) (hk2:k<ts.length):ls[k].f.f=bT ts[k].t:=by
 have h1:ls[k].d=ts[k].v.d:=by
  have:=congrArg (fun l=>l[k]?) hd;simpa [hk,hk2] using this
 exact congrArg LD.f h1
theorem Kg:nC pT:=by show (3:Int)≤3;decide
theorem Kh:nC (ar 0 pT):=.inr ⟨.inl rfl,Kg⟩
theorem p4:(ar 0 pT).ok:=aW (by decide) ed
theorem GD {ei:Bool}:j8 ei (bT pT)=0∧yo ei (bT pT)=(Kl ei).map (fun x=>x.v.d):=by
 have h1:aN (bT pT)=0:=by decide+kernel
 have h2:aS (bT pT)=pT:=by decide+kernel
 have h3:∀n∈ah (bT pT),dk (ah (bT pT)) n:=by decide+kernel
 refine ⟨?_,?_⟩;rw [j8,if_neg (by simp [h1]),if_neg (fun h=>h h3),h2,GG,if_neg (by simp)];rw [yo,h2,GG]
theorem zu {ei:Bool}:j8 ei (bT (ar 0 pT))=0∧yo ei (bT (ar 0 pT))=(JR ei).map (fun x=>x.v.d):=by
 have h1:aN (bT (ar 0 pT))=0:=by decide+kernel
 have h2:aS (bT (ar 0 pT))=ar 0 pT:=by decide+kernel
 have h3:∀n∈ah (bT (ar 0 pT)),dk (ah (bT (ar 0 pT))) n:=by decide+kernel
 refine ⟨?_,?_⟩;rw [j8,if_neg (by simp [h1]),if_neg (fun h=>h h3),h2,GH,if_neg (by simp)];rw [yo,h2,GH]
theorem I2:j8 false (bT (aL pT pT))=10:=by
 have h1:aN (bT (aL pT pT))=0:=by decide+kernel
 have h3:¬∀n∈ah (bT (aL pT pT)),dk (ah (bT (aL pT pT))) n:=by decide+kernel
 rw [j8,if_neg (by simp [h1]),if_pos h3]
theorem Ge:Gf 2 iB dP=0∧JO iB dP=HY.map (fun x=>x.v.d):=by
 have h1:sh 2 iB dP=0:=mc.2 xD;refine ⟨?_,?_⟩;rw [Gf,if_neg (by simp [h1]),Gc,if_neg (by simp)];rw [JO,Gc]
theorem Jn {ls:List LV} (hd:ls.map LV.d=(JR false).map (fun x=>x.v.d)):ij 0 ls=0:=by
 have h:=(j9 (l:=0) (ei:=false) Kh p4 oC).dQ;rw [GH] at h;exact rE h (by decide) (by decide) hd
theorem Jm {ls:List LV} (hd:ls.map LV.d=HY.map (fun x=>x.v.d)):ij 2 ls=0:=by
 have h:=xD.Lr.2.1;rw [Gc] at h;exact rE h (by decide) (by decide) hd
theorem Hd:aU ⟨3,0,0,0,0,0⟩ []=bT pT:=by decide+kernel
end Go.Proofs.Wit

/- Laws of walks, each under its own conditions. -/
import Derived.Test.YtpbhoidjmpjfpaaGreatDoorXP03
set_option maxRecDepth 100000
set_option maxHeartbeats 40000000
namespace Go.Proofs.Wit
open Go Go.RowKit
section
variable{o:BinOp}{az:aa}{ts:ab}{vs:ai}{c cal x y:au}
section
variable{P:av}{r:ah}{f:ay}{R:aC->aB->Prop}{w0:aB}{S:aq}{Y:List (Nat×Obj)}{n:Nat}{k:al}{l:Fl}{h:Hl}{ops:aj}{i d m:Nat}{rest:aq}{ty:ax}{pos:aA}{aft:ak}{g:Option (Nat×Bool)}
theorem gE(hk:ff P r f R w0 S Y n k l h):ff P r f R w0 S Y n (.inRegion ops []::k) l h:=.oX hk
theorem gS{x y:Code}(hk:ff P r f R w0 S Y n (.code x::.code y::k) l h):ff P r f R w0 S Y n (.code (.seq x y)::k) l h:=.seq hk
theorem gR{id:Nat}(hk:ff P r f R w0 S Y n (.inRegion ops (List.range' 0 ops.size)::k) l h):ff P r f R w0 S Y n (.code (.region id ops false)::k) l h:=.region hk
theorem gK(hk:ff P r f R w0 S Y n k l h):ff P r f R w0 S Y n (.code .skip::k) l h:=.skip hk
theorem gB{id:Nat}{c:Code}(hk:ff P r f R w0 S Y n (.code c::.inBlock id::k) l h):ff P r f R w0 S Y n (.code (.block id c)::k) l h:=.block hk
theorem xg{id:Nat}(hk:ff P r f R w0 S Y n k l h):ff P r f R w0 S Y n (.inBlock id::k) l h:=.inBlock hk
theorem XR{c:Code}(hk:ff P r f R w0 S Y n k l h):ff P r f R w0 S Y n (.inScope c::k) l h:=.inScope hk
theorem jk {v:aC}(hk:ff P r f R w0 S Y n (.inRegion ops rest::k) ((d,v)::l) h)(ho:ops[i]?=some ⟨some d,.move x,ty,pos,aft,g⟩:=by exact rfl)(hw:fE ops l g=true:=by exact rfl)(hx:fW l x=some v:=by exact rfl)(hd:Nat.blt d n=true:=by exact rfl):ff P r f R w0 S Y n (.inRegion ops (i::rest)::k) l h:=ff.v (.mv ho hw hx hd) hk
theorem S1 {v:aC}(hk:fJ P r f R w0 S Y n k ops (i+1) m ((d,v)::l) h)(ho:ops[i]?=some ⟨some d,.move x,ty,pos,aft,g⟩:=by exact rfl)(hw:fE ops l g=true:=by exact rfl)(hx:fW l x=some v:=by exact rfl)(hd:Nat.blt d n=true:=by exact rfl):fJ P r f R w0 S Y n k ops i (m+1) l h:=fJ.v (.mv ho hw hx hd) hk
theorem ij {v:aC}(hk:ff P r f R w0 S Y n (.inRegion ops rest::k) ((d,v)::l) h)(ho:ops[i]?=some ⟨some d,.assign x,ty,pos,aft,g⟩:=by exact rfl)(hw:fE ops l g=true:=by exact rfl)(hx:fW l x=some v:=by exact rfl)(hd:Nat.blt d n=true:=by exact rfl):ff P r f R w0 S Y n (.inRegion ops (i::rest)::k) l h:=ff.v (.yt ho hw hx hd) hk
theorem rH {u:aC}(hk:ff P r f R w0 S Y n (.inRegion ops rest::k) ((d,u)::l) h)(ho:ops[i]?=some ⟨some d,.pick c x y,ty,pos,aft,g⟩:=by exact rfl)(hw:fE ops l g=true:=by exact rfl)(hc:fW l c=some (.bool true):=by exact rfl)(hx:fW l x=some u:=by exact rfl)(hd:Nat.blt d n=true:=by exact rfl):ff P r f R w0 S Y n (.inRegion ops (i::rest)::k) l h:=ff.v (.kq ho hw hc hx hd) hk
theorem qv {u:aC}(hk:ff P r f R w0 S Y n (.inRegion ops rest::k) ((d,u)::l) h)(ho:ops[i]?=some ⟨some d,.pick c x y,ty,pos,aft,g⟩:=by exact rfl)(hw:fE ops l g=true:=by exact rfl)(hc:fW l c=some (.bool false):=by exact rfl)(hx:fW l y=some u:=by exact rfl)(hd:Nat.blt d n=true:=by exact rfl):ff P r f R w0 S Y n (.inRegion ops (i::rest)::k) l h:=ff.v (.Qa ho hw hc hx hd) hk
theorem Xc {j:Nat}{vs:af}{v:aC}(hk:ff P r f R w0 S Y n (.inRegion ops rest::k) ((d,v)::l) h)(ho:ops[i]?=some ⟨some d,.extract x j,ty,pos,aft,g⟩:=by exact rfl)(hw:fE ops l g=true:=by exact rfl)(hx:fW l x=some (.tuple vs):=by exact rfl)(hb:vs[j]?=some v:=by exact rfl)(hd:Nat.blt d n=true:=by exact rfl):ff P r f R w0 S Y n (.inRegion ops (i::rest)::k) l h:=ff.v (.ext ho hw hx hb hd) hk
theorem VK{o:UnOp}{tx:ax} {a v:aC}(hb:S9 P o a v)(hk:ff P r f R w0 S Y n (.inRegion ops rest::k) ((d,v)::l) h)(ho:ops[i]?=some ⟨some d,.unOp o tx x,ty,pos,aft,g⟩:=by exact rfl)(hw:fE ops l g=true:=by exact rfl)(hx:fW l x=some a:=by exact rfl)(hd:Nat.blt d n=true:=by exact rfl):ff P r f R w0 S Y n (.inRegion ops (i::rest)::k) l h:=ff.v (.un ho hw hx hb hd) hk
theorem jO {tx tyy:ax} {a b v:aC}(hb:oO P o tx a b v)(hk:ff P r f R w0 S Y n (.inRegion ops rest::k) ((d,v)::l) h)(ho:ops[i]?=some ⟨some d,.binOp o tx x y tyy,ty,pos,aft,g⟩:=by exact rfl)(hw:fE ops l g=true:=by exact rfl)(hx:fW l x=some a:=by exact rfl)(hy:fW l y=some b:=by exact rfl)(hd:Nat.blt d n=true:=by exact rfl):ff P r f R w0 S Y n (.inRegion ops (i::rest)::k) l h:=ff.v (.bin ho hw hx hy hb hd) hk
theorem Vi {tx tyy:ax} {a b v:aC}(hb:oO P o tx a b v)(hk:fJ P r f R w0 S Y n k ops (i+1) m ((d,v)::l) h)(ho:ops[i]?=some ⟨some d,.binOp o tx x y tyy,ty,pos,aft,g⟩:=by exact rfl)(hw:fE ops l g=true:=by exact rfl)(hx:fW l x=some a:=by exact rfl)(hy:fW l y=some b:=by exact rfl)(hd:Nat.blt d n=true:=by exact rfl):fJ P r f R w0 S Y n k ops i (m+1) l h:=fJ.v (.bin ho hw hx hy hb hd) hk
theorem xe{t:ax} {b off:Nat}{cs:af}{e:ax}{fr:Nat×Nat}{v:aC}(ha:∀w,(isAgg t).run P w=.ok false w)(j:Nat)(hk:ff P r f R w0 S Y n (.inRegion ops rest::k) ((d,v)::l) h)(ho:ops[i]?=some ⟨some d,.load t x,ty,pos,aft,g⟩:=by exact rfl)(hw:fE ops l g=true:=by exact rfl)(hx:fW l x=some (.pointer (some ⟨b,off,none⟩)):=by exact rfl)(hd:Nat.blt d n=true:=by exact rfl)(hj:h[j]?=some (some b,.cells cs e fr):=by exact rfl)(hv:cs[off]?=some v:=by exact rfl):ff P r f R w0 S Y n (.inRegion ops (i::rest)::k) l h:=ff.v (.mE ho hw hx hd ha j hj hv) hk
theorem VA{t:ax} {b off:Nat}{cs:af}{e:ax}{fr:Nat×Nat}{v:aC}(ha:∀w,(isAgg t).run P w=.ok false w)(j:Nat)(hk:fJ P r f R w0 S Y n k ops (i+1) m ((d,v)::l) h)(ho:ops[i]?=some ⟨some d,.load t x,ty,pos,aft,g⟩:=by exact rfl)(hw:fE ops l g=true:=by exact rfl)(hx:fW l x=some (.pointer (some ⟨b,off,none⟩)):=by exact rfl)(hd:Nat.blt d n=true:=by exact rfl)(hj:h[j]?=some (some b,.cells cs e fr):=by exact rfl)(hv:cs[off]?=some v:=by exact rfl):fJ P r f R w0 S Y n k ops i (m+1) l h:=fJ.v (.mE ho hw hx hd ha j hj hv) hk
theorem oL{s tt:ax} {b o q:Nat}{fs:Array Field}{fd:Field}{sz:Nat}(hu:P.underlying s=some (.struct fs))(he:∀w,(sizeOf tt).run P w=.ok (sz+1) w)(o':Nat)(hk:ff P r f R w0 S Y n (.inRegion ops rest::k) ((d,.pointer (some ⟨b,o',none⟩))::l) h)(ho:ops[i]?=some ⟨some d,.fieldAddr s x q,ty,pos,aft,g⟩:=by exact rfl)(hw:fE ops l g=true:=by exact rfl)(hx:fW l x=some (.pointer (some ⟨b,o,none⟩)):=by exact rfl)(hd:Nat.blt d n=true:=by exact rfl)(hq:fs[q]?=some fd:=by exact rfl)(ht:fd.type=tt:=by exact rfl)(hO:o+fd.offset=o':=by exact rfl):ff P r f R w0 S Y n (.inRegion ops (i::rest)::k) l h:=ff.v (.k0 ho hw hx hd hu hq (ht ▸ he) o' hO) hk
theorem Nc{s tt:ax} {b o q:Nat}{fs:Array Field}{fd:Field}{sz:Nat}(hu:P.underlying s=some (.struct fs))(he:∀w,(sizeOf tt).run P w=.ok (sz+1) w)(o':Nat)(hk:fJ P r f R w0 S Y n k ops (i+1) m ((d,.pointer (some ⟨b,o',none⟩))::l) h)(ho:ops[i]?=some ⟨some d,.fieldAddr s x q,ty,pos,aft,g⟩:=by exact rfl)(hw:fE ops l g=true:=by exact rfl)(hx:fW l x=some (.pointer (some ⟨b,o,none⟩)):=by exact rfl)(hd:Nat.blt d n=true:=by exact rfl)(hq:fs[q]?=some fd:=by exact rfl)(ht:fd.type=tt:=by exact rfl)(hO:o+fd.offset=o':=by exact rfl):fJ P r f R w0 S Y n k ops i (m+1) l h:=fJ.v (.k0 ho hw hx hd hu hq (ht ▸ he) o' hO) hk
theorem Aw{t e:ax}{az:au}{a:ae}{q c:Nat}(hu:P.underlying t=some (.slice e))(hk:ff P r f R w0 S Y n (.inRegion ops rest::k) ((d,aS q)::l) h)(ho:ops[i]?=some ⟨some d,.call ⟨.builtin .len,#[az],#[t]⟩,ty,pos,aft,g⟩:=by exact rfl)(hw:fE ops l g=true:=by exact rfl)(hx:iW l [az]=some [.slice a q c]:=by exact rfl)(hd:Nat.blt d n=true:=by exact rfl):ff P r f R w0 S Y n (.inRegion ops (i::rest)::k) l h:=ff.v (.blt ho hw hx (qB hu) hd) hk
theorem Vh{t e:ax}{az:au}{a:ae}{q c:Nat}(hu:P.underlying t=some (.slice e))(hk:fJ P r f R w0 S Y n k ops (i+1) m ((d,aS q)::l) h)(ho:ops[i]?=some ⟨some d,.call ⟨.builtin .len,#[az],#[t]⟩,ty,pos,aft,g⟩:=by exact rfl)(hw:fE ops l g=true:=by exact rfl)(hx:iW l [az]=some [.slice a q c]:=by exact rfl)(hd:Nat.blt d n=true:=by exact rfl):fJ P r f R w0 S Y n k ops i (m+1) l h:=fJ.v (.blt ho hw hx (qB hu) hd) hk
theorem ov{o:Oper}(hk:ff P r f R w0 S Y n (.inRegion ops rest::k) ((d,undef)::l) h)(ho:ops[i]?=some o:=by exact rfl)(hw:tW ops l o.guard=true:=by exact rfl)(hdst:o.dst=some d:=by exact rfl)(hd:Nat.blt d n=true:=by exact rfl):ff P r f R w0 S Y n (.inRegion ops (i::rest)::k) l h:=ff.no ho hw hdst hd hk
theorem gP   {gf:ay} {v:aC}(ho:ops[i]?=some ⟨some d,.call ⟨.value cal,az,ts⟩,ty,pos,aft,g⟩)(hw:fE ops l g=true)(hc:fW l cal=some (.func (.func gf) #[] #[]))(hx:iW l az.toList=some vs)(hd:Nat.blt d n=true)(hcf:∀args w,(callFunc gf args).run P w=.ok (.enter gf args) w)(hcall:∀w Y',St w0 S w h Y'->Cn P gf vs w (λu _=>u=v))(hk:ff P r f R w0 S Y n (.inRegion ops rest::k) ((d,v)::l) h):ff P r f R w0 S Y n (.inRegion ops (i::rest)::k) l h:=.mI ho hw hc hx hd hcf hcall hk
theorem nr   {gf:ay} {v:aC}(hcf:∀args w,(callFunc gf args).run P w=.ok (.enter gf args) w)(hcall:∀w Y',St w0 S w h Y'->Cn P gf vs w (λu _=>u=v))(hk:ff P r f R w0 S Y n (.inRegion ops rest::k) ((d,v)::l) h)(ho:ops[i]?=some ⟨some d,.call ⟨.value cal,az,ts⟩,ty,pos,aft,g⟩:=by exact rfl)(hw:fE ops l g=true:=by exact rfl)(hc:fW l cal=some (.func (.func gf) #[] #[]):=by exact rfl)(hx:iW l az.toList=some vs:=by exact rfl)(hd:Nat.blt d n=true:=by exact rfl):ff P r f R w0 S Y n (.inRegion ops (i::rest)::k) l h:=gP (ho:=ho) (hw:=hw) (hc:=hc) (hx:=hx) (hd:=hd) (hcf:=hcf) (hcall:=hcall) (hk:=hk)
theorem gM   {gf:ay} {Rc:aB->aC->aB->Prop}(ho:ops[i]?=some ⟨some d,.call ⟨.value cal,az,ts⟩,ty,pos,aft,g⟩)(hw:fE ops l g=true)(hc:fW l cal=some (.func (.func gf) #[] #[]))(hx:iW l az.toList=some vs)(hd:Nat.blt d n=true)(hcf:∀args w,(callFunc gf args).run P w=.ok (.enter gf args) w)(hcall:∀w Y',St w0 S w h Y'->Cn P gf vs w (Rc w))(hk:∀v w w' Y',St w0 S w h Y'->Ex [] w w'->Rc w v w'->∃h',St w0 S w' h' Y'/\ff P r f R w0 S Y n (.inRegion ops rest::k) ((d,v)::l) h'):ff P r f R w0 S Y n (.inRegion ops (i::rest)::k) l h:=.vM Rc ho hw hc hx hd hcf hcall hk
theorem uB   {gf:ay} {Rc:aB->aC->aB->Prop}(hcf:∀args w,(callFunc gf args).run P w=.ok (.enter gf args) w)(hcall:∀w Y',St w0 S w h Y'->Cn P gf vs w (Rc w))(hk:∀v w w' Y',St w0 S w h Y'->Ex [] w w'->Rc w v w'->∃h',St w0 S w' h' Y'/\ff P r f R w0 S Y n (.inRegion ops rest::k) ((d,v)::l) h')(ho:ops[i]?=some ⟨some d,.call ⟨.value cal,az,ts⟩,ty,pos,aft,g⟩:=by exact rfl)(hw:fE ops l g=true:=by exact rfl)(hc:fW l cal=some (.func (.func gf) #[] #[]):=by exact rfl)(hx:iW l az.toList=some vs:=by exact rfl)(hd:Nat.blt d n=true:=by exact rfl):ff P r f R w0 S Y n (.inRegion ops (i::rest)::k) l h:=gM (ho:=ho) (hw:=hw) (hc:=hc) (hx:=hx) (hd:=hd) (hcf:=hcf) (hcall:=hcall) (hk:=hk)
theorem gT{fn:Func} (hf:P.funcs[f]?=some fn)(hR:∀w,St w0 S w h Y->R (nV vs) w)(hres:E3 l fn.results.toList=some vs:=by exact rfl):ff P none f R w0 S Y n (.code .ret::k) l h:=.ret fn hf hres hR
theorem gC {x y:Code}{b:Bool}(ht:b=true->ff P r f R w0 S Y n (.code x::k) l h)(hf:b=false->ff P r f R w0 S Y n (.code y::k) l h)(hc:fW l c=some (.bool b):=by exact rfl):ff P r f R w0 S Y n (.code (.cond c x y)::k) l h:=.cond hc ht hf
theorem Uj(d:Nat){b:Bool}(ht:b=true->ff P r f R w0 S Y n k ((d,.bool true)::l) h)(hf:b=false->ff P r f R w0 S Y n k ((d,.bool false)::l) h)(hv:look l d=some (.bool b):=by exact rfl):ff P r f R w0 S Y n k l h:=.cases hv ht hf
theorem kR {tx tyy:ax} {a b v:aC}(ho:ops[i]?=some ⟨some d,.binOp o tx x y tyy,ty,pos,aft,g⟩)(hw:fE ops l g=true)(hx:fW l x=some a)(hy:fW l y=some b)(hb:oO P o tx a b v)(hk:ff P r f R w0 S Y n (.inRegion ops rest::k) ((d,v)::l) h)(hd:Nat.blt d n=true:=by exact rfl):ff P r f R w0 S Y n (.inRegion ops (i::rest)::k) l h:=.v (.bin ho hw hx hy hb hd) hk
theorem cV{q:Nat}{D:aq}{hb:Hl}{d:Nat}{v:aC}(i:Nat)(hv:fh P w0 S n hb ops i l d v)(hg:gi P r f R w0 S Y n k ops hb q (i::D) ((d,v)::l) h)(hi:(fL ops D).contains i=true:=by exact rfl)(hp:nY ops i=true:=by exact rfl)(hs:hb.Sublist h:=by repeat(first|exact aD|exact aE|refine List.Sublist.cons_cons _ ?_|refine List.Sublist.cons _ ?_)):gi P r f R w0 S Y n k ops hb (q+1) D l h:=.v hv hi hp hs hg
theorem sL{a b:Hl}(hs:a.Sublist b:=by repeat(first|exact aD|exact aE|refine List.Sublist.cons_cons _ ?_|refine List.Sublist.cons _ ?_)):a.Sublist b:=hs
theorem sM{a b:Hl}(hs:a.Sublist b:=by repeat(first|exact aD|refine List.Sublist.cons _ ?_)):a.Sublist b:=hs
theorem sF{a b:Fl}(hs:nN a b:=by repeat(first|exact nN.nil|refine nN.cons rfl ?_)):nN a b:=hs
end
end
section
variable{aft:ak}{ty:ax}
def cur(c:Nat)(hb hb2:Hl)(D:aq):Hl:=if D.contains c=true then hb2 else hb
theorem Md{c i:Nat}{hb hb2:Hl}{D:aq}(h2:hb2.Sublist hb):(cur c hb hb2 (i::D)).Sublist (cur c hb hb2 D):=by
 unfold cur;by_cases h:D.contains c=true;rw[if_pos h,if_pos (by rw[List.contains_cons,h,Bool.or_true])];exact aD;rw[if_neg h];split;exact h2;exact aD
theorem Ph{c:Nat}{hb hb2:Hl}{D:aq}(h2:hb2.Sublist hb):hb2.Sublist (cur c hb hb2 D):=by
 unfold cur;split;exact aD;exact h2
theorem Jg{c:Nat}{hb hb2:Hl}{D D':aq}(h:∀j,j∈D↔j∈D'):cur c hb hb2 D=cur c hb hb2 D':=by
 unfold cur;have:D.contains c=D'.contains c:=by rw[dU];simp[h c]
 rw[this]
theorem Sh{c:Nat}{hb hb2:Hl}{D:aq}(h:D.contains c=false):cur c hb hb2 D=hb:=if_neg (by rw[h];simp)
theorem S8{c:Nat}{hb hb2:Hl}{D:aq}(h:D.contains c=true):cur c hb hb2 D=hb2:=if_pos h
section
variable{P:av}{r:ah}{f:ay}{R:aC->aB->Prop}{w0:aB}{S:aq}{Y:List (Nat×Obj)}{n:Nat}{k:al}{l:Fl}{h:Hl}{ops:aj}{c:Nat}{hb hb2:Hl}
def PX(P:av)(w0:aB)(S:aq)(ops:aj)(i:Nat)(t:af)(h:Hl)(K:Hl->Prop):Prop:=
 ∃o,ops[i]?=some o/\o.dst=none/\lH o.op=false/\mq o.op=true/\Region.wanted o (yielded ops t)=true/\∀(w:aB) (Ds:aq) (Y':List (Nat×Obj)),St w0 S w h Y'->
  ∃w' h',(execOp (Act.eval ⟨t,Ds.map mark⟩) o).run P w=.ok .skip w'/\St w0 S w' h' Y'/\K h'
theorem PX.congr{i:Nat}{t t':af}{K K':Hl->Prop}(hm:PX P w0 S ops i t h K)(hs:t'.size=t.size)(he:∀o,ops[i]?=some o->∀s∈nL ops o,t'.getD s undef=t.getD s undef)
  (hK:∀h',K h'->K' h'):PX P w0 S ops i t' h K':=by
 obtain⟨o,ho,hdst,hnd,hsel,hwant,hr⟩:=hm;have hw:=rh (ops:=ops) (o:=o) hs (he o ho);refine⟨o,ho,hdst,hnd,hsel,hw.trans hwant,λw Ds Y' hS=>?_⟩;have hexec:execOp (Act.eval ⟨t',Ds.map mark⟩) o=execOp (Act.eval ⟨t,Ds.map mark⟩) o:=execOp_congr (ρ':=Act.eval ⟨t,Ds.map mark⟩) o (λcs bb e=>by rw[e]at hsel;cases hsel) (λx hx=>by
  cases x with
  |tmp s=>exact he o ho s (by
    simp only[nL,ed];exact .inr (dk.2 ⟨.tmp s,by simpa using hx,rfl⟩))
  |const v=>rfl
  |global g=>rfl
  |func g=>rfl);rw[hexec];obtain⟨w',h',h1,h2,h3⟩:=hr w Ds Y' hS;exact⟨w',h',h1,h2,hK h' h3⟩
def Dq(P:av)(r:ah)(f:ay)(R:aC->aB->Prop)(w0:aB)(S:aq)(Y:List (Nat×Obj))(n:Nat)(k:al)(ops:aj)(c:Nat)(hb hb2:Hl):Nat->aq->af->Hl->Prop
 |0,_,_,_=>False
 |q+1,D,t,h=>
  (fL ops D=[]/\∀w Ds,St w0 S w h (uy Ds++Y)->ki P r f R (.inRegion ops []::k) t (Ds.map mark) w)\/
  (fL ops D≠[]/\∀i∈fL ops D,ml P w0 S n ops i t h (λt' h'=>(cur c hb hb2 (i::D)).Sublist h'/\Dq P r f R w0 S Y n k ops c hb hb2 q (i::D) t' h')\/PX P w0 S ops i t h (λh'=>(cur c hb hb2 (i::D)).Sublist h'/\Dq P r f R w0 S Y n k ops c hb hb2 q (i::D) t h'))
theorem Dq.perm:∀{q:Nat} {D D':aq} {t:af} {h:Hl},(∀j,j∈D↔j∈D')->Dq P r f R w0 S Y n k ops c hb hb2 q D t h->Dq P r f R w0 S Y n k ops c hb hb2 q D' t h
 |0,_,_,_,_,_,hd=>hd
 |q+1,D,D',t,h,hp,hd=>by
  rw[Dq]at hd⊢;rw[<-u9 hp];rcases hd with hd|⟨h1,h2⟩;exact .inl hd;refine .inr ⟨h1,λi hi=>?_⟩;have e3:cur c hb hb2 (i::D)=cur c hb hb2 (i::D'):=Jg (λj=>by simp only[eH,hp j]);have hp2:∀j,j∈i::D↔j∈i::D':=λj=>by simp only[eH,hp j]
  rcases h2 i hi with h3|h3;exact .inl (h3.mono (λt' h' ⟨e1,e2⟩=>⟨by rw[<-e3];exact e1,e2.perm hp2⟩));exact .inr (h3.congr rfl (λ_ _ _ _=>rfl) (λh' ⟨e1,e2⟩=>⟨by rw[<-e3];exact e1,e2.perm hp2⟩))
theorem Dq.pure(h2:hb2.Sublist hb){hx:Hl}{i d:Nat}(hic:i≠c)(hf:MT ops i d)(hd:d<n):∀{q:Nat} {D:aq} {t:af} {h:Hl} {v:aC},t.size=n->i∈fL ops D->r9 P w0 S n hx ops i t d v->(hx=hb2\/(hx=hb/\i∈iX ops c/\c∉D))->(cur c hb hb2 D).Sublist h->Dq P r f R w0 S Y n k ops c hb hb2 q (i::D) (t.setIfInBounds d v) h->Dq P r f R w0 S Y n k ops c hb hb2 (q+1) D t h
 |0,_,_,_,_,_,_,_,_,_,hd=>hd.elim
 |q+1,D,t,h,v,hts,hi,ho,hX,hs,hdt=>by
  have hsx:hx.Sublist h:=by
   rcases hX with rfl|⟨rfl,_,h4⟩;exact(Ph h2).trans hs;have:cur c hx hb2 D=hx:=if_neg (by simpa using h4);rw[this]at hs;exact hs
  have hme:ml P w0 S n ops i t h (λt' h'=>(cur c hb hb2 (i::D)).Sublist h'/\Dq P r f R w0 S Y n k ops c hb hb2 (q+1) (i::D) t' h'):=ml.pure ho hf.Nb hsx ⟨(Md h2).trans hs,hdt⟩;have hne:fL ops D≠[]:=λe=>by rw[e]at hi;cases hi
  obtain⟨hiS,hiD,hid⟩:=iv.1 hi;rw[Dq];refine .inr ⟨hne,λj hj=>?_⟩;by_cases hji:j=i;rw[hji];exact .inl hme;obtain⟨hjS,hjD,hjd⟩:=iv.1 hj;have hj2:j∈fL ops (i::D):=iv.2 ⟨hjS,by simp[hji,hjD],λe he=>cM _ (hjd e he)⟩;rw[Dq]at hdt;rcases hdt with⟨h1,_⟩|⟨_,h3⟩;rw[h1]at hj2;cases hj2;have hjo:∀o,ops[j]?=some o->d∉nL ops o:=λo hoo hm=>(hf.seen j o hjS hji hoo hm).elim (λh5=>hiD (hjd i h5)) (λh5=>hjD (hid j h5));have hjt:∀o,ops[j]?=some o->∀s∈nL ops o,t.getD s undef=(t.setIfInBounds d v).getD s undef:=λo hoo s hse=>by
   have hds:d≠s:=λe1=>hjo o hoo (by rw[e1];exact hse);rw[kM (by rw[hts];exact hd),if_neg hds]
  have hX':hx=hb2\/(hx=hb/\i∈iX ops c/\c∉j::D):=by
   rcases hX with h5|⟨h5,h6,h7⟩;exact .inl h5;refine .inr ⟨h5,h6,λh8=>?_⟩;rcases eH.1 h8 with h8|h8;subst h8;exact hiD (hjd i h6);exact h7 h8
  have hk0:cur c hb hb2 (j::D)=cur c hb hb2 (j::i::D):=by
   unfold cur;have e:(j::D).contains c=(j::i::D).contains c:=by
    rw[dU];simp only[List.contains_eq_mem,dE,eH];constructor;rintro (h|h);exact .inl h;exact .inr (.inr h);rintro (h|h|h);exact .inl h;exact absurd h.symm hic;exact .inr h
   rw[e]
  have hi2:i∈fL ops (j::D):=iv.2 ⟨hiS,by simp[Ne.symm hji,hiD],λe he=>cM _ (hid e he)⟩;rcases h3 j hj2 with h3|h3;refine .inl (h3.congr aL hjt (λe u h' hde hk=>?_));obtain⟨hk1,hk2⟩:=hk;refine⟨by rw[hk0];exact hk1,?_⟩;have hde2:d≠e:=λe1=>hf.one j hjS hji (by rw[hde,e1]);rw[set_comm hde2]at hk2;refine Dq.pure h2 hic hf hd (by simpa using hts) hi2 (ho.congr hf.Nb aL (λo hoo s hse=>?_)) hX' (by rw[hk0];exact hk1) (hk2.perm (λx=>by simp only[eH];exact or_left_comm));have hes:e≠s:=λe1=>by
   subst e1;rcases hf.Q5 j e o hjS hji hde hoo hse with h5|h5;exact hjD (hid j h5);exact hiD (hjd i h5)
  by_cases hlt:e<t.size;rw[kM hlt,if_neg hes];rw[show t.setIfInBounds e u=t from Array.setIfInBounds_eq_of_size_le (Nat.le_of_not_lt hlt)];refine .inr (h3.congr aL hjt (λh' hk=>?_));obtain⟨hk1,hk2⟩:=hk;exact⟨by rw[hk0];exact hk1,Dq.pure h2 hic hf hd hts hi2 ho hX' (by rw[hk0];exact hk1) (hk2.perm (λx=>by simp only[eH];exact or_left_comm))⟩
theorem Dq.go:∀(fuel τ:Nat) (arr:Array Bool) (D:aq) (q:Nat) (t:af) (h:Hl) (w:aB) (Ds:aq),arr.size=ops.size->(∀j,arr.getD j false=D.contains j)->Dq P r f R w0 S Y n k ops c hb hb2 q D t h->St w0 S w h (uy Ds++Y)->(List.range ops.size).countP (λj=>!D.contains j)<=fuel->
  ki P r f R (.inRegion ops (Region.linearise.go .any ops fuel τ arr [])::k) t (Ds.map mark) w
 |_,_,_,_,0,_,_,_,_,_,_,hd,_,_=>hd.elim
 |fuel,τ,arr,D,q+1,t,h,w,Ds,hs,ha,hd,hS,hfu=>by
  rw[Dq]at hd;rcases hd with⟨h0,hg⟩|⟨h1,h2⟩;have:Region.linearise.go .any ops fuel τ arr []=[]:=by
   cases fuel with
   |zero=>rfl
   |succ fuel=>
    simp only[Region.linearise.go];change (match (Region.ready .any ops arr)[_%(Region.ready .any ops arr).length]? with
     |some i=>_
     |none=>[].reverse)=[];rw[pb hs ha,h0];rfl
  rw[this];exact hg w Ds hS;cases fuel with
  |zero=>
   exfalso;obtain⟨x,hx⟩:=List.exists_mem_of_ne_nil _ h1;obtain⟨e1,e2,_⟩:=iv.1 hx;have:0<(List.range ops.size).countP (λj=>!D.contains j):=List.countP_pos_iff.2 ⟨x,by simpa using e1,by simpa using e2⟩;omega
  |succ fuel=>
   have hpos:0<(fL ops D).length:=List.length_pos_iff.2 h1;simp only[Region.linearise.go];change ki P r f R (.inRegion ops (match (Region.ready .any ops arr)[τ%(Region.ready .any ops arr).length]? with
    |some i=>Region.linearise.go .any ops fuel (τ / (Region.ready .any ops arr).length) (arr.setIfInBounds i true) [i]
    |none=>[].reverse)::k) t (Ds.map mark) w;rw[pb hs ha];have hlt:τ%(fL ops D).length<(fL ops D).length:=Nat.mod_lt _ hpos;rw[bJ hlt];obtain⟨x,hx⟩:∃x,x=(fL ops D)[τ%(fL ops D).length]:=⟨_,rfl⟩;rw[<-hx];have hxm:x∈fL ops D:=by rw[hx];exact dL hlt
   obtain⟨e1,e2,_⟩:=iv.1 hxm;dsimp only;rw[linearise_go_acc,bX,cH];have hnext:∀(t':af) (h':Hl) (w':aB),(cur c hb hb2 (x::D)).Sublist h'/\Dq P r f R w0 S Y n k ops c hb hb2 q (x::D) t' h'->St w0 S w' h' (uy Ds++Y)->ki P r f R (.inRegion ops (Region.linearise.go .any ops fuel (τ / (fL ops D).length) (arr.setIfInBounds x true) [])::k) t' (Ds.map mark) w':=λt' h' w' hK hS'=>by
    refine Dq.go fuel _ _ (x::D) q t' h' w' Ds (by simpa using hs) (λj=>?_) hK.2 hS' ?_;rw[gD aH,ha j,List.contains_cons];split;rename_i e;subst e;simp;rename_i e;rw[eB (Ne.symm e)];rfl;have:=tK (l:=List.range ops.size) (p:=λj=>!(x::D).contains j) (q:=λj=>!D.contains j) (λy _ hy=>by simp at hy⊢;exact hy.2) ⟨x,by simpa using e1,by simpa using e2,by simp⟩;omega
   rcases h2 x hxm with h2x|h2x
   case inr=>
    obtain⟨o,ho,hdst,hnd,hsel,hw,hr⟩:=h2x;obtain⟨w',h',h3,h4,h5⟩:=hr w Ds _ hS;refine ki.op ho hw (jc hnd) h3 (.inr ⟨rfl,rfl⟩) ?_;rw[hdst];exact hnext _ _ _ h5 h4
   obtain⟨o,d,ho,hdst,hnd,hsel,hdn,hr⟩:=h2x;rcases hr with⟨hw,hr⟩|⟨hw,hk⟩;rcases hr w Ds _ hS with⟨v,w',h',h3,h4,h5⟩|⟨gf,args,Rc,h3,h4,h5⟩;refine ki.op ho hw (jc hnd) h3 (.inl rfl) ?_;rw[hdst];exact hnext _ _ _ h5 h4;refine ki.call ho hw (jc hnd) h3 h4 (λu w2 hu=>?_);obtain⟨h',h6,h7⟩:=h5 u w2 hu;rw[hdst];exact hnext _ _ _ h7 h6;refine om ho hw ?_;rw[hdst];exact hnext _ _ _ hk hS
def fV(P:av)(r:ah)(f:ay)(R:aC->aB->Prop)(w0:aB)(S:aq)(Y:List (Nat×Obj))(n:Nat)(k:al)(ops:aj)(c:Nat)(hb hb2:Hl)(q:Nat)(D:aq)(l:Fl)(h:Hl):Prop:=
 ∀t,pJ n t l->Dq P r f R w0 S Y n k ops c hb hb2 q D t h
variable{q:Nat}{D:aq}
theorem mh{id:Nat}(q c:Nat)(hb2:Hl)(hmix:P.follows .mixedOrders=true)(hg:fV P r f R w0 S Y n k ops c h hb2 q [] l h):ff P r f R w0 S Y n (.code (.region id ops true)::k) l h:=by
 intro t w Ds hF hS;refine .nW (λτ=>?_);simp only[Region.schedule,hmix,eJ,eY,Region.linearise];refine Dq.go ops.size τ _ [] q t h _ Ds aL (λj=>?_) (hg t hF) hS.drew ?_;simp[bH];split<;>simp
 exact eM cy aL
theorem fV.done(h0:fL ops D=[])(hg:ff P r f R w0 S Y n (.inRegion ops []::k) l h):fV P r f R w0 S Y n k ops c hb hb2 (q+1) D l h:=λt hF=>.inl ⟨h0,λw Ds hS=>hg t w Ds hF hS⟩
theorem fV.Kx{hx:Hl}{i d:Nat}{v:aC}(h2:hb2.Sublist hb)(hic:Nat.beq i c=false)(hi:(fL ops D).contains i=true)(hp:nY ops i=true)(ho:∀t,pJ n t l->r9 P w0 S n hx ops i t d v)(hX:hx=hb2\/(hx=hb/\i∈iX ops c/\c∉D))(hs:(cur c hb hb2 D).Sublist h)(hg:fV P r f R w0 S Y n k ops c hb hb2 q (i::D) ((d,v)::l) h):fV P r f R w0 S Y n k ops c hb hb2 (q+1) D l h:=by
 intro t hF;obtain⟨d',hf⟩:=De hp;have hO:=ho t hF;obtain⟨o,h1,h2',h3,_⟩:=hO;have e:d'=d:=by
  have:=hf.dst;simp[ik,h1,h2']at this;exact this.symm
 subst e;exact Dq.pure h2 (by intro e;subst e;simp at hic) hf h3 hF.1 (by simpa using hi) (ho t hF) hX hs (hg _ (hF.put v (by simpa[eT]using h3)))
theorem fV.v{i d:Nat}{v:aC}(hv:fh P w0 S n hb ops i l d v)(h2:hb2.Sublist hb)(hic:Nat.beq i c=false)(hi:(fL ops D).contains i=true)(hp:nY ops i=true)(hX:((iX ops c).contains i && !D.contains c)=true)(hs:hb.Sublist h)(hg:fV P r f R w0 S Y n k ops c hb hb2 q (i::D) ((d,v)::l) h):fV P r f R w0 S Y n k ops c hb hb2 (q+1) D l h:=by
 rw[dG,dw]at hX;refine fV.Kx (hx:=hb) h2 hic hi hp (λt hF=>?_) (.inr ⟨rfl,by simpa using hX.1,by simpa using hX.2⟩) (by unfold cur;rw[if_neg (by rw[hX.2];simp)];exact hs) hg;obtain⟨o,ho,hw,hdst,hnd,hd,hr⟩:=hv
 exact⟨o,ho,hdst,by simpa[eT]using hd,hnd,.inl ⟨km hF hw,λw Ds Y' hS=>by
  obtain⟨nx,h1,rfl⟩:=hr t w Ds Y' hF hS;exact .inl h1⟩⟩
theorem fV.vZ{i d:Nat}{v:aC}(hv:fh P w0 S n hb ops i l d v)(h2:hb2.Sublist hb)(hs:hb.Sublist h)(hg:fV P r f R w0 S Y n k ops c hb hb2 q (i::D) ((d,v)::l) h)(hic:Nat.beq i c=false:=by exact rfl)(hi:(fL ops D).contains i=true:=by exact rfl)(hp:nY ops i=true:=by exact rfl)(hX:((iX ops c).contains i && !D.contains c)=true:=by exact rfl):fV P r f R w0 S Y n k ops c hb hb2 (q+1) D l h:=fV.v (hv:=hv) (h2:=h2) (hic:=hic) (hi:=hi) (hp:=hp) (hX:=hX) (hs:=hs) (hg:=hg)
theorem fV.u{i d:Nat}{v:aC}(hv:fh P w0 S n hb2 ops i l d v)(h2:hb2.Sublist hb)(hic:Nat.beq i c=false)(hi:(fL ops D).contains i=true)(hp:nY ops i=true)(hs:(cur c hb hb2 D).Sublist h)(hg:fV P r f R w0 S Y n k ops c hb hb2 q (i::D) ((d,v)::l) h):fV P r f R w0 S Y n k ops c hb hb2 (q+1) D l h:=by
 refine fV.Kx (hx:=hb2) h2 hic hi hp (λt hF=>?_) (.inl rfl) hs hg;obtain⟨o,ho,hw,hdst,hnd,hd,hr⟩:=hv
 exact⟨o,ho,hdst,by simpa[eT]using hd,hnd,.inl ⟨km hF hw,λw Ds Y' hS=>by
  obtain⟨nx,h1,rfl⟩:=hr t w Ds Y' hF hS;exact .inl h1⟩⟩
theorem fV.uZ{i d:Nat}{v:aC}(hv:fh P w0 S n hb2 ops i l d v)(h2:hb2.Sublist hb)(hs:(cur c hb hb2 D).Sublist h)(hg:fV P r f R w0 S Y n k ops c hb hb2 q (i::D) ((d,v)::l) h)(hic:Nat.beq i c=false:=by exact rfl)(hi:(fL ops D).contains i=true:=by exact rfl)(hp:nY ops i=true:=by exact rfl):fV P r f R w0 S Y n k ops c hb hb2 (q+1) D l h:=fV.u (hv:=hv) (h2:=h2) (hic:=hic) (hi:=hi) (hp:=hp) (hs:=hs) (hg:=hg)
theorem fV.one{i d:Nat}(h1:fL ops D=[i])(hm:jq P w0 S n h ops i l d (λv h'=>(cur c hb hb2 (i::D)).Sublist h'/\fV P r f R w0 S Y n k ops c hb hb2 q (i::D) ((d,v)::l) h'))(hd:Nat.blt d n=true):fV P r f R w0 S Y n k ops c hb hb2 (q+1) D l h:=by
 intro t hF;rw[Dq];refine .inr ⟨by rw[h1];simp,λj hj=>?_⟩;rw[h1]at hj;obtain rfl:=dn.1 hj;exact .inl (ml.of hm hF (λv h' ⟨e1,e2⟩=>⟨e1,e2 _ (hF.put v hd)⟩))
theorem fV.call{i d:Nat}{ty:ax}{pos:aA}{aft:ak}{g:Option (Nat×Bool)}{az:aa}{ts:ab}{cal:au}{gf:ay}{vs:ai}(Rc:aB->aC->aB->Prop)(h1:fL ops D=[i])(ho:ops[i]?=some ⟨some d,.call ⟨.value cal,az,ts⟩,ty,pos,aft,g⟩)(hw:fE ops l g=true)
  (hc:fW l cal=some (.func (.func gf) #[] #[]))(hx:iW l az.toList=some vs)(hd:Nat.blt d n=true)(hcf:∀args w,(callFunc gf args).run P w=.ok (.enter gf args) w)
  (hcall:∀w Y',St w0 S w h Y'->Cn P gf vs w (Rc w))
  (hk:∀v w w' Y',St w0 S w h Y'->Ex [] w w'->Rc w v w'->∃h',St w0 S w' h' Y'/\(cur c hb hb2 (i::D)).Sublist h'/\fV P r f R w0 S Y n k ops c hb hb2 q (i::D) ((d,v)::l) h'):fV P r f R w0 S Y n k ops c hb hb2 (q+1) D l h:=
 fV.one h1 (jq.call Rc ho hw hc hx hd hcf hcall (λv w w' Y' hS he hr=>by
  obtain⟨h',e1,e2,e3⟩:=hk v w w' Y' hS he hr;exact⟨h',e1,e2,e3⟩)) hd
theorem fV.mI{i d:Nat}{v:aC} {pos:aA} {g:Option (Nat×Bool)}{az:aa}{ts:ab}{cal:au}{gf:ay}{vs:ai}(h1:fL ops D=[i])(ho:ops[i]?=some ⟨some d,.call ⟨.value cal,az,ts⟩,ty,pos,aft,g⟩)(hw:fE ops l g=true)
  (hc:fW l cal=some (.func (.func gf) #[] #[]))(hx:iW l az.toList=some vs)(hd:Nat.blt d n=true)(hcf:∀args w,(callFunc gf args).run P w=.ok (.enter gf args) w)
  (hcall:∀w Y',St w0 S w h Y'->Cn P gf vs w (λu _=>u=v))(hs:(cur c hb hb2 (i::D)).Sublist h)(hg:fV P r f R w0 S Y n k ops c hb hb2 q (i::D) ((d,v)::l) h):fV P r f R w0 S Y n k ops c hb hb2 (q+1) D l h:=
 fV.call (λ_ u _=>u=v) h1 ho hw hc hx hd hcf hcall (λ_u _ _ _ hS he e=>⟨h,hS.later he,hs,e ▸ hg⟩)
theorem fV.st{i:Nat} {pos:aA} {g:Option (Nat×Bool)}{t:ax}{x y:au}{b off:Nat}{cs:af}{e:ax}{v:aC}(h1:fL ops D=[i])(ho:ops[i]?=some ⟨none,.store t x y,ty,pos,aft,g⟩)(hw:fE ops l g=true)
  (hx:fW l x=some (.pointer (some ⟨b,off,none⟩)))(hy:fW l y=some v)(hz:∀w,(sizeOf t).run P w=.ok 1 w)(hv:v.oneCell'=true)(j:Nat)(hj:h[j]?=some (some b,.cells cs e (0,0)))(hoff:Nat.blt off cs.size=true)
  (hs:(cur c hb hb2 (i::D)).Sublist (h.set j (some b,.cells (cs.setIfInBounds off v) e (0,0))))
  (hk:fV P r f R w0 S Y n k ops c hb hb2 q (i::D) l (h.set j (some b,.cells (cs.setIfInBounds off v) e (0,0)))):fV P r f R w0 S Y n k ops c hb hb2 (q+1) D l h:=by
 intro t' hF;rw[Dq];refine .inr ⟨by rw[h1];simp,λi' hi=>?_⟩;rw[h1]at hi;obtain rfl:=dn.1 hi;refine .inr ⟨_,ho,rfl,rfl,rfl,km hF hw,λw Ds Y' hS=>?_⟩;refine⟨w.setCell ⟨b,off,none⟩ v,_,?_,hS.xw hj (o':=.cells (cs.setIfInBounds off v) e (0,0)) rfl rfl rfl rfl ?_ ?_ ?_,hs,hk t' hF⟩;simp only[execOp,hF.fW hx,hF.fW hy,Sem.run_bind,AM hz (hS.get hj) (by simpa[eT]using hoff) hv];rfl;simp[World.setCell];obtain⟨hlt,hg⟩:=aX.1 (hS.get hj);simp only[World.setCell];rw[Array.getElem?_modify,if_pos rfl,hS.get hj];rfl;intro q _ hq;exact Below.heap_setCell _ _ _ _ hq
theorem fV.uV{α:Type}(enc:α->aC)(v:α){i:Nat} {pos:aA} {g:Option (Nat×Bool)}{t:ax}{x y:au}{b m:Nat}{xs:List α}{sp:ai}{e:ax}(h1:fL ops D=[i])(ho:ops[i]?=some ⟨none,.store t x y,ty,pos,aft,g⟩)(hw:fE ops l g=true)
  (hx:fW l x=some (.pointer (some ⟨b,0+m*1,none⟩)))(hy:fW l y=some (enc v))(hz:∀w,(sizeOf t).run P w=.ok 1 w)(hv:(enc v).oneCell'=true)(j:Nat)(hj:h[j]?=some (some b,ob enc e xs sp))(hq:m<xs.length)
  (hs:(cur c hb hb2 (i::D)).Sublist (h.set j (some b,ob enc e (xs.set m v) sp)))
  (hk:fV P r f R w0 S Y n k ops c hb hb2 q (i::D) l (h.set j (some b,ob enc e (xs.set m v) sp))):fV P r f R w0 S Y n k ops c hb hb2 (q+1) D l h:=by
 have:((xs.map enc++sp).toArray.setIfInBounds (0+m*1) (enc v))=((xs.set m v).map enc++sp).toArray:=by
  rw[eP,eS,List.map_set];have hq2:m<(xs.map enc).length:=by simpa using hq
  simp[List.set_append_left _ _ hq2]
 refine fV.st h1 ho hw hx hy hz hv j hj (by rw[eT];simp;omega) ?_ ?_;rw[this];exact hs;rw[this];exact hk
end
end
section
variable{P:av}{r:ah}{f:ay}{R:aC->aB->Prop}{w0:aB}{S:aq}{Y:List (Nat×Obj)}{n:Nat}{k:al}{l:Fl}{h:Hl}{ops:aj}{i d m:Nat}{rest:aq}{ty:ax}{pos:aA}{aft:ak}{g:Option (Nat×Bool)}{x y c:au}{v u a b:aC}
structure Vo (P:av) (w0:aB) (S:aq) (n:Nat) (h:Hl) (l:Fl) (o:Op) (v:aC):Prop where
  at_:∀{ops:aj} {i d:Nat} {ty:ax} {pos:aA} {aft:ak} {g:Option (Nat×Bool)},ops[i]?=some ⟨some d,o,ty,pos,aft,g⟩->fE ops l g=true->Nat.blt d n=true->fh P w0 S n h ops i l d v
theorem Vo.mv(hx:fW l x=some v):Vo P w0 S n h l (.move x) v:=⟨λa b c=>.mv a b hx c⟩
theorem Vo.yt(hx:fW l x=some v):Vo P w0 S n h l (.assign x) v:=⟨λa b c=>.yt a b hx c⟩
theorem Vo.pt(hc:fW l c=some (.bool true))(hx:fW l x=some v):Vo P w0 S n h l (.pick c x y) v:=⟨λa b c=>.kq a b hc hx c⟩
theorem WJ(hc:fW l c=some (.bool false))(hx:fW l y=some v):Vo P w0 S n h l (.pick c x y) v:=⟨λa b c=>.Qa a b hc hx c⟩
theorem Vo.nk{q:Addr}(hx:fW l x=some (.pointer (some q))):Vo P w0 S n h l (.nilCheck x) (.pointer (some q)):=⟨λa b c=>.tZ a b hx c⟩
theorem Vo.ex{j:Nat}{vs:af}(hx:fW l x=some (.tuple vs))(hb:vs[j]?=some v):Vo P w0 S n h l (.extract x j) v:=⟨λa b c=>.ext a b hx hb c⟩
theorem Vo.un{o:UnOp}{tx:ax}(hx:fW l x=some a)(hb:S9 P o a v):Vo P w0 S n h l (.unOp o tx x) v:=⟨λa b c=>.un a b hx hb c⟩
theorem Vo.bi{o:BinOp}{tx tyy:ax}(hx:fW l x=some a)(hy:fW l y=some b)(hb:oO P o tx a b v):Vo P w0 S n h l (.binOp o tx x y tyy) v:=⟨λa b c=>.bin a b hx hy hb c⟩
theorem Vo.bl{t e:ax}{A:ae}{q cp:Nat}(hx:iW l [x]=some [.slice A q cp])(hu:P.underlying t=some (.slice e)):Vo P w0 S n h l (.call ⟨.builtin .len,#[x],#[t]⟩) (aS q):=⟨λa b c=>.blt a b hx (qB hu) c⟩
theorem XP{o:Op}(ho:ops[i]?=some ⟨some d,o,ty,pos,aft,g⟩)(hw:fE ops l g=true)(hd:Nat.blt d n=true)(hv:Vo P w0 S n h l o v)(hk:ff P r f R w0 S Y n (.inRegion ops rest::k) ((d,v)::l) h):ff P r f R w0 S Y n (.inRegion ops (i::rest)::k) l h:=.v (hv.at_ ho hw hd) hk
theorem XK{o:Op}(ho:ops[i]?=some ⟨some d,o,ty,pos,aft,g⟩)(hw:fE ops l g=true)(hd:Nat.blt d n=true)(hv:Vo P w0 S n h l o v)(hk:fJ P r f R w0 S Y n k ops (i+1) m ((d,v)::l) h):fJ P r f R w0 S Y n k ops i (m+1) l h:=.v (hv.at_ ho hw hd) hk
theorem Wz{D:aq}{j:Nat}(h:(fL ops D)[j]?=some i):(fL ops D).contains i=true:=by simpa using cP h
theorem XU(j:Nat){q:Nat}{D:aq}{hb:Hl}{o:Op}(hi:(fL ops D)[j]?=some i)(ho:ops[i]?=some ⟨some d,o,ty,pos,aft,g⟩)(hw:fE ops l g=true)(hd:Nat.blt d n=true)(hv:Vo P w0 S n hb l o v)(hp:nY ops i=true)(hs:hb.Sublist h)(hg:gi P r f R w0 S Y n k ops hb q (i::D) ((d,v)::l) h):gi P r f R w0 S Y n k ops hb (q+1) D l h:=.v (hv.at_ ho hw hd) (Wz hi) hp hs hg
theorem XV(j:Nat){q:Nat}{D:aq}{hb:Hl}{o:Oper}(hi:(fL ops D)[j]?=some i)(ho:ops[i]?=some o)(hw:tW ops l o.guard=true)(hdst:o.dst=some d)(hnd:lH o.op=false)(hd:Nat.blt d n=true)(hp:nY ops i=true)(hs:hb.Sublist h)(hg:gi P r f R w0 S Y n k ops hb q (i::D) ((d,undef)::l) h):gi P r f R w0 S Y n k ops hb (q+1) D l h:=.no ho hw hdst hnd hd (Wz hi) hp hs hg
theorem XQ{o:Oper}(ho:ops[i]?=some o)(hw:tW ops l o.guard=true)(hdst:o.dst=some d)(hd:Nat.blt d n=true)(hk:ff P r f R w0 S Y n (.inRegion ops rest::k) ((d,undef)::l) h):ff P r f R w0 S Y n (.inRegion ops (i::rest)::k) l h:=.no ho hw hdst hd hk
theorem XL{o:Oper}(ho:ops[i]?=some o)(hw:tW ops l o.guard=true)(hdst:o.dst=some d)(hnd:lH o.op=false)(hd:Nat.blt d n=true)(hk:fJ P r f R w0 S Y n k ops (i+1) m ((d,undef)::l) h):fJ P r f R w0 S Y n k ops i (m+1) l h:=.no ho hw hdst hnd hd hk
theorem Wh{t:ax}{B off:Nat}{cs:af}{e:ax}{fr:Nat×Nat}(hx:fW l x=some (.pointer (some ⟨B,off,none⟩)))(ha:∀w,(isAgg t).run P w=.ok false w)(hj:∃j:Nat,h[j]?=some (some B,.cells cs e fr))(hv:cs[off]?=some v):Vo P w0 S n h l (.load t x) v:=⟨λa b c=>let ⟨j,hj⟩:=hj;.mE a b hx c ha j hj hv⟩
theorem Wi{t:ax}{B m:Nat}{cs:af}{e:ax}{fr:Nat×Nat}(hx:fW l x=some (aQ B))(ha:∀w,(isAgg t).run P w=.ok true w)(hj:∃j:Nat,h[j]?=some (some B,.cells cs e fr))(hz:∀w,(sizeOf t).run P w=.ok m w)(hm:cs.size=m):Vo P w0 S n h l (.load t x) (.agg cs):=⟨λa b c=>let ⟨j,hj⟩:=hj;.Al a b hx c ha j hj hz hm⟩
theorem Vo.fp{s tt:ax}{B o q o':Nat}{fs:Array Field}{fd:Field}{sz:Nat}(hx:fW l x=some (.pointer (some ⟨B,o,none⟩)))(hu:P.underlying s=some (.struct fs))(hq:fs[q]?=some fd)(ht:fd.type=tt)(he:∀w,(sizeOf tt).run P w=.ok (sz+1) w)(hO:o+fd.offset=o'):Vo P w0 S n h l (.fieldAddr s x q) (.pointer (some ⟨B,o',none⟩)):=⟨λa b c=>.k0 a b hx c hu hq (ht ▸ he) o' hO⟩
theorem Vo.fd{s:ax}{q:Nat}{cs:af}{fs:Array Field}{fd:Field}(hx:fW l x=some (.agg cs))(hu:P.underlying s=some (.struct fs))(hq:fs[q]?=some fd)(ha:∀w,(isAgg fd.type).run P w=.ok false w)(hv:cs[fd.offset]?=some v):Vo P w0 S n h l (.field s x q) v:=⟨λa b c=>.rJ a b hx c hu hq ha hv⟩
section
variable{p q:Prop}{X Y:Code}{B:Bool}{Yy:List (Nat×Obj)}
theorem r0(ht:p->ff P r f R w0 S Yy n (.code X::k) l h)(hf:q->ff P r f R w0 S Yy n (.code Y::k) l h)(hc:fW l c=some (.bool B):=by exact rfl)(et:B=true->p:=by intro h;first|simpa using h|(simp at h;omega)|exact h)(ef:B=false->q:=by intro h;first|simpa using h|(simp at h;omega)|exact h):ff P r f R w0 S Yy n (.code (.cond c X Y)::k) l h:=.cond hc (λe=>ht (et e)) (λe=>hf (ef e))
theorem Xd(ht:p->ff P r f R w0 S Yy n (.code X::k) l h)(hf:B=false->ff P r f R w0 S Yy n (.code Y::k) l h)(hc:fW l c=some (.bool B):=by exact rfl)(et:B=true->p:=by intro h;first|simpa using h|(simp at h;omega)|exact h):ff P r f R w0 S Yy n (.code (.cond c X Y)::k) l h:=.cond hc (λe=>ht (et e)) hf
theorem EL(ht:B=true->ff P r f R w0 S Yy n (.code X::k) l h)(hf:q->ff P r f R w0 S Yy n (.code Y::k) l h)(hc:fW l c=some (.bool B):=by exact rfl)(ef:B=false->q:=by intro h;first|simpa using h|(simp at h;omega)|exact h):ff P r f R w0 S Yy n (.code (.cond c X Y)::k) l h:=.cond hc ht (λe=>hf (ef e))
theorem B6(d:Nat)(ht:p->ff P r f R w0 S Yy n k ((d,.bool true)::l) h)(hf:q->ff P r f R w0 S Yy n k ((d,.bool false)::l) h)(hv:look l d=some (.bool B):=by exact rfl)(et:B=true->p:=by intro h;first|simpa using h|(simp at h;omega)|exact h)(ef:B=false->q:=by intro h;first|simpa using h|(simp at h;omega)|exact h):ff P r f R w0 S Yy n k l h:=.cases hv (λe=>ht (et e)) (λe=>hf (ef e))
end
structure Bj (P:av) (o:BinOp) (t:ax) (a b v:aC):Prop where
  b:oO P o t a b v
section
variable{t:ax}{x y:Int}{k:aw}{p q:fi}
theorem Bj.eq(_hk:k≠.u64):Bj P .eql t (.int k x) (.int k y) (.bool (x==y)):=⟨rO⟩
theorem Bj.ne(_hk:k≠.u64):Bj P .neq t (.int k x) (.int k y) (.bool (x !=y)):=⟨Eo⟩
theorem Bj.lt(_hk:k≠.u64):Bj P .lss t (.int k x) (.int k y) (.bool (decide (x<y))):=⟨AA⟩
theorem Bj.le(_hk:k≠.u64):Bj P .leq t (.int k x) (.int k y) (.bool (decide (x<=y))):=⟨WI⟩
theorem Bj.gt(_hk:k≠.u64):Bj P .gtr t (.int k x) (.int k y) (.bool (decide (x>y))):=⟨PJ⟩
theorem WW(_hk:k≠.u64):Bj P .geq t (.int k x) (.int k y) (.bool (decide (x>=y))):=⟨HV⟩
theorem Bj.or:Bj P .or t (U p) (U q) (U (p|||q)):=⟨PG⟩
theorem Bj.an:Bj P .and t (U p) (U q) (U (p &&& q)):=⟨Ep⟩
theorem Bj.ad:Bj P .andNot t (U p) (U q) (U (p &&& ~~~q)):=⟨yq⟩
theorem WV:Bj P .neq t (U p) (U q) (.bool (p !=q)):=⟨CA⟩
theorem Bj.eu:Bj P .eql t (U p) (U q) (.bool (p==q)):=⟨xL⟩
theorem Wv(h:-9223372036854775808<=x+y/\x+y<=9223372036854775807):Bj P .add t (aS x) (aS y) (aS (x+y)):=⟨U4 h⟩
end
theorem WK{o:BinOp}{tx tyy:ax}(hx:fW l x=some a)(hy:fW l y=some b)(hb:Bj P o tx a b v):Vo P w0 S n h l (.binOp o tx x y tyy) v:=.bi hx hy hb.b
end
end Go.Proofs.Wit

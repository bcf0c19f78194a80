/- What calls return, each under its own conditions. -/
import Derived.Test.YtaamcaiglooemaaGreatDoorProg
import Derived.Test.YtaamcaiglooemaaGreatDoorXP03
import Derived.Test.YtaamcaiglooemaaGreatDoorXP30
import Derived.Test.YtaamcaiglooemaaGreatDoorXP19
set_option maxRecDepth 100000
set_option maxHeartbeats 40000000
namespace Go.Proofs.YtaamcaiglooemaaGreatDoor
open Go Go.RowKit Go.Proofs.Wit
section
variable{a b:Int}
abbrev Qqa:=Cn Tryz.prog
theorem bd98{ps:List (Nat×Value)}{c:List Value}:type_of%(JJ (P:=Tryz.prog) (c:=c) (ps:=ps) Tryz.underlying98 (KG.cons Tryz.sizeOf4 (KG.cons Tryz.sizeOf4 (KG.cons Tryz.sizeOf4 (KG.cons Tryz.sizeOf4 (KG.cons Tryz.sizeOf4 (KG.cons Tryz.sizeOf4 (KG.cons Tryz.sizeOf3 KG.nil))))))) Tryz.zeroValue98):=JJ (P:=Tryz.prog) (c:=c) (ps:=ps) Tryz.underlying98 (KG.cons Tryz.sizeOf4 (KG.cons Tryz.sizeOf4 (KG.cons Tryz.sizeOf4 (KG.cons Tryz.sizeOf4 (KG.cons Tryz.sizeOf4 (KG.cons Tryz.sizeOf4 (KG.cons Tryz.sizeOf3 KG.nil))))))) Tryz.zeroValue98
theorem bd72{ps:List (Nat×Value)}{c:List Value}:type_of%(JJ (P:=Tryz.prog) (c:=c) (ps:=ps) Tryz.underlying72 (KG.cons Tryz.sizeOf3 (KG.cons Tryz.sizeOf3 (KG.cons Tryz.sizeOf3 (KG.cons Tryz.sizeOf3 (KG.cons Tryz.sizeOf3 (KG.cons Tryz.sizeOf3 KG.nil)))))) Tryz.zeroValue72):=JJ (P:=Tryz.prog) (c:=c) (ps:=ps) Tryz.underlying72 (KG.cons Tryz.sizeOf3 (KG.cons Tryz.sizeOf3 (KG.cons Tryz.sizeOf3 (KG.cons Tryz.sizeOf3 (KG.cons Tryz.sizeOf3 (KG.cons Tryz.sizeOf3 KG.nil)))))) Tryz.zeroValue72
theorem bd128{ps:List (Nat×Value)}{c:List Value}:type_of%(JJ (P:=Tryz.prog) (c:=c) (ps:=ps) Tryz.underlying128 (KG.cons Tryz.sizeOf22 (KG.cons Tryz.sizeOf45 KG.nil)) Tryz.zeroValue128):=JJ (P:=Tryz.prog) (c:=c) (ps:=ps) Tryz.underlying128 (KG.cons Tryz.sizeOf22 (KG.cons Tryz.sizeOf45 KG.nil)) Tryz.zeroValue128
theorem bd76{ps:List (Nat×Value)}{c:List Value}:type_of%(JJ (P:=Tryz.prog) (c:=c) (ps:=ps) Tryz.underlying76 (KG.cons Tryz.sizeOf3 (KG.cons Tryz.sizeOf24 KG.nil)) Tryz.zeroValue76):=JJ (P:=Tryz.prog) (c:=c) (ps:=ps) Tryz.underlying76 (KG.cons Tryz.sizeOf3 (KG.cons Tryz.sizeOf24 KG.nil)) Tryz.zeroValue76
theorem bd150{ps:List (Nat×Value)}{c:List Value}:type_of%(JJ (P:=Tryz.prog) (c:=c) (ps:=ps) Tryz.underlying150 (KG.cons Tryz.sizeOf22 (KG.cons Tryz.sizeOf148 KG.nil)) Tryz.zeroValue150):=JJ (P:=Tryz.prog) (c:=c) (ps:=ps) Tryz.underlying150 (KG.cons Tryz.sizeOf22 (KG.cons Tryz.sizeOf148 KG.nil)) Tryz.zeroValue150
theorem bd168{ps:List (Nat×Value)}{c:List Value}:type_of%(JJ (P:=Tryz.prog) (c:=c) (ps:=ps) Tryz.underlying168 (KG.cons Tryz.sizeOf22 (KG.cons Tryz.sizeOf88 (KG.cons Tryz.sizeOf88 (KG.cons Tryz.sizeOf85 (KG.cons Tryz.sizeOf85 KG.nil))))) Tryz.zeroValue168):=JJ (P:=Tryz.prog) (c:=c) (ps:=ps) Tryz.underlying168 (KG.cons Tryz.sizeOf22 (KG.cons Tryz.sizeOf88 (KG.cons Tryz.sizeOf88 (KG.cons Tryz.sizeOf85 (KG.cons Tryz.sizeOf85 KG.nil))))) Tryz.zeroValue168
theorem bd42{ps:List (Nat×Value)}{c:List Value}:type_of%(JJ (P:=Tryz.prog) (c:=c) (ps:=ps) Tryz.underlying42 (KG.cons Tryz.sizeOf22 (KG.cons Tryz.sizeOf3 (KG.cons Tryz.sizeOf3 (KG.cons Tryz.sizeOf3 (KG.cons Tryz.sizeOf3 KG.nil))))) Tryz.zeroValue42):=JJ (P:=Tryz.prog) (c:=c) (ps:=ps) Tryz.underlying42 (KG.cons Tryz.sizeOf22 (KG.cons Tryz.sizeOf3 (KG.cons Tryz.sizeOf3 (KG.cons Tryz.sizeOf3 (KG.cons Tryz.sizeOf3 KG.nil))))) Tryz.zeroValue42
theorem bd113{ps:List (Nat×Value)}{c:List Value}:type_of%(JJ (P:=Tryz.prog) (c:=c) (ps:=ps) Tryz.underlying113 (KG.cons Tryz.sizeOf31 (KG.cons Tryz.sizeOf45 KG.nil)) Tryz.zeroValue113):=JJ (P:=Tryz.prog) (c:=c) (ps:=ps) Tryz.underlying113 (KG.cons Tryz.sizeOf31 (KG.cons Tryz.sizeOf45 KG.nil)) Tryz.zeroValue113
theorem bd31{ps:List (Nat×Value)}{c:List Value}:type_of%(JJ (P:=Tryz.prog) (c:=c) (ps:=ps) Tryz.underlying31 (KG.cons Tryz.sizeOf3 (KG.cons Tryz.sizeOf22 (KG.cons Tryz.sizeOf29 KG.nil))) Tryz.zeroValue31):=JJ (P:=Tryz.prog) (c:=c) (ps:=ps) Tryz.underlying31 (KG.cons Tryz.sizeOf3 (KG.cons Tryz.sizeOf22 (KG.cons Tryz.sizeOf29 KG.nil))) Tryz.zeroValue31
theorem bd58{ps:List (Nat×Value)}{c:List Value}:type_of%(JJ (P:=Tryz.prog) (c:=c) (ps:=ps) Tryz.underlying58 (KG.cons Tryz.sizeOf24 (KG.cons Tryz.sizeOf3 KG.nil)) Tryz.zeroValue58):=JJ (P:=Tryz.prog) (c:=c) (ps:=ps) Tryz.underlying58 (KG.cons Tryz.sizeOf24 (KG.cons Tryz.sizeOf3 KG.nil)) Tryz.zeroValue58
theorem bd47{ps:List (Nat×Value)}{c:List Value}:type_of%(JJ (P:=Tryz.prog) (c:=c) (ps:=ps) Tryz.underlying47 (KG.cons Tryz.sizeOf44 (KG.cons Tryz.sizeOf3 (KG.cons Tryz.sizeOf3 (KG.cons Tryz.sizeOf3 (KG.cons Tryz.sizeOf45 KG.nil))))) Tryz.zeroValue47):=JJ (P:=Tryz.prog) (c:=c) (ps:=ps) Tryz.underlying47 (KG.cons Tryz.sizeOf44 (KG.cons Tryz.sizeOf3 (KG.cons Tryz.sizeOf3 (KG.cons Tryz.sizeOf3 (KG.cons Tryz.sizeOf45 KG.nil))))) Tryz.zeroValue47
theorem bd61{ps:List (Nat×Value)}{c:List Value}:type_of%(JJ (P:=Tryz.prog) (c:=c) (ps:=ps) Tryz.underlying61 (KG.cons Tryz.sizeOf52 (KG.cons Tryz.sizeOf31 (KG.cons Tryz.sizeOf47 (KG.cons Tryz.sizeOf44 (KG.cons Tryz.sizeOf45 KG.nil))))) Tryz.zeroValue61):=JJ (P:=Tryz.prog) (c:=c) (ps:=ps) Tryz.underlying61 (KG.cons Tryz.sizeOf52 (KG.cons Tryz.sizeOf31 (KG.cons Tryz.sizeOf47 (KG.cons Tryz.sizeOf44 (KG.cons Tryz.sizeOf45 KG.nil))))) Tryz.zeroValue61
theorem bd67{ps:List (Nat×Value)}{c:List Value}:type_of%(JJ (P:=Tryz.prog) (c:=c) (ps:=ps) Tryz.underlying67 (KG.cons Tryz.sizeOf24 (KG.cons Tryz.sizeOf4 KG.nil)) Tryz.zeroValue67):=JJ (P:=Tryz.prog) (c:=c) (ps:=ps) Tryz.underlying67 (KG.cons Tryz.sizeOf24 (KG.cons Tryz.sizeOf4 KG.nil)) Tryz.zeroValue67
section
variable{r:Option Nat}{f:FuncId}{R:Value->World->Prop}{w0:World}{S:List Nat}{Y:List (Nat×Obj)}{n:Nat}{k k':List Item}{l l':Fl}{h hb:Hl}{ops:Array Oper}{i i' q q' m m':Nat}{D D':List Nat}{o:Op}{v:Value}
theorem zU{t:TypeId}{u}(h:Tryz.prog.underlying t=some u:=by with_reducible first|exact Tryz.underlying22|exact Tryz.underlying24|exact Tryz.underlying29|exact Tryz.underlying31|exact Tryz.underlying42|exact Tryz.underlying45|exact Tryz.underlying47|exact Tryz.underlying58|exact Tryz.underlying61|exact Tryz.underlying67|exact Tryz.underlying72|exact Tryz.underlying76|exact Tryz.underlying83|exact Tryz.underlying85|exact Tryz.underlying88|exact Tryz.underlying98|exact Tryz.underlying113|exact Tryz.underlying128|exact Tryz.underlying150|exact Tryz.underlying168):Tryz.prog.underlying t=some u:=h
theorem zZ{t:TypeId}{m:Nat}(h:∀w,(sizeOf t).run Tryz.prog w=.ok m w:=by with_reducible first|exact Tryz.sizeOf3|exact Tryz.sizeOf4|exact Tryz.sizeOf22|exact Tryz.sizeOf24|exact Tryz.sizeOf29|exact Tryz.sizeOf31|exact Tryz.sizeOf42|exact Tryz.sizeOf44|exact Tryz.sizeOf45|exact Tryz.sizeOf47|exact Tryz.sizeOf52|exact Tryz.sizeOf72|exact Tryz.sizeOf85|exact Tryz.sizeOf88|exact Tryz.sizeOf98|exact Tryz.sizeOf148):∀w,(sizeOf t).run Tryz.prog w=.ok m w:=h
theorem zG{t:TypeId}{b:Bool}(h:∀w,(isAgg t).run Tryz.prog w=.ok b w:=by with_reducible first|exact Tryz.isAgg3|exact Tryz.isAgg4|exact Tryz.isAgg22|exact Tryz.isAgg24|exact Tryz.isAgg29|exact Tryz.isAgg31|exact Tryz.isAgg42|exact Tryz.isAgg44|exact Tryz.isAgg45|exact Tryz.isAgg47|exact Tryz.isAgg72|exact Tryz.isAgg77|exact Tryz.isAgg98|exact Tryz.isAgg139|exact Tryz.isAgg140):∀w,(isAgg t).run Tryz.prog w=.ok b w:=h
theorem zH{q:Nat->Prop}(h:∃j,q j:=by first|exact⟨0,rfl⟩|exact⟨1,rfl⟩|exact⟨2,rfl⟩|exact⟨3,rfl⟩|exact⟨4,rfl⟩|exact⟨5,rfl⟩|exact⟨6,rfl⟩|exact⟨7,rfl⟩|exact⟨8,rfl⟩|exact⟨9,rfl⟩|exact⟨10,rfl⟩|exact⟨11,rfl⟩|exact⟨12,rfl⟩|exact⟨13,rfl⟩):∃j,q j:=h
theorem wo(hv:Vo Tryz.prog w0 S n h l o v:=by first|(apply Vo.mv;exact rfl)|(apply Vo.Er;first|exact(rfl:_=some (U 0#64))|exact(rfl:_=some (U 18446744073709551615#64))|exact(rfl:_=some (U 1#64))|exact rfl)|(apply Vo.fp;exact rfl;exact zU;exact rfl;(first|exact(rfl:_=3)|exact(rfl:_=4)|exact(rfl:_=22)|exact(rfl:_=24)|exact(rfl:_=29)|exact(rfl:_=31)|exact(rfl:_=42)|exact(rfl:_=44)|exact(rfl:_=45)|exact(rfl:_=47)|exact(rfl:_=52)|exact(rfl:_=72)|exact(rfl:_=85)|exact(rfl:_=88)|exact(rfl:_=98)|exact(rfl:_=148));exact zZ;first|exact(rfl:_=0)|exact(rfl:_=1)|exact(rfl:_=2)|exact(rfl:_=3)|exact(rfl:_=4)|exact(rfl:_=5)|exact(rfl:_=6)|exact(rfl:_=7)|exact(rfl:_=8)|exact(rfl:_=9)|exact(rfl:_=10)|exact(rfl:_=11))|(apply PU;exact rfl;exact zG;exact zH;exact rfl)|(apply PV;exact rfl;exact zG;exact zH;exact zZ;exact rfl)|(apply Vo.bl;exact rfl;exact zU)|(apply Vo.ex;exact rfl;exact rfl)|(apply Qk;exact rfl)|(apply Vo.pt;exact rfl;exact rfl)|(apply Qj;exact rfl;exact rfl)|(apply Vo.un;exact rfl;exact HZ)|(apply Vo.fd;exact rfl;exact zU;exact rfl;(first|exact(rfl:_=3)|exact(rfl:_=4)|exact(rfl:_=22)|exact(rfl:_=24)|exact(rfl:_=29)|exact(rfl:_=31)|exact(rfl:_=42)|exact(rfl:_=44)|exact(rfl:_=45)|exact(rfl:_=47)|exact(rfl:_=72)|exact(rfl:_=77)|exact(rfl:_=98)|exact(rfl:_=139)|exact(rfl:_=140));exact zG;exact rfl)):Vo Tryz.prog w0 S n h l o v:=hv
theorem vo(hv:Vo Tryz.prog w0 S n h l o v:=by first|(apply Ql;exact rfl;exact rfl;first|apply Bj.or|apply Bj.an|apply Bj.ad|apply Qw|apply Bj.eu|(apply Bj.eq;decide)|(apply Bj.lt;decide)|(apply Bj.ne;decide)|(apply Qx;decide)|(apply Bj.gt;decide)|(apply Bj.le;decide)|(apply P8;omega))|(exact wo)):Vo Tryz.prog w0 S n h l o v:=hv
theorem gY(hk:eQ Tryz.prog r f R w0 S Y n k' l' h)(hr:eQ Tryz.prog r f R w0 S Y n k' l' h->eQ Tryz.prog r f R w0 S Y n k l h:=by intro hz;(repeat(first|(apply gE)|(apply gS)|(apply gR)|(apply Rq;exact rfl;exact rfl;exact rfl;exact vo)|(apply gK)|(apply gB)|(apply Gs)|(apply Rt)|(apply Rr;exact rfl;exact rfl;exact rfl;exact rfl)));exact hz):eQ Tryz.prog r f R w0 S Y n k l h:=hr hk
theorem rY(hk:gi Tryz.prog r f R w0 S Y n k ops i' m' l' h)(hr:gi Tryz.prog r f R w0 S Y n k ops i' m' l' h->gi Tryz.prog r f R w0 S Y n k ops i m l h:=by intro hz;(repeat(first|(apply Rm;exact rfl;exact rfl;exact rfl;exact vo)|(apply Rn;exact rfl;exact rfl;exact rfl;exact rfl;exact rfl)));exact hz):gi Tryz.prog r f R w0 S Y n k ops i m l h:=hr hk
theorem cY(hk:fz Tryz.prog r f R w0 S Y n k ops hb q' D' l' h)(hr:fz Tryz.prog r f R w0 S Y n k ops hb q' D' l' h->fz Tryz.prog r f R w0 S Y n k ops hb q D l h:=by intro hz;(repeat(first|(apply Rx 0;exact rfl;exact rfl;exact rfl;exact rfl;exact vo;exact rfl;exact sL)|(apply Rx 1;exact rfl;exact rfl;exact rfl;exact rfl;exact vo;exact rfl;exact sL)|(apply Rx 2;exact rfl;exact rfl;exact rfl;exact rfl;exact vo;exact rfl;exact sL)|(apply Rx 3;exact rfl;exact rfl;exact rfl;exact rfl;exact vo;exact rfl;exact sL)|(apply Rx 4;exact rfl;exact rfl;exact rfl;exact rfl;exact vo;exact rfl;exact sL)|(apply Ry 0;exact rfl;exact rfl;exact rfl;exact rfl;exact rfl;exact rfl;exact rfl;exact sL)|(apply Ry 1;exact rfl;exact rfl;exact rfl;exact rfl;exact rfl;exact rfl;exact rfl;exact sL)|(apply Ry 2;exact rfl;exact rfl;exact rfl;exact rfl;exact rfl;exact rfl;exact rfl;exact sL)|(apply Ry 3;exact rfl;exact rfl;exact rfl;exact rfl;exact rfl;exact rfl;exact rfl;exact sL)|(apply Ry 4;exact rfl;exact rfl;exact rfl;exact rfl;exact rfl;exact rfl;exact rfl;exact sL)));exact hz):fz Tryz.prog r f R w0 S Y n k ops hb q D l h:=hr hk
theorem gW(hk:eQ Tryz.prog r f R w0 S Y n k' l' h)(hr:eQ Tryz.prog r f R w0 S Y n k' l' h->eQ Tryz.prog r f R w0 S Y n k l h:=by intro hz;(repeat(first|(apply gE)|(apply gS)|(apply gR)|(apply Rq;exact rfl;exact rfl;exact rfl;exact wo)|(apply gK)|(apply gB)|(apply Gs)|(apply Rt)|(apply Rr;exact rfl;exact rfl;exact rfl;exact rfl)));exact hz):eQ Tryz.prog r f R w0 S Y n k l h:=hr hk
theorem rW(hk:gi Tryz.prog r f R w0 S Y n k ops i' m' l' h)(hr:gi Tryz.prog r f R w0 S Y n k ops i' m' l' h->gi Tryz.prog r f R w0 S Y n k ops i m l h:=by intro hz;(repeat(first|(apply Rm;exact rfl;exact rfl;exact rfl;exact wo)|(apply Rn;exact rfl;exact rfl;exact rfl;exact rfl;exact rfl)));exact hz):gi Tryz.prog r f R w0 S Y n k ops i m l h:=hr hk
theorem cW(hk:fz Tryz.prog r f R w0 S Y n k ops hb q' D' l' h)(hr:fz Tryz.prog r f R w0 S Y n k ops hb q' D' l' h->fz Tryz.prog r f R w0 S Y n k ops hb q D l h:=by intro hz;(repeat(first|(apply Rx 0;exact rfl;exact rfl;exact rfl;exact rfl;exact wo;exact rfl;exact sL)|(apply Rx 1;exact rfl;exact rfl;exact rfl;exact rfl;exact wo;exact rfl;exact sL)|(apply Rx 2;exact rfl;exact rfl;exact rfl;exact rfl;exact wo;exact rfl;exact sL)|(apply Rx 3;exact rfl;exact rfl;exact rfl;exact rfl;exact wo;exact rfl;exact sL)|(apply Rx 4;exact rfl;exact rfl;exact rfl;exact rfl;exact wo;exact rfl;exact sL)|(apply Ry 0;exact rfl;exact rfl;exact rfl;exact rfl;exact rfl;exact rfl;exact rfl;exact sL)|(apply Ry 1;exact rfl;exact rfl;exact rfl;exact rfl;exact rfl;exact rfl;exact rfl;exact sL)|(apply Ry 2;exact rfl;exact rfl;exact rfl;exact rfl;exact rfl;exact rfl;exact rfl;exact sL)|(apply Ry 3;exact rfl;exact rfl;exact rfl;exact rfl;exact rfl;exact rfl;exact rfl;exact sL)|(apply Ry 4;exact rfl;exact rfl;exact rfl;exact rfl;exact rfl;exact rfl;exact rfl;exact sL)));exact hz):fz Tryz.prog r f R w0 S Y n k ops hb q D l h:=hr hk
theorem zR(hr:eQ Tryz.prog r f R w0 S Y n k l h->eQ Tryz.prog r f R w0 S Y n k' l' h:=by intro hz;(repeat(first|(apply gE)|(apply gS)|(apply gR)|(apply Rq;exact rfl;exact rfl;exact rfl;exact vo)|(apply gK)|(apply gB)|(apply Gs)|(apply Rt)|(apply Rr;exact rfl;exact rfl;exact rfl;exact rfl)));exact hz):eQ Tryz.prog r f R w0 S Y n k l h->eQ Tryz.prog r f R w0 S Y n k' l' h:=hr
variable{p p':Prop}{x y:Code}{B:Bool}{c cal:Operand}{rest:List Nat}{ty:TypeId}{pos:String}{aft:Array Edge}{g:Option (Nat×Bool)}{az:Array Operand}{ts:Array TypeId}{gf:FuncId}{vs:List Value}{d:Nat}
theorem eX{fn:Func}(hf:Tryz.prog.funcs[f]?=some fn)(hR:∀w,St w0 S w h Y->R (l7 vs) w)(hr:eQ Tryz.prog none f R w0 S Y n (.code .ret::k) l h->eQ Tryz.prog none f R w0 S Y n k' l' h:=by exact zR)(hres:DR l fn.results.toList=some vs:=by exact rfl):eQ Tryz.prog none f R w0 S Y n k' l' h:=hr (gT hf hR hres)
theorem kU(ht:B=true->eQ Tryz.prog r f R w0 S Y n (.code x::k) l h)(hf:B=false->eQ Tryz.prog r f R w0 S Y n (.code y::k) l h)(hr:eQ Tryz.prog r f R w0 S Y n (.code (.cond c x y)::k) l h->eQ Tryz.prog r f R w0 S Y n k' l' h:=by exact zR)(hc:fW l c=some (.bool B):=by exact rfl):eQ Tryz.prog r f R w0 S Y n k' l' h:=hr (gC ht hf hc)
theorem eU(ht:p->eQ Tryz.prog r f R w0 S Y n (.code x::k) l h)(hf:p'->eQ Tryz.prog r f R w0 S Y n (.code y::k) l h)(hr:eQ Tryz.prog r f R w0 S Y n (.code (.cond c x y)::k) l h->eQ Tryz.prog r f R w0 S Y n k' l' h:=by exact zR)(hc:fW l c=some (.bool B):=by exact rfl)(et:B=true->p:=by intro h;first|simpa using h|(simp at h;omega)|exact h)(ef:B=false->p':=by intro h;first|simpa using h|(simp at h;omega)|exact h):eQ Tryz.prog r f R w0 S Y n k' l' h:=hr (vX ht hf hc et ef)
theorem BU(ht:p->eQ Tryz.prog r f R w0 S Y n (.code x::k) l h)(hf:B=false->eQ Tryz.prog r f R w0 S Y n (.code y::k) l h)(hr:eQ Tryz.prog r f R w0 S Y n (.code (.cond c x y)::k) l h->eQ Tryz.prog r f R w0 S Y n k' l' h:=by exact zR)(hc:fW l c=some (.bool B):=by exact rfl)(et:B=true->p:=by intro h;first|simpa using h|(simp at h;omega)|exact h):eQ Tryz.prog r f R w0 S Y n k' l' h:=hr (Qf ht hf hc et)
theorem lB(ht:B=true->eQ Tryz.prog r f R w0 S Y n (.code x::k) l h)(hf:p'->eQ Tryz.prog r f R w0 S Y n (.code y::k) l h)(hr:eQ Tryz.prog r f R w0 S Y n (.code (.cond c x y)::k) l h->eQ Tryz.prog r f R w0 S Y n k' l' h:=by exact zR)(hc:fW l c=some (.bool B):=by exact rfl)(ef:B=false->p':=by intro h;first|simpa using h|(simp at h;omega)|exact h):eQ Tryz.prog r f R w0 S Y n k' l' h:=hr (Ru ht hf hc ef)
theorem oo(d:Nat)(ht:B=true->eQ Tryz.prog r f R w0 S Y n k ((d,.bool true)::l) h)(hf:B=false->eQ Tryz.prog r f R w0 S Y n k ((d,.bool false)::l) h)(hr:eQ Tryz.prog r f R w0 S Y n k l h->eQ Tryz.prog r f R w0 S Y n k' l' h:=by exact zR)(hv:Go.Proofs.Wit.look l d=some (.bool B):=by exact rfl):eQ Tryz.prog r f R w0 S Y n k' l' h:=hr (Pt d ht hf hv)
theorem fh(d:Nat)(ht:p->eQ Tryz.prog r f R w0 S Y n k ((d,.bool true)::l) h)(hf:p'->eQ Tryz.prog r f R w0 S Y n k ((d,.bool false)::l) h)(hr:eQ Tryz.prog r f R w0 S Y n k l h->eQ Tryz.prog r f R w0 S Y n k' l' h:=by exact zR)(hv:Go.Proofs.Wit.look l d=some (.bool B):=by exact rfl)(et:B=true->p:=by intro h;first|simpa using h|(simp at h;omega)|exact h)(ef:B=false->p':=by intro h;first|simpa using h|(simp at h;omega)|exact h):eQ Tryz.prog r f R w0 S Y n k' l' h:=hr (AD d ht hf hv et ef)
theorem gj(hcf:∀args w,(callFunc gf args).run Tryz.prog w=.ok (.enter gf args) w)(hcall:∀w Y',St w0 S w h Y'->Cn Tryz.prog gf vs w (λu _=>u=v))(hk:eQ Tryz.prog r f R w0 S Y n (.inRegion ops rest::k) ((d,v)::l) h)(hr:eQ Tryz.prog r f R w0 S Y n (.inRegion ops (i::rest)::k) l h->eQ Tryz.prog r f R w0 S Y n k' l' h:=by exact zR)(ho:ops[i]?=some ⟨some d,.call ⟨.value cal,az,ts⟩,ty,pos,aft,g⟩:=by exact rfl)(hw:fg ops l g=true:=by exact rfl)(hc:fW l cal=some (.func (.func gf) #[] #[]):=by exact rfl)(hx:iT l az.toList=some vs:=by exact rfl)(hd:Nat.blt d n=true:=by exact rfl):eQ Tryz.prog r f R w0 S Y n k' l' h:=hr (sE hcf hcall hk ho hw hc hx hd)
theorem gO{Rc:World->Value->World->Prop}(hcf:∀args w,(callFunc gf args).run Tryz.prog w=.ok (.enter gf args) w)(hcall:∀w Y',St w0 S w h Y'->Cn Tryz.prog gf vs w (Rc w))(hk:∀v w w' Y',St w0 S w h Y'->Ex [] w w'->Rc w v w'->∃h',St w0 S w' h' Y'/\eQ Tryz.prog r f R w0 S Y n (.inRegion ops rest::k) ((d,v)::l) h')(hr:eQ Tryz.prog r f R w0 S Y n (.inRegion ops (i::rest)::k) l h->eQ Tryz.prog r f R w0 S Y n k' l' h:=by exact zR)(ho:ops[i]?=some ⟨some d,.call ⟨.value cal,az,ts⟩,ty,pos,aft,g⟩:=by exact rfl)(hw:fg ops l g=true:=by exact rfl)(hc:fW l cal=some (.func (.func gf) #[] #[]):=by exact rfl)(hx:iT l az.toList=some vs:=by exact rfl)(hd:Nat.blt d n=true:=by exact rfl):eQ Tryz.prog r f R w0 S Y n k' l' h:=hr (sG hcf hcall hk ho hw hc hx hd)
theorem px{t:TypeId}{ns:List NV}(hcf:∀args w,(callFunc gf args).run Tryz.prog w=.ok (.enter gf args) w)(hcall:∀w Y',St w0 S w h Y'->Cn Tryz.prog gf vs w (λv w'=>fi t w w' v ns))(hk:∀q cap sp w' Y',(q=none->ns.length=0/\cap=0)->(ns.flatMap NV.cells++sp).length=cap*6->St w0 S w' ((q,iC t ns sp)::h) Y'->eQ Tryz.prog r f R w0 S Y n (.inRegion ops rest::k) ((d,fZ q ns.length cap)::l) ((q,iC t ns sp)::h))(ho:ops[i]?=some ⟨some d,.call ⟨.value cal,az,ts⟩,ty,pos,aft,g⟩:=by exact rfl)(hw:fg ops l g=true:=by exact rfl)(hc:fW l cal=some (.func (.func gf) #[] #[]):=by exact rfl)(hx:iT l az.toList=some vs:=by exact rfl)(hd:Nat.blt d n=true:=by exact rfl):eQ Tryz.prog r f R w0 S Y n (.inRegion ops (i::rest)::k) l h:=sG hcf hcall (λv w w' Y' hs he ho=>by obtain⟨q,cap,sp,rfl,hq,hc,m⟩:=fy hs he ho;exact⟨_,m,hk q cap sp w' Y' hq hc m⟩) ho hw hc hx hd
theorem ml{t:TypeId}{ns:List NV}(hcf:∀args w,(callFunc gf args).run Tryz.prog w=.ok (.enter gf args) w)(hcall:∀w Y',St w0 S w h Y'->Cn Tryz.prog gf vs w (λv w'=>fi t w w' v ns))(hk:∀q cap sp w' Y',(q=none->ns.length=0/\cap=0)->(ns.flatMap NV.cells++sp).length=cap*6->St w0 S w' ((q,iC t ns sp)::h) Y'->eQ Tryz.prog r f R w0 S Y n (.inRegion ops rest::k) ((d,fZ q ns.length cap)::l) ((q,iC t ns sp)::h))(hr:eQ Tryz.prog r f R w0 S Y n (.inRegion ops (i::rest)::k) l h->eQ Tryz.prog r f R w0 S Y n k' l' h:=by exact zR)(ho:ops[i]?=some ⟨some d,.call ⟨.value cal,az,ts⟩,ty,pos,aft,g⟩:=by exact rfl)(hw:fg ops l g=true:=by exact rfl)(hc:fW l cal=some (.func (.func gf) #[] #[]):=by exact rfl)(hx:iT l az.toList=some vs:=by exact rfl)(hd:Nat.blt d n=true:=by exact rfl):eQ Tryz.prog r f R w0 S Y n k' l' h:=hr (px hcf hcall hk ho hw hc hx hd)
theorem gH{f:FuncId}{fn:Func}{c:Code}{args:List Value}{Rc:Value->World->Prop}{w0:World}(hf:Tryz.prog.funcs[f]?=some fn)(hgo:eQ Tryz.prog none f (λv w'=>Ex [] w0 w'/\Rc v w') w0 [] [] fn.ntmps [.code c] (Ac 0 args) [])(hb:fn.body=some c:=by exact rfl)(hn:Nat.ble args.length fn.ntmps=true:=by exact rfl):Cn Tryz.prog f args w0 Rc:=Cn.of hf hb hn hgo
theorem pJ{tx tyy:TypeId}{xx yy:Operand} (hk:eQ Tryz.prog r f R w0 S Y n (.inRegion ops rest::k) ((d,.int .i64 (a+b))::l) h)(ho:ops[i]?=some ⟨some d,.binOp .add tx xx yy tyy,ty,pos,aft,g⟩:=by exact rfl)(hw:fg ops l g=true:=by exact rfl)(hx:fW l xx=some (.int .i64 a):=by exact rfl)(hy:fW l yy=some (.int .i64 b):=by exact rfl)(hd:Nat.blt d n=true:=by exact rfl)(hb:-9223372036854775808<=a+b/\a+b<=9223372036854775807:=by omega):eQ Tryz.prog r f R w0 S Y n (.inRegion ops (i::rest)::k) l h:=lu ho hw hx hy (PO hb) hk hd
theorem gAdY{tx tyy:TypeId}{xx yy:Operand} (hk:eQ Tryz.prog r f R w0 S Y n (.inRegion ops rest::k) ((d,.int .i64 (a+b))::l) h)(hr:eQ Tryz.prog r f R w0 S Y n (.inRegion ops (i::rest)::k) l h->eQ Tryz.prog r f R w0 S Y n k' l' h:=by exact zR)(ho:ops[i]?=some ⟨some d,.binOp .add tx xx yy tyy,ty,pos,aft,g⟩:=by exact rfl)(hw:fg ops l g=true:=by exact rfl)(hx:fW l xx=some (.int .i64 a):=by exact rfl)(hy:fW l yy=some (.int .i64 b):=by exact rfl)(hd:Nat.blt d n=true:=by exact rfl)(hb:-9223372036854775808<=a+b/\a+b<=9223372036854775807:=by omega):eQ Tryz.prog r f R w0 S Y n k' l' h:=hr (lu ho hw hx hy (PO hb) hk hd)
theorem gSbZ{tx tyy:TypeId}{xx yy:Operand} (hk:eQ Tryz.prog r f R w0 S Y n (.inRegion ops rest::k) ((d,.int .i64 (a - b))::l) h)(ho:ops[i]?=some ⟨some d,.binOp .sub tx xx yy tyy,ty,pos,aft,g⟩:=by exact rfl)(hw:fg ops l g=true:=by exact rfl)(hx:fW l xx=some (.int .i64 a):=by exact rfl)(hy:fW l yy=some (.int .i64 b):=by exact rfl)(hd:Nat.blt d n=true:=by exact rfl)(hb:-9223372036854775808<=a - b/\a - b<=9223372036854775807:=by omega):eQ Tryz.prog r f R w0 S Y n (.inRegion ops (i::rest)::k) l h:=lu ho hw hx hy (MK hb) hk hd
theorem qh{tx tyy:TypeId}{xx yy:Operand} (hk:eQ Tryz.prog r f R w0 S Y n (.inRegion ops rest::k) ((d,.int .i64 (a - b))::l) h)(hr:eQ Tryz.prog r f R w0 S Y n (.inRegion ops (i::rest)::k) l h->eQ Tryz.prog r f R w0 S Y n k' l' h:=by exact zR)(ho:ops[i]?=some ⟨some d,.binOp .sub tx xx yy tyy,ty,pos,aft,g⟩:=by exact rfl)(hw:fg ops l g=true:=by exact rfl)(hx:fW l xx=some (.int .i64 a):=by exact rfl)(hy:fW l yy=some (.int .i64 b):=by exact rfl)(hd:Nat.blt d n=true:=by exact rfl)(hb:-9223372036854775808<=a - b/\a - b<=9223372036854775807:=by omega):eQ Tryz.prog r f R w0 S Y n k' l' h:=hr (lu ho hw hx hy (MK hb) hk hd)
theorem iZ(hg:eQ Tryz.prog r f R w0 S Y n (.inRegion ops []::k) l h)(h0:fw ops D=[]:=by exact rfl):fz Tryz.prog r f R w0 S Y n k ops hb (q+1) D l h:=.done h0 hg
theorem ke{id:Nat}(hg:eQ Tryz.prog r f R w0 S Y n k' l h)(he:exitTo id k=some k':=by exact rfl):eQ Tryz.prog r f R w0 S Y n (.code (.exit id)::k) l h:=.exit he hg
theorem rh(ht:eQ Tryz.prog r f R w0 S Y n (.code x::k) l h)(hc:fW l c=some (.bool true):=by exact rfl):eQ Tryz.prog r f R w0 S Y n (.code (.cond c x y)::k) l h:=.Kx hc ht
theorem vp(hf:eQ Tryz.prog r f R w0 S Y n (.code y::k) l h)(hc:fW l c=some (.bool false):=by exact rfl):eQ Tryz.prog r f R w0 S Y n (.code (.cond c x y)::k) l h:=.Qh hc hf
theorem zT{p:Prop}(h:p:=by repeat(first|exact trivial|refine⟨rfl,?_⟩)):p:=h
theorem zC{a b:Hl}(hs:a.Sublist b:=by rw[Mz rfl];exact sL):a.Sublist b:=hs
theorem J7{a b:Hl}(hs:a.Sublist b:=by rw[sd rfl];exact sL):a.Sublist b:=hs
theorem J6{a b:Hl}(hs:a.Sublist b:=by rw[sd rfl];exact List.nil_sublist _):a.Sublist b:=hs
theorem ly{p:Prop}(h:p:=by unfold maxLen;omega):p:=h
theorem lV{xs:List NV}:(xs.flatMap NV.cells).length=xs.length*6:=oX (enc:=NV.cells) (sz:=6) (λ_=>rfl)
theorem xG{xs:List SV}:(xs.flatMap SV.cells).length=xs.length*5:=oX (enc:=SV.cells) (sz:=5) (λ_=>rfl)
theorem A5{xs:List LV}:(xs.flatMap LV.cells).length=xs.length*5:=oX (enc:=LV.cells) (sz:=5) (λ_=>rfl)
end
theorem RH:type_of%@Tryz.sizeOf3:=@Tryz.sizeOf3
theorem RI:type_of%@Tryz.sizeOf72:=@Tryz.sizeOf72
theorem RJ:type_of%@Tryz.underlying45:=@Tryz.underlying45
theorem RK:type_of%@Tryz.isAgg3:=@Tryz.isAgg3
theorem RL:type_of%@Tryz.underlying22:=@Tryz.underlying22
theorem RM:type_of%@Tryz.sizeOf22:=@Tryz.sizeOf22
theorem RN:type_of%@Tryz.underlying88:=@Tryz.underlying88
theorem RO:type_of%@Tryz.zeroValue3:=@Tryz.zeroValue3
theorem RP:type_of%@Tryz.underlying72:=@Tryz.underlying72
theorem RQ:type_of%@Tryz.zeroValue72:=@Tryz.zeroValue72
theorem RR:type_of%@Tryz.isAgg22:=@Tryz.isAgg22
theorem RS:type_of%@Tryz.sizeOf47:=@Tryz.sizeOf47
theorem RT:type_of%@Tryz.sizeOf4:=@Tryz.sizeOf4
theorem RU:type_of%@Tryz.sizeOf98:=@Tryz.sizeOf98
theorem RV:type_of%@Tryz.underlying85:=@Tryz.underlying85
theorem RX:type_of%@Tryz.isAgg72:=@Tryz.isAgg72
theorem RY:type_of%@Tryz.zeroValue22:=@Tryz.zeroValue22
theorem RZ:type_of%@Tryz.underlying29:=@Tryz.underlying29
theorem R0:type_of%@Tryz.sizeOf44:=@Tryz.sizeOf44
theorem R1:type_of%@Tryz.call20:=@Tryz.call20
theorem R2:type_of%@Tryz.call15:=@Tryz.call15
theorem R3:type_of%@Tryz.call18:=@Tryz.call18
theorem R4:type_of%@Tryz.sizeOf42:=@Tryz.sizeOf42
theorem R5:type_of%@Tryz.call39:=@Tryz.call39
theorem R6:type_of%@Tryz.underlying24:=@Tryz.underlying24
theorem R7:type_of%@Tryz.func103:=@Tryz.func103
theorem R8:type_of%@Tryz.isAgg4:=@Tryz.isAgg4
theorem R9:type_of%@Tryz.sizeOf31:=@Tryz.sizeOf31
theorem Sa:type_of%@Tryz.call33:=@Tryz.call33
theorem Sb:type_of%@Tryz.func79:=@Tryz.func79
theorem Sc:type_of%@Tryz.call135:=@Tryz.call135
theorem Sd:type_of%@Tryz.isAgg98:=@Tryz.isAgg98
theorem Se:type_of%@Tryz.func181:=@Tryz.func181
theorem Sf:type_of%@Tryz.underlying47:=@Tryz.underlying47
theorem Sh:type_of%@Tryz.underlying83:=@Tryz.underlying83
theorem Si:type_of%@Tryz.isAgg44:=@Tryz.isAgg44
theorem Sj:type_of%@Tryz.underlying42:=@Tryz.underlying42
theorem Sk:type_of%@Tryz.sizeOf45:=@Tryz.sizeOf45
theorem Sm:type_of%@Tryz.isAgg45:=@Tryz.isAgg45
theorem Sn:type_of%@Tryz.call163:=@Tryz.call163
theorem So:type_of%@Tryz.func154:=@Tryz.func154
theorem Sp:type_of%@Tryz.zeroValue47:=@Tryz.zeroValue47
theorem Sq:type_of%@Tryz.zeroValue31:=@Tryz.zeroValue31
theorem Sr:type_of%@Tryz.zeroValue44:=@Tryz.zeroValue44
theorem Ss:type_of%@Tryz.underlying31:=@Tryz.underlying31
theorem Su:type_of%@Tryz.underlying3:=@Tryz.underlying3
end
end Go.Proofs.YtaamcaiglooemaaGreatDoor
namespace Go.Proofs.YtaamcaiglooemaaGreatDoor
open Go.RowKit Go.Proofs.Wit Tryz
abbrev Of:Nat:=0
abbrev QY:=OJ Of
theorem mixed:Tryz.prog.follows .mixedOrders=true:=by kernel_rfl
theorem Aw:(Tryz.prog.info? 3).map (λi=>(i.zero,i.size,i.bytes))=some (some (aS 0),1,8):=by kernel_rfl
structure M3 (r:List fC) (s0 o:fC):Prop where
  base:BD r s0 &&& ~~~o=0#64
  step:BD r o &&& ~~~o=0#64
  least:∀c,BD r s0 &&& ~~~c=0#64->BD r c &&& ~~~c=0#64->o &&& ~~~c=0#64
def kF(gf:ay)(g:List fC->List fC):Prop:=
 ∀(q:ah) (cap:Nat) (xs:List fC) (sp:ai) (w:aB),QY w->(∀b,q=some b->Of≠b)->Eu xs->(q=none->xs.length=0/\cap=0)->(∀b,q=some b->w.heap[b]?=some (ob U 44 xs sp))->
  Rg Tryz.prog gf [fZ q xs.length cap] w q (λ_ w'=>∀b,q=some b->w'.heap[b]?=some (ob U 44 (g xs) sp))
structure Qu (a:ae) (ca:Nat) (r:List fC) (A:ae) (cA:Nat) (cur:List fC) (q:ah) (sp:ai):Prop where
  cap:cur.length<=cA
  at_:(A=a/\cur=r)\/(A=q.map aP/\(q=none->cur.length=0))
end Go.Proofs.YtaamcaiglooemaaGreatDoor

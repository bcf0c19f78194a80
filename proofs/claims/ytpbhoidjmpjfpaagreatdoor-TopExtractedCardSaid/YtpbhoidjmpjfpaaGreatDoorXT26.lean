/- Laws of walks, each under its own conditions. -/
import Derived.Test.YtpbhoidjmpjfpaaGreatDoorXT25
set_option maxRecDepth 100000
set_option maxHeartbeats 40000000
namespace Go.Proofs.Wit
open Go Go.RowKit
section
variable{e g i op:Int}{a:Tr}
theorem B3 (h:op=5\/op=6)(hf:jH op i e g=0):i=0/\e=0/\g=0:=by
 unfold jH at hf;split at hf;exact absurd hf aI;rename_i hc;rcases h with rfl|rfl<;>simp[iO,uV,qG]at hc<;>omega
theorem Ff (h:op=9\/op=10)(hf:jH op i e g=0):e=0/\g=0:=by
 unfold jH at hf;split at hf;exact absurd hf aI;rename_i hc;rcases h with rfl|rfl<;>simp[iO,uV,qG]at hc<;>omega
theorem zJ (h:op=1\/op=2)(hf:jH op i e g=0):i=0/\e=0/\g=0:=by
 unfold jH at hf;split at hf;exact absurd hf aI;rename_i hc;rcases h with rfl|rfl<;>simp[iO,uV,qG]at hc<;>omega
theorem nN:∀{t:Tr},t.ok->kI (λop _ _=>op<=10) t->(eH (eH t).1).2=(eH t).2/\(eH (eH t).2).2=(eH t).1
 |.leaf op i e g,hok,hl=>by
  have h1:op<=10:=hl;rw[eH];dsimp only;by_cases h2:op=1;subst h2;obtain⟨rfl,rfl,rfl⟩:=zJ (.inl rfl) hok.2.2;exact⟨rfl,rfl⟩;by_cases h3:op=2;subst h3;obtain⟨rfl,rfl,rfl⟩:=zJ (.inr rfl) hok.2.2;exact⟨rfl,rfl⟩;rw[if_neg h2,if_neg h3];refine⟨by rw[eH,if_neg h2,if_neg h3],?_⟩;rw[eY,eH,if_pos rfl,eH]
 |.un op i e g a,hok,hl=>by
  have ih:=nN hok.2.2.2.2 hl.2;have h1:op<=10:=hl.1;have hop:op=4\/op=9\/op=10:=by have h2:=hok.1;have h3:=hok.2.1;have h4:=hok.2.2.1;unfold iX at h3;unfold ij at h4;simp at h3 h4;omega
  rcases hop with rfl|rfl|rfl;rw[eH,if_pos rfl];exact⟨ih.2,ih.1⟩;obtain⟨rfl,rfl⟩:=Ff (.inl rfl) hok.2.2.2.1;rw[eH,if_neg aI,if_pos rfl];refine⟨by rw[eH,if_neg aI,if_pos rfl,ih.1],by rw[eH,if_neg aI,if_neg aI,if_pos rfl,ih.2]⟩;obtain⟨rfl,rfl⟩:=Ff (.inr rfl) hok.2.2.2.1;rw[eH,if_neg aI,if_neg aI,if_pos rfl];refine⟨by rw[eH,if_neg aI,if_neg aI,if_pos rfl,ih.1],by rw[eH,if_neg aI,if_pos rfl,ih.2]⟩
 |.bin op i e g a b,hok,hl=>by
  have iha:=nN hok.2.2.2.1 hl.2.1;have ihb:=nN hok.2.2.2.2 hl.2.2;have h1:op<=10:=hl.1;have hop:op=5\/op=6\/op=7\/op=8:=by have h2:=hok.1;have h3:=hok.2.1;unfold ij at h3;simp at h3;omega
  rcases hop with rfl|rfl|rfl|rfl;obtain⟨rfl,rfl,rfl⟩:=B3 (.inl rfl) hok.2.2.1;rw[eH,if_pos rfl];refine⟨by rw[eH,if_pos rfl,iha.1,ihb.1],by rw[eH,if_neg aI,if_pos rfl,iha.2,ihb.2]⟩;obtain⟨rfl,rfl,rfl⟩:=B3 (.inr rfl) hok.2.2.1;rw[eH,if_neg aI,if_pos rfl];refine⟨by rw[eH,if_neg aI,if_pos rfl,iha.1,ihb.1],by rw[eH,if_pos rfl,iha.2,ihb.2]⟩;rw[eH,if_neg aI,if_neg aI,if_pos rfl];refine⟨by rw[eH,if_neg aI,if_pos rfl,iha.2,ihb.1],by rw[eH,if_pos rfl,iha.1,ihb.2]⟩;rw[eH,if_neg aI,if_neg aI,if_neg aI,if_pos rfl];have q6:∀x y:Tr,(eH (.bin 6 0 0 0 x y)).2=.bin 5 0 0 0 (eH x).2 (eH y).2:=λx y=>by rw[eH,if_neg aI,if_pos rfl]
  have q5:∀x y:Tr,(eH (.bin 5 0 0 0 x y)).2=.bin 6 0 0 0 (eH x).2 (eH y).2:=λx y=>by rw[eH,if_pos rfl]
  refine⟨by simp only[q5,q6,iha.1,iha.2,ihb.1,ihb.2],by simp only[q5,q6,iha.1,iha.2,ihb.1,ihb.2]⟩
theorem pv.jD{p q:Tr->Prop}(h:∀u,p u->q u):∀{t:Tr},pv p t->pv q t
 |.leaf ..,ht=>h _ ht
 |.un ..,ht=>⟨h _ ht.1,pv.jD h ht.2⟩
 |.bin ..,ht=>⟨h _ ht.1,pv.jD h ht.2.1,pv.jD h ht.2.2⟩
abbrev DE(P N u:Tr):Prop:=(eH u).2∈gk P\/(eH u).2∈gk N
theorem DE.mono{P N P' N' u:Tr}(h:DE P N u)(h1:gk P⊆gk P'\/gk P⊆gk N')(h2:gk N⊆gk P'\/gk N⊆gk N'):DE P' N' u:=by
 rcases h with h|h;exact h1.elim (λg=>.inl (g h)) (λg=>.inr (g h));exact h2.elim (λg=>.inl (g h)) (λg=>.inr (g h))
theorem jo {b:Tr}:gk a⊆gk (.bin op i e g a b):=rH (by simp[kids])
theorem jm {b:Tr}:gk b⊆gk (.bin op i e g a b):=rH (by simp[kids])
theorem tV  :gk a⊆gk (.un op i e g a):=rH (by simp[kids])
theorem xX:∀{t:Tr},t.ok->kI (λop _ _=>op<=10) t->pv (DE (eH t).1 (eH t).2) (eH t).1/\pv (DE (eH t).1 (eH t).2) (eH t).2
 |.leaf op i e g,hok,hl=>by
  have hd:=nN hok hl;have s1:DE (eH (.leaf op i e g)).1 (eH (.leaf op i e g)).2 (eH (.leaf op i e g)).1:=.inr (by rw[hd.1];exact j9 _);have s2:DE (eH (.leaf op i e g)).1 (eH (.leaf op i e g)).2 (eH (.leaf op i e g)).2:=.inl (by rw[hd.2];exact j9 _);refine⟨s1,?_⟩;by_cases h2:op=1;have e2:(eH (.leaf op i e g)).2=cT 2:=by rw[eH];simp[h2]
  rw[e2]at s2⊢;exact s2;by_cases h3:op=2;have e2:(eH (.leaf op i e g)).2=cT 1:=by rw[eH];simp[h3]
  rw[e2]at s2⊢;exact s2;have e2:(eH (.leaf op i e g)).2=eY (.leaf op i e g):=by rw[eH];simp[h2,h3]
  rw[e2]at s1 s2⊢;exact⟨s2,s1⟩
 |.un op i e g a,hok,hl=>by
  have hd:=nN hok hl;have ih:=xX hok.2.2.2.2 hl.2;have h1:op<=10:=hl.1;have hop:op=4\/op=9\/op=10:=by have h2:=hok.1;have h3:=hok.2.1;have h4:=hok.2.2.1;unfold iX at h3;unfold ij at h4;simp at h3 h4;omega
  have s1:DE (eH (.un op i e g a)).1 (eH (.un op i e g a)).2 (eH (.un op i e g a)).1:=.inr (by rw[hd.1];exact j9 _);have s2:DE (eH (.un op i e g a)).1 (eH (.un op i e g a)).2 (eH (.un op i e g a)).2:=.inl (by rw[hd.2];exact j9 _);rcases hop with rfl|rfl|rfl;have e1:eH (.un 4 i e g a)=((eH a).2,(eH a).1):=by rw[eH,if_pos rfl]
  rw[e1];exact⟨ih.2.jD λu h=>h.symm,ih.1.jD λu h=>h.symm⟩;have e1:eH (.un 9 i e g a)=(.un 9 i e g (eH a).1,.un 10 i 0 0 (eH a).2):=by rw[eH,if_neg aI,if_pos rfl]
  rw[e1]at s1 s2⊢;exact⟨⟨s1,ih.1.jD λu h=>h.mono (.inl tV) (.inr tV)⟩,⟨s2,ih.2.jD λu h=>h.mono (.inl tV) (.inr tV)⟩⟩;have e1:eH (.un 10 i e g a)=(.un 10 i e g (eH a).1,.un 9 i 0 0 (eH a).2):=by rw[eH,if_neg aI,if_neg aI,if_pos rfl]
  rw[e1]at s1 s2⊢;exact⟨⟨s1,ih.1.jD λu h=>h.mono (.inl tV) (.inr tV)⟩,⟨s2,ih.2.jD λu h=>h.mono (.inl tV) (.inr tV)⟩⟩
 |.bin op i e g a b,hok,hl=>by
  have hd:=nN hok hl;have iha:=xX hok.2.2.2.1 hl.2.1;have ihb:=xX hok.2.2.2.2 hl.2.2;have da:=nN hok.2.2.2.1 hl.2.1;have db:=nN hok.2.2.2.2 hl.2.2;have h1:op<=10:=hl.1;have hop:op=5\/op=6\/op=7\/op=8:=by have h2:=hok.1;have h3:=hok.2.1;unfold ij at h3;simp at h3;omega
  have s1:DE (eH (.bin op i e g a b)).1 (eH (.bin op i e g a b)).2 (eH (.bin op i e g a b)).1:=.inr (by rw[hd.1];exact j9 _);have s2:DE (eH (.bin op i e g a b)).1 (eH (.bin op i e g a b)).2 (eH (.bin op i e g a b)).2:=.inl (by rw[hd.2];exact j9 _);rcases hop with rfl|rfl|rfl|rfl;have e1:eH (.bin 5 i e g a b)=(.bin 5 i e g (eH a).1 (eH b).1,.bin 6 0 0 0 (eH a).2 (eH b).2):=by rw[eH,if_pos rfl]
  rw[e1]at s1 s2⊢;exact⟨⟨s1,iha.1.jD λu h=>h.mono (.inl jo) (.inr jo),ihb.1.jD λu h=>h.mono (.inl jm) (.inr jm)⟩,⟨s2,iha.2.jD λu h=>h.mono (.inl jo) (.inr jo),ihb.2.jD λu h=>h.mono (.inl jm) (.inr jm)⟩⟩;have e1:eH (.bin 6 i e g a b)=(.bin 6 i e g (eH a).1 (eH b).1,.bin 5 0 0 0 (eH a).2 (eH b).2):=by rw[eH,if_neg aI,if_pos rfl]
  rw[e1]at s1 s2⊢;exact⟨⟨s1,iha.1.jD λu h=>h.mono (.inl jo) (.inr jo),ihb.1.jD λu h=>h.mono (.inl jm) (.inr jm)⟩,⟨s2,iha.2.jD λu h=>h.mono (.inl jo) (.inr jo),ihb.2.jD λu h=>h.mono (.inl jm) (.inr jm)⟩⟩;have e1:eH (.bin 7 i e g a b)=(.bin 6 0 0 0 (eH a).2 (eH b).1,.bin 5 0 0 0 (eH a).1 (eH b).2):=by rw[eH,if_neg aI,if_neg aI,if_pos rfl]
  rw[e1]at s1 s2⊢;exact⟨⟨s1,iha.2.jD λu h=>h.mono (.inr jo) (.inl jo),ihb.1.jD λu h=>h.mono (.inl jm) (.inr jm)⟩,⟨s2,iha.1.jD λu h=>h.mono (.inr jo) (.inl jo),ihb.2.jD λu h=>h.mono (.inl jm) (.inr jm)⟩⟩;have e1:eH (.bin 8 i e g a b)=(.bin 5 0 0 0 (.bin 6 0 0 0 (eH a).2 (eH b).1) (.bin 6 0 0 0 (eH a).1 (eH b).2),.bin 6 0 0 0 (.bin 5 0 0 0 (eH a).1 (eH b).2) (.bin 5 0 0 0 (eH a).2 (eH b).1)):=by
   rw[eH,if_neg aI,if_neg aI,if_neg aI,if_pos rfl]
  rw[e1]at s1 s2⊢;have q6:∀x y:Tr,(eH (.bin 6 0 0 0 x y)).2=.bin 5 0 0 0 (eH x).2 (eH y).2:=λx y=>by rw[eH,if_neg aI,if_pos rfl]
  have q5:∀x y:Tr,(eH (.bin 5 0 0 0 x y)).2=.bin 6 0 0 0 (eH x).2 (eH y).2:=λx y=>by rw[eH,if_pos rfl]
  refine⟨⟨s1,⟨.inr ?_,iha.2.jD λu h=>h.mono (.inl (λx hx=>jm (jo hx))) (.inl (λx hx=>jo (jo hx))),ihb.1.jD λu h=>h.mono (.inl (λx hx=>jo (jm hx))) (.inl (λx hx=>jm (jm hx)))⟩,⟨.inr ?_,iha.1.jD λu h=>h.mono (.inl (λx hx=>jm (jo hx))) (.inl (λx hx=>jo (jo hx))),ihb.2.jD λu h=>h.mono (.inl (λx hx=>jo (jm hx))) (.inl (λx hx=>jm (jm hx)))⟩⟩,
   ⟨s2,⟨.inl ?_,iha.1.jD λu h=>h.mono (.inl (λx hx=>jm (jo hx))) (.inl (λx hx=>jo (jo hx))),ihb.2.jD λu h=>h.mono (.inl (λx hx=>jo (jm hx))) (.inl (λx hx=>jm (jm hx)))⟩,⟨.inl ?_,iha.2.jD λu h=>h.mono (.inl (λx hx=>jm (jo hx))) (.inl (λx hx=>jo (jo hx))),ihb.1.jD λu h=>h.mono (.inl (λx hx=>jo (jm hx))) (.inl (λx hx=>jm (jm hx)))⟩⟩⟩;rw[q6,da.2,db.1];exact jo (j9 _);rw[q6,da.1,db.2];exact jm (j9 _);rw[q5,da.1,db.2];exact jo (j9 _);rw[q5,da.2,db.1];exact jm (j9 _)
end
section
variable{l:Int}{b:List NV}{ss:List SD}
theorem iT.JJ(h:iT l b ss):∀(k:Nat) (_hk:k<ss.length),gj ss k=true->qe b (fT b ss) (ff (gj ss) k)=qe b ss k:=by
 intro k
 induction k using Nat.strongRecOn with
 |_ k ih=>
 intro hk hn;obtain⟨hc,he⟩:=qX (b:=b) hk hn;have hT:=h.tr.I4 hc;rw[he]at hT;have hus:=h.sub k hk;have ihn:∀{j:Nat},(j:Int)∈ss[k].fr->∀n,Us b (fT b ss) (ff (gj ss) j) n↔Us b ss j n:=λ{j} hj n=>by
  have h1:=h.pre hk hn hj;unfold Us;rw[ih j h1.2.1 aH h1.1]
 have hon:(kZ b ss k ss[k]).on=ss[k].on:=rfl;have hru:(kZ b ss k ss[k]).eM=ss[k].eM:=rfl;have hse:(kZ b ss k ss[k]).set=qe b ss k:=rfl;have hfr:(kZ b ss k ss[k]).fr=ss[k].fr.map (λj=>((ff (gj ss) j.toNat:Nat):Int)):=rfl;apply NX;intro n;show Us b (fT b ss) (ff (gj ss) k) n↔Us b ss k n;cases h.I4 hk with
 |yP o h1 h2 h3 h4 h5 h6 h7=>
  rw[h7];cases hT with
  |yP o' g1 g2 g3 g4 g5 g6 g7=>rw[g7];rw[hon]at g3;omega
  |neg o' e' g1 g2 g3 g4 g5 g6 g7 g8 g9 g10 g11 g12=>
   rw[hon]at g3;have:o'=o:=aH;subst this;exact absurd h6 g6
  |and|or|cut|t|k|d=>simp_all<;>omega
 |neg o e h1 h2 h3 h4 h5 h6 h7 h8 h9 h10 h11 h12=>
  rw[h12];cases hT with
  |yP o' g1 g2 g3 g4 g5 g6 g7=>
   rw[hon]at g3;have:o'=o:=aH;subst this;exact absurd g6 h6
  |neg o' e' g1 g2 g3 g4 g5 g6 g7 g8 g9 g10 g11 g12=>
   rw[hon]at g3;have:o'=o:=aH;subst this;rw[g12];omega
  |and|or|cut|t|k|d=>simp_all<;>omega
 |and o j h1 h2 h3 h4 h5 h6 h7 h8 h9 h10=>
  rw[h10];have hm:(j:Int)∈ss[k].fr:=by rw[h3];simp
  rw[h3]at hfr;cases hT with
  |and o' j' g1 g2 g3 g4 g5 g6 g7 g8 g9 g10=>
   rw[hon]at g5;have:o'=o:=aH;subst this;rw[hfr]at g3;simp at g3;rw[g10,<-ihn hm n,show j'=ff (gj ss) j by omega]
  |yP|neg|or|cut|t|k|d=>simp_all<;>omega
 |or o j i h1 h2 h3 h4 h5 h6 h7 h8 h9 h10 h11 h12=>
  rw[h12];have hm:(j:Int)∈ss[k].fr:=by rw[h3];simp
  have hm2:(i:Int)∈ss[k].fr:=by rw[h3];simp
  rw[h3]at hfr;cases hT with
  |or o' j' i' g1 g2 g3 g4 g5 g6 g7 g8 g9 g10 g11 g12=>
   rw[hon]at g6;have:o'=o:=aH;subst this;rw[hfr]at g3;simp at g3;rw[g12,<-ihn hm n,<-ihn hm2 n,show j'=ff (gj ss) j by omega,show i'=ff (gj ss) i by omega]
  |yP|neg|and|cut|t|k|d=>simp_all<;>omega
 |cut o e j i h1 h2 h3 h4 h5 h6 h7 h8 h9 h10 h11 h12 h13=>
  rw[h13];have hm:(j:Int)∈ss[k].fr:=by rw[h2];simp
  have hm2:(i:Int)∈ss[k].fr:=by rw[h2];simp
  rw[h2]at hfr;cases hT with
  |cut o' e' j' i' g1 g2 g3 g4 g5 g6 g7 g8 g9 g10 g11 g12 g13=>
   rw[hon]at g5;have:o'=o:=aH;subst this;have:e'=e:=aH;subst this;rw[hfr]at g2;simp at g2;rw[g13,<-ihn hm n,<-ihn hm2 n,show j'=ff (gj ss) j by omega,show i'=ff (gj ss) i by omega]
  |yP|neg|and|or|t|k|d=>simp_all<;>omega
 |t o j h1 h2 h3 h4 h5 h6 h7 h8 h9 h10 h11=>
  rw[h11];have hm:(j:Int)∈ss[k].fr:=by rw[h4];simp
  rw[h4]at hfr;cases hT with
  |t o' j' g1 g2 g3 g4 g5 g6 g7 g8 g9 g10 g11=>
   rw[hon]at g6;have:o'=o:=aH;subst this;rw[hfr]at g4;simp at g4;rw[g11,<-ihn hm n,show j'=ff (gj ss) j by omega]
  |yP|neg|and|or|cut|k|d=>simp_all<;>omega
 |k o j h1 h2 h3 h4 h5 h6 h7 h8 h9 h10=>
  have hm:(j:Int)∈ss[k].fr:=by rw[h3];simp
  rw[h3]at hfr;cases hT with
  |k o' j' g1 g2 g3 g4 g5 g6 g7 g8 g9 g10=>
   rw[hon]at g5;have:o'=o:=aH;subst this;rw[hfr]at g3;simp at g3;rw[g10,h10,hse,show j'=ff (gj ss) j by omega];refine or_congr (exists_congr λm=>?_) Iff.rfl;rw[ihn hm m];refine and_congr_right λhum=>and_congr_right λhne=>?_;rw[vg hus ((h10 _).2 (.inl ⟨m,hum,hne,rfl⟩))]
  |yP|neg|and|or|cut|t|d=>simp_all<;>omega
 |d j h1 h2 h3 h4 h5 h6 h7 h8=>
  have hm:(j:Int)∈ss[k].fr:=by rw[h4];simp
  rw[h4]at hfr;cases hT with
  |d j' g1 g2 g3 g4 g5 g6 g7 g8=>
   rw[hfr]at g4;simp at g4;rw[g8,h8,hse,hon,show j'=ff (gj ss) j by omega];refine exists_congr λm=>?_;rw[ihn hm m];refine and_congr_right λhum=>?_;rw[vg hus ((h8 _).2 ⟨m,hum,rfl⟩)]
  |yP|neg|and|or|cut|t|k=>simp_all<;>omega
theorem iT.MQ(_h:iT l b ss){k:Nat}(hn:Am ss k):Am (fT b ss) (ff (gj ss) k):=by
 induction hn with
 |@last k e=>
  refine .last ?_;rw[oO,<-e,jw,if_pos (jB.2 (.last e))]
 |@fr k j hk hn hm ih=>
  obtain⟨hc,he⟩:=qX (b:=b) hk (jB.2 hn);refine .fr hc ih ?_;rw[he];exact dU.2 ⟨_,hm,by simp⟩
theorem iT.Gb(h:iT l b ss){q:Nat}(hq:q<(fT b ss).length):gj (fT b ss) q=true:=by
 obtain⟨k,_,h1,h2,_⟩:=tf hq;rw[<-h2];exact jB.2 (h.MQ (jB.1 h1))
theorem iT.again(h:iT l b ss):fT b (fT b ss)=fT b ss:=by
 have hall:=λq hq=>h.Gb (q:=q) hq;have hcnt:∀k,k<=(fT b ss).length->ff (gj (fT b ss)) k=k:=zQ (λj hj=>hall j hj);have hlen:(fT b (fT b ss)).length=(fT b ss).length:=by rw[oO,hcnt _ (dZ _)]
 refine dn hlen (λq h1 h2=>?_);obtain⟨g1,g2⟩:=qX (b:=b) h2 (hall q h2);have e1:(fT b (fT b ss))[q]=kZ b (fT b ss) q (fT b ss)[q]:=by
  rw[<-g2];congr 1;rw[hcnt q (Nat.le_of_lt h2)]
 rw[e1];obtain⟨k,hk,k1,k2,k3⟩:=tf h2;have hu:qe b (fT b ss) q=qe b ss k:=by rw[<-k2];exact h.JJ k hk k1
 have hfr:∀f∈(fT b ss)[q].fr,0<=f/\f<q:=λf hf=>(h.tr.nR q h2).pM hf;have hmap:(fT b ss)[q].fr.map (λj=>((ff (gj (fT b ss)) j.toNat:Nat):Int))=(fT b ss)[q].fr:=by
  have:∀f∈(fT b ss)[q].fr,((ff (gj (fT b ss)) f.toNat:Nat):Int)=f:=λf hf=>by
   have:=hfr f hf;rw[hcnt _ aH];omega
  rw[cK this];simp
 unfold kZ;rw[hmap,hu,k3];unfold kZ;dsimp only
 congr 1
 by_cases hc:ss[k].eM=1/\(nd b ss[k].on).op=2;rw[if_pos hc,if_pos hc];rw[if_neg hc,if_neg hc]
theorem iT.Bn(h:iT l b ss):∃(h1:(fT b ss).length - 1<(fT b ss).length) (h2:ss.length - 1<ss.length),(fT b ss)[(fT b ss).length - 1]=kZ b ss (ss.length - 1) ss[ss.length - 1]/\gj ss (ss.length - 1)=true:=by
 have hp:=h.pos;have hlast:gj ss (ss.length - 1)=true:=jB.2 (.last aH);have hl:ss.length - 1<ss.length:=aH;obtain⟨h1,h2⟩:=qX (b:=b) hl hlast;have e:(fT b ss).length=ff (gj ss) (ss.length - 1)+1:=by
  rw[oO]
  conv=>lhs;rw[show ss.length=(ss.length - 1)+1 by omega]
  rw[jw,if_pos hlast]
 refine⟨aH,hl,?_,hlast⟩;rw[<-h2];congr 1;omega
def yQ:Tr->Bool
 |.leaf op _ _ _=>op==1
 |.un op _ _ _ a=>if op=4 then !yQ a else yQ a
 |.bin op _ _ _ a c=>if op=5 then yQ a && yQ c else yQ a||yQ c
theorem uS:∀{t:Tr},qV t->t.ok->yQ (eH t).2=!yQ t
 |.leaf op i e g,h,hok=>by
  have h1:op<=3:=h;have h2:=hok.1.1;rw[eH];dsimp only;rcases(by omega:op=1\/op=2\/op=3)with rfl|rfl|rfl;rfl;rfl;rfl
 |.un op i e g a,h,hok=>by
  rcases h with⟨rfl,j,e',g',rfl⟩|⟨h1,h2⟩;rfl;have ih:=uS h2 hok.2.2.2.2;rcases h1 with rfl|rfl;rw[eH,if_neg aI,if_pos rfl];exact ih;rw[eH,if_neg aI,if_neg aI,if_pos rfl];exact ih
 |.bin op i e g a c,h,hok=>by
  have iha:=uS h.2.1 hok.2.2.2.1;have ihc:=uS h.2.2 hok.2.2.2.2;rcases h.1 with rfl|rfl;rw[eH,if_pos rfl];show(if (6:Int)=5 then _ else _)=!(if (5:Int)=5 then _ else _);rw[if_neg aI,if_pos rfl,iha,ihc];cases yQ a<;>cases yQ c<;>rfl
  rw[eH,if_neg aI,if_pos rfl];show(if (5:Int)=5 then _ else _)=!(if (6:Int)=5 then _ else _);rw[if_pos rfl,if_neg aI,iha,ihc];cases yQ a<;>cases yQ c<;>rfl
theorem eX.node(h:eX b){i:Nat}(hi:i<b.length):((nd b i).op<=3/\eA b i=.leaf (nd b i).op (nd b i).i (nd b i).e (nd b i).g)\/(((nd b i).op=4\/(nd b i).op=9\/(nd b i).op=10)/\eA b i=.un (nd b i).op (nd b i).i (nd b i).e (nd b i).g (eA b (nd b i).x.toNat))\/(((nd b i).op=5\/(nd b i).op=6)/\eA b i=.bin (nd b i).op (nd b i).i (nd b i).e (nd b i).g (eA b (nd b i).x.toNat) (eA b (nd b i).y.toNat)):=by
 rw[jf hi];have hO:=(eO.1 h.oe).nodes;have hn:=h.MM _ (dq hi);unfold mF at hn;have hX:iX b[i].op=true↔4<=b[i].op:=by
  unfold iX;simp;omega
 have hY:ij b[i].op=true↔b[i].op=5\/b[i].op=6:=by
  unfold ij;simp;omega
 rcases iK hi hO with⟨h1,h2⟩|⟨h1,h2,h3⟩|⟨h1,h2⟩;refine .inl ⟨?_,h2⟩;have:¬4<=b[i].op:=λe=>by rw[hX.2 e]at h1;cases h1
 omega;refine .inr (.inl ⟨?_,h3⟩);have:=hX.1 h1;have:¬(b[i].op=5\/b[i].op=6):=λe=>by rw[hY.2 e]at h2;cases h2
 omega;exact .inr (.inr ⟨hY.1 h1,h2⟩)
theorem eX.ok(h:eX b){i:Nat}(hi:i<b.length):(eA b i).ok:=(eO.1 h.oe).nodes.tree i hi
theorem eX.nf(h:eX b):∀(i:Nat),i<b.length->qV (eA b i):=by
 intro i
 induction i using Nat.strongRecOn with
 |_ i ih=>
 intro hi;rcases h.node hi with⟨h1,h2⟩|⟨h1,h2⟩|⟨h1,h2⟩;rw[h2];exact h1;have hx:=h.x hi aH;rw[h2];by_cases h4:(nd b i).op=4;have hn:=h.MM _ (dq hi);unfold mF at hn;rw[<-jf hi]at hn;have h3:(nd b (nd b i).x).op=3:=aH;obtain⟨k,hk⟩:∃k:Nat,(nd b i).x=k:=⟨(nd b i).x.toNat,aH⟩;rw[hk]at h3⊢;have hkl:k<b.length:=aH;rcases h.node hkl with⟨g1,g2⟩|⟨g1,g2⟩|⟨g1,g2⟩;rw[c7,g2,h3];exact .inl ⟨h4,_,_,_,rfl⟩;omega;omega;exact .inr ⟨aH,ih _ aH aH⟩;have hx:=h.x hi aH;have hy:=h.y hi h1;rw[h2];exact⟨h1,ih _ aH aH,ih _ aH aH⟩
theorem eX.fit(h:eX b){i:Nat}(hi:i<b.length):Fit (eY (eA b i))/\Fit (eA b i):=by
 have h1:=tP (eO.1 h.oe).nodes.ord hi;have h2:=h.len;have h3:(gv (eY (eA b i))).length=(gv (eA b i)).length+1:=yD;unfold Fit;omega
theorem eX.Fu(h:eX b){i:Nat}(hi:i<b.length):yQ (jv (eA b i))=!yQ (eA b i):=by
 rw[tq (h.fit hi).1];exact uS (h.nf i hi) (h.ok hi)
theorem iT.AV(h:iT l b ss):∀(k:Nat),k<ss.length->∃n,Us b ss k n/\yQ (eA b n)=false:=by
 have hb:=h.base;intro k
 induction k using Nat.strongRecOn with
 |_ k ih=>
 intro hk;have hsrc:∀{j:Nat} {s:eF} {ag:Int} {m:Nat},j<ss.length->Us b ss j m->yQ (eA b m)=false->yQ (eA b (iR b s ag m))=false:=λ{j s ag m} hj hm he=>by
  rcases je (b:=b) (s:=s) (ag:=ag) (n:=m)with⟨i,h1,h2,h3,h4,h5,h6,_⟩|⟨h1,_⟩;rw[h1];rcases hb.node h2 with⟨g1,g2⟩|⟨g1,g2⟩|⟨g1,g2⟩;omega;rw[g2,h6];show(if _ then _ else _)=_;rw[if_neg aH];exact he;omega;rw[h1];exact he
 cases h.I4 hk with
 |yP o h1 h2 h3 h4 h5 h6 h7=>
  refine⟨o,(h7 o).2 rfl,?_⟩;rcases hb.node h4 with⟨g1,g2⟩|⟨g1,g2⟩|⟨g1,g2⟩;rw[g2,h6];rfl;omega;omega
 |neg o e h1 h2 h3 h4 h5 h6 h7 h8 h9 h10 h11 h12=>
  cases hv:yQ (eA b o)with
  |false=>exact⟨o,(h12 o).2 (.inl rfl),hv⟩
  |true=>exact⟨e,(h12 e).2 (.inr rfl),by rw[h11,hb.Fu h4,hv];rfl⟩
 |and o j h1 h2 h3 h4 h5 h6 h7 h8 h9 h10=>
  obtain⟨n,hn,hv⟩:=ih j h4 aH;have hx:=hb.x h6 aH;have hy:=hb.y h6 aH;by_cases c1:(n:Int)=(nd b o).x\/(n:Int)=(nd b o).y;refine⟨o,(h10 o).2 (.inr rfl),?_⟩;rcases hb.node h6 with⟨g1,g2⟩|⟨g1,g2⟩|⟨g1,g2⟩;omega;omega;rw[g2,h8];show(if (5:Int)=5 then _ else _)=_;rw[if_pos rfl];rcases c1 with c1|c1;rw[<-c1,c7,hv];rfl;rw[<-c1,c7,hv,Bool.and_false];exact⟨n,(h10 n).2 (.inl ⟨hn,λe=>c1 (.inl e),λe=>c1 (.inr e)⟩),hv⟩
 |or o j i h1 h2 h3 h4 h5 h6 h7 h8 h9 h10 h11 h12=>
  obtain⟨n,hn,hv⟩:=ih j h4 aH;obtain⟨m,hm,hw⟩:=ih i h5 aH;by_cases c1:(n:Int)=(nd b o).x;by_cases c2:(m:Int)=(nd b o).y;refine⟨o,(h12 o).2 (.inr (.inr rfl)),?_⟩;rcases hb.node h7 with⟨g1,g2⟩|⟨g1,g2⟩|⟨g1,g2⟩;omega;omega;rw[g2,h9];show(if (6:Int)=5 then _ else _)=_;rw[if_neg aI,<-c1,<-c2,c7,c7,hv,hw];rfl;exact⟨m,(h12 m).2 (.inr (.inl ⟨hm,c2⟩)),hw⟩;exact⟨n,(h12 n).2 (.inl ⟨hn,c1⟩),hv⟩
 |cut o e j i h1 h2 h3 h4 h5 h6 h7 h8 h9 h10 h11 h12 h13=>
  obtain⟨n,hn,hv⟩:=ih j h3 aH;obtain⟨m,hm,hw⟩:=ih i h4 aH;by_cases c1:n=o;by_cases c2:m=e;subst c1 c2;rw[h10,hb.Fu h6,hv]at hw;cases hw;exact⟨m,(h13 m).2 (.inr ⟨hm,c2⟩),hw⟩;exact⟨n,(h13 n).2 (.inl ⟨hn,c1⟩),hv⟩
 |t o j h1 h2 h3 h4 h5 h6 h7 h8 h9 h10 h11=>
  obtain⟨n,hn,hv⟩:=ih j h5 aH;by_cases c1:(n:Int)=(nd b o).x;refine⟨o,(h11 o).2 (.inr rfl),?_⟩;rcases hb.node h7 with⟨g1,g2⟩|⟨g1,g2⟩|⟨g1,g2⟩;omega;rw[g2,h9,<-c1,c7];show(if (9:Int)=4 then _ else _)=_;rw[if_neg aI];exact hv;omega;exact⟨n,(h11 n).2 (.inl ⟨hn,c1⟩),hv⟩
 |k o j h1 h2 h3 h4 h5 h6 h7 h8 h9 h10=>
  obtain⟨n,hn,hv⟩:=ih j h4 aH;by_cases c1:(n:Int)=(nd b o).x;refine⟨o,(h10 o).2 (.inr rfl),?_⟩;rcases hb.node h6 with⟨g1,g2⟩|⟨g1,g2⟩|⟨g1,g2⟩;omega;rw[g2,h8,<-c1,c7];show(if (10:Int)=4 then _ else _)=_;rw[if_neg aI];exact hv;omega;exact⟨_,(h10 _).2 (.inl ⟨n,hn,c1,rfl⟩),hsrc (by omega:j<ss.length) hn hv⟩
 |d j h1 h2 h3 h4 h5 h6 h7 h8=>
  obtain⟨n,hn,hv⟩:=ih j h5 aH;exact⟨_,(h8 _).2 ⟨n,hn,rfl⟩,hsrc (by omega:j<ss.length) hn hv⟩
end
section
variable{last:aq}{full:eF}
def ic(b:List NV)(s:eF):Tr:=eY (pe ((jd s).map (eA b)))
section
variable(T:Tr->Prop)
noncomputable def yA(a:Int)(h:Tr):List Tr->List Tr->Nat->Sg->Nat×Sg
 |_,[],r,σ=>(r,σ)
 |ds,t::ts,r,σ=>
  let k:=kW T a t (gQ ts h) σ
  let d:=fJ T (gQ ((ds++[t]).map (eT a)) (eT a (gQ ts h))) [r,k.1] k.2
  yA a h (ds++[t]) ts d.1 d.2
noncomputable def qH(a:Int)(ts:List Tr)(h:Tr)(line:Nat)(σ:Sg):Nat×Sg:=
 let f:=fJ T (gQ ts h) [line] σ
 let r:=gz T (eT a (gQ ts h)) 11 f.1 0 a f.2
 yA T a h [] ts r.1 r.2
noncomputable def jh(b:List NV)(full:eF)(a:Int):aq->Sg->aq×Sg
 |[],σ=>([],σ)
 |n::ns,σ=>if iR b full a n=n then((pr T a (eA b n) σ).1::(jh b full a ns (pr T a (eA b n) σ).2).1,(jh b full a ns (pr T a (eA b n) σ).2).2)else jh b full a ns σ
noncomputable def vG(b:List NV)(goal:Tr)(full:eF)(a:Int)(ns:aq)(tg:Nat)(own:aq)(isK:Bool)(line:Nat)(σ:Sg):Nat×Sg:=
 let c:=qH T a (ns.map (eA b)) (eY (eA b tg)) line σ
 let d:=jh T b full a own c.2
 let e:=if isK=true then jJ T a (eA b tg) d.2 else gz T (fF (eT a (eA b tg)) (eY (eT a (eY (eA b tg))))) 6 0 0 0 d.2
 fJ T goal (c.1::(d.1++[e.1])) e.2
noncomputable def fO(b:List NV)(tl:List SD)(full:eF)(x:SD)(last:aq)(σ:Sg):Nat×Sg:=
 let goal:=ic b x.set
 let p0:=last.getD (x.fr.getD 0 0).toNat 0
 let p1:=last.getD (x.fr.getD 1 0).toNat 0
 if x.eM=1 then(if (nd b x.on).op=2 then fJ T goal [] σ else fJ T goal [(fg T false (tA b x.on) σ).1] (fg T false (tA b x.on) σ).2)
 else if x.eM=2 then fJ T goal [p0] σ
 else if x.eM=3 then fJ T goal [p0,p1] σ
 else if x.eM=4 then fJ T goal [(fg T true (tA b x.on) σ).1,p0,p1] (fg T true (tA b x.on) σ).2
 else if x.eM=5 then fJ T goal [(gz T (fF (tA b x.on) (tA b (nd b x.on).x)) 3 0 0 0 σ).1,p0] (gz T (fF (tA b x.on) (tA b (nd b x.on).x)) 3 0 0 0 σ).2
 else if x.eM=6 then vG T b goal full (nd b x.on).i (jd (fN tl (x.fr.getD 0 0) &&& ~~~ bW (nd b x.on).x)) (nd b x.on).x.toNat (jd (fN tl (x.fr.getD 0 0) &&& ~~~ bW (nd b x.on).x)) true p0 σ
 else vG T b goal full x.on (jd (fN tl (x.fr.getD 0 0))).dropLast ((jd (fN tl (x.fr.getD 0 0))).getLastD 0) (jd (fN tl (x.fr.getD 0 0))) false p0 σ
noncomputable def fz(b:List NV)(tl:List SD)(fl:List eF):Nat->aq×Sg
 |0=>([],⟨[],false⟩)
 |q+1=>match tl[q]? with
  |some x=>((fz b tl fl q).1++[(fO T b tl (fl.getD q 0#64) x (fz b tl fl q).1 (fz b tl fl q).2).1],(fO T b tl (fl.getD q 0#64) x (fz b tl fl q).1 (fz b tl fl q).2).2)
  |none=>fz b tl fl q
end
noncomputable def gJ(ss:List SD):Nat->List eF
 |0=>[]
 |k+1=>match ss[k]? with
  |some x=>if gj ss k=true then gJ ss k++[x.set]else gJ ss k
  |none=>gJ ss k
noncomputable def kC(T:Tr->Prop)(b:List NV)(ss:List SD):Nat×Sg:=
 let tl:=fT b ss
 let p:=fz T b tl (gJ ss ss.length) tl.length
 let ln:=p.1.getD (tl.length - 1) 0
 if fN tl ((tl.length - 1:Nat):Int)=fN ss ((ss.length - 1:Nat):Int)then(ln,p.2)else fJ T (ic b (fN ss ((ss.length - 1:Nat):Int))) [ln] p.2
section
variable{l:Int}{b:List NV}{ss:List SD}{σ:Sg}{T:Tr->Prop}
theorem Ft{v:Tr->Bool}:∀{ts:List Tr},gA v (pe ts)=true↔∀u∈ts,gA v u=true
 |[]=>⟨λ_ _ h=>(by cases h),λ_=>rfl⟩
 |t::ts=>by
  have key:∀(us:List Tr) (a:Tr),gA v (us.foldl (λa c=>.bin 5 0 0 0 a c) a)=true↔gA v a=true/\∀u∈us,gA v u=true:=by
   intro us
   induction us with
   |nil=>intro a;simp
   |cons u us ih=>
    intro a;rw[List.foldl_cons,ih,show gA v (.bin 5 0 0 0 a u)=(gA v a && gA v u)from rfl,di];simp only[dS,forall_eq_or_imp,and_assoc]
  rw[show pe (t::ts)=ts.foldl (λa c=>.bin 5 0 0 0 a c) t from rfl,key];simp
theorem kl{v:Tr->Bool}{s:eF}:gA v (ic b s)=true↔¬∀n,s.getLsbD n=true->gA v (eA b n)=true:=by
 unfold ic;rw[wG,c6];constructor;intro h hall;have:gA v (pe ((jd s).map (eA b)))=true:=Ft.2 (λu hu=>by
  obtain⟨n,hn,rfl⟩:=dU.1 hu;exact hall n (gH.1 hn));rw[this]at h;cases h;intro h;cases e:gA v (pe ((jd s).map (eA b)))with
 |false=>rfl
 |true=>exact absurd (λn hn=>Ft.1 e _ (cM (gH.2 hn))) h
theorem Cg:∀{ts:List Tr},(∀u∈ts,ki u)->ki (pe ts)
 |[],_=>⟨⟨aI,rfl,aI⟩,.inl aI⟩
 |t::ts,h=>by
  have key:∀(us:List Tr) (a:Tr),ki a->(∀u∈us,ki u)->ki (us.foldl (λa c=>.bin 5 0 0 0 a c) a):=by
   intro us
   induction us with
   |nil=>intro a ha _;exact ha
   |cons u us ih=>intro a ha hu;exact ih _ (ha.ad (hu u aF)) (λw hw=>hu w (cy _ hw))
  exact key ts t (h t aF) (λu hu=>h u (cy _ hu))
theorem eX.fr(h:eX b){n:Nat}(hn:n<b.length):ki (eA b n):=(h.nf n hn).fr (h.ok hn)
theorem rX(h:eX b){s:eF}(hs:iA b s):ki (ic b s):=(Cg (λu hu=>by
 obtain⟨n,hn,rfl⟩:=dU.1 hu;exact h.fr (hs n (gH.1 hn)))).nt
theorem Cl{a:Int}{h:Tr}:∀{ts ds:List Tr} {r:Nat} {σ:Sg},σ.Le (yA T a h ds ts r σ).2
 |[],_,_,σ=>Sg.Le.refl σ
 |_t::ts,_ds,_r,_σ=>zu.trans (iC.trans (Cl (ts:=ts)))
theorem Iv{a:Int}{h:Tr}{ts:List Tr}{n:Nat}:σ.Le (qH T a ts h n σ).2:=iC.trans (iE.trans Cl)
theorem zX{a:Int}{h:Tr}:∀{ts ds:List Tr} {r:Nat} {σ:Sg},iU σ r (gQ (ds.map (eT a)) (eT a (gQ ts h)))->iU (yA T a h ds ts r σ).2 (yA T a h ds ts r σ).1 (gQ ((ds++ts).map (eT a)) (eT a h))
 |[],ds,r,σ,hr=>by rw[dC];exact hr
 |t::ts,ds,r,σ,_=>by
  rw[show ds++t::ts=(ds++[t])++ts by simp];exact zX jO
theorem zW{a:Int}{h:Tr}{ts:List Tr}{n:Nat}:iU (qH T a ts h n σ).2 (qH T a ts h n σ).1 (gQ (ts.map (eT a)) (eT a h)):=zX (ds:=[]) gm
theorem oD{full:eF}{a:Int}:∀{ns:aq} {σ:Sg},σ.Le (jh T b full a ns σ).2
 |[],σ=>Sg.Le.refl σ
 |n::ns,σ=>by
  rw[jh];split;exact yB.trans oD;exact oD
theorem tM{full:eF}{a:Int}:∀{ns:aq} {σ:Sg} (m:Nat),m∈(jh T b full a ns σ).1->∃n∈ns,iR b full a n=n/\iU (jh T b full a ns σ).2 m (fF (eA b n) (eT a (eA b n)))
 |[],σ,m,h=>by cases h
 |n::ns,σ,m,h=>by
  rw[jh]at h⊢;by_cases e:iR b full a n=n;rw[if_pos e]at h⊢;rcases dS.1 h with rfl|h;exact⟨n,aF,e,wc.le oD⟩;obtain⟨k,h1,h2,h3⟩:=tM m h;exact⟨k,cy _ h1,h2,h3⟩;rw[if_neg e]at h⊢;obtain⟨k,h1,h2,h3⟩:=tM m h;exact⟨k,cy _ h1,h2,h3⟩
theorem tN{full:eF}{a:Int}:∀{ns:aq} {σ:Sg} {n:Nat},n∈ns->iR b full a n=n->∃m∈(jh T b full a ns σ).1,iU (jh T b full a ns σ).2 m (fF (eA b n) (eT a (eA b n)))
 |[],_,_,h,_=>by cases h
 |k::ns,σ,n,h,he=>by
  rw[jh];rcases dS.1 h with rfl|h;rw[if_pos he];exact⟨_,aF,wc.le oD⟩;split;obtain⟨m,h1,h2⟩:=tN (σ:=(pr T a (eA b k) σ).2) h he;exact⟨m,cy _ h1,h2⟩;exact tN h he
theorem BS{goal:Tr} {a:Int}{ns:aq}{tg:Nat}{own:aq}{isK:Bool}{line:Nat}:σ.Le (vG T b goal full a ns tg own isK line σ).2:=by
 have h1:=Iv (T:=T) (σ:=σ) (a:=a) (h:=eY (eA b tg)) (ts:=ns.map (eA b)) (n:=line);have h2:=oD (T:=T) (b:=b) (full:=full) (a:=a) (ns:=own) (σ:=(qH T a (ns.map (eA b)) (eY (eA b tg)) line σ).2);cases isK with
 |true=>exact(h1.trans h2).trans (nL.trans iC)
 |false=>exact(h1.trans h2).trans (iE.trans iC)
theorem yX{tl:List SD} {x:SD} :σ.Le (fO T b tl full x last σ).2:=by
 unfold fO;dsimp only
 repeat' split
 exact iC;exact ml.trans iC;exact iC;exact iC;exact ml.trans iC;exact iE.trans iC;exact BS;exact BS
theorem CM{tl:List SD} {x:SD} :iU (fO T b tl full x last σ).2 (fO T b tl full x last σ).1 (ic b x.set):=by
 unfold fO;dsimp only
 repeat' split
 all_goals exact jO
def um(σ:Sg)(n:Nat):Prop:=σ.bad=false->n+1=σ.ls.length
theorem xA{t:Tr}{r g:Int}{a c:Nat}:um (gz T t r a c g σ).2 (gz T t r a c g σ).1:=by
 unfold gz;split;intro e;cases e;intro _;simp
theorem xd{g:Tr}:∀{ps:List (Nat×Tr)} {n:Nat} {σ:Sg},um σ n->um (pk T g ps n σ).2 (pk T g ps n σ).1
 |[],_,_,h=>h
 |_::ps,_,_,_=>xd (ps:=ps) xA
theorem xu{g:Tr}{fr:aq}:um (fJ T g fr σ).2 (fJ T g fr σ).1:=by
 unfold fJ;split;rename_i h;intro e;rw[h]at e;cases e;exact xd xA
theorem Au{tl:List SD} {x:SD} :um (fO T b tl full x last σ).2 (fO T b tl full x last σ).1:=by
 unfold fO;dsimp only
 repeat' split
 all_goals exact xu
end
end
section
variable{l:Int}{b:List NV}{ss:List SD}{σ:Sg}
theorem Ck{a:Int}{h:Tr}(hi:0<=a/\a<4)(hh:ki h):∀{ts ds:List Tr} {r:Nat} {σ:Sg},(∀u∈ts,ki u)->(∀u∈ds,ki u)->Good l σ->iU σ r (gQ (ds.map (eT a)) (eT a (gQ ts h)))->yN l (λT=>yA T a h ds ts r) σ
 |[],_,_,σ,_,_,hg,_=>⟨rfl,hg⟩
 |t::ts,ds,r,σ,hts,hds,hg,hr=>by
  have ht:=hts t aF;have hts':∀u∈ts,ki u:=λu hu=>hts u (cy _ hu);have hc:=ki.ch hts' hh;have h1:=Ja (i:=a) (p:=t) (q:=gQ ts h) hi hg ht hc;have k1:iU (kW eC a t (gQ ts h) σ).2 (kW eC a t (gQ ts h) σ).1 (fF (eT a (fF t (gQ ts h))) (fF (eT a t) (eT a (gQ ts h)))):=gm;have kr:=hr.le (zu (T:=eC) (i:=a) (p:=t) (q:=gQ ts h));have hds':∀u∈ds++[t],ki u:=λu hu=>by
   rcases dG.1 hu with hu|hu;exact hds u hu;rw[cS.1 hu];exact ht
  have h2:=jF (g:=gQ ((ds++[t]).map (eT a)) (eT a (gQ ts h))) (from_:=[r,(kW eC a t (gQ ts h) σ).1]) h1.jl (ki.ch (λu hu=>by
    obtain⟨w,hw,rfl⟩:=dU.1 hu;exact(hds' w hw).kw hi) (hc.kw hi)) (λhb n hn=>by
   simp only[dS,dv,ep]at hn;rcases hn with rfl|rfl;exact(kr hb).1;exact(k1 hb).1) (λhb _ v hv=>by
   have e1:=hv _ aF;have e2:=hv _ (cy _ aF);rw[(kr hb).2,A0]at e1;rw[(k1 hb).2,uz,uz]at e2;rw[A0];intro hall;have e3:gA v (eT a (fF t (gQ ts h)))=true:=e1 (λu hu=>hall u (by rw[dF];exact cx _ hu));have e4:gA v (eT a t)=true:=hall _ (by rw[dF];exact bX _ (cS.2 rfl));rw[e3,e4]at e2;simpa using e2);have h3:=Ck hi hh (ts:=ts) (ds:=ds++[t]) hts' hds' h2.jl jO;have s1:=h1.same;have s2:=h2.same;have s3:=h3.same;constructor;simp only[yA];rw[<-s1,<-s2];exact s3;exact h3.jl
theorem Iu{a:Int}{h t0:Tr}{ts:List Tr}{n:Nat}(hi:0<=a/\a<4)(hh:ki h)(hts:∀u∈ts,ki u)(hg:Good l σ)(hn:iU σ n t0)(he:∀v,gA v t0=true->gA v (gQ ts h)=true):yN l (λT=>qH T a ts h n) σ:=by
 have hc:=ki.ch hts hh;have h1:=jF (g:=gQ ts h) (from_:=[n]) hg hc (λhb m hm=>by rw[cS.1 hm];exact(hn hb).1) (λhb _ v hv=>by
  have:=hv n (cS.2 rfl);rw[(hn hb).2]at this;exact he v this);have h2:=lR (t:=eT a (gQ ts h)) (r:=11) (a:=(fJ eC (gQ ts h) [n] σ).1) (b:=0) (g:=a) h1.jl (λ_ _=>⟨hc.kw hi,KP l aH,.inr (.inr (.inr ⟨rfl,rfl,hi,_,jO,rfl⟩))⟩);have h3:=Ck (ts:=ts) (ds:=[]) hi hh hts (λu hu=>by cases hu) h2.jl gm;have s1:=h1.same;have s2:=h2.same;have s3:=h3.same;constructor;simp only[qH];rw[<-s1,<-s2];exact s3;exact h3.jl
structure Qv (l:Int) (P:(Tr->Prop)->Sg->aq×Sg) (σ:Sg):Prop where
  same:P eC σ=P pZ σ
  jl:Good l (P eC σ).2
theorem wb{full:eF}{a:Int}(hi:0<=a/\a<4):∀{ns:aq} {σ:Sg},Good l σ->(∀n∈ns,iR b full a n=n->∃z,ki z/\((eA b n=eT a z/\gO l 4=true)\/(eA b n=oq a z/\gO l 5=true)))->Qv l (λT=>jh T b full a ns) σ
 |[],σ,hg,_=>⟨rfl,hg⟩
 |n::ns,σ,hg,h=>by
  have hns:=λk hk=>h k (cy _ hk);by_cases e:iR b full a n=n;obtain⟨z,hz,hf⟩:=h n aF e;have h1:=Ix (i:=a) (f:=eA b n) (z:=z) hi hz hf hg;have h2:=wb hi (ns:=ns) h1.jl hns;have s1:=h1.same;have s2:=h2.same;constructor;simp only[jh];rw[if_pos e,if_pos e,<-s1,s2];simp only[jh];rw[if_pos e];exact h2.jl;have h2:=wb hi (ns:=ns) hg hns;constructor;simp only[jh];rw[if_neg e,if_neg e];exact h2.same;simp only[jh];rw[if_neg e];exact h2.jl
theorem BR{goal t0:Tr}{full:eF}{a:Int}{ns own:aq}{tg line:Nat}{isK:Bool}(hb:eX b)(hi:0<=a/\a<4)(hgl:ki goal)(hns:∀n∈ns,n<b.length)(htg:tg<b.length)(h6:isK=false->gO l 6=true)(hg:Good l σ)(hn:iU σ line t0)
  (he:∀v,gA v t0=true->gA v (gQ (ns.map (eA b)) (eY (eA b tg)))=true)
  (hc:∀n∈own,iR b full a n=n->∃z,ki z/\((eA b n=eT a z/\gO l 4=true)\/(eA b n=oq a z/\gO l 5=true)))
  (hlast:∀v,((∀n∈ns,gA v (eT a (eA b n))=true)->gA v (eT a (eY (eA b tg)))=true)->(∀n∈own,iR b full a n=n->gA v (eA b n)=true->gA v (eT a (eA b n))=true)->(if isK=true then gA v (oq a (eA b tg))=true->¬gA v (eT a (eY (eA b tg)))=true else gA v (eT a (eA b tg))=true->¬gA v (eT a (eY (eA b tg)))=true)->gA v goal=true):
  yN l (λT=>vG T b goal full a ns tg own isK line) σ:=by
 have ft:=hb.fr htg;have h1:=Iu (ts:=ns.map (eA b)) (h:=eY (eA b tg)) hi ft.nt (λu hu=>by
  obtain⟨n,hn,rfl⟩:=dU.1 hu;exact hb.fr (hns n hn)) hg hn he;have k1:iU _ _ _:=zW (T:=eC) (a:=a) (h:=eY (eA b tg)) (ts:=ns.map (eA b)) (n:=line) (σ:=σ);obtain⟨σ1,e1⟩:∃s,s=qH eC a (ns.map (eA b)) (eY (eA b tg)) line σ:=⟨_,rfl⟩;have g1:Good l σ1.2:=by rw[e1];exact h1.jl
 rw[<-e1]at k1;have h2:=wb (b:=b) (full:=full) hi (ns:=own) g1 hc;obtain⟨σ2,e2⟩:∃s,s=jh eC b full a own σ1.2:=⟨_,rfl⟩;have g2:Good l σ2.2:=by rw[e2];exact h2.jl
 have le2:σ1.2.Le σ2.2:=by rw[e2];exact oD
 obtain⟨P3,hP3⟩:∃P3:(Tr->Prop)->Sg->Nat×Sg,P3=λT s=>if isK=true then jJ T a (eA b tg) s else gz T (fF (eT a (eA b tg)) (eY (eT a (eY (eA b tg))))) 6 0 0 0 s:=⟨_,rfl⟩;obtain⟨t3,ht3⟩:∃t3,t3=if isK=true then vN (oq a (eA b tg)) (eY (eT a (eY (eA b tg))))else fF (eT a (eA b tg)) (eY (eT a (eY (eA b tg)))):=⟨_,rfl⟩;have h3:yN l P3 σ2.2:=by
  rw[hP3];cases hk:isK with
  |true=>exact xR hi g2 ft
  |false=>exact lR g2 (λ_ _=>⟨(ft.kw hi).im (ft.nt.kw hi).nt,h6 hk,.inr (.inl ⟨aI,aI,rfl,rfl,rfl,⟨a,_,rfl⟩⟩)⟩)
 obtain⟨σ3,e3⟩:∃s,s=P3 eC σ2.2:=⟨_,rfl⟩;have g3:Good l σ3.2:=by rw[e3];exact h3.jl
 have le3:σ2.2.Le σ3.2:=by
  rw[e3,hP3];cases isK with
  |true=>exact nL
  |false=>exact iE
 have k3:iU σ3.2 σ3.1 t3:=by
  rw[e3,hP3,ht3];cases isK with
  |true=>exact gm
  |false=>exact gm
 have k1':=k1.le (le2.trans le3);have h4:=jF (g:=goal) (from_:=σ1.1::(σ2.1++[σ3.1])) g3 hgl (λhbd n hn=>by
  simp only[dS,dG,dv,ep]at hn;rcases hn with rfl|hn|rfl;exact(k1' hbd).1;rw[e2]at hn;obtain⟨m,_,_,hm⟩:=tM n hn;rw[<-e2]at hm;exact(hm.le le3 hbd).1;exact(k3 hbd).1) (λhbd _ v hv=>by
  have q1:=hv _ aF;have q3:=hv σ3.1 (cy _ (bX _ (cS.2 rfl)));rw[(k1' hbd).2,A0]at q1;rw[(k3 hbd).2,ht3]at q3;refine hlast v (λhall=>q1 (λu hu=>?_)) (λn hno hsn hvn=>?_) ?_;rw[dT]at hu;obtain⟨n,hn,rfl⟩:=dU.1 hu;exact hall n hn;obtain⟨m,hm,hh⟩:=tN (T:=eC) (b:=b) (full:=full) (a:=a) (ns:=own) (σ:=σ1.2) hno hsn;rw[<-e2]at hm hh;have q2:=hv m (cy _ (cx _ hm));rw[(hh.le le3 hbd).2,uz,hvn]at q2;simpa using q2;cases isK with
  |true=>
   rw[if_pos rfl]at q3⊢;rw[Ik,wG]at q3;intro hp hk;rw[hp,hk]at q3;cases q3
  |false=>
   rw[if_neg aI]at q3⊢;rw[uz,wG]at q3;intro hp hk;rw[hp,hk]at q3;cases q3);have s1:=h1.same;have s2:=h2.same;have s3:=h3.same;have s4:=h4.same;rw[<-e1]at s1;rw[<-e2]at s2;rw[<-e3]at s3;have hsp:∀T s,vG T b goal full a ns tg own isK line s=fJ T goal ((qH T a (ns.map (eA b)) (eY (eA b tg)) line s).1::((jh T b full a own (qH T a (ns.map (eA b)) (eY (eA b tg)) line s).2).1++[(P3 T (jh T b full a own (qH T a (ns.map (eA b)) (eY (eA b tg)) line s).2).2).1])) (P3 T (jh T b full a own (qH T a (ns.map (eA b)) (eY (eA b tg)) line s).2).2).2:=λT s=>by rw[hP3];rfl
 constructor;rw[hsp,hsp,<-s1,<-e1,<-s2,<-e2,<-s3,<-e3];exact s4;rw[hsp,<-e1,<-e2,<-e3];exact h4.jl
end
section
variable{l:Int}{b:List NV}{ss:List SD}{σ:Sg}
theorem OE{l:Int}(h:tF l):gO l 4=true:=by unfold tF at h;unfold gO;rw[if_neg aI,if_pos rfl];exact dQ aH
theorem ON{l:Int}(h:v5 l):gO l 5=true:=by unfold v5 at h;unfold gO;rw[if_neg aI,if_neg aI,if_pos rfl];exact dQ aH
theorem sO(hb:eX b){s:eF}{a:Int}{n:Nat}(hn:(lp l b s a).getLsbD n=true)(he:iR b s a n=n):∃z,ki z/\((eA b n=eT a z/\gO l 4=true)\/(eA b n=oq a z/\gO l 5=true)):=by
 obtain⟨i,h1,h2,h3,h4⟩:=(my hb).1 hn;have hno:¬((nd b i).op=9/\(nd b i).x=n):=λ⟨g1,g2⟩=>by
  rcases je (b:=b) (s:=s) (ag:=a) (n:=n)with⟨j,k1,k2,k3,k4,k5,k6,_⟩|⟨k1,k2⟩;have hj:j=n:=aH;subst hj;have:=hb.x k2 aH;omega;exact k2 i h1 h2 g1 h3 g2
 rcases h4 with h4|⟨h4,h5⟩;exact absurd h4 hno;subst h4;have hok:=hb.ok h1;rcases hb.node h1 with⟨g1,g2⟩|⟨g1,g2⟩|⟨g1,g2⟩;omega;have hx:=hb.x h1 aH;rw[g2]at hok;obtain⟨_,e1,e2⟩:=qN hok aH;refine⟨eA b (nd b n).x.toNat,hb.fr aH,?_⟩;rw[g2,e1,e2,h3];rcases h5 with⟨h5,h6⟩|⟨h5,h6⟩;exact .inl ⟨by rw[h5],OE h6⟩;exact .inr ⟨by rw[h5],ON h6⟩;omega
theorem Ea(hb:eX b){s u:eF}{a:Int}{v:Tr->Bool}{n:Nat}(_hi:0<=a/\a<4)(hall:∀n,u.getLsbD n=true->gA v (eA b n)=true)(hu:u.getLsbD (iR b s a n)=true)(hc:iR b s a n=n->gA v (eA b n)=true->gA v (eT a (eA b n))=true):gA v (eT a (eA b n))=true:=by
 rcases je (b:=b) (s:=s) (ag:=a) (n:=n)with⟨i,h1,h2,h3,h4,h5,h6,_⟩|⟨h1,_⟩;rw[h1]at hu;have:=hall i hu;have hok:=hb.ok h2;rcases hb.node h2 with⟨g1,g2⟩|⟨g1,g2⟩|⟨g1,g2⟩;omega;rw[g2]at hok this;obtain⟨_,e1,e2⟩:=qN hok aH;rw[e1,e2,h4,h5,h6]at this;exact this;omega;rw[h1]at hu;exact hc h1 (hall n hu)
def wu(b:List NV)(tl:List SD)(σ:Sg)(last:aq)(q:Nat):Prop:=∀j,j<q->iU σ (last.getD j 0) (ic b (fN tl (j:Int)))
theorem yv{n:Nat}:∀{xs:aq},n∈xs->n∈xs.dropLast\/n=xs.getLastD 0:=λ{xs} h=>by
 have hne:xs≠[]:=λe=>by rw[e]at h;cases h
 have e:xs.dropLast++[xs.getLast hne]=xs:=List.dropLast_concat_getLast hne;rw[<-e]at h;rcases dG.1 h with h|h;exact .inl h;refine .inr ?_;rw[cS.1 h,List.getLastD_eq_getLast?,List.getLast?_eq_some_getLast hne];rfl
theorem oX{xs:aq}(h:xs≠[]):xs.getLastD 0∈xs:=by
 rw[List.getLastD_eq_getLast?,List.getLast?_eq_some_getLast h];exact List.getLast_mem h
theorem iT.G2(h:iT l b ss){k:Nat}(hk:k<ss.length)(hn:gj ss k=true){last:aq}(hl:wu b (fT b ss) σ last (ff (gj ss) k))(hg:Good l σ):
  yN l (λT=>fO T b (fT b ss) ss[k].set (kZ b ss k ss[k]) last) σ:=by
 have hb:=h.base;have hus:=h.sub k hk;have hin:iA b (qe b ss k):=λn hn=>(h.nR k hk).1 n (hus n hn);have hgl:ki (ic b (qe b ss k)):=rX hb hin;have hsub:∀(j:Nat),(j:Int)∈ss[k].fr->∀m,Us b ss j m->(fN ss j).getLsbD m=true:=λj hj m hm=>by
  have:=(h.pre hk hn hj).2.1;rw[gG aH];exact h.sub j aH m hm
 have hinj:∀(j:Nat),(j:Int)∈ss[k].fr->∀m,Us b ss j m->m<b.length:=λj hj m hm=>by
  have:=(h.pre hk hn hj).2.1;exact(h.nR j aH).1 m (h.sub j aH m hm)
 have hset:∀(j:Nat),(j:Int)∈ss[k].fr->fN (fT b ss) (ff (gj ss) j:Nat)=qe b ss j:=λj hj=>
  uE (by have:=(h.pre hk hn hj).2.1;omega) (h.pre hk hn hj).1;have hline:∀(j:Nat),(j:Int)∈ss[k].fr->iU σ (last.getD (ff (gj ss) j) 0) (ic b (qe b ss j)):=λj hj=>by
  rw[<-hset j hj];exact hl _ (h.pre hk hn hj).2.2
 have hru:(kZ b ss k ss[k]).eM=ss[k].eM:=rfl;have hon:(kZ b ss k ss[k]).on=ss[k].on:=rfl;have hse:(kZ b ss k ss[k]).set=qe b ss k:=rfl;have hfr:(kZ b ss k ss[k]).fr=ss[k].fr.map (λj=>((ff (gj ss) j.toNat:Nat):Int)):=rfl;have ev2:∀{v:Tr->Bool} {o:Nat},o<b.length->(nd b o).op=2->gA v (eA b o)=false:=λ{v o} ho h2=>by
  rcases hb.node ho with⟨g1,g2⟩|⟨g1,g2⟩|⟨g1,g2⟩;rw[g2,h2];rfl;omega;omega
 have ev5:∀{v:Tr->Bool} {o:Nat},o<b.length->(nd b o).op=5->gA v (eA b o)=(gA v (eA b (nd b o).x.toNat) && gA v (eA b (nd b o).y.toNat)):=λ{v o} ho h2=>by
  rcases hb.node ho with⟨g1,g2⟩|⟨g1,g2⟩|⟨g1,g2⟩;omega;omega;rw[g2,h2];rfl
 have ev6:∀{v:Tr->Bool} {o:Nat},o<b.length->(nd b o).op=6->gA v (eA b o)=(gA v (eA b (nd b o).x.toNat)||gA v (eA b (nd b o).y.toNat)):=λ{v o} ho h2=>by
  rcases hb.node ho with⟨g1,g2⟩|⟨g1,g2⟩|⟨g1,g2⟩;omega;omega;rw[g2,h2];rfl
 have evk:∀{o:Nat} {op:Int},op=9\/op=10->o<b.length->(nd b o).op=op->(0<=(nd b o).i/\(nd b o).i<4)/\eA b o=.un op (nd b o).i 0 0 (eA b (nd b o).x.toNat):=λ{o op} h9 ho h2=>by
  have hok:=hb.ok ho;rcases hb.node ho with⟨g1,g2⟩|⟨g1,g2⟩|⟨g1,g2⟩;omega;rw[g2,h2]at hok;obtain⟨e0,e1,e2⟩:=qN hok h9;exact⟨e0,by rw[g2,h2,e1,e2]⟩;omega
 unfold fO;simp only[hru,hon,hse];cases h.I4 hk with
 |yP o h1 h2 h3 h4 h5 h6 h7=>
  simp only[if_pos h1,h3,if_pos h6];exact jF hg hgl (λ_ n hn=>by cases hn) (λ_ _ v _=>kl.2 (λhall=>by
   have:=hall o ((h7 o).2 rfl);rw[ev2 h4 h6]at this;cases this))
 |neg o e h1 h2 h3 h4 h5 h6 h7 h8 h9 h10 h11 h12=>
  simp only[if_pos h1,h3,if_neg h6];have htA:tA b (o:Int)=eA b o:=rfl;have c1:=se (ei:=false) (hb.nf o h4) (hb.ok h4) hg;have c2:iU _ _ (rz false (eA b o)):=jM (T:=eC) (ei:=false) (t:=eA b o) (σ:=σ);have c3:=jF (g:=ic b (qe b ss k)) (from_:=[(fg eC false (eA b o) σ).1]) c1.jl hgl (λhbd n hn=>by rw[cS.1 hn];exact(c2 hbd).1) (λhbd _ v hv=>kl.2 (λhall=>by
   have q:=hv _ (cS.2 rfl);rw[(c2 hbd).2,ue,if_neg aI,hall o ((h12 o).2 (.inl rfl)),<-h11,hall e ((h12 e).2 (.inr rfl))]at q;cases q));have s1:=c1.same;exact⟨by rw[htA,<-s1];exact c3.same,by rw[htA];exact c3.jl⟩
 |and o j h1 h2 h3 h4 h5 h6 h7 h8 h9 h10=>
  have hm:(j:Int)∈ss[k].fr:=by rw[h3];simp
  have e0:(kZ b ss k ss[k]).fr.getD 0 0=((ff (gj ss) j:Nat):Int):=by rw[hfr,h3];rfl
  have hx:=hb.x h6 aH;have hy:=hb.y h6 aH;simp only[h1,show ¬(2:Int)=1 by decide,ej,ew,e0,c7];exact jF hg hgl (λhbd n hn=>by rw[cS.1 hn];exact(hline j hm hbd).1) (λhbd _ v hv=>kl.2 (λhall=>by
   have q:=hv _ (cS.2 rfl);rw[(hline j hm hbd).2,kl]at q;have ho:=hall o ((h10 o).2 (.inr rfl));rw[ev5 h6 h8,di]at ho;refine q (λn hn=>?_);by_cases c1:(n:Int)=(nd b o).x;rw[<-c1]at ho;exact ho.1;by_cases c2:(n:Int)=(nd b o).y;rw[<-c2]at ho;exact ho.2;exact hall n ((h10 n).2 (.inl ⟨hn,c1,c2⟩))))
 |or o j i h1 h2 h3 h4 h5 h6 h7 h8 h9 h10 h11 h12=>
  have hm:(j:Int)∈ss[k].fr:=by rw[h3];simp
  have hm2:(i:Int)∈ss[k].fr:=by rw[h3];simp
  have e0:(kZ b ss k ss[k]).fr.getD 0 0=((ff (gj ss) j:Nat):Int):=by rw[hfr,h3];rfl
  have e1:(kZ b ss k ss[k]).fr.getD 1 0=((ff (gj ss) i:Nat):Int):=by rw[hfr,h3];rfl
  simp only[h1,show ¬(3:Int)=1 by decide,show ¬(3:Int)=2 by decide,ej,ew,e0,e1,c7];exact jF hg hgl (λhbd n hn=>by
   simp only[dS,dv,ep]at hn;rcases hn with rfl|rfl;exact(hline j hm hbd).1;exact(hline i hm2 hbd).1) (λhbd _ v hv=>kl.2 (λhall=>by
   have q1:=hv _ aF;have q2:=hv _ (cy _ aF);rw[(hline j hm hbd).2,kl]at q1;rw[(hline i hm2 hbd).2,kl]at q2;have ho:=hall o ((h12 o).2 (.inr (.inr rfl)));rw[ev6 h7 h9,dB]at ho;rcases ho with ho|ho;refine q1 (λn hn=>?_);by_cases c1:(n:Int)=(nd b o).x;rw[<-c1]at ho;exact ho;exact hall n ((h12 n).2 (.inl ⟨hn,c1⟩));refine q2 (λn hn=>?_);by_cases c1:(n:Int)=(nd b o).y;rw[<-c1]at ho;exact ho;exact hall n ((h12 n).2 (.inr (.inl ⟨hn,c1⟩)))))
 |cut o e j i h1 h2 h3 h4 h5 h6 h7 h8 h9 h10 h11 h12 h13=>
  have hm:(j:Int)∈ss[k].fr:=by rw[h2];simp
  have hm2:(i:Int)∈ss[k].fr:=by rw[h2];simp
  have e0:(kZ b ss k ss[k]).fr.getD 0 0=((ff (gj ss) j:Nat):Int):=by rw[hfr,h2];rfl
  have e1:(kZ b ss k ss[k]).fr.getD 1 0=((ff (gj ss) i:Nat):Int):=by rw[hfr,h2];rfl
  simp only[h1,h5,show ¬(4:Int)=1 by decide,show ¬(4:Int)=2 by decide,show ¬(4:Int)=3 by decide,ej,ew,e0,e1,c7];have htA:tA b (o:Int)=eA b o:=rfl;have c1:=se (ei:=true) (hb.nf o h6) (hb.ok h6) hg;have c2:iU _ _ (rz true (eA b o)):=jM (T:=eC) (ei:=true) (t:=eA b o) (σ:=σ);have lle:σ.Le (fg eC true (eA b o) σ).2:=ml;have c3:=jF (g:=ic b (qe b ss k)) (from_:=[(fg eC true (eA b o) σ).1,last.getD (ff (gj ss) j) 0,last.getD (ff (gj ss) i) 0]) c1.jl hgl (λhbd n hn=>by
   simp only[dS,dv,ep]at hn;rcases hn with rfl|rfl|rfl;exact(c2 hbd).1;exact((hline j hm).le lle hbd).1;exact((hline i hm2).le lle hbd).1) (λhbd _ v hv=>kl.2 (λhall=>by
   have q0:=hv _ aF;have q1:=hv _ (cy _ aF);have q2:=hv _ (cy _ (cy _ aF));rw[(c2 hbd).2,ue,if_pos rfl,<-h10,dB]at q0;rw[((hline j hm).le lle hbd).2,kl]at q1;rw[((hline i hm2).le lle hbd).2,kl]at q2;rcases q0 with q0|q0;refine q1 (λn hn=>?_);by_cases c1:n=o;rw[c1];exact q0;exact hall n ((h13 n).2 (.inl ⟨hn,c1⟩));refine q2 (λn hn=>?_);by_cases c1:n=e;rw[c1];exact q0;exact hall n ((h13 n).2 (.inr ⟨hn,c1⟩))));have s1:=c1.same;exact⟨by rw[htA,<-s1];exact c3.same,by rw[htA];exact c3.jl⟩
 |t o j h1 h2 h3 h4 h5 h6 h7 h8 h9 h10 h11=>
  have hm:(j:Int)∈ss[k].fr:=by rw[h4];simp
  have e0:(kZ b ss k ss[k]).fr.getD 0 0=((ff (gj ss) j:Nat):Int):=by rw[hfr,h4];rfl
  simp only[h1,h6,show ¬(5:Int)=1 by decide,show ¬(5:Int)=2 by decide,show ¬(5:Int)=3 by decide,show ¬(5:Int)=4 by decide,ej,ew,e0,c7];have hx:=hb.x h7 aH;obtain⟨hi,ht⟩:=evk (.inl rfl) h7 h9;have htA:tA b (o:Int)=eA b o:=rfl;have htX:tA b (nd b o).x=eA b (nd b o).x.toNat:=rfl;have fx:ki (eA b (nd b o).x.toNat):=hb.fr aH;have c1:yN l (λT=>gz T (fF (tA b (o:Int)) (tA b (nd b o).x)) 3 0 0 0) σ:=lR hg (λ_ _=>⟨by rw[htA,htX];exact(hb.fr h7).im fx,by unfold gO;rw[if_pos rfl];exact dQ h3,.inr (.inl ⟨aI,aI,rfl,rfl,rfl,⟨(nd b o).i,eA b (nd b o).x.toNat,by rw[htA,htX,ht]⟩⟩)⟩);have c2:iU _ _ (fF (tA b (o:Int)) (tA b (nd b o).x)):=gm (T:=eC) (t:=fF (tA b (o:Int)) (tA b (nd b o).x)) (r:=3) (a:=0) (b:=0) (gg:=0) (σ:=σ);have lle:σ.Le (gz eC (fF (tA b (o:Int)) (tA b (nd b o).x)) 3 0 0 0 σ).2:=iE;have c3:=jF (g:=ic b (qe b ss k)) (from_:=[(gz eC (fF (tA b (o:Int)) (tA b (nd b o).x)) 3 0 0 0 σ).1,last.getD (ff (gj ss) j) 0]) c1.jl hgl (λhbd n hn=>by
   simp only[dS,dv,ep]at hn;rcases hn with rfl|rfl;exact(c2 hbd).1;exact((hline j hm).le lle hbd).1) (λhbd _ v hv=>kl.2 (λhall=>by
   have q0:=hv _ aF;have q1:=hv _ (cy _ aF);rw[(c2 hbd).2,uz,htA,hall o ((h11 o).2 (.inr rfl)),htX]at q0;rw[((hline j hm).le lle hbd).2,kl]at q1;refine q1 (λn hn=>?_);by_cases c1:(n:Int)=(nd b o).x;rw[<-c1]at q0;simpa using q0;exact hall n ((h11 n).2 (.inl ⟨hn,c1⟩))));have s1:=c1.same;exact⟨by rw[<-s1];exact c3.same,c3.jl⟩
 |k o j h1 h2 h3 h4 h5 h6 h7 h8 h9 h10=>
  have hm:(j:Int)∈ss[k].fr:=by rw[h3];simp
  have e0:(kZ b ss k ss[k]).fr.getD 0 0=((ff (gj ss) j:Nat):Int):=by rw[hfr,h3];rfl
  simp only[h1,h5,show ¬(6:Int)=1 by decide,show ¬(6:Int)=2 by decide,show ¬(6:Int)=3 by decide,show ¬(6:Int)=4 by decide,show ¬(6:Int)=5 by decide,ej,ew,e0,c7];have hx:=hb.x h6 aH;have hlen:=hb.len;obtain⟨hi,ht⟩:=evk (.inr rfl) h6 h8;have hmem:∀n,n∈jd (fN (fT b ss) ((ff (gj ss) j:Nat):Int) &&& ~~~ bW (nd b o).x)↔Us b ss j n/\(n:Int)≠(nd b o).x:=λn=>by
   rw[gH,lh,hset j hm,oZ aH]
  have hcr:∀n,Us b ss j n->(n:Int)≠(nd b o).x->(lp l b ss[k].set (nd b o).i).getLsbD n=true:=λn hn hne=>(h9 n (hsub j hm n hn)).resolve_right hne;refine BR hb hi hgl (λn hn=>hinj j hm n ((hmem n).1 hn).1) aH aK hg (hline j hm) (λv hv=>?_) (λn hn he=>?_) (λv hv1 hv2 hv3=>?_);rw[kl]at hv;rw[A0];intro hall;rw[wG,c6];cases hX:gA v (eA b (nd b o).x.toNat)with
  |false=>rfl
  |true=>
   exact absurd (λn hn=>by
    by_cases c1:(n:Int)=(nd b o).x;rw[<-c1]at hX;exact hX;exact hall _ (cM ((hmem n).2 ⟨hn,c1⟩))) hv
  have:=(hmem n).1 hn;exact sO hb (hcr n this.1 this.2) he;rw[if_pos rfl]at hv3;refine kl.2 (λhall=>?_);have ho:=hall o ((h10 o).2 (.inr rfl));rw[ht]at ho;refine hv3 ho (hv1 (λn hn=>?_));have hn':=(hmem n).1 hn;exact Ea hb hi hall ((h10 _).2 (.inl ⟨n,hn'.1,hn'.2,rfl⟩)) (λe=>hv2 n hn e)
 |d j h1 h2 h3 h4 h5 h6 h7 h8=>
  have hm:(j:Int)∈ss[k].fr:=by rw[h4];simp
  have e0:(kZ b ss k ss[k]).fr.getD 0 0=((ff (gj ss) j:Nat):Int):=by rw[hfr,h4];rfl
  simp only[h1,show ¬(7:Int)=1 by decide,show ¬(7:Int)=2 by decide,show ¬(7:Int)=3 by decide,show ¬(7:Int)=4 by decide,show ¬(7:Int)=5 by decide,show ¬(7:Int)=6 by decide,ej,e0,c7];have hmem:∀n,n∈jd (fN (fT b ss) ((ff (gj ss) j:Nat):Int))↔Us b ss j n:=λn=>by rw[gH,hset j hm]
  obtain⟨ps,hps⟩:∃ps,ps=jd (fN (fT b ss) ((ff (gj ss) j:Nat):Int)):=⟨_,rfl⟩;rw[<-hps]at hmem⊢;have hne:ps≠[]:=λe=>by
   obtain⟨n,hn,_⟩:=h.AV j (by have:=(h.pre hk hn hm).2.1;omega);have:=(hmem n).2 hn;rw[e]at this;cases this
  have hlm:=(hmem _).1 (oX hne);refine BR hb h6 hgl (λn hn=>hinj j hm n ((hmem n).1 ((List.dropLast_sublist _).subset hn))) (hinj j hm _ hlm) (λ_=>by unfold gO;rw[if_neg aI,if_neg aI,if_neg aI,if_pos rfl];exact dQ h3) hg (hline j hm) (λv hv=>?_) (λn hn he=>?_) (λv hv1 hv2 hv3=>?_);rw[kl]at hv;rw[A0];intro hall;rw[wG,c6];cases hX:gA v (eA b (ps.getLastD 0))with
  |false=>rfl
  |true=>
   exact absurd (λn hn=>by
    rcases yv ((hmem n).2 hn)with c1|c1;exact hall _ (cM c1);rw[c1];exact hX) hv
  exact sO hb (h7 n (hsub j hm n ((hmem n).1 hn))) he;rw[if_neg aI]at hv3;refine kl.2 (λhall=>?_);have hkw:∀n∈ps,gA v (eT ss[k].on (eA b n))=true:=λn hn=>Ea hb h6 hall ((h8 _).2 ⟨n,(hmem n).1 hn,rfl⟩) (λe=>hv2 n hn e);exact hv3 (hkw _ (oX hne)) (hv1 (λn hn=>hkw n ((List.dropLast_sublist _).subset hn)))
theorem pL:∀{k:Nat},k<=ss.length->(gJ ss k).length=ff (gj ss) k
 |0,_=>by simp[gJ,ff]
 |k+1,h=>by
  have h1:=pL (k:=k) aH;rw[gJ,bH (by omega:k<ss.length),jw];dsimp only;split<;>simp[h1]
theorem uQ{j:Nat}(hn:gj ss j=true):∀{k:Nat},k<=ss.length->j<k->∀hj:j<ss.length,(gJ ss k)[ff (gj ss) j]?=some ss[j].set
 |0,_,h,_=>aH
 |k+1,h,h2,hj=>by
  rw[gJ,bH (by omega:k<ss.length)];dsimp only;by_cases e:j=k;subst e;rw[if_pos hn,aZ (by rw[pL aH];exact dZ _),pL aH];simp;have h3:=uQ hn (k:=k) aH aH hj;split;rw[bt (bu.1 h3).1];exact h3;exact h3
theorem iS{T:Tr->Prop}{tl:List SD}{fl:List eF}{q:Nat}(hq:q<tl.length):fz T b tl fl (q+1)=((fz T b tl fl q).1++[(fO T b tl (fl.getD q 0#64) tl[q] (fz T b tl fl q).1 (fz T b tl fl q).2).1],(fO T b tl (fl.getD q 0#64) tl[q] (fz T b tl fl q).1 (fz T b tl fl q).2).2):=by
 rw[fz,bH hq]
theorem oz{T:Tr->Prop}{tl:List SD}{fl:List eF}:∀{q:Nat},q<=tl.length->(fz T b tl fl q).1.length=q
 |0,_=>rfl
 |q+1,h=>by rw[iS aH,cQ,oz aH];rfl
theorem zc{T:Tr->Prop}{tl:List SD}{fl:List eF}{q:Nat}(hq:q+1<=tl.length):um (fz T b tl fl (q+1)).2 ((fz T b tl fl (q+1)).1.getD q 0):=by
 have hl:=oz (T:=T) (b:=b) (fl:=fl) (show q<=tl.length by omega);rw[iS aH];have:((fz T b tl fl q).1++[(fO T b tl (fl.getD q 0#64) tl[q] (fz T b tl fl q).1 (fz T b tl fl q).2).1]).getD q 0=(fO T b tl (fl.getD q 0#64) tl[q] (fz T b tl fl q).1 (fz T b tl fl q).2).1:=by
  simp[hl]
 dsimp only;rw[this];exact Au
theorem oR{T:Tr->Prop}{tl:List SD}{fl:List eF}:∀{q:Nat},q<=tl.length->wu b tl (fz T b tl fl q).2 (fz T b tl fl q).1 q
 |0,_=>λj hj=>aH
 |q+1,h=>λj hj=>by
  have hl:=oz (T:=T) (b:=b) (fl:=fl) (show q<=tl.length by omega);rw[iS aH];dsimp only;by_cases e:j=q;subst e;have:((fz T b tl fl j).1++[(fO T b tl (fl.getD j 0#64) tl[j] (fz T b tl fl j).1 (fz T b tl fl j).2).1]).getD j 0=(fO T b tl (fl.getD j 0#64) tl[j] (fz T b tl fl j).1 (fz T b tl fl j).2).1:=by
   simp[hl]
  rw[this,gG aH];exact CM;have h1:iU (fz T b tl fl q).2 ((fz T b tl fl q).1.getD j 0) (ic b (fN tl (j:Int))):=oR (tl:=tl) (fl:=fl) (q:=q) aH j aH;have:((fz T b tl fl q).1++[(fO T b tl (fl.getD q 0#64) tl[q] (fz T b tl fl q).1 (fz T b tl fl q).2).1]).getD j 0=(fz T b tl fl q).1.getD j 0:=by
   simp only[aY];rw[bt (show j<(fz T b tl fl q).1.length by omega)]
  rw[this];exact h1.le (yX (T:=T) (b:=b) (tl:=tl) (full:=fl.getD q 0#64) (x:=tl[q]) (last:=(fz T b tl fl q).1) (σ:=(fz T b tl fl q).2))
theorem E3:Good l ⟨[],false⟩:=⟨aI,λk hk=>absurd hk (dK k),λk hk=>absurd hk (dK k)⟩
theorem iT.J5(h:iT l b ss)(q:Nat):q<=(fT b ss).length->fz eC b (fT b ss) (gJ ss ss.length) q=fz pZ b (fT b ss) (gJ ss ss.length) q/\Good l (fz eC b (fT b ss) (gJ ss ss.length) q).2:=by
 induction q with
 |zero=>intro _;exact⟨by simp only[fz],by simp only[fz];exact E3⟩
 |succ q ih=>
  intro hq;obtain⟨h1,h2⟩:=ih aH;have hql:q<(fT b ss).length:=aH;obtain⟨k,hk,k1,k2,k3⟩:=tf (b:=b) hql;have hf:(gJ ss ss.length).getD q 0#64=ss[k].set:=by
   rw[aY,<-k2,uQ k1 (dZ _) hk hk];rfl
  have hl:=oR (T:=eC) (b:=b) (tl:=fT b ss) (fl:=gJ ss ss.length) (q:=q) aH;obtain⟨p,hp⟩:∃p,p=fz eC b (fT b ss) (gJ ss ss.length) q:=⟨_,rfl⟩;rw[<-hp]at h1 h2 hl;have h3:=h.G2 hk k1 (last:=p.1) (by rw[k2];exact hl) h2;have s3:=h3.same;rw[iS hql,iS hql,hf,k3,<-h1,<-hp,<-s3];exact⟨rfl,h3.jl⟩
theorem iT.Pr(h:iT l b ss):kC eC b ss=kC pZ b ss/\Good l (kC eC b ss).2/\iU (kC eC b ss).2 (kC eC b ss).1 (ic b (fN ss ((ss.length - 1:Nat):Int)))/\um (kC eC b ss).2 (kC eC b ss).1:=by
 obtain⟨h1,h2⟩:=h.J5 _ (dZ _);obtain⟨c1,c2,c3,c4⟩:=h.Bn;have hl:=oR (T:=eC) (b:=b) (tl:=fT b ss) (fl:=gJ ss ss.length) (dZ _) ((fT b ss).length - 1) c1;have hll:um (fz eC b (fT b ss) (gJ ss ss.length) (fT b ss).length).2 ((fz eC b (fT b ss) (gJ ss ss.length) (fT b ss).length).1.getD ((fT b ss).length - 1) 0):=by
  have:=zc (T:=eC) (b:=b) (tl:=fT b ss) (fl:=gJ ss ss.length) (q:=(fT b ss).length - 1) aH;rwa[show(fT b ss).length - 1+1=(fT b ss).length by omega]at this
 have hsub:∀n,(fN (fT b ss) (((fT b ss).length - 1:Nat):Int)).getLsbD n=true->(fN ss ((ss.length - 1:Nat):Int)).getLsbD n=true:=λn hn=>by
  rw[gG c1,c3]at hn;rw[gG c2];exact h.sub _ c2 n hn
 unfold kC;dsimp only;by_cases e:fN (fT b ss) (((fT b ss).length - 1:Nat):Int)=fN ss ((ss.length - 1:Nat):Int);simp only[if_pos e];refine⟨by rw[h1],h2,?_,hll⟩;rw[<-e];exact hl;simp only[if_neg e];have hin:iA b (fN ss ((ss.length - 1:Nat):Int)):=by
  rw[gG c2];exact(h.nR _ c2).1
 have h3:=jF (g:=ic b (fN ss ((ss.length - 1:Nat):Int))) (from_:=[(fz eC b (fT b ss) (gJ ss ss.length) (fT b ss).length).1.getD ((fT b ss).length - 1) 0]) h2 (rX h.base hin) (λhb n hn=>by rw[cS.1 hn];exact(hl hb).1) (λhb _ v hv=>by
  have q:=hv _ (cS.2 rfl);rw[(hl hb).2,kl]at q;rw[kl];exact λhall=>q (λn hn=>hall n (hsub n hn)));exact⟨by rw[<-h1];exact h3.same,h3.jl,jO,xu⟩
end
def Qr(ls:List LV)(k j:Nat):Prop:=∃hk:k<ls.length,(10<=ls[k].r/\j=ls[k].a.toNat)\/(ls[k].r=10/\j=ls[k].b.toNat)
structure QY (ls:List LV) (i:Nat) (s:ao):Prop where
  len:s.length=ls.length
  H6:∀j,j<ls.length->(sB s j=true↔(j+1=ls.length\/∃k,ls.length<=k+i/\k<ls.length/\L9 ls k/\Qr ls k j))
section
variable{l:Int}{ls:List LV}{i k:Nat}{s:ao}
end
def FV.uW(t:ax)(H:Hl)(x:FV):Prop:=∃q sp,(q,jc t x.f sp)∈H/\x.a=q.map aP/\(q=none->x.f.length=0)
theorem FV.uW.mono{t:ax}{H H':Hl}{x:FV}(h:x.uW t H)(hs:H⊆H'):x.uW t H':=by
 obtain⟨q,sp,h1,h2,h3⟩:=h;exact⟨q,sp,hs h1,h2,h3⟩
theorem FV.uW.at{t:ax}{w0 w:aB}{S:aq}{h:Hl}{Y:List (Nat×Obj)}{x:FV}(g:x.uW t h)(s:St w0 S w h Y):FA w x.a x.f:=by
 obtain⟨q,sp,h1,h2,h3⟩:=g;obtain⟨j,hj⟩:=List.getElem?_of_mem h1;rw[h2];exact fe s j hj h3
theorem EO{w0 w:aB}{S:aq}{h:Hl}{Y:List (Nat×Obj)}(s:St w0 S w h Y)(j:Nat){q:ah}{ls:List LV}{e:ax}{sp:ai}(hj:h[j]?=some (q,Ke e ls sp))(hq:q=none->ls.length=0)
  {t:ax}(hin:∀x∈ls,x.f.uW t h/\x.f.f.length<=maxLen):LA w (q.map aP) ls:=by
 refine⟨?_,λx hx=>⟨(hin x hx).1.at s,(hin x hx).2⟩⟩;cases q with
 |none=>rw[aV (hq rfl)];exact Sl.nil _ _
 |some b=>exact Sl.ie (s.get hj)
def ru(t tl:ax)(w w':aB)(v:aC)(ls:List LV):Prop:=∃(q:ah) (cap:Nat) (sp:ai) (H:Hl),v=fL q ls.length cap/\(q=none->ls.length=0/\cap=0)/\(ls.flatMap LV.cells++sp).length=cap*5/\jR w w' ((q,Ke tl ls sp)::H)/\∀x∈ls,x.f.uW t H/\x.f.f.length<=maxLen
theorem ru.nil{t tl:ax}{w w':aB}:ru t tl w w' (.slice none 0 0) []:=⟨none,0,[],[],rfl,λ_=>⟨rfl,rfl⟩,rfl,jR.nil,λ_ h=>by cases h⟩
section
variable{P:av}{r:ah}{f:ay}{R:aC->aB->Prop}{w0:aB}{S:aq}{Y:List (Nat×Obj)}{n:Nat}{k:al}{l:Fl}{h:Hl}
variable{ops:aj}{i d:Nat}{rest:aq}{ty:ax}{pos:aA}{aft:ak}{g:Option (Nat×Bool)}
theorem AS{ls:List LV}{x:LV}:(ls++[x]).flatMap LV.cells=ls.flatMap LV.cells++LV.cells x:=by simp
end
def SV.cells(x:SV):ai:=[U x.d.set,aS x.d.eM,aS x.d.on,aS x.d.e,.slice x.fa x.d.fr.length x.fc]
structure Bh (w:aB) (A:ae) (ss:List SV):Prop where
  at_:Sl w A (ss.flatMap SV.cells)
  wF:∀s∈ss,mJ w s.fa s.d.fr/\s.d.fr.length<=maxLen
theorem Bh.eQ{w0 w:aB}{A:ae}{ss:List SV}(h:Bh w0 A ss)(e:Ex [] w0 w):Bh w A ss:=⟨Sl.ex h.at_ e aL,λs hs=>⟨(h.wF s hs).1.eQ e,(h.wF s hs).2⟩⟩
def gu(l:Int)(A:ae)(n cA:Nat)(B:ae)(m cB:Nat):af:=#[aS l,.slice A n cA,.slice B m cB]
def uA(l:Int)(A:ae)(n cA:Nat)(B:ae)(m cB:Nat)(O:ae)(k cO:Nat):af:=#[aS l,.slice A n cA,.slice B m cB,.slice O k cO]
abbrev iu(ss:List SV):List SD:=ss.map SV.d
theorem fD{ss:List SV}:(iu ss).length=ss.length:=by simp
theorem lP{ss:List SV}{k:Nat}(hk:k<ss.length):(iu ss)[k]'(by simpa using hk)=ss[k].d:=by simp
theorem uP{s:eF}{i:Nat}:(((s>>>i) &&& 1#64)==1#64)=s.getLsbD i:=by
 rw[dA,eg];constructor;intro h;have:=eh (λx=>x.getLsbD 0) h;simpa using this;intro h;apply BitVec.eq_of_getLsbD_eq;intro k hk;rw[BitVec.getLsbD_and,BitVec.getLsbD_ushiftRight,BitVec.getLsbD_one];by_cases e:k=0;subst e;simp[h];simp[e]
theorem AN{b:List NV}{s:eF}(h0:0<b.length)(h64:b.length<=64):(s &&& ~~~ (18446744073709551615#64>>>(64 - b.length))=0#64)↔iA b s:=by
 rw[rG];have hb:∀k,(18446744073709551615#64>>>(64 - b.length)).getLsbD k=true↔k<b.length:=λk=>by
  rw[BitVec.getLsbD_ushiftRight,show(18446744073709551615#64)=BitVec.allOnes 64 from aI,BitVec.getLsbD_allOnes,dg];omega
 exact forall_congr' λk=>imp_congr_right λ_=>hb k
def KG(b:List NV)(s:eF):Bool:=s &&& ~~~ (18446744073709551615#64>>>(64 - b.length))==0#64
theorem zw{b:List NV}{s:eF}(h0:0<b.length)(h64:b.length<=64):KG b s=true↔iA b s:=by
 unfold KG;rw[eg];exact AN h0 h64
theorem lI{ss:List SD}{k:Nat}:∀{fs:ar} {us:List eF},jQ ss k fs us↔fs.length=us.length/\∀j,j<us.length->(0<=fs.getD j 0/\fs.getD j 0<k)/\fN ss (fs.getD j 0) &&& ~~~ us.getD j 0#64=0#64
 |[],[]=>by simp[jQ]
 |[],_::_=>by simp[jQ]
 |_::_,[]=>by simp[jQ]
 |f::fs,u::us=>by
  rw[jQ,lI];constructor;rintro ⟨h1,h2,h3⟩;refine⟨by simp[h2],λj hj=>?_⟩;cases j with
  |zero=>exact h1
  |succ j=>exact h3 j (by simp at hj;omega)
  rintro ⟨h1,h2⟩;refine⟨h2 0 aL,by simpa using h1,λj hj=>h2 (j+1) aN⟩
def pg(os:ar)(node other:Int):Bool:=decide (0<=node/\node<os.length/\0<=other/\os.getD node.toNat 0=other)
def pd(b:List NV)(x:SD)(op:Int):Bool:=decide (x.on<b.length) && (fw x.set x.on && decide ((nd b x.on).op=op))
theorem mL{b:List NV}{x:SD}{op:Int}:pd b x op=true↔GD b x op:=by
 unfold pd GD;simp only[di,dg]
def LQ:NV:=⟨0,0,0,0,0,0⟩
noncomputable def gy(b:List NV):ar:=(List.range b.length).map (λ(i:Nat)=>jP b (i:Int))
theorem j8{b:List NV}:(gy b).length=b.length:=by simp[gy]
theorem uJ{b:List NV}{i:Nat}(hi:i<b.length):(gy b).getD i 0=jP b i:=by simp[gy,hi]
theorem uH{b:List NV}{node other:Int}:pg (gy b) node other=true↔(0<=node/\node<b.length)/\0<=other/\jP b node=other:=by
 unfold pg;rw[dg,j8];constructor;rintro ⟨h1,h2,h3,h4⟩;obtain⟨k,rfl⟩:∃k:Nat,node=k:=⟨node.toNat,aH⟩;rw[c7,uJ aH]at h4;exact⟨⟨h1,h2⟩,h3,h4⟩;rintro ⟨⟨h1,h2⟩,h3,h4⟩;obtain⟨k,rfl⟩:∃k:Nat,node=k:=⟨node.toNat,aH⟩;exact⟨h1,h2,h3,by rw[c7,uJ aH];exact h4⟩
structure Oa (w:aB) (t:ax) (bc:Nat) (l:Int) (A:ae) (cA:Nat) (b:List NV) (B:ae) (cB:Nat) (ss:List SV) (O:ae) (cO:Nat):Prop where
  ie:w.heap[bc]?=some (.cells (uA l A b.length cA B ss.length cB O (gy b).length cO) t (0,0))
  fa:FA w A b
  sa:Bh w B ss
  oa:mJ w O (gy b)
  base:eX b
theorem Oa.ex{w w':aB}{t:ax}{bc:Nat}{l:Int}{A:ae}{cA:Nat}{b:List NV}{B:ae}{cB:Nat}{ss:List SV}{O:ae}{cO:Nat}(h:Oa w t bc l A cA b B cB ss O cO)(e:Ex [] w w'):Oa w' t bc l A cA b B cB ss O cO:=⟨e.lM h.ie,h.fa.eQ e,h.sa.eQ e,h.oa.eQ e,h.base⟩
theorem vv{ss:List SD}{k:Nat}{fs:ar}:jQ ss k fs []↔fs=[]:=by cases fs<;>simp[jQ]
def DF(b:List NV)(x:SD):Prop:=x.fr=[]/\((pd b x 2=true/\x.e=0)\/(fw x.set x.on=true/\fw x.set x.e=true/\pg (gy b) x.on x.e=true))
theorem A5{b:List NV}{x:SD}:DF b x↔(x.fr=[]/\((GD b x 2/\x.e=0)\/(fw x.set x.on=true/\x.on<b.length/\fw x.set x.e=true/\jP b x.on=x.e))):=by
 unfold DF;rw[mL,uH];refine and_congr_right λ_=>or_congr Iff.rfl ?_;constructor;rintro ⟨h1,h2,h3,h4,h5⟩;exact⟨h1,h3.2,h2,h5⟩;rintro ⟨h1,h2,h3,h4⟩;obtain⟨k,e1,_⟩:=lk.1 h1;obtain⟨j,e2,_⟩:=lk.1 h3;exact⟨h1,h3,⟨aH,h2⟩,aH,h4⟩
section
variable{l:Int}{b:List NV}{ss:List SD}{k:Nat}{x:SD}
theorem Ir(h:¬iA b x.set):¬ir l b ss k x:=λg=>h g.1
theorem A2(hi:iA b x.set)(h:x.eM=1):ir l b ss k x↔DF b x:=by
 rw[A5];unfold ir;rw[h];simp[hi]
theorem sI(hi:iA b x.set)(h:x.eM=4):ir l b ss k x↔0<=x.e/\pg (gy b) x.on x.e=true/\jQ ss k x.fr [x.set|||bW x.on,x.set|||bW x.e]:=by
 rw[uH];unfold ir;rw[h];simp[hi];constructor;rintro ⟨h1,h2,h3,h4⟩;exact⟨h2,⟨h1,h2,h3⟩,h4⟩;rintro ⟨h1,⟨h2,h3,h4⟩,h5⟩;exact⟨h2,h3,h4,h5⟩
theorem NG(h1:x.eM≠1)(h4:x.eM≠4)(he:x.e≠0):¬ir l b ss k x:=by
 rintro ⟨_,h⟩;rcases h with h|h|h|h|h|h|h;exact h1 h.1;exact he h.2.1;exact he h.2.1;exact h4 h.1;exact he h.2.1;exact he h.2.1;exact he h.2.1
theorem FD(hi:iA b x.set)(he:x.e=0)(h:x.eM=2):ir l b ss k x↔pd b x 5=true/\jQ ss k x.fr [x.set|||bW (nd b x.on).x|||bW (nd b x.on).y]:=by
 rw[mL];unfold ir;rw[h];simp[hi,he]
theorem FC(hi:iA b x.set)(he:x.e=0)(h:x.eM=3):ir l b ss k x↔pd b x 6=true/\jQ ss k x.fr [x.set|||bW (nd b x.on).x,x.set|||bW (nd b x.on).y]:=by
 rw[mL];unfold ir;rw[h];simp[hi,he]
theorem uc(hi:iA b x.set)(he:x.e=0)(h:x.eM=5):ir l b ss k x↔pd b x 9=true/\(l=2\/l=4\/l=6)/\jQ ss k x.fr [x.set|||bW (nd b x.on).x]:=by
 rw[mL];unfold ir;rw[h];simp[hi,he];exact⟨λ⟨h1,h2,h3⟩=>⟨h2,h1,h3⟩,λ⟨h1,h2,h3⟩=>⟨h2,h1,h3⟩⟩
theorem FB(hi:iA b x.set)(he:x.e=0)(h:x.eM=6):ir l b ss k x↔pd b x 10=true/\jQ ss k x.fr [bW (nd b x.on).x|||lp l b x.set (nd b x.on).i]:=by
 rw[mL];unfold ir;rw[h];simp[hi,he]
theorem sJ(hi:iA b x.set)(he:x.e=0)(h:x.eM=7):ir l b ss k x↔(l=1\/l=5)/\0<=x.on/\x.on<4/\jQ ss k x.fr [lp l b x.set x.on]:=by
 unfold ir;rw[h];simp[hi,he,and_assoc]
theorem K8(h1:x.eM≠1)(h2:x.eM≠2)(h3:x.eM≠3)(h4:x.eM≠4)(h5:x.eM≠5)(h6:x.eM≠6)(h7:x.eM≠7):¬ir l b ss k x:=by
 unfold ir;simp[h1,h2,h3,h4,h5,h6,h7]
end
instance{b:List NV}{n:NV}:Decidable (mF b n):=by unfold mF;infer_instance
section
variable{b:List NV}{s:eF}{ag:Int}{n:Nat}
theorem G7{i:Nat}(hi:i<b.length)(h1:s.getLsbD i=true)(h2:(nd b i).op=9)(h3:(nd b i).i=ag)(h4:(nd b i).x=n)(hf:∀j,j<i->s.getLsbD j=true->(nd b j).op=9->(nd b j).i=ag->(nd b j).x≠n):iR b s ag n=i:=by
 rcases je (b:=b) (s:=s) (ag:=ag) (n:=n)with⟨j,g1,g2,g3,g4,g5,g6,g7⟩|⟨_,g2⟩;rw[g1];by_cases e:j=i;exact e;by_cases hlt:j<i;exact absurd g6 (hf j hlt g3 g4 g5);exact absurd h4 (g7 i aH h1 h2 h3);exact absurd h4 (g2 i hi h1 h2 h3)
theorem G5(hf:∀j,j<b.length->s.getLsbD j=true->(nd b j).op=9->(nd b j).i=ag->(nd b j).x≠n):iR b s ag n=n:=by
 rcases je (b:=b) (s:=s) (ag:=ag) (n:=n)with⟨j,_,g2,g3,g4,g5,g6,_⟩|⟨g1,_⟩;exact absurd g6 (hf j g2 g3 g4 g5);exact g1
theorem J3{k m:Nat}(hk:k<(jd s).length)(hm:m<(jd s).length)(h:k<m):(jd s)[k]<(jd s)[m]:=by
 have:(jd s).Pairwise (·<·):=List.Pairwise.filter _ List.pairwise_lt_range;exact bC.1 this k m hk hm h
theorem AA{k j:Nat}(hk:k<(jd s).length)(hj:s.getLsbD j=true)(h:j<(jd s)[k]):∃(m:Nat) (hm:m<(jd s).length),m<k/\(jd s)[m]=j:=by
 obtain⟨m,hm,e⟩:=cz.1 (gH.2 hj);refine⟨m,hm,?_,e⟩;rcases Nat.lt_trichotomy m k with h1|h1|h1;exact h1;subst h1;omega;have:=J3 hk hm h1;omega
def CB(b:List NV)(ag:Int)(n:Nat)(j:Nat):Prop:=(nd b j).op=9->(nd b j).i=ag->(nd b j).x≠n
end
section
variable{sp:ai}{fr:ar}
def wy(c:Bool)(s:ao)(fr:ar):ao:=fr.foldl (λs j=>s.set j.toNat (sB s j.toNat||c)) s
theorem He{s:ao}{i j:Nat}{v:Bool}(hi:i<s.length):sB (s.set i v) j=if j=i then v else sB s j:=by
 unfold sB;rw[aY,aY,List.getElem?_set];by_cases e:i=j;subst e;simp[hi];rw[if_neg e,if_neg (λh=>e h.symm)]
theorem uN{c:Bool}:∀{fr:ar} {s:ao},(wy c s fr).length=s.length
 |[],_=>rfl
 |j::fr,s=>by
  show(wy c _ fr).length=_;rw[uN,dE]
theorem zk{c:Bool}{s:ao} {j:Int}:wy c s (fr++[j])=(wy c s fr).set j.toNat (sB (wy c s fr) j.toNat||c):=by
 unfold wy;rw[List.foldl_append];rfl
theorem Az{c:Bool}{k:Nat}:∀{fr:ar} {s:ao},(∀j∈fr,0<=j/\j<s.length)->sB (wy c s fr) k=(sB s k||(c && decide ((k:Int)∈fr)))
 |[],s,_=>by simp[wy]
 |j::fr,s,h=>by
  obtain⟨h1,h2⟩:=h j aF;have e:wy c s (j::fr)=wy c (s.set j.toNat (sB s j.toNat||c)) fr:=rfl;rw[e,Az (λi hi=>by rw[dE];exact h i (cy _ hi)),He aH];by_cases ek:k=j.toNat;have:(k:Int)=j:=aH;rw[if_pos ek,<-ek];simp[this];cases sB s k<;>cases c<;>simp
  have:(k:Int)≠j:=aH;rw[if_neg ek];simp[this]
section
variable{l:Int}{b:List NV}{ss:List SD}{s:ao}{i k:Nat}
structure GC (ss:List SD) (i:Nat) (s:ao):Prop where
  len:s.length=ss.length
  H6:∀j,j<ss.length->(sB s j=true↔(j+1=ss.length\/∃k,∃hk:k<ss.length,ss.length<=k+i/\Am ss k/\(j:Int)∈ss[k].fr))
theorem Ad(h0:0<ss.length):GC ss 0 ((List.replicate ss.length false).set (ss.length - 1) true):=by
 refine⟨by simp,λj hj=>?_⟩;rw[xN aN];constructor;intro h;by_cases e:j=ss.length - 1;exact .inl aH;rw[if_neg e]at h;simp[sB,hj]at h;rintro (h|⟨k,hk,h1,_⟩);rw[if_pos aH];omega
theorem GC.nd(h:GC ss i s)(hf:∀(k:Nat) (hk:k<ss.length),∀j∈ss[k].fr,0<=j/\j<k)(hk:k+1+i=ss.length):sB s k=true↔Am ss k:=by
 rw[h.H6 k aH];constructor;rintro (h1|⟨q,hq,_,h2,h3⟩);exact .last h1;exact .fr hq h2 h3;intro hn;cases hn with
 |last e=>exact .inl e
 |@fr q _ hq hn hm=>exact .inr ⟨q,hq,by have:=hf q hq _ hm;omega,hn,hm⟩
theorem GC.step(h:GC ss i s)(hf:∀(k:Nat) (hk:k<ss.length),∀j∈ss[k].fr,0<=j/\j<k)(hk:k+1+i=ss.length):GC ss (i+1) (wy (sB s k) s (ss[k]'aH).fr):=by
 have hkl:k<ss.length:=aH;have hnd:=h.nd hf hk;refine⟨by rw[uN];exact h.len,λj hj=>?_⟩;rw[Az (λq hq=>by have:=hf k hkl q hq;rw[h.len];omega),dB,h.H6 j hj,di,dg,hnd];constructor;rintro ((h1|⟨q,hq,h1,h2⟩)|⟨h1,h2⟩);exact .inl h1;exact .inr ⟨q,hq,aH,h2⟩;exact .inr ⟨k,hkl,aH,h1,h2⟩;rintro (h1|⟨q,hq,h1,h2,h3⟩);exact .inl (.inl h1);by_cases e:q=k;subst e;exact .inr ⟨h2,h3⟩;exact .inl (.inr ⟨q,hq,aH,h2,h3⟩)
theorem GC.done(h:GC ss ss.length s){j:Nat}(hj:j<ss.length):sB s j=gj ss j:=by
 have key:sB s j=true↔Am ss j:=by
  rw[h.H6 j hj];constructor;rintro (h1|⟨q,hq,_,h2,h3⟩);exact .last h1;exact .fr hq h2 h3;intro hn;cases hn with
  |last e=>exact .inl e
  |@fr q _ hq hn hm=>exact .inr ⟨q,hq,aH,hn,hm⟩
 cases h1:gj ss j with
 |true=>exact key.2 (jB.1 h1)
 |false=>
  cases h2:sB s j with
  |false=>rfl
  |true=>rw[jB.2 (key.1 h2)]at h1;cases h1
noncomputable def kD(ss:List SD)(i:Nat):ar:=(List.range ss.length).map (λj=>if j<i/\gj ss j=true then(ff (gj ss) j:Int)else 0)
theorem rR:(kD ss i).length=ss.length:=by simp[kD]
theorem wV:kD ss 0=List.replicate ss.length 0:=by
 apply dn (by simp[kD]);intro j h1 h2;simp[kD]
theorem wW(h:gj ss i=false):kD ss (i+1)=kD ss i:=by
 apply dn (by simp[kD]);intro j h1 h2;simp only[kD,List.getElem_map,List.getElem_range];by_cases e:j=i;subst e;simp[h];have:j<i+1↔j<i:=aH;simp only[this]
theorem zd(h:gj ss i=true):(kD ss i).set i (ff (gj ss) i:Int)=kD ss (i+1):=by
 apply dn (by simp[kD]);intro j h1 h2;rw[List.getElem_set];simp only[kD,List.getElem_map,List.getElem_range];by_cases e:i=j;subst e;rw[if_pos rfl,if_pos ⟨aH,h⟩];rw[if_neg e];have:j<i+1↔j<i:=aH;simp only[this]
theorem ze{y:Nat}(hy:y<i)(hi:i<=ss.length)(hn:Am ss y):(kD ss i).getD y 0=(ff (gj ss) y:Int):=by
 unfold kD;rw[aY,dc,List.getElem?_range aH];show(if _ then _ else _)=_;rw[if_pos ⟨aH,jB.2 hn⟩]
end
noncomputable def Ai(ss:List SD)(fr:ar)(q:Nat):ar:=(fr.take q).map (λj=>((ff (gj ss) j.toNat:Nat):Int))++fr.drop q
theorem Eg{ss:List SD} :Ai ss fr 0=fr:=by simp[Ai]
theorem Hi{ss:List SD} :Ai ss fr fr.length=fr.map (λj=>((ff (gj ss) j.toNat:Nat):Int)):=by simp[Ai]
theorem Hh{ss:List SD} {q:Nat}:(Ai ss fr q).length=fr.length:=by simp[Ai];omega
theorem J2{ss:List SD} {q:Nat}(hq:q<fr.length):(Ai ss fr q).getD q 0=fr[q]:=by
 unfold Ai;rw[aY,aZ aN];have:q - ((fr.take q).map (λj=>((ff (gj ss) j.toNat:Nat):Int))).length=0:=by simp;omega
 rw[this];simp[hq]
theorem Hf{ss:List SD} {q:Nat}(hq:q<fr.length):(Ai ss fr q).set q ((ff (gj ss) fr[q].toNat:Nat):Int)=Ai ss fr (q+1):=by
 unfold Ai;have hl:((fr.take q).map (λj=>((ff (gj ss) j.toNat:Nat):Int))).length=q:=by simp;omega
 rw[List.set_append_right _ _ aH,hl,dW,bj hq,List.set_cons_zero,aU hq,dF];simp
def mW(e:ax)(ss:List SV)(sp:ai):Obj:=.cells (ss.flatMap SV.cells++sp).toArray e (0,0)
theorem Fh{ss:List SV}:(ss.flatMap SV.cells).length=ss.length*5:=oC (enc:=SV.cells) (sz:=5) (λ_=>rfl)
def SV.uW(t:ax)(H:Hl)(x:SV):Prop:=∃q sp,(q,ob fH t x.d.fr sp)∈H/\x.fa=q.map aP/\(q=none->x.d.fr.length=0)
theorem SV.uW.mono{t:ax}{H H':Hl}{x:SV}(h:x.uW t H)(hs:H⊆H'):x.uW t H':=by
 obtain⟨q,sp,h1,h2,h3⟩:=h;exact⟨q,sp,hs h1,h2,h3⟩
theorem SV.uW.at{t:ax}{w0 w:aB}{S:aq}{h:Hl}{Y:List (Nat×Obj)}{x:SV}(g:x.uW t h)(s:St w0 S w h Y):mJ w x.fa x.d.fr:=by
 obtain⟨q,sp,h1,h2,h3⟩:=g;obtain⟨j,hj⟩:=List.getElem?_of_mem h1;rw[h2];cases q with
 |none=>rw[aV (h3 rfl)];exact Sl.nil _ _
 |some b=>exact Sl.ie (s.get hj)
theorem qK{w0 w:aB}{S:aq}{h:Hl}{Y:List (Nat×Obj)}(s:St w0 S w h Y)(j:Nat){q:ah}{ss:List SV}{e:ax} (hj:h[j]?=some (q,mW e ss sp))(hq:q=none->ss.length=0)
  {t:ax}(hin:∀x∈ss,x.uW t h/\x.d.fr.length<=maxLen):Bh w (q.map aP) ss:=by
 refine⟨?_,λx hx=>⟨(hin x hx).1.at s,(hin x hx).2⟩⟩;cases q with
 |none=>rw[aV (hq rfl)];exact Sl.nil _ _
 |some b=>exact Sl.ie (s.get hj)
theorem St.pick{w0 w:aB}{S:aq}{pre pre':Hl}{Y:List (Nat×Obj)}(s:St w0 S w pre Y)(is:aq)(hn:is.Nodup)(e:is.map (λi=>pre[i]?)=pre'.map some):St w0 S w pre' Y:=by
 have:=St.jq (pre:=pre) (pre':=pre') (HR:=[]) (by rw[dC];exact s) is hn e;rwa[dC]at this
theorem Mn{w0 w:aB}{S:aq}{h:Hl}{Y:List (Nat×Obj)}(s:St w0 S w h Y)(j:Nat){q:ah}{xs:List eF}{e:ax} (hj:h[j]?=some (q,ob U e xs sp))(hq:q=none->xs.length=0):Bi w (q.map aP) xs:=by
 cases q with
 |none=>rw[aV (hq rfl)];exact Sl.nil _ _
 |some b=>exact Sl.ie (s.get hj)
section
variable{P:av}{r:ah}{f:ay}{R:aC->aB->Prop}{w0:aB}{S:aq}{Y:List (Nat×Obj)}{n:Nat}{k:al}{l:Fl}{h:Hl}
variable{ops:aj}{i d:Nat}{rest:aq}{ty:ax}{pos:aA}{aft:ak}{g:Option (Nat×Bool)}
theorem rj{ss:List SV}{x:SV}:(ss++[x]).flatMap SV.cells=ss.flatMap SV.cells++SV.cells x:=by simp
theorem oI{t e:ax}{x y:au}{inf:TypeInfo}{z:aC}{q:ah}{ss:List SV} {cap:Nat}{bn:Nat}{nl:SV}{en:ax}{frn:Nat×Nat}
  (ho:ops[i]?=some ⟨some d,.call ⟨.builtin .append,#[x,y],#[t,t]⟩,ty,pos,aft,g⟩)(hw:eL ops l g=true)(hx:eZ l x=some (fL q ss.length cap))(hy:eZ l y=some (.slice (aR bn) 1 1))(hd:Nat.blt d n=true)
  (hu:P.underlying t=some (.slice e))(hi:P.info? e=some inf)(hz:inf.zero=some z)(hsz:inf.size=5)(hz1:z.cells.size=5)
  (hq:q=none->ss.length=0/\cap=0)(j:Nat)(hj:h[j]?=some (q,mW e ss sp))(jn:Nat)(hjn:h[jn]?=some (some bn,.cells (SV.cells nl++[]).toArray en frn))
  (eK:(ss.flatMap SV.cells++sp).length=cap*5)(hmx:ss.length+1<=maxLen)(hbytes:(ss.length+1)*inf.bytes<=140737488355328)
  (hk:∀b' sp' cap',((ss++[nl]).flatMap SV.cells++sp').length=cap'*5->eB P r f R w0 S Y n (.inRegion ops rest::k) ((d,fL (some b') (ss++[nl]).length cap')::l) (h.set j (some b',mW e (ss++[nl]) sp'))):eB P r f R w0 S Y n (.inRegion ops (i::rest)::k) l h:=
 .app 5 (xs:=ss.flatMap SV.cells) (sp:=sp) (nx:=ss.length) (q:=q) (news:=SV.cells nl) (spn:=[]) ho hw hx hy hd hu hi hz hsz hz1 hq j hj jn hjn Fh eK rfl aI (λu hu=>by
  simp only[SV.cells,dS,dv,ep]at hu;rcases hu with rfl|rfl|rfl|rfl|rfl<;>rfl) hmx hbytes (λb' sp' cap' hlen=>by
  have:=hk b' sp' cap' (by rw[rj];exact hlen);rw[cQ,bV,mW,rj]at this;exact this)
end
def N5(tn ts ti:ax)(w w':aB)(l:Int)(b:List NV)(v u:aC)(os ws:List SV):Prop:=
 ∃(qa qo qw:ah) (ca co cw:Nat) (spa spo spw:ai) (H:Hl),v=.agg (gu l (qa.map aP) b.length ca (qo.map aP) os.length co)/\u=fL qw ws.length cw/\
  (qa=none->b.length=0)/\(qo=none->os.length=0)/\(qw=none->ws.length=0)/\jR w w' ((qa,jc tn b spa)::(qo,mW ts os spo)::(qw,mW ts ws spw)::H)/\∀x∈os,x.uW ti H/\x.d.fr.length<=maxLen
end
structure Qx (b:List NV):Prop where
  oe:fK b=0
  MM:∀n∈b,mF b n
section
variable{b:List NV}
end
theorem w7:∀{t:Tr},t.ok->kI (λop _ _=>op<=10) t->qV (eH t).1/\qV (eH t).2
 |.leaf op i e g,hok,hl=>by
  have h1:op<=10:=hl;have h2:=hok.1;have h3:=HS hok.1 hok.2.1;rw[eH];dsimp only;refine⟨by unfold qV;omega,?_⟩;split;unfold cT qV;omega;split;unfold cT qV;omega;exact .inl ⟨rfl,i,e,g,by rw[show op=3 by omega]⟩
 |.un op i e g a,hok,hl=>by
  have ih:=w7 hok.2.2.2.2 hl.2;have h1:op<=10:=hl.1;have hop:op=4\/op=9\/op=10:=by have h2:=hok.1;have h3:=hok.2.1;have h4:=hok.2.2.1;unfold iX at h3;unfold ij at h4;simp at h3 h4;omega
  rcases hop with rfl|rfl|rfl;rw[eH,if_pos rfl];exact⟨ih.2,ih.1⟩;rw[eH,if_neg aI,if_pos rfl];exact⟨.inr ⟨.inl rfl,ih.1⟩,.inr ⟨.inr rfl,ih.2⟩⟩;rw[eH,if_neg aI,if_neg aI,if_pos rfl];exact⟨.inr ⟨.inr rfl,ih.1⟩,.inr ⟨.inl rfl,ih.2⟩⟩
 |.bin op i e g a b,hok,hl=>by
  have iha:=w7 hok.2.2.2.1 hl.2.1;have ihb:=w7 hok.2.2.2.2 hl.2.2;have h1:op<=10:=hl.1;have hop:op=5\/op=6\/op=7\/op=8:=by have h2:=hok.1;have h3:=hok.2.1;unfold ij at h3;simp at h3;omega
  rcases hop with rfl|rfl|rfl|rfl;rw[eH,if_pos rfl];exact⟨⟨.inl rfl,iha.1,ihb.1⟩,⟨.inr rfl,iha.2,ihb.2⟩⟩;rw[eH,if_neg aI,if_pos rfl];exact⟨⟨.inr rfl,iha.1,ihb.1⟩,⟨.inl rfl,iha.2,ihb.2⟩⟩;rw[eH,if_neg aI,if_neg aI,if_pos rfl];exact⟨⟨.inr rfl,iha.2,ihb.1⟩,⟨.inl rfl,iha.1,ihb.2⟩⟩;rw[eH,if_neg aI,if_neg aI,if_neg aI,if_pos rfl];exact⟨⟨.inl rfl,⟨.inr rfl,iha.2,ihb.1⟩,⟨.inr rfl,iha.1,ihb.2⟩⟩,⟨.inr rfl,⟨.inl rfl,iha.1,ihb.2⟩,⟨.inl rfl,iha.2,ihb.1⟩⟩⟩
theorem Kk:∀(t:Tr),qV t->∀c∈kids t,qV c
 |.leaf ..,_,c,hc=>by simp[kids]at hc
 |.un op i e g a,h,c,hc=>by
  simp only[kids,cS]at hc;subst hc;rcases h with⟨_,i,e,g,rfl⟩|h;show(3:Int)<=3;omega;exact h.2
 |.bin op i e g a b,h,c,hc=>by
  simp only[kids,dS,dv,ep]at hc;rcases hc with rfl|rfl;exact h.2.1;exact h.2.2
def DN(P N:Tr):List Tr:=visit N (gk P)
def gU(t:Tr):List NV:=eJ (DN (eH t).1 (eH t).2)
theorem pR(P N:Tr):O8 N (gk P) (DN P N):=kz N (jA P).pP (jA P).nd
theorem yF{p:Tr->Prop}(hp:∀t,p t->∀c∈kids t,p c){P N:Tr}(h1:p P)(h2:p N):∀u∈DN P N,p u:=
 p8 hp N h2 (p8 hp P h1 (λu hu=>by cases hu))
section
variable{t:Tr}
theorem yz:(gU t).length=(DN (eH t).1 (eH t).2).length:=jC
theorem tL(h:t.ok):trees (gU t)=DN (eH t).1 (eH t).2:=
 qI (pR _ _).pP (λu hu=>(yF (λ_ ht _ hc=>ht.wE hc) (lK h).1 (lK h).2 u hu).wf)
theorem FJ(h:t.ok){i:Nat}(hi:i<(gU t).length):eA (gU t) i∈DN (eH t).1 (eH t).2:=by
 rw[<-tL h];exact m4 hi
theorem A7(h:t.ok)(hl:kI (λop _ _=>op<=10) t)(hm:(gU t).length<=64):eX (gU t):=by
 have hN:fC (gU t):=vD (pR _ _).pP (yF (λ_ ht _ hc=>ht.wE hc) (lK h).1 (lK h).2);have hp:0<(gU t).length:=by rw[yz];exact List.length_pos_of_mem (pR _ _).mem
 refine⟨eO.2 ⟨hp,aH,λi hi=>lx.2 (hN i hi)⟩,hm,λn hn=>?_⟩;obtain⟨i,hi,rfl⟩:=List.getElem_of_mem hn;have hf:qV (eA (gU t) i):=yF Kk (w7 h hl).1 (w7 h hl).2 _ (FJ h hi);rcases iK hi hN with⟨h1,h2⟩|⟨h1,h2,h3⟩|⟨h1,h2⟩;rw[h2]at hf;have h3:(gU t)[i].op<=3:=hf;have h4:=(hN i hi).op;exact .inl aH;rw[h3]at hf;rcases hf with⟨e1,i',e',g',e2⟩|⟨e1,_⟩;refine .inr ⟨e1,?_⟩;have hx:=(hN i hi).x h1;have hxl:(gU t)[i].x.toNat<(gU t).length:=aH;have:=qt hxl hN;rw[e2]at this;unfold nd;rw[aY,bH hxl];exact this.symm;exact .inl aH;rw[h2]at hf;have:(gU t)[i].op=5\/(gU t)[i].op=6:=hf.1;exact .inl aH
theorem Cj(h:t.ok)(hl:kI (λop _ _=>op<=10) t)(hm:(gU t).length<=64){i:Nat}(hi:i<(gU t).length):0<=jP (gU t) i/\jP (gU t) i<(gU t).length:=by
 have hu:=FJ h hi;obtain⟨c1,c2⟩:=xX h hl;have hfit:Fit (eY (eA (gU t) i)):=by
  have hs:gk (eA (gU t) i)⊆DN (eH t).1 (eH t).2:=lA _ (pR _ _).pP hu (List.nil_subset _);have h1:(gv (eA (gU t) i)).length<=64:=by
   rw[ke];exact dV ((jA _).nd.length_le_of_subset hs) (by rw[<-yz];exact hm)
  have h2:(gk (eY (eA (gU t) i))).length<=(eA (gU t) i::gk (eA (gU t) i)).length+1:=by
   have hs2:gk (eY (eA (gU t) i))⊆eY (eA (gU t) i)::gk (eA (gU t) i):=λu hu=>by
    rcases G1 hu with rfl|hu;exact aF;exact cy _ hu
   have:=(jA (eY (eA (gU t) i))).nd.length_le_of_subset hs2;simp at this⊢;omega
  unfold Fit;rw[ke]at h1⊢;simp at h2;omega
 have hop:jv (tA (gU t) i)=(eH (eA (gU t) i)).2:=by
  unfold tA;rw[show((i:Int)).toNat=i by omega];exact tq hfit
 have hd:(eH (eA (gU t) i)).2∈DN (eH t).1 (eH t).2:=by
  have hall:∀u∈DN (eH t).1 (eH t).2,DE (eH t).1 (eH t).2 u:=λu hu=>
   (yF (p:=pv (DE (eH t).1 (eH t).2)) pv.wE c1 c2 u hu).self;rcases hall _ hu with h1|h1;exact(pR _ _).pre.subset h1;exact lA _ (pR (eH t).1 (eH t).2).pP (pR _ _).mem (List.nil_subset _) h1
 rw[<-tL h]at hd;obtain⟨j,hj,e⟩:=List.getElem_of_mem hd;have hj2:j<(gU t).length:=by rwa[fW]at hj
 have hf:((List.range (gU t).length).find? (λj=>decide (eA (gU t) j=jv (tA (gU t) i)))).isSome=true:=by
  rw[List.find?_isSome];exact⟨j,dO.2 hj2,by rw[hop,ju hj2,e];simp⟩
 unfold jP;cases e2:(List.range (gU t).length).find? (λj=>decide (eA (gU t) j=jv (tA (gU t) i)))with
 |none=>rw[e2]at hf;cases hf
 |some k=>
  have:=dO.1 (List.mem_of_find?_eq_some e2);simp only;omega
end
noncomputable def L6(l:Int)(t:Tr)(ag:eF):TC:=⟨l,gU t,(List.range (gU t).length).map (λi=>jP (gU t) (i:Nat)),ag⟩
def km(t:Tr):Nat:=(gk (eH t).1).length - 1
section
variable{l:Int}{t:Tr}{ag:eF}
theorem A6(h0:0<=l/\l<=6)(h:t.ok)(hl:kI (λop _ _=>op<=10) t)(hm:(gU t).length<=64):yK (L6 l t ag):=by
 have hng:∀i,i<(gU t).length->(L6 l t ag).m i=jP (gU t) i:=λi hi=>by
  show((List.range (gU t).length).map (λi=>jP (gU t) (i:Nat))).getD i (-1)=_;rw[aY,dc,List.getElem?_range hi];rfl
 exact⟨h0,A7 h hl hm,hng,λi hi _=>by rw[hng i hi];exact Cj h hl hm hi⟩
theorem xO(h:t.ok):km t<(gU t).length/\eA (gU t) (km t)=(eH t).1:=by
 obtain⟨q,hq⟩:=ov (eH t).1;obtain⟨r,hr⟩:=(pR (eH t).1 (eH t).2).pre;have e1:km t=q.length:=by unfold km;rw[hq];simp
 have e2:DN (eH t).1 (eH t).2=q++(eH t).1::r:=by rw[<-hr,hq];simp
 have h1:km t<(gU t).length:=by rw[yz,e2,e1];simp
 refine⟨h1,?_⟩;have h2:(trees (gU t))[km t]?=some (eH t).1:=by
  rw[tL h,e2,e1,aZ (dZ _)];simp
 rw[ju h1];exact(bu.1 h2).2
theorem rN(h:t.ok)(hm:(gU t).length<=64):iA (gU t) (bW (km t:Nat)):=mQ hm ⟨aH,by have:=(xO h).1;omega⟩
noncomputable def rI(l:Int)(t:Tr)(ag:eF):Option ((Int×Int)×TS):=gx (L6 l t ag) (2^(gU t).length+1) [] ⟨[],[]⟩ (bW (km t:Nat))
theorem CO(h0:0<=l/\l<=6)(h:t.ok)(hl:kI (λop _ _=>op<=10) t)(hm:(gU t).length<=64):∃z,rI l t ag=some z:=
 rP (A6 h0 h hl hm) _ [] dP aL (by show 2^(gU t).length<_;simp) _ _ ⟨λk hk=>by simp at hk,by simp⟩ (rN h hm)
theorem GX{b:List NV}{ss:List SD}{m:Nat}(hc:∀(k:Nat) (hk:k<ss.length),ir l b ss k ss[k])(hm:m<=ss.length):∀(k:Nat) (hk:k<(ss.take m).length),ir l b (ss.take m) k (ss.take m)[k]:=λk hk=>by
 have h1:k<m:=by simp at hk;omega
 rw[List.getElem_take];exact Dl h1 hm (hc k aH)
theorem G4(h0:0<=l/\l<=6)(h:t.ok)(hl:kI (λop _ _=>op<=10) t)(hm:(gU t).length<=64){n low:Int}{σ:TS}(e:rI l t ag=some ((n,low),σ))(hn:0<=n)(hs:(tB (σ.ss.take (n.toNat+1))).length<=4096):
  n<σ.ss.length/\iT l (gU t) (tB (σ.ss.take (n.toNat+1)))/\fN (tB (σ.ss.take (n.toNat+1))) ((tB (σ.ss.take (n.toNat+1))).length - 1:Nat)=bW (km t:Nat):=by
 obtain⟨k1,a1⟩:=l9 (A6 h0 h hl hm) _ [] _ _ _ _ _ (show o8 (L6 l t ag) ([]:List SD)from⟨λk hk=>by simp at hk,by simp⟩) (rN h hm) e;have ha:0<=n/\n<σ.ss.length/\fN σ.ss n=bW (km t:Nat):=by
  rcases a1 with a1|a1;omega;exact a1
 have hlen:(σ.ss.take (n.toNat+1)).length=n.toNat+1:=by simp;omega
 obtain⟨r1,r2⟩:=MN h0 (A7 h hl hm) (GX k1.ok.nR (m:=n.toNat+1) aH) aH hs;refine⟨ha.2.1,r1,r2.trans ?_⟩;rw[hlen,Nat.add_sub_cancel];have h3:=rL (ss:=σ.ss.take (n.toNat+1)) (ys:=σ.ss.drop (n.toNat+1)) (k:=(n.toNat:Int)) (by rw[hlen];omega);rw[List.take_append_drop]at h3;rw[<-h3,show((n.toNat:Nat):Int)=n by omega];exact ha.2.2
end
section
variable{ts us:List Tr}{t:Tr}
def fS(ts us:List Tr):List Tr:=us.foldl (λa u=>nF u a) ts
theorem uj {u:Tr}:fS ts (us++[u])=nF u (fS ts us):=by simp[fS]
theorem EF{u:Tr} :u∈nF t ts↔u∈ts\/u=t:=by
 unfold nF;split;rename_i h;exact⟨.inl,λe=>e.elim id (λe=>e ▸ h)⟩;simp
theorem ni :∀{us:List Tr} {u:Tr},u∈fS ts us↔u∈ts\/u∈us:=by
 intro us
 induction us generalizing ts with
 |nil=>simp[fS]
 |cons x us ih=>
  intro u;show u∈fS (nF x ts) us↔_;rw[ih,EF,dS];constructor;rintro ((h|h)|h);exact .inl h;exact .inr (.inl h);exact .inr (.inr h);rintro (h|h|h);exact .inl (.inl h);exact .inl (.inr h);exact .inr h
theorem FI  (hc:mK ts)(ht:∀c∈kids t,c∈ts):mK (nF t ts):=by
 unfold nF;split;exact hc;exact hc.snoc ht
theorem HI  (hn:ts.Nodup):(nF t ts).Nodup:=by
 unfold nF;split;exact hn;rename_i h;exact m9 hn h
theorem ui {k:Nat}(hk:k<us.length):fS ts (us.take (k+1))=nF us[k] (fS ts (us.take k)):=by
 rw[aU hk,uj]
theorem tS{ts us:List Tr}(hc:mK ts)(hn:ts.Nodup)(hu:mK us):∀k,k<=us.length->mK (fS ts (us.take k))/\(fS ts (us.take k)).Nodup
 |0,_=>by simpa[fS]using⟨hc,hn⟩
 |k+1,hk=>by
  obtain⟨h1,h2⟩:=tS hc hn hu k aH;rw[ui aH];exact⟨FI h1 (λc hc=>ni.2 (.inr (hu k aH c hc))),HI h2⟩
theorem mf (hc:mK ts)(hn:ts.Nodup)(hu:mK us):mK (fS ts us)/\(fS ts us).Nodup:=by
 have:=tS hc hn hu us.length (dZ _);rwa[dx]at this
theorem rq  :fS ts (nF t us)=nF t (fS ts us):=by
 by_cases h:t∈us;rw[show nF t us=us from if_pos h];exact(if_pos (ni.2 (.inr h))).symm;rw[show nF t us=us++[t]from if_neg h,uj]
theorem yH (hc:mK ts)(hn:ts.Nodup)(t:Tr):∀{us:List Tr},mK us->us.Nodup->fS ts (visit t us)=visit t (fS ts us):=by
 induction t with
 |leaf op i e g=>
  intro us hu hun;rw[<-l8 hu hun,rq,<-l8 (mf hc hn hu).1 (mf hc hn hu).2];rfl
 |un op i e g a ih=>
  intro us hu hun;rw[<-l8 hu hun,rq,<-l8 (mf hc hn hu).1 (mf hc hn hu).2];show nF _ (fS ts (visit a us))=nF _ (visit a (fS ts us));rw[ih hu hun]
 |bin op i e g a b iha ihb=>
  intro us hu hun;rw[<-l8 hu hun,rq,<-l8 (mf hc hn hu).1 (mf hc hn hu).2];show nF _ (fS ts (visit b (visit a us)))=nF _ (visit b (visit a (fS ts us)));rw[ihb (kz a hu hun).pP (kz a hu hun).nd,iha hu hun]
theorem wk (hc:mK ts)(hn:ts.Nodup)(t:Tr):fS ts (gk t)=visit t ts:=
 (yH hc hn t mK.nil dP).trans (by simp[fS])
end
section
variable{f:List NV}{ts:List Tr}{k:Nat}
structure JA (f:List NV) (ts:List Tr) (k:Nat) (as:ar):Prop where
  len:as.length=f.length
  at_:∀j,j<k->eA f j∈ts/\as.getD j 0=(ts.idxOf (eA f j):Int)
theorem JA.start  :JA f ts 0 (List.replicate f.length 0):=⟨by simp,λj hj=>absurd hj (dK _)⟩
theorem JA.step {us:List Tr} {as:ar}(h:JA f ts k as)(hk:k<f.length)(hp:ts<+:us)(hm:eA f k∈us):JA f us (k+1) (as.set k (us.idxOf (eA f k):Int)):=
 ⟨by rw[dE];exact h.len,λj hj=>by
  have hl:=h.len;by_cases e:j=k;subst e;exact⟨hm,by simp[hl,hk]⟩;obtain⟨h1,h2⟩:=h.at_ j aH;refine⟨hp.subset h1,?_⟩;rw[oW hp h1,<-h2];simp[Ne.symm e]⟩
def Ak(n:NV)(as:ar):NV:={n with x:=if 4<=n.op then as.getD n.x.toNat 0 else n.x,y:=if 5<=n.op/\n.op<=8 then as.getD n.y.toNat 0 else n.y}
theorem EV{n:NV}{as:ar}{v:Int}(h:(Ak n as).y=v):Ak n as=⟨n.op,n.i,n.e,n.g,(Ak n as).x,v⟩:=by rw[<-h];rfl
theorem HW   {as:ar}(h:JA f ts k as)(hk:k<f.length)(hO:fC f)(ho:f[k].op<=10):Ak f[k] as=fM ts (eA f k):=by
 have hN:=hO k hk;have hx:iX f[k].op=true↔4<=f[k].op:=by unfold iX;simp;omega
 have hy:ij f[k].op=true↔5<=f[k].op/\f[k].op<=8:=by unfold ij;simp;omega
 unfold Ak;rcases iK hk hO with⟨h1,ht⟩|⟨h1,h2,ht⟩|⟨h2,ht⟩;have h2:ij f[k].op=false:=by
  cases e:ij f[k].op with
  |false=>rfl
  |true=>rw[jz e]at h1;cases h1
 have a1:¬4<=f[k].op:=λe=>by rw[hx.2 e]at h1;cases h1
 have a2:¬(5<=f[k].op/\f[k].op<=8):=λe=>by rw[hy.2 e]at h2;cases h2
 rw[ht,if_neg a1,if_neg a2,hN.x0 h1,hN.y0 h2];rfl;have a1:=hx.1 h1;have a2:¬(5<=f[k].op/\f[k].op<=8):=λe=>by rw[hy.2 e]at h2;cases h2
 have hb:=hN.x h1;rw[ht,if_pos a1,if_neg a2,(h.at_ f[k].x.toNat aH).2,hN.y0 h2];rfl;have a2:=hy.1 h2;have h1:=jz h2;have hb:=hN.x h1;have hc:=hN.y h2;rw[ht,if_pos (hx.1 h1),if_pos a2,(h.at_ f[k].x.toNat aH).2,(h.at_ f[k].y.toNat aH).2];rfl
def ou(ts:List Tr)(f:List NV)(k:Nat):List Tr:=fS ts ((trees f).take k)
theorem so  :ou ts f 0=ts:=by simp[ou,fS]
theorem vK   (hk:k<f.length):ou ts f (k+1)=nF (eA f k) (ou ts f k):=by
 unfold ou;rw[ui (by rw[fW];exact hk),ju hk]
theorem HY  :ou ts f f.length=fS ts (trees f):=by
 unfold ou;rw[bR (by rw[fW];exact dZ _)]
theorem BY{ts:List Tr}{f:List NV}:∀{k:Nat},k<=f.length->(ou ts f k).length<=ts.length+k
 |0,_=>by rw[so];exact dZ _
 |k+1,hk=>by
  have ih:=@BY ts f k aH;rw[vK aH];unfold nF;split;omega;simp;omega
theorem KD  (hc:mK ts)(hn:ts.Nodup)(hw:∀u∈ts,u.wf)(hO:fC f) (hk:k<=f.length):mK (ou ts f k)/\(ou ts f k).Nodup/\∀u∈ou ts f k,u.wf:=by
 obtain⟨h1,h2⟩:=tS hc hn hO.ord.pP k (by rw[fW];exact hk);refine⟨h1,h2,λu hu=>?_⟩;rcases ni.1 hu with hu|hu;exact hw u hu;exact u7 f u (cG hu)
def LG(b:List NV)(n:NV)(r:Int):Prop:=(∃k:Nat,r=k/\b[k]?=some n/\∀j,j<k->b[j]?≠some n)\/(r=-1/\∀k:Nat,b[k]?≠some n)
theorem BZ (hc:mK ts)(hn:ts.Nodup)(hw:∀u∈ts,u.wf){t:Tr}(ht:t∈ts){r:Int}(h:LG (eJ ts) (fM ts t) r):r=(ts.idxOf t:Int):=by
 obtain⟨h1,h2⟩:=BB hc hn hw ht;rcases h with⟨k,rfl,h3,h4⟩|⟨_,h3⟩;rcases Nat.lt_trichotomy k (ts.idxOf t)with e|e|e;exact absurd h3 (h2 k e);rw[e];exact absurd h1 (h4 _ e);exact absurd h1 (h3 _)
theorem H8 (hc:mK ts)(hw:∀u∈ts,u.wf){t:Tr}(htw:t.wf)(hk:∀c∈kids t,c∈ts)(ht:t∉ts){r:Int}(h:LG (eJ ts) (fM ts t) r):r=-1:=by
 rcases h with⟨k,_,h3,_⟩|⟨h3,_⟩;exact absurd h3 (BC hc hw htw hk ht k);exact h3
end
section
variable{α:Type}{f:Nat->Option α}
theorem re{n k:Nat}{y:α}(hk:k<n)(h0:∀j,j<k->f j=none)(h:f k=some y):(List.range n).findSome? f=some y:=by
 obtain⟨m,rfl⟩:∃m,n=(k+1)+m:=⟨n - (k+1),aH⟩;have h1:∀m,(∀j,j<m->f j=none)->(List.range m).findSome? f=none:=λm hm=>by
  rw[List.findSome?_eq_none_iff];intro j hj;exact hm j (dO.1 hj)
 rw[List.range_add,List.findSome?_append,dJ,List.findSome?_append,h1 k h0];simp[h]
theorem E7{n:Nat}(h0:∀j,j<n->f j=none):(List.range n).findSome? f=none:=by
 rw[List.findSome?_eq_none_iff];intro j hj;exact h0 j (dO.1 hj)
theorem uR{k:Nat}:(List.range (k+1)).filterMap f=(List.range k).filterMap f++(f k).toList:=by
 rw[dJ,List.filterMap_append];cases h:f k<;>simp[h]
end
def Lc(c:TC)(s:eF)(i:Nat):Option SD:=
 if fw s i=true then
  if (c.n i).op=2 then some ⟨s,1,i,0,[]⟩
  else if fw s (c.m i)=true then some ⟨s,1,i,c.m i,[]⟩else none
 else none
theorem qC{c:TC}{s:eF}:od c s=(List.range c.b.length).findSome? (Lc c s):=rfl
def DJ(c:TC)(s:eF)(i:Nat):Option (SD×List eF):=
 if fw s i=true/\(c.n i).op=5/\s &&& (bW (c.n i).x|||bW (c.n i).y)≠bW (c.n i).x|||bW (c.n i).y then some (SD.mk s 2 i 0 [],[s|||bW (c.n i).x|||bW (c.n i).y])
 else if fw s i=true/\(c.n i).op=9/\c.BA=true/\s &&& bW (c.n i).x=0#64 then some (SD.mk s 5 i 0 [],[s|||bW (c.n i).x])else none
def Gy(c:TC)(s:eF)(i:Nat):Option (SD×List eF):=
 if fw s i=true/\(c.n i).op=6/\s &&& (bW (c.n i).x|||bW (c.n i).y)=0#64 then some (SD.mk s 3 i 0 [],[s|||bW (c.n i).x,s|||bW (c.n i).y])
 else if c.cut=true/\(c.n i).op=9/\fw s i=false/\fw s (c.m i)=false then some (SD.mk s 4 i (c.m i) [],[s|||bW i,s|||bW (c.m i)])else none
theorem yb{c:TC}{s:eF}{r}(h:(List.range c.b.length).findSome? (DJ c s)=some r):kV c s=some r:=by
 unfold kV;show(match (List.range c.b.length).findSome? (DJ c s)with|some r=>some r|none=>(List.range c.b.length).findSome? (Gy c s))=_;rw[h]
theorem BU{c:TC}{s:eF}(h:(List.range c.b.length).findSome? (DJ c s)=none):kV c s=(List.range c.b.length).findSome? (Gy c s):=by
 unfold kV;show(match (List.range c.b.length).findSome? (DJ c s)with|some r=>some r|none=>(List.range c.b.length).findSome? (Gy c s))=_;rw[h]
def Od(c:TC)(s:eF)(i:Nat):Option (SD×eF):=if fw s i=true/\(c.n i).op=10 then some (SD.mk s 6 i 0 [],bW (c.n i).x|||lp c.l c.b s (c.n i).i)else none
def Oc(c:TC)(s:eF)(a:Nat):Option (SD×eF):=if c.ag.getLsbD a=true/\(c.l=1\/c.l=5)then some (SD.mk s 7 a 0 [],lp c.l c.b s a)else none
def jL(c:TC)(s:eF)(k a:Nat):List (SD×eF):=(List.range k).filterMap (Od c s)++(List.range a).filterMap (Oc c s)
theorem u5{c:TC}{s:eF}:jx c s=jL c s c.b.length 4:=rfl
theorem DS{c:TC}{s:eF}{k a:Nat}:(jL c s k a).length<=k+a:=by
 unfold jL;rw[cQ];have h1:=List.length_filterMap_le (Od c s) (List.range k);have h2:=List.length_filterMap_le (Oc c s) (List.range a);rw[List.length_range]at h1 h2;omega
theorem zq{c:TC}{s:eF}{y:SD}{xs:List eF}(e:kV c s=some (y,xs)):y.fr=[]/\0<xs.length/\xs.length<=2:=by
 cases h:(List.range c.b.length).findSome? (DJ c s)with
 |some r=>
  rw[yb h]at e;cases e;obtain⟨i,_,hi⟩:=aT h;unfold DJ at hi;split at hi;cases hi;exact⟨rfl,by simp,by simp⟩;split at hi;cases hi;exact⟨rfl,by simp,by simp⟩;cases hi
 |none=>
  rw[BU h]at e;obtain⟨i,_,hi⟩:=aT e;unfold Gy at hi;split at hi;cases hi;exact⟨rfl,by simp,by simp⟩;split at hi;cases hi;exact⟨rfl,by simp,by simp⟩;cases hi
def Lz(path:List eF)(σ σ1:TS):Prop:=∀p∈path,p∈σ1.op->p∈σ.op
section
variable{c:TC}{path:List eF}{r:TS->eF->Option ((Int×Int)×TS)}
theorem Cy(hr:∀σ s z σ1,r σ s=some (z,σ1)->Lz path σ σ1):∀{xs:List eF} {fr:ar} {σ σ1:TS} {z},pw r xs fr σ=some (z,σ1)->Lz path σ σ1
 |[],fr,σ,σ1,z,e=>by unfold pw at e;cases e;exact λ_ _ h=>h
 |x::xs,fr,σ,σ1,z,e=>by
  unfold pw at e;cases e1:r σ x with
  |none=>rw[e1]at e;cases e
  |some q=>
   obtain⟨⟨n,low⟩,σ2⟩:=q;rw[e1]at e;simp only at e;have k1:=hr _ _ _ _ e1;by_cases hn:n<0;rw[if_pos hn]at e;cases e;exact k1;rw[if_neg hn]at e;exact λp hp h=>k1 p hp (Cy hr e p hp h)
theorem Cv(hr:∀σ s z σ1,r σ s=some (z,σ1)->Lz path σ σ1):∀{xs:List (SD×eF)} {low:Int} {σ σ1:TS} {z},o7 r xs low σ=some (z,σ1)->Lz path σ σ1
 |[],low,σ,σ1,z,e=>by unfold o7 at e;cases e;exact λ_ _ h=>h
 |(y,x)::xs,low,σ,σ1,z,e=>by
  unfold o7 at e;cases e1:r σ x with
  |none=>rw[e1]at e;cases e
  |some q=>
   obtain⟨⟨n,lw⟩,σ2⟩:=q;rw[e1]at e;simp only at e;have k1:=hr _ _ _ _ e1;by_cases hn:0<=n;rw[if_pos hn]at e;cases e;exact k1;rw[if_neg hn]at e;exact λp hp h=>k1 p hp (Cv hr e p hp h)
theorem vY{d:Nat}{s:eF}(hr:∀σ s z σ1,r σ s=some (z,σ1)->Lz path σ σ1){σ σ1:TS}{z}(e:jE c r d s σ=some (z,σ1)):Lz path σ σ1:=by
 unfold jE at e;cases e1:kV c s with
 |some q=>
  obtain⟨y,xs⟩:=q;rw[e1]at e;simp only at e;cases e2:pw r xs [] σ with
  |none=>rw[e2]at e;cases e
  |some q=>
   obtain⟨u,σ2⟩:=q;have:=Cy hr e2;rw[e2]at e;cases u<;>(cases e;exact this)
 |none=>
  rw[e1]at e;simp only at e;cases e2:o7 r (jx c s) (d+1) σ with
  |none=>rw[e2]at e;cases e
  |some q=>
   obtain⟨u,σ2⟩:=q;have:=Cv hr e2;rw[e2]at e;cases u<;>(cases e;exact this)
end
theorem vr{c:TC}:∀(k:Nat) (path:List eF) (σ:TS) (s:eF) {z} {σ1:TS},gx c k path σ s=some (z,σ1)->Lz path σ σ1
 |0,_,_,_,_,_,e=>by cases e
 |k+1,path,σ,s,z,σ1,e=>by
  rw[gx]at e;cases e1:nG σ.ss s with
  |some n=>rw[e1]at e;cases e;exact λ_ _ h=>h
  |none=>
   rw[e1]at e;simp only at e;by_cases h1:s∈σ.op;rw[if_pos h1]at e;cases e;exact λ_ _ h=>h;rw[if_neg h1]at e;cases e2:path.findIdx? (·==s)with
   |some a=>rw[e2]at e;cases e;exact λ_ _ h=>h
   |none=>
    rw[e2]at e;simp only at e;cases e3:od c s with
    |some y=>rw[e3]at e;cases e;exact λ_ _ h=>h
    |none=>
     rw[e3]at e;simp only at e;cases e4:jE c (gx c k (path++[s])) path.length s σ with
     |none=>rw[e4]at e;cases e
     |some q=>
      obtain⟨⟨n,low⟩,σ2⟩:=q;have hk:=vY (λσ s z σ1 h=>vr k _ σ s h) e4;have hp:s∉path:=λhm=>by
       rw[br]at e2;have:=e2 s hm;simp at this
      rw[e4]at e;simp only at e;cases e;intro p hpm h;split at h;rcases dG.1 h with h|h;exact hk p (by simp[hpm]) h;rw[cS.1 h]at hpm;exact absurd hpm hp;exact hk p (by simp[hpm]) h
section
variable{P:av}{r:ah}{f:ay}{R:aC->aB->Prop}{w0:aB}{S:aq}{Y:List (Nat×Obj)}{n:Nat}{k:al}{l:Fl}{h hb:Hl}{ops:aj}{q:Nat}{Dn:aq}
theorem fh.l0{i d:Nat}{ty:ax}{pos:aA}{aft:ak}{g:Option (Nat×Bool)}{az:aa}{ts:ab}{cal:au}{gf:ay}{fs cs vs:ai}{hC hF:Hl}(hp:h.Perm (hC++hF))(Rc:aB->aC->Hl->Prop)(h1:eR ops Dn=[i])(ho:ops[i]?=some ⟨some d,.call ⟨.value cal,az,ts⟩,ty,pos,aft,g⟩)(hw:eL ops l g=true)
  (hc:eZ l cal=some (.func (.func gf) fs.toArray cs.toArray))(hx:iw l az.toList=some vs)(hd:Nat.blt d n=true)(hcf:∀args w,(callFunc gf args).run P w=.ok (.enter gf args) w)
  (hcall:∀w Y',St w0 S w (hC++hF) Y'->tU P gf (fs++vs++cs) w hC (Rc w))
  (hk:∀w v h',Rc w v h'->∃H,(h'++hF).Perm H/\hb.Sublist H/\fh P r f R w0 S Y n k ops hb q (i::Dn) ((d,v)::l) H):fh P r f R w0 S Y n k ops hb (q+1) Dn l h:=by
 refine fh.one h1 ⟨_,ho,rfl,rfl,rfl,hd,.inl ⟨hw,λt w Ds Y' hF' hS=>.inr ⟨gf,(fs++vs++cs).toArray,λv w'=>∃h',Rc w v h'/\St w (gV hC) w' h' [],?_,?_,λv w' ⟨h',h1,h2⟩=>?_⟩⟩⟩ hd;have e1:=mq (P:=P) (ty:=ty) (ts:=ts) (Ds:=Ds) (w:=w) hF' hc hx;simp only[execOp,Sem.run_bind,e1,Result.andThen_ok,invoke,hcf];simp;exact Calls.mono (hcall w Y' (hS.perm hp)) (λe w' ⟨v,h',e1,e2,e3⟩=>⟨v,e1,h',e2,e3⟩);obtain⟨H,hp2,hs,hg⟩:=hk w v h' h1;exact⟨H,((hS.perm hp).frame h2).perm hp2,hs,hg⟩
end
section
variable{P:av}{r:ah}{f:ay}{R:aC->aB->Prop}{w0:aB}{Y:List (Nat×Obj)}{n:Nat}{k:al}{l:Fl}{hb:ah×Obj}{ops:aj}{i d:Nat}{ty:ax}{pos:aA}{aft:ak}{g:Option (Nat×Bool)}
variable{az:aa}{ts:ab}{cal:au}{gf:ay}{vs:ai}{t tn:ax}{c:List NV}{na:ae}{nc bk m0 m1 D D':Nat}{L0 L1 La Lb:Nm}{F:Hl}{u:Tr}{q:Nat}{Dn:aq}
theorem fh.rZ(hp:rv t tn c na nc bk m0 m1 w0 L0 L1)(gr:ig t c D L0 L1 La Lb F)(hj:D'<=D)(h1:eR ops Dn=[i])(ho:ops[i]?=some ⟨some d,.call ⟨.value cal,az,ts⟩,ty,pos,aft,g⟩)(hw:eL ops l g=true)
  (hc:eZ l cal=some (.func (.func gf) #[] #[]))(hx:iw l az.toList=some vs)(hd:Nat.blt d n=true)(hcf:∀args w,(callFunc gf args).run P w=.ok (.enter gf args) w)
  (hof:∀w L0 L1,rv t tn c na nc bk m0 m1 w L0 L1->tU P gf vs w (oL m0 L0 m1 L1) (oi t c m0 m1 D' u L0 L1))
  (hk:∀fv La' Lb' F',ig t c D L0 L1 La' Lb' F'->(∀x,kY t La Lb F x->kY t La' Lb' F' x)->fv.f=bT u->kY t La' Lb' F' fv->fh P r f R w0 [m0,m1] Y n k ops [hb] q (i::Dn) ((d,fv.v)::l) (hb::(oL m0 La' m1 Lb'++F'))):
  fh P r f R w0 [m0,m1] Y n k ops [hb] (q+1) Dn l (hb::(oL m0 La m1 Lb++F)):=by
 refine fh.l0 (hC:=oL m0 La m1 Lb) (hF:=hb::F) (fs:=[]) (cs:=[]) uG (λ_=>oi t c m0 m1 D' u La Lb) h1 ho hw hc hx hd hcf (λw Y' hS=>?_) (λw v h' hR=>?_);rw[dI,dC];exact hof w _ _ (hp.step hS (bL _ _) (λ_ h=>bX _ (cy _ h)) gr);obtain⟨fv,La',Lb',F2,rfl,rfl,g2,hf,hh⟩:=hR;exact⟨hb::(oL m0 La' m1 Lb'++(F2++F)),BE,.cons_cons _ aE,hk fv La' Lb' (F2++F) (gr.seq g2 hj (bP _ _) (List.subset_append_left _ _)) (λx hx=>hx.mono g2.s0 g2.s1 (bP _ _)) hf (hh.mono (λ_ h=>h) (λ_ h=>h) (List.subset_append_left _ _))⟩
theorem fh.kk(hp:rv t tn c na nc bk m0 m1 w0 L0 L1)(gr:ig t c D L0 L1 La Lb F)(hj:D'<=D)(hcf:∀args w,(callFunc gf args).run P w=.ok (.enter gf args) w)(hof:∀w L0 L1,rv t tn c na nc bk m0 m1 w L0 L1->tU P gf vs w (oL m0 L0 m1 L1) (oi t c m0 m1 D' u L0 L1))(hk:∀fv La' Lb' F',ig t c D L0 L1 La' Lb' F'->(∀x,kY t La Lb F x->kY t La' Lb' F' x)->fv.f=bT u->kY t La' Lb' F' fv->fh P r f R w0 [m0,m1] Y n k ops [hb] q (i::Dn) ((d,fv.v)::l) (hb::(oL m0 La' m1 Lb'++F')))(h1:eR ops Dn=[i]:=by exact rfl)(ho:ops[i]?=some ⟨some d,.call ⟨.value cal,az,ts⟩,ty,pos,aft,g⟩:=by exact rfl)(hw:eL ops l g=true:=by exact rfl)(hc:eZ l cal=some (.func (.func gf) #[] #[]):=by exact rfl)(hx:iw l az.toList=some vs:=by exact rfl)(hd:Nat.blt d n=true:=by exact rfl):fh P r f R w0 [m0,m1] Y n k ops [hb] (q+1) Dn l (hb::(oL m0 La m1 Lb++F)):=fh.rZ (hp:=hp) (gr:=gr) (hj:=hj) (h1:=h1) (ho:=ho) (hw:=hw) (hc:=hc) (hx:=hx) (hd:=hd) (hcf:=hcf) (hof:=hof) (hk:=hk)
theorem fh.xZ(gr:ig t c D L0 L1 La Lb F)(h1:eR ops Dn=[i])(ho:ops[i]?=some ⟨some d,.call ⟨.value cal,az,ts⟩,ty,pos,aft,g⟩)(hw:eL ops l g=true)
  (hc:eZ l cal=some (.func (.func gf) #[] #[]))(hx:iw l az.toList=some vs)(hd:Nat.blt d n=true)(hcf:∀args w,(callFunc gf args).run P w=.ok (.enter gf args) w)
  (hcall:∀w Y',St w0 [m0,m1] w (hb::(oL m0 La m1 Lb++F)) Y'->Cn P gf vs w (λv w'=>eV t w w' v (bT u)))
  (hk:∀fv F',ig t c D L0 L1 La Lb F'->(∀x,kY t La Lb F x->kY t La Lb F' x)->fv.f=bT u->kY t La Lb F' fv->fh P r f R w0 [m0,m1] Y n k ops [hb] q (i::Dn) ((d,fv.v)::l) (hb::(oL m0 La m1 Lb++F'))):
  fh P r f R w0 [m0,m1] Y n k ops [hb] (q+1) Dn l (hb::(oL m0 La m1 Lb++F)):=by
 refine fh.call (λw v w'=>eV t w w' v (bT u)) h1 ho hw hc hx hd hcf hcall (λv w w' Y' hS he hO=>?_);obtain⟨qq,cap,sp,rfl,hq,eK,hS'⟩:=eW hS he hO;have hpm:((qq,jc t (bT u) sp)::hb::(oL m0 La m1 Lb++F)).Perm (hb::(oL m0 La m1 Lb++((qq,jc t (bT u) sp)::F))):=
  (List.Perm.swap _ _ _).trans (List.Perm.cons _ uG);refine⟨_,hS'.perm hpm,.cons_cons _ aE,?_⟩;have e1:fL qq (bT u).length cap=FV.v ⟨qq.map aP,cap,bT u⟩:=by cases qq<;>rfl
 rw[e1];exact hk _ _ (gr.mono (dZ _) (cm _ _)) (λx hx=>hx.mono (λ_ h=>h) (λ_ h=>h) (cm _ _)) rfl (.inl ⟨qq,sp,aF,rfl,hq,eK⟩)
end
end Go.Proofs.Wit

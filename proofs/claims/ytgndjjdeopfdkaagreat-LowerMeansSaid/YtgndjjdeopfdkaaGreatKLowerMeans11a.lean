import Derived.Test.YtgndjjdeopfdkaaGreatKLowerMeans10
/- texts QT OC of the proof of LowerMeansSaid -/
set_option maxHeartbeats 16000000
set_option maxRecDepth 20000
set_option linter.unusedVariables false
set_option linter.unusedSimpArgs false
namespace Go.Proofs.YtgndjjdeopfdkaaGreat
open Go.SX Go.RowKit
abbrev ajl:DT:=(bS [0,1,5,6,7,8] (.alt 2 (.alt 3 (.alt 4 (bS [109,110,111,112,113,114] .done) (.one 9 (.alt 4 (bS [110,111,112,113,114] .done) (bS [110,104,111,112,113,114] .done)))) (.one 9 (.alt 3 (.alt 4 (bS [110,111,112,113,114] .done) (bS [110,104,111,112,113,114] .done)) (bS [110,103,104,111,112,113,114] .done)))) (.one 9 (.alt 2 (.alt 3 (.alt 4 (bS [110,111,112,113,114] .done) (bS [110,104,111,112,113,114] .done)) (bS [110,103,104,111,112,113,114] .done)) (bS [110,102,103,104,111,112,113,114] .done)))))
theorem agC(w:World)(g:bM)(o:DZ)(m:Nat)(hg:g.ok w)(hs:nJ o m)(hsp:(cZ g).1=0)(htd:o.tidy=false)(r:yx×Int)
 (hbad:(iw o.aV m (check g).2 []).2≠0->r=(Ca,(iw o.aV m (check g).2 []).2))
 (hgood:(iw o.aV m (check g).2 []).2=0->∀c:fT,c.aA=m->c.giant=o.giant->c.shapes.l.map ax.xs=(check g).2->(∀u∈c.shapes.l,u.bF)->c.di.l.map ax.xs=(iw o.aV m (check g).2 []).1->(∀u∈c.di.l,u.bF)->(∀(i:Nat) (n:ak),g.l[i]? =some n->Hu c n i (ww n.ai))/\uW c g=r):
 Calls Tryz.prog 9 #[g.val,o.val,.int .i64 m] w (vD w r):=by
 obtain⟨hck,_,_⟩:=jC hsp;obtain⟨hl1,Ez,hout,hcl,hin⟩:=gK hck;obtain⟨s1,s2,s3,s4,s5⟩:=hs;refine fH Tryz.func9 [.agg [.c (.slice g.base g.l.length g.cap),aC g.out],.agg [aC o.aV,.c (.bool o.tidy),.c (.bool o.lazy),.c (.bool o.giant),aC o.rows],aC m] ?_;repeat' ((conv=>whnf)<;>first|(show Ci ..;refine G5 ?_)|(show @iG _ _ _;(first|refine jc aa ?_))|(show aJ _ 22 ..;refine wZ (f:=22) (cZ g) Tryz.call22 (λρ w' hw=>yj w' g (ae hw λR h=>hg.later h)) (λh=>absurd hsp h) (λ_ qb qc=> ?_))|refine a_ ?_)
 refine Fp (λ_=>rfl) (λht=> ?_) (λ_=> ?_)
 ·rw[htd]at ht;cases ht
 repeat' ((conv=>whnf)<;>first|(show aJ _ 24 ..;refine BK (f:=24) (check g) Tryz.call24 (λρ w' hw=>qE w' g (ae hw λR h=>hg.later h.1)) (λh=>absurd hck h) (λ_ sv hm hsv hsc=> ?_))|refine a_ ?_)
 have hsl:sv.l.length=g.l.length:=by have:=congrArg List.length hm;rw[aas]at this;omega
 obtain⟨Z,hZ0⟩:∃Z,iw o.aV m ((sv.l.drop 0).map ax.xs) []=Z:=⟨_,rfl⟩;have hZg:iw o.aV m (check g).2 []=Z:=by rw[<-hZ0,List.drop_zero];exact congrArg (λz=>iw o.aV m z []) hm.symm
 rw[hZg]at hbad hgood;refine Wp.loop (σ:=Nat×List ax) 5 (λq=>[(2,aC m),(3,.lp 0 0 0 0),(4,.lp 1 0 0 0),(6,.lp 2 0 0 0),(10,.lp 3 0 0 0),(75,.c sv.val),(76,aC sv.l.length),(77,aC q.1)])
  (λq=>[(4,.rows (bA q.2) 1 32),(3,.box [aC m,.c (.slice none 0 0),.c (.slice none 0 0),.c (.slice none 0 0),aC 0,.c (.slice none 0 0),.c (.bool o.giant),.c sv.val,.os 4 q.2.length,.c (.slice none 0 0)] 71),(2,.box [aC 0,.c (.slice none 0 0),.c (.slice none 0 0),.c (.slice none 0 0),aC 0,.c (.slice none 0 0)] 34),(1,.box [aC o.aV,.c (.bool o.tidy),.c (.bool o.lazy),.c (.bool o.giant),aC o.rows] 26),(0,.box [.c (.slice g.base g.l.length g.cap),aC g.out] 24)])
  (λq=>aly w sv q.2) (λq=>q.1<=sv.l.length/\q.2.length=q.1/\(∀u∈q.2,u.bF/\0<u.xs.length)/\iw o.aV m ((sv.l.drop q.1).map ax.xs) (q.2.map ax.xs)=Z) (λq=>sv.l.length-q.1) (0,[]) [(4,none)] ay (λq=>⟨rfl,rfl⟩) ⟨aae _,rfl,λ_ h=>bT,hZ0⟩
  ⟨rfl,⟨rfl,rfl,rfl,rfl,rfl,rfl,rfl,rfl,trivial⟩,⟨rfl,aj,aj,aj,aj,trivial⟩,λR w' h=>⟨⟨h.1.1,h.2⟩,λu hu=>by cases hu⟩⟩ ?_
 rintro⟨k,us⟩ ⟨hkl,I4,iL,hZ⟩;simp only at hkl I4 iL hZ;by_cases hlt:k<sv.l.length
 ·rw[ahc hlt,afY]at hZ;have hrow:=fQ hlt;have IZ:=aby hlt;generalize sv.l[k]=u at*;refine Wp.know (p:=∃a,sv.base=some a) (λρ w' hw=>ae hw λR h=>aT (j:=k) (bf h.1.2.1) pM) ?_;rintro⟨sa,hsa⟩;by_cases hok:(gM u.xs o.aV m).2=0
  ·rw[Jl hok]at hZ;repeat' ((conv=>whnf)<;>first|(show dn ..;refine aM sa k hsa rfl hlt ?_)|refine z8 ?_|(show @iG _ _ _;(refine jc (by rw[hok];decide) ?_))|(refine AY ?_;intro x hx hxs)|(show Gn ..;(refine mg nO ?_))|refine rX ?_|refine OP ?_|refine a_ ?_|refine ag ?_ ?_<;>intro _)
   all_goals(conv=>whnf)
   all_goals exact⟨(k+1,us++[x]),[(4,some 6)],⟨hlt,by show(us++[x]).length=k+1;rw[adx,I4];rfl,λv hv=>(aeh.1 hv).elim (iL v) (λhv=>by rw[afe.1 hv];exact⟨hxs,by rw[hx];exact Pm hok⟩),by show iw o.aV m _ ((us++[x]).map ax.xs)=Z;rw[afn,afY,aiK,hx];exact hZ⟩,by show sv.l.length-(k+1)<sv.l.length-k;omega,rfl,⟨rfl,rfl,rfl,rfl,rfl,rfl,rfl,rfl,trivial⟩,fE,λR w' h=>⟨h.1.1,mR h.1.2 (Rk h.2)⟩⟩
  ·rw[Kg hok]at hZ;repeat' ((conv=>whnf)<;>first|(show dn ..;refine aM sa k hsa rfl hlt ?_)|refine z8 ?_|(show @iG _ _ _;refine gJ hok ?_)|(refine AY ?_;intro x hx hxs)|refine a_ ?_|refine ag ?_ ?_<;>intro _)
   all_goals(conv=>whnf)
   have e2:Z.2=(gM u.xs o.aV m).2:=by rw[<-hZ]
   all_goals exact yz (λ_ _ h=>h.1.1.1) rfl (by rw[hbad (by rw[e2];exact hok),e2]) (λρ=>rfl)
 obtain rfl:k=sv.l.length:=by omega
 rw[akY]at hZ;have hZ:(us.map ax.xs,(0:Int))=Z:=hZ;repeat' ((conv=>whnf)<;>first|refine FB ?_|refine ag ?_ ?_<;>intro _)
 all_goals(conv=>whnf)
 refine Wp.abR 4 (GB w.heap.size) (k:=1) (xs:=bA us) (T:=32) aj (λR w' h b hb=>(h.1.1 b hb).1) (λfl hfl=> ?_);rw[acN]at hfl;obtain⟨c,hc⟩:∃c:fT,c=⟨m,o.giant,sv,⟨fl.base,fl.cap,us⟩⟩:=⟨_,rfl⟩;obtain⟨aeX,hr⟩:=hgood (by rw[<-hZ]) c (by rw[hc]) (by rw[hc]) (by rw[hc];exact hm) (by rw[hc];exact hsv) (by rw[hc,<-hZ]) (by rw[hc];exactλu hu=>(iL u hu).1);repeat' ((conv=>whnf)<;>first|refine a_ ?_|refine ag ?_ ?_<;>intro _)
 obtain⟨T,hT0⟩:∃T,gU c (g.l.drop 0) 0 ⟨[],[],[]⟩ []=T:=⟨_,rfl⟩;have hrT:lowerT c g T=r:=by rw[<-hT0,<-hr];rfl
 have hcs:c.aA=m:=by rw[hc]
 refine Wp.loop (σ:=Nat×fu×List Int) 9 (λq=>[(3,.lp 0 0 0 0),(6,.lp 2 0 0 0),(10,.lp 3 0 0 0),(105,.c (.slice g.base g.l.length g.cap)),(106,aC g.l.length),(107,aC q.1)])
  (λq=>(2,.box [aC 0,.c (.slice none 0 0),.c (.slice none 0 0),.c (.slice none 0 0),aC 0,.c (.slice none 0 0)] 34)::(0,.box [.c (.slice g.base g.l.length g.cap),aC g.out] 24)::yU c q.2.1 q.2.2 3 5 6 7 8)
  (λq=>Yl w c q.2.1) (λq=>q.1<=g.l.length/\q.2.2.length=q.1/\yC c q.2.1/\q.2.1.code.length<=2048/\q.2.1.aF.length<=q.2.1.code.length/\q.2.1.inputs.length<=q.2.1.code.length/\gU c (g.l.drop q.1) q.1 q.2.1.pl q.2.2=T) (λq=>g.l.length-q.1) (0,⟨[],[],[]⟩,[]) [(5,none),(6,none),(7,none),(8,none)] ay (λq=>⟨rfl,rfl⟩)
  ⟨aae _,rfl,⟨λ_ h=>bT,λ_ h=>bT⟩,aae _,aae _,aae _,hT0⟩ ⟨rfl,⟨rfl,rfl,rfl,rfl,rfl,rfl,trivial⟩,⟨aj,aj,by rw[hc];exact aj,rfl,rfl,rfl,rfl,trivial⟩,λR w' h=>⟨h.1.1.1,⟨by rw[hc];exact h.1.1.2,by rw[hc];exact⟨agi (λb hb=>hb) h.2,h.1.2⟩⟩,λ_ h=>bT⟩⟩ ?_
 rintro⟨i,qs,vl⟩ ⟨hil,hvl,hqo,hqc,hqp,hqi,hT⟩;simp only at hil hvl hqo hqc hqp hqi hT;by_cases hlt:i<g.l.length
 ·have hgi:g.l[i]? =some g.l[i]:=YL hlt;have hrow:=fP hlt;have hNC:=aeX i _ hgi;have hgr:=dz.node c g.l[i] i qs.pl vl aa;have hnm:=aby hlt;rw[ahc hlt,gU]at hT;generalize g.l[i]=n at*;have anP:=hg.each n hnm;have hNA:wT c qs vl:=⟨by omega,hqo,by omega,by omega,by omega⟩;clear aeX hbad hgood hZ0 hZg hT0 hZ hc hsv hm hnm hgi I4 iL hkl hsl hsc hin hcl;refine Wp.know (p:=∃a,g.base=some a) (λρ w' hw=>ae hw λR h=>aT (j:=i) (aH h.1 hg.rows) (by rw[jJ];exact hlt)) ?_;rintro⟨ga,hga⟩;rcases ach n.ai with⟨hk,hf⟩|⟨hk,hf⟩|⟨hk,hf⟩|⟨hk,hf⟩|⟨hk,hf⟩|⟨⟨hk1,hk2,hk3,hk4,hk5⟩,hf⟩
  all_goals as_aux_lemma=>
   rw[hf]at hNC;repeat' ((conv=>whnf)<;>first|(show cO _ 33 ..;refine mV [] [(9,.box (cs n.cells) 41)] ajl ?_ (h6:=aei _ (amG _)))|refine eU ?_|(show dn ..;refine aM ga i hga rfl hlt ?_)|(show lK ..;(refine gI (λR w' h=>by rw[<-hga];exact aH h.1 hg.rows) _ hrow rfl ?_))|refine bn ?_|(show aJ _ _ [.lp 3 0 0 0,_,_] ..;refine dM [(9,.box (cs n.cells) 41),(2,.box [aC 0,.c (.slice none 0 0),.c (.slice none 0 0),.c (.slice none 0 0),aC 0,.c (.slice none 0 0)] 34),(0,.box [.c (.slice g.base g.l.length g.cap),aC g.out] 24)] 3 5 6 7 8 c qs vl (TF c qs n) [.lp 0 0 0 0,.agg (vo n),aC i] _ _ _ _ Ov rfl rfl rfl (λR w' h=>aes anP h) (GB w.heap.size) (λR w' h b hb=>(h.1 b hb).1) (λw' ρ' F' h'=>hNC qs vl w' ρ' F' hNA hvl h') (λq ⟨hq1,hq2,hq3⟩=> ?_))|refine Ag ?_|(show jv ..;(refine fU Ps ?_))|refine Ob ?_|refine a_ ?_|refine ag ?_ ?_<;>intro _|refine And.intro ?_ ?_)
   all_goals(conv=>whnf)
   all_goals
    rw[<-hq1]at hT hgr;have hg3:=ajj hgr;first|exact⟨(i+1,q.1,vl++[q.2]),[(5,some 16),(6,some 12),(7,some 13),(8,some 14)],⟨hlt,by show(vl++[q.2]).length=i+1;rw[adx,hvl];rfl,hq3,by show q.1.code.length<=2048;omega,by show q.1.aF.length<=q.1.code.length;omega,by show q.1.inputs.length<=q.1.code.length;omega,by rw[if_neg (by show¬2048<q.1.code.length;omega),<-hq2]at hT;exact hT⟩,by show g.l.length-(i+1)<g.l.length-i;omega,rfl,fE,fE,λR w' h=>Rz h.1 h.2⟩|exact yz (λ_ _ h=>h.1.1) rfl OM (λρ=>rfl)
 ·obtain rfl:i=g.l.length:=by omega
  rw[akY,gU]at hT;rw[<-hT]at hrT;have ho1:g.out.toNat<c.di.l.length:=by rw[hc];show g.out.toNat<us.length;omega
  have ho2:g.out.toNat<vl.length:=by omega
  refine Wp.go bW rfl ?_;repeat' ((conv=>whnf)<;>first|refine FB ?_|refine ag ?_ ?_<;>intro _)
  refine Wp.go bW rfl ?_;repeat' ((conv=>whnf)<;>first|refine FB ?_|refine ag ?_ ?_<;>intro _)
  exact Wp.into 9 [] (Qs w g c qs vl r hout.1 ho1 ho2 hqo ⟨hqc,by omega,by omega⟩ (by rw[hc];exact iL) hrT) ay ⟨rfl,rfl⟩ ⟨rfl,⟨rfl,rfl,rfl,trivial⟩,fE,λ_ _ h=>h⟩
section
variable {aV:Int}
theorem Es{xs:List Int}{m:Nat}(h:(gM xs aV m).2=0):lG (gM xs aV m).1 m=true/\(gM xs aV m).1.length=(au xs).toNat/\0<au xs:=by
 have hb:=dN xs;unfold gM at h|-
 split at h
 ·cases h
 ·rename_i h1;split at h
  ·cases h
  ·rename_i h2;rw[if_neg h1,if_neg h2];have hne:au xs≠0:=by omega
   obtain⟨c,s,p,g1,g2,g3,g4,g5,g6,g7,g8,_⟩:=Sr (aV:=aV) hne;rw[g2,g3]at h2|-
   refine⟨decide_eq_true ⟨λx hx=> ?_,?_⟩,fV _ _ _,by omega⟩
   ·obtain⟨i,hi,rfl⟩:=abl.1 hx;have hi:=ahe.1 hi;have k1:=KT g5 g6 (show i<=(au xs).toNat-1 by omega);have k2:=Aa (s:=s) (p:=p) i;omega
   ·have hlt:∀{i j:Nat},i<j->kD s p i<kD s p j:=λ{i j} hij=>by
     have k1:=Rx (i:=i) g5 g6;have k2:=KT (i:=i+1) (j:=j) g5 g6 hij;omega
    unfold jN;rw[List.Nodup,aj3];exact(List.pairwise_lt_range (n:=(au xs).toNat)).imp (λ{i j} hij he=>by have:=hlt hij;omega)
theorem EJ{aV:Int}{m:Int}:∀{l acc:List (List Int)},(iw aV m l acc).2=0->(iw aV m l acc).1=acc++l.map (λx=>(gM x aV m).1)/\∀x∈l,(gM x aV m).2=0
 |[],acc,_=>⟨by simp[iw],λx hx=>by cases hx⟩
 |x::r,acc,h=>by
  by_cases h1:(gM x aV m).2=0
  ·rw[Jl h1]at h|-
   obtain⟨h2,h3⟩:=EJ h;refine⟨by rw[h2];simp,λy hy=> ?_⟩;rcases abr.1 hy with rfl|hy
   ·exact h1
   ·exact h3 y hy
  ·rw[Kg h1]at h;exact absurd h h1
theorem FV{w:World}{ρ:Nat->SX.Loc}{F:Nat->Prop}{k n0:Nat}{H0:Heap}{A A':bR}(h:qF w ρ F k n0 H0 A)(hA:∀R w,A.holds R w->A'.holds R w):qF w ρ F k n0 H0 A':=by
 obtain⟨R,φ,hw⟩:=h.abs;exact⟨⟨R,φ,⟨hw.os,hw.tape,hw.output,hw.size,hw.pin,hw.ro,⟨hA R w hw.qL.1,hw.qL.2⟩,hw.key,hw.jA,hw.apart,hw.sep⟩⟩⟩
structure Ie(c:fT)(aV:Int)(sh:List (List Int))(g:List ak):Prop where
 aA:1<=c.aA/\c.aA<=4096
 len:sh.length=g.length
 each:∀(i:Nat) (n:ak),g[i]? =some n->n.uB/\n.small/\∃s,sh[i]? =some s/\jb n (sh.take i) s
 shapes:c.shapes.l.map ax.xs=sh
 shS:∀u∈c.shapes.l,u.bF
 di:c.di.l.map ax.xs=sh.map (λx=>(gM x aV c.aA).1)
 spS:∀u∈c.di.l,u.bF
 good:∀x∈sh,(gM x aV c.aA).2=0
variable {c:fT} {sh:List (List Int)} {g:List ak} {i:Nat}
theorem Ie.at_(h:Ie c aV sh g)(hi:i<g.length):∃(t u:ax),c.shapes.l[i]? =some t/\t.bF/\c.di.l[i]? =some u/\u.bF/\c.shapes.l.getD i cK=t/\c.di.l.getD i cK=u/\sh.getD i []=t.xs/\sh[i]? =some t.xs/\u.xs=(gM t.xs aV c.aA).1/\lG u.xs c.aA=true/\u.xs.length=(au t.xs).toNat/\0<au t.xs:=by
 have l1:c.shapes.l.length=g.length:=by have:=congrArg List.length h.shapes;rw[aas]at this;rw[this,h.len]
 have l2:c.di.l.length=g.length:=by have:=congrArg List.length h.di;rw[aas,aas]at this;rw[this,h.len]
 have i1:i<c.shapes.l.length:=by omega
 have i2:i<c.di.l.length:=by omega
 have e1:=congrArg (λl:List (List Int)=>l[i]?) h.shapes;have e2:=congrArg (λl:List (List Int)=>l[i]?) h.di;simp only[ab5,YL i1,YL i2,amk]at e1 e2;rw[<-e1]at e2;have e3:c.di.l[i].xs=(gM c.shapes.l[i].xs aV c.aA).1:=by simpa using e2
 have hm:c.shapes.l[i].xs∈sh:=adu e1.symm;obtain⟨p1,p2,p3⟩:=Es (h.good _ hm);refine⟨c.shapes.l[i],c.di.l[i],YL i1,h.shS _ (aby i1),YL i2,h.spS _ (aby i2),by rw[TR,YL i1];rfl,by rw[TR,YL i2];rfl,by rw[TR,<-e1];rfl,e1.symm,e3,by rw[e3];exact p1,by rw[e3];exact p2,p3⟩
variable {m:Int}
theorem Y7{l:List Int}(h:lG l m=true):∀x∈l,0<=x/\x<m:=(of_decide_eq_true h).1
theorem Ie.formed(h:Ie c aV sh g){n:ak}(hi:g[i]? =some n):i<g.length/\Ac n i/\∃s,sh[i]? =some s/\jb n (sh.take i) s:=by
 have hl:=(abH.1 hi).1;obtain⟨_,_,s,h1,h2⟩:=h.each i n hi;have e:(sh.take i).length=i:=by rw[aek,h.len];omega
 exact⟨hl,by have:=dJ h2.form;rwa[e]at this,s,h1,h2⟩
theorem KC(h:Ie c aV sh g){n:ak}(hi:g[i]? =some n)(hk:n.ai=1):Hu c n i (ww n.ai):=by
 obtain⟨hl,_,_⟩:=h.formed hi;obtain⟨hn,_,_⟩:=h.each i n hi;obtain⟨t,u,_,_,hu,_,_,eu,_⟩:=h.at_ hl;intro s vl w ρ F hN hvl hO;have e:d_ c n i s.pl vl=kN s.pl n.lo n.hi u.xs:=by unfold d_;rw[if_pos hk,eu]
 have hF:ww n.ai=27:=by rw[hk];rfl
 rw[e,hF];exact adP c s vl n i u hN hn.nk hn.ng hu w ρ F (FV hO (λR w h=>h.1))
theorem En(h:Ie c aV sh g){n:ak}(hi:g[i]? =some n)(hk:eF n\/n.ai=9):Hu c n i (ww n.ai):=by
 obtain⟨hl,hF,s,hs,hin⟩:=h.formed hi;obtain⟨hn,hsm,_⟩:=h.each i n hi;have hk1:n.ai≠1/\n.ai≠2/\n.ai≠6/\n.ai≠7/\n.ai≠8:=by rcases hk with hk|hk;(unfold eF at hk;omega);omega
 obtain⟨h0,ha⟩:=hF.a hk1.1 hk1.2.1;have hal:n.a.toNat<g.length:=by omega
 obtain⟨t,fr,ht,hts,hfr,aaQ,et,efr,gt_,_,_,fp,fl,fe⟩:=h.at_ hal;obtain⟨t2,to,ht2,_,hto,Jk,_,eto,_,gt2,_,tp,tl,te⟩:=h.at_ hl;have es:s=t2.xs:=by rw[hs]at gt2;simpa using gt2
 have eta:(sh.take i).getD n.a.toNat []=t.xs:=by
  rw[<-gt_,TR,TR,al2,if_pos aa]
 obtain⟨hok,hc2⟩:=rows_ok hk hin.form eta hin.az hin.near fe;have hcnt:zw (n0 n) t=(au s).toNat:=by show(au ((zB (at0 n) t).2.getD 1 [])).toNat=_;rw[hc2];rfl
 have hr:pu (n0 n) t=((yu (n0 n) t.xs (zw (n0 n) t),(List.range (zw (n0 n) t)).map (dV (n0 n) (zw (n0 n) t))),0):=by unfold pu;exact if_pos hok
 intro q vl w ρ F hN hvl hO;have hav:n.a.toNat<vl.length:=by omega
 have hF:ww n.ai=26:=by unfold ww;rw[if_neg hk1.1,if_neg hk1.2.1,if_neg hk1.2.2.1,if_neg hk1.2.2.2.1,if_neg hk1.2.2.2.2]
 rw[hF];by_cases hft:n.ai=9/\fr.xs=to.xs
 ·have e:d_ c n i q.pl vl=(q.pl,vl.getD n.a.toNat 0):=by
   unfold d_;rw[if_neg hk1.1,if_neg hk1.2.1,if_neg hk1.2.2.1,if_neg hk1.2.2.2.1,if_neg hk1.2.2.2.2,efr,eto,if_pos hft]
  rw[e];exact aeo c q vl n i fr to hN h0 hav hfr aaQ hto Jk hft.1 hft.2 w ρ F hO
 ·have e:d_ c n i q.pl vl=ku c.aA c.giant q.pl (vl.getD n.a.toNat 0) (pu (n0 n) t).1 fr.xs to.xs:=by
   unfold d_;rw[if_neg hk1.1,if_neg hk1.2.1,if_neg hk1.2.2.1,if_neg hk1.2.2.2.1,if_neg hk1.2.2.2.2,efr,eto,if_neg hft,et]
  rw[e];refine YP c q vl n i t fr to (pu (n0 n) t).1 hN h0 hav hn hsm ht hts hfr aaQ hto Jk hft rfl ?_ ?_ w ρ F hO
  ·rw[hr];refine⟨by have:=h.aA.1;omega,by have:=h.aA.2;omega,?_,fp,tp,λr hr=> ?_⟩
   ·show(yu _ _ _).length=_;rw[tl,<-es,<-hcnt];simp[yu]
   ·obtain⟨o,_,rfl⟩:=abl.1 hr;rw[oz,fl]
  ·rw[hr];show _<=(List.map _ _).length;rw[tl,<-es,<-hcnt];simp
end
theorem af1{n n':ak}{t t':ax}(h:n.pl=n'.pl)(ht:t.xs=t'.xs):pu n t=pu n' t':=by
 have hc:zB n t=zB n' t':=Yw (g:=⟨none,0,[inpN t,n],1⟩) (h:=⟨none,0,[inpN t',n'],1⟩) (by simp only[afY,aiK,h];congr 1;simp[ak.pl,inpN,ht]) rfl;have hk:n.ai=n'.ai:=congrArg aN.ai h;have ha:n.a=n'.a:=congrArg aN.a h;have hok:sW n t↔sW n' t':=by unfold sW eF;rw[hc,hk,ha]
 have hcn:zw n t=zw n' t':=by unfold zw;rw[hc]
 unfold pu;by_cases ho:sW n t
 ·rw[if_pos ho,if_pos (hok.1 ho),hcn,ht];obtain⟨k,a,b,⟨_,_,sx⟩,lo,hi,sz,⟨_,_,dx⟩,⟨_,_,bx⟩⟩:=n;obtain⟨k',a',b',⟨_,_,sx'⟩,lo',hi',sz',⟨_,_,dx'⟩,⟨_,_,bx'⟩⟩:=n';simp only[ak.pl,aN.mk.injEq]at h;obtain⟨rfl,rfl,rfl,rfl,rfl,rfl,rfl,rfl,rfl⟩:=h
  rfl
 ·rw[if_neg ho,if_neg (λg=>ho (hok.2 g))]
theorem Mh(l:List ax)(i:Nat):(l.getD i cK).xs=(l.map ax.xs).getD i []:=by
 rw[TR,TR,ab5];cases l[i]? <;>rfl
structure afq(c c':fT):Prop where
 aA:c.aA=c'.aA
 giant:c.giant=c'.giant
 shapes:c.shapes.l.map ax.xs=c'.shapes.l.map ax.xs
 di:c.di.l.map ax.xs=c'.di.l.map ax.xs
theorem aqr{c c':fT}{n n':ak}(hc:afq c c')(h:n.pl=n'.pl)(i:Nat)(s:dL)(vl:List Int):d_ c n i s vl=d_ c' n' i s vl:=by
 have hk:n.ai=n'.ai:=congrArg aN.ai h;have ha:n.a=n'.a:=congrArg aN.a h;have hb:n.b=n'.b:=congrArg aN.b h;have hlo:n.lo=n'.lo:=congrArg aN.lo h;have hhi:n.hi=n'.hi:=congrArg aN.hi h;have hd:n.data.xs=n'.data.xs:=congrArg aN.data h;have hr:pu (n0 n) (c.shapes.l.getD n.a.toNat cK)=pu (n0 n') (c'.shapes.l.getD n'.a.toNat cK):=by
  refine af1 ?_ (by rw[Mh,Mh,hc.shapes,ha]);have e:∀m:ak,(n0 m).pl={m.pl with a:=0}:=λm=>rfl;rw[e,e,h]
 unfold d_;rw[hr];simp only[Mh,hc.aA,hc.giant,hc.di,hk,ha,hb,hlo,hhi,hd]
theorem KQ{c c':fT}(hc:afq c c'):∀{l l':List ak} (i:Nat) (s:dL) (vl:List Int),l.map ak.pl=l'.map ak.pl->gU c l i s vl=gU c' l' i s vl
 |[],[],_,_,_,_=>rfl
 |[],_::_,_,_,_,h=>by simp at h
 |_::_,[],_,_,_,h=>by simp at h
 |x::l,y::m,i,s,vl,h=>by
  simp only[afY,List.cons.injEq]at h;unfold gU;rw[aqr hc h.1];split
  ·rfl
  ·exact KQ hc _ _ _ h.2
theorem I5{c c':fT}{g g':bM}(hc:afq c c')(hl:g.l.map ak.pl=g'.l.map ak.pl)(ho:g.out=g'.out):uW c g=uW c' g':=by
 unfold uW;rw[KQ hc 0 _ _ hl];cases gU c' g'.l 0 ⟨[],[],[]⟩ []with
 |none=>rfl
 |some q=>simp only[lowerT,Mh,hc.aA,hc.di,ho]
def agI(l:List (List Int)):aY:=⟨none,0,l.map (ax.mk none 0)⟩
theorem Dj(l:List (List Int)):(agI l).l.map ax.xs=l:=by
 show List.map ax.xs (List.map _ l)=l;rw[List.map_map];exact(anA (λ_ _=>rfl)).trans (List.map_id l)
def mr(g:bM)(aV:Int)(giant:Bool)(m:Nat):yx×Int:=
 if(iw aV m (check g).2 []).2≠0 then(Ca,(iw aV m (check g).2 []).2)
 else uW ⟨m,giant,agI (check g).2,agI (iw aV m (check g).2 []).1⟩ g
theorem Rs{g g':bM}(hl:g.l.map ak.pl=g'.l.map ak.pl)(ho:g.out=g'.out)(aV:Int)(giant:Bool)(m:Nat):mr g aV giant m=mr g' aV giant m:=by
 unfold mr;rw[Yw hl ho];split
 ·rfl
 ·exact I5 ⟨rfl,rfl,rfl,rfl⟩ hl ho
theorem abf{w:World}{g:bM}(hg:g.ok w)(hck:(check g).1=0){aV:Int}{m:Nat}(hm:4<=m/\m<=2048)(hz:(iw aV m (check g).2 []).2=0){c:fT}(hs:c.aA=m)(h1:c.shapes.l.map ax.xs=(check g).2)(h2:∀u∈c.shapes.l,u.bF)(h3:c.di.l.map ax.xs=(iw aV m (check g).2 []).1)(h4:∀u∈c.di.l,u.bF):Ie c aV (check g).2 g.l:=by
 obtain⟨_,_,_,hcl,hin⟩:=gK hck;obtain⟨e,hall⟩:=EJ hz;subst hs;refine⟨by omega,hcl,λi n hi=> ?_,h1,h2,by rw[h3,e,akg],h4,hall⟩;have hm:=adu hi;exact⟨(hg.each n hm).uB,hg.small n hm,hin i n hi⟩
theorem Zf(w:World)(g:bM)(o:DZ)(m:Nat)(hg:g.ok w)(hs:nJ o m)(hsp:(cZ g).1=0)(htd:o.tidy=false)
 (hC:∀c:fT,Ie c o.aV (check g).2 g.l->∀(i:Nat) (n:ak),g.l[i]? =some n->Hu c n i (ww n.ai)):
 Calls Tryz.prog 9 #[g.val,o.val,.int .i64 m] w (vD w (mr g o.aV o.giant m)):=by
 have hck:=(jC hsp).1;refine agC w g o m hg hs hsp htd _ (λh=>by unfold mr;rw[if_pos h]) (λhz c h1 h2 h3 h4 h5 h6=> ?_);have hS:=abf hg hck (by unfold nJ at hs;omega) hz h1 h3 h4 h5 h6;refine⟨hC c hS,?_⟩;unfold mr;rw[if_neg (λh=>h hz)];exact I5 ⟨h1,h2,by rw[h3,Dj],by rw[h5,Dj]⟩ rfl rfl
theorem FN{cx:Cx}{f:FuncId}{args:List SV}{H:Heap}{S:bR}{nx:Nat}{K:SV->Heap->bR->Nat->Prop}(r:yx×Int)(hf:∀ar w,(callFunc f ar).run cx.P w= .ok (.enter f ar) w)
 (hc:∀ρ w,dO cx.B ρ nx H S w->Calls cx.P f (SV.dW ρ args).toArray w (vD w r)) (h:∀v:l7,v.pl=r.1->v.bF->K (.c (.tuple #[v.val,.int .i64 r.2])) H (S.and ((LD v).past cx.B.w0.heap.size)) nx):aJ cx f args H S nx K:=by
 refine jU hf (λv:l7=> .tuple #[v.val,.int .i64 r.2]) LD (λv=>v.pl=r.1/\v.bF) (λρ w' hw=>(hc ρ w' hw).mono ?_) (λv hv=>h v hv.1 hv.2);rintro e w2 ⟨v,h1,h2,h3,h4⟩;exact⟨v,h1,h2,h3,h4⟩
def am_:Option Int->Int
 |none=> -1
 |some a=>a
def ako(s:fu)(m:Option Int)(v:Int):fu×Int:=match m with
 |none=>(s,v)
 |some a=>(eH s 3 a v 0,s.code.length)
theorem Uv(s:fu)(m:Option Int)(v:Int):((ako s m v).1.pl,(ako s m v).2)=iU s.pl m v:=by
 cases m<;>rfl
section
variable {R:Nat->Prop} {w:World}
theorem CZ{S:bR}{p:World->Prop}(h:S.holds R w)(hp:∀R w,S.holds R w->p w):(Eg p).holds R w:=⟨S,h,hp⟩
theorem J4{u:ax}(h:(bX u).holds R w):(Xn u).holds R w:=CZ h (λ_ _ h=>bf h)
end
structure aga(n:Nat)(t:Int->Option Int)(bl:List Int):Prop where
 len:bl.length=n
 at_:∀i:Nat,i<n->bl.getD i 0=am_ (t i)
theorem RV(l:List Int)(i:Nat)(v:Int)(j:Nat)(hi:i<l.length):(l.set i v).getD j 0=if i=j then v else l.getD j 0:=by
 rw[TR,TR,amx];by_cases h:i=j
 ·rw[if_pos h,if_pos h,if_pos aa];rfl
 ·rw[if_neg h,if_neg h]
theorem aga.start{n:Nat}(hn:1<=n)(x:Int):aga n (qY x) ((List.replicate n (-1)).set 0 x):=by
 refine⟨by simp,λi hi=> ?_⟩;rw[RV _ _ _ _ fK];unfold qY;by_cases h:0=i
 ·subst h;rfl
 ·rw[if_neg h,if_neg aa,TR,amT,if_pos hi];rfl
theorem aga.put{n:Nat}{t:Int->Option Int}{bl:List Int}(h:aga n t bl){i:Nat}(hi:i<n)(v:Int):aga n (λz=>if z=(i:Int)then some v else t z) (bl.set i v):=by
 refine⟨by rw[ajc];exact h.len,λj hj=> ?_⟩;rw[RV _ _ _ _ (by rw[h.len];exact hi)];by_cases e:i=j
 ·subst e;rw[if_pos rfl,if_pos rfl];rfl
 ·rw[if_neg e,if_neg aa];exact h.at_ j hj
theorem rE.sum{c:fT}{k:Nat}{s:fu}(h:rE c k s)(m:Option Int)(v:Int):rE c (k+1) (ako s m v).1:=by
 cases m with
 |none=>exact h.mono (amN _)
 |some a=>exact h.lay _ _ _ _
structure uO(c:fT)(s:fu)(x:Int)(d:aY):Prop where
 aA:1<=c.aA/\c.aA<=4096
 low:rE c 500000 s
 x:0<=x
 len:d.l.length=c.aA
 each:∀u∈d.l,u.xs=[]\/u.xs.length=c.aA
 bF:∀u∈d.l,u.bF
def pw1(n:Nat)(s:dL)(x a:Int)(sl:List Int):dL×Option Int:=if a=0 then(s,none)else if a=1 then((bI s 6 x x 0).1,some (bI s 6 x x 0).2)else
 ((bI (bH n (bI s 6 x x 0).1 sl (λ_=>a)).1 5 (bI s 6 x x 0).2 0 (bH n (bI s 6 x x 0).1 sl (λ_=>a)).2).1,some (bI (bH n (bI s 6 x x 0).1 sl (λ_=>a)).1 5 (bI s 6 x x 0).2 0 (bH n (bI s 6 x x 0).1 sl (λ_=>a)).2).2)
def pw2(n:Nat)(y:dL×Option Int)(x b:Int)(sl:List Int):dL×Option Int:=if b=0 then y else if b=1 then((iU y.1 y.2 x).1,some (iU y.1 y.2 x).2)else
 ((iU (bI (bH n y.1 sl (λ_=>b)).1 5 x 0 (bH n y.1 sl (λ_=>b)).2).1 y.2 (bI (bH n y.1 sl (λ_=>b)).1 5 x 0 (bH n y.1 sl (λ_=>b)).2).2).1,some (iU (bI (bH n y.1 sl (λ_=>b)).1 5 x 0 (bH n y.1 sl (λ_=>b)).2).1 y.2 (bI (bH n y.1 sl (λ_=>b)).1 5 x 0 (bH n y.1 sl (λ_=>b)).2).2).2)
def pw3(n:Nat)(z:dL×Option Int)(x:Int):dL×Int:=match z.2 with
 |none=>vB n z.1 x
 |some m=>(z.1,m)
def pw4(n:Nat)(o:dL×Int)(c:Int)(sl:List Int):dL×Int:=if c=0 then o else bI (bH n o.1 sl (λ_=>c)).1 4 o.2 0 (bH n o.1 sl (λ_=>c)).2
theorem Z9(n:Nat)(s:dL)(x:Int)(data sl:List Int):rM n s x data sl=pw4 n (pw3 n (pw2 n (pw1 n s x (data.getD 2 0) sl) x (data.getD 1 0) sl) x) (data.getD 0 0) sl:=rfl
section
def PK(s:dL):Nat:=s.code.length+s.aF.length+s.inputs.length+4096
def InB(N:Nat)(x:jf):Prop:=(0<=x.op/\x.op<=N)/\(0<=x.KD/\x.KD<=N)/\(0<=x.a/\x.a<=N)/\(0<=x.b/\x.b<=N)/\0<=x.k/\x.k<=N
def AtP(s:dL)(v:Int):Prop:=0<=v/\v<=PK s
structure Zd(s s':dL):Prop where
 fit:∀x∈s'.code,InB (PK s') x
 le:PK s<=PK s'
variable {s s':dL} {v:Int}
theorem AtP.mono(h:AtP s v)(hl:PK s<=PK s'):AtP s' v:=⟨h.1,by have:=h.2;omega⟩
theorem AtP.small(h0:0<=v)(h:v<=4096):AtP s v:=⟨h0,by unfold PK;omega⟩
theorem InB.mono{N M:Nat}{x:jf}(h:InB N x)(hl:N<=M):InB M x:=by
 obtain⟨⟨a,b⟩,⟨c,d⟩,⟨e,f⟩,⟨g,i⟩,j,k⟩:=h;exact⟨⟨a,by omega⟩,⟨c,by omega⟩,⟨e,by omega⟩,⟨g,by omega⟩,j,by omega⟩
theorem Zd.trans{s'':dL}(h:Zd s s')(k:Zd s' s''):Zd s s'':=⟨k.fit,aiC h.le k.le⟩
theorem Zd.here(h:Zd s s'):Zd s' s':=⟨h.fit,Tw _⟩
def ag5(s:dL)(t:Int->Option Int):Prop:=∀z a,t z=some a->AtP s a
def ajD(s:dL)(m:Option Int):Prop:=∀a,m=some a->AtP s a
theorem ag5.mono{s s':dL}{t:Int->Option Int}(h:ag5 s t)(hl:PK s<=PK s'):ag5 s' t:=λz a e=>(h z a e).mono hl
theorem ajD.mono{s s':dL}{m:Option Int}(h:ajD s m)(hl:PK s<=PK s'):ajD s' m:=λa e=>(h a e).mono hl
end
def Vo(E o:Nat):List Int:=(List.replicate E 0).set o 1
structure Gu(E o:Nat)(L:List iR):Prop where
 len:L.length=E
 is:∀k p,L[k]? =some p->if k<o then(∃b off,p.1.base=some ⟨b,off,none⟩)/\E<=p.1.cap/\p.2=Vo E k else p=(⟨none,0⟩,[])
theorem Gu.next{E o:Nat}{L:List iR}{l:SX.Loc}(h:Gu E o L)(ho:o<E)(hl:∃b off,l.base=some ⟨b,off,none⟩)(hc:E<=l.cap):Gu E (o+1) (L.set o (l,Vo E o)):=by
 refine⟨by rw[ajc];exact h.len,λk p hp=> ?_⟩;rw[amx]at hp;by_cases e:o=k
 ·rw[if_pos e,if_pos (by rw[h.len];exact ho)]at hp;have:(l,Vo E o)=p:=by simpa using hp
  subst this;rw[if_pos aa];exact⟨hl,hc,by rw[e]⟩
 ·rw[if_neg e]at hp;have:=h.is k p hp;by_cases g:k<o
  ·rw[if_pos g]at this;rw[if_pos aa];exact this
  ·rw[if_neg g]at this;rw[if_neg aa];exact this
theorem Gu.take{E o:Nat}{L:List iR}{l:SX.Loc}{x:List Int}(h:Gu E o L)(ho:o<E):(L.set o (l,x)).take (o+1)=L.take o++[(l,x)]:=by
 have hl:o<L.length:=by rw[h.len];exact ho
 rw[ajP (by rw[ajc];exact hl),List.getElem_set_self,List.take_set_of_le (Tw _)]
abbrev ajG(w:World)(g:bM)(c:fT)(s:fu):bR:=(Yl w c s).and (Eg λw=>g.ok w)
theorem aeW{w w':World}{g:bM}{c:fT}{s:fu}{n:ak}{R:Nat->Prop}(hn:n∈g.l)(h:(ajG w g c s).holds R w'):(TF c s n).holds R w':=by
 have p:(((Mf c).and (wJ c)).and (iQ s.aF)).holds R w':=bR.mono _ h.1.2 (λb hb=>hb.1);exact⟨⟨⟨p.2,p.1.2⟩,⟨CZ h.2 (λ_ _ h=>((iO h).each n hn).az.rows),CZ h.2 (λ_ _ h=>((iO h).each n hn).data.rows),CZ h.2 (λ_ _ h=>((iO h).each n hn).aQ.rows)⟩⟩,p.1.1⟩
abbrev al3(w:World)(g:bM)(sv:aY)(us:List ax):bR:=(((aU w).and (Eg λw=>g.ok w)).and ((jD sv).past w.heap.size)).and (rT w.heap.size us)
end Go.Proofs.YtgndjjdeopfdkaaGreat

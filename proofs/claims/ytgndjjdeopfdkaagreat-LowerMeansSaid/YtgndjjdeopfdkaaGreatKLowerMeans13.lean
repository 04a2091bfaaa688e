import Derived.KernelRfl
import Derived.Test.YtgndjjdeopfdkaaGreatRows
import Derived.Test.YtgndjjdeopfdkaaGreatKLowerMeans12
/- texts WF WU of the proof of LowerMeansSaid -/
set_option maxHeartbeats 16000000
set_option maxRecDepth 20000
set_option linter.unusedVariables false
set_option linter.unusedSimpArgs false
namespace Go.Proofs.YtgndjjdeopfdkaaGreat
open Go.SX Go.RowKit
section
theorem aab(sh:List (List Int))(n:ak)(known:List (List Int)):(gy sh n known).length=(au (sh.getD known.length [])).toNat:=by
 unfold gy gH;split
 ·unfold jh;rw[aas,amj]
 ·unfold o5;rw[aas,amj]
theorem Qa{sh:List (List Int)}:∀{l:List ak} {known inp vals:List (List Int)},d9 sh l known inp=(0,vals)->∀i,i<l.length->((vals.getD (known.length+i) []).length:Int)=au (sh.getD (known.length+i) [])
 |[],_,_,_,_,i,hi=>absurd hi (ahf _)
 |m::r,known,inp,vals,h,i,hi=>by
  have step:∀(x:List Int) (agB:List (List Int)),(x.length:Int)=au (sh.getD known.length [])->d9 sh r (known++[x]) agB=(0,vals)->((vals.getD (known.length+i) []).length:Int)=au (sh.getD (known.length+i) []):=λx agB hx h'=>by
   obtain⟨b1,b2⟩:=Sq (W9 h').1;cases i with
   |zero=>rw[amr,b2];exact hx
   |succ i=>
    have:=Qa h' i (by simpa using hi)
    rwa[adx,ag_,show known.length+1+i=known.length+(i+1) by omega]at this
  have h0:=(dN (sh.getD known.length [])).1;unfold d9 at h;split at h
  ·exact step _ _ (by rw[aab];omega) h
  ·rename_i hk;cases inp with
   |nil=>simp at h
   |cons x xs=>
    simp only at h;split at h
    ·simp at h
    ·rename_i hx;exact step x xs (by have:¬((x.length:Int)≠au (sh.getD known.length [])):=λh=>hx (.inl h);omega) h
variable {g:bM} {inp V:List (List Int)}
theorem abX(hck:(check g).1=0)(hv:d9 (check g).2 g.l [] inp=(0,V))(aV:Int)(giant:Bool)(m:Nat)(hm:1<=m/\m<=4096)(hr:(mr g aV giant m).2=0):
 ∃sl,J9 m (mr g aV giant m).1 inp sl (V.getD g.out.toNat []):=by
 obtain⟨_,_,⟨ho,ho1⟩,hcl,_⟩:=gK hck;unfold mr at hr|-
 split at hr
 ·rename_i he;exact absurd hr he
 ·rename_i he;rw[if_neg he];have he:(iw aV m (check g).2 []).2=0:=by omega
  obtain⟨e1,e2⟩:=EJ he;rw[akg]at e1;have h:Tu ⟨m,giant,agI (check g).2,agI (iw aV m (check g).2 []).1⟩ aV g:=⟨hm,Dj _,by rw[Dj,e1],e2⟩;have hl:=Qa hv g.out.toNat aa;rw[amn,aiD]at hl;exact⟨_,ahQ hck h hv hl hr⟩
theorem ahE(hsp:(cZ g).1=0)(hv:d9 (check g).2 g.l [] inp=(0,V))(o:DZ)(aA:Int)(hr:(jX g o aA).2=0):
 nJ o aA/\∃sl,J9 aA.toNat (jX g o aA).1 inp sl (V.getD g.out.toNat []):=by
 unfold jX at hr|-
 split at hr
 ·rename_i hs;rw[if_pos hs];rw[if_neg (λh=>h hsp)]at hr|-
  have hs':=hs;obtain⟨_,_,h4,h8,_⟩:=hs';refine⟨hs,?_⟩;by_cases ht:o.tidy=true
  ·rw[if_pos ht]at hr|-
   obtain⟨df,dU,akP⟩:=Vb hsp hv;obtain⟨k1,k2,k3⟩:=akP (Lg g) (Iq) rfl;unfold Je at k3;rw[if_neg (by rw[k2];exactλh=>h rfl)]at k3;split at k3
   ·rename_i hno;exact absurd (congrArg Prod.fst k3) hno
   ·rename_i alm;have alm:(pE (Lg g) inp).1=0:=by omega
    have e:d9 (check (Lg g)).2 (Lg g).l [] inp=(0,(pE (Lg g) inp).2):=Prod.ext alm rfl;have k4:=(Prod.mk.inj k3).2;rw[<-k4];exact abX (by rw[k1]) e _ _ _ aa hr
  ·rw[if_neg ht]at hr|-
   exact abX (jC hsp).1 hv _ _ _ aa hr
 ·cases hr
end
theorem afu(w:World)(g:bM)(c:fT)(aV:Int)(hS:Ie c aV (check g).2 g.l)(hm:c.aA<=2048)(hpos:∀u∈c.di.l,0<u.xs.length)(Ez:g.l.length<=24)(hout:0<=g.out/\g.out<g.l.length)(hC:∀(i:Nat) (n:ak),g.l[i]? =some n->Hu c n i (ww n.ai)):
 LoW w (uW c g) 7 [(3,.lp 0 0 0 0),(6,.lp 2 0 0 0),(10,.lp 3 0 0 0)] [(3,.box [aC c.aA,.c (.slice none 0 0),.c (.slice none 0 0),.c (.slice none 0 0),aC 0,.c (.slice none 0 0),.c (.bool c.giant),.c c.shapes.val,.c c.di.val,.c (.slice none 0 0)] 71),(2,.box [aC 0,.c (.slice none 0 0),.c (.slice none 0 0),.c (.slice none 0 0),aC 0,.c (.slice none 0 0)] 34),(0,.box [.c (.slice g.base g.l.length g.cap),aC g.out] 24)] (ajG w g c ⟨[],[],[]⟩) 5:=by
 obtain⟨hm1,_⟩:=hS.aA;repeat' ((conv=>whnf)<;>first|refine a_ ?_)
 all_goals(conv=>whnf)
 obtain⟨T,hT0⟩:∃T,gU c (g.l.drop 0) 0 ⟨[],[],[]⟩ []=T:=⟨_,rfl⟩;have hrT:lowerT c g T=uW c g:=by rw[<-hT0];rfl
 refine Wp.loop (σ:=Nat×fu×List Int) 9 (λq=>[(3,.lp 0 0 0 0),(6,.lp 2 0 0 0),(10,.lp 3 0 0 0),(105,.c (.slice g.base g.l.length g.cap)),(106,aC g.l.length),(107,aC q.1)])
  (λq=>(2,.box [aC 0,.c (.slice none 0 0),.c (.slice none 0 0),.c (.slice none 0 0),aC 0,.c (.slice none 0 0)] 34)::(0,.box [.c (.slice g.base g.l.length g.cap),aC g.out] 24)::yU c q.2.1 q.2.2 3 5 6 7 8)
  (λq=>ajG w g c q.2.1) (λq=>q.1<=g.l.length/\q.2.2.length=q.1/\yC c q.2.1/\q.2.1.code.length<=2048/\q.2.1.aF.length<=q.2.1.code.length/\q.2.1.inputs.length<=q.2.1.code.length/\gU c (g.l.drop q.1) q.1 q.2.1.pl q.2.2=T) (λq=>g.l.length-q.1) (0,⟨[],[],[]⟩,[]) [(5,none),(6,none),(7,none),(8,none)] ay (λq=>⟨rfl,rfl⟩)
  ⟨aae _,rfl,⟨λ_ h=>bT,λ_ h=>bT⟩,aae _,aae _,aae _,hT0⟩ ⟨rfl,⟨rfl,rfl,rfl,rfl,rfl,rfl,trivial⟩,⟨aj,aj,aj,rfl,rfl,rfl,rfl,trivial⟩,λR w' h=>h⟩ ?_
 rintro⟨i,qs,vl⟩ ⟨hil,hvl,hqo,hqc,hqp,hqi,hT⟩;simp only at hil hvl hqo hqc hqp hqi hT;by_cases hlt:i<g.l.length
 ·have hgi:g.l[i]? =some g.l[i]:=YL hlt;have hrow:=fP hlt;have hNC:=hC i _ hgi;have hgr:=dz.node c g.l[i] i qs.pl vl aa;have hnm:=aby hlt;rw[ahc hlt,gU]at hT;generalize g.l[i]=n at*;have hNA:wT c qs vl:=⟨by omega,hqo,by omega,by omega,by omega⟩;clear hC hT0 hgi;refine Wp.know (p:=∃a,g.base=some a) (λρ w' hw=>ae hw λR h=>aT (j:=i) ((iO h.2).rows) (by rw[jJ];exact hlt)) ?_;rintro⟨ga,hga⟩;rcases ach n.ai with⟨hk,hf⟩|⟨hk,hf⟩|⟨hk,hf⟩|⟨hk,hf⟩|⟨hk,hf⟩|⟨⟨hk1,hk2,hk3,hk4,hk5⟩,hf⟩
  all_goals as_aux_lemma=>
   rw[hf]at hNC;repeat' ((conv=>whnf)<;>first|(show cO _ 33 ..;refine mV [] [(9,.box (cs n.cells) 41)] ajl ?_ (h6:=aei _ (amG _)))|refine eU ?_|(show dn ..;refine aM ga i hga rfl hlt ?_)|(show lK ..;(refine gI (λR w' h=>by rw[<-hga];exact(iO h.2).rows) _ hrow rfl ?_))|refine bn ?_|(show aJ _ _ [.lp 3 0 0 0,_,_] ..;refine dM [(9,.box (cs n.cells) 41),(2,.box [aC 0,.c (.slice none 0 0),.c (.slice none 0 0),.c (.slice none 0 0),aC 0,.c (.slice none 0 0)] 34),(0,.box [.c (.slice g.base g.l.length g.cap),aC g.out] 24)] 3 5 6 7 8 c qs vl (TF c qs n) [.lp 0 0 0 0,.agg (vo n),aC i] _ _ _ _ Ov rfl rfl rfl (λR w' h=>aeW hnm h) (GB w.heap.size) (λR w' h b hb=>(h.1.1 b hb).1) (λw' ρ' F' h'=>hNC qs vl w' ρ' F' hNA hvl h') (λq ⟨hq1,hq2,hq3⟩=> ?_))|refine Ag ?_|(show jv ..;(refine fU Ps ?_))|refine Ob ?_|refine a_ ?_|refine ag ?_ ?_<;>intro _|refine And.intro ?_ ?_)
   all_goals(conv=>whnf)
   all_goals
    rw[<-hq1]at hT hgr;have hg3:=ajj hgr;first|exact⟨(i+1,q.1,vl++[q.2]),[(5,some 16),(6,some 12),(7,some 13),(8,some 14)],⟨hlt,by show(vl++[q.2]).length=i+1;rw[adx,hvl];rfl,hq3,by show q.1.code.length<=2048;omega,by show q.1.aF.length<=q.1.code.length;omega,by show q.1.inputs.length<=q.1.code.length;omega,by rw[if_neg (by show¬2048<q.1.code.length;omega),<-hq2]at hT;exact hT⟩,by show g.l.length-(i+1)<g.l.length-i;omega,rfl,fE,fE,λR w' h=>⟨Rz h.1.1 h.2,h.1.2⟩⟩|exact yz (λ_ _ h=>h.1.1.1) rfl OM (λρ=>rfl)
 ·obtain rfl:i=g.l.length:=by omega
  rw[akY,gU]at hT;rw[<-hT]at hrT;have ho1:g.out.toNat<c.di.l.length:=by have:=congrArg List.length hS.di;rw[aas,aas,hS.len]at this;omega
  have ho2:g.out.toNat<vl.length:=by omega
  refine Wp.go bW rfl ?_;repeat' ((conv=>whnf)<;>first|refine FB ?_|refine ag ?_ ?_<;>intro _)
  refine Wp.go bW rfl ?_;repeat' ((conv=>whnf)<;>first|refine FB ?_|refine ag ?_ ?_<;>intro _)
  exact Wp.into 9 [] (Qs w g c qs vl (uW c g) hout.1 ho1 ho2 hqo ⟨hqc,by omega,by omega⟩ (λu hu=>⟨hS.spS u hu,hpos u hu⟩) hrT) ay ⟨rfl,rfl⟩ ⟨rfl,⟨rfl,rfl,rfl,trivial⟩,fE,λ_ _ h=>h.1⟩
theorem Xj(w:World)(g:bM)(o:DZ)(m:Nat)(hmm:4<=m/\m<=2048)(hsp:(cZ g).1=0)(hC:∀c:fT,Ie c o.aV (check g).2 g.l->∀(i:Nat) (n:ak),g.l[i]? =some n->Hu c n i (ww n.ai)):
 LoW w (mr g o.aV o.giant m) 4 [(2,aC m),(3,.lp 0 0 0 0),(4,.lp 1 0 0 0),(6,.lp 2 0 0 0)] [(2,.box [aC 0,.c (.slice none 0 0),.c (.slice none 0 0),.c (.slice none 0 0),aC 0,.c (.slice none 0 0)] 34),(1,.box [aC o.aV,.c (.bool o.tidy),.c (.bool o.lazy),.c (.bool o.giant),aC o.rows] 26),(0,.box [.c (.slice g.base g.l.length g.cap),aC g.out] 24)] ((aU w).and (Eg λw=>g.ok w)) 3:=by
 obtain⟨hck,_,_⟩:=jC hsp;obtain⟨hl1,Ez,hout,hcl,hin⟩:=gK hck;refine Wp.know (p:=∃w',g.ok w') (λρ w' hw=>⟨w',ae hw λR h=>iO h.2⟩) ?_;rintro⟨wg,hg⟩;repeat' ((conv=>whnf)<;>first|(show aJ _ 24 ..;refine BK (f:=24) (check g) Tryz.call24 (λρ w' hw=>qE w' g (ae hw λR h=>iO h.2)) (λh=>absurd hck h) (λ_ sv hm hsv hsc=> ?_))|refine a_ ?_)
 have hsl:sv.l.length=g.l.length:=by have:=congrArg List.length hm;rw[aas]at this;omega
 obtain⟨Z,hZ0⟩:∃Z,iw o.aV m ((sv.l.drop 0).map ax.xs) []=Z:=⟨_,rfl⟩;have hZg:iw o.aV m (check g).2 []=Z:=by rw[<-hZ0,List.drop_zero];exact congrArg (λz=>iw o.aV m z []) hm.symm
 refine Wp.loop (σ:=Nat×List ax) 5 (λq=>[(2,aC m),(3,.lp 0 0 0 0),(4,.lp 1 0 0 0),(6,.lp 2 0 0 0),(10,.lp 3 0 0 0),(75,.c sv.val),(76,aC sv.l.length),(77,aC q.1)])
  (λq=>[(4,.rows (bA q.2) 1 32),(3,.box [aC m,.c (.slice none 0 0),.c (.slice none 0 0),.c (.slice none 0 0),aC 0,.c (.slice none 0 0),.c (.bool o.giant),.c sv.val,.os 4 q.2.length,.c (.slice none 0 0)] 71),(2,.box [aC 0,.c (.slice none 0 0),.c (.slice none 0 0),.c (.slice none 0 0),aC 0,.c (.slice none 0 0)] 34),(1,.box [aC o.aV,.c (.bool o.tidy),.c (.bool o.lazy),.c (.bool o.giant),aC o.rows] 26),(0,.box [.c (.slice g.base g.l.length g.cap),aC g.out] 24)])
  (λq=>al3 w g sv q.2) (λq=>q.1<=sv.l.length/\q.2.length=q.1/\(∀u∈q.2,u.bF/\0<u.xs.length)/\iw o.aV m ((sv.l.drop q.1).map ax.xs) (q.2.map ax.xs)=Z) (λq=>sv.l.length-q.1) (0,[]) [(4,none)] ay (λq=>⟨rfl,rfl⟩) ⟨aae _,rfl,λ_ h=>bT,hZ0⟩
  ⟨rfl,⟨rfl,rfl,rfl,rfl,rfl,rfl,rfl,rfl,trivial⟩,⟨rfl,aj,aj,aj,aj,trivial⟩,λR w' h=>⟨h,λu hu=>by cases hu⟩⟩ ?_
 rintro⟨k,us⟩ ⟨hkl,I4,iL,hZ⟩;simp only at hkl I4 iL hZ;by_cases hlt:k<sv.l.length
 ·rw[ahc hlt,afY]at hZ;have hrow:=fQ hlt;have IZ:=aby hlt;generalize sv.l[k]=u at*;refine Wp.know (p:=∃a,sv.base=some a) (λρ w' hw=>ae hw λR h=>aT (j:=k) (bf h.1.2.1) pM) ?_;rintro⟨sa,hsa⟩;by_cases hok:(gM u.xs o.aV m).2=0
  ·rw[Jl hok]at hZ;repeat' ((conv=>whnf)<;>first|(show dn ..;refine aM sa k hsa rfl hlt ?_)|refine z8 ?_|(show @iG _ _ _;(refine jc (by rw[hok];decide) ?_))|(refine AY ?_;intro x hx hxs)|(show Gn ..;(refine mg nO ?_))|refine rX ?_|refine OP ?_|refine a_ ?_|refine ag ?_ ?_<;>intro _)
   all_goals(conv=>whnf)
   all_goals exact⟨(k+1,us++[x]),[(4,some 6)],⟨hlt,by show(us++[x]).length=k+1;rw[adx,I4];rfl,λv hv=>(aeh.1 hv).elim (iL v) (λhv=>by rw[afe.1 hv];exact⟨hxs,by rw[hx];exact Pm hok⟩),by show iw o.aV m _ ((us++[x]).map ax.xs)=Z;rw[afn,afY,aiK,hx];exact hZ⟩,by show sv.l.length-(k+1)<sv.l.length-k;omega,rfl,⟨rfl,rfl,rfl,rfl,rfl,rfl,rfl,rfl,trivial⟩,fE,λR w' h=>⟨h.1.1,mR h.1.2 (Rk h.2)⟩⟩
  ·rw[Kg hok]at hZ;repeat' ((conv=>whnf)<;>first|(show dn ..;refine aM sa k hsa rfl hlt ?_)|refine z8 ?_|(show @iG _ _ _;refine gJ hok ?_)|(refine AY ?_;intro x hx hxs)|refine a_ ?_|refine ag ?_ ?_<;>intro _)
   all_goals(conv=>whnf)
   have e2:Z.2=(gM u.xs o.aV m).2:=by rw[<-hZ]
   all_goals exact yz (λ_ _ h=>h.1.1.1.1) rfl (by unfold mr;rw[hZg,if_pos (by rw[e2];exact hok),e2]) (λρ=>rfl)
 obtain rfl:k=sv.l.length:=by omega
 rw[akY]at hZ;have hZ:(us.map ax.xs,(0:Int))=Z:=hZ;refine Wp.Vh 4 w.heap.size (k:=1) (xs:=bA us) (T:=32) aj (λR w' h b hb=>(h.1.1.1 b hb).1) (λfl hfl=> ?_);have hz2:(iw o.aV m (check g).2 []).2=0:=by rw[hZg,<-hZ]
 obtain⟨c,hc⟩:∃c:fT,c=⟨m,o.giant,sv,⟨fl.base,fl.cap,us⟩⟩:=⟨_,rfl⟩;have hS:Ie c o.aV (check g).2 g.l:=abf hg hck hmm hz2 (by rw[hc]) (by rw[hc];exact hm) (by rw[hc];exact hsv) (by rw[hc,hZg,<-hZ]) (by rw[hc];exactλu hu=>(iL u hu).1);have hr:mr g o.aV o.giant m=uW c g:=by
  unfold mr;rw[if_neg (λh=>h hz2)];exact I5 ⟨by rw[hc],by rw[hc],by rw[Dj,hc];exact hm.symm,by rw[Dj,hZg,<-hZ,hc]⟩ rfl rfl
 rw[hr];have h7:=afu w g c o.aV hS (by rw[hc];exact hmm.2) (by rw[hc];exactλu hu=>(iL u hu).2) Ez hout (hC c hS);iterate 2
  refine Wp.go bW rfl ?_;repeat' ((conv=>whnf)<;>first|refine FB ?_|refine ag ?_ ?_<;>intro _)
 exact Wp.into 5 [] h7 ay ⟨rfl,rfl⟩ ⟨rfl,⟨rfl,rfl,rfl,trivial⟩,⟨by rw[hc];exact aj,aj,aj,trivial⟩,λR w' h=>⟨⟨h.1.1.1.1,⟨by rw[hc];exact h.1.1.2,by rw[hc];exact⟨h.2,h.1.2⟩⟩,λ_ h=>bT⟩,h.1.1.1.2⟩⟩
theorem ac4(w:World)(g:bM)(o:DZ)(aA:Int)(hg:g.ok w)(h64:i64 aA)(hC:∀(t:bM) (c:fT),Ie c o.aV (check t).2 t.l->∀(i:Nat) (n:ak),t.l[i]? =some n->Hu c n i (ww n.ai)):Calls Tryz.prog 9 #[g.val,o.val,.int .i64 aA] w (vD w (jX g o aA)):=by
 by_cases hbad:¬nJ o aA\/(cZ g).1≠0
 ·have h:=acV w g o aA hg h64 hbad;have e:jX g o aA=(Ca,if nJ o aA then(cZ g).1 else 1):=by
   unfold jX;by_cases hs:nJ o aA
   ·rw[if_pos hs,if_pos hs,if_pos (hbad.resolve_left (λh=>h hs))]
   ·rw[if_neg hs,if_neg hs]
  rw[e];exact h
 have hs:nJ o aA:=Decidable.byContradiction λh=>hbad (.inl h);have hsp:(cZ g).1=0:=Decidable.byContradiction λh=>hbad (.inr h);obtain⟨s1,s2,s3,s4,s5⟩:=id hs;obtain⟨m,rfl⟩:∃m:Nat,aA=m:=⟨aA.toNat,by omega⟩;have hF:jX g o m=mr (if o.tidy=true then Lg g else g) o.aV o.giant m:=by unfold jX;rw[if_pos hs,if_neg (λh=>h hsp),ahh]
 rw[hF];obtain⟨hck,_,_⟩:=jC hsp;obtain⟨hl1,Ez,_⟩:=gK hck;refine fH Tryz.func9 [.agg [.c (.slice g.base g.l.length g.cap),aC g.out],.agg [aC o.aV,.c (.bool o.tidy),.c (.bool o.lazy),.c (.bool o.giant),aC o.rows],aC m] ?_;repeat' ((conv=>whnf)<;>first|(show Ci ..;refine G5 ?_)|(show @iG _ _ _;(first|refine jc aa ?_))|(show aJ _ 22 ..;refine wZ (f:=22) (cZ g) Tryz.call22 (λρ w' hw=>yj w' g (ae hw λR h=>hg.later h)) (λh=>absurd hsp h) (λ_ qb qc=> ?_))|refine a_ ?_)
 refine Fp (λ_=>rfl) (λht=> ?_) (λht=> ?_)
 ·rw[if_pos ht];repeat' ((conv=>whnf)<;>first|(show aJ _ 23 ..;refine aaJ g hsp hg.small Ez Tryz.call23 (λρ w' hw=>afN w' g (ae hw λR h=>hg.later h.1)) (λt hT=> ?_)))
  rw[<-hT.lower];exact Wp.into 3 [] (Xj w t o m ⟨by omega,by omega⟩ (hT.spans hsp) (λc hc=>hC t c hc)) ay ⟨rfl,rfl⟩ ⟨rfl,⟨rfl,rfl,rfl,rfl,trivial⟩,fE,λR w' h=>⟨h.1.1,(Eg λw=>t.ok w).mono h.2 (λb hb=>hb.1)⟩⟩
 ·rw[if_neg (by rw[ht];decide)];repeat' ((conv=>whnf)<;>first|refine FB ?_|refine ag ?_ ?_<;>intro _)
  exact Wp.into 3 [] (Xj w g o m ⟨by omega,by omega⟩ hsp (λc hc=>hC g c hc)) ay ⟨rfl,rfl⟩ ⟨rfl,⟨rfl,rfl,rfl,rfl,trivial⟩,fE,λR w' h=>⟨h.1,CZ h.1 (λ_ _ h=>hg.later h)⟩⟩
abbrev ak_:DT:=(bS [0,1,2,3,4,5,6,7,8,9,11,110,12] .done)
abbrev LpW(w:World)(ρ:Nat->SX.Loc)(F:Nat->Prop)(c:fT)(s:fu)(vl:List Int)(k:Nat)(env:Env)(H:Heap)(S:bR)(nx:Nat)(r:dL×Int):Prop:=Wp ⟨Tryz.prog,⟨w,yZ 2 ρ⟩,Tryz.f31.ntmps,tab⟩ (abA k (bodyC Tryz.f31)) env H S nx (acw ⟨Tryz.prog,⟨w,yZ 2 ρ⟩,Tryz.f31.ntmps,tab⟩ Tryz.f31.results.toList (pz w ρ F c s vl r))
abbrev lpF(w:World)(F:Nat->Prop)(s0:fu)(c:fT)(n:ak)(s:fu):bR:=((((iQ s.aF).and ((Q6 s0.aF s.aF).off (iV w F))).and (wJ c)).and (Xp n)).and (l8 w F)
structure aeM(c:fT)(q:fu)(k:Nat)(n:ak)(i:Nat)(sp:ax):Prop where
 aA:1<=c.aA/\c.aA<=4096
 low:rE c k q
 few:k<=600000
 hi:c.di.l[i]? =some sp
 hsp:sp.bF
 places:∀z∈sp.xs,0<=z/\z<c.aA
 data:n.data.xs.length=3
theorem ai8(c:fT)(s q:fu)(vl:List Int)(k:Nat)(o:Int)(sb:Bool)(n:ak)(i:Nat)(x v:Int)(sp:ax)(hP:aeM c q k n i sp)(hv:n.data.xs.getD 0 0=v)(h64:i64 v)(w:World)(ρ:Nat->SX.Loc)(F:Nat->Prop):
 LpW w ρ F c s vl 5 [(0,.lp 0 0 0 0),(2,aC i),(4,.lp 5 0 0 0),(7,aC x),(8,.lp 6 0 0 0)] ((6,.box ([.lp 0 0 0 0,aC o,.c (.bool sb)]) 129)::(5,.box (cs n.cells) 41)::yU c q vl 0 1 80 81 82) (lpF w F s c n q) 83 (pw4 c.aA (q.pl,o) v sp.xs):=by
 obtain⟨hs,z0,hk,hi,hsp,hpl,hd⟩:=hP;refine Wp.know (p:=∃a,n.data.base=some a) (λρ w' hw=>ae hw λR h=>aT (j:=0) (iO h.1.2.2.1) dS) ?_;rintro⟨da,hda⟩;unfold pw4;by_cases h0:v=0
 ·rw[if_pos h0];repeat' ((conv=>whnf)<;>first|(show dn ..;refine aM da 0 hda rfl aa ?_)|(show gZ ..;(refine qQ (λR w' h=>by rw[<-hda];exact iO h.1.2.2.1) (j:=0) aa hv ?_))|refine a_ ?_|refine ag ?_ ?_<;>intro _)
  all_goals(conv=>whnf)
  all_goals exact lH _ _ _ _ (q,o) [(2,some 80),(3,some 81),(4,some 82)] ⟨rfl,rfl,z0.ok⟩ ay rfl rfl rfl rfl fE (λR w' h=>⟨h.2,h.1.1.1.2⟩)
 ·rw[if_neg h0];repeat' ((conv=>whnf)<;>first|(show cO _ 18 ..;refine mV [14] [(6,.box [.lp 0 0 0 0,aC o,.c (.bool sb)] 129)] (bS [0,1,2,3,4,5,6,7,8,109,110,111,112,13,114] .done) ?_ (h6:=aei _ (amG _)))|refine eU ?_|(show dn ..;refine aM da 0 hda rfl aa ?_)|(show gZ ..;(refine qQ (λR w' h=>by rw[<-hda];exact iO h.1.2.2.1) (j:=0) aa hv ?_))|refine vV ?_|(show nC ..;refine iZ ?_)|(show aJ _ 69 ..;(refine ru rfl [(6,.box ([.lp 0 0 0 0,aC o,.c (.bool sb)]) 129),(5,.box (cs n.cells) 41)] 83 0 1 80 81 82 c (q) vl 132 [.int .i64 (v)] 3 i (λ_=>v) iK sp hs.2 (z0).ok.aF F_ hi hsp hpl (λ_ _=>h64) Tryz.call132 (λR w' bb ee _ hh _=>yw w' bb ee (v) _ hh) rfl rfl rfl (λR w' h=>⟨⟨h.1.1.1.1,h.1.1.2⟩,trivial⟩) (iV w F) (λR w' h b hb=>((h).2 b hb).1) (λu hu iL=> ?_)))|(show aJ _ 68 [_,aC 4,_,_,_] ..;(refine dM [(6,.box ([.lp 0 0 0 0,aC o,.c (.bool sb)]) 129),(5,.box (cs n.cells) 41)] 0 1 86 87 88 c ((aS q u).1) vl iK [.lp 0 0 0 0,aC 4,aC (o),aC (0),aC ((aS q u).2)] _ _ _ _ Tryz.call68 rfl rfl rfl (λR w' h=>trivial) (iV w F) (λR w' h b hb=>((h.1).2 b hb).1) (λw' ρ' F' h'=>gQ c ((aS q u).1) vl 4 (o) (0) ((aS q u).2) FT w' ρ' F' h') (λ_ _=> ?_)))|refine a_ ?_|refine ag ?_ ?_<;>intro _)
  all_goals(conv=>whnf)
  have hS:=oU (s:=q) hu;rw[hS];exact lH _ _ _ _ (eH (aS q u).1 4 o 0 (aS q u).2,((aS q u).1.code.length:Int)) [(2,some 92),(3,some 93),(4,some 94)] ⟨rfl,rfl,De (y_ z0.ok iL) _ _ _ _⟩ ay rfl rfl rfl rfl fE (λR w' h=>⟨h.1.1.2,lY h.1.1.1.1.1.2 h.1.2⟩)
theorem X9(c:fT)(s q:fu)(vl:List Int)(k:Nat)(m:Option Int)(n:ak)(i:Nat)(x v:Int)(sp:ax)(hP:aeM c q k n i sp)(hk:k<=599000)(hv:n.data.xs.getD 0 0=v)(h64:i64 v)(w:World)(ρ:Nat->SX.Loc)(F:Nat->Prop):
 LpW w ρ F c s vl 4 [(0,.lp 0 0 0 0),(2,aC i),(4,.lp 5 0 0 0),(7,aC x),(8,.lp 6 0 0 0)] ((6,.box (jK m) 129)::(5,.box (cs n.cells) 41)::yU c q vl 0 1 60 61 62) (lpF w F s c n q) 63 (pw4 c.aA (pw3 c.aA (q.pl,m) x) v sp.xs):=by
 obtain⟨hs,z0,_,hi,hsp,hpl,hd⟩:=hP;rcases m with _|a
 ·iterate 2
   refine Wp.go bW rfl ?_;repeat' ((conv=>whnf)<;>first|(show aJ _ 74 ..;(refine dM [(6,.box (jK none) 129),(5,.box (cs n.cells) 41)] 0 1 60 61 62 c q vl (iQ q.aF) [.lp 0 0 0 0,aC x] _ _ _ _ Tryz.call74 rfl rfl rfl (λR w' h=>h.1.1.1.1) (iV w F) (λR w' h b hb=>(h.2 b hb).1) (λw' ρ' F' h'=>We c q vl x hs.2 z0.ok.aF zn pW w' ρ' F' h') (λu ⟨hu,iL⟩=> ?_))))
  have e:pw3 c.aA (q.pl,none) x=((zeroV q u x).pl,(q.code.length:Int)):=Qg hu;rw[e];exact Wp.into 83 [(80,some 65),(81,some 66),(82,some 67)] (ai8 c s (zeroV q u x) vl (k+2) q.code.length false n i x v sp ⟨hs,z0.zero iL x,by omega,hi,hsp,hpl,hd⟩ hv h64 w ρ F) ay ⟨rfl,rfl⟩ ⟨rfl,⟨rfl,rfl,rfl,rfl,rfl,trivial⟩,fE,λR w' h=>⟨⟨⟨⟨t_ h.1.1.1.1.1 (qX h.2),lY h.1.1.1.1.2 h.2⟩,h.1.1.1.2⟩,h.1.1.2⟩,h.1.2⟩⟩
 ·iterate 2
   refine Wp.go bW rfl ?_;repeat' ((conv=>whnf)<;>first|fail)
  exact Wp.into 83 [(80,some 60),(81,some 61),(82,some 62)] (ai8 c s q vl k a true n i x v sp ⟨hs,z0,by omega,hi,hsp,hpl,hd⟩ hv h64 w ρ F) ay ⟨rfl,rfl⟩ ⟨rfl,⟨rfl,rfl,rfl,rfl,rfl,trivial⟩,fE,λR w' h=>h⟩
theorem afR(c:fT)(s q:fu)(vl:List Int)(k:Nat)(b:Int)(m:Option Int)(n:ak)(i:Nat)(x v:Int)(sp:ax)(hP:aeM c q k n i sp)(hk:k<=598000)(hv:n.data.xs.getD 0 0=v)(h64:i64 v)(hb:n.data.xs.getD 1 0=b)(adw:i64 b)(w:World)(ρ:Nat->SX.Loc)(F:Nat->Prop):
 LpW w ρ F c s vl 3 [(0,.lp 0 0 0 0),(2,aC i),(4,.lp 5 0 0 0),(7,aC x),(8,.lp 6 0 0 0)] ((6,.box (jK m) 129)::(5,.box (cs n.cells) 41)::yU c q vl 0 1 40 41 42) (lpF w F s c n q) 43 (pw4 c.aA (pw3 c.aA (pw2 c.aA (q.pl,m) x b sp.xs) x) v sp.xs):=by
 obtain⟨hs,z0,_,hi,hsp,hpl,hd⟩:=hP;refine Wp.know (p:=∃a,n.data.base=some a) (λρ w' hw=>ae hw λR h=>aT (j:=0) (iO h.1.2.2.1) dS) ?_;rintro⟨da,hda⟩;unfold pw2;by_cases h0:b=0
 ·rw[if_pos h0];iterate 4
   refine Wp.go bW rfl ?_;repeat' ((conv=>whnf)<;>first|refine vT ?_|refine wG ?_|refine FB ?_|refine ag ?_ ?_<;>intro _)
  exact Wp.into 63 [(60,some 40),(61,some 41),(62,some 42)] (X9 c s q vl k m n i x v sp ⟨hs,z0,by omega,hi,hsp,hpl,hd⟩ aa hv h64 w ρ F) ay ⟨rfl,rfl⟩ ⟨rfl,⟨rfl,rfl,rfl,rfl,rfl,trivial⟩,fE,λR w' h=>h⟩
 rw[if_neg h0];by_cases h1:b=1
 ·rw[if_pos h1,<-Uv q m x];rcases m with _|a
  ·iterate 8
    refine Wp.go bW rfl ?_;repeat' ((conv=>whnf)<;>first|refine vT ?_|refine wG ?_|refine sO ?_|(show nC ..;refine iZ ?_)|refine FB ?_|refine ag ?_ ?_<;>intro _)
   exact Wp.into 63 [(60,some 40),(61,some 41),(62,some 42)] (X9 c s q vl k (some x) n i x v sp ⟨hs,z0,by omega,hi,hsp,hpl,hd⟩ aa hv h64 w ρ F) ay ⟨rfl,rfl⟩ ⟨rfl,⟨rfl,rfl,rfl,rfl,rfl,trivial⟩,fE,λR w' h=>h⟩
  ·iterate 8
    refine Wp.go bW rfl ?_;repeat' ((conv=>whnf)<;>first|refine vT ?_|refine wG ?_|refine sO ?_|(show cO _ 1 ..;refine mV [9,10] _ xE ?_)|(show nC ..;refine iZ ?_)|(show aJ _ 68 [_,aC 3,_,_,_] ..;(refine dM [(6,.box (jK (some a)) 129),(5,.box (cs n.cells) 41)] 0 1 40 41 42 c (q) vl iK [.lp 0 0 0 0,aC 3,aC (a),aC (x),aC (0)] _ _ _ _ Tryz.call68 rfl rfl rfl (λR w' h=>trivial) (iV w F) (λR w' h b hb=>((h).2 b hb).1) (λw' ρ' F' h'=>gQ c (q) vl 3 (a) (x) (0) EB w' ρ' F' h') (λ_ _=> ?_)))|refine FB ?_|refine ag ?_ ?_<;>intro _)
   exact Wp.into 63 [(60,some 45),(61,some 46),(62,some 47)] (X9 c s (eH q 3 a x 0) vl (k+1) (some q.code.length) n i x v sp ⟨hs,z0.lay 3 a x 0,by omega,hi,hsp,hpl,hd⟩ aa hv h64 w ρ F) ay ⟨rfl,rfl⟩ ⟨rfl,⟨rfl,rfl,rfl,rfl,rfl,trivial⟩,fE,λR w' h=>h.1⟩
 ·rw[if_neg h1];rcases m with _|a
  ·iterate 11
    refine Wp.go bW rfl ?_;repeat' ((conv=>whnf)<;>first|refine vT ?_|refine wG ?_|refine sO ?_|refine vV ?_|(show nC ..;refine iZ ?_)|(show aJ _ 69 ..;(refine ru rfl [(6,.box (jK none) 129),(5,.box (cs n.cells) 41)] 43 0 1 40 41 42 c (q) vl 132 [.int .i64 (b)] 3 i (λ_=>b) iK sp hs.2 (z0).ok.aF F_ hi hsp hpl (λ_ _=>adw) Tryz.call132 (λR w' bb ee _ hh _=>yw w' bb ee (b) _ hh) rfl rfl rfl (λR w' h=>⟨⟨h.1.1.1.1,h.1.1.2⟩,trivial⟩) (iV w F) (λR w' h b hb=>((h).2 b hb).1) (λu hu iL=> ?_)))|(show aJ _ 68 [_,aC 5,_,_,_] ..;(refine dM [(6,.box (jK none) 129),(5,.box (cs n.cells) 41)] 0 1 46 47 48 c ((aS q u).1) vl iK [.lp 0 0 0 0,aC 5,aC (x),aC (0),aC ((aS q u).2)] _ _ _ _ Tryz.call68 rfl rfl rfl (λR w' h=>trivial) (iV w F) (λR w' h b hb=>((h.1).2 b hb).1) (λw' ρ' F' h'=>gQ c ((aS q u).1) vl 5 (x) (0) ((aS q u).2) FT w' ρ' F' h') (λ_ _=> ?_)))|refine FB ?_|refine ag ?_ ?_<;>intro _)
   have hS:=oU (s:=q) hu;dsimp only;rw[hS,sU,<-Uv];exact Wp.into 63 [(60,some 52),(61,some 53),(62,some 54)] (X9 c s (eH (aS q u).1 5 x 0 (aS q u).2) vl (k+2) (some (aS q u).1.code.length) n i x v sp ⟨hs,(z0.plain iL).lay 5 x 0 (aS q u).2,by omega,hi,hsp,hpl,hd⟩ aa hv h64 w ρ F) ay ⟨rfl,rfl⟩ ⟨rfl,⟨rfl,rfl,rfl,rfl,rfl,trivial⟩,fE,λR w' h=>⟨⟨⟨⟨t_ h.1.1.1.1.1.1 (qX h.1.2),lY h.1.1.1.1.1.2 h.1.2⟩,h.1.1.1.1.2⟩,h.1.1.1.2⟩,h.1.1.2⟩⟩
  ·iterate 11
    refine Wp.go bW rfl ?_;repeat' ((conv=>whnf)<;>first|refine vT ?_|refine wG ?_|refine sO ?_|(show cO _ 1 ..;refine mV [9,10] _ xE ?_)|refine vV ?_|(show nC ..;refine iZ ?_)|(show aJ _ 69 ..;(refine ru rfl [(6,.box (jK (some a)) 129),(5,.box (cs n.cells) 41)] 43 0 1 40 41 42 c (q) vl 132 [.int .i64 (b)] 3 i (λ_=>b) iK sp hs.2 (z0).ok.aF F_ hi hsp hpl (λ_ _=>adw) Tryz.call132 (λR w' bb ee _ hh _=>yw w' bb ee (b) _ hh) rfl rfl rfl (λR w' h=>⟨⟨h.1.1.1.1,h.1.1.2⟩,trivial⟩) (iV w F) (λR w' h b hb=>((h).2 b hb).1) (λu hu iL=> ?_)))|(show aJ _ 68 [_,aC 5,_,_,_] ..;(refine dM [(6,.box (jK (some a)) 129),(5,.box (cs n.cells) 41)] 0 1 46 47 48 c ((aS q u).1) vl iK [.lp 0 0 0 0,aC 5,aC (x),aC (0),aC ((aS q u).2)] _ _ _ _ Tryz.call68 rfl rfl rfl (λR w' h=>trivial) (iV w F) (λR w' h b hb=>((h.1).2 b hb).1) (λw' ρ' F' h'=>gQ c ((aS q u).1) vl 5 (x) (0) ((aS q u).2) FT w' ρ' F' h') (λ_ _=> ?_)))|(show aJ _ 68 [_,aC 3,_,_,_] ..;(refine dM [(6,.box (jK (some a)) 129),(5,.box (cs n.cells) 41)] 0 1 52 53 54 c (eH (aS q u).1 5 x 0 (aS q u).2) vl iK [.lp 0 0 0 0,aC 3,aC (a),aC ((aS q u).1.code.length),aC (0)] _ _ _ _ Tryz.call68 rfl rfl rfl (λR w' h=>trivial) (iV w F) (λR w' h b hb=>((h.1.1).2 b hb).1) (λw' ρ' F' h'=>gQ c (eH (aS q u).1 5 x 0 (aS q u).2) vl 3 (a) ((aS q u).1.code.length) (0) (by have:=((z0.plain iL).lay 5 x 0 (aS q u).2).y9;omega) w' ρ' F' h') (λ_ _=> ?_)))|refine FB ?_|refine ag ?_ ?_<;>intro _)
   have hS:=oU (s:=q) hu;dsimp only;rw[hS,sU,<-Uv];exact Wp.into 63 [(60,some 57),(61,some 58),(62,some 59)] (X9 c s (eH (eH (aS q u).1 5 x 0 (aS q u).2) 3 a (aS q u).1.code.length 0) vl (k+3) (some (eH (aS q u).1 5 x 0 (aS q u).2).code.length) n i x v sp ⟨hs,((z0.plain iL).lay 5 x 0 (aS q u).2).lay 3 a (aS q u).1.code.length 0,by omega,hi,hsp,hpl,hd⟩ aa hv h64 w ρ F) ay ⟨rfl,rfl⟩ ⟨rfl,⟨rfl,rfl,rfl,rfl,rfl,trivial⟩,fE,λR w' h=>⟨⟨⟨⟨t_ h.1.1.1.1.1.1.1 (qX h.1.1.2),lY h.1.1.1.1.1.1.2 h.1.1.2⟩,h.1.1.1.1.1.2⟩,h.1.1.1.1.2⟩,h.1.1.1.2⟩⟩
theorem alH(c:fT)(q:fu)(vl:List Int)(a b:Int)(n:ak)(i:Nat)(x v:Int)(sp:ax)(hP:aeM c q 500000 n i sp)(hv:n.data.xs.getD 0 0=v)(h64:i64 v)(hb:n.data.xs.getD 1 0=b)(adw:i64 b)(ha:n.data.xs.getD 2 0=a)(anh:i64 a)(w:World)(ρ:Nat->SX.Loc)(F:Nat->Prop):
 LpW w ρ F c q vl 2 [(0,.lp 0 0 0 0),(2,aC i),(4,.lp 5 0 0 0),(7,aC x),(8,.lp 6 0 0 0)] ((6,.box (jK none) 129)::(5,.box (cs n.cells) 41)::yU c q vl 0 1 2 3 4) (lpF w F q c n q) 7 (pw4 c.aA (pw3 c.aA (pw2 c.aA (pw1 c.aA q.pl x a sp.xs) x b sp.xs) x) v sp.xs):=by
 obtain⟨hs,z0,_,hi,hsp,hpl,hd⟩:=hP;refine Wp.know (p:=∃a,n.data.base=some a) (λρ w' hw=>ae hw λR h=>aT (j:=0) (iO h.1.2.2.1) dS) ?_;rintro⟨da,hda⟩;unfold pw1;by_cases h0:a=0
 ·rw[if_pos h0];iterate 3
   refine Wp.go bW rfl ?_;repeat' ((conv=>whnf)<;>first|(show dn ..;refine aM da 2 hda rfl aa ?_)|refine Gg ?_|refine FB ?_|refine ag ?_ ?_<;>intro _)
  exact Wp.into 43 [(40,some 2),(41,some 3),(42,some 4)] (afR c q q vl 500000 b none n i x v sp ⟨hs,z0,by omega,hi,hsp,hpl,hd⟩ aa hv h64 hb adw w ρ F) ay ⟨rfl,rfl⟩ ⟨rfl,⟨rfl,rfl,rfl,rfl,rfl,trivial⟩,fE,λR w' h=>h⟩
 rw[if_neg h0];by_cases h1:a=1
 ·rw[if_pos h1];iterate 9
   refine Wp.go bW rfl ?_;repeat' ((conv=>whnf)<;>first|(show dn ..;refine aM da 2 hda rfl aa ?_)|refine Gg ?_|refine sO ?_|(show nC ..;refine iZ ?_)|(show aJ _ 68 [_,aC 6,_,_,_] ..;(refine dM [(6,.box (jK none) 129),(5,.box (cs n.cells) 41)] 0 1 2 3 4 c (q) vl iK [.lp 0 0 0 0,aC 6,aC (x),aC (x),aC (0)] _ _ _ _ Tryz.call68 rfl rfl rfl (λR w' h=>trivial) (iV w F) (λR w' h b hb=>((h).2 b hb).1) (λw' ρ' F' h'=>gQ c (q) vl 6 (x) (x) (0) EB w' ρ' F' h') (λ_ _=> ?_)))|refine FB ?_|refine ag ?_ ?_<;>intro _)
  exact Wp.into 43 [(40,some 9),(41,some 10),(42,some 11)] (afR c q (eH q 6 x x 0) vl 500001 b (some q.code.length) n i x v sp ⟨hs,z0.lay 6 x x 0,by omega,hi,hsp,hpl,hd⟩ aa hv h64 hb adw w ρ F) ay ⟨rfl,rfl⟩ ⟨rfl,⟨rfl,rfl,rfl,rfl,rfl,trivial⟩,fE,λR w' h=>h.1⟩
 ·rw[if_neg h1];iterate 12
   refine Wp.go bW rfl ?_;repeat' ((conv=>whnf)<;>first|(show dn ..;refine aM da 2 hda rfl aa ?_)|refine Gg ?_|refine sO ?_|(show aJ _ 68 [_,aC 6,_,_,_] ..;(refine dM [(6,.box (jK none) 129),(5,.box (cs n.cells) 41)] 0 1 2 3 4 c (q) vl iK [.lp 0 0 0 0,aC 6,aC (x),aC (x),aC (0)] _ _ _ _ Tryz.call68 rfl rfl rfl (λR w' h=>trivial) (iV w F) (λR w' h b hb=>((h).2 b hb).1) (λw' ρ' F' h'=>gQ c (q) vl 6 (x) (x) (0) EB w' ρ' F' h') (λ_ _=> ?_)))|refine vV ?_|(show nC ..;refine iZ ?_)|(show aJ _ 69 ..;(refine ru rfl [(6,.box (jK none) 129),(5,.box (cs n.cells) 41)] 12 0 1 9 10 11 c (eH q 6 x x 0) vl 132 [.int .i64 (a)] 3 i (λ_=>a) iK sp hs.2 (z0.lay 6 x x 0).ok.aF (by have:=(z0.lay 6 x x 0).yF;omega) hi hsp hpl (λ_ _=>anh) Tryz.call132 (λR w' bb ee _ hh _=>yw w' bb ee (a) _ hh) rfl rfl rfl (λR w' h=>⟨⟨h.1.1.1.1.1,h.1.1.1.2⟩,trivial⟩) (iV w F) (λR w' h b hb=>((h.1).2 b hb).1) (λu hu iL=> ?_)))|(show aJ _ 68 [_,aC 5,_,_,_] ..;(refine dM [(6,.box (jK none) 129),(5,.box (cs n.cells) 41)] 0 1 15 16 17 c ((aS (eH q 6 x x 0) u).1) vl iK [.lp 0 0 0 0,aC 5,aC (q.code.length),aC (0),aC ((aS (eH q 6 x x 0) u).2)] _ _ _ _ Tryz.call68 rfl rfl rfl (λR w' h=>trivial) (iV w F) (λR w' h b hb=>((h.1.1).2 b hb).1) (λw' ρ' F' h'=>gQ c ((aS (eH q 6 x x 0) u).1) vl 5 (q.code.length) (0) ((aS (eH q 6 x x 0) u).2) (by have:=((z0.lay 6 x x 0).plain iL).y9;omega) w' ρ' F' h') (λ_ _=> ?_)))|refine FB ?_|refine ag ?_ ?_<;>intro _)
  have hS:=oU (s:=eH q 6 x x 0) hu;rw[sU];dsimp only;rw[hS];exact Wp.into 43 [(40,some 21),(41,some 22),(42,some 23)] (afR c q (eH (aS (eH q 6 x x 0) u).1 5 q.code.length 0 (aS (eH q 6 x x 0) u).2) vl 500003 b (some (aS (eH q 6 x x 0) u).1.code.length) n i x v sp ⟨hs,((z0.lay 6 x x 0).plain iL).lay 5 q.code.length 0 (aS (eH q 6 x x 0) u).2,by omega,hi,hsp,hpl,hd⟩ aa hv h64 hb adw w ρ F) ay ⟨rfl,rfl⟩ ⟨rfl,⟨rfl,rfl,rfl,rfl,rfl,trivial⟩,fE,λR w' h=>⟨⟨⟨⟨t_ h.1.1.1.1.1.1.1 (qX h.1.2),lY h.1.1.1.1.1.1.2 h.1.2⟩,h.1.1.1.1.1.2⟩,h.1.1.1.1.2⟩,h.1.1.1.2⟩⟩
theorem adJ(c:fT)(s:fu)(vl:List Int)(n:ak)(i:Nat)(sp:ax)(hN:wT c s vl)(h0:0<=n.a)(hna:n.a.toNat<vl.length)(hd:n.data.xs.length=3)(hds:n.data.bF)(hi:c.di.l[i]? =some sp)(Py:sp.bF)(hpl:∀x∈sp.xs,0<=x/\x<c.aA)(w:World)(ρ:Nat->SX.Loc)(F:Nat->Prop)(h:qF w ρ F 2 5 (kG c s vl) (D6 c s n)):
 Calls Tryz.prog 31 (SV.dW ρ [.lp 0 0 0 0,.agg (vo n),aC i]).toArray w (pz w ρ F c s vl (rM c.aA s.pl (vl.getD n.a.toNat 0) n.data.xs sp.xs)):=by
 have h64:∀j,j<n.data.xs.length->i64 (n.data.xs.getD j 0):=λj hj=>by
  rw[TR,YL hj];exact hds.fits _ (aby hj)
 have anO:=h64 0 aa;have ana:=h64 1 aa;have amW:=h64 2 aa;obtain⟨x,hx⟩:∃x,vl.getD n.a.toNat 0=x:=⟨_,rfl⟩;rw[Z9,hx];have hP:aeM c s 500000 n i sp:=⟨hN.aA,⟨hN.ok,hN.yF,hN.y9⟩,by omega,hi,Py,hpl,hd⟩;refine zzF Tryz.func31 (yZ 2 ρ) ρ [.lp 0 0 0 0,.agg (vo n),aC i] (kG c s vl) ((D6 c s n).and (l8 w F)) 5 h.abs ?_;iterate 2
  refine Wp.go bW rfl ?_;repeat' ((conv=>whnf)<;>first|(show cO _ 1 ..;refine mV [] _ ak_ ?_)|refine eU ?_|(show eP ..;(refine bY n.a.toNat aa hna oG ?_))|(show rQ ..;refine aho hna hx ?_))
 all_goals exact Wp.into 7 [] (alH c s vl (n.data.xs.getD 2 0) (n.data.xs.getD 1 0) n i x (n.data.xs.getD 0 0) sp hP rfl anO rfl ana rfl amW w ρ F) ay ⟨rfl,rfl⟩ ⟨rfl,⟨rfl,rfl,rfl,rfl,rfl,trivial⟩,fE,λR w' h=>⟨⟨⟨⟨h.1.1.1,vP _ _ _⟩,h.1.1.2⟩,h.1.2⟩,h.2⟩⟩
theorem acT{c:fT}{aV:Int}{sh:List (List Int)}{g:List ak}(h:Ie c aV sh g){i:Nat}{n:ak}(hi:g[i]? =some n):Hu c n i (ww n.ai):=by
 obtain⟨hl,hF,s0,hs0,hin⟩:=h.formed hi;obtain⟨hn,hsm,_⟩:=h.each i n hi;obtain⟨t2,to,ht2,_,hto,Jk,_,eto,_,gt2,_,tp,tl,te⟩:=h.at_ hl;have hsi:=Y7 tp;have es:s0=t2.xs:=by rw[hs0]at gt2;simpa using gt2
 have hah:=uG hin.form;have hkk:=hF.ai;by_cases k1:n.ai=1
 ·exact KC h hi k1
 by_cases k9:eF n\/n.ai=9
 ·exact En h hi k9
 have hkind:n.ai=2\/n.ai=6\/n.ai=7\/n.ai=8:=by unfold eF at k9;omega
 intro s vl w ρ F hN hvl hO;have hw:qF w ρ F 2 5 (kG c s vl) (D6 c s n):=FV hO (λR w h=>h.1);have hdata:n.ai=2->n.az.xs=s0:=λhk=>by
  have:=hin.az;unfold bP at this;rw[if_pos (.inr hk)]at this;simpa using this
 by_cases k2:n.ai=2
 ·have e:d_ c n i s.pl vl=bI (bH c.aA s.pl to.xs (λe=>n.data.xs.getD e 0)).1 2 0 0 (bH c.aA s.pl to.xs (λe=>n.data.xs.getD e 0)).2:=by unfold d_;rw[if_neg k1,if_pos k2,eto]
  have hd:=hah.2.2.2.2 k2;have f:ww n.ai=28:=by rw[k2];rfl
  rw[hdata k2,es]at hd;rw[e,f];exact acF c s vl n i to hN aa hn.data hto Jk hsi w ρ F hw
 have hA:=hF.a k1 k2;have h0:0<=n.a:=hA.1;have ha:n.a.toNat<vl.length:=by omega
 by_cases k6:n.ai=6
 ·have e:d_ c n i s.pl vl=bI s.pl 3 (vl.getD n.a.toNat 0) (vl.getD n.b.toNat 0) 0:=by unfold d_;rw[if_neg k1,if_neg k2,if_pos k6]
  have f:ww n.ai=29:=by rw[k6];rfl
  have hb:=hF.b k6;rw[e,f];exact ah6 c s vl n i hN ⟨h0,hb.1⟩ ha aa w ρ F (FV hO (λR w h=>trivial))
 by_cases k7:n.ai=7
 ·have e:d_ c n i s.pl vl=bI (bH c.aA s.pl to.xs (λ_=>n.data.xs.getD 0 0)).1 5 (vl.getD n.a.toNat 0) 0 (bH c.aA s.pl to.xs (λ_=>n.data.xs.getD 0 0)).2:=by unfold d_;rw[if_neg k1,if_neg k2,if_neg k6,if_pos k7,eto]
  have f:ww n.ai=30:=by rw[k7];rfl
  rw[e,f];exact ZE c s vl n i to hN h0 ha (hah.2.2.1 k7) hn.data hto Jk hsi w ρ F hw
 have k8:n.ai=8:=by omega
 have e:d_ c n i s.pl vl=rM c.aA s.pl (vl.getD n.a.toNat 0) n.data.xs to.xs:=by unfold d_;rw[if_neg k1,if_neg k2,if_neg k6,if_neg k7,if_pos k8,eto]
 have f:ww n.ai=31:=by rw[k8];rfl
 rw[e,f];exact adJ c s vl n i to hN h0 ha (hah.2.2.2.1 k8) hn.data hto Jk hsi w ρ F hw
theorem Ro(w:World)(g:bM)(o:DZ)(aA:Int)(hg:g.ok w)(h64:i64 aA):Calls Tryz.prog 9 #[g.val,o.val,.int .i64 aA] w (vD w (jX g o aA)):=
 ac4 w g o aA hg h64 (λ_ _ h _ _ hi=>acT h hi)
section
variable {w:World} {nb:Option Addr} {nc:Nat} {t d b:ax}
theorem akZ(hr:bE w nb 9 (bO [inN t 0 1,Qv d b]))(ht:t.ok w)(hd:d.ok w)(hb:b.ok w)(h2:d.xs.length<=5000)(h3:b.xs.length<=5000):(fwG nb nc t d b).ok w:=by
 refine⟨hr,λn hn=> ?_,λn hn=> ?_,(show 2<=1000000 by decide),(show i64 1 from⟨by decide,by decide⟩)⟩
 ·rcases abr.1 hn with rfl|hn
  ·exact⟨ht,Uu w,Uu w,WX,pG,pG,pG,WX,pG⟩
  ·rw[afe.1 hn];exact⟨Uu w,hd,hb,(show i64 3 from⟨by decide,by decide⟩),pG,pG,pG,pG,pG⟩
 ·rcases abr.1 hn with rfl|hn
  ·exact⟨aae _,aae _⟩
  ·rw[afe.1 hn];exact⟨h2,h3⟩
theorem afO{c:fT}{aV:Int}{sh:List (List Int)}(h:Ie c aV sh (fwG nb nc t d b).l):∀(i:Nat) (n:ak),(fwG nb nc t d b).l[i]? =some n->Hu c n i (ww n.ai):=by
 intro i n hi;have hm:=adu hi;rcases abr.1 hm with e|hm
 ·exact KC h hi (by rw[e];rfl)
 ·exact En h hi (.inl (by rw[afe.1 hm];exact .inl rfl))
def fxV:yx:=⟨4,⟨[⟨0,1,[0,1]⟩],[[5,0,0,0],[7,0,0,0]],[⟨1,0,0,0,0⟩,⟨5,1,0,0,0⟩,⟨8,2,0,0,1⟩,⟨5,3,2,0,1⟩,⟨3,4,1,3,0⟩]⟩,4,[0]⟩
theorem ajB:mr (fwG none 0 ⟨none,0,[2]⟩ ⟨none,0,[5,7]⟩ ⟨none,0,[0]⟩) 0 false 4=(fxV,0):=by kernel_rfl
theorem alp(ht:t.xs=[2])(hd:d.xs=[5,7])(hb:b.xs=[0]):mr (fwG nb nc t d b) 0 false 4=(fxV,0):=by
 rw[<-ajB];refine Rs (g:=fwG nb nc t d b) (g':=fwG none 0 ⟨none,0,[2]⟩ ⟨none,0,[5,7]⟩ ⟨none,0,[0]⟩) ?_ rfl _ _ _;show [aN.mk 1 0 0 t.xs 0 1 0 [] [],aN.mk 3 0 0 [] 0 0 0 d.xs b.xs]=_;rw[ht,hd,hb];rfl
def fxC:List jf:=[⟨1,0,0,0,0⟩,⟨5,1,0,0,0⟩,⟨8,2,0,0,1⟩,⟨5,3,2,0,1⟩,⟨3,4,1,3,0⟩]
theorem abB:∀x∈fxC,sG x:=by
 intro x hx;have:(fxC.all λx=>decide (-1000<=x.op/\x.op<=1000/\ -1000<=x.KD/\x.KD<=1000/\ -1000<=x.a/\x.a<=1000/\ -1000<=x.b/\x.b<=1000/\ -1000<=x.k/\x.k<=1000))=true:=by decide
 have:=of_decide_eq_true (akM.1 this x hx);unfold sG i64;omega
theorem Yz{w0:World}{i n:Nat}(l:List jf){R0:List (List Value)}{T:TypeId}{H:Heap}{S:bR}{nx:Nat}{K:SV->Heap->bR->Nat->Prop}(hN:∀R w,S.holds R w->(aU w0).holds R w)(he:R0=iX l)(hn:n=l.length)(h:∀base cap,K (.c (.slice base l.length cap)) H (S.and ((f_ base 5 (iX l)).past w0.heap.size)) nx):qN (.os i n) ((i,.rows R0 5 T)::H) S nx K:=by
 subst he hn;exact sH w0.heap.size (λR w hS b hb=>(hN R w hS b hb).1) (λlc _=>h lc.base lc.cap)
theorem Aq{v:l7}{N:Nat}{R:Nat->Prop}(h:((LD v).past N).holds R w):bE w v.aF.base 1 (bA v.aF.l)/\(∀u∈v.aF.l,bE w u.base 1 (aZ u.xs))/\bE w v.cb 5 (iX v.code)/\bE w v.out.base 1 (aZ v.out.xs)/\bE w v.ib 3 (mq v.inputs)/\∀x∈v.inputs,bE w x.aA.base 1 (aZ x.aA.xs):=by
 have h:(LD v).holds R w:=(LD v).mono h (λb hb=>hb.1);exact⟨bf h.1.2.1,λu hu=>bf (h.1.2.2 u hu),bf h.2.1,bf h.2.2,bf h.1.1.1,λx hx=>bf (h.1.1.2 x hx)⟩
theorem K3(w:World):Calls Tryz.prog 7 #[] w λe w'=>e= .returned (.bool true)/\Ext w w':=by
 refine fH Tryz.func7 [] ?_;repeat' ((conv=>whnf)<;>first|refine Lv ?_)
 refine vE (w0:=w) [2] (λR w' h=>h) rfl rfl (LW rfl) ay (λt ht hts=> ?_);repeat' ((conv=>whnf)<;>first|refine Lv ?_)
 refine vE (w0:=w) [5,7] (λR w' h=>h.1) rfl rfl (LW rfl) ay (λd hd hds=> ?_);repeat' ((conv=>whnf)<;>first|refine Lv ?_)
 refine vE (w0:=w) [0] (λR w' h=>h.1.1) rfl rfl (LW rfl) ay (λb hb hbs=> ?_);repeat' ((conv=>whnf)<;>first|refine Lv ?_)
 refine QV (w0:=w) [inN t 0 1,Qv d b] (λR w' h=>h.1.1.1) rfl rfl (λnb nc=> ?_);repeat' ((conv=>whnf)<;>first|refine Lv ?_)
 refine FN (fxV,0) Tryz.call9 (λρ w' hw=>by
  have hg:(fwG nb nc t d b).ok w':=ae hw λR h=>akZ (bf h.2) (dw hts h.1.1.1.2) (dw hds h.1.1.2) (dw hbs h.1.2) (by rw[hd];decide) (by rw[hb];decide);have:=Zf w' (fwG nb nc t d b) ⟨0,false,false,false,0⟩ 4 hg ay (afy (n:=2) (m:=1) ht ay ay (by rw[hd];rfl) (by rw[hb];rfl) (by rw[hd];decide) (by rw[hb];decide)) rfl (λc hS=>afO hS);rw[alp ht hd hb]at this;exact this) (λv hv hvs=> ?_)
 obtain⟨sl,ib,ic,inp,⟨pb,pc,pl⟩,cb,cc,code,last,out⟩:=v;have hcode:code=fxC:=congrArg (λx:yx=>x.low.code) hv;have hlast:last=4:=congrArg (λx:yx=>x.last) hv;have hpl:pl.map ax.xs=[[5,0,0,0],[7,0,0,0]]:=congrArg (λx:yx=>x.low.aF) hv;obtain⟨p0,p1,rfl⟩:∃p0 p1,pl=[p0,p1]:=by
  have:pl.length=2:=by simpa using congrArg List.length hpl
  match pl,this with
  |[p0,p1],_=>exact⟨p0,p1,rfl⟩
 have hp1:p1.xs=[7,0,0,0]:=by simp only[afY,aiK,List.cons.injEq]at hpl;exact hpl.2.1
 have ajr:p1.bF:=hvs.aF p1 aI;subst hcode hlast;clear hv;repeat' ((conv=>whnf)<;>first|refine Lv ?_)
 refine Yz (w0:=w) fxC (λR w' h=>h.1.1.1.1.1) rfl rfl (λsb sc=> ?_);refine Wp.know (p:=∃a,pb=some a) (λρ w' hw=>ae hw λR h=>aT (j:=1) (Aq h.1.2).1 (show 1<2 by decide)) ?_;rintro⟨pa,rfl⟩;repeat' ((conv=>whnf)<;>first|(show @iG _ _ _;refine gJ rfl ?_)|(show dn ..;refine aM pa 1 rfl rfl (show 1<2 by decide) ?_)|(show gZ ..;refine bN (λR w' h=>(Aq h.1.2).1) [p1.val] p1.val rfl rfl ?_)|(show aJ _ 21 ..;(refine aR (f:=21) Tryz.call21 (.bool true) (λρ w' hw=>by have:=Ua w' cb cc fxC sb sc fxC (ae hw λR h=>(Aq h.1.2).2.2.1) (ae hw λR h=>bf h.2) ay abB abB;rw[decide_eq_true rfl]at this;exact this) ?_))|refine Lv ?_)
 refine vE (w0:=w) [7,0,0,0] (λR w' h=>h.1.1.1.1.1.1) rfl rfl (LW rfl) ay (λq hq hqs=> ?_);repeat' ((conv=>whnf)<;>first|(show @iG _ _ _;refine gJ rfl ?_)|(show aJ _ 20 ..;(refine aR (f:=20) Tryz.call20 (.bool true) (λρ w' hw=>by have:=Nv w' p1 q (ae hw λR h=>⟨(Aq h.1.1.2).2.1 p1 aI,ajr.fits,ajr.room,ajr.few⟩) (ae hw λR h=>dw hqs h.2);rw[decide_eq_true (hp1.trans hq.symm)]at this;exact this) ?_))|refine a_ ?_)
 conv=>whnf
 exact bq (λR w' h=>h.1.1.1.1.1.1.1) rfl rfl
end
section
theorem afS{a b:Nat}{K:Int->Prop}(hk:K ((a/b:Nat):Int))(hb:0<b)(ha:a<256):yM .u8 (a:Int) (b:Int) K:=by
 rw[Cz];refine⟨by omega,?_⟩;have h1:(a:Int).tdiv (b:Int)=((a/b:Nat):Int):=by rw[Int.tdiv_eq_ediv_of_nonneg aa];rfl
 have h2:a/b<=a:=anJ a b;rw[h1];generalize a/b=q at*;have:=wrap_u8 (z:=(q:Int)) (K:=λz=>z=(q:Int)) aa aa rfl;rw[mZ]at this;rw[this];exact hk
def Em(k:Nat):DZ:=⟨(k%2:Nat),decide (k/2%2=1),false,decide (k/4%2=1),0⟩
theorem K_(w:World)(k:Nat)(hk:k<256):Calls Tryz.prog 15 #[.int .u8 k] w λe w'=>e= .returned (Em k).val/\Ext w w':=by
 have h1:(Em k).val= .agg #[.int .i64 ((k%2:Nat):Int),.bool (decide (k/2%2=1)),.bool false,.bool (decide (k/4%2=1)),.int .i64 0]:=rfl;rw[h1];have c1:k/2%2=0\/k/2%2=1:=by omega
 have c2:k/4%2=0\/k/4%2=1:=by omega
 have b1:k/2<256:=by omega
 have b2:k/4<256:=by omega
 refine fH Tryz.func15 [.c (.int .u8 k)] ?_;rcases c1 with c1|c1<;>rcases c2 with c2|c2
 all_goals
  rw[c1,c2];repeat' ((conv=>whnf)<;>first|refine bn ?_|(show x8 ..;(first|refine Yi (a:=k) (b:=2) ?_|refine pI (a:=k/2) (b:=2) c1 ?_|refine pI (a:=k/4) (b:=2) c2 ?_))|(show yM ..;(first|refine afS (a:=k) (b:=2) ?_ ay hk|refine afS (a:=k) (b:=4) ?_ ay hk))|(show fF ..;refine pF ((k%2:Nat):Int) rfl aa aa ?_)|refine a_ ?_)
  all_goals(conv=>whnf)
  all_goals exact bZ (λ_ _ h=>h) (λ_=>rfl) rfl
variable {v:l7} {sl vals:List Int}
theorem agZ{p:yx}{n N:Nat}{inp:List (List Int)}(hM:J9 n p inp sl vals)(hv:v.pl=p)(hs:v.bF)(hn:4<=n/\n<=2048)(hp:bitsOf .and .i64 (n:Int) ((n:Int)-1)=0){R:Nat->Prop}{w:World}(h:((LD v).past N).holds R w):KE w v n:=by
 subst hv;obtain⟨h1,h2,h3,h4,h5,h6⟩:=Aq h;have hl:=hM.val.lt;have e1:(v.aF.l.map ax.xs).length=v.aF.l.length:=aas _;have e2:(v.inputs.map nN.pl).length=v.inputs.length:=aas _;have hc:v.code.length<=2048:=hM.few;have hl1:0<=v.last:=hl.1;have hl2:v.last<(v.code.length:Nat):=hl.2;have ho:v.out.xs=sl:=hM.out;exact⟨hM.aA,hn,hp,⟨by omega,hc⟩,⟨hl1,hl2⟩,⟨⟨h4,hs.out.fits,hs.out.room,hs.out.few⟩,by rw[ho];exact hM.places⟩,h1,λu hu=>⟨⟨h2 u hu,(hs.aF u hu).fits,(hs.aF u hu).room,(hs.aF u hu).few⟩,hM.ok.aF u.xs (abl.2 ⟨u,hu,rfl⟩)⟩,h5,λx hx=>⟨⟨h6 x hx,(hs.inputs x hx).1.fits,(hs.inputs x hx).1.room,(hs.inputs x hx).1.few⟩,(hM.ok.inputs x.pl (abl.2 ⟨x,hx,rfl⟩)).1,(hM.ok.inputs x.pl (abl.2 ⟨x,hx,rfl⟩)).2⟩,h3,λi x hx=>by
  have:=hM.ok.form i x hx;rw[<-e1,<-e2];exact this,hs.yF,hs.aaK⟩
theorem ahK{p:yx}{n t:Nat}{ins:aY}(hM:J9 n p (ins.l.map ax.xs) sl vals)(hv:v.pl=p):((qM (plI v) (Iu n v ins) v.code).map (qJ t)).getD v.last.toNat []=qJ t (bU n sl λe=>vals.getD e 0):=by
 subst hv;obtain⟨h0,h1,h2⟩:=hM.val;have h1:v.last.toNat<v.code.length:=h1;have h2:(qM (plI v) (Iu n v ins) v.code).getD v.last.toNat []=bU n sl λe=>vals.getD e 0:=h2;rw[<-h2,TR,ab5,TR,YL (by rw[uw];exact h1)]
 rfl
end
section
variable {g:bM} {o:DZ}
theorem Uh{aA:Int}(h:(jX g o aA).2=0):(cZ g).1=0:=by
 unfold jX at h;split at h
 ·by_cases hs:(cZ g).1≠0
  ·rw[if_pos hs]at h;exact absurd h hs
  ·omega
 ·cases h
structure zf(v:l7)(x:aY)(n:Nat)(vals:List Int):Prop where
 means:J9 n v.pl (x.l.map ax.xs) v.out.xs vals
 bF:v.bF
 n2:4<=n/\n<=2048
 pow:bitsOf .and .i64 (n:Int) ((n:Int)-1)=0
variable {x:aY} {v:l7}
theorem Yy{n:Nat}{V:List (List Int)}(hsp:(cZ g).1=0)(hv:d9 (check g).2 g.l [] (x.l.map ax.xs)=(0,V))(hr:(jX g o n).2=0)(h:v.pl=(jX g o n).1)(hs:v.bF):zf v x n (V.getD g.out.toNat []):=by
 obtain⟨⟨_,_,h4,h8,hp⟩,sl,hM⟩:=ahE hsp hv o n hr;rw[<-h,ahh]at hM;have ho:v.out.xs=sl:=hM.out;subst ho;exact⟨hM,hs,by omega,hp⟩
variable {N:Nat} {vals:List Int} {R:Nat->Prop} {w:World}
theorem zf.ok{n:Nat}(h:zf v x n vals)(hv:((LD v).past N).holds R w):KE w v n:=agZ h.means rfl h.bF h.n2 h.pow hv
theorem zf.ins{n:Nat}(h:zf v x n vals)(hxs:∀u∈x.l,u.bF)(hx:((jD x).past N).holds R w):ae7 w v x:=
 ⟨bf hx.1,λu hu=>dw (hxs u hu) (hx.2 u hu),h.means.mat⟩
def SA(v:l7)(x:aY)(n t:Nat):List (List Int):=(qM (plI v) (Iu n v x) v.code).map (qJ t)
theorem zf.run{n:Nat}(h:zf v x n vals)(hxs:∀u∈x.l,u.bF)(t:Nat)(ht:2<=t/\t<=1073741824)(hv:((LD v).past N).holds R w)(hx:((jD x).past N).holds R w):Calls Tryz.prog 18 #[v.val,x.val,.int .u64 t] w (oW w (0,SA v x n t)):=
 agK w v n (h.ok hv) x (h.ins hxs hx) t ht
theorem zf.last{v:l7}{x:aY}{n:Nat}{vals:List Int}(h:zf v x n vals):0<=v.last/\v.last.toNat<v.code.length:=⟨h.means.val.1,h.means.val.2.1⟩
theorem zf.told{n t:Nat}(h:zf v x n vals){sv:aY}(hs:sv.l.map ax.xs=SA v x n t):sv.l.length=v.code.length/\∃u,sv.l[v.last.toNat]? =some u/\u.xs=qJ t (bU n v.out.xs λe=>vals.getD e 0):=by
 have hl:sv.l.length=v.code.length:=by
  have:=congrArg List.length hs;rw[aas]at this;rw[this];unfold SA;rw[aas,uw]
 have hk:=h.last.2;refine⟨hl,sv.l[v.last.toNat],YL aa,?_⟩;have e:=ahK (v:=v) (t:=t) h.means rfl;have e2:(SA v x n t).getD v.last.toNat []=qJ t (bU n v.out.xs λe=>vals.getD e 0):=e;rw[<-hs,TR,ab5,YL aa]at e2;exact e2
theorem zf.len{v:l7}{x:aY}{n:Nat}{vals:List Int}(h:zf v x n vals):v.out.xs.length=vals.length:=h.means.len.symm
abbrev S6(w:World)(g:bM)(x:aY):bR:=((aU w).and (Eg λw=>g.ok w)).and ((jD x).past w.heap.size)
end
end Go.Proofs.YtgndjjdeopfdkaaGreat
namespace Go.Num
def Pr(p:Nat):Prop:=2<=p/\∀d,d∣p->d=1\/d=p
theorem Pr.cop{p a:Nat}(h:Pr p)(ha:¬p∣a):Nat.Coprime p a:=by
 rcases h.2 _ (Nat.gcd_dvd_left p a)with h1|h1
 ·exact h1
 ·exact absurd (h1▸Nat.gcd_dvd_right p a) ha
theorem Pr.mul{p a b:Nat}(h:Pr p)(hd:p∣a*b):p∣a\/p∣b:=by
 by_cases ha:p∣a
 ·exact .inl ha
 ·exact .inr ((h.cop ha).dvd_of_dvd_mul_left hd)
def sq(n:Nat):Nat->Nat->Bool
 |0,_=>false
 |k+1,x=>x*x%n==n-1||sq n k (x*x%n)
def spr(n d s a:Nat):Bool:=a^d%n==1||a^d%n==n-1||sq n (s-1) (a^d%n)
def aox:Nat->Nat->Nat
 |0,_=>0
 |f+1,m=>bif Nat.beq (m%2) 0 then aox f (m/2)+1 else 0
theorem arX{f m:Nat}(h:m%2=0):0<aox (f+1) m:=by
 unfold aox;rw[h];exact Nat.succ_pos _
def st(n a:Nat):Bool:=spr n ((n-1)/2^aox 64 (n-1)) (aox 64 (n-1)) a
def trial(n:Nat):Nat->Nat->Bool
 |0,_=>true
 |f+1,d=>bif Nat.ble (d*d) n then(bif Nat.beq (n%d) 0 then false else trial n f (d+1))else true
def ap1(n:Nat):Bool:=bif Nat.blt n 2 then false else bif Nat.blt n 65536 then trial n 300 2 else
 [2,3,5,7,11,13,17,19,23,29,31,37].all λa=> !Nat.beq (n%a) 0&&st n a
def every(f:Nat->Bool):Nat->Bool
 |0=>true
 |n+1=>bif f n then every f n else false
end Go.Num
namespace Go.Proofs.YtgndjjdeopfdkaaGreat
open Go.SX Go.RowKit
section
variable {b:Nat}
theorem arZ{a:Nat}(h:a≠b):Nat.beq a b=false:=by
 cases e:Nat.beq a b with
 |false=>rfl
 |true=>exact absurd (ael e) h
theorem asa{a:Nat}(h:a=b):Nat.beq a b=true:=by subst h;exact Nat.beq_refl a
theorem aoy{z:Int}(y:Int){K:Int->Prop}(h:z=y)(h1: -9223372036854775808<=y)(h2:y<=9223372036854775807)(hk:K y):fF .i64 z K:=by
 subst h;exact wrap_i64 h1 h2 hk
def ap3(l:List Nat):List (List Value):=l.map λ(x:Nat)=>[.int .u64 (x:Int)]
variable {l:List Nat} {i:Nat}
theorem aqg(h:i<l.length):(ap3 l)[i]? =some [.int .u64 ((l.getD i 0:Nat):Int)]:=by
 unfold ap3;rw[ab5,YL h,TR,YL h];rfl
theorem arn{f:Nat->Bool}(h:i<l.length):(l.drop i).all f=(f (l.getD i 0)&&(l.drop (i+1)).all f):=by
 rw[ahc h,List.all_cons,TR,YL h];rfl
theorem arJ(hb:∀x∈l,x<b)(h0:0<b)(i:Nat):l.getD i 0<b:=by
 rw[TR];by_cases h:i<l.length
 ·rw[YL h];exact hb _ (aby h)
 ·rw[aiQ aa];exact h0
end
theorem aou(w:World)(a b m:Nat)(hm:0<m)(hm2:m<=4294967296):Calls Tryz.prog 94 #[.int .u64 a,.int .u64 b,.int .u64 m] w λe w'=>e= .returned (.int .u64 ((a*b%m:Nat):Int))/\Ext w w':=by
 have h1:=akx a hm;have h2:=akx b hm;have h3:(a%m)*(b%m)<18446744073709551616:=Nat.lt_of_le_of_lt (alN (show a%m<=4294967295 by omega) (show b%m<=4294967295 by omega)) ay;have e:(a%m)*(b%m)%m=a*b%m:=(Nat.mul_mod a b m).symm;refine fH Tryz.func94 [.c (.int .u64 a),.c (.int .u64 b),.c (.int .u64 m)] ?_;repeat' ((conv=>whnf)<;>first|refine bn ?_|(show x8 ..;refine Yi ?_)|(show fF ..;refine acY ?_)|refine bV ?_)
 all_goals(conv=>whnf)
 all_goals exact bZ (λ_ _ h=>h) (λ_=>by rw[<-e];rfl) rfl
theorem atc(n k:Nat):n/2^k=2*(n/2^(k+1))+n/2^k%2:=by
 rw[Nat.pow_succ,<-Nat.div_div_eq_div_mul];omega
theorem ath(A B m:Nat):A*A*B%m=A%m*(A%m)%m*B%m:=by
 rw[Nat.mod_mul_mod,Nat.mul_mod (A%m*(A%m)) B,<-Nat.mul_mod A A,<-Nat.mul_mod]
theorem aqP(w:World)(a n m:Nat)(hn:n<18446744073709551616)(hm:0<m)(hm2:m<=4294967296):Calls Tryz.prog 93 #[.int .u64 a,.int .u64 n,.int .u64 m] w λe w'=>e= .returned (.int .u64 ((a^n%m:Nat):Int))/\Ext w w':=by
 refine fH Tryz.func93 [.c (.int .u64 a),.c (.int .u64 n),.c (.int .u64 m)] ?_;repeat' ((conv=>whnf)<;>first|refine bn ?_|(show x8 ..;refine Yi (a:=1) ?_)|refine a_ ?_)
 refine Wp.loop (σ:=Nat) 3 (λi=>[(0,.c (.int .u64 a)),(1,.c (.int .u64 n)),(2,.c (.int .u64 m)),(7,.c (.int .u64 ((a^(n/2^(64-i))%m:Nat):Int))),(8,aC i)]) (λ_=>[]) (λ_=>aU w)
  (λi=>i<=64) (λi=>64-i) 0 [] ay (λ_=>⟨rfl,rfl⟩) (aae _) ⟨rfl,⟨rfl,rfl,rfl,by show some (SV.c (.int .u64 ((1%m:Nat):Int)))=some (SV.c (.int .u64 ((a^(n/2^64)%m:Nat):Int)));rw[Nat.div_eq_of_lt hn,Nat.pow_zero],rfl,trivial⟩,trivial,λR w' h=>h⟩ ?_
 rintro i hi;by_cases h0:i<64
 ·obtain⟨j,hj⟩:∃j,64-i=j+1:=⟨63-i,by omega⟩;have hj2:64-(i+1)=j:=by omega
  have hj3:(63:Int)-i=(j:Int):=by omega
  rw[hj];have hbit:=atc n j;have hp:a^(n/2^j)%m=(a^(n/2^(j+1))%m)*(a^(n/2^(j+1))%m)%m*a^(n/2^j%2)%m:=by
   have e:a^(n/2^j)=a^(n/2^(j+1))*a^(n/2^(j+1))*a^(n/2^j%2):=by
    rw[<-Nat.pow_add,<-Nat.pow_add,<-Nat.two_mul,<-hbit]
   rw[e];exact ath _ _ _
  generalize a^(n/2^(j+1))%m=x at*;have hdl:n/2^j<18446744073709551616:=Nat.lt_of_le_of_lt (anJ _ _) hn;rcases(show n/2^j%2=0\/n/2^j%2=1 by omega)with e|e
  ·rw[e,Nat.pow_zero,Nat.mul_one,Nat.mod_mod]at hp;repeat' ((conv=>whnf)<;>first|refine bn ?_|(show Ci ..;refine and_one ?_)|(show CJ ..;refine aiy j rfl aa ?_)|refine apq ?_|(show aJ _ 94 ..;refine aR (f:=94) Tryz.call94 (.int .u64 ((x*x%m:Nat):Int)) (λρ w' _=>aou w' x x m hm hm2) ?_)|refine a_ ?_)
   all_goals(conv=>whnf)
   all_goals exact⟨i+1,[],h0,by show 64-(i+1)<j+1;omega,rfl,⟨rfl,rfl,rfl,by show some (SV.c (.int .u64 ((x*x%m:Nat):Int)))=some (SV.c (.int .u64 ((a^(n/2^(64-(i+1)))%m:Nat):Int)));rw[hj2,hp],rfl,trivial⟩,trivial,λ_ _ h=>h⟩
  ·rw[e,Nat.pow_one]at hp;generalize hy:x*x%m=y at*;repeat' ((conv=>whnf)<;>first|refine bn ?_|(show Ci ..;refine and_one ?_)|(show CJ ..;refine aiy j rfl aa ?_)|refine apq ?_|(show aJ _ 94 [.c (.int .u64 x),.c (.int .u64 x),.c (.int .u64 m)] ..;(refine aR (f:=94) Tryz.call94 (.int .u64 (y:Int)) (λρ w' _=>by rw[<-hy];exact aou w' x x m hm hm2) ?_))|(show aJ _ 94 [.c (.int .u64 y),.c (.int .u64 a),.c (.int .u64 m)] ..;refine aR (f:=94) Tryz.call94 (.int .u64 ((y*a%m:Nat):Int)) (λρ w' _=>aou w' y a m hm hm2) ?_)|refine a_ ?_)
   all_goals(conv=>whnf)
   all_goals exact⟨i+1,[],h0,by show 64-(i+1)<j+1;omega,rfl,⟨rfl,rfl,rfl,by show some (SV.c (.int .u64 ((y*a%m:Nat):Int)))=some (SV.c (.int .u64 ((a^(n/2^(64-(i+1)))%m:Nat):Int)));rw[hj2,hp],rfl,trivial⟩,trivial,λ_ _ h=>h⟩
 ·obtain rfl:i=64:=by omega
  repeat' ((conv=>whnf)<;>first|refine bn ?_|refine a_ ?_)
  all_goals(conv=>whnf)
  all_goals exact bZ (λ_ _ h=>h) (λ_=>by rw[aiH,Nat.pow_zero,Nat.div_one];rfl) rfl
theorem aqk{f d:Nat}(h:d%2=1):Num.aox f d=0:=by
 cases f with
 |zero=>rfl
 |succ f=>unfold Num.aox;rw[arZ (show d%2≠0 by omega)];rfl
theorem arj{f d:Nat}(h:d%2=0):Num.aox (f+1) d=Num.aox f (d/2)+1:=by
 rw[Num.aox,asa h];rfl
theorem aqT(w:World)(n a:Nat)(hn:3<=n)(hn2:n<=4294967296)(ho:n%2=1):Calls Tryz.prog 45 #[.int .u64 n,.int .u64 a] w λe w'=>e= .returned (.bool (Num.st n a))/\Ext w w':=by
 refine fH Tryz.func45 [.c (.int .u64 n),.c (.int .u64 a)] ?_;repeat' ((conv=>whnf)<;>first|refine aov ?_|refine a_ ?_)
 have htp:0<Num.aox 64 (n-1):=Num.arX aa;refine Wp.loop (σ:=Nat×Nat) 3 (λ⟨d,s⟩=>[(0,.c (.int .u64 n)),(1,.c (.int .u64 a)),(5,.c (.int .u64 d)),(6,aC s)]) (λ_=>[]) (λ_=>aU w)
  (λ⟨d,s⟩=>s<=64/\0<d/\d<2^(64-s)/\d<=n/\Num.aox (64-s) d+s=Num.aox 64 (n-1)/\d/2^Num.aox (64-s) d=(n-1)/2^Num.aox 64 (n-1)) (λ⟨d,_⟩=>d) (n-1,0) [] ay (λ_=>⟨rfl,rfl⟩) ⟨aae _,by omega,by omega,by omega,rfl,rfl⟩ ⟨rfl,⟨rfl,rfl,rfl,rfl,trivial⟩,trivial,λR w' h=>h⟩ ?_
 rintro⟨d,s⟩ ⟨hs,hd0,hd1,hdn,e1,e2⟩;by_cases hd:d%2=0
 ·have hs4:s<64:=by
   rcases ack s 64 with h|h
   ·exact h
   ·obtain rfl:s=64:=by omega
    simp at hd1;omega
  obtain⟨f,hf⟩:∃f,64-s=f+1:=⟨63-s,by omega⟩;have hf2:64-(s+1)=f:=by omega
  rw[hf]at e1 e2 hd1;rw[arj hd]at e1 e2;rw[Nat.pow_succ,Nat.mul_comm (2^Num.aox f (d/2)),<-Nat.div_div_eq_div_mul]at e2;repeat' ((conv=>whnf)<;>first|refine bn ?_|(show x8 ..;refine Yi (b:=2) ?_)|(show yM ..;refine alo (b:=2) ?_)|(show fF ..;refine aoy ((s+1:Nat):Int) aa aa aa ?_)|refine a_ ?_)
  all_goals(conv=>whnf)
  all_goals exact⟨(d/2,s+1),[],⟨hs4,by omega,by rw[hf2];rw[Nat.pow_succ]at hd1;omega,by omega,by rw[hf2];omega,by rw[hf2];exact e2⟩,by show d/2<d;omega,rfl,fE,trivial,λ_ _ h=>h⟩
 ·rw[aqk (show d%2=1 by omega),aiD]at e1;rw[aqk (show d%2=1 by omega),Nat.pow_zero,Nat.div_one]at e2;subst e1;have hst:Num.st n a=(a^d%n==1||a^d%n==n-1||Num.sq n (Num.aox 64 (n-1)-1) (a^d%n)):=by
   unfold Num.st;rw[<-e2];rfl
  rw[hst];clear hst;generalize Num.aox 64 (n-1)=tw at*;have hpm:=akx (a^d) (show 0<n by omega);have ant:∀w',Calls Tryz.prog 93 #[.int .u64 a,.int .u64 d,.int .u64 n] w' λe w''=>e= .returned (.int .u64 ((a^d%n:Nat):Int))/\Ext w' w'':=λw'=>aqP w' a d n aa aa hn2;generalize a^d%n=p at*;obtain⟨r,rfl⟩:∃r,tw=r+1:=⟨tw-1,by omega⟩;rw[Nat.add_sub_cancel];by_cases h1:p=1\/p=n-1
  ·rw[show(p==1||p==n-1||Num.sq n r p)=true by rcases h1 with h|h<;>simp[h]];rcases h1 with h1|h1
   all_goals
    repeat' ((conv=>whnf)<;>first|refine bn ?_|(show x8 ..;refine Yi (b:=2) ?_)|refine aov ?_|(show aJ _ 93 ..;refine aR (f:=93) Tryz.call93 (.int .u64 p) (λρ w' _=>ant w') ?_)|refine a_ ?_)
    all_goals(conv=>whnf)
    all_goals exact bZ (λ_ _ h=>h) (λ_=>rfl) rfl
  rw[show(p==1||p==n-1||Num.sq n r p)=Num.sq n r p by
   rw[beq_false_of_ne (λh=>h1 (.inl h)),beq_false_of_ne (λh=>h1 (.inr h))];rfl]
  repeat' ((conv=>whnf)<;>first|refine bn ?_|(show x8 ..;refine Yi (b:=2) ?_)|refine aov ?_|(show aJ _ 93 ..;refine aR (f:=93) Tryz.call93 (.int .u64 p) (λρ w' _=>ant w') ?_)|refine a_ ?_)
  refine Wp.loop (σ:=Nat×Nat) 3 (λ⟨i,x⟩=>[(0,.c (.int .u64 n)),(6,aC ((r+1:Nat):Int)),(7,.c (.int .u64 x)),(8,aC ((i+1:Nat):Int))]) (λ_=>[]) (λ_=>aU w)
   (λ⟨i,x⟩=>i<=r/\x<n/\Num.sq n (r-i) x=Num.sq n r p) (λ⟨i,_⟩=>r-i) (0,p) [] ay (λ_=>⟨rfl,rfl⟩) ⟨aae _,hpm,rfl⟩ ⟨rfl,⟨rfl,rfl,rfl,rfl,trivial⟩,trivial,λR w' h=>h⟩ ?_
  rintro⟨i,x⟩ ⟨hi,hx,he⟩;by_cases hlt:i<r
  ·have hxx:=akx (x*x) (show 0<n by omega);rw[show r-i=(r-(i+1))+1 by omega]at he;rw[show Num.sq n (r-(i+1)+1) x=(x*x%n==n-1||Num.sq n (r-(i+1)) (x*x%n))from rfl]at he;by_cases hx1:x*x%n=n-1
   ·rw[beq_iff_eq.2 hx1,Bool.true_or]at he;rw[<-he];repeat' ((conv=>whnf)<;>first|refine bn ?_|refine aov ?_|refine apd ?_|refine a_ ?_)
    all_goals(conv=>whnf)
    all_goals exact bZ (λ_ _ h=>h) (λ_=>rfl) rfl
   ·rw[beq_false_of_ne hx1,Bool.false_or]at he;repeat' ((conv=>whnf)<;>first|refine bn ?_|(show fF ..;(first|refine zh (n-1) aa aa ?_|refine aoy ((i+1+1:Nat):Int) aa aa aa ?_))|refine apd ?_|refine a_ ?_)
    all_goals(conv=>whnf)
    all_goals exact⟨(i+1,x*x%n),[],⟨hlt,hxx,he⟩,by show r-(i+1)<r-i;omega,rfl,fE,trivial,λ_ _ h=>h⟩
  ·obtain rfl:i=r:=by omega
   rw[aiH]at he;rw[<-he];repeat' ((conv=>whnf)<;>first|refine bn ?_|refine a_ ?_)
   all_goals(conv=>whnf)
   all_goals exact bZ (λ_ _ h=>h) (λ_=>rfl) rfl
abbrev aoh:List Nat:=[2,3,5,7,11,13,17,19,23,29,31,37]
theorem atg{a b:Nat}(h:b<=a):Nat.blt a b=false:=by
 cases e:Nat.blt a b with
 |false=>rfl
 |true=>exact absurd (an4 e) aa
theorem atB{a b:Nat}(h:a<b):Nat.blt a b=true:=anb h
theorem auX{a b:Nat}(h:b<a):Nat.ble a b=false:=by
 cases e:Nat.ble a b with
 |false=>rfl
 |true=>exact absurd (an4 e) aa
theorem arx{d n:Nat}(h:d*d<=n)(hn:n<65536):d<=255:=by
 rcases ack d 256 with h1|h1
 ·omega
 ·have:=alN h1 h1;omega
theorem arf{l:List Nat}(hb:∀x∈l,0<x){i:Nat}(h:i<l.length):0<l.getD i 0:=by
 rw[TR,YL h];exact hb _ (aby h)
theorem ar2(w:World)(n:Nat)(hn:n<=4294967296):Calls Tryz.prog 17 #[.int .u64 n] w λe w'=>e= .returned (.bool (Num.ap1 n))/\Ext w w':=by
 refine fH Tryz.func17 [.c (.int .u64 n)] ?_;by_cases h2:n<2
 ·rw[show Num.ap1 n=false by unfold Num.ap1;rw[atB h2];rfl];repeat' ((conv=>whnf)<;>first|refine bn ?_|refine a_ ?_)
  all_goals(conv=>whnf)
  all_goals exact bZ (λ_ _ h=>h) (λ_=>rfl) rfl
 by_cases h16:n<65536
 ·rw[show Num.ap1 n=Num.trial n 300 2 by unfold Num.ap1;rw[atg aa,atB h16];rfl];repeat' ((conv=>whnf)<;>first|refine bn ?_|refine a_ ?_)
  refine Wp.loop (σ:=Nat) 3 (λd=>[(0,.c (.int .u64 n)),(3,.c (.int .u64 d))]) (λ_=>[]) (λ_=>aU w)
   (λd=>2<=d/\d<=256/\Num.trial n (302-d) d=Num.trial n 300 2) (λd=>257-d) 2 [] ay (λ_=>⟨rfl,rfl⟩) ⟨Tw _,by omega,rfl⟩ ⟨rfl,⟨rfl,rfl,trivial⟩,trivial,λR w' h=>h⟩ ?_
  rintro d ⟨hd,hd2,he⟩;have hdd:d*d<=65536:=aiC (alN hd2 hd2) ay;obtain⟨f,hf⟩:∃f,302-d=f+1:=⟨301-d,by omega⟩;rw[hf,Num.trial]at he;by_cases hle:d*d<=n
  ·have avY:=arx hle h16;rw[anb hle,cond_true]at he;have hle':((d*d:Nat):Int)<=n:=by omega
   generalize hdx:d*d=dd at*;by_cases hz:n%d=0
   ·rw[asa hz,cond_true]at he;rw[<-he];repeat' ((conv=>whnf)<;>first|refine bn ?_|(show x8 ..;refine Yi ?_)|(show fF ..;(refine zh dd aoA aa ?_))|refine a_ ?_)
    all_goals(conv=>whnf)
    all_goals exact bZ (λ_ _ h=>h) (λ_=>rfl) rfl
   ·rw[arZ hz,cond_false]at he;repeat' ((conv=>whnf)<;>first|refine bn ?_|(show x8 ..;refine Yi ?_)|(show fF ..;(first|refine zh dd aoA aa ?_|refine zh (d+1) aa aa ?_))|refine a_ ?_)
    all_goals(conv=>whnf)
    all_goals exact⟨d+1,[],⟨by omega,by omega,by rw[show 302-(d+1)=f by omega];exact he⟩,by show 257-(d+1)<257-d;omega,rfl,fE,trivial,λ_ _ h=>h⟩
  ·rw[auX aa,cond_false]at he;rw[<-he];generalize hdx:d*d=dd at*;repeat' ((conv=>whnf)<;>first|refine bn ?_|(show fF ..;(refine zh dd aoA aa ?_))|refine a_ ?_)
   all_goals(conv=>whnf)
   all_goals exact bZ (λ_ _ h=>h) (λ_=>rfl) rfl
 ·rw[show Num.ap1 n=aoh.all (λa=> !Nat.beq (n%a) 0&&Num.st n a) by unfold Num.ap1;rw[atg aa,atg aa];rfl];repeat' ((conv=>whnf)<;>first|refine bn ?_|refine a_ ?_)
  refine Wp.loop (σ:=Nat) 3 (λi=>[(0,.c (.int .u64 n)),(21,.os 0 12),(22,aC 12),(23,aC i)]) (λ_=>[(0,.rows (ap3 aoh) 1 59)]) (λ_=>aU w)
   (λi=>i<=12/\(0<i->n%2=1)/\(aoh.drop i).all (λa=> !Nat.beq (n%a) 0&&Num.st n a)=aoh.all (λa=> !Nat.beq (n%a) 0&&Num.st n a)) (λi=>12-i) 0 [] ay (λ_=>⟨rfl,rfl⟩) ⟨aae _,λh=>absurd h (Nat.lt_irrefl _),rfl⟩ ⟨rfl,⟨rfl,rfl,rfl,rfl,trivial⟩,⟨abr.2 (.inl rfl),trivial⟩,λR w' h=>h⟩ ?_
  rintro i ⟨hi,hodd,he⟩;by_cases hlt:i<12
  ·rw[arn hlt]at he;have hb:aoh.getD i 0<4294967296:=arJ ay ay i;have hb0:0<aoh.getD i 0:=arf ay hlt;have hrow:=aqg (l:=aoh) hlt;have h20:i=0->aoh.getD i 0=2:=λe=>by subst e;rfl
   generalize aoh.getD i 0=b at*;by_cases hz:n%b=0
   ·rw[asa hz]at he;rw[<-he];repeat' ((conv=>whnf)<;>first|refine bn ?_|(show x8 ..;refine Yi ?_)|(show eP ..;refine bY i aa aa ay ?_)|(show rQ ..;refine row_of _ _ hrow rfl ?_)|refine a_ ?_)
    all_goals(conv=>whnf)
    all_goals exact bZ (λ_ _ h=>h) (λ_=>rfl) rfl
   rw[arZ hz,Bool.not_false,anE]at he;have ho:n%2=1:=by
    rcases amm i with e|e
    ·have h2:=h20 e;subst h2;omega
    ·exact hodd e
   have hcall:=λw'=>aqT w' n b aa hn ho;cases hv:Num.st n b with
   |false=>
    rw[hv]at hcall;rw[hv,Bool.false_and]at he;rw[<-he];repeat' ((conv=>whnf)<;>first|refine bn ?_|(show x8 ..;refine Yi ?_)|(show eP ..;refine bY i aa aa ay ?_)|(show rQ ..;refine row_of _ _ hrow rfl ?_)|(show aJ _ 45 ..;refine aR (f:=45) Tryz.call45 (.bool false) (λρ w' _=>hcall w') ?_)|refine a_ ?_)
    all_goals(conv=>whnf)
    all_goals exact bZ (λ_ _ h=>h) (λ_=>rfl) rfl
   |true=>
    rw[hv]at hcall;rw[hv,anE]at he;repeat' ((conv=>whnf)<;>first|refine bn ?_|(show x8 ..;refine Yi ?_)|(show fF ..;refine aoy ((i+1:Nat):Int) aa aa aa ?_)|(show eP ..;refine bY i aa aa ay ?_)|(show rQ ..;refine row_of _ _ hrow rfl ?_)|(show aJ _ 45 ..;refine aR (f:=45) Tryz.call45 (.bool true) (λρ w' _=>hcall w') ?_)|refine a_ ?_)
    all_goals(conv=>whnf)
    all_goals exact⟨i+1,[],⟨hlt,λ_=>ho,he⟩,by show 12-(i+1)<12-i;omega,rfl,fE,⟨abr.2 (.inl rfl),trivial⟩,λ_ _ h=>h⟩
  ·obtain rfl:i=12:=by omega
   rw[<-he];repeat' ((conv=>whnf)<;>first|refine bn ?_|refine a_ ?_)
   all_goals(conv=>whnf)
   all_goals exact bZ (λ_ _ h=>h) (λ_=>rfl) rfl
theorem aqB(kn:List Mix)(k:Nat):((kn.map λp=>p.1.xs).getD k [])=((kn.map Prod.fst).getD k cK).xs:=by
 rw[TR,TR,ab5,ab5];cases kn[k]? <;>rfl
theorem aqu(kn:List Mix)(x:Mix){i m:Nat}{T:TypeId}{H:Heap}(hm:m=kn.length):(i,b_.rows (bA ((kn++[x]).map Prod.fst)) 1 T)∈(i,b_.rows (List.take m (bA (kn.map Prod.fst))++[[x.1.val]]) 1 T)::H:=by
 subst hm;rw[afn];have:=yA (kn.map Prod.fst) x.1 (i:=i) (T:=T) (H:=H);rw[aas]at this;exact this
theorem aqe{l:List Int}{lo hi:Int}(h1:1<=l.length)(h:∀q,q<l.length->lo<=l.getD q 0/\l.getD q 0<=hi):lo<=foldI min l/\foldI max l<=hi:=by
 have key:∀x∈l,lo<=x/\x<=hi:=λx hx=>by
  obtain⟨q,hq,rfl⟩:=am0.1 hx;have:=h q hq;rw[TR,YL hq]at this;exact this
 exact⟨(key _ (Er h1)).1,(key _ (Ei h1)).2⟩
theorem apv(w:World)(g:bM)(hg:g.ok w)(iv:aY)(hiv:InV.ok w iv):Calls Tryz.prog 43 #[g.val,iv.val] w (ao1 (apu g iv) w (aoG g (iv.l.map ax.xs))):=by
 have apk:=hiv.few;have hsrc:=asY hg hiv;refine fH Tryz.func43 [.agg [.c (.slice g.base g.l.length g.cap),aC g.out],.c iv.val] ?_;repeat' ((conv=>whnf)<;>first|refine bV ?_|refine ag ?_ ?_<;>intro _)
 refine wZ (f:=16) (cZ g) Tryz.call16 (λρ w' hw=>aoI w' g (ae hw λR h=>hg.later h)) (λhne=> ?_) (λhsp base cap=> ?_)
 ·have hq:aoG g (iv.l.map ax.xs)=((cZ g).1,[]):=if_pos hne;rw[hq];repeat' ((conv=>whnf)<;>first|(show @iG _ _ _;refine gJ hne ?_)|refine bV ?_)
  conv=>whnf
  exact aoL (λ_ _ h=>h) rfl hne (λ_=>rfl)
 have hq:aoG g (iv.l.map ax.xs)=pE g (iv.l.map ax.xs):=if_neg (λh=>h hsp);rw[hq];obtain⟨hck,hsl,hsi⟩:=jC hsp;obtain⟨hl1,Ez,hout,hcl,hin⟩:=gK hck;repeat' ((conv=>whnf)<;>first|refine bV ?_|refine ag ?_ ?_<;>intro _)
 refine oD (f:=34) (check g) Tryz.call34 (λρ w' hw=>U7 w' g (ae hw λR h=>hg.later h.1)) (λhne=>absurd hck hne) (λ_ sv hm hsv=> ?_);have apM:sv.l.length=g.l.length:=by rw[<-hcl,<-hm];simp
 repeat' ((conv=>whnf)<;>first|refine bV ?_|refine ag ?_ ?_<;>intro _)
 refine Wp.know (p:=∃a,sv.base=some a) (λρ w' hw=>ae hw λR h=>aT (j:=0) (bf h.2.1) nO) ?_;rintro⟨sa,hsa⟩;refine Wp.loop (σ:=Nat×List Mix×Nat) 2 (λ⟨i,kn,k⟩=>[(1,.c iv.val),(8,.c sv.val),(10,.os 1 i),(11,aC k),(30,.c (.slice g.base g.l.length g.cap)),(31,aC g.l.length),(32,aC i)]) (λ⟨_,kn,_⟩=>[(1,.rows (bA (kn.map Prod.fst)) 1 32)]) (λ⟨_,kn,_⟩=>((aU w).and ((jD sv).past w.heap.size)).and (anj w.heap.size kn))
  (λ⟨i,kn,k⟩=>i<=g.l.length/\Gc g (kn.map Prod.fst) i/\V7 (apu g iv) kn/\k<=iv.l.length/\d9 (check g).2 (g.l.drop i) (kn.map λp=>p.1.xs) ((iv.l.drop k).map ax.xs)=pE g (iv.l.map ax.xs)) (λs=>g.l.length-s.1) (0,[],0) [(1,none)] ay (λs=>⟨rfl,rfl⟩) ⟨aae _,⟨rfl,λu hu=>by simp at hu,λj u s q hu=>by simp at hu⟩,⟨λp hp=>by simp at hp,λp hp=>by simp at hp⟩,aae _,rfl⟩ ⟨rfl,⟨rfl,rfl,rfl,rfl,rfl,rfl,rfl,trivial⟩,⟨rfl,trivial⟩,λR w h=>⟨⟨h.1.1,h.2⟩,asH _ R w⟩⟩ ?_
 rintro⟨i,kn,k⟩ ⟨hi,hkn,hmx,hk,hv⟩;have hkl:kn.length=i:=by have:=hkn.len;rwa[aas]at this
 by_cases hlt:i<g.l.length
 ·obtain⟨a,ha⟩:∃a,g.base=some a:=aT (j:=i) hg.rows ko;have hnm:=aby hlt;obtain⟨s,hs,hni⟩:=hin i g.l[i] (YL hlt);obtain⟨p,hp,hpe,hp1,hp2⟩:=hsi i g.l[i] (YL hlt);have hdrop:g.l.drop i=g.l[i]::g.l.drop (i+1):=ahc hlt;rw[hdrop]at hv;have hrow:=fP hlt;have hpi:=yl hck (YL hlt);generalize g.l[i]=n at*;have hn:=hg.each n hnm;obtain⟨⟨ha0,akK,hai⟩,⟨hb0,alB,hbi⟩,cnt,HY,hpl⟩:=hpi;have e1:(check g).2.getD i []=s:=by rw[TR,hs];rfl
  rw[e1]at HY hpl;have hti:((check g).2.take i).length=i:=by rw[aek,hcl];omega
  have hform:=hni.form;rw[hti]at hform;have aea:(kn.map λp=>p.1.xs).length=i:=by rw[aas,hkl]
  obtain⟨t,ht,hts⟩:∃t,sv.l[n.a.toNat]? =some t/\t.xs=(check g).2.getD n.a.toNat []:=by
   have hlt2:n.a.toNat<sv.l.length:=by omega
   refine⟨sv.l[n.a.toNat],YL hlt2,?_⟩;rw[<-hm,TR,ab5,YL hlt2];rfl
  rw[<-hts]at hpl;obtain⟨u,hu,iL⟩:∃u,sv.l[i]? =some u/\u.xs=s:=by
   have hs':=hs;rw[<-hm,ab5]at hs';cases hu:sv.l[i]? with
   |none=>rw[hu]at hs';simp at hs'
   |some u=>rw[hu]at hs';exact⟨u,rfl,by simpa using hs'⟩
  have hcb:=(dN u.xs).2;by_cases hk1:n.ai=1
  ·have hpos:1<=cnt:=hpl.few.1;have hcs:au u.xs=cnt:=by rw[iL];exact HY
   obtain⟨I4,hue⟩:=abH.1 hu;have at1:(bA sv.l)[i]? =some [u.val]:=by rw[fQ I4,hue]
   have IZ:u∈sv.l:=hue▸aby I4;by_cases ak8:k<iv.l.length
   ·obtain⟨ia,hia⟩:∃a,iv.base=some a:=aT (j:=k) hiv.rows (by rw[acN];exact ak8);have hdk:iv.l.drop k=iv.l[k]::iv.l.drop (k+1):=ahc ak8;have hxm:=aby ak8;have as1:=fQ ak8;rw[hdk,afY]at hv;generalize iv.l[k]=x at*;have ae3:x.ok w:=hiv.each x hxm;have hxf:=ae3.few;by_cases hbad:(x.xs.length:Int)≠cnt
    ·have hv2:pE g (iv.l.map ax.xs)=(12,[]):=by
      rw[<-hv];conv=>lhs;unfold d9
      rw[if_neg (λh=>h hk1)];simp only;rw[aea,e1,<-iL,hcs,if_pos (.inl hbad)]
     repeat' ((conv=>whnf)<;>first|(show dn ..;(first|refine aM a i ha rfl hlt ?_|refine aM ia k hia rfl ak8 ?_|refine aM sa i hsa rfl I4 ?_))|refine Ae ?_|refine apc ?_|refine apf ?_|refine bV ?_|refine ag ?_ ?_<;>intro _)
     all_goals(conv=>whnf)
     all_goals first|(exfalso;omega)|exact aoL (λ_ _ h=>h.1.1) rfl aow (λ_=>by rw[hv2];rfl)
    ·have hlen:x.xs.length=cnt:=by omega
     obtain⟨xa,hxa⟩:=ae3.base aa;have hxr:∀(R:Nat->Prop) w',(aU w).holds R w'->bE w' (some xa) 1 (aZ x.xs):=λR w' h=>by rw[<-hxa];exact aH h ae3.rows
     repeat' ((conv=>whnf)<;>first|(show dn ..;(first|refine aM a i ha rfl hlt ?_|refine aM ia k hia rfl ak8 ?_|refine aM sa i hsa rfl I4 ?_))|refine Ae ?_|refine apc ?_|refine apf ?_|refine bV ?_|refine ag ?_ ?_<;>intro _)
     all_goals(conv=>whnf)
     all_goals try (exfalso;omega)
     refine Wp.loop (σ:=Nat) 3 (λj=>[(1,.c iv.val),(8,.c sv.val),(10,.os 1 i),(11,aC k),(30,.c (.slice g.base g.l.length g.cap)),(31,aC g.l.length),(32,aC i),(12,aC i),(13,.lp 2 0 0 0),(67,.c x.val),(68,aC cnt),(69,aC j)]) (λ_=>[(2,.box (vo n) 41),(1,.rows (bA (kn.map Prod.fst)) 1 32)]) (λ_=>((aU w).and ((jD sv).past w.heap.size)).and (anj w.heap.size kn))
      (λj=>j<=cnt/\∀q,q<j->n.lo<=x.xs.getD q 0/\x.xs.getD q 0<=n.hi) (λj=>cnt-j) 0 [] ay (λs=>⟨rfl,rfl⟩) ⟨aae _,λq hq=>absurd hq (ahf q)⟩ ⟨rfl,⟨rfl,rfl,rfl,rfl,rfl,rfl,rfl,rfl,rfl,rfl,?_,rfl,trivial⟩,fE,λ_ _ h=>h⟩ ?_
     ·rw[<-hlen];rfl
     rintro j ⟨hj,hjb⟩;by_cases hjl:j<cnt
     ·by_cases hbj:x.xs.getD j 0<n.lo\/n.hi<x.xs.getD j 0
      ·have hv2:pE g (iv.l.map ax.xs)=(12,[]):=by
        rw[<-hv];conv=>lhs;unfold d9
        rw[if_neg (λh=>h hk1)];simp only;have hmem:x.xs.getD j 0∈x.xs:=by rw[TR,YL aa];exact aby _
        have m1:=kI hmem;have m2:=kK hmem;rw[aea,e1,<-iL,hcs,if_pos aa]
       repeat' ((conv=>whnf)<;>first|(show dn ..;refine aM xa j hxa rfl aa ?_)|(show gZ ..;refine dP (λR w' h=>hxr R w' h.1.1) (j:=j) aa ?_)|refine bV ?_|refine ag ?_ ?_<;>intro _)
       all_goals(conv=>whnf)
       all_goals first|(exfalso;omega)|exact aoL (λ_ _ h=>h.1.1) rfl aow (λ_=>by rw[hv2];rfl)
      ·repeat' ((conv=>whnf)<;>first|(show dn ..;refine aM xa j hxa rfl aa ?_)|(show gZ ..;refine dP (λR w' h=>hxr R w' h.1.1) (j:=j) aa ?_)|refine bV ?_|refine ag ?_ ?_<;>intro _)
       all_goals(conv=>whnf)
       all_goals first|(exfalso;omega)|exact⟨j+1,[],⟨hjl,λq hq=>by
        rcases ack q j with h|h
        ·exact hjb q h
        ·have hqj:q=j:=by omega
         subst hqj;omega⟩,by omega,rfl,⟨rfl,rfl,rfl,rfl,rfl,rfl,rfl,rfl,rfl,rfl,rfl,rfl,trivial⟩,fE,λ_ _ h=>h⟩
     ·have hjz:j=cnt:=Nat.le_antisymm hj (Nat.not_lt.1 hjl);rw[hjz,<-hlen]at hjb;have hmm:=aqe (l:=x.xs) aa hjb;have hv1:d9 (check g).2 (n::g.l.drop (i+1)) (kn.map λp=>p.1.xs) (x.xs::(iv.l.drop (k+1)).map ax.xs)=d9 (check g).2 (g.l.drop (i+1)) ((kn.map λp=>p.1.xs)++[x.xs]) ((iv.l.drop (k+1)).map ax.xs):=by
       conv=>lhs;unfold d9
       rw[if_neg (λh=>h hk1)];simp only;rw[aea,e1,<-iL,hcs,if_neg aa]
      rw[hv1]at hv;have hwi:within p x.xs:=by
       rw[hpe];have hL:jm (check g).2 n ((cZ g).2.take i)=[n.lo,n.hi]:=by
        unfold jm jw;rw[if_neg jF];exact if_pos hk1
       unfold r9 rq;rw[hL];intro z hz;have m1:foldI min [n.lo,n.hi]=min n.lo n.hi:=rfl;have m2:foldI max [n.lo,n.hi]=max n.lo n.hi:=rfl;have:=kI hz;have:=kK hz;simp only[m1,m2];omega
      have hxl:(x.xs.length:Int)=au s:=by rw[HY,hlen]
      repeat' ((conv=>whnf)<;>first|(show dn ..;refine aM ia k hia rfl ak8 ?_)|(show gZ ..;(refine bN (λR w' h=>by rw[<-hia];exact aH h.1.1 hiv.rows) _ _ as1 rfl ?_))|(show Gn ..;(refine mg aps ?_))|(show jv ..;(refine fU apt ?_))|refine bV ?_|refine ag ?_ ?_<;>intro _)
      all_goals(conv=>whnf)
      exact⟨(i+1,kn++[(x,true)],k+1),[(1,some 4)],⟨hlt,by rw[afn];exact xI hkn ae3.bF hp hs hwi hxl,hmx.snoc ae3.bF (λ_=>List.mem_append_right _ hxm),ak8,by rw[afn];exact hv⟩,by simp only;omega,rfl,fE,⟨aqu kn (x,true) hkl.symm,trivial⟩,λR w' h=>⟨h.1,aqE h.2 (λe=>by cases e)⟩⟩
   ·have hv2:pE g (iv.l.map ax.xs)=(12,[]):=by
     have auN:iv.l.drop k=[]:=amC aa;rw[auN]at hv;rw[<-hv];conv=>lhs;unfold d9
     rw[if_neg (λh=>h hk1)]
     rfl
    repeat' ((conv=>whnf)<;>first|refine pR ?_|refine Ae ?_|refine bV ?_|refine ag ?_ ?_<;>intro _)
    all_goals(conv=>whnf)
    all_goals first|(exfalso;omega)|exact aoL (λ_ _ h=>h.1.1) rfl aow (λ_=>by rw[hv2];rfl)
  ·have kA:=ow hsp hkn aa n.a.toNat;have kB:=ow hsp hkn aa n.b.toNat;have hfo:=dJ hform;have acA:=abo hsp hkn aa hfo;have hwn:=Ul hpl hk1 acA kA.1 kB.1;have hv1:d9 (check g).2 (n::g.l.drop (i+1)) (kn.map λp=>p.1.xs) ((iv.l.drop k).map ax.xs)=d9 (check g).2 (g.l.drop (i+1)) ((kn.map λp=>p.1.xs)++[gH n cnt t.xs ((kn.map Prod.fst).getD n.a.toNat cK).xs ((kn.map Prod.fst).getD n.b.toNat cK).xs]) ((iv.l.drop k).map ax.xs):=by
    conv=>lhs;unfold d9
    unfold gy;rw[if_pos hk1,aqB,aqB,aea,e1,HY,hts];rfl
   rw[hv1]at hv;have hcs:au s=cnt:=HY;have hEq:jm (check g).2 n ((cZ g).2.take i)=jw n cnt t.xs (((cZ g).2.take i).getD n.a.toNat (0,0)) (((cZ g).2.take i).getD n.b.toNat (0,0)):=by
    unfold jm;rw[show((cZ g).2.take i).length=i by rw[aek,hsl];omega,e1,HY,hts];rfl
   have hgA:n.ai≠2->(kn.map Prod.fst)[n.a.toNat]? =some ((kn.map Prod.fst).getD n.a.toNat cK):=λk2=>by
    have:=hfo.a hk1 k2;rw[TR,YL vZ];rfl
   have hgB:n.ai=6->(kn.map Prod.fst)[n.b.toNat]? =some ((kn.map Prod.fst).getD n.b.toNat cK):=λk6=>by
    have:=hfo.b k6;rw[TR,YL vZ];rfl
   have hgo:∀w',(∀z∈kn.map Prod.fst,ax.ok w' z)->∀j,ax.ok w' ((kn.map Prod.fst).getD j cK):=λw' hz j=>by
    rw[TR];rcases ack j (kn.map Prod.fst).length with hj|hj
    ·rw[YL hj];exact hz _ (aby hj)
    ·rw[aiQ hj];exact⟨.inl rfl,λx hx=>by simp[cK]at hx,Tw _,aae _⟩
   have hval:∀w',sv.ok w'->n.ok w'->(∀z∈kn.map Prod.fst,ax.ok w' z)->∀kb kc,bE w' kb 1 (bA (kn.map Prod.fst))->Calls Tryz.prog 76 #[n.p9,sv.val,.slice kb i kc] w' (Co w' n (gH n cnt t.xs ((kn.map Prod.fst).getD n.a.toNat cK).xs ((kn.map Prod.fst).getD n.b.toNat cK).xs)):=λw' h1 h2 h3 kb kc h4=>by
    have hle:i=(kn.map Prod.fst).length:=by rw[aas,hkl]
    have:=aqO w' n _ s sv h1 t cnt hpl hk1 h2 ht ha0 hb0 kb kc (kn.map Prod.fst) h4 _ _ hgA hgB (hgo w' h3 _) (hgo w' h3 _) kA.2.1 kB.2.1 acA;rw[<-hle]at this;exact this
   generalize gH n cnt t.xs ((kn.map Prod.fst).getD n.a.toNat cK).xs ((kn.map Prod.fst).getD n.b.toNat cK).xs=V at*;repeat' ((conv=>whnf)<;>first|refine pR ?_|refine Ae ?_|(show aJ _ 76 ..;(refine jU Tryz.call76 (λx:ax×Bool=>x.1.val) ajC (λx=>x.1.xs=V/\x.1.bF/\(x.2=true->x.1=n.data)) (λρ w' hw=>hval w' (ae hw λR h=>zy hsv aa h.1.2) (ae hw λR h=>hn.later h.1.1) (ae hw λR h=>hmx.ok hsrc h.1.1 h.2) (ρ 1).base (ρ 1).cap (eZ hw aj)) (λx hx=> ?_)))|(show Gn ..;(refine mg aps ?_))|(show jv ..;(refine fU apt ?_))|refine bV ?_|refine ag ?_ ?_<;>intro _)
   all_goals(conv=>whnf)
   all_goals exact⟨(i+1,kn++[x],k),[(1,some 4)],⟨hlt,by rw[afn];exact xI hkn hx.2.1 hp hs ao9 (by rw[hx.1,hcs,hwn.2]),hmx.snoc hx.2.1 (λe=>by rw[hx.2.2 e];exact List.mem_append_left _ (abl.2 ⟨n,hnm,rfl⟩)),hk,by rw[afn,afY,aiK,hx.1];exact hv⟩,by simp only;omega,rfl,fE,⟨aqu kn x hkl.symm,trivial⟩,λR w' h=>⟨h.1.1,aqE h.1.2 (λe=>h.2 e)⟩⟩
 ·have hiz:i=g.l.length:=by omega
  subst hiz;rw[akY]at hv;by_cases hrest:k<iv.l.length
  ·have hv2:pE g (iv.l.map ax.xs)=(12,[]):=by
    rw[<-hv];conv=>lhs;unfold d9
    rw[if_pos ape]
   repeat' ((conv=>whnf)<;>first|refine bV ?_|refine ag ?_ ?_<;>intro _)
   all_goals(conv=>whnf)
   all_goals first|(exfalso;omega)|exact aoL (λ_ _ h=>h.1.1) rfl aow (λ_=>by rw[hv2];rfl)
  ·have hv2:pE g (iv.l.map ax.xs)=(0,kn.map λp=>p.1.xs):=by
    rw[<-hv];conv=>lhs;unfold d9
    rw[if_neg ape]
   repeat' ((conv=>whnf)<;>first|refine bV ?_|refine ag ?_ ?_<;>intro _)
   all_goals(conv=>whnf)
   all_goals exact all_good (B:=⟨w,[]⟩) (λ_ _ h=>h.1.1) (λ_ _ h=>h.2) rfl aj hkl.symm hmx hv2
section
theorem aoS{sh:List (List Int)}:∀{l:List ak} {known inp:List (List Int)},(d9 sh l known inp).1=0->(d9 sh l known inp).2.length=known.length+l.length
 |[],known,inp,h=>by
  unfold d9 at h|-
  split
  ·rename_i h0;rw[if_pos h0]at h;simp at h
  ·rfl
 |n::r,known,inp,h=>by
  unfold d9 at h|-
  split
  ·rename_i hk;rw[if_pos hk]at h;rw[aoS h];simp;omega
  ·rename_i hk;rw[if_neg hk]at h;cases inp with
   |nil=>simp at h
   |cons x xs=>
    simp only at h|-
    split
    ·rename_i hb;rw[if_pos hb]at h;simp at h
    ·rename_i hb;rw[if_neg hb]at h;rw[aoS h];simp;omega
theorem ar6(g:bM)(inp:List (List Int)):Je g inp=if(aoG g inp).1≠0 then((aoG g inp).1,[])else(0,(aoG g inp).2.getD g.out.toNat []):=by
 unfold Je aoG;by_cases h:(cZ g).1≠0
 ·rw[if_pos h,if_pos h,if_pos h]
 ·rw[if_neg h,if_neg h]
def atx(base:Option Addr)(l:List Mix):bR where
 holds R w:=(f_ base 1 (bA (l.map Prod.fst))).holds R w/\∀p∈l,p.2=false->(bX p.1).holds R w
 stable:=λhR hw h=>⟨(f_ _ _ _).stable hR hw h.1,λp hp e=>(bX p.1).stable hR hw (h.2 p hp e)⟩
variable {H:Heap} {S:bR} {nx:Nat}
theorem aqt{cx:Cx}{f:FuncId}{args:List SV}{K:SV->Heap->bR->Nat->Prop}(src:List ax)(r:Int×List (List Int))(hf:∀ar w,(callFunc f ar).run cx.P w= .ok (.enter f ar) w)
 (hc:∀ρ w',dO cx.B ρ nx H S w'->Calls cx.P f (SV.dW ρ args).toArray w' (ao1 src w' r))
 (h0:r.1≠0->K (.c (.tuple #[.slice none 0 0,.int .i64 r.1])) H S nx)
 (h1:r.1=0->∀base cap (l:List Mix),(l.map λp=>p.1.xs)=r.2->V7 src l->K (.c (.tuple #[.slice base l.length cap,.int .i64 0])) H (S.and ((atx base l).past cx.B.w0.heap.size)) nx):aJ cx f args H S nx K:=by
 rw[fZ];refine⟨hf,λρ w hw=>(hc ρ w hw).mono ?_⟩;rintro e w' (⟨hr,rfl,he⟩|⟨hr,base,cap,l,hl,hm,rfl,he,hD1,hD2⟩)
 ·exact⟨.c (.tuple #[.slice none 0 0,.int .i64 r.1]),ρ,H,S,nx,rfl,λ_ _=>rfl,Tw _,SV.iW _,hw.ext he,h0 hr⟩
 ·exact⟨.c (.tuple #[.slice base l.length cap,.int .i64 0]),ρ,H,_,nx,rfl,λ_ _=>rfl,Tw _,SV.iW _,hw.grow (D:=atx base l) he ⟨hD1,hD2⟩,h1 hr base cap l hl hm⟩
def aoJ(src:List ax)(w:World)(r:Int×List Int)(e:Ending)(w':World):Prop:=
 (r.1≠0/\e= .returned (.tuple #[.slice none 0 0,.int .i64 r.1])/\Ext w w')\/(r.1=0/\∃x:Mix,(x.1.xs=r.2/\x.1.bF/\(x.2=true->x.1∈src))/\e= .returned (.tuple #[x.1.val,.int .i64 0])/\Ext w w'/\(ajC x).holds (λb=>w.heap.size<=b/\b<w'.heap.size) w')
variable {src:List ax} {B:Base} {w:World} {r:Int×List Int}
theorem ar3{v:SV}(hb:∀R w',S.holds R w'->(aU B.w0).holds R w')(hw0:B.w0=w)(hn:r.1≠0)(hv:∀ρ,v.rf ρ= .tuple #[.slice none 0 0,.int .i64 r.1]):jS B v H S nx (aoJ src w r):=by
 subst hw0;exact dK λρ w' hw=> .inl ⟨hn,by rw[hv],bG hw hb⟩
theorem ari{x:Mix}(hb:∀R w',S.holds R w'->(aU B.w0).holds R w')(hw0:B.w0=w)(hs:x.1.bF)(ho:x.2=true->x.1∈src)(hr:r=(0,x.1.xs))(hD:∀R w',S.holds R w'->x.2=false->((bX x.1).past B.w0.heap.size).holds R w'):jS B (.xg [.c x.1.val,aC 0]) H S nx (aoJ src w r):=by
 subst hw0 hr;exact dK λρ w' hw=> .inr ⟨rfl,x,⟨rfl,hs,ho⟩,rfl,bG hw hb,λe=>lW hw (D:=bX x.1) λR w' h=>hD R w' h e⟩
theorem aqK(w:World)(g:bM)(hg:g.ok w)(iv:aY)(hiv:InV.ok w iv):Calls Tryz.prog 14 #[g.val,iv.val] w (aoJ (apu g iv) w (Je g (iv.l.map ax.xs))):=by
 rw[ar6];by_cases he:(aoG g (iv.l.map ax.xs)).1=0
 ·rw[if_neg (λh=>h he)];have hsp:(cZ g).1=0:=by
   unfold aoG at he;split at he
   ·rename_i h;exact absurd he h
   ·rename_i h;omega
  obtain⟨hck,hsl,hsi⟩:=jC hsp;obtain⟨hl1,Ez,hout,hcl,hin⟩:=gK hck;have hq:aoG g (iv.l.map ax.xs)=pE g (iv.l.map ax.xs):=if_neg (λh=>h hsp);have hlen:(aoG g (iv.l.map ax.xs)).2.length=g.l.length:=by
   rw[hq]at he|-
   have:=aoS he;rw[show pE g (iv.l.map ax.xs)=d9 (check g).2 g.l [] (iv.l.map ax.xs)from rfl,this];simp
  refine fH Tryz.func14 [.agg [.c (.slice g.base g.l.length g.cap),aC g.out],.c iv.val] ?_;repeat' ((conv=>whnf)<;>first|refine a_ ?_)
  refine aqt (f:=43) (apu g iv) (aoG g (iv.l.map ax.xs)) Tryz.call43 (λρ w' hw=>apv w' g (ae hw λR h=>hg.later h) iv (ae hw λR h=>InV.later hiv h)) (λhne=>absurd he hne) (λ_ base cap l hl hm=> ?_);have hll:l.length=g.l.length:=by rw[<-hlen,<-hl,aas]
  repeat' ((conv=>whnf)<;>first|fail)
  all_goals(conv=>whnf)
  refine Wp.know (p:=∃a,base=some a) (λρ w' hw=>ae hw λR h=>aT (j:=0) (bf h.2.1) (by rw[acN,aas];omega)) ?_;rintro⟨ba,rfl⟩;obtain⟨on,hon⟩:∃k:Nat,g.out=k:=⟨g.out.toNat,by omega⟩;have hol:on<l.length:=by omega
  have hrow:(bA (l.map Prod.fst))[on]? =some [l[on].1.val]:=by rw[fQ (by rw[aas];exact hol)];simp
  have hxs:(aoG g (iv.l.map ax.xs)).2.getD g.out.toNat []=l[on].1.xs:=by rw[<-hl,hon,ahh,TR,ab5,YL hol];rfl
  have hmem:=aby hol;rw[hxs];generalize l[on]=x at*;repeat' ((conv=>whnf)<;>first|(show dn ..;refine aM ba on rfl hon hol ?_)|(show gZ ..;refine bN (λR w' h=>bf h.2.1) _ _ hrow rfl ?_)|refine a_ ?_|refine ag ?_ ?_<;>intro _)
  all_goals(conv=>whnf)
  all_goals exact ari (x:=x) (λ_ _ h=>h.1) rfl (hm.bF x hmem) (hm.old x hmem) rfl (λR w' h e=>h.2.2 x hmem e)
 ·rw[if_pos he];refine fH Tryz.func14 [.agg [.c (.slice g.base g.l.length g.cap),aC g.out],.c iv.val] ?_;repeat' ((conv=>whnf)<;>first|refine a_ ?_)
  refine aqt (f:=43) (apu g iv) (aoG g (iv.l.map ax.xs)) Tryz.call43 (λρ w' hw=>apv w' g (ae hw λR h=>hg.later h) iv (ae hw λR h=>InV.later hiv h)) (λ_=> ?_) (λh=>absurd h he);repeat' ((conv=>whnf)<;>first|(show @iG _ _ _;refine gJ he ?_)|refine a_ ?_)
  all_goals(conv=>whnf)
  all_goals exact ar3 (λ_ _ h=>h) rfl he (λ_=>rfl)
end
theorem aqJ{c:fT}{g:bM}{q:Option (dL×List Int)}(h:(lowerT c g q).2≠0):(lowerT c g q).1=Ca:=by
 cases q with
 |none=>rfl
 |some q=>exact absurd rfl h
theorem aqU{g:bM}{l:Int}{b:Bool}{m:Nat}(h:(mr g l b m).2≠0):(mr g l b m).1=Ca:=by
 unfold mr at h|-
 split
 ·rfl
 ·rename_i h3;rw[if_neg h3]at h;exact aqJ h
theorem aqV{g:bM}{o:DZ}{n:Int}(h:(jX g o n).2≠0):(jX g o n).1=Ca:=by
 unfold jX at h|-
 by_cases h1:nJ o n
 ·rw[if_pos h1]at h|-
  by_cases h2:(cZ g).1≠0
  ·rw[if_pos h2]
  ·rw[if_neg h2]at h|-
   exact aqU h
 ·rw[if_neg h1]
theorem arb{t m:Nat}{z:Int}(h:2*m+1<=t)(h1: -(m:Int)<=z)(h2:z<=m):qj t (z%t)=z:=by
 have ht:0<(t:Int):=by omega
 unfold qj;rcases Int.lt_or_le z 0 with hz|hz
 ·have e:z%(t:Int)=z+t:=by
   rw[<-Int.add_emod_right,anc aa aa]
  rw[e];split<;>omega
 ·have e:z%(t:Int)=z:=anc hz aa;rw[e];split<;>omega
theorem aro{t m:Nat}{l:List Int}(h:2*m+1<=t)(hl:∀z∈l,-(m:Int)<=z/\z<=m):qJ t l=l:=by
 unfold qJ;exact(anA (g:=id) λz hz=>arb h (hl z hz).1 (hl z hz).2).trans (List.map_id l)
theorem asK(m:Int)(s:Sp):m<=ah0 m s/\s.1<=ah0 m s/\ -s.1<=ah0 m s/\s.2<=ah0 m s/\ -s.2<=ah0 m s:=by
 unfold ah0;omega
theorem aq5:∀(l:List Sp) (m:Int),m<=l.foldl ah0 m/\∀s∈l,s.1<=l.foldl ah0 m/\ -s.1<=l.foldl ah0 m/\s.2<=l.foldl ah0 m/\ -s.2<=l.foldl ah0 m
 |[],m=>⟨aem _,λs hs=>by cases hs⟩
 |x::r,m=>by
  obtain⟨h1,h2⟩:=aq5 r (ah0 m x);have h3:=asK m x;refine⟨by show m<=r.foldl ah0 (ah0 m x);omega,λs hs=> ?_⟩;show s.1<=r.foldl ah0 (ah0 m x)/\_;rcases abr.1 hs with rfl|hs
  ·refine⟨by omega,?_,?_,?_⟩
   ·show-s.1<=r.foldl ah0 (ah0 m s);omega
   ·show s.2<=r.foldl ah0 (ah0 m s);omega
   ·show-s.2<=r.foldl ah0 (ah0 m s);omega
  ·exact h2 s hs
theorem apW{n m:Nat}{sl:List Int}{f:Nat->Int}(h:Sl n sl)(hf:∀j,j<sl.length-> -(m:Int)<=f j/\f j<=m):∀z∈bU n sl f,-(m:Int)<=z/\z<=m:=by
 intro z hz;obtain⟨s,hs,rfl⟩:=am0.1 hz;have e:(bU n sl f)[s]=(bU n sl f).getD s 0:=by rw[TR,YL hs];rfl
 rw[e];by_cases hin:∃x∈sl,x.toNat=s
 ·obtain⟨x,hx,rfl⟩:=hin;obtain⟨j,hj,rfl⟩:=am0.1 hx;have:=oC h f hj;rw[show sl.getD j 0=sl[j] by rw[TR,YL hj];rfl]at this;rw[this];exact hf j hj
 ·rw[qG f λx hx he=>hin ⟨x,hx,he⟩];omega
theorem ars:Num.ap1 2097169=true:=by kernel_rfl
abbrev as4:DT:=(bS [0,1,3] (.alt 2 (.alt 4 (bS [5,6] (.alt 7 (bS [108,109,110] .done) (.one 8 (.alt 7 (bS [109,110] .done) (bS [109,107,110] .done))))) (bS [108,104,5,6] (.alt 7 (bS [109,110] .done) (bS [109,107,110] .done)))) (bS [108,102,104,5,6] (.alt 7 (bS [109,110] .done) (bS [109,107,110] .done)))))
abbrev LmW(w:World)(k:Nat)(env:Env)(H:Heap)(S:bR)(nx:Nat):Prop:=Wp ⟨Tryz.prog,⟨w,[]⟩,Tryz.f5.ntmps,tab⟩ (abA k (bodyC Tryz.f5)) env H S nx (acw ⟨Tryz.prog,⟨w,[]⟩,Tryz.f5.ntmps,tab⟩ Tryz.f5.results.toList (λe w'=>e= .returned (.bool true)/\Ext w w'))
abbrev SM(w:World)(g:bM)(x:aY)(want:ax)(v:l7):bR:=((S6 w g x).and (Eg λw=>want.ok w)).and ((LD v).past w.heap.size)
theorem ara(w:World)(g:bM)(x:aY)(hxs:∀u∈x.l,u.bF)(want:ax)(v:l7)(sv0:v.bF)(n:Nat)(gd:zf v x n want.xs)(hws:want.bF)(m t:Nat)(hm:∀j,j<want.xs.length-> -(m:Int)<=want.xs.getD j 0/\want.xs.getD j 0<=m)(hm1:1<=m)(ht:2*m+1<=t)(ht2:t<=1073741824):
 LmW w 14 [(10,.c x.val),(11,.c want.val),(13,aC n),(14,.lp 4 0 0 0),(21,.c (.int .u64 t))] [(4,.box [aC v.aA,.c (.slice v.ib v.inputs.length v.ic),.c v.aF.val,.c (.slice v.cb v.code.length v.cc),aC v.last,.c v.out.val] 34)] (SM w g x want v) 5:=by
 have l1:=gd.len;have n2:=gd.n2;have q1:=gd.last;have fo:v.out.xs.length<=1000000:=sv0.out.few;repeat' ((conv=>whnf)<;>first|refine bn ?_|(show aJ _ 18 ..;((refine oD (0,SA v x n t) Tryz.call18 (λρ w' hw=>ae hw λR h=>gd.run hxs t ⟨by omega,ht2⟩ h.2 h.1.1.2) (λhne=>absurd rfl hne) (λ_ sv hs hss=> ?_);obtain⟨hl,u,hu,eu⟩:=gd.told hs)))|(show aJ _ 19 ..;refine aR (f:=19) Tryz.call19 (.int .i64 0) (λρ w' hw=>ae hw λR h=>CO w' v n (gd.ok h.1.2)) ?_)|(show pg ..;(refine lD n rfl rfl AB aa ?_))|refine a_ ?_)
 obtain⟨L,hL⟩:∃L:Nat,v.last=L:=⟨v.last.toNat,by omega⟩;have m1:u∈sv.l:=adu hu;have r1:=oQ hu;rw[hL,ahh]at r1 q1;have hsl:=gd.means.places;rw[aro ht (apW hsl λj hj=>hm j aa)]at eu;have n1:u.xs.length=n:=by rw[eu,dA]
 refine Wp.know (p:=((v.out.xs.length≠0->∃a,v.out.base=some a)/\(want.xs.length≠0->∃a,want.base=some a))/\∃a,sv.base=some a) (λρ w' hw=>ae hw λR h=>⟨⟨λhne=>aT (j:=0) (Aq h.1.2).2.2.2.1 dS,λhne=>aT (j:=0) (iO h.1.1.2).rows dS⟩,aT (j:=0) (bf h.2.1) nO⟩) ?_;rintro⟨⟨hb1,hb2⟩,sa,hsa⟩;refine Wp.loop (σ:=Nat×List Int) 6 (λ⟨k,row⟩=>[(11,.c want.val),(14,.lp 4 0 0 0),(22,.c sv.val),(24,.os 5 n),(143,.c v.out.val),(144,aC v.out.xs.length),(145,aC k)]) (λ⟨_,row⟩=>[(5,.rows (aZ row) 1 3),(4,.box [aC v.aA,.c (.slice v.ib v.inputs.length v.ic),.c v.aF.val,.c (.slice v.cb v.code.length v.cc),aC v.last,.c v.out.val] 34)]) (λ_=>(SM w g x want v).and ((jD sv).past w.heap.size))
  (λ⟨k,row⟩=>k<=v.out.xs.length/\row.length=n/\l9 (λe=>want.xs.getD e 0) (v.out.xs.drop k) k row=bU n v.out.xs λe=>want.xs.getD e 0) (λs=>v.out.xs.length-s.1) (0,List.replicate n 0) [] ay (λ_=>⟨rfl,rfl⟩) ⟨aae _,aiS,rfl⟩ ⟨rfl,⟨rfl,rfl,rfl,rfl,rfl,rfl,rfl,trivial⟩,⟨by rw[<-Zh];exact YV,aj,trivial⟩,λR w' h=>h⟩ ?_
 rintro⟨k,row⟩ ⟨hk,hrl,hput⟩;by_cases hlt:k<v.out.xs.length
 ·obtain⟨oa,ho⟩:=hb1 aa;obtain⟨wa,hwa⟩:=hb2 aa;have b1:=hsl.bd _ (cu (k:=k) hlt);have hd:v.out.xs.drop k=v.out.xs.getD k 0::v.out.xs.drop (k+1):=by
   rw[ahc hlt,TR,YL hlt];rfl
  rw[hd]at hput;obtain⟨P,hP⟩:∃P:Nat,v.out.xs.getD k 0=P:=⟨(v.out.xs.getD k 0).toNat,by omega⟩;rw[hP]at hput b1;have hput:l9 (λe=>want.xs.getD e 0) (v.out.xs.drop (k+1)) (k+1) (row.set P (want.xs.getD k 0))=bU n v.out.xs λe=>want.xs.getD e 0:=hput;repeat' ((conv=>whnf)<;>first|refine bn ?_|(show dn ..;(first|refine aM oa k ho rfl aa ?_|refine aM wa k hwa rfl aa ?_))|(show gZ ..;(first|refine Mg (a:=oa) (λR w' hR=>by rw[<-ho];exact(Aq hR.1.2).2.2.2.1) hlt hP ?_|refine Mg (a:=wa) (λR w' hR=>by rw[<-hwa];exact(iO hR.1.1.2).rows) aa rfl ?_))|(show eP ..;(refine bY P rfl aa dS ?_))|(show dH ..;refine aai aa ?_)|(show fF ..;refine pF ((k+1:Nat):Int) aa aa aa ?_)|refine a_ ?_)
  all_goals(conv=>whnf)
  all_goals exact⟨(k+1,row.set P (want.xs.getD k 0)),[],⟨hlt,by rw[ajc];exact hrl,hput⟩,by show v.out.xs.length-(k+1)<v.out.xs.length-k;omega,rfl,fE,fE,λ_ _ h=>h⟩
 ·obtain rfl:k=v.out.xs.length:=by omega
  rw[amC (Tw _)]at hput;have hput:row=bU n v.out.xs λe=>want.xs.getD e 0:=hput;refine Wp.Vh 5 w.heap.size (k:=1) (xs:=aZ row) (T:=3) aj (λR w' h b hb=>(h.1.1.1.1.1 b hb).1) (λl1 hl1=> ?_);rw[aP]at hl1;have hbd:∀z∈row,-9223372036854775808<=z/\z<=9223372036854775807:=λz hz=>by
   rw[hput]at hz;have:=apW hsl (m:=m) (λj hj=>hm j aa) z hz;omega
  have iL:u.bF:=hss u m1;have hval:(⟨l1.base,l1.cap,row⟩:ax).val= .slice l1.base n l1.cap:=by rw[<-hrl];rfl
  have hsame:∀(R:Nat->Prop) w',(((SM w g x want v).and ((jD sv).past w.heap.size)).and ((f_ l1.base 1 (aZ row)).past w.heap.size)).holds R w'->Calls Tryz.prog 20 #[u.val,.slice l1.base n l1.cap] w' λe w2=>e= .returned (.bool true)/\Ext w' w2:=λR w' h=>by
   rw[<-hval];exact arI (x:=u) (y:=⟨l1.base,l1.cap,row⟩) (dw iL (h.1.2.2 u m1)) ⟨bf h.2,hbd,hl1,by show row.length<=1000000;omega⟩ (eu.trans hput.symm)
  repeat' ((conv=>whnf)<;>first|refine bn ?_|(show dn ..;refine aM sa L hsa hL aa ?_)|(show gZ ..;(refine bN (a:=sa) (j:=L) (λR w' hR=>by rw[<-hsa];exact bf hR.1.2.1) _ _ r1 rfl ?_))|(show aJ _ 20 ..;refine aR (f:=20) Tryz.call20 (.bool true) (λρ w' hw=>ae hw λR h=>hsame R w' h) ?_)|refine a_ ?_)
  all_goals(conv=>whnf)
  all_goals exact bZ (λ_ _ h=>h.1.1.1.1.1.1) (λ_=>rfl) rfl
theorem ark(w:World)(g:bM)(x:aY)(hxs:∀u∈x.l,u.bF)(want:ax)(v:l7)(sv0:v.bF)(n:Nat)(gd:zf v x n want.xs)(hws:want.bF)(m:Nat)(hm:∀j,j<want.xs.length-> -(m:Int)<=want.xs.getD j 0/\want.xs.getD j 0<=m)(hm1:1<=m)(hm2:m<=1048576):
 LmW w 12 [(10,.c x.val),(11,.c want.val),(13,aC n),(14,.lp 4 0 0 0),(18,aC m)] [(4,.box [aC v.aA,.c (.slice v.ib v.inputs.length v.ic),.c v.aF.val,.c (.slice v.cb v.code.length v.cc),aC v.last,.c v.out.val] 34)] (SM w g x want v) 5:=by
 repeat' ((conv=>whnf)<;>first|(show fF ..;(first|refine pF ((2*m:Nat):Int) aa aa aa ?_|refine pF ((2*m+1:Nat):Int) aa aa aa ?_|refine zh (2*m+1) aa aa ?_))|refine a_ ?_)
 refine Wp.loop (σ:=Nat) 5 (λt=>[(10,.c x.val),(11,.c want.val),(13,aC n),(14,.lp 4 0 0 0),(21,.c (.int .u64 t))]) (λ_=>[(4,.box [aC v.aA,.c (.slice v.ib v.inputs.length v.ic),.c v.aF.val,.c (.slice v.cb v.code.length v.cc),aC v.last,.c v.out.val] 34)]) (λ_=>SM w g x want v)
  (λt=>2*m+1<=t/\t<=2097169) (λt=>2097169-t) (2*m+1) [] ay (λ_=>⟨rfl,rfl⟩) ⟨Tw _,by omega⟩ ⟨rfl,⟨rfl,rfl,rfl,rfl,rfl,trivial⟩,⟨aj,trivial⟩,λR w' h=>h⟩ ?_
 rintro t ⟨h1,h2⟩;have hcall:=λw'=>ar2 w' t aa;cases hv:Num.ap1 t with
 |false=>
  rw[hv]at hcall;have hne:t≠2097169:=λe=>by rw[e,ars]at hv;cases hv
  repeat' ((conv=>whnf)<;>first|(show aJ _ 17 ..;refine aR (f:=17) Tryz.call17 (.bool false) (λρ w' _=>hcall w') ?_)|(show fF ..;refine zh (t+1) aa aa ?_)|refine a_ ?_)
  all_goals(conv=>whnf)
  all_goals exact⟨t+1,[],⟨by omega,by omega⟩,by show 2097169-(t+1)<2097169-t;omega,rfl,fE,⟨aj,trivial⟩,λ_ _ h=>h⟩
 |true=>
  rw[hv]at hcall;iterate 2 (refine Wp.go bW rfl ?_;(repeat' ((conv=>whnf)<;>first|(show aJ _ 17 ..;refine aR (f:=17) Tryz.call17 (.bool true) (λρ w' _=>hcall w') ?_))))
  all_goals(conv=>whnf)
  all_goals exact Wp.into 5 [] (ara w g x hxs want v sv0 n gd hws m t hm hm1 h1 aa) ay ⟨rfl,rfl⟩ ⟨rfl,⟨rfl,rfl,rfl,rfl,rfl,trivial⟩,⟨aj,trivial⟩,λR w' h=>h⟩
theorem arw(l:List Sp){k:Nat}(h:k<l.length)(m:Int):(l.take (k+1)).foldl ah0 m=ah0 ((l.take k).foldl ah0 m) l[k]:=by
 rw[ajP h,List.foldl_append];rfl
theorem ar5(w:World)(g:bM)(x:aY)(hxs:∀u∈x.l,u.bF)(want:ax)(v:l7)(sv0:v.bF)(n:Nat)(gd:zf v x n want.xs)(hws:want.bF)(hsp:(cZ g).1=0)(ho:0<=g.out/\g.out<g.l.length)(hin:within ((cZ g).2.getD g.out.toNat (0,0)) want.xs)(hlen:(cZ g).2.length=g.l.length)(hbd:∀s∈(cZ g).2,fJ s.1/\fJ s.2)(ug:g.l.length<=100000):
 LmW w 9 [(9,.lp 2 0 0 0),(10,.c x.val),(11,.c want.val),(13,aC n),(14,.lp 4 0 0 0)] [(2,.box [.c (.slice g.base g.l.length g.cap),aC g.out] 24),(4,.box [aC v.aA,.c (.slice v.ib v.inputs.length v.ic),.c v.aF.val,.c (.slice v.cb v.code.length v.cc),aC v.last,.c v.out.val] 34)] (SM w g x want v) 5:=by
 have arS:=λw' hg=>aoI w' g hg;generalize cZ g=SP at*;obtain⟨e0,sp⟩:=SP;simp only at hsp;subst hsp;have hlen:sp.length=g.l.length:=hlen;have hbd:∀s∈sp,fJ s.1/\fJ s.2:=hbd;have hin:within (sp.getD g.out.toNat (0,0)) want.xs:=hin;repeat' ((conv=>whnf)<;>first|(show aJ _ 16 ..;refine wZ (f:=16) (0,sp) Tryz.call16 (λρ w' hw=>ae hw λR h=>arS w' (iO h.1.1.1.2)) (λhne=>absurd rfl hne) (λhe sb sc=> ?_))|refine a_ ?_)
 refine Wp.know (p:=∃a,sb=some a) (λρ w' hw=>ae hw λR h=>aT (j:=0) (bf h.2) (by rw[jg];show 0<sp.length;omega)) ?_;rintro⟨sa,rfl⟩;refine Wp.loop (σ:=Nat×Int) 5 (λ⟨k,m⟩=>[(10,.c x.val),(11,.c want.val),(13,aC n),(14,.lp 4 0 0 0),(18,aC m),(82,.c (.slice (some sa) sp.length sc)),(83,aC sp.length),(84,aC k)]) (λ_=>[(4,.box [aC v.aA,.c (.slice v.ib v.inputs.length v.ic),.c v.aF.val,.c (.slice v.cb v.code.length v.cc),aC v.last,.c v.out.val] 34)]) (λ_=>(SM w g x want v).and ((f_ (some sa) 2 (gz sp)).past w.heap.size))
  (λ⟨k,m⟩=>k<=sp.length/\m=(sp.take k).foldl ah0 1) (λs=>sp.length-s.1) (0,1) [] ay (λ_=>⟨rfl,rfl⟩) ⟨aae _,rfl⟩ ⟨rfl,⟨rfl,rfl,rfl,rfl,rfl,rfl,rfl,rfl,trivial⟩,⟨aj,trivial⟩,λR w' h=>h⟩ ?_
 rintro⟨k,m⟩ ⟨hk,hm⟩;by_cases hlt:k<sp.length
 ·have hrow:=EC hlt;have hsn:=arw sp hlt 1;have hbk:=hbd _ (aby hlt);generalize sp[k]=s at*;unfold fJ at hbk;repeat' ((conv=>whnf)<;>first|(show dn ..;refine aM sa k rfl rfl hlt ?_)|(show lK ..;refine gI (λR w' h=>bf h.2) _ hrow rfl ?_)|refine bn ?_|refine a_ ?_|refine ag ?_ ?_<;>intro _)
  all_goals(conv=>whnf)
  all_goals exact⟨(k+1,_),[],⟨hlt,by rw[hsn,<-hm];unfold ah0;omega⟩,by show sp.length-(k+1)<sp.length-k;omega,rfl,⟨rfl,rfl,rfl,rfl,rfl,rfl,rfl,rfl,trivial⟩,⟨aj,trivial⟩,λ_ _ h=>h⟩
 ·obtain rfl:k=sp.length:=by omega
  rw[aen (Tw _)]at hm;have hmb:=aqs (l:=sp) (m:=1) ay ay hbd;have hge:=aq5 sp 1;rw[<-hm]at hmb hge;obtain⟨M,rfl⟩:∃M:Nat,m=M:=⟨m.toNat,by omega⟩;have hmem:sp.getD g.out.toNat (0,0)∈sp:=by
   rw[TR,YL (show g.out.toNat<sp.length by omega)];exact aby _
  have h4:=hge.2 _ hmem;iterate 2 (refine Wp.go bW rfl ?_;(repeat' ((conv=>whnf)<;>first|refine bn ?_)))
  all_goals(conv=>whnf)
  all_goals exact Wp.into 5 [] (ark w g x hxs want v sv0 n gd hws M (λj hj=>by have:=qw hin hj;omega) aa aa) ay ⟨rfl,rfl⟩ ⟨rfl,⟨rfl,rfl,rfl,rfl,rfl,trivial⟩,⟨aj,trivial⟩,λR w' h=>h.1⟩
theorem ash(w:World)(g:bM)(x:aY)(hgood:kY g.l (x.l.map ax.xs))(hxs:∀u∈x.l,u.bF)(ug:g.l.length<=100000)(want:ax)(hws:want.bF)(hw:want.xs=if(Je g (x.l.map ax.xs)).1=0 then(Je g (x.l.map ax.xs)).2 else [])(n:Nat)(o:DZ)(v:l7)(hv:v.pl=(jX g o n).1)(sv0:v.bF):
 LmW w 8 [(9,.lp 2 0 0 0),(10,.c x.val),(11,.c want.val),(12,aC (Je g (x.l.map ax.xs)).1),(13,aC n),(14,.lp 4 0 0 0),(15,aC (jX g o n).2)] [(2,.box [.c (.slice g.base g.l.length g.cap),aC g.out] 24),(4,.box [aC v.aA,.c (.slice v.ib v.inputs.length v.ic),.c v.aF.val,.c (.slice v.cb v.code.length v.cc),aC v.last,.c v.out.val] 34)] (SM w g x want v) 5:=by
 by_cases e2:(jX g o n).2=0
 ·have hsp:=Uh e2;obtain⟨V,hV,hin⟩:=ac1 hsp hgood;obtain⟨hck,hsl,hsi⟩:=jC hsp;obtain⟨_,_,⟨ho0,ho1⟩,_,_⟩:=gK hck;have hrun:Je g (x.l.map ax.xs)=(0,V.getD g.out.toNat []):=by
   unfold Je;rw[hV,hsp];rfl
  rw[hrun]at hw|-
  have hw:want.xs=V.getD g.out.toNat []:=hw;have gd:zf v x n want.xs:=by rw[hw];exact Yy hsp hV e2 hv sv0
  have hin2:=hin g.out.toNat aa;rw[<-hw]at hin2;have hbd:∀s∈(cZ g).2,fJ s.1/\fJ s.2:=λs hs=>by
   obtain⟨j,hj⟩:=amd.1 hs;obtain⟨hjl,_⟩:=abH.1 hj;obtain⟨s',h1,hse,h2,h3⟩:=hsi j _ (YL aa);rw[hj]at h1;simp only[Option.some.injEq]at h1;subst h1;have:=asM hck (YL (show j<g.l.length by omega)) (acc:=(cZ g).2.take j) (by rw[aek];omega);rw[<-hse]at this;unfold fJ;omega
  rw[e2];have z0:(0:Int)=0:=rfl;iterate 2 (refine Wp.go bW rfl ?_;(repeat' ((conv=>whnf)<;>first|refine bn ?_)))
  all_goals(conv=>whnf)
  all_goals exact Wp.into 5 [] (ar5 w g x hxs want v sv0 n gd hws hsp ⟨ho0,ho1⟩ hin2 hsl hbd ug) ay ⟨rfl,rfl⟩ ⟨rfl,⟨rfl,rfl,rfl,rfl,rfl,trivial⟩,fE,λR w' h=>h⟩
 ·have hc:v.code.length=0:=by
   have h1:=aqV e2;rw[<-hv]at h1;have h2:v.pl.low.code=[]:=by rw[h1];rfl
   have h3:v.code=[]:=h2;rw[h3];rfl
  repeat' ((conv=>whnf)<;>first|refine bn ?_|refine a_ ?_|refine ag ?_ ?_<;>intro _)
  all_goals(conv=>whnf)
  all_goals exact bZ (λ_ _ h=>h.1.1.1.1) (λ_=>rfl) rfl
theorem aqZ{cx:Cx}{f:FuncId}{args:List SV}{H:Heap}{S:bR}{nx:Nat}{K:SV->Heap->bR->Nat->Prop}(src:List ax)(r:Int×List Int)(hf:∀ar w,(callFunc f ar).run cx.P w= .ok (.enter f ar) w)
 (hc:∀ρ w',dO cx.B ρ nx H S w'->Calls cx.P f (SV.dW ρ args).toArray w' (aoJ src w' r))
 (h:∀x:Mix,x.1.xs=(if r.1=0 then r.2 else [])->x.1.bF->(x.2=true->x.1∈src)->K (.c (.tuple #[x.1.val,.int .i64 r.1])) H (S.and ((ajC x).past cx.B.w0.heap.size)) nx):aJ cx f args H S nx K:=by
 rw[fZ];refine⟨hf,λρ w hw=>(hc ρ w hw).mono ?_⟩;rintro e w' (⟨hr,rfl,he⟩|⟨hr,x,⟨hx1,hx2,hx3⟩,rfl,he,hD⟩)
 ·exact⟨.c (.tuple #[.slice none 0 0,.int .i64 r.1]),ρ,H,_,nx,rfl,λ_ _=>rfl,Tw _,SV.iW _,hw.grow (D:=ajC (cK,false)) he (λ_=>dI _ w'),h (cK,false) (by rw[if_neg hr];rfl) iC (λe=>by cases e)⟩
 ·have:=h x (by rw[if_pos hr];exact hx1) hx2 hx3;rw[hr]at this;exact⟨.c (.tuple #[x.1.val,.int .i64 0]),ρ,H,_,nx,rfl,λ_ _=>rfl,Tw _,SV.iW _,hw.grow (D:=ajC x) he hD,this⟩
theorem asl{r:Nat}{K:Int->Prop}(hr:r<6)(h:K ((4*2^r:Nat):Int)):CJ .shl .i64 4 (r:Int) K:=by
 rw[EX];have hc:r=0\/r=1\/r=2\/r=3\/r=4\/r=5:=by omega
 refine⟨by omega,_,rfl,?_⟩;rcases hc with rfl|rfl|rfl|rfl|rfl|rfl<;>exact h
abbrev SP(w:World)(g:bM)(x:aY)(want:ax):bR:=(S6 w g x).and (Eg λw=>want.ok w)
theorem arL(w:World)(g:bM)(x:aY)(hgood:kY g.l (x.l.map ax.xs))(hxs:∀u∈x.l,u.bF)(ug:g.l.length<=100000)(want:ax)(hws:want.bF)(hw:want.xs=if(Je g (x.l.map ax.xs)).1=0 then(Je g (x.l.map ax.xs)).2 else [])(n:Nat)(hn:i64 n)(a:Nat)(ha:a<256):
 LmW w 7 [(2,.c (.int .u8 a)),(9,.lp 2 0 0 0),(10,.c x.val),(11,.c want.val),(12,aC (Je g (x.l.map ax.xs)).1),(13,aC n)] [(2,.box [.c (.slice g.base g.l.length g.cap),aC g.out] 24)] (SP w g x want) 4:=by
 repeat' ((conv=>whnf)<;>first|(show cO _ 9 ..;refine mV [9] _ as4 ?_)|refine a_ ?_|refine And.intro ?_ ?_)
 all_goals(repeat' ((conv=>whnf)<;>first|refine eU ?_|(show aJ _ 15 ..;refine aR (f:=15) Tryz.call15 (Em a).val (λρ w' hw=>K_ w' a ha) ?_)|(show aJ _ 9 ..;refine FN (jX g (Em a) n) Tryz.call9 (λρ w' hw=>Ro w' g (Em a) n (ae hw λR h=>iO h.1.1.2) hn) (λv1 h1 s1=> ?_))|refine And.intro ?_ ?_))
 all_goals(conv=>whnf)
 all_goals exact Wp.into 5 [] (ash w g x hgood hxs ug want hws hw n (Em a) _ fw fw) ay ⟨rfl,rfl⟩ ⟨rfl,⟨rfl,rfl,rfl,rfl,rfl,rfl,rfl,trivial⟩,fE,λR w' h=>h⟩
theorem arN(w:World)(g:bM)(x:aY)(hgood:kY g.l (x.l.map ax.xs))(hxs:∀u∈x.l,u.bF)(hroom:x.l.length<=x.cap)(hfx:x.l.length<=1000000)(ug:g.l.length<=100000)(a b:Nat)(ha:a<256):
 LmW w 5 [(2,.c (.int .u8 a)),(3,.c (.int .u8 b)),(9,.lp 2 0 0 0),(10,.c x.val)] [(2,.box [.c (.slice g.base g.l.length g.cap),aC g.out] 24)] (S6 w g x) 4:=by
 have hin:∀{R:Nat->Prop} {w':World},(S6 w g x).holds R w'->InV.ok w' x:=λh=>⟨bf h.2.1,λz hz=>dw (hxs z hz) (h.2.2 z hz),hroom,hfx⟩;refine Wp.go bW rfl ?_;repeat' ((conv=>whnf)<;>first|(show aJ _ 14 ..;refine aqZ (apu g x) (Je g (x.l.map ax.xs)) Tryz.call14 (λρ w' hw=>ae hw λR h=>aqK w' g (iO h.1.2) x (hin h)) (λwant hw hws hwm=> ?_)))
 refine Wp.go bW rfl ?_;have hb6:b%6<6:=akx _ ay;repeat' ((conv=>whnf)<;>first|(show x8 ..;refine Yi (a:=b) (b:=6) ?_)|(show CJ ..;refine asl (r:=b%6) hb6 ?_))
 have hn:i64 ((4*2^(b%6):Nat):Int):=by
  have hc:b%6=0\/b%6=1\/b%6=2\/b%6=3\/b%6=4\/b%6=5:=by omega
  rcases hc with e|e|e|e|e|e<;>rw[e]<;>exact⟨by decide,by decide⟩
 all_goals(conv=>whnf)
 all_goals exact Wp.into 4 [] (arL w g x hgood hxs ug want.1 hws hw (4*2^(b%6)) hn a ha) ay ⟨rfl,rfl⟩ ⟨rfl,⟨rfl,rfl,rfl,rfl,rfl,rfl,trivial⟩,⟨aj,trivial⟩,λR w' h=>⟨h.1,CZ h λR2 w2 h2=>by
  cases e:want.2 with
  |true=>exact asY (iO h2.1.1.2) (hin h2.1) _ (hwm e)
  |false=>exact dw hws (h2.2 e)⟩⟩
theorem ap5(w:World)(t d:gF)(ht:t.raw w)(hd:d.raw w)(a b:Nat)(ha:a<256)(hb:b<256):Calls Tryz.prog 5 #[t.val,d.val,.int .u8 a,.int .u8 b] w λe w'=>e= .returned (.bool true)/\Ext w w':=by
 by_cases am8:t.bs.length<=300/\d.bs.length<=300
 ·obtain⟨ht3,hd3⟩:=am8;refine fH Tryz.func5 [.c t.val,.c d.val,.c (.int .u8 a),.c (.int .u8 b)] ?_;repeat' ((conv=>whnf)<;>first|(show aJ _ 7 ..;refine aR (f:=7) Tryz.call7 (.bool true) (λρ w' hw=>K3 w') ?_)|refine a_ ?_|refine ag ?_ ?_<;>intro _)
  refine Zo (f:=12) t 0 aj Tryz.call12 aa ht.fits (aae _) (λR w' h=>NV ht h) (λw' b htk=>afz w' b t 0 htk) (λl out k' hml h8 ho0 ho1=> ?_);obtain⟨sh,hsh,hck⟩:=PR hml aa;have hl1:=hml.one;repeat' ((conv=>whnf)<;>first|fail)
  all_goals(conv=>whnf)
  refine Wp.Vh 1 w.heap.size (k:=9) (xs:=bO l) (T:=41) aj (λR w' h b hb=>(h.1 b hb).1) (λl1 hl1=> ?_);have anC:∀{R:Nat->Prop} {w':World},(((aU w).and ((m_ l).past w.heap.size)).and ((f_ l1.base 9 (bO l)).past w.heap.size)).holds R w'->(⟨l1.base,l1.cap,l,out⟩:bM).ok w':=λh=>WY hml.each aa (bf h.2) ((m_ l).mono h.1.2 (λb hb=>hb.1)) ⟨by omega,by omega⟩;repeat' ((conv=>whnf)<;>first|(show cO _ 9 ..;refine mV [9] _ as4 ?_)|refine a_ ?_|refine And.intro ?_ ?_)
  refine Yp (f:=13) d 0 l1.base l1.cap l out aj Tryz.call13 aa hd.fits (aae _) (λR w' h=>NV hd h.1.1) aa (λR w' h=>(f_ _ _ _).mono h.2 (λb hb=>hb.1)) (λR w' h=>(m_ l).mono h.1.2 (λb hb=>hb.1)) (Sm hml aa) (λw' b htk hr hnd=>Y8 w' b d 0 htk l1.base l1.cap l out aa hr hnd (Sm hml aa)) (λx k2 hx=> ?_);repeat' ((conv=>whnf)<;>first|fail)
  all_goals(conv=>whnf)
  all_goals exact Wp.into 4 [] (arN w ⟨l1.base,l1.cap,l,out⟩ x hx.good hx.bF hx.room (by have:=hx.few;omega) (by show l.length<=100000;omega) a b ha) ay ⟨rfl,rfl⟩ ⟨rfl,⟨rfl,rfl,rfl,rfl,trivial⟩,⟨aj,trivial⟩,λR w' h=>⟨⟨h.1.1.1,CZ h λ_ _ h=>anC h.1⟩,h.2⟩⟩
 ·refine fH Tryz.func5 [.c t.val,.c d.val,.c (.int .u8 a),.c (.int .u8 b)] ?_;repeat' ((conv=>whnf)<;>first|refine bn ?_|(show aJ _ 7 ..;refine aR (f:=7) Tryz.call7 (.bool true) (λρ w' hw=>K3 w') ?_)|refine a_ ?_|refine ag ?_ ?_<;>intro _)
  all_goals(conv=>whnf)
  all_goals first|(exfalso;omega)|exact bq (λ_ _ h=>h) rfl rfl
open Go.ChangeShapes Go.WideShapes Go.ChangeAt
theorem an2:ownKnob Tryz.prog.godebug=none:=by kernel_rfl
theorem af3:laidOutB Tryz.prog=true:=by kernel_rfl
theorem Df{H:Type}{enc:TypeId×Value->H}{P:Program}{w:World}{t:TypeId}{Q:List Value->Prop}{base:Nat}{sp:Nat->Bool}{held:Bool}{v:Value}{d:DataW H}{ps:List MemPlace}(h:H9 P w t Q)(ht:DataW.Trod enc P w base sp held t v d ps):Q v.cells.toList:=by
 obtain⟨n,hn⟩:=ht;exact h.out enc base sp held n _ _ hn
structure ax.alx(w:World)(v:ax):Prop where
 rows:bE w v.base 1 (aZ v.xs)
 fits:∀x∈v.xs,-9223372036854775808<=x/\x<=9223372036854775807
 room:v.xs.length<=v.cap
theorem ax.alx.ok{w:World}{v:ax}(h:v.alx w)(hf:v.xs.length<=1000000):v.ok w:=⟨h.rows,h.fits,h.room,hf⟩
theorem afc{x:Int}(h:(Lit.int .u8 x).wf=true):0<=x/\x<=255:=by
 simp[Lit.wf,IntKind.min,IntKind.max,IntKind.signed,IntKind.bits]at h;omega
theorem Qw{H:Type}{enc:TypeId×Value->H}{P:Program}{w:World}{base:Nat}{spare:Nat->Bool}{held:Bool}{t0 t1 t2 t3:TypeId}{args:Array Value}{ds:List (DataW H)}{ps:List MemPlace}(h:DataW.TrodAll enc P w base spare held [t0,t1,t2,t3] args.toList ds ps):
 ∃v0 v1 v2 v3 d0 d1 d2 d3 p0 p1 p2 p3,args= #[v0,v1,v2,v3]/\ds=[d0,d1,d2,d3]/\DataW.Trod enc P w base spare held t0 v0 d0 p0/\DataW.Trod enc P w base spare held t1 v1 d1 p1/\DataW.Trod enc P w base spare held t2 v2 d2 p2/\DataW.Trod enc P w base spare held t3 v3 d3 p3:=by
 obtain⟨v0,vs0,d0,ds0,p0,q0,e0,rfl,rfl,h0,r0⟩:=trodAll_cons h;obtain⟨v1,vs1,d1,ds1,p1,q1,rfl,rfl,rfl,h1,r1⟩:=trodAll_cons r0;obtain⟨v2,vs2,d2,ds2,p2,q2,rfl,rfl,rfl,h2,r2⟩:=trodAll_cons r1;obtain⟨v3,vs3,d3,ds3,p3,q3,rfl,rfl,rfl,h3,r3⟩:=trodAll_cons r2;obtain⟨rfl,rfl,rfl⟩:=trodAll_nil r3;exact⟨v0,v1,v2,v3,d0,d1,d2,d3,p0,p1,p2,p3,by cases args;simp_all,rfl,h0,h1,h2,h3⟩
end Go.Proofs.YtgndjjdeopfdkaaGreat

import Derived.Test.YtgndjjdeopfdkaaGreatKLowerSame12e
/- texts WJ VA of the proof of LowerSameSaid -/
set_option maxHeartbeats 16000000
set_option maxRecDepth 20000
set_option linter.unusedVariables false
set_option linter.unusedSimpArgs false
namespace Go.Proofs.YtgndjjdeopfdkaaGreat
open Go.SX Go.RowKit
theorem afu(w:World)(g:bM)(c:fT)(aV:Int)(hS:Ie c aV (check g).2 g.l)(hm:c.aA<=2048)(hpos:∀u∈c.di.l,0<u.xs.length)(Ez:g.l.length<=24)(hout:0<=g.out/\g.out<g.l.length)(hC:∀(i:Nat) (n:ak),g.l[i]? =some n->Hu c n i (ww n.ai)):
 LoW w (uW c g) 7 [(3,.lp 0 0 0 0),(6,.lp 2 0 0 0),(10,.lp 3 0 0 0)] [(3,.box [aC c.aA,.c (.slice none 0 0),.c (.slice none 0 0),.c (.slice none 0 0),aC 0,.c (.slice none 0 0),.c (.bool c.giant),.c c.shapes.val,.c c.di.val,.c (.slice none 0 0)] 71),(2,.box [aC 0,.c (.slice none 0 0),.c (.slice none 0 0),.c (.slice none 0 0),aC 0,.c (.slice none 0 0)] 34),(0,.box [.c (.slice g.base g.l.length g.cap),aC g.out] 24)] (ajG w g c ⟨[],[],[]⟩) 5:=by
 obtain⟨hm1,_⟩:=hS.aA
 repeat' ((conv=>whnf)<;>first|refine a_ ?_)
 all_goals(conv=>whnf)
 obtain⟨T,hT0⟩:∃T,gU c (g.l.drop 0) 0 ⟨[],[],[]⟩ []=T:=⟨_,rfl⟩
 have hrT:lowerT c g T=uW c g:=by rw[<-hT0];rfl
 refine Wp.loop (σ:=Nat×fu×List Int) 9 (λq=>[(3,.lp 0 0 0 0),(6,.lp 2 0 0 0),(10,.lp 3 0 0 0),(105,.c (.slice g.base g.l.length g.cap)),(106,aC g.l.length),(107,aC q.1)])
  (λq=>(2,.box [aC 0,.c (.slice none 0 0),.c (.slice none 0 0),.c (.slice none 0 0),aC 0,.c (.slice none 0 0)] 34)::(0,.box [.c (.slice g.base g.l.length g.cap),aC g.out] 24)::yU c q.2.1 q.2.2 3 5 6 7 8)
  (λq=>ajG w g c q.2.1) (λq=>q.1<=g.l.length/\q.2.2.length=q.1/\yC c q.2.1/\q.2.1.code.length<=2048/\q.2.1.aF.length<=q.2.1.code.length/\q.2.1.inputs.length<=q.2.1.code.length/\gU c (g.l.drop q.1) q.1 q.2.1.pl q.2.2=T) (λq=>g.l.length-q.1) (0,⟨[],[],[]⟩,[]) [(5,none),(6,none),(7,none),(8,none)] ay (λq=>⟨rfl,rfl⟩)
  ⟨Nat.zero_le _,rfl,⟨λ_ h=>bT,λ_ h=>bT⟩,Nat.zero_le _,Nat.zero_le _,Nat.zero_le _,hT0⟩ ⟨rfl,⟨rfl,rfl,rfl,rfl,rfl,rfl,trivial⟩,⟨aj,aj,aj,rfl,rfl,rfl,rfl,trivial⟩,λR w' h=>h⟩ ?_
 rintro⟨i,qs,vl⟩ ⟨hil,hvl,hqo,hqc,hqp,hqi,hT⟩
 simp only at hil hvl hqo hqc hqp hqi hT
 by_cases hlt:i<g.l.length
 ·have hgi:g.l[i]? =some g.l[i]:=List.getElem?_eq_getElem hlt
  have hrow:=fP hlt
  have hNC:=hC i _ hgi
  have hgr:=dz.node c g.l[i] i qs.pl vl aa
  have hnm:=List.getElem_mem hlt
  rw[List.drop_eq_getElem_cons hlt,gU]at hT
  generalize g.l[i]=n at*
  have hNA:wT c qs vl:=⟨by omega,hqo,by omega,by omega,by omega⟩
  clear hC hT0 hgi
  refine Wp.know (p:=∃a,g.base=some a) (λρ w' hw=>ae hw λR h=>aT (j:=i) ((iO h.2).rows) (by rw[jJ];exact hlt)) ?_
  rintro⟨ga,hga⟩
  rcases ach n.ai with⟨hk,hf⟩|⟨hk,hf⟩|⟨hk,hf⟩|⟨hk,hf⟩|⟨hk,hf⟩|⟨⟨hk1,hk2,hk3,hk4,hk5⟩,hf⟩
  all_goals as_aux_lemma=>
   rw[hf]at hNC
   repeat' ((conv=>whnf)<;>first|(show cO _ 33 ..;refine mV [] [(9,.box (cs n.cells) 41)] ajl ?_ (h6:=List.Sublist.cons_cons _ (List.nil_sublist _)))|refine eU ?_|(show dn ..;refine aM ga i hga rfl hlt ?_)|(show lK ..;(refine gI (λR w' h=>by rw[<-hga];exact(iO h.2).rows) _ hrow rfl ?_))|refine bn ?_|(show aJ _ _ [.lp 3 0 0 0,_,_] ..;refine dM [(9,.box (cs n.cells) 41),(2,.box [aC 0,.c (.slice none 0 0),.c (.slice none 0 0),.c (.slice none 0 0),aC 0,.c (.slice none 0 0)] 34),(0,.box [.c (.slice g.base g.l.length g.cap),aC g.out] 24)] 3 5 6 7 8 c qs vl (TF c qs n) [.lp 0 0 0 0,.agg (vo n),aC i] _ _ _ _ Ov rfl rfl rfl (λR w' h=>aeW hnm h) (GB w.heap.size) (λR w' h b hb=>(h.1.1 b hb).1) (λw' ρ' F' h'=>hNC qs vl w' ρ' F' hNA hvl h') (λq ⟨hq1,hq2,hq3⟩=> ?_))|refine Ag ?_|(show jv ..;(refine fU Ps ?_))|refine Ob ?_|refine a_ ?_|refine ag ?_ ?_<;>intro _|refine And.intro ?_ ?_)
   all_goals(conv=>whnf)
   all_goals
    rw[<-hq1]at hT hgr
    have hg3:=ajj hgr
    first|exact⟨(i+1,q.1,vl++[q.2]),[(5,some 16),(6,some 12),(7,some 13),(8,some 14)],⟨hlt,by show(vl++[q.2]).length=i+1;rw[List.length_append,hvl];rfl,hq3,by show q.1.code.length<=2048;omega,by show q.1.aF.length<=q.1.code.length;omega,by show q.1.inputs.length<=q.1.code.length;omega,by rw[if_neg (by show¬2048<q.1.code.length;omega),<-hq2]at hT;exact hT⟩,by show g.l.length-(i+1)<g.l.length-i;omega,rfl,fE,fE,λR w' h=>⟨Rz h.1.1 h.2,h.1.2⟩⟩|exact yz (λ_ _ h=>h.1.1.1) rfl OM (λρ=>rfl)
 ·obtain rfl:i=g.l.length:=by omega
  rw[List.drop_length,gU]at hT
  rw[<-hT]at hrT
  have ho1:g.out.toNat<c.di.l.length:=by have:=congrArg List.length hS.di;rw[List.length_map,List.length_map,hS.len]at this;omega
  have ho2:g.out.toNat<vl.length:=by omega
  refine Wp.go bW rfl ?_
  repeat' ((conv=>whnf)<;>first|refine FB ?_|refine ag ?_ ?_<;>intro _)
  refine Wp.go bW rfl ?_
  repeat' ((conv=>whnf)<;>first|refine FB ?_|refine ag ?_ ?_<;>intro _)
  exact Wp.into 9 [] (Qs w g c qs vl (uW c g) hout.1 ho1 ho2 hqo ⟨hqc,by omega,by omega⟩ (λu hu=>⟨hS.spS u hu,hpos u hu⟩) hrT) ay ⟨rfl,rfl⟩ ⟨rfl,⟨rfl,rfl,rfl,trivial⟩,fE,λ_ _ h=>h.1⟩
theorem Xj(w:World)(g:bM)(o:DZ)(m:Nat)(hmm:4<=m/\m<=2048)(hsp:(cZ g).1=0)(hC:∀c:fT,Ie c o.aV (check g).2 g.l->∀(i:Nat) (n:ak),g.l[i]? =some n->Hu c n i (ww n.ai)):
 LoW w (mr g o.aV o.giant m) 4 [(2,aC m),(3,.lp 0 0 0 0),(4,.lp 1 0 0 0),(6,.lp 2 0 0 0)] [(2,.box [aC 0,.c (.slice none 0 0),.c (.slice none 0 0),.c (.slice none 0 0),aC 0,.c (.slice none 0 0)] 34),(1,.box [aC o.aV,.c (.bool o.tidy),.c (.bool o.lazy),.c (.bool o.giant),aC o.rows] 26),(0,.box [.c (.slice g.base g.l.length g.cap),aC g.out] 24)] ((aU w).and (Eg λw=>g.ok w)) 3:=by
 obtain⟨hck,_,_⟩:=jC hsp
 obtain⟨hl1,Ez,hout,hcl,hin⟩:=gK hck
 refine Wp.know (p:=∃w',g.ok w') (λρ w' hw=>⟨w',ae hw λR h=>iO h.2⟩) ?_
 rintro⟨wg,hg⟩
 repeat' ((conv=>whnf)<;>first|(show aJ _ 24 ..;refine BK (f:=24) (check g) Tryz.call24 (λρ w' hw=>qE w' g (ae hw λR h=>iO h.2)) (λh=>absurd hck h) (λ_ sv hm hsv hsc=> ?_))|refine a_ ?_)
 have hsl:sv.l.length=g.l.length:=by have:=congrArg List.length hm;rw[List.length_map]at this;omega
 obtain⟨Z,hZ0⟩:∃Z,iw o.aV m ((sv.l.drop 0).map ax.xs) []=Z:=⟨_,rfl⟩
 have hZg:iw o.aV m (check g).2 []=Z:=by rw[<-hZ0,List.drop_zero];exact congrArg (λz=>iw o.aV m z []) hm.symm
 refine Wp.loop (σ:=Nat×List ax) 5 (λq=>[(2,aC m),(3,.lp 0 0 0 0),(4,.lp 1 0 0 0),(6,.lp 2 0 0 0),(10,.lp 3 0 0 0),(75,.c sv.val),(76,aC sv.l.length),(77,aC q.1)])
  (λq=>[(4,.rows (bA q.2) 1 32),(3,.box [aC m,.c (.slice none 0 0),.c (.slice none 0 0),.c (.slice none 0 0),aC 0,.c (.slice none 0 0),.c (.bool o.giant),.c sv.val,.os 4 q.2.length,.c (.slice none 0 0)] 71),(2,.box [aC 0,.c (.slice none 0 0),.c (.slice none 0 0),.c (.slice none 0 0),aC 0,.c (.slice none 0 0)] 34),(1,.box [aC o.aV,.c (.bool o.tidy),.c (.bool o.lazy),.c (.bool o.giant),aC o.rows] 26),(0,.box [.c (.slice g.base g.l.length g.cap),aC g.out] 24)])
  (λq=>al3 w g sv q.2) (λq=>q.1<=sv.l.length/\q.2.length=q.1/\(∀u∈q.2,u.bF/\0<u.xs.length)/\iw o.aV m ((sv.l.drop q.1).map ax.xs) (q.2.map ax.xs)=Z) (λq=>sv.l.length-q.1) (0,[]) [(4,none)] ay (λq=>⟨rfl,rfl⟩) ⟨Nat.zero_le _,rfl,λ_ h=>bT,hZ0⟩
  ⟨rfl,⟨rfl,rfl,rfl,rfl,rfl,rfl,rfl,rfl,trivial⟩,⟨rfl,aj,aj,aj,aj,trivial⟩,λR w' h=>⟨h,λu hu=>by cases hu⟩⟩ ?_
 rintro⟨k,us⟩ ⟨hkl,I4,iL,hZ⟩
 simp only at hkl I4 iL hZ
 by_cases hlt:k<sv.l.length
 ·rw[List.drop_eq_getElem_cons hlt,List.map_cons]at hZ
  have hrow:=fQ hlt
  have IZ:=List.getElem_mem hlt
  generalize sv.l[k]=u at*
  refine Wp.know (p:=∃a,sv.base=some a) (λρ w' hw=>ae hw λR h=>aT (j:=k) (bf h.1.2.1) pM) ?_
  rintro⟨sa,hsa⟩
  by_cases hok:(gM u.xs o.aV m).2=0
  ·rw[Jl hok]at hZ
   repeat' ((conv=>whnf)<;>first|(show dn ..;refine aM sa k hsa rfl hlt ?_)|refine z8 ?_|(show @iG _ _ _;(refine jc (by rw[hok];decide) ?_))|(refine AY ?_;intro x hx hxs)|(show Gn ..;(refine mg nO ?_))|refine rX ?_|refine OP ?_|refine a_ ?_|refine ag ?_ ?_<;>intro _)
   all_goals(conv=>whnf)
   all_goals exact⟨(k+1,us++[x]),[(4,some 6)],⟨hlt,by show(us++[x]).length=k+1;rw[List.length_append,I4];rfl,λv hv=>(List.mem_append.1 hv).elim (iL v) (λhv=>by rw[List.mem_singleton.1 hv];exact⟨hxs,by rw[hx];exact Pm hok⟩),by show iw o.aV m _ ((us++[x]).map ax.xs)=Z;rw[List.map_append,List.map_cons,List.map_nil,hx];exact hZ⟩,by show sv.l.length-(k+1)<sv.l.length-k;omega,rfl,⟨rfl,rfl,rfl,rfl,rfl,rfl,rfl,rfl,trivial⟩,fE,λR w' h=>⟨h.1.1,mR h.1.2 (Rk h.2)⟩⟩
  ·rw[Kg hok]at hZ
   repeat' ((conv=>whnf)<;>first|(show dn ..;refine aM sa k hsa rfl hlt ?_)|refine z8 ?_|(show @iG _ _ _;refine gJ hok ?_)|(refine AY ?_;intro x hx hxs)|refine a_ ?_|refine ag ?_ ?_<;>intro _)
   all_goals(conv=>whnf)
   have e2:Z.2=(gM u.xs o.aV m).2:=by rw[<-hZ]
   all_goals exact yz (λ_ _ h=>h.1.1.1.1) rfl (by unfold mr;rw[hZg,if_pos (by rw[e2];exact hok),e2]) (λρ=>rfl)
 obtain rfl:k=sv.l.length:=by omega
 rw[List.drop_length]at hZ
 have hZ:(us.map ax.xs,(0:Int))=Z:=hZ
 refine Wp.Vh 4 w.heap.size (k:=1) (xs:=bA us) (T:=32) aj (λR w' h b hb=>(h.1.1.1 b hb).1) (λfl hfl=> ?_)
 have hz2:(iw o.aV m (check g).2 []).2=0:=by rw[hZg,<-hZ]
 obtain⟨c,hc⟩:∃c:fT,c=⟨m,o.giant,sv,⟨fl.base,fl.cap,us⟩⟩:=⟨_,rfl⟩
 have hS:Ie c o.aV (check g).2 g.l:=abf hg hck hmm hz2 (by rw[hc]) (by rw[hc];exact hm) (by rw[hc];exact hsv) (by rw[hc,hZg,<-hZ]) (by rw[hc];exactλu hu=>(iL u hu).1)
 have hr:mr g o.aV o.giant m=uW c g:=by
  unfold mr
  rw[if_neg (λh=>h hz2)]
  exact I5 ⟨by rw[hc],by rw[hc],by rw[Dj,hc];exact hm.symm,by rw[Dj,hZg,<-hZ,hc]⟩ rfl rfl
 rw[hr]
 have h7:=afu w g c o.aV hS (by rw[hc];exact hmm.2) (by rw[hc];exactλu hu=>(iL u hu).2) Ez hout (hC c hS)
 iterate 2
  refine Wp.go bW rfl ?_
  repeat' ((conv=>whnf)<;>first|refine FB ?_|refine ag ?_ ?_<;>intro _)
 exact Wp.into 5 [] h7 ay ⟨rfl,rfl⟩ ⟨rfl,⟨rfl,rfl,rfl,trivial⟩,⟨by rw[hc];exact aj,aj,aj,trivial⟩,λR w' h=>⟨⟨h.1.1.1.1,⟨by rw[hc];exact h.1.1.2,by rw[hc];exact⟨h.2,h.1.2⟩⟩,λ_ h=>bT⟩,h.1.1.1.2⟩⟩
theorem ac4(w:World)(g:bM)(o:DZ)(aA:Int)(hg:g.ok w)(h64:i64 aA)(hC:∀(t:bM) (c:fT),Ie c o.aV (check t).2 t.l->∀(i:Nat) (n:ak),t.l[i]? =some n->Hu c n i (ww n.ai)):Calls Tryz.prog 9 #[g.val,o.val,.int .i64 aA] w (vD w (jX g o aA)):=by
 by_cases hbad:¬nJ o aA\/(cZ g).1≠0
 ·have h:=acV w g o aA hg h64 hbad
  have e:jX g o aA=(Ca,if nJ o aA then(cZ g).1 else 1):=by
   unfold jX
   by_cases hs:nJ o aA
   ·rw[if_pos hs,if_pos hs,if_pos (hbad.resolve_left (λh=>h hs))]
   ·rw[if_neg hs,if_neg hs]
  rw[e];exact h
 have hs:nJ o aA:=Decidable.byContradiction λh=>hbad (.inl h)
 have hsp:(cZ g).1=0:=Decidable.byContradiction λh=>hbad (.inr h)
 obtain⟨s1,s2,s3,s4,s5⟩:=id hs
 obtain⟨m,rfl⟩:∃m:Nat,aA=m:=⟨aA.toNat,by omega⟩
 have hF:jX g o m=mr (if o.tidy=true then Lg g else g) o.aV o.giant m:=by unfold jX;rw[if_pos hs,if_neg (λh=>h hsp),Int.toNat_natCast]
 rw[hF]
 obtain⟨hck,_,_⟩:=jC hsp
 obtain⟨hl1,Ez,_⟩:=gK hck
 refine fH Tryz.func9 [.agg [.c (.slice g.base g.l.length g.cap),aC g.out],.agg [aC o.aV,.c (.bool o.tidy),.c (.bool o.lazy),.c (.bool o.giant),aC o.rows],aC m] ?_
 repeat' ((conv=>whnf)<;>first|(show Ci ..;refine G5 ?_)|(show @iG _ _ _;(first|refine jc aa ?_))|(show aJ _ 22 ..;refine wZ (f:=22) (cZ g) Tryz.call22 (λρ w' hw=>yj w' g (ae hw λR h=>hg.later h)) (λh=>absurd hsp h) (λ_ qb qc=> ?_))|refine a_ ?_)
 refine Fp (λ_=>rfl) (λht=> ?_) (λht=> ?_)
 ·rw[if_pos ht]
  repeat' ((conv=>whnf)<;>first|(show aJ _ 23 ..;refine aaJ g hsp hg.small Ez Tryz.call23 (λρ w' hw=>afN w' g (ae hw λR h=>hg.later h.1)) (λt hT=> ?_)))
  rw[<-hT.lower]
  exact Wp.into 3 [] (Xj w t o m ⟨by omega,by omega⟩ (hT.spans hsp) (λc hc=>hC t c hc)) ay ⟨rfl,rfl⟩ ⟨rfl,⟨rfl,rfl,rfl,rfl,trivial⟩,fE,λR w' h=>⟨h.1.1,(Eg λw=>t.ok w).mono h.2 (λb hb=>hb.1)⟩⟩
 ·rw[if_neg (by rw[ht];decide)]
  repeat' ((conv=>whnf)<;>first|refine FB ?_|refine ag ?_ ?_<;>intro _)
  exact Wp.into 3 [] (Xj w g o m ⟨by omega,by omega⟩ hsp (λc hc=>hC g c hc)) ay ⟨rfl,rfl⟩ ⟨rfl,⟨rfl,rfl,rfl,rfl,trivial⟩,fE,λR w' h=>⟨h.1,CZ h.1 (λ_ _ h=>hg.later h)⟩⟩
abbrev ak_:DT:=(bS [0,1,2,3,4,5,6,7,8,9,11,110,12] .done)
abbrev LpW(w:World)(ρ:Nat->SX.Loc)(F:Nat->Prop)(c:fT)(s:fu)(vl:List Int)(k:Nat)(env:Env)(H:Heap)(S:bR)(nx:Nat)(r:dL×Int):Prop:=Wp ⟨Tryz.prog,⟨w,yZ 2 ρ⟩,Tryz.f31.ntmps,tab⟩ (abA k (bodyC Tryz.f31)) env H S nx (acw ⟨Tryz.prog,⟨w,yZ 2 ρ⟩,Tryz.f31.ntmps,tab⟩ Tryz.f31.results.toList (pz w ρ F c s vl r))
abbrev lpF(w:World)(F:Nat->Prop)(s0:fu)(c:fT)(n:ak)(s:fu):bR:=((((iQ s.aF).and ((Q6 s0.aF s.aF).off (iV w F))).and (wJ c)).and (Xp n)).and (l8 w F)
structure aeM(c:fT)(q:fu)(k:Nat)(n:ak)(i:Nat)(sp:ax):Prop where
 aA:1<=c.aA/\c.aA<=4096
 low:rE c k q
 few:k<=600000
 hi:c.di.l[i]? =some sp
 hsp:sp.bF
 places:∀z∈sp.xs,0<=z/\z<c.aA
 data:n.data.xs.length=3
theorem ai8(c:fT)(s q:fu)(vl:List Int)(k:Nat)(o:Int)(sb:Bool)(n:ak)(i:Nat)(x v:Int)(sp:ax)(hP:aeM c q k n i sp)(hv:n.data.xs.getD 0 0=v)(h64:i64 v)(w:World)(ρ:Nat->SX.Loc)(F:Nat->Prop):
 LpW w ρ F c s vl 5 [(0,.lp 0 0 0 0),(2,aC i),(4,.lp 5 0 0 0),(7,aC x),(8,.lp 6 0 0 0)] ((6,.box ([.lp 0 0 0 0,aC o,.c (.bool sb)]) 129)::(5,.box (cs n.cells) 41)::yU c q vl 0 1 80 81 82) (lpF w F s c n q) 83 (pw4 c.aA (q.pl,o) v sp.xs):=by
 obtain⟨hs,z0,hk,hi,hsp,hpl,hd⟩:=hP
 refine Wp.know (p:=∃a,n.data.base=some a) (λρ w' hw=>ae hw λR h=>aT (j:=0) (iO h.1.2.2.1) dS) ?_
 rintro⟨da,hda⟩
 unfold pw4
 by_cases h0:v=0
 ·rw[if_pos h0]
  repeat' ((conv=>whnf)<;>first|(show dn ..;refine aM da 0 hda rfl aa ?_)|(show gZ ..;(refine qQ (λR w' h=>by rw[<-hda];exact iO h.1.2.2.1) (j:=0) aa hv ?_))|refine a_ ?_|refine ag ?_ ?_<;>intro _)
  all_goals(conv=>whnf)
  all_goals exact lH _ _ _ _ (q,o) [(2,some 80),(3,some 81),(4,some 82)] ⟨rfl,rfl,z0.ok⟩ ay rfl rfl rfl rfl fE (λR w' h=>⟨h.2,h.1.1.1.2⟩)
 ·rw[if_neg h0]
  repeat' ((conv=>whnf)<;>first|(show cO _ 18 ..;refine mV [14] [(6,.box [.lp 0 0 0 0,aC o,.c (.bool sb)] 129)] (bS [0,1,2,3,4,5,6,7,8,109,110,111,112,13,114] .done) ?_ (h6:=List.Sublist.cons_cons _ (List.nil_sublist _)))|refine eU ?_|(show dn ..;refine aM da 0 hda rfl aa ?_)|(show gZ ..;(refine qQ (λR w' h=>by rw[<-hda];exact iO h.1.2.2.1) (j:=0) aa hv ?_))|refine vV ?_|(show nC ..;refine iZ ?_)|(show aJ _ 69 ..;(refine ru rfl [(6,.box ([.lp 0 0 0 0,aC o,.c (.bool sb)]) 129),(5,.box (cs n.cells) 41)] 83 0 1 80 81 82 c (q) vl 132 [.int .i64 (v)] 3 i (λ_=>v) iK sp hs.2 (z0).ok.aF F_ hi hsp hpl (λ_ _=>h64) Tryz.call132 (λR w' bb ee _ hh _=>yw w' bb ee (v) _ hh) rfl rfl rfl (λR w' h=>⟨⟨h.1.1.1.1,h.1.1.2⟩,trivial⟩) (iV w F) (λR w' h b hb=>((h).2 b hb).1) (λu hu iL=> ?_)))|(show aJ _ 68 [_,aC 4,_,_,_] ..;(refine dM [(6,.box ([.lp 0 0 0 0,aC o,.c (.bool sb)]) 129),(5,.box (cs n.cells) 41)] 0 1 86 87 88 c ((aS q u).1) vl iK [.lp 0 0 0 0,aC 4,aC (o),aC (0),aC ((aS q u).2)] _ _ _ _ Tryz.call68 rfl rfl rfl (λR w' h=>trivial) (iV w F) (λR w' h b hb=>((h.1).2 b hb).1) (λw' ρ' F' h'=>gQ c ((aS q u).1) vl 4 (o) (0) ((aS q u).2) FT w' ρ' F' h') (λ_ _=> ?_)))|refine a_ ?_|refine ag ?_ ?_<;>intro _)
  all_goals(conv=>whnf)
  have hS:=oU (s:=q) hu
  rw[hS]
  exact lH _ _ _ _ (eH (aS q u).1 4 o 0 (aS q u).2,((aS q u).1.code.length:Int)) [(2,some 92),(3,some 93),(4,some 94)] ⟨rfl,rfl,De (y_ z0.ok iL) _ _ _ _⟩ ay rfl rfl rfl rfl fE (λR w' h=>⟨h.1.1.2,lY h.1.1.1.1.1.2 h.1.2⟩)
theorem X9(c:fT)(s q:fu)(vl:List Int)(k:Nat)(m:Option Int)(n:ak)(i:Nat)(x v:Int)(sp:ax)(hP:aeM c q k n i sp)(hk:k<=599000)(hv:n.data.xs.getD 0 0=v)(h64:i64 v)(w:World)(ρ:Nat->SX.Loc)(F:Nat->Prop):
 LpW w ρ F c s vl 4 [(0,.lp 0 0 0 0),(2,aC i),(4,.lp 5 0 0 0),(7,aC x),(8,.lp 6 0 0 0)] ((6,.box (jK m) 129)::(5,.box (cs n.cells) 41)::yU c q vl 0 1 60 61 62) (lpF w F s c n q) 63 (pw4 c.aA (pw3 c.aA (q.pl,m) x) v sp.xs):=by
 obtain⟨hs,z0,_,hi,hsp,hpl,hd⟩:=hP
 rcases m with _|a
 ·iterate 2
   refine Wp.go bW rfl ?_
   repeat' ((conv=>whnf)<;>first|(show aJ _ 74 ..;(refine dM [(6,.box (jK none) 129),(5,.box (cs n.cells) 41)] 0 1 60 61 62 c q vl (iQ q.aF) [.lp 0 0 0 0,aC x] _ _ _ _ Tryz.call74 rfl rfl rfl (λR w' h=>h.1.1.1.1) (iV w F) (λR w' h b hb=>(h.2 b hb).1) (λw' ρ' F' h'=>We c q vl x hs.2 z0.ok.aF zn pW w' ρ' F' h') (λu ⟨hu,iL⟩=> ?_))))
  have e:pw3 c.aA (q.pl,none) x=((zeroV q u x).pl,(q.code.length:Int)):=Qg hu
  rw[e]
  exact Wp.into 83 [(80,some 65),(81,some 66),(82,some 67)] (ai8 c s (zeroV q u x) vl (k+2) q.code.length false n i x v sp ⟨hs,z0.zero iL x,by omega,hi,hsp,hpl,hd⟩ hv h64 w ρ F) ay ⟨rfl,rfl⟩ ⟨rfl,⟨rfl,rfl,rfl,rfl,rfl,trivial⟩,fE,λR w' h=>⟨⟨⟨⟨t_ h.1.1.1.1.1 (qX h.2),lY h.1.1.1.1.2 h.2⟩,h.1.1.1.2⟩,h.1.1.2⟩,h.1.2⟩⟩
 ·iterate 2
   refine Wp.go bW rfl ?_
   repeat' ((conv=>whnf)<;>first|fail)
  exact Wp.into 83 [(80,some 60),(81,some 61),(82,some 62)] (ai8 c s q vl k a true n i x v sp ⟨hs,z0,by omega,hi,hsp,hpl,hd⟩ hv h64 w ρ F) ay ⟨rfl,rfl⟩ ⟨rfl,⟨rfl,rfl,rfl,rfl,rfl,trivial⟩,fE,λR w' h=>h⟩
theorem afR(c:fT)(s q:fu)(vl:List Int)(k:Nat)(b:Int)(m:Option Int)(n:ak)(i:Nat)(x v:Int)(sp:ax)(hP:aeM c q k n i sp)(hk:k<=598000)(hv:n.data.xs.getD 0 0=v)(h64:i64 v)(hb:n.data.xs.getD 1 0=b)(adw:i64 b)(w:World)(ρ:Nat->SX.Loc)(F:Nat->Prop):
 LpW w ρ F c s vl 3 [(0,.lp 0 0 0 0),(2,aC i),(4,.lp 5 0 0 0),(7,aC x),(8,.lp 6 0 0 0)] ((6,.box (jK m) 129)::(5,.box (cs n.cells) 41)::yU c q vl 0 1 40 41 42) (lpF w F s c n q) 43 (pw4 c.aA (pw3 c.aA (pw2 c.aA (q.pl,m) x b sp.xs) x) v sp.xs):=by
 obtain⟨hs,z0,_,hi,hsp,hpl,hd⟩:=hP
 refine Wp.know (p:=∃a,n.data.base=some a) (λρ w' hw=>ae hw λR h=>aT (j:=0) (iO h.1.2.2.1) dS) ?_
 rintro⟨da,hda⟩
 unfold pw2
 by_cases h0:b=0
 ·rw[if_pos h0]
  iterate 4
   refine Wp.go bW rfl ?_
   repeat' ((conv=>whnf)<;>first|refine vT ?_|refine wG ?_|refine FB ?_|refine ag ?_ ?_<;>intro _)
  exact Wp.into 63 [(60,some 40),(61,some 41),(62,some 42)] (X9 c s q vl k m n i x v sp ⟨hs,z0,by omega,hi,hsp,hpl,hd⟩ aa hv h64 w ρ F) ay ⟨rfl,rfl⟩ ⟨rfl,⟨rfl,rfl,rfl,rfl,rfl,trivial⟩,fE,λR w' h=>h⟩
 rw[if_neg h0]
 by_cases h1:b=1
 ·rw[if_pos h1,<-Uv q m x]
  rcases m with _|a
  ·iterate 8
    refine Wp.go bW rfl ?_
    repeat' ((conv=>whnf)<;>first|refine vT ?_|refine wG ?_|refine sO ?_|(show nC ..;refine iZ ?_)|refine FB ?_|refine ag ?_ ?_<;>intro _)
   exact Wp.into 63 [(60,some 40),(61,some 41),(62,some 42)] (X9 c s q vl k (some x) n i x v sp ⟨hs,z0,by omega,hi,hsp,hpl,hd⟩ aa hv h64 w ρ F) ay ⟨rfl,rfl⟩ ⟨rfl,⟨rfl,rfl,rfl,rfl,rfl,trivial⟩,fE,λR w' h=>h⟩
  ·iterate 8
    refine Wp.go bW rfl ?_
    repeat' ((conv=>whnf)<;>first|refine vT ?_|refine wG ?_|refine sO ?_|(show cO _ 1 ..;refine mV [9,10] _ xE ?_)|(show nC ..;refine iZ ?_)|(show aJ _ 68 [_,aC 3,_,_,_] ..;(refine dM [(6,.box (jK (some a)) 129),(5,.box (cs n.cells) 41)] 0 1 40 41 42 c (q) vl iK [.lp 0 0 0 0,aC 3,aC (a),aC (x),aC (0)] _ _ _ _ Tryz.call68 rfl rfl rfl (λR w' h=>trivial) (iV w F) (λR w' h b hb=>((h).2 b hb).1) (λw' ρ' F' h'=>gQ c (q) vl 3 (a) (x) (0) EB w' ρ' F' h') (λ_ _=> ?_)))|refine FB ?_|refine ag ?_ ?_<;>intro _)
   exact Wp.into 63 [(60,some 45),(61,some 46),(62,some 47)] (X9 c s (eH q 3 a x 0) vl (k+1) (some q.code.length) n i x v sp ⟨hs,z0.lay 3 a x 0,by omega,hi,hsp,hpl,hd⟩ aa hv h64 w ρ F) ay ⟨rfl,rfl⟩ ⟨rfl,⟨rfl,rfl,rfl,rfl,rfl,trivial⟩,fE,λR w' h=>h.1⟩
 ·rw[if_neg h1]
  rcases m with _|a
  ·iterate 11
    refine Wp.go bW rfl ?_
    repeat' ((conv=>whnf)<;>first|refine vT ?_|refine wG ?_|refine sO ?_|refine vV ?_|(show nC ..;refine iZ ?_)|(show aJ _ 69 ..;(refine ru rfl [(6,.box (jK none) 129),(5,.box (cs n.cells) 41)] 43 0 1 40 41 42 c (q) vl 132 [.int .i64 (b)] 3 i (λ_=>b) iK sp hs.2 (z0).ok.aF F_ hi hsp hpl (λ_ _=>adw) Tryz.call132 (λR w' bb ee _ hh _=>yw w' bb ee (b) _ hh) rfl rfl rfl (λR w' h=>⟨⟨h.1.1.1.1,h.1.1.2⟩,trivial⟩) (iV w F) (λR w' h b hb=>((h).2 b hb).1) (λu hu iL=> ?_)))|(show aJ _ 68 [_,aC 5,_,_,_] ..;(refine dM [(6,.box (jK none) 129),(5,.box (cs n.cells) 41)] 0 1 46 47 48 c ((aS q u).1) vl iK [.lp 0 0 0 0,aC 5,aC (x),aC (0),aC ((aS q u).2)] _ _ _ _ Tryz.call68 rfl rfl rfl (λR w' h=>trivial) (iV w F) (λR w' h b hb=>((h.1).2 b hb).1) (λw' ρ' F' h'=>gQ c ((aS q u).1) vl 5 (x) (0) ((aS q u).2) FT w' ρ' F' h') (λ_ _=> ?_)))|refine FB ?_|refine ag ?_ ?_<;>intro _)
   have hS:=oU (s:=q) hu
   dsimp only
   rw[hS,sU,<-Uv]
   exact Wp.into 63 [(60,some 52),(61,some 53),(62,some 54)] (X9 c s (eH (aS q u).1 5 x 0 (aS q u).2) vl (k+2) (some (aS q u).1.code.length) n i x v sp ⟨hs,(z0.plain iL).lay 5 x 0 (aS q u).2,by omega,hi,hsp,hpl,hd⟩ aa hv h64 w ρ F) ay ⟨rfl,rfl⟩ ⟨rfl,⟨rfl,rfl,rfl,rfl,rfl,trivial⟩,fE,λR w' h=>⟨⟨⟨⟨t_ h.1.1.1.1.1.1 (qX h.1.2),lY h.1.1.1.1.1.2 h.1.2⟩,h.1.1.1.1.2⟩,h.1.1.1.2⟩,h.1.1.2⟩⟩
  ·iterate 11
    refine Wp.go bW rfl ?_
    repeat' ((conv=>whnf)<;>first|refine vT ?_|refine wG ?_|refine sO ?_|(show cO _ 1 ..;refine mV [9,10] _ xE ?_)|refine vV ?_|(show nC ..;refine iZ ?_)|(show aJ _ 69 ..;(refine ru rfl [(6,.box (jK (some a)) 129),(5,.box (cs n.cells) 41)] 43 0 1 40 41 42 c (q) vl 132 [.int .i64 (b)] 3 i (λ_=>b) iK sp hs.2 (z0).ok.aF F_ hi hsp hpl (λ_ _=>adw) Tryz.call132 (λR w' bb ee _ hh _=>yw w' bb ee (b) _ hh) rfl rfl rfl (λR w' h=>⟨⟨h.1.1.1.1,h.1.1.2⟩,trivial⟩) (iV w F) (λR w' h b hb=>((h).2 b hb).1) (λu hu iL=> ?_)))|(show aJ _ 68 [_,aC 5,_,_,_] ..;(refine dM [(6,.box (jK (some a)) 129),(5,.box (cs n.cells) 41)] 0 1 46 47 48 c ((aS q u).1) vl iK [.lp 0 0 0 0,aC 5,aC (x),aC (0),aC ((aS q u).2)] _ _ _ _ Tryz.call68 rfl rfl rfl (λR w' h=>trivial) (iV w F) (λR w' h b hb=>((h.1).2 b hb).1) (λw' ρ' F' h'=>gQ c ((aS q u).1) vl 5 (x) (0) ((aS q u).2) FT w' ρ' F' h') (λ_ _=> ?_)))|(show aJ _ 68 [_,aC 3,_,_,_] ..;(refine dM [(6,.box (jK (some a)) 129),(5,.box (cs n.cells) 41)] 0 1 52 53 54 c (eH (aS q u).1 5 x 0 (aS q u).2) vl iK [.lp 0 0 0 0,aC 3,aC (a),aC ((aS q u).1.code.length),aC (0)] _ _ _ _ Tryz.call68 rfl rfl rfl (λR w' h=>trivial) (iV w F) (λR w' h b hb=>((h.1.1).2 b hb).1) (λw' ρ' F' h'=>gQ c (eH (aS q u).1 5 x 0 (aS q u).2) vl 3 (a) ((aS q u).1.code.length) (0) (by have:=((z0.plain iL).lay 5 x 0 (aS q u).2).y9;omega) w' ρ' F' h') (λ_ _=> ?_)))|refine FB ?_|refine ag ?_ ?_<;>intro _)
   have hS:=oU (s:=q) hu
   dsimp only
   rw[hS,sU,<-Uv]
   exact Wp.into 63 [(60,some 57),(61,some 58),(62,some 59)] (X9 c s (eH (eH (aS q u).1 5 x 0 (aS q u).2) 3 a (aS q u).1.code.length 0) vl (k+3) (some (eH (aS q u).1 5 x 0 (aS q u).2).code.length) n i x v sp ⟨hs,((z0.plain iL).lay 5 x 0 (aS q u).2).lay 3 a (aS q u).1.code.length 0,by omega,hi,hsp,hpl,hd⟩ aa hv h64 w ρ F) ay ⟨rfl,rfl⟩ ⟨rfl,⟨rfl,rfl,rfl,rfl,rfl,trivial⟩,fE,λR w' h=>⟨⟨⟨⟨t_ h.1.1.1.1.1.1.1 (qX h.1.1.2),lY h.1.1.1.1.1.1.2 h.1.1.2⟩,h.1.1.1.1.1.2⟩,h.1.1.1.1.2⟩,h.1.1.1.2⟩⟩
theorem alH(c:fT)(q:fu)(vl:List Int)(a b:Int)(n:ak)(i:Nat)(x v:Int)(sp:ax)(hP:aeM c q 500000 n i sp)(hv:n.data.xs.getD 0 0=v)(h64:i64 v)(hb:n.data.xs.getD 1 0=b)(adw:i64 b)(ha:n.data.xs.getD 2 0=a)(anh:i64 a)(w:World)(ρ:Nat->SX.Loc)(F:Nat->Prop):
 LpW w ρ F c q vl 2 [(0,.lp 0 0 0 0),(2,aC i),(4,.lp 5 0 0 0),(7,aC x),(8,.lp 6 0 0 0)] ((6,.box (jK none) 129)::(5,.box (cs n.cells) 41)::yU c q vl 0 1 2 3 4) (lpF w F q c n q) 7 (pw4 c.aA (pw3 c.aA (pw2 c.aA (pw1 c.aA q.pl x a sp.xs) x b sp.xs) x) v sp.xs):=by
 obtain⟨hs,z0,_,hi,hsp,hpl,hd⟩:=hP
 refine Wp.know (p:=∃a,n.data.base=some a) (λρ w' hw=>ae hw λR h=>aT (j:=0) (iO h.1.2.2.1) dS) ?_
 rintro⟨da,hda⟩
 unfold pw1
 by_cases h0:a=0
 ·rw[if_pos h0]
  iterate 3
   refine Wp.go bW rfl ?_
   repeat' ((conv=>whnf)<;>first|(show dn ..;refine aM da 2 hda rfl aa ?_)|refine Gg ?_|refine FB ?_|refine ag ?_ ?_<;>intro _)
  exact Wp.into 43 [(40,some 2),(41,some 3),(42,some 4)] (afR c q q vl 500000 b none n i x v sp ⟨hs,z0,by omega,hi,hsp,hpl,hd⟩ aa hv h64 hb adw w ρ F) ay ⟨rfl,rfl⟩ ⟨rfl,⟨rfl,rfl,rfl,rfl,rfl,trivial⟩,fE,λR w' h=>h⟩
 rw[if_neg h0]
 by_cases h1:a=1
 ·rw[if_pos h1]
  iterate 9
   refine Wp.go bW rfl ?_
   repeat' ((conv=>whnf)<;>first|(show dn ..;refine aM da 2 hda rfl aa ?_)|refine Gg ?_|refine sO ?_|(show nC ..;refine iZ ?_)|(show aJ _ 68 [_,aC 6,_,_,_] ..;(refine dM [(6,.box (jK none) 129),(5,.box (cs n.cells) 41)] 0 1 2 3 4 c (q) vl iK [.lp 0 0 0 0,aC 6,aC (x),aC (x),aC (0)] _ _ _ _ Tryz.call68 rfl rfl rfl (λR w' h=>trivial) (iV w F) (λR w' h b hb=>((h).2 b hb).1) (λw' ρ' F' h'=>gQ c (q) vl 6 (x) (x) (0) EB w' ρ' F' h') (λ_ _=> ?_)))|refine FB ?_|refine ag ?_ ?_<;>intro _)
  exact Wp.into 43 [(40,some 9),(41,some 10),(42,some 11)] (afR c q (eH q 6 x x 0) vl 500001 b (some q.code.length) n i x v sp ⟨hs,z0.lay 6 x x 0,by omega,hi,hsp,hpl,hd⟩ aa hv h64 hb adw w ρ F) ay ⟨rfl,rfl⟩ ⟨rfl,⟨rfl,rfl,rfl,rfl,rfl,trivial⟩,fE,λR w' h=>h.1⟩
 ·rw[if_neg h1]
  iterate 12
   refine Wp.go bW rfl ?_
   repeat' ((conv=>whnf)<;>first|(show dn ..;refine aM da 2 hda rfl aa ?_)|refine Gg ?_|refine sO ?_|(show aJ _ 68 [_,aC 6,_,_,_] ..;(refine dM [(6,.box (jK none) 129),(5,.box (cs n.cells) 41)] 0 1 2 3 4 c (q) vl iK [.lp 0 0 0 0,aC 6,aC (x),aC (x),aC (0)] _ _ _ _ Tryz.call68 rfl rfl rfl (λR w' h=>trivial) (iV w F) (λR w' h b hb=>((h).2 b hb).1) (λw' ρ' F' h'=>gQ c (q) vl 6 (x) (x) (0) EB w' ρ' F' h') (λ_ _=> ?_)))|refine vV ?_|(show nC ..;refine iZ ?_)|(show aJ _ 69 ..;(refine ru rfl [(6,.box (jK none) 129),(5,.box (cs n.cells) 41)] 12 0 1 9 10 11 c (eH q 6 x x 0) vl 132 [.int .i64 (a)] 3 i (λ_=>a) iK sp hs.2 (z0.lay 6 x x 0).ok.aF (by have:=(z0.lay 6 x x 0).yF;omega) hi hsp hpl (λ_ _=>anh) Tryz.call132 (λR w' bb ee _ hh _=>yw w' bb ee (a) _ hh) rfl rfl rfl (λR w' h=>⟨⟨h.1.1.1.1.1,h.1.1.1.2⟩,trivial⟩) (iV w F) (λR w' h b hb=>((h.1).2 b hb).1) (λu hu iL=> ?_)))|(show aJ _ 68 [_,aC 5,_,_,_] ..;(refine dM [(6,.box (jK none) 129),(5,.box (cs n.cells) 41)] 0 1 15 16 17 c ((aS (eH q 6 x x 0) u).1) vl iK [.lp 0 0 0 0,aC 5,aC (q.code.length),aC (0),aC ((aS (eH q 6 x x 0) u).2)] _ _ _ _ Tryz.call68 rfl rfl rfl (λR w' h=>trivial) (iV w F) (λR w' h b hb=>((h.1.1).2 b hb).1) (λw' ρ' F' h'=>gQ c ((aS (eH q 6 x x 0) u).1) vl 5 (q.code.length) (0) ((aS (eH q 6 x x 0) u).2) (by have:=((z0.lay 6 x x 0).plain iL).y9;omega) w' ρ' F' h') (λ_ _=> ?_)))|refine FB ?_|refine ag ?_ ?_<;>intro _)
  have hS:=oU (s:=eH q 6 x x 0) hu
  rw[sU]
  dsimp only
  rw[hS]
  exact Wp.into 43 [(40,some 21),(41,some 22),(42,some 23)] (afR c q (eH (aS (eH q 6 x x 0) u).1 5 q.code.length 0 (aS (eH q 6 x x 0) u).2) vl 500003 b (some (aS (eH q 6 x x 0) u).1.code.length) n i x v sp ⟨hs,((z0.lay 6 x x 0).plain iL).lay 5 q.code.length 0 (aS (eH q 6 x x 0) u).2,by omega,hi,hsp,hpl,hd⟩ aa hv h64 hb adw w ρ F) ay ⟨rfl,rfl⟩ ⟨rfl,⟨rfl,rfl,rfl,rfl,rfl,trivial⟩,fE,λR w' h=>⟨⟨⟨⟨t_ h.1.1.1.1.1.1.1 (qX h.1.2),lY h.1.1.1.1.1.1.2 h.1.2⟩,h.1.1.1.1.1.2⟩,h.1.1.1.1.2⟩,h.1.1.1.2⟩⟩
end Go.Proofs.YtgndjjdeopfdkaaGreat

import Derived.Test.YtgndjjdeopfdkaaGreatKLowerMeans9b
/- texts MH MD of the proof of LowerMeansSaid -/
set_option maxHeartbeats 16000000
set_option maxRecDepth 20000
set_option linter.unusedVariables false
set_option linter.unusedSimpArgs false
namespace Go.Proofs.YtgndjjdeopfdkaaGreat
open Go.SX Go.RowKit
section
theorem WW{r:List Int}{k:Nat}{v:Int}{K:List (List Value)->Prop}(hk:k<r.length)(h:K (aZ (r.set k v))):dH (aZ r) k 0 [.int .i64 v] K:=by
 refine jq _ (eO hk) kQ ?_;have e:(aZ r).set k (cB [Value.int .i64 r[k]] 0 [.int .i64 v])=aZ (r.set k v):=by
  have e2:cB [Value.int .i64 r[k]] 0 [.int .i64 v]=[Value.int .i64 v]:=rfl;rw[e2];simp[aZ,alq]
 rw[e];exact h
def wy(n:ak)(t:List Int)(o i:Nat):Int:=if n.ai=9 then Q9 o i else zO n t o i
theorem oz(n:ak)(t:List Int)(o:Nat):(Bu n t o).length=(au t).toNat:=by simp[Bu]
variable {t:List Int} {o i:Nat}
theorem adk{n:ak}(h:i<(au t).toNat):(Bu n t o).take (i+1)=(Bu n t o).take i++[wy n t o i]:=by
 rw[ajP (by rw[oz];exact h)];simp[Bu,wy]
theorem G_{l:List Int}(h:∀x∈l,i64 x)(k:Nat):i64 (l.getD k 0):=by
 rcases ack k l.length with g|g
 ·have e:l.getD k 0=l[k]:=by simp[List.getD,g]
  rw[e];exact h _ (aby g)
 ·have e:l.getD k 0=0:=by simp[List.getD,g]
  rw[e];exact⟨by decide,by decide⟩
theorem af8{n:ak}(hd:∀x∈n.data.xs,i64 x)(t:List Int)(o i:Nat):i64 (wy n t o i):=by
 have z:i64 0:=⟨by decide,by decide⟩;have one:i64 1:=⟨by decide,by decide⟩;unfold wy Q9 zO;split
 ·split<;>assumption
 ·split
  ·exact G_ hd _
  ·split
   ·simp only;split
    ·exact z
    ·exact G_ hd _
   ·split<;>assumption
theorem acm{n:ak}(hb:∀x∈n.aQ.xs,i64 x)(cnt o:Nat):i64 (dV n cnt o):=by
 unfold dV;split
 ·exact G_ hb _
 ·split
  ·exact G_ hb _
  ·exact⟨by decide,by decide⟩
structure mU(n:ak)(t:List Int)(cnt o i:Nat)(L:List iR):Prop where
 len:L.length=cnt
 each:∀p∈L,RIs p
 fits:∀p∈L,(∀x∈p.2,i64 x)/\p.2.length<=1000000
 is:∀k,k<cnt->(L.map Prod.snd).getD k []=if k<o then Bu n t k else if k=o then(Bu n t o).take i else []
theorem mU.start(n:ak)(t:List Int)(cnt:Nat):mU n t cnt 0 0 (Cb cnt):=⟨by simp[Cb],λp hp=> .inl Ns,λp hp=>by rw[(anB.1 hp).2];exact⟨λx hx=>(by cases hx),aae _⟩,λk hk=>by
 rw[Vy];simp only[List.getD,amT];simp[hk]⟩
variable {cnt:Nat} {L:List iR}
theorem mU.next{n:ak}(h:mU n t cnt o (au t).toNat L):mU n t cnt (o+1) 0 L:=⟨h.len,h.each,h.fits,λk hk=>by
 rw[h.is k hk];by_cases g:k<o
 ·rw[if_pos g,if_pos aa]
 ·rw[if_neg g];by_cases g2:k=o
  ·rw[if_pos g2,if_pos aa,g2,aen (by rw[oz];exact Tw _)]
  ·rw[if_neg g2,if_neg aa];simp⟩
theorem mU.push{n:ak}{q:iR}{l':SX.Loc}(h:mU n t cnt o i L)(hd:∀x∈n.data.xs,i64 x)(hi:i<(au t).toNat)(ajo:i<=64)(hq:L[o]? =some q)(hl:∃b off,l'.base=some ⟨b,off,none⟩)(hcap:q.2.length+1<=l'.cap):mU n t cnt o (i+1) (L.set o (l',q.2++[wy n t o i])):=by
 have ho:o<L.length:=(abH.1 hq).1;have hq2:q.2=(Bu n t o).take i:=by
  have:=h.is o (by rw[<-h.len];exact ho);rw[H6 hq,if_neg (Nat.lt_irrefl o),if_pos rfl]at this;exact this
 have Tn:q.2.length=i:=by rw[hq2,aek,oz];omega
 refine⟨by rw[ajc];exact h.len,λp hp=> ?_,λp hp=> ?_,λk hk=> ?_⟩
 ·rcases anz hp with hp|hp
  ·exact h.each p hp
  ·rw[hp];exact .inr ⟨hl,by simp,by simpa using hcap⟩
 ·rcases anz hp with hp|hp
  ·exact h.fits p hp
  ·rw[hp];refine⟨λx hx=> ?_,by simp;omega⟩;rcases aeh.1 hx with hx|hx
   ·exact(h.fits q (adu hq)).1 x hx
   ·rw[afe.1 hx];exact af8 hd t o i
 ·rw[alq];by_cases e:o=k
  ·subst e;rw[if_neg (Nat.lt_irrefl o),if_pos rfl,adk hi,<-hq2];simp[List.getD,ho]
  ·have:=h.is k hk;have e2:((L.map Prod.snd).set o (l',q.2++[wy n t o i]).2).getD k []=(L.map Prod.snd).getD k []:=by simp[List.getD,amy e]
   rw[e2,this];by_cases g:k<o
   ·rw[if_pos g,if_pos g]
   ·rw[if_neg g,if_neg g,if_neg (λe'=>e e'.symm),if_neg (λe'=>e e'.symm)]
structure Bc(n:ak)(cnt o:Nat)(bs:List Int):Prop where
 len:bs.length=cnt
 is:∀k,k<cnt->bs.getD k 0=if k<o then dV n cnt k else 0
variable {bs:List Int}
theorem Bc.next{n:ak}(h:Bc n cnt o bs)(ho:o<cnt):Bc n cnt (o+1) (bs.set o (dV n cnt o)):=by
 refine⟨by rw[ajc];exact h.len,λk hk=> ?_⟩;by_cases e:o=k
 ·subst e;rw[if_pos (amD o)];simp[List.getD,h.len,ho]
 ·have:=h.is k hk;have e2:(bs.set o (dV n cnt o)).getD k 0=bs.getD k 0:=by simp[List.getD,amy e]
  rw[e2,this];by_cases g:k<o
  ·rw[if_pos g,if_pos aa]
  ·rw[if_neg g,if_neg aa]
theorem Bc.done{n:ak}(h:Bc n cnt cnt bs):bs=(List.range cnt).map (dV n cnt):=by
 apply alQ
 ·simp[h.len]
 ·intro k h1 h2;have hk:k<cnt:=by rw[<-h.len];exact h1
  have:=h.is k hk;rw[if_pos hk]at this;simp[List.getD,h1]at this;simp[this]
theorem mU.done{n:ak}(h:mU n t cnt cnt 0 L):L.map Prod.snd=yu n t cnt:=by
 apply alQ
 ·simp[yu,h.len]
 ·intro k h1 h2;have hk:k<cnt:=by rw[<-h.len];simpa using h1
  have:=h.is k hk;rw[if_pos hk]at this;have e:(yu n t cnt)[k]=Bu n t k:=by simp[yu]
  rw[e,<-this];simp[List.getD,h.len,hk]
theorem aaj(w:World)(n:ak)(t:ax)(hn:n.ok w)(hsm:n.small)(ht:t.ok w)(hok:sW n t):Calls Tryz.prog 63 #[n.p9,t.val] w (yY w (pu n t)):=by
 obtain⟨s,hsh,hcs,hR⟩:=aaS hok;have hcnt:=hR.place.few;have hsz:=hR.size;have heb:=(dN t.xs).2;rw[pu,if_pos hok];obtain⟨cnt,hce⟩:∃c,zw n t=c:=⟨_,rfl⟩;rw[hce]at hcs hR hcnt|-
 obtain⟨E,hE⟩:∃E:Nat,au t.xs=E:=⟨(au t.xs).toNat,by omega⟩;have ha:=hok.2.1;have hk:=hok.1;have hkk:=hk;unfold eF at hk;refine fH Tryz.func63 [.agg (vo n),.c t.val] ?_
 (repeat' ((conv=>whnf)<;>first|refine Wp.go bW rfl ?_|refine Ib ?_|refine Hz ?_|refine ag ?_ ?_<;>intro _))
 all_goals first|(exfalso;omega)|skip
 all_goals
  (repeat' ((conv=>whnf)<;>first|refine Wp.go bW rfl ?_|refine Ib ?_|refine Hz ?_|refine ag ?_ ?_<;>intro _))
  refine sH 0 (λ_ _ _ _ hb=>absurd hb (ahf _)) (λl1 hl1=> ?_)
  (repeat' ((conv=>whnf)<;>first|(show aJ _ 24 ..;(refine Ym (f:=24) (zB n t) Tryz.call24 (λρ w' hw=>by have:=qE w' ⟨l1.base,l1.cap,[inpN t,n],1⟩ (ae hw λR h=>aeN (hn.later h.1) hsm (ht.later h.1) h.2);rw[abn]at this;exact this) (λhne=>absurd hok.2.2 hne) (λhe sv hm hsv hsb=> ?_)))|(show @iG _ _ _;(first|refine gJ aa ?_|refine jc (λh=>h rfl) ?_|refine jc (λh=>h ha) ?_))|refine Wp.go bW rfl ?_))
  rw[hsh]at hm;obtain⟨vb,vc,vl⟩:=sv;obtain⟨u0,u1,rfl,hu0,hu1⟩:∃u v,vl=[u,v]/\u.xs=t.xs/\v.xs=s:=by
   have h2:vl.length=2:=by have:=congrArg List.length hm;simpa using this
   match vl,h2,hm with
   |[u,v],_,h=>exact⟨u,v,rfl,by simpa using(List.cons.inj h).1,by simpa using(List.cons.inj (List.cons.inj h).2).1⟩
  obtain⟨va,rfl⟩:∃a,vb=some a:=hsb (show 0<2 by decide)
  (repeat' ((conv=>whnf)<;>first|(show dn ..;refine aM va 1 rfl rfl (show 1<2 by decide) ?_)|(show gZ ..;refine bN (λR w' h=>bf h.2.1) [u1.val] u1.val rfl rfl ?_)|(show aJ _ 61 ..;(refine aR (f:=61) Tryz.call61 (.int .i64 (cnt:Nat)) (λρ w' hw=>by have:=nS w' u1.base u1.cap u1.xs (ae hw λR h=>bf (h.2.2 u1 aj));rw[show au u1.xs=(cnt:Int) by rw[hu1];exact hcs]at this;exact this) ?_))|(show pg ..;(first|refine lD cnt rfl rfl Fv aa ?_|refine lD cnt rfl rfl mE aa ?_))|(show cO _ 14 ..;refine mV [] _ akW ?_)|refine Wp.go bW rfl ?_|refine XD ?_|refine lS ?_|refine And.intro ?_ ?_))
  all_goals(conv=>whnf)
 all_goals
  refine Wp.grp 3 cnt ?_;first
  |refine Wp.loop (σ:=Nat×List iR×List Int) 9 (λx=>[(1,.c t.val),(10,.lp 3 0 0 0),(11,.fn (.func 124) [.agg [aC n.ai,aC n.a,aC n.b,.c n.az.val,aC n.lo,aC n.hi,aC n.size,.c n.data.val,.c n.aQ.val,.c t.val]] []),(12,aC (cnt:Nat)),(13,.os 7 cnt),(14,.os 8 cnt),(55,aC (cnt:Nat)),(56,aC x.1)]) (λx=>[(3,.box [aC n.ai,aC n.a,aC n.b,.c n.az.val,aC n.lo,aC n.hi,aC n.size,.c n.data.val,.c n.aQ.val,.c t.val] 158),(7,.rows (iM x.2.1) 1 32),(6,.ext (o_ 3 (nK x.2.1))),(8,.rows (aZ x.2.2) 1 3)]) (λ_=>aU w)
    (λx=>x.1<=cnt/\mU n t.xs cnt x.1 0 x.2.1/\Bc n cnt x.1 x.2.2) (λx=>cnt-x.1) (0,Cb cnt,List.replicate cnt 0) [(7,some 5),(8,some 4)] ay (λ_=>⟨rfl,rfl⟩)
    ⟨aae _,mU.start n t.xs cnt,by simp,λk hk=>by simp only[List.getD,amT];simp[hk]⟩ ⟨rfl,⟨rfl,rfl,rfl,rfl,rfl,rfl,rfl,rfl,trivial⟩,?_,λ_ _ h=>h.1.1⟩ ?_
  |refine Wp.loop (σ:=Nat×List iR×List Int) 9 (λx=>[(1,.c t.val),(10,.lp 3 0 0 0),(11,.fn (.func 124) [.agg [aC n.ai,aC n.a,aC n.b,.c n.az.val,aC n.lo,aC n.hi,aC n.size,.c n.data.val,.c n.aQ.val,.c t.val]] []),(12,aC (cnt:Nat)),(13,.os 7 cnt),(14,.os 8 cnt),(55,aC (cnt:Nat)),(56,aC x.1)]) (λx=>[(3,.box [aC n.ai,aC n.a,aC n.b,.c n.az.val,aC n.lo,aC n.hi,aC n.size,.c n.data.val,.c n.aQ.val,.c t.val] 158),(7,.rows (iM x.2.1) 1 32),(6,.ext (o_ 3 (nK x.2.1))),(8,.rows (aZ x.2.2) 1 3)]) (λ_=>aU w)
    (λx=>x.1<=cnt/\mU n t.xs cnt x.1 0 x.2.1/\Bc n cnt x.1 x.2.2) (λx=>cnt-x.1) (0,Cb cnt,List.replicate cnt 0) [(7,some 4),(8,some 5)] ay (λ_=>⟨rfl,rfl⟩)
    ⟨aae _,mU.start n t.xs cnt,by simp,λk hk=>by simp only[List.getD,amT];simp[hk]⟩ ⟨rfl,⟨rfl,rfl,rfl,rfl,rfl,rfl,rfl,rfl,trivial⟩,?_,λ_ _ h=>h.1.1⟩ ?_
  ·show lI _ _ [(3,.box [aC n.ai,aC n.a,aC n.b,.c n.az.val,aC n.lo,aC n.hi,aC n.size,.c n.data.val,.c n.aQ.val,.c t.val] 158),(7,.rows (iM (Cb cnt)) 1 32),(6,.ext (o_ 3 (nK (Cb cnt)))),(8,.rows (aZ (List.replicate cnt 0)) 1 3)];rw[Ru,Vu,show aZ (List.replicate cnt 0)=List.replicate cnt [Value.int .i64 0] by simp[aZ]];exact fE
  rintro⟨o,L,bs⟩ ⟨ho,hL,hB⟩;dsimp only at ho hL hB;by_cases hoc:o<cnt
  ·have hwb:∀(w':World),n.ok w'->Calls Tryz.prog 125 #[ou n t,.int .i64 o,.int .i64 cnt] w' λe w2=>e= .returned (.int .i64 (dV n cnt o))/\Ext w' w2:=λw' hn'=>ahO w' n t s cnt hR hn' o hoc
   (repeat' ((conv=>whnf)<;>first|(show aJ _ 125 ..;refine aR (f:=125) Tryz.call125 (.int .i64 (dV n cnt o)) (λρ w' hw=>hwb w' (ae hw λR h=>hn.later h)) ?_)|(show eP ..;(refine bY o rfl hoc (amL (by rw[aP];exact hB.len.symm)) ?_))|(show dH ..;refine WW (Nat.lt_of_lt_of_eq hoc hB.len.symm) ?_)|(show aJ _ 61 ..;(refine aR (f:=61) Tryz.call61 (.int .i64 (E:Nat)) (λρ w' hw=>by have:=nS w' t.base t.cap t.xs (ae hw λR h=>aH h ht.rows);rw[hE]at this;exact this) ?_))|refine Wp.go bW rfl ?_|refine Ib ?_|refine Hz ?_|refine ag ?_ ?_<;>intro _))
   all_goals(conv=>whnf)
   have hB':=hB.next hoc
   clear hB;obtain⟨bs',hbs⟩:∃b,bs.set o (dV n cnt o)=b:=⟨_,rfl⟩;rw[hbs]at hB'|-
   have hEt:(au t.xs).toNat=E:=by rw[hE];rfl
   refine Wp.loop (σ:=Nat×List iR) 9 (λx=>[(1,.c t.val),(10,.lp 3 0 0 0),(11,.fn (.func 124) [.agg [aC n.ai,aC n.a,aC n.b,.c n.az.val,aC n.lo,aC n.hi,aC n.size,.c n.data.val,.c n.aQ.val,.c t.val]] []),(12,aC (cnt:Nat)),(13,.os 7 cnt),(14,.os 8 cnt),(55,aC (cnt:Nat)),(56,aC o),(15,aC o),(67,aC (E:Nat)),(68,aC x.1)]) (λx=>[(3,.box [aC n.ai,aC n.a,aC n.b,.c n.az.val,aC n.lo,aC n.hi,aC n.size,.c n.data.val,.c n.aQ.val,.c t.val] 158),(7,.rows (iM x.2) 1 32),(6,.ext (o_ 3 (nK x.2))),(8,.rows (aZ bs') 1 3)]) (λ_=>aU w)
    (λx=>x.1<=E/\mU n t.xs cnt o x.1 x.2) (λx=>E-x.1) (0,L) [] ay (λ_=>⟨rfl,rfl⟩) ⟨aae _,hL⟩ ⟨rfl,⟨rfl,rfl,rfl,rfl,rfl,rfl,rfl,rfl,rfl,rfl,rfl,trivial⟩,fE,λ_ _ h=>h⟩ ?_
   clear hL;rintro⟨i,M⟩ ⟨hi,hM⟩;dsimp only at hi hM;by_cases hiE:i<E
   ·have hww:∀(w':World),n.ok w'->t.ok w'->Calls Tryz.prog 124 #[ou n t,.int .i64 o,.int .i64 i] w' λe w2=>e= .returned (.int .i64 (wy n t.xs o i))/\Ext w' w2:=λw' hn' ht'=>ZI w' n t s cnt hR hn' ht' o i hoc (by rw[hE];omega);have hoM:o<M.length:=by rw[hM.len];exact hoc
    have hdl:=He M;obtain⟨q,hq⟩:∃q,M[o]? =some q:=⟨_,YL hoM⟩;have hqm:=adu hq;have hq2:q.2=(Bu n t.xs o).take i:=by
     have:=hM.is o hoc;rw[H6 hq,if_neg (Nat.lt_irrefl o),if_pos rfl]at this;exact this
    have Tn:q.2.length=i:=by rw[hq2,aek,oz];omega
    have hpush:=λl'=>hM.push (l':=l') hn.data.fits (by rw[hEt];exact hiE) aa hq;rcases hM.each q hqm with⟨e1,e2⟩|⟨⟨b,off,e1⟩,e2,e3⟩
    ·obtain⟨ql,qv⟩:=q;simp only at e1 e2;subst e1 e2
     (repeat' ((conv=>whnf)<;>first|(show cO _ 22 ..;refine mV [13] _ aiU ?_ (h6:=aei _ (aei _ (aej _ (af7 _)))))|(show mW ..;(first|refine ed (aej _ (aei _ (aei _ (aej _ (af7 _))))) (λ_ _ h=>h) ?_|refine ed (aei _ (aei _ (aej _ (af7 _)))) (λ_ _ h=>h) ?_))|(show aJ _ 124 ..;refine aR (f:=124) Tryz.call124 (.int .i64 (wy n t.xs o i)) (λρ w' hw=>hww w' (ae hw λR h=>hn.later h) (ae hw λR h=>ht.later h)) ?_)|(show eP ..;refine bY o rfl hoc (amL (hdl.trans hM.len).symm) ?_)|(show rQ ..;refine row_of _ _ (tq hq) rfl ?_)|refine Wp.go bW rfl ?_|refine Ib ?_|refine Hz ?_|refine ag ?_ ?_<;>intro _))
     refine lS ?_
     (repeat' ((conv=>whnf)<;>first|(show mW ..;(first|refine ed (aej _ (aei _ (aei _ (aej _ (af7 _))))) (λ_ _ h=>h) ?_|refine ed (aei _ (aei _ (aej _ (af7 _)))) (λ_ _ h=>h) ?_))|(show Gn ..;refine mg (Tw _) ?_)|(show jv ..;refine fU (show 1*8<=140737488355328 by decide) ?_)))
     all_goals(conv=>whnf)
     refine Te (T:=3) (g:=6) (d:=o) (us:=[]) (l0:=⟨none,0⟩) (L:=nK M) (vs:=[.int .i64 (wy n t.xs o i)]) ?_ (H8 hq) rfl rfl rfl Nat.zero_lt_one (λl' hlc hlb=> ?_)
     ·exact aj
     have hp:=hpush l' hlb hlc;have er:iM (M.set o (l',[]++[wy n t.xs o i]))=(iM M).set o [.slice l'.base 1 l'.cap]:=by rw[yJ];rfl
     have eg:nK (M.set o (l',[]++[wy n t.xs o i]))=(nK M).set o (l',[.int .i64 (wy n t.xs o i)]):=by rw[Ic];rfl
     (repeat' ((conv=>whnf)<;>first|(show mW ..;(first|refine ed (aej _ (aei _ (aei _ (aej _ (af7 _))))) (λ_ _ h=>h) ?_|refine ed (aei _ (aei _ (aej _ (af7 _)))) (λ_ _ h=>h) ?_))|(show dH ..;(refine jq _ (tq hq) kQ ?_))|(show eP ..;refine bY o rfl hoc (amL (hdl.trans hM.len).symm) ?_)|refine Wp.go bW rfl ?_|refine mh ?_|refine lS ?_))
     all_goals(conv=>whnf)
     refine⟨(i+1,M.set o (l',[]++[wy n t.xs o i])),[],⟨hiE,hp⟩,by show E-(i+1)<E-i;omega,rfl,fE,?_,λ_ _ h=>h⟩;show lI [] _ [(3,.box [aC n.ai,aC n.a,aC n.b,.c n.az.val,aC n.lo,aC n.hi,aC n.size,.c n.data.val,.c n.aQ.val,.c t.val] 158),(7,.rows (iM (M.set o (l',[]++[wy n t.xs o i]))) 1 32),(6,.ext (o_ 3 (nK (M.set o (l',[]++[wy n t.xs o i]))))),(8,.rows (aZ bs') 1 3)];rw[eg,er];exact fE
    ·obtain⟨ql,qv⟩:=q;simp only at e1 e2 e3 Tn;have hrow:(iM M)[o]? =some [.slice (some ⟨b,off,none⟩) i ql.cap]:=by rw[tq hq,Nj,e1,Tn]
     (repeat' ((conv=>whnf)<;>first|(show cO _ 22 ..;refine mV [13] _ aiU ?_ (h6:=aei _ (aei _ (aej _ (af7 _)))))|(show mW ..;(first|refine ed (aej _ (aei _ (aei _ (aej _ (af7 _))))) (λ_ _ h=>h) ?_|refine ed (aei _ (aei _ (aej _ (af7 _)))) (λ_ _ h=>h) ?_))|(show aJ _ 124 ..;refine aR (f:=124) Tryz.call124 (.int .i64 (wy n t.xs o i)) (λρ w' hw=>hww w' (ae hw λR h=>hn.later h) (ae hw λR h=>ht.later h)) ?_)|(show eP ..;refine bY o rfl hoc (amL (hdl.trans hM.len).symm) ?_)|(show rQ ..;refine row_of _ _ hrow rfl ?_)|refine Wp.go bW rfl ?_|refine Ib ?_|refine Hz ?_|refine ag ?_ ?_<;>intro _))
     all_goals(conv=>whnf)
     refine lS ?_
     (repeat' ((conv=>whnf)<;>first|(show mW ..;(first|refine ed (aej _ (aei _ (aei _ (aej _ (af7 _))))) (λ_ _ h=>h) ?_|refine ed (aei _ (aei _ (aej _ (af7 _)))) (λ_ _ h=>h) ?_))|(show Gn ..;refine mg (Tw _) ?_)))
     all_goals(conv=>whnf)
     obtain⟨ii,hii,hi0,hi1,hi2⟩:=info_parts ab1;refine⟨.inr ?_⟩;refine agd (T:=3) (xe:=3) (g:=6) (d:=o) (L:=nK M) (l:=ql) (vs:=qv.map (Value.int .i64)) (v:= .int .i64 (wy n t.xs o i)) (b:=b) (off:=off) (i:=ii) (z:= .int .i64 0) Tryz.underlying32 Tryz.underlying32 hii hi0 hi1 hi2 rfl ?_ (H8 hq) e1 (by rw[aas];exact e3) vZ (λu hu=>by obtain⟨x,_,rfl⟩:=abl.1 hu;rfl) rfl i (by rw[aas];exact Tn.symm) ql.cap rfl (λl' hlc hlb=> ?_)
     ·exact aj
     rw[aas]at hlc;rw[aas,Tn];have hp:=hpush l' hlb hlc;have er:iM (M.set o (l',qv++[wy n t.xs o i]))=(iM M).set o [.slice l'.base (i+1) l'.cap]:=by rw[yJ];simp[Nj,Tn]
     have eg:nK (M.set o (l',qv++[wy n t.xs o i]))=(nK M).set o (l',qv.map (Value.int .i64)++[.int .i64 (wy n t.xs o i)]):=by rw[Ic];simp
     (repeat' ((conv=>whnf)<;>first|(show mW ..;(first|refine ed (aej _ (aei _ (aei _ (aej _ (af7 _))))) (λ_ _ h=>h) ?_|refine ed (aei _ (aei _ (aej _ (af7 _)))) (λ_ _ h=>h) ?_))|(show dH ..;(refine jq _ (tq hq) kQ ?_))|(show eP ..;refine bY o rfl hoc (amL (hdl.trans hM.len).symm) ?_)|refine Wp.go bW rfl ?_|refine mh ?_|refine lS ?_))
     all_goals(conv=>whnf)
     refine⟨(i+1,M.set o (l',qv++[wy n t.xs o i])),[],⟨hiE,hp⟩,by show E-(i+1)<E-i;omega,rfl,fE,?_,λ_ _ h=>h⟩;show lI [] _ [(3,.box [aC n.ai,aC n.a,aC n.b,.c n.az.val,aC n.lo,aC n.hi,aC n.size,.c n.data.val,.c n.aQ.val,.c t.val] 158),(7,.rows (iM (M.set o (l',qv++[wy n t.xs o i]))) 1 32),(6,.ext (o_ 3 (nK (M.set o (l',qv++[wy n t.xs o i]))))),(8,.rows (aZ bs') 1 3)];rw[eg,er];exact fE
   ·(repeat' ((conv=>whnf)<;>first|refine Wp.go bW rfl ?_|refine Ib ?_|refine Hz ?_|refine mh ?_|refine ag ?_ ?_<;>intro _))
    all_goals(conv=>whnf)
    have hie:i=E:=by omega
    rw[hie,<-hEt]at hM;exact⟨(o+1,M,bs'),[],⟨hoc,hM.next,hB'⟩,by show cnt-(o+1)<cnt-o;omega,rfl,fE,fE,λ_ _ h=>h⟩
  ·(repeat' ((conv=>whnf)<;>first|refine Wp.go bW rfl ?_|refine Ib ?_|refine Hz ?_|refine mh ?_|refine ag ?_ ?_<;>intro _))
   all_goals(conv=>whnf)
   have hoe:o=cnt:=by omega
   rw[hoe]at hL hB;exact afE (i:=7) (g:=6) (j:=8) (λ_ _ h=>h) rfl hL.each hL.fits hL.len.symm hB.len.symm (λx hx=>by rw[hB.done]at hx;obtain⟨k,_,rfl⟩:=abl.1 hx;exact acm hn.aQ.fits cnt k) (by rw[hB.len];omega) aj aj aj (by rw[hL.done,<-hB.done])
theorem VL(w:World)(n:ak)(t:ax)(hn:n.ok w)(hsm:n.small)(ht:t.ok w):Calls Tryz.prog 63 #[n.p9,t.val] w (yY w (pu n t)):=by
 by_cases hok:sW n t
 ·exact aaj w n t hn hsm ht hok
 ·exact aax w n t hn hsm ht hok
end
end Go.Proofs.YtgndjjdeopfdkaaGreat

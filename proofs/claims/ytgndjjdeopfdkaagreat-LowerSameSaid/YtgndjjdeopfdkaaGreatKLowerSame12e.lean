import Derived.Test.YtgndjjdeopfdkaaGreatKLowerSame12d
/- texts WJ VA of the proof of LowerSameSaid -/
set_option maxHeartbeats 16000000
set_option maxRecDepth 20000
set_option linter.unusedVariables false
set_option linter.unusedSimpArgs false
namespace Go.Proofs.YtgndjjdeopfdkaaGreat
open Go.SX Go.RowKit
theorem ah1{sh df:List (List Int)}{st:List Nat}{n:aN}{V W:List (List Int)}(h1:n.ai≠1)(hA:n.ai≠2->gD df (st.getD n.a.toNat 0)=gD sh n.a.toNat/\W.getD (st.getD n.a.toNat 0) []=V.getD n.a.toNat [])(hB:n.ai=6->W.getD (st.getD n.b.toNat 0) []=V.getD n.b.toNat [])(cnt:Nat):
 gH (bu st n).fo cnt (gD df (bu st n).a.toNat) (W.getD (bu st n).a.toNat []) (W.getD (bu st n).b.toNat [])=gH n.fo cnt (gD sh n.a.toNat) (V.getD n.a.toNat []) (V.getD n.b.toNat []):=by
 obtain⟨e0,ek,ea,_,eb,_⟩:=lU st n
 rw[e0,SG]
 by_cases h2:n.ai=2
 ·exact yI (n:=n.fo) h2 _ _ _ _ _ _ _
 ·rw[ea h1 h2,Int.toNat_natCast,(hA h2).1,(hA h2).2]
  by_cases h6:n.ai=6
  ·rw[eb h6,Int.toNat_natCast,hB h6]
  ·exact tF (n:=n.fo) h6 _ _ _ _ _
structure U6(row:List aN)(df:List (List Int))(dU:List Sp)(need:Nat->Bool)(inp V:List (List Int))(i:Nat)(r:List aN)(p:List Nat)(uD:List (List Int))(uL:List Sp)(ip W:List (List Int)):Prop where
 at_:uj row df dU need i r p
 ok:dD r uD uL
 place:∀k,k<i->lq row need k->gD uD (p.getD k 0)=gD df k/\tight (gS uL (p.getD k 0)) (gS dU k)
 run:jB uD (r.map aN.fo) [] ip W
 rest:∃ip2,inp=ip++ip2/\jB df ((row.drop i).map aN.fo) (V.take i) ip2 (V.drop i)
 vals:∀k,k<i->lq row need k->W.getD (p.getD k 0) []=V.getD k []
theorem U6.step{row:List aN}{df:List (List Int)}{dU:List Sp}{need:Nat->Bool}{inp V:List (List Int)}{i:Nat}{r:List aN}{p:List Nat}{uD:List (List Int)}{uL:List Sp}{ip W:List (List Int)}(hR:dD row df dU)(hcl:∀k,k<row.length->need k=true->∀t∈eX (row.getD k dh),need t.toNat=true)(hV:V.length=row.length)(h:U6 row df dU need inp V i r p uD uL ip W)(hi:i<row.length):∃r' p' anT anQ ip2 W2,U6 row df dU need inp V (i+1) r' p' anT anQ ip2 W2:=by
 obtain⟨h1,hR',h7,hrun,⟨ip2,e1,hrest⟩,BJ⟩:=h
 have hs:=h1.steps hR hcl hi
 have hlen:=h1.len
 have h4:=h1.at_
 subst hlen
 have hp:=getD_some hi
 have hai:=hR.ahead hp
 have hiV:p.length<V.length:=by omega
 rw[XV hp,O4 hiV]at hrest
 have hWl:=hrun.len
 rw[List.length_map]at hWl
 have hl2:=hR'.oK
 have hl3:=hR'.UT
 have hlt:∀k,k<p.length->lq row need k->p.getD k 0<r.length:=λk hk hq=>(List.getElem?_eq_some_iff.1 (h4 k hk hq)).1
 by_cases hk:lq row need p.length
 ·have hc:=hs.1 hk
  have hkt:(row.getD p.length dh).ai≠1->∀t∈eX (row.getD p.length dh),lq row need t.toNat:=λhne t ht=> .inl (hcl _ hi (hk.resolve_right hne) t ht)
  obtain⟨hm,ht⟩:=Wy (st:=p) hR hR' hp
   (λg1 g2=>by
     have ha:=hai.a1 g1 g2
     have hq:=hkt g1 _ (xS g1 g2)
     exact⟨by rw[hl2];exact hlt _ ha hq,(h7 _ ha hq).1,(h7 _ ha hq).2⟩)
   (λg6=>by
     have hb:=hai.b1 g6
     have hq:=hkt aa _ (Dt g6)
     exact⟨by rw[hl2];exact hlt _ hb hq,(h7 _ hb hq).1,(h7 _ hb hq).2⟩)
  have ad5:=(hR.span _ _ hp).2
  have hR2:=hR'.snoc hm kP kP
  have hpl:∀k,k<p.length+1->lq row need k->gD (uD++[gD df p.length]) ((p++[r.length]).getD k 0)=gD df k/\tight (gS (uL++[jk (bu p (row.getD p.length dh)) (gD df p.length) uD uL]) ((p++[r.length]).getD k 0)) (gS dU k):=λk hk1 hk2=>by
   rcases Nat.lt_or_ge k p.length with hlk|hge
   ·have hlr:=hlt k hlk hk2
    rw[gV hlk,tX aa,zU aa]
    exact h7 k hlk hk2
   ·obtain rfl:k=p.length:=by omega
    rw[mY rfl,vG aa,Dz aa]
    exact⟨rfl,ht⟩
  have hvs:∀x,x=V.getD p.length []->∀k,k<p.length+1->lq row need k->(W++[x]).getD ((p++[r.length]).getD k 0) []=V.getD k []:=λx hx k hk1 hk2=>by
   rcases Nat.lt_or_ge k p.length with hlk|hge
   ·rw[gV hlk,PS (by rw[hWl];exact hlt k hlk hk2)]
    exact BJ k hlk hk2
   ·obtain rfl:k=p.length:=by omega
    rw[mY rfl,OE hWl.symm,hx]
  by_cases hk1:(row.getD p.length dh).ai=1
  ·obtain⟨xs,e3,hx,hrest⟩:=hrest.YI hk1
   have ef:bu p (row.getD p.length dh)=row.getD p.length dh:=by
    unfold bu
    rw[if_pos (.inl hk1)]
   rw[List.length_take,Nat.min_eq_left aa]at hx
   have hr2:=hrun.Yu hR' (m:=row.getD p.length dh) (s:=gD df p.length) hk1 hx
   rw[ef]at hc hR2 hpl
   exact⟨_,_,_,_,_,_,hc,hR2,hpl,hr2,⟨_,by rw[e1,e3,List.append_assoc];rfl,by rw[sj hiV];exact hrest⟩,hvs _ rfl⟩
  ·obtain⟨hv,hrest⟩:=hrest.OW hk1
   have hmf:=hm.form
   rw[hR'.oK]at hmf
   have hr2:=hrun.XU hR' (kE hmf) (by rw[(lU p _).2.1];exact hk1) (gD df p.length)
   have hv2:=VG (sh:=df) (Nat.le_of_lt hiV) hai hk1
   rw[ah1 hk1 (λg2=>by
    have ha:=hai.a1 hk1 g2
    have hq:=hkt hk1 _ (xS hk1 g2)
    exact⟨(h7 _ ha hq).1,BJ _ ha hq⟩) (λg6=>by
    have hb:=hai.b1 g6
    have hq:=hkt aa _ (Dt g6)
    exact BJ _ hb hq),<-hv2,<-hv]at hr2
   exact⟨_,_,_,_,_,_,hc,hR2,hpl,hr2,⟨ip2,e1,by rw[sj hiV];exact hrest⟩,hvs _ rfl⟩
 ·have hc:=hs.2 hk
  have hne:∀k,k<p.length+1->lq row need k->k<p.length:=λk h1 h2=>by
   rcases Nat.lt_or_ge k p.length with h|h
   ·exact h
   ·obtain rfl:k=p.length:=by omega
    exact absurd h2 hk
  obtain⟨_,hrest⟩:=hrest.OW (λh=>hk (.inr h))
  exact⟨r,_,uD,uL,ip,W,hc,hR',λk q1 q2=>by rw[gV (hne k q1 q2)];exact h7 k (hne k q1 q2) q2,hrun,⟨ip2,e1,by rw[sj hiV];exact hrest⟩,λk q1 q2=>by rw[gV (hne k q1 q2)];exact BJ k (hne k q1 q2) q2⟩
theorem Ws{l:List aN}{sh:List (List Int)}{sp:List Sp}{inp V:List (List Int)}(hL:dD l sh sp)(hV:V.length=l.length)(h:jB sh (l.map aN.fo) [] inp V):∀i,i<=l.length->∃row st df dU ip W,X3 l sh sp inp V i row st df dU ip W
 |0,_=>⟨_,_,_,_,_,_,XL h⟩
 |i+1,hi=>by
  obtain⟨_,_,_,_,_,_,h1⟩:=Ws hL hV h i aa
  exact h1.step hL hV aa
theorem S9{row:List aN}{df:List (List Int)}{dU:List Sp}{need:Nat->Bool}{inp V:List (List Int)}(hR:dD row df dU)(hcl:∀k,k<row.length->need k=true->∀t∈eX (row.getD k dh),need t.toNat=true)(hV:V.length=row.length)(h:jB df (row.map aN.fo) [] inp V):∀i,i<=row.length->∃r p uD uL ip W,U6 row df dU need inp V i r p uD uL ip W
 |0,_=>⟨[],[],[],[],[],[],⟨rfl,rfl,Nat.le_refl _,λk hk=>absurd hk (Nat.not_lt_zero _),λj hj=>absurd hj (Nat.not_lt_zero _),λj k _ hk=>absurd hk (Nat.not_lt_zero _),[],[],dD.nil,λk hk=>absurd hk (Nat.not_lt_zero _)⟩,dD.nil,λk hk=>absurd hk (Nat.not_lt_zero _),.nil [],⟨inp,rfl,h⟩,λk hk=>absurd hk (Nat.not_lt_zero _)⟩
 |i+1,hi=>by
  obtain⟨_,_,_,_,_,_,h1⟩:=S9 hR hcl hV h i aa
  exact h1.step hR hcl hV aa
theorem jB.ended{sh:List (List Int)}{known ip q:List (List Int)}(h:jB sh [] known ip q):ip=[]:=by cases h;rfl
theorem adS{l:List aN}{sh:List (List Int)}{sp:List Sp}{inp V:List (List Int)}(hL:dD l sh sp){out:Nat}(ho:out<l.length)(h:jB sh (l.map aN.fo) [] inp V):∃df dU W,dD (jl l sh out).1 df dU/\(jl l sh out).2<(jl l sh out).1.length/\(jl l sh out).1.length<=l.length/\jB df ((jl l sh out).1.map aN.fo) [] inp W/\W.getD (jl l sh out).2 []=V.getD out []:=by
 have hV:=h.len
 rw[List.length_map]at hV
 obtain⟨row,st,df,dU,ip,W,⟨h1,hR,hS,hrun,⟨ip2,e1,hrest⟩,BJ⟩⟩:=Ws hL hV h l.length (Nat.le_refl _)
 rw[List.drop_length,List.map_nil]at hrest
 have e2:=hrest.ended
 subst e2
 rw[List.append_nil]at e1
 subst e1
 have hd:=h1.done
 have hsl:=h1.len
 have hob:st.getD out 0<row.length:=by have:=hS.lt out aa;rw[hR.oK]at this;exact this
 have hWl:=hrun.len
 rw[List.length_map]at hWl
 obtain⟨r,p,uD,uL,ip',W',hC⟩:=S9 (need:=rC row (st.getD out 0)) hR (KG hR hob) hWl hrun row.length (Nat.le_refl _)
 obtain⟨c1,hR',c3,hrun',⟨ip2,e1,hrest⟩,akn⟩:=hC
 rw[List.drop_length,List.map_nil]at hrest
 have e2:=hrest.ended
 subst e2
 rw[List.append_nil]at e1
 subst e1
 have e:(r,p)=ve (rC row (st.getD out 0)) row 0 ([],[]):=by
  have e:=c1.rest
  rw[List.drop_length]at e
  exact e
 have et:jl l sh out=(r,p.getD (st.getD out 0) 0):=by
  unfold jl
  rw[hd]
  simp only
  rw[<-e]
 rw[et]
 have hkeep:lq row (rC row (st.getD out 0)) (st.getD out 0):= .inl ((n_ hR.BD hob _).2 (.refl _))
 refine⟨uD,uL,W',hR',(List.getElem?_eq_some_iff.1 (c1.at_ _ hob hkeep)).1,by have:=c1.few;have:=h1.few;show r.length<=_;omega,hrun',?_⟩
 show W'.getD (p.getD (st.getD out 0) 0) []=_
 rw[akn _ hob hkeep,BJ _ ho]
theorem aib(p:aN):p.fo.pl=p:=rfl
theorem Iq:∀{l:List aN},(l.map aN.fo).map ak.pl=l
 |[]=>rfl
 |p::l=>by rw[List.map_cons,List.map_cons,aib,Iq]
theorem ahM{l:List ak}:((l.map ak.pl).map aN.fo).map ak.pl=l.map ak.pl:=Iq
theorem Vb{g:bM}(hsp:(cZ g).1=0){inp V:List (List Int)}(hv:d9 (check g).2 g.l [] inp=(0,V)):∃df dU,∀h:bM,h.l.map ak.pl=(jl (g.l.map ak.pl) (check g).2 g.out.toNat).1->h.out=((jl (g.l.map ak.pl) (check g).2 g.out.toNat).2:Int)->check h=(0,df)/\cZ h=(0,dU)/\Je h inp=(0,V.getD g.out.toNat []):=by
 obtain⟨hck,_,_⟩:=jC hsp
 obtain⟨hl1,Ez,hout,hcl,hin⟩:=gK hck
 obtain⟨q,e1,hq⟩:=aaN hv
 rw[List.nil_append]at e1
 subst e1
 have hq2:=hq.ai9 (m:=(g.l.map ak.pl).map aN.fo) ahM
 obtain⟨df,dU,W,hR,ho,hlen,hrun,hval⟩:=adS (CK hsp) (out:=g.out.toNat) vZ hq2
 rw[List.length_map]at hlen
 generalize jl (g.l.map ak.pl) (check g).2 g.out.toNat=X at*
 refine⟨df,dU,λh e2 e3=> ?_⟩
 have h1:check h=(0,df):=hR.check aa e2 aa aa
 have h2:cZ h=(0,dU):=hR.spans aa e2 aa aa
 have hr:=ajL (hrun.ai9 (m:=h.l) (by rw[Iq];exact e2))
 refine⟨h1,h2,?_⟩
 unfold Je pE
 rw[h2,h1,hr,if_neg aI,if_neg aI,e3,Int.toNat_natCast]
 simp only[List.nil_append]
 rw[hval]
section
theorem aab(sh:List (List Int))(n:ak)(known:List (List Int)):(gy sh n known).length=(au (sh.getD known.length [])).toNat:=by
 unfold gy gH
 split
 ·unfold jh;rw[List.length_map,List.length_range]
 ·unfold o5;rw[List.length_map,List.length_range]
theorem Qa{sh:List (List Int)}:∀{l:List ak} {known inp vals:List (List Int)},d9 sh l known inp=(0,vals)->∀i,i<l.length->((vals.getD (known.length+i) []).length:Int)=au (sh.getD (known.length+i) [])
 |[],_,_,_,_,i,hi=>absurd hi (Nat.not_lt_zero _)
 |m::r,known,inp,vals,h,i,hi=>by
  have step:∀(x:List Int) (agB:List (List Int)),(x.length:Int)=au (sh.getD known.length [])->d9 sh r (known++[x]) agB=(0,vals)->((vals.getD (known.length+i) []).length:Int)=au (sh.getD (known.length+i) []):=λx agB hx h'=>by
   obtain⟨b1,b2⟩:=Sq (W9 h').1
   cases i with
   |zero=>rw[Nat.add_zero,b2];exact hx
   |succ i=>
    have:=Qa h' i (by simpa using hi)
    rwa[List.length_append,List.length_singleton,show known.length+1+i=known.length+(i+1) by omega]at this
  have h0:=(dN (sh.getD known.length [])).1
  unfold d9 at h
  split at h
  ·exact step _ _ (by rw[aab];omega) h
  ·rename_i hk
   cases inp with
   |nil=>simp at h
   |cons x xs=>
    simp only at h
    split at h
    ·simp at h
    ·rename_i hx
     exact step x xs (by have:¬((x.length:Int)≠au (sh.getD known.length [])):=λh=>hx (.inl h);omega) h
variable {g:bM} {inp V:List (List Int)}
theorem abX(hck:(check g).1=0)(hv:d9 (check g).2 g.l [] inp=(0,V))(aV:Int)(giant:Bool)(m:Nat)(hm:1<=m/\m<=4096)(hr:(mr g aV giant m).2=0):
 ∃sl,J9 m (mr g aV giant m).1 inp sl (V.getD g.out.toNat []):=by
 obtain⟨_,_,⟨ho,ho1⟩,hcl,_⟩:=gK hck
 unfold mr at hr|-
 split at hr
 ·rename_i he
  exact absurd hr he
 ·rename_i he
  rw[if_neg he]
  have he:(iw aV m (check g).2 []).2=0:=by omega
  obtain⟨e1,e2⟩:=EJ he
  rw[List.nil_append]at e1
  have h:Tu ⟨m,giant,agI (check g).2,agI (iw aV m (check g).2 []).1⟩ aV g:=⟨hm,Dj _,by rw[Dj,e1],e2⟩
  have hl:=Qa hv g.out.toNat aa
  rw[List.length_nil,Nat.zero_add]at hl
  exact⟨_,ahQ hck h hv hl hr⟩
theorem ahE(hsp:(cZ g).1=0)(hv:d9 (check g).2 g.l [] inp=(0,V))(o:DZ)(aA:Int)(hr:(jX g o aA).2=0):
 nJ o aA/\∃sl,J9 aA.toNat (jX g o aA).1 inp sl (V.getD g.out.toNat []):=by
 unfold jX at hr|-
 split at hr
 ·rename_i hs
  rw[if_pos hs]
  rw[if_neg (λh=>h hsp)]at hr|-
  have hs':=hs
  obtain⟨_,_,h4,h8,_⟩:=hs'
  refine⟨hs,?_⟩
  by_cases ht:o.tidy=true
  ·rw[if_pos ht]at hr|-
   obtain⟨df,dU,akP⟩:=Vb hsp hv
   obtain⟨k1,k2,k3⟩:=akP (Lg g) (Iq) rfl
   unfold Je at k3
   rw[if_neg (by rw[k2];exactλh=>h rfl)]at k3
   split at k3
   ·rename_i hno
    exact absurd (congrArg Prod.fst k3) hno
   ·rename_i alm
    have alm:(pE (Lg g) inp).1=0:=by omega
    have e:d9 (check (Lg g)).2 (Lg g).l [] inp=(0,(pE (Lg g) inp).2):=Prod.ext alm rfl
    have k4:=(Prod.mk.inj k3).2
    rw[<-k4]
    exact abX (by rw[k1]) e _ _ _ aa hr
  ·rw[if_neg ht]at hr|-
   exact abX (jC hsp).1 hv _ _ _ aa hr
 ·cases hr
end
end Go.Proofs.YtgndjjdeopfdkaaGreat

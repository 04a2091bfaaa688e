import Derived.Test.YtgndjjdeopfdkaaGreatKLowerMeans11b
/- texts QT OC of the proof of LowerMeansSaid -/
set_option maxHeartbeats 16000000
set_option maxRecDepth 20000
set_option linter.unusedVariables false
set_option linter.unusedSimpArgs false
namespace Go.Proofs.YtgndjjdeopfdkaaGreat
open Go.SX Go.RowKit
abbrev as6:DT:=(bS [0,1,2,3,4,5,106,7,8,9,10,11] .done)
abbrev atz:DT:=(bS [0,1,2,3,4,5,6,7,8,9,10,11,12,13,114,115,116] .done)
abbrev asW:DT:=(bS [0,1,2,3,4,6,7,8,9,10,105,111,112,13] .done)
theorem an9{l:List Sp}{k:Nat}(h:k<l.length):(gz l)[k]? =some [.int .i64 (l.getD k (0,0)).1,.int .i64 (l.getD k (0,0)).2]:=by
 rw[EC h,TR,YL h];rfl
theorem arU(w:World)(n:ak)(sh:List (List Int))(s:List Int)(sv:aY)(hs:sv.ok w)(t:ax)(cnt:Nat)(h:gN n sh s t.xs cnt)(hl:eF n)(hno:n.ok w)(ht:sv.l[n.a.toNat]? =some t)(ha0:0<=n.a)(b2:Option Addr)(c2:Nat)(acc:List Sp)(hacc:bE w b2 2 (gz acc))(hlt:n.a.toNat<acc.length)(hbd:fJ (acc.getD n.a.toNat (0,0)).1/\fJ (acc.getD n.a.toNat (0,0)).2):Calls Tryz.prog 44 #[n.p9,sv.val,.slice b2 acc.length c2] w λe w'=>e= .returned (o7 (rq (nH n cnt (dZ n t.xs) (acc.getD n.a.toNat (0,0)))))/\Ext w w':=by
 obtain⟨htl,hte⟩:=abH.1 ht;have htm:t∈sv.l:=hte▸aby htl;have hto:=hs.each t htm;obtain⟨a2,ha2⟩:∃a,b2=some a:=aT (j:=n.a.toNat) hacc aoj;obtain⟨sa,hsa⟩:∃a,sv.base=some a:=aT (j:=n.a.toNat) hs.rows (by rw[acN];exact htl);have ap0:=an9 hlt;have asf:(bA sv.l)[n.a.toNat]? =some [t.val]:=by rw[fQ htl,hte]
 have hna:n.a=(n.a.toNat:Int):=(alP ha0).symm;have ug:=h.few;have aqF:∀o,o<cnt->∀g:Nat->Int->Int,(∀k,g k 0=0)->pO g 0 (qZ n t.xs o)=Q7 g (dZ n t.xs o):=λo ho g hg=>ah3 h hl ho g hg;have hrl:∀o,o<cnt->(qZ n t.xs o).length=(au t.xs).toNat:=λo ho=>ahF h ho;have hrb:∀o,∀x∈qZ n t.xs o,fJ x:=λo=>arT h hl o;obtain⟨nd,nb,_,_,_⟩:=Gp h.node.near;have hsz:=(dN t.xs).2;have atT:∀w',n.ok w'->t.ok w'->Calls Tryz.prog 91 #[n.p9,t.val] w' (aog w' n t.xs cnt):=λw' h1 h2=>aq6 w' n sh s t cnt h hl h1 h2;have hpos:1<=(au t.xs).toNat:=by have:=(h.first hl).2;omega
 have hkind:n.ai=3\/n.ai=4\/n.ai=5:=hl;have arW:(∀o,o<cnt->(dZ n t.xs o).length<=64)/\∀o,o<cnt->∀s∈dZ n t.xs o,fJ s.1:=by
  obtain⟨F,P0,hL⟩:=h.lin hl;exact⟨(hL.terms w hto hno).few,(hL.terms w hto hno).bd⟩
 generalize acc.getD n.a.toNat (0,0)=a at*;obtain⟨ha1,hah⟩:=hbd;clear hl;have apD:∀w',Calls Tryz.prog 90 #[.int .i64 n.ai] w' λe w''=>e= .returned (.bool true)/\Ext w' w'':=λw'=>by
  have:=aoE w' n.ai;rw[decide_eq_true hkind]at this;exact this
 refine fH Tryz.func44 [.agg (vo n),.c sv.val,.c (.slice b2 acc.length c2)] ?_;repeat' ((conv=>whnf)<;>first|(show aJ _ 90 ..;refine aR (f:=90) Tryz.call90 (.bool true) (λρ w' hw=>apD w') ?_)|(show dn ..;(first|refine aM a2 n.a.toNat ha2 hna hlt ?_|refine aM sa n.a.toNat hsa hna htl ?_))|refine aoq ?_|(show gZ ..;(refine bN (λR w' h=>by rw[<-hsa];exact aH h hs.rows) _ _ asf rfl ?_))|(refine apI ?_;intro x hx)|(show cO _ 8 ..;refine mV [] _ as6 ?_)|refine bV ?_|refine ag ?_ ?_<;>intro _)
 all_goals(conv=>whnf)
 have hxc:=hx.count;refine Wp.know (p:=∃a,x.rows.base=some a) (λρ w' hw=>ae hw λR h=>aT (j:=0) (bf h.2.1) nO) ?_;rintro⟨xa,hxa⟩;refine Wp.know (p:=∃a,x.aQ.base=some a) (λρ w' hw=>ae hw λR h=>(hx.ap7 (w:=w) (hno.later h.1) h.2).base (by rw[hx.aQ];simp[Tx];omega)) ?_;rintro⟨ba,hba⟩;have hxr:∀(R:Nat->Prop) w',((aU w).and ((aoB x).past w.heap.size)).holds R w'->bE w' (some xa) 1 (bA x.rows.l):=λR w' h=>by rw[<-hxa];exact bf h.2.1
 have hxb:∀(R:Nat->Prop) w',((aU w).and ((aoB x).past w.heap.size)).holds R w'->bE w' (some ba) 1 (aZ x.aQ.xs):=λR w' h=>by rw[<-hba];exact(hx.ap7 (w:=w) (hno.later h.1) h.2).rows
 refine Wp.loop (σ:=Nat×Nat) 4 (λ⟨o,m⟩=>[(6,.lp 1 0 0 0),(7,.lp 2 0 0 0),(9,.c x.aQ.val),(10,.os 3 m),(56,.c x.rows.val),(57,aC cnt),(58,aC o)]) (λ⟨o,m⟩=>[(3,.rows (aZ (Ay n cnt o (dZ n t.xs) a)) 1 3),(2,.box [aC a.1,aC a.2] 58),(1,.box [aC 0,aC 0] 58)]) (λ_=>(aU w).and ((aoB x).past w.heap.size))
  (λ⟨o,m⟩=>o<=cnt/\m=2*o) (λs=>cnt-s.1) (0,0) [(3,none)] ay (λs=>⟨rfl,rfl⟩) ⟨aae _,rfl⟩ ⟨rfl,⟨rfl,rfl,rfl,rfl,rfl,?_,rfl,trivial⟩,⟨rfl,aj,aj,trivial⟩,λ_ _ h=>h⟩ ?_
 ·rw[<-hxc];rfl
 rintro⟨o,m⟩ ⟨ho,hm⟩;have hml:=FJ n cnt (dZ n t.xs) a o;by_cases hlo:o<cnt
 ·have hlx:o<x.rows.l.length:=by omega
  obtain⟨_,hu,hbl,hbv⟩:=hx.row hlx;have hsn:=KX n cnt o (dZ n t.xs) a;have hbd:=ao7 nb cnt o;have hrow:=fQ hlx;have IZ:=aby hlx;have I4:=hrl o hlo;have hub:=hrb o;have hsu:=aqF o hlo;generalize x.rows.l[o]=u at*;rw[<-hu]at I4 hub hsu;refine Wp.know (p:=∃a,u.base=some a) (λρ w' hw=>ae hw λR h=>(hx.ap9 (w:=w) (hno.later h.1) h.2 u IZ).base aa) ?_;rintro⟨ua,rO⟩;have hur:∀(R:Nat->Prop) w',((aU w).and ((aoB x).past w.heap.size)).holds R w'->bE w' (some ua) 1 (aZ u.xs):=λR w' h=>by rw[<-rO];exact(hx.ap9 (w:=w) (hno.later h.1) h.2 u IZ).rows
  have atC:u.xs.length<=64:=by omega
  repeat' ((conv=>whnf)<;>first|(show dn ..;(first|refine aM xa o hxa rfl hlx ?_|refine aM ba o hba rfl aa ?_))|(show gZ ..;(first|refine bN hxr _ _ hrow rfl ?_|refine Mg hxb (j:=o) aa hbv ?_))|refine bV ?_|refine ag ?_ ?_<;>intro _)
  all_goals(conv=>whnf)
  refine Wp.loop (σ:=Nat×Int×Int) 4 (λ⟨j,lo,hi⟩=>[(6,.lp 1 0 0 0),(7,.lp 2 0 0 0),(9,.c x.aQ.val),(10,.os 3 m),(56,.c x.rows.val),(57,aC cnt),(58,aC o),(13,aC lo),(14,aC hi),(71,.c u.val),(72,aC u.xs.length),(73,aC j)]) (λ_=>[(3,.rows (aZ (Ay n cnt o (dZ n t.xs) a)) 1 3),(2,.box [aC a.1,aC a.2] 58),(1,.box [aC 0,aC 0] 58)]) (λ_=>(aU w).and ((aoB x).past w.heap.size))
   (λ⟨j,lo,hi⟩=>j<=u.xs.length/\lo=dV n cnt o+pO (gLo a) 0 (u.xs.take j)/\hi=dV n cnt o+pO (gHi a) 0 (u.xs.take j)) (λs=>u.xs.length-s.1) (0,dV n cnt o,dV n cnt o) [] ay (λs=>⟨rfl,rfl⟩) ⟨aae _,by simp[pO],by simp[pO]⟩ ⟨rfl,⟨rfl,rfl,rfl,rfl,rfl,rfl,rfl,rfl,rfl,rfl,rfl,rfl,trivial⟩,fE,λ_ _ h=>h⟩ ?_
  rintro⟨j,lo,hi⟩ ⟨hj,hlv,hhv⟩;by_cases hjl:j<u.xs.length
  ·have s1:=aoQ (gLo a) hjl;have s2:=aoQ (gHi a) hjl;have hG1:∀k v,v∈u.xs-> -1099511627776<=gLo a k v/\gLo a k v<=1099511627776:=λk v hv=>by
    have q1:=jL (A:=1048576) (B:=1048576) (hub v hv) ha1;have q2:=jL (A:=1048576) (B:=1048576) (hub v hv) hah;unfold gLo;omega
   have hG2:∀k v,v∈u.xs-> -1099511627776<=gHi a k v/\gHi a k v<=1099511627776:=λk v hv=>by
    have q1:=jL (A:=1048576) (B:=1048576) (hub v hv) ha1;have q2:=jL (A:=1048576) (B:=1048576) (hub v hv) hah;unfold gHi;omega
   have b1:=aoT (gLo a) (l:=u.xs) (j:=j) aa hG1;have b2:=aoT (gHi a) (l:=u.xs) (j:=j) aa hG2;have hv:fJ (u.xs.getD j 0):=iY hub j;have q1:=jL (A:=1048576) (B:=1048576) hv ha1;have q2:=jL (A:=1048576) (B:=1048576) hv hah;have e1:gLo a j (u.xs.getD j 0)=min (u.xs.getD j 0*a.1) (u.xs.getD j 0*a.2):=rfl;have e2:gHi a j (u.xs.getD j 0)=max (u.xs.getD j 0*a.1) (u.xs.getD j 0*a.2):=rfl;clear hG1 hG2 hsu hrl aqF hsn;unfold fJ at hbd;repeat' ((conv=>whnf)<;>first|(show dn ..;refine aM ua j rO rfl hjl ?_)|(show gZ ..;refine dP hur (j:=j) hjl ?_)|refine bV ?_|refine ag ?_ ?_<;>intro _)
   all_goals(conv=>whnf)
   all_goals exact⟨(j+1,_,_),[],⟨hjl,by rw[s1];omega,by rw[s2];omega⟩,by simp only;omega,rfl,⟨rfl,rfl,rfl,rfl,rfl,rfl,rfl,rfl,rfl,rfl,rfl,rfl,trivial⟩,fE,λ_ _ h=>h⟩
  ·have hjz:j=u.xs.length:=Nat.le_antisymm hj (Nat.not_lt.1 hjl);subst hjz;rw[aen (Tw _),hsu _ (ar8 a),<-aqx]at hlv;rw[aen (Tw _),hsu _ (arR a),<-aqG]at hhv;repeat' ((conv=>whnf)<;>first|(show Gn ..;(refine mg apC ?_))|(show jv ..;(refine fU apa ?_))|refine bV ?_|refine ag ?_ ?_<;>intro _)
   all_goals(conv=>whnf)
   exact⟨(o+1,m+2),[(3,some 5)],⟨hlo,by omega⟩,by simp only;omega,rfl,fE,⟨by
    show(5,b_.rows (aZ (Ay n cnt (o+1) (dZ n t.xs) a)) 1 3)∈_;rw[hsn,<-hlv,<-hhv];exact afL _ _ _ (by rw[hml,hm]),aj,aj,trivial⟩,λ_ _ h=>h⟩
 ·have hoz:o=cnt:=Nat.le_antisymm ho (Nat.not_lt.1 hlo);subst hoz;have hfit:∀x∈Ay n o o (dZ n t.xs) a,i64 x:=λx hx=>by
   obtain⟨q,hq,hx⟩:=am5.1 hx;rw[ahe]at hq;have g:=U2 ⟨ha1,hah⟩ (l:=dZ n t.xs q) (s:=dV n o q) (arW.2 q hq);have gf:=arW.1 q hq;have gb:=ao7 nb o q;unfold fJ at gb;simp only[abr,aiF,or_false]at hx;unfold i64;rcases hx with rfl|rfl<;>omega
  have hmL:m=(Ay n o o (dZ n t.xs) a).length:=by omega
  subst hmL;refine Wp.Vh 3 w.heap.size (k:=1) (xs:=aZ (Ay n o o (dZ n t.xs) a)) (T:=3) aj (λR w' h b hb=>(h.1 b hb).1) (λl1 hl1=> ?_);rw[aP]at hl1;repeat' ((conv=>whnf)<;>first|(show aJ _ 89 ..;(refine aR (f:=89) Tryz.call89 (o7 (rq (Ay n o o (dZ n t.xs) a))) (λρ w' hw=>aos w' ⟨l1.base,l1.cap,Ay n o o (dZ n t.xs) a⟩ (ae hw λR h=>⟨bf h.2,hfit,hl1,by simp only;omega⟩) mJ) ?_))|refine bV ?_|refine ag ?_ ?_<;>intro _)
  all_goals(conv=>whnf)
  all_goals exact bZ (λ_ _ h=>h.1.1) (λ_=>rfl) rfl
theorem aoR{x y:Int}(h:x<=y):rq [x,y]=(x,y):=by
 have e1:foldI min [x,y]=min x y:=rfl;have e2:foldI max [x,y]=max x y:=rfl;unfold rq;rw[e1,e2,Int.min_eq_left h,Int.max_eq_right h]
theorem aoZ{l:List Sp}{k:Nat}(h:k<l.length):l.getD k (0,0)∈l:=by
 rw[TR,YL h];exact aby h
theorem aqL(w:World){k:Int}(h:¬(k=3\/k=4\/k=5)):Calls Tryz.prog 90 #[.int .i64 k] w λe w'=>e= .returned (.bool false)/\Ext w w':=by
 have:=aoE w k;rw[decide_eq_false h]at this;exact this
theorem aqY(w:World)(n:ak)(sv:aY)(b2:Option Addr)(c2:Nat)(acc:List Sp)(hk:n.ai=1\/n.ai=2\/n.ai=6\/n.ai=7\/n.ai=9)(hno:n.ok w)(nd:∀x∈n.data.xs,fJ x)(nle:n.lo<=n.hi)(h2:n.ai=2->1<=n.data.xs.length)(h7:n.ai=7->n.data.xs.length=1)(ha0:0<=n.a)(hb0:0<=n.b)(hacc:bE w b2 2 (gz acc))(hA:n.ai≠1->n.ai≠2->n.a.toNat<acc.length)(hB:n.ai=6->n.b.toNat<acc.length)(hbd:∀s∈acc,fJ s.1/\fJ s.2/\s.1<=s.2):Calls Tryz.prog 44 #[n.p9,sv.val,.slice b2 acc.length c2] w λe w'=>e= .returned (o7 (rq (fA n (acc.getD n.a.toNat (0,0)) (acc.getD n.b.toNat (0,0)))))/\Ext w w':=by
 have apD:∀w',Calls Tryz.prog 90 #[.int .i64 n.ai] w' λe w''=>e= .returned (.bool false)/\Ext w' w'':=λw'=>aqL w' aa;have hna:n.a=(n.a.toNat:Int):=(alP ha0).symm;have hnb:n.b=(n.b.toNat:Int):=(alP hb0).symm;unfold fA;rcases hk with hk|hk|hk|hk|hk
 ·rw[if_pos hk,aoR nle];refine fH Tryz.func44 [.agg (vo n),.c sv.val,.c (.slice b2 acc.length c2)] ?_;repeat' ((conv=>whnf)<;>first|refine bV ?_|refine ag ?_ ?_<;>intro _)
  all_goals(conv=>whnf)
  all_goals exact bZ (λ_ _ h=>h) (λ_=>rfl) rfl
 ·rw[if_neg aa,if_pos hk];refine fH Tryz.func44 [.agg (vo n),.c sv.val,.c (.slice b2 acc.length c2)] ?_;repeat' ((conv=>whnf)<;>first|(show aJ _ 89 ..;refine aR (f:=89) Tryz.call89 (o7 (rq n.data.xs)) (λρ w' hw=>aos w' n.data (ae hw λR h=>hno.data.later h) (h2 hk)) ?_)|refine bV ?_|refine ag ?_ ?_<;>intro _)
  all_goals(conv=>whnf)
  all_goals exact bZ (λ_ _ h=>h) (λ_=>rfl) rfl
 ·rw[if_neg aa,if_neg aa,if_pos hk];have hlt:=hA aa aa;have as8:=hB hk;obtain⟨a2,ha2⟩:∃a,b2=some a:=aT (j:=n.a.toNat) hacc aoj;have ap0:=an9 hlt;have amg:=an9 as8;have hmA:=hbd _ (aoZ hlt);have hmB:=hbd _ (aoZ as8);generalize acc.getD n.a.toNat (0,0)=a at*;generalize acc.getD n.b.toNat (0,0)=b at*;obtain⟨p1,p2,p3⟩:=hmA;obtain⟨q1,q2,q3⟩:=hmB;rw[aoR aa];unfold fJ at p1 p2 q1 q2;refine fH Tryz.func44 [.agg (vo n),.c sv.val,.c (.slice b2 acc.length c2)] ?_;repeat' ((conv=>whnf)<;>first|refine aod ?_|(show dn ..;(first|refine aM a2 n.a.toNat ha2 hna hlt ?_|refine aM a2 n.b.toNat ha2 hnb as8 ?_))|(show lK ..;(first|refine gI (λR w' h=>by rw[<-ha2];exact aH h hacc) _ ap0 rfl ?_|refine gI (λR w' h=>by rw[<-ha2];exact aH h hacc) _ amg rfl ?_))|refine bV ?_|refine ag ?_ ?_<;>intro _)
  all_goals(conv=>whnf)
  all_goals exact bZ (λ_ _ h=>h) (λ_=>rfl) rfl
 ·rw[if_neg aa,if_neg aa,if_neg aa,if_pos hk];have hlt:=hA aa aa;have hd7:=h7 hk;have hd:=hno.data;obtain⟨a2,ha2⟩:∃a,b2=some a:=aT (j:=n.a.toNat) hacc aoj;obtain⟨ua,rO⟩:=hd.base aa;have hur:∀(R:Nat->Prop) w',(aU w).holds R w'->bE w' (some ua) 1 (aZ n.data.xs):=λR w' h=>by rw[<-rO];exact aH h hd.rows
  have ap0:=an9 hlt;have hmA:=hbd _ (aoZ hlt);generalize acc.getD n.a.toNat (0,0)=a at*;obtain⟨p1,p2,p3⟩:=hmA;have g0:=iY nd 0;have m1:=jL (A:=1048576) (B:=1048576) g0 p1;have m2:=jL (A:=1048576) (B:=1048576) g0 p2;generalize hd0:n.data.xs.getD 0 0=d0 at*;have hfit:∀x∈[d0*a.1,d0*a.2],i64 x:=λx hx=>by
   simp only[abr,aiF,or_false]at hx;unfold i64;rcases hx with rfl|rfl<;>omega
  refine fH Tryz.func44 [.agg (vo n),.c sv.val,.c (.slice b2 acc.length c2)] ?_;repeat' ((conv=>whnf)<;>first|refine aod ?_|(show dn ..;(first|refine aM a2 n.a.toNat ha2 hna hlt ?_|refine aM ua 0 rO rfl aa ?_))|refine aoq ?_|(show gZ ..;refine Mg hur (j:=0) aa hd0 ?_)|(show qN ..;refine vE (w0:=w) [d0*a.1,d0*a.2] (λR w' h=>h) rfl rfl hfit aI (λu hu iL=> ?_))|(show aJ _ 89 ..;(refine aR (f:=89) Tryz.call89 (o7 (rq [d0*a.1,d0*a.2])) (λρ w' hw=>hu▸aos w' u (ae hw λR h=>dw iL ((bX u).mono h.2 (λb hb=>hb.1))) (by rw[hu];simp)) ?_))|(show cO _ 28 ..;refine mV [16] _ atz ?_)|refine bV ?_|refine ag ?_ ?_<;>intro _)
  all_goals(conv=>whnf)
  all_goals exact bZ (λ_ _ h=>h.1) (λ_=>rfl) rfl
 ·rw[if_neg aa,if_neg aa,if_neg aa,if_neg aa,if_neg aa];have hlt:=hA aa aa;obtain⟨a2,ha2⟩:∃a,b2=some a:=aT (j:=n.a.toNat) hacc aoj;have ap0:=an9 hlt;have hmA:=hbd _ (aoZ hlt);generalize acc.getD n.a.toNat (0,0)=a at*;rw[aoR hmA.2.2];refine fH Tryz.func44 [.agg (vo n),.c sv.val,.c (.slice b2 acc.length c2)] ?_;repeat' ((conv=>whnf)<;>first|refine aod ?_|(show dn ..;refine aM a2 n.a.toNat ha2 hna hlt ?_)|refine aoq ?_|refine bV ?_|refine ag ?_ ?_<;>intro _)
  all_goals(conv=>whnf)
  all_goals exact bZ (λ_ _ h=>h) (λ_=>rfl) rfl
theorem asJ{av:List Int}{r:List Int}{j:Nat}:Lm av j (r.getD j 0)=r.getD j 0*av.getD j 0:=rfl
theorem aq0(w:World)(n:ak)(sh:List (List Int))(s:List Int)(sv:aY)(hs:sv.ok w)(t:ax)(cnt:Nat)(h:gN n sh s t.xs cnt)(hl:eF n)(hno:n.ok w)(ht:sv.l[n.a.toNat]? =some t)(ha0:0<=n.a)(kb:Option Addr)(kc:Nat)(kn:List ax)(hkr:bE w kb 1 (bA kn))(a:ax)(hka:kn[n.a.toNat]? =some a)(hao:a.ok w)(hab:∀x∈a.xs,fJ x)(hal:(a.xs.length:Int)=au t.xs):Calls Tryz.prog 76 #[n.p9,sv.val,.slice kb kn.length kc] w (Co w n (jh n cnt cnt (dZ n t.xs) a.xs)):=by
 obtain⟨htl,hte⟩:=abH.1 ht;obtain⟨hkl,hke⟩:=abH.1 hka;have htm:t∈sv.l:=hte▸aby htl;have hto:=hs.each t htm;obtain⟨ka,hkb⟩:∃a,kb=some a:=aT (j:=n.a.toNat) hkr AX;obtain⟨sa,hsa⟩:∃a,sv.base=some a:=aT (j:=n.a.toNat) hs.rows (by rw[acN];exact htl);have ar0:(bA kn)[n.a.toNat]? =some [a.val]:=by rw[fQ hkl,hke]
 have asf:(bA sv.l)[n.a.toNat]? =some [t.val]:=by rw[fQ htl,hte]
 have hna:n.a=(n.a.toNat:Int):=(alP ha0).symm;have ug:=h.few;have aqF:∀o,o<cnt->∀g:Nat->Int->Int,(∀k,g k 0=0)->pO g 0 (qZ n t.xs o)=Q7 g (dZ n t.xs o):=λo ho g hg=>ah3 h hl ho g hg;have hrl:∀o,o<cnt->(qZ n t.xs o).length=(au t.xs).toNat:=λo ho=>ahF h ho;have hrb:∀o,∀x∈qZ n t.xs o,fJ x:=λo=>arT h hl o;obtain⟨nd,nb,_,_,_⟩:=Gp h.node.near;have hsz:=(dN t.xs).2;have atT:∀w',n.ok w'->t.ok w'->Calls Tryz.prog 91 #[n.p9,t.val] w' (aog w' n t.xs cnt):=λw' h1 h2=>aq6 w' n sh s t cnt h hl h1 h2;have hpos:1<=(au t.xs).toNat:=by have:=(h.first hl).2;omega
 have hkind:n.ai=3\/n.ai=4\/n.ai=5:=hl;have arW:(∀o,o<cnt->(dZ n t.xs o).length<=64)/\∀o,o<cnt->∀s∈dZ n t.xs o,fJ s.1:=by
  obtain⟨F,P0,hL⟩:=h.lin hl;exact⟨(hL.terms w hto hno).few,(hL.terms w hto hno).bd⟩
 obtain⟨va,hva⟩:=hao.base aa;have hvr:∀(R:Nat->Prop) w',(aU w).holds R w'->bE w' (some va) 1 (aZ a.xs):=λR w' h=>by rw[<-hva];exact aH h hao.rows
 clear hl;have apD:∀w',Calls Tryz.prog 90 #[.int .i64 n.ai] w' λe w''=>e= .returned (.bool true)/\Ext w' w'':=λw'=>by
  have:=aoE w' n.ai;rw[decide_eq_true hkind]at this;exact this
 refine fH Tryz.func76 [.agg (vo n),.c sv.val,.c (.slice kb kn.length kc)] ?_;repeat' ((conv=>whnf)<;>first|(show aJ _ 90 ..;refine aR (f:=90) Tryz.call90 (.bool true) (λρ w' hw=>apD w') ?_)|(show dn ..;(first|refine aM ka n.a.toNat hkb hna hkl ?_|refine aM sa n.a.toNat hsa hna htl ?_))|(show gZ ..;(first|refine bN (λR w' h=>by rw[<-hkb];exact aH h hkr) _ _ ar0 rfl ?_|refine bN (λR w' h=>by rw[<-hsa];exact aH h hs.rows) _ _ asf rfl ?_))|(refine apI ?_;intro x hx)|(show cO _ 7 ..;refine mV [] _ as6 ?_)|refine bV ?_|refine ag ?_ ?_<;>intro _)
 all_goals(conv=>whnf)
 have hxc:=hx.count;refine Wp.know (p:=∃a,x.rows.base=some a) (λρ w' hw=>ae hw λR h=>aT (j:=0) (bf h.2.1) nO) ?_;rintro⟨xa,hxa⟩;refine Wp.know (p:=∃a,x.aQ.base=some a) (λρ w' hw=>ae hw λR h=>(hx.ap7 (w:=w) (hno.later h.1) h.2).base (by rw[hx.aQ];simp[Tx];omega)) ?_;rintro⟨ba,hba⟩;have hxr:∀(R:Nat->Prop) w',((aU w).and ((aoB x).past w.heap.size)).holds R w'->bE w' (some xa) 1 (bA x.rows.l):=λR w' h=>by rw[<-hxa];exact bf h.2.1
 have hxb:∀(R:Nat->Prop) w',((aU w).and ((aoB x).past w.heap.size)).holds R w'->bE w' (some ba) 1 (aZ x.aQ.xs):=λR w' h=>by rw[<-hba];exact(hx.ap7 (w:=w) (hno.later h.1) h.2).rows
 refine Wp.loop (σ:=Nat) 2 (λo=>[(7,.c a.val),(8,.os 1 o),(10,.c x.aQ.val),(42,.c x.rows.val),(43,aC cnt),(44,aC o)]) (λo=>[(1,.rows (aZ (jh n cnt o (dZ n t.xs) a.xs)) 1 3)]) (λ_=>(aU w).and ((aoB x).past w.heap.size))
  (λo=>o<=cnt) (λo=>cnt-o) 0 [(1,none)] ay (λs=>⟨rfl,rfl⟩) (aae _) ⟨rfl,⟨rfl,rfl,rfl,rfl,?_,rfl,trivial⟩,⟨rfl,trivial⟩,λ_ _ h=>h⟩ ?_
 ·rw[<-hxc];rfl
 rintro o ho;have hlen:(jh n cnt o (dZ n t.xs) a.xs).length=o:=by simp[jh]
 by_cases hlo:o<cnt
 ·have hlx:o<x.rows.l.length:=by omega
  obtain⟨_,hu,hbl,hbv⟩:=hx.row hlx;have hsn:jh n cnt (o+1) (dZ n t.xs) a.xs=jh n cnt o (dZ n t.xs) a.xs++[(dZ n t.xs o).foldl (FP a.xs) (dV n cnt o)]:=by unfold jh;rw[ait,afn];rfl
  have hbd:=ao7 nb cnt o;have hrow:=fQ hlx;have IZ:=aby hlx;have I4:=hrl o hlo;have hub:=hrb o;have hsu:=aqF o hlo;generalize x.rows.l[o]=u at*;rw[<-hu]at I4 hub hsu;refine Wp.know (p:=∃a,u.base=some a) (λρ w' hw=>ae hw λR h=>(hx.ap9 (w:=w) (hno.later h.1) h.2 u IZ).base aa) ?_;rintro⟨ua,rO⟩;have hur:∀(R:Nat->Prop) w',((aU w).and ((aoB x).past w.heap.size)).holds R w'->bE w' (some ua) 1 (aZ u.xs):=λR w' h=>by rw[<-rO];exact(hx.ap9 (w:=w) (hno.later h.1) h.2 u IZ).rows
  have atC:u.xs.length<=64:=by omega
  have awp:u.xs.length=a.xs.length:=by omega
  repeat' ((conv=>whnf)<;>first|(show dn ..;(first|refine aM xa o hxa rfl hlx ?_|refine aM ba o hba rfl aa ?_))|(show gZ ..;(first|refine bN hxr _ _ hrow rfl ?_|refine Mg hxb (j:=o) aa hbv ?_))|refine bV ?_|refine ag ?_ ?_<;>intro _)
  all_goals(conv=>whnf)
  refine Wp.loop (σ:=Nat×Int) 2 (λ⟨j,v⟩=>[(7,.c a.val),(8,.os 1 o),(10,.c x.aQ.val),(42,.c x.rows.val),(43,aC cnt),(44,aC o),(13,aC v),(53,.c u.val),(54,aC u.xs.length),(55,aC j)]) (λ_=>[(1,.rows (aZ (jh n cnt o (dZ n t.xs) a.xs)) 1 3)]) (λ_=>(aU w).and ((aoB x).past w.heap.size))
   (λ⟨j,v⟩=>j<=u.xs.length/\v=dV n cnt o+pO (Lm a.xs) 0 (u.xs.take j)) (λs=>u.xs.length-s.1) (0,dV n cnt o) [] ay (λs=>⟨rfl,rfl⟩) ⟨aae _,by simp[pO]⟩ ⟨rfl,⟨rfl,rfl,rfl,rfl,rfl,rfl,rfl,rfl,rfl,rfl,trivial⟩,⟨aj,trivial⟩,λ_ _ h=>h⟩ ?_
  rintro⟨j,v⟩ ⟨hj,hvv⟩;by_cases hjl:j<u.xs.length
  ·have s1:=aoQ (Lm a.xs) hjl;have hG1:∀k z,z∈u.xs-> -1099511627776<=Lm a.xs k z/\Lm a.xs k z<=1099511627776:=λk z hz=>jL (A:=1048576) (B:=1048576) (hub z hz) (iY hab k);have b1:=aoT (Lm a.xs) (l:=u.xs) (j:=j) aa hG1;have hv:fJ (u.xs.getD j 0):=iY hub j;have hv2:fJ (a.xs.getD j 0):=iY hab j;have q1:=jL (A:=1048576) (B:=1048576) hv hv2;have e1:=asJ (av:=a.xs) (r:=u.xs) (j:=j);clear hG1 hsu hrl aqF hsn;unfold fJ at hbd;repeat' ((conv=>whnf)<;>first|(show dn ..;(first|refine aM ua j rO rfl hjl ?_|refine aM va j hva rfl aa ?_))|(show gZ ..;(first|refine dP hur (j:=j) hjl ?_|refine dP (λR w' h=>hvr R w' h.1) (j:=j) aa ?_))|refine bV ?_|refine ag ?_ ?_<;>intro _)
   all_goals(conv=>whnf)
   all_goals exact⟨(j+1,_),[],⟨hjl,by rw[s1];omega⟩,by simp only;omega,rfl,⟨rfl,rfl,rfl,rfl,rfl,rfl,rfl,rfl,rfl,rfl,trivial⟩,⟨aj,trivial⟩,λ_ _ h=>h⟩
  ·have hjz:j=u.xs.length:=Nat.le_antisymm hj (Nat.not_lt.1 hjl);subst hjz;rw[aen (Tw _),hsu _ (adM a.xs),<-Rq]at hvv;repeat' ((conv=>whnf)<;>first|refine aoi ?_|(show jv ..;(refine fU (by show(o+1)*8<=140737488355328;omega) ?_))|refine bV ?_|refine ag ?_ ?_<;>intro _)
   all_goals(conv=>whnf)
   exact⟨o+1,[(1,some 3)],hlo,by omega,rfl,fE,⟨by
    show(3,b_.rows (aZ (jh n cnt (o+1) (dZ n t.xs) a.xs)) 1 3)∈_;rw[hsn,<-hvv];exact an6 _ _ hlen.symm,trivial⟩,λ_ _ h=>h⟩
 ·have hoz:o=cnt:=Nat.le_antisymm ho (Nat.not_lt.1 hlo);subst hoz;repeat' ((conv=>whnf)<;>first|refine bV ?_|refine ag ?_ ?_<;>intro _)
  all_goals(conv=>whnf)
  refine rW (B:=⟨w,[]⟩) (S:=(aU w).and ((aoB x).past w.heap.size)) (λ_ _ h=>h.1) rfl aj hlen.symm (λz hz=> ?_) aa;obtain⟨q,hq,rfl⟩:=abl.1 hz;rw[ahe]at hq;have g:=aaw hab (l:=dZ n t.xs q) (s:=dV n o q) (arW.2 q hq);have gf:=arW.1 q hq;have gb:=ao7 nb o q;unfold fJ at gb;unfold i64;omega
end Go.Proofs.YtgndjjdeopfdkaaGreat

import Derived.Test.YtgndjjdeopfdkaaGreatKLowerMeans11c
/- texts QT OC of the proof of LowerMeansSaid -/
set_option maxHeartbeats 16000000
set_option maxRecDepth 20000
set_option linter.unusedVariables false
set_option linter.unusedSimpArgs false
namespace Go.Proofs.YtgndjjdeopfdkaaGreat
open Go.SX Go.RowKit
section
def aoO(d:List Int)(a:Sp):Nat->List Int
 |0=>[]
 |k+1=>aoO d a k++(if a.1<=o6 d+((k:Int)-2)/\o6 d+((k:Int)-2)<=a.2 then [iF d (o6 d+((k:Int)-2))]else [])
theorem aoM{d:List Int}{a:Sp}{x:Int}:∀{m:Nat},x∈aoO d a m↔∃k,k<m/\(a.1<=o6 d+((k:Int)-2)/\o6 d+((k:Int)-2)<=a.2)/\x=iF d (o6 d+((k:Int)-2))
 |0=>by simp[aoO]
 |m+1=>by
  unfold aoO;rw[aeh,aoM];constructor
  ·rintro(⟨k,h1,h2⟩|h)
   ·exact⟨k,by omega,h2⟩
   ·split at h
    ·rename_i hc;exact⟨m,by omega,hc,by simpa using h⟩
    ·simp at h
  ·rintro⟨k,h1,h2,h3⟩;rcases ack k m with hk|hk
   ·exact .inl ⟨k,hk,h2,h3⟩
   ·obtain rfl:k=m:=by omega
    right;rw[if_pos h2,h3];simp
theorem aqm(d:List Int)(a:Sp):∀m,(aoO d a m).length<=m
 |0=>by simp[aoO]
 |m+1=>by
  have:=aqm d a m;unfold aoO;rw[adx];split<;>simp<;>omega
def aor(d:List Int)(a:Sp):List Int:=[iF d a.1,iF d a.2]++aoO d a 5
variable {d:List Int} {x:Int}
theorem aq2{a:Sp}(hz:d.getD 2 0≠0)(h:x∈pJ d a):x∈aor d a:=by
 unfold pJ at h;rw[if_neg hz]at h;unfold aor;rcases aeh.1 h with h|h
 ·exact List.mem_append_left _ h
 ·refine List.mem_append_right _ (aoM.2 ?_);obtain⟨v,hv,rfl⟩:=abl.1 h;rw[O6]at hv;unfold hiI loI at hv;refine⟨(v-o6 d+2).toNat,by omega,?_⟩;have e:o6 d+(((v-o6 d+2).toNat:Int)-2)=v:=by omega
  rw[e];exact⟨⟨by omega,by omega⟩,rfl⟩
theorem arY{a:Sp}(hz:d.getD 2 0≠0):rq (aor d a)=rq (pJ d a):=by
 have hl1:1<=(aor d a).length:=by simp[aor]
 have hl2:1<=(pJ d a).length:=List.length_pos_of_mem oh;have key:∀x∈aor d a,foldI min (pJ d a)<=x/\x<=foldI max (pJ d a):=λx hx=>by
  unfold aor at hx;rcases aeh.1 hx with hx|hx
  ·simp only[abr,aiF,or_false]at hx;rcases hx with rfl|rfl
   ·exact⟨kI oh,kK oh⟩
   ·exact⟨kI nW,kK nW⟩
  ·obtain⟨k,_,h2,rfl⟩:=aoM.1 hx;exact aat h2.1 h2.2
 unfold rq;rw[Prod.mk.injEq];exact⟨amq (kI (aq2 hz (Er hl2))) (key _ (Er hl1)).1,amq (key _ (Ei hl1)).2 (kK (aq2 hz (Ei hl2)))⟩
theorem arv{n:ak}(hk:n.ai=8)(a b:Sp):fA n a b=pJ n.data.xs a:=by
 unfold fA pJ;rw[if_neg aa,if_neg aa,if_neg aa,if_neg aa,if_pos hk]
theorem asg(hd:∀x∈d,fJ x){v:Int}(hv:fJ v):i64 (iF d v):=by
 have h:=afM (iY hd 2) (iY hd 1) (iY hd 0) hv;have h0:=iY hd 0;unfold fJ at h0;unfold iF i64;omega
theorem atK{y q:Int}{K:Int->Prop}(e:x.tdiv y=q)(hy:y≠0)(hx: -4611686018427387904<=x/\x<=4611686018427387904)(h:K q):yM .i64 x y K:=by
 subst e;exact ahk hy hx h
theorem ar_(w:World)(n:ak)(sv:aY)(b2:Option Addr)(c2:Nat)(acc:List Sp)(b:Sp)(hk:n.ai=8)(hno:n.ok w)(nd:∀x∈n.data.xs,fJ x)(h8:n.data.xs.length=3)(ha0:0<=n.a)(hacc:bE w b2 2 (gz acc))(hlt:n.a.toNat<acc.length)(hbd:fJ (acc.getD n.a.toNat (0,0)).1/\fJ (acc.getD n.a.toNat (0,0)).2):Calls Tryz.prog 44 #[n.p9,sv.val,.slice b2 acc.length c2] w λe w'=>e= .returned (o7 (rq (fA n (acc.getD n.a.toNat (0,0)) b)))/\Ext w w':=by
 have apD:∀w',Calls Tryz.prog 90 #[.int .i64 n.ai] w' λe w''=>e= .returned (.bool false)/\Ext w' w'':=λw'=>aqL w' aa;have hna:n.a=(n.a.toNat:Int):=(alP ha0).symm;have hd:=hno.data;obtain⟨a2,ha2⟩:∃a,b2=some a:=aT (j:=n.a.toNat) hacc aoj;obtain⟨ua,rO⟩:=hd.base aa;have hur:∀(R:Nat->Prop) w',(aU w).holds R w'->bE w' (some ua) 1 (aZ n.data.xs):=λR w' h=>by rw[<-rO];exact aH h hd.rows
 have ap0:=an9 hlt;rw[arv hk];generalize acc.getD n.a.toNat (0,0)=a at*;obtain⟨p1,p2⟩:=hbd;have g0:=iY nd 0;have g1:=iY nd 1;have g2:=iY nd 2;have hpw:∀v,iF n.data.xs v=n.data.xs.getD 2 0*v*v+n.data.xs.getD 1 0*v+n.data.xs.getD 0 0:=λ_=>rfl;have hfit:∀v,fJ v->i64 (iF n.data.xs v):=λv hv=>asg nd hv;have hps:=arY (d:=n.data.xs) (a:=a);have hrl:=aqm n.data.xs a;have hT:o6 n.data.xs=(0-n.data.xs.getD 1 0).tdiv (2*n.data.xs.getD 2 0):=rfl;have hTb: -1048576<=o6 n.data.xs/\o6 n.data.xs<=1048576:=by
  have h1:((0-n.data.xs.getD 1 0).tdiv (2*n.data.xs.getD 2 0)).natAbs<=(0-n.data.xs.getD 1 0).natAbs:=by rw[Int.natAbs_tdiv];exact anJ _ _
  rw[hT];unfold fJ at g1;omega
 generalize hd0:n.data.xs.getD 0 0=d0 at*;generalize hd1:n.data.xs.getD 1 0=d1 at*;generalize hd2:n.data.xs.getD 2 0=d2 at*;have hpc:∀v w',fJ v->Calls Tryz.prog 92 #[.int .i64 d0,.int .i64 d1,.int .i64 d2,.int .i64 v] w' λe w''=>e= .returned (.int .i64 (iF n.data.xs v))/\Ext w' w'':=λv w' hv=>by rw[hpw];exact aph w' d0 d1 d2 v g0 g1 g2 hv
 have hpe:∀hz:d2=0,pJ n.data.xs a=[iF n.data.xs a.1,iF n.data.xs a.2]:=λhz=>by unfold pJ;rw[hd2,if_pos hz]
 clear hpw;refine fH Tryz.func44 [.agg (vo n),.c sv.val,.c (.slice b2 acc.length c2)] ?_;by_cases hz:d2=0
 ·rw[hpe hz];repeat' ((conv=>whnf)<;>first|refine aod ?_|refine apO ?_|refine aoq ?_|refine apP ?_|refine apo ?_|refine apy ?_|(show qN ..;(refine vE (w0:=w) [iF n.data.xs a.1,iF n.data.xs a.2] (λR w' h=>h) rfl rfl (λx hx=>by simp only[abr,aiF,or_false]at hx;rcases hx with rfl|rfl;exact hfit _ p1;exact hfit _ p2) aI (λu hu iL=> ?_)))|(show aJ _ 89 ..;(refine aR (f:=89) Tryz.call89 (o7 (rq [iF n.data.xs a.1,iF n.data.xs a.2])) (λρ w' hw=>hu▸aos w' u (ae hw λR h=>dw iL ((bX u).mono h.2 (λb hb=>hb.1))) (by rw[hu];simp)) ?_))|(show cO _ 31 ..;refine mV [] _ asW ?_)|refine bV ?_|refine ag ?_ ?_<;>intro _)
  all_goals(conv=>whnf)
  all_goals exact bZ (λ_ _ h=>h.1) (λ_=>rfl) rfl
 ·rw[<-hps hz];repeat' ((conv=>whnf)<;>first|refine aod ?_|refine apO ?_|refine aoq ?_|refine apP ?_|refine apo ?_|refine apy ?_|(show cO _ 31 ..;refine mV [] _ asW ?_)|refine bV ?_|refine ag ?_ ?_<;>intro _)
  all_goals(conv=>whnf)
  have p1':=p1;have p2':=p2;unfold fJ at p1' p2' g1 g2;refine Wp.loop (σ:=Nat×Int×Nat) 5 (λ⟨k,d,m⟩=>[(6,.lp 1 0 0 0),(7,.lp 2 0 0 0),(18,aC d0),(19,aC d1),(20,aC d2),(21,.os 4 m),(22,aC d)]) (λ⟨k,d,m⟩=>[(4,.rows (aZ ([iF n.data.xs a.1,iF n.data.xs a.2]++aoO n.data.xs a k)) 1 3),(2,.box [aC a.1,aC a.2] 58),(1,.box [aC 0,aC 0] 58)]) (λ_=>aU w)
   (λ⟨k,d,m⟩=>k<=5/\d=(k:Int)-2/\m=([iF n.data.xs a.1,iF n.data.xs a.2]++aoO n.data.xs a k).length) (λs=>5-s.1) (0,-2,2) [(4,some 3)] ay (λs=>⟨rfl,rfl⟩) ⟨by decide,rfl,rfl⟩ ⟨rfl,⟨rfl,rfl,rfl,rfl,rfl,rfl,rfl,trivial⟩,fE,λ_ _ h=>h⟩ ?_
  rintro⟨k,d,m⟩ ⟨hk5,hdk,hm⟩;have hrl2:=hrl k;by_cases hkl:k<5
  ·have hrs:aoO n.data.xs a (k+1)=aoO n.data.xs a k++(if a.1<=o6 n.data.xs+d/\o6 n.data.xs+d<=a.2 then [iF n.data.xs (o6 n.data.xs+d)]else []):=by rw[hdk];rfl
   have hm7:m<=7:=by rw[hm];simp;omega
   repeat' ((conv=>whnf)<;>first|(show yM ..;refine atK hT.symm aa aa ?_)|(show aJ _ 92 ..;refine aR (f:=92) Tryz.call92 (.int .i64 (iF n.data.xs (o6 n.data.xs+d))) (λρ w' hw=>hpc (o6 n.data.xs+d) w' ⟨by omega,by omega⟩) ?_)|(show Gn ..;(refine mg (by rw[aP,hm];exact Tw _) ?_))|(show jv ..;(refine fU aoF ?_))|refine bV ?_|refine ag ?_ ?_<;>intro _)
   all_goals(conv=>whnf)
   all_goals first|exact⟨(k+1,_,m+1),[(4,some 6)],⟨hkl,by omega,by rw[hrs,if_pos ⟨by omega,by omega⟩,<-ahZ,adx,<-hm];rfl⟩,by simp only;omega,rfl,⟨rfl,rfl,rfl,rfl,rfl,rfl,rfl,trivial⟩,⟨by
    show(6,b_.rows (aZ ([iF n.data.xs a.1,iF n.data.xs a.2]++aoO n.data.xs a (k+1))) 1 3)∈_;rw[hrs,if_pos ⟨by omega,by omega⟩,<-ahZ];exact an6 _ _ hm,aj,aj,trivial⟩,λ_ _ h=>h⟩|exact⟨(k+1,_,m),[(4,some 4)],⟨hkl,by omega,by rw[hrs,if_neg aa,ajM];exact hm⟩,by simp only;omega,rfl,⟨rfl,rfl,rfl,rfl,rfl,rfl,rfl,trivial⟩,⟨by
    show(4,b_.rows (aZ ([iF n.data.xs a.1,iF n.data.xs a.2]++aoO n.data.xs a (k+1))) 1 3)∈_;rw[hrs,if_neg aa,ajM];exact aj,aj,aj,trivial⟩,λ_ _ h=>h⟩
  ·have hkz:k=5:=by omega
   subst hkz;subst hm;refine Wp.Vh 4 w.heap.size (k:=1) (xs:=aZ (aor n.data.xs a)) (T:=3) aj (λR w' h b hb=>(h b hb).1) (λl1 hl1=> ?_);rw[aP]at hl1;have hfits:∀x∈aor n.data.xs a,i64 x:=λx hx=>by
    unfold aor at hx;rcases aeh.1 hx with hx|hx
    ·simp only[abr,aiF,or_false]at hx;rcases hx with rfl|rfl
     ·exact hfit _ p1
     ·exact hfit _ p2
    ·obtain⟨k,_,h2,rfl⟩:=aoM.1 hx;exact hfit _ ⟨by omega,by omega⟩
   repeat' ((conv=>whnf)<;>first|(show aJ _ 89 ..;(refine aR (f:=89) Tryz.call89 (o7 (rq (aor n.data.xs a))) (λρ w' hw=>aos w' ⟨l1.base,l1.cap,aor n.data.xs a⟩ (ae hw λR h=>⟨bf h.2,hfits,hl1,by simp only[aor];simp;omega⟩) (by simp[aor])) ?_))|refine bV ?_|refine ag ?_ ?_<;>intro _)
   all_goals(conv=>whnf)
   all_goals exact bZ (λ_ _ h=>h.1) (λ_=>rfl) rfl
end
theorem ap4(w:World)(n:ak)(sv:aY)(kb:Option Addr)(kc:Nat)(kn:List ax)(hkr:bE w kb 1 (bA kn))(a b:ax)(cnt:Nat)(h:afh w n cnt a b)(hno:n.ok w)(ha0:0<=n.a)(hb0:0<=n.b)(h1:1<=cnt)(hka:n.ai≠2->kn[n.a.toNat]? =some a)(hkb:n.ai=6->kn[n.b.toNat]? =some b):Calls Tryz.prog 76 #[n.p9,sv.val,.slice kb kn.length kc] w (Co w n (o5 n cnt a.xs b.xs)):=by
 have hbd:=afJ h;obtain⟨hk,ug,hd,hdb,hco,hsc,hpo,ha,hb,hal,hbl,hab,hbb⟩:=h;have apD:∀w',Calls Tryz.prog 90 #[.int .i64 n.ai] w' λe w''=>e= .returned (.bool false)/\Ext w' w'':=λw'=>aqL w' aa;have hna:n.a=(n.a.toNat:Int):=(alP ha0).symm;have hnb:n.b=(n.b.toNat:Int):=(alP hb0).symm;by_cases hk2:n.ai=2
 ·have hL:o5 n cnt a.xs b.xs=n.data.xs:=by
   have hl:=hco hk2;unfold o5;apply alQ
   ·simp[hl]
   ·intro i g1 g2;rw[anm,am3];unfold gu;rw[if_pos hk2,TR,YL g2];rfl
  refine fH Tryz.func76 [.agg (vo n),.c sv.val,.c (.slice kb kn.length kc)] ?_;repeat' ((conv=>whnf)<;>first|refine bV ?_|refine ag ?_ ?_<;>intro _)
  all_goals(conv=>whnf)
  all_goals exact adT (λ_ _ h=>h) rfl hd.bF hL.symm
 ·have hka:=hka hk2;have hal:=hal hk2;obtain⟨hkl,hke⟩:=abH.1 hka;obtain⟨ka,asL⟩:∃a,kb=some a:=aT (j:=n.a.toNat) hkr AX;have ar0:(bA kn)[n.a.toNat]? =some [a.val]:=by rw[fQ hkl,hke]
  obtain⟨va,hva⟩:=ha.base aa;have hvr:∀(R:Nat->Prop) w',(aU w).holds R w'->bE w' (some va) 1 (aZ a.xs):=λR w' h=>by rw[<-hva];exact aH h ha.rows
  refine fH Tryz.func76 [.agg (vo n),.c sv.val,.c (.slice kb kn.length kc)] ?_;repeat' ((conv=>whnf)<;>first|refine aod ?_|(show dn ..;refine aM ka n.a.toNat asL hna hkl ?_)|(show gZ ..;(refine bN (λR w' h=>by rw[<-asL];exact aH h hkr) _ _ ar0 rfl ?_))|refine bV ?_|refine ag ?_ ?_<;>intro _)
  all_goals(conv=>whnf)
  refine Wp.loop (σ:=Nat) 2 (λi=>[(2,.c (.slice kb kn.length kc)),(3,.lp 0 0 0 0),(7,.c a.val),(8,.os 1 i),(75,.c a.val),(76,aC cnt),(77,aC i)]) (λi=>[(1,.rows (aZ ((List.range i).map (gu n a.xs b.xs))) 1 3),(0,.box (vo n) 41)]) (λ_=>aU w)
   (λi=>i<=cnt) (λi=>cnt-i) 0 [(1,none)] ay (λs=>⟨rfl,rfl⟩) (aae _) ⟨rfl,⟨rfl,rfl,rfl,rfl,rfl,?_,rfl,trivial⟩,⟨rfl,aj,trivial⟩,λ_ _ h=>h⟩ ?_
  ·rw[<-hal];rfl
  rintro i hi;have hlen:((List.range i).map (gu n a.xs b.xs)).length=i:=by simp
  by_cases hlt:i<cnt
  ·have hv:fJ (a.xs.getD i 0):=iY hab i;have hsn:(List.range (i+1)).map (gu n a.xs b.xs)=(List.range i).map (gu n a.xs b.xs)++[gu n a.xs b.xs i]:=by rw[ait,afn];rfl
   have hkk:n.ai=6\/n.ai=7\/n.ai=8\/n.ai=9:=by omega
   rcases hkk with hk6|hk7|hk8|hk9
   ·have hN:gu n a.xs b.xs i=a.xs.getD i 0+b.xs.getD i 0:=by unfold gu;rw[if_neg aa,if_pos hk6]
    have hkb:=hkb hk6;have hbl:=hbl hk6;obtain⟨ak8,hke2⟩:=abH.1 hkb;have amg:(bA kn)[n.b.toNat]? =some [b.val]:=by rw[fQ ak8,hke2]
    obtain⟨vb,hvb⟩:=hb.base aa;have hbr:∀(R:Nat->Prop) w',(aU w).holds R w'->bE w' (some vb) 1 (aZ b.xs):=λR w' h=>by rw[<-hvb];exact aH h hb.rows
    have hv2:fJ (b.xs.getD i 0):=iY hbb i;unfold fJ at hv hv2;repeat' ((conv=>whnf)<;>first|(show dn ..;(first|refine aM va i hva rfl aa ?_|refine aM ka n.b.toNat asL hnb ak8 ?_|refine aM vb i hvb rfl aa ?_))|(show gZ ..;(first|refine dP hvr (j:=i) aa ?_|refine bN (λR w' h=>by rw[<-asL];exact aH h hkr) _ _ amg rfl ?_|refine dP hbr (j:=i) aa ?_))|refine aoi ?_|refine aot ?_|refine bV ?_|refine ag ?_ ?_<;>intro _)
    all_goals(conv=>whnf)
    exact⟨i+1,[(1,some 3)],hlt,by omega,rfl,fE,⟨by
     show(3,b_.rows (aZ ((List.range (i+1)).map (gu n a.xs b.xs))) 1 3)∈_;rw[hsn,hN];exact an6 _ _ hlen.symm,aj,trivial⟩,λ_ _ h=>h⟩
   ·have hN:gu n a.xs b.xs i=a.xs.getD i 0*n.data.xs.getD 0 0:=by unfold gu;rw[if_neg aa,if_neg aa,if_pos hk7]
    have hs7:=hsc hk7;obtain⟨ud,hud⟩:=hd.base aa;have hdr:∀(R:Nat->Prop) w',(aU w).holds R w'->bE w' (some ud) 1 (aZ n.data.xs):=λR w' h=>by rw[<-hud];exact aH h hd.rows
    have q1:=jL (A:=1048576) (B:=1048576) hv (iY hdb 0);repeat' ((conv=>whnf)<;>first|(show dn ..;(first|refine aM va i hva rfl aa ?_|refine aM ud 0 hud rfl aa ?_))|(show gZ ..;(first|refine dP hvr (j:=i) aa ?_|refine dP hdr (j:=0) aa ?_))|refine aoi ?_|refine aot ?_|refine bV ?_|refine ag ?_ ?_<;>intro _)
    all_goals(conv=>whnf)
    exact⟨i+1,[(1,some 3)],hlt,by omega,rfl,fE,⟨by
     show(3,b_.rows (aZ ((List.range (i+1)).map (gu n a.xs b.xs))) 1 3)∈_;rw[hsn,hN];exact an6 _ _ hlen.symm,aj,trivial⟩,λ_ _ h=>h⟩
   ·have hN:gu n a.xs b.xs i=iF n.data.xs (a.xs.getD i 0):=by unfold gu;rw[if_neg aa,if_neg aa,if_neg aa,if_pos hk8]
    have hs8:=hpo hk8;obtain⟨ud,hud⟩:=hd.base aa;have hdr:∀(R:Nat->Prop) w',(aU w).holds R w'->bE w' (some ud) 1 (aZ n.data.xs):=λR w' h=>by rw[<-hud];exact aH h hd.rows
    have hpc:∀w',Calls Tryz.prog 92 #[.int .i64 (n.data.xs.getD 0 0),.int .i64 (n.data.xs.getD 1 0),.int .i64 (n.data.xs.getD 2 0),.int .i64 (a.xs.getD i 0)] w' λe w''=>e= .returned (.int .i64 (iF n.data.xs (a.xs.getD i 0)))/\Ext w' w'':=λw'=>aph w' _ _ _ _ (iY hdb 0) (iY hdb 1) (iY hdb 2) hv;repeat' ((conv=>whnf)<;>first|(show dn ..;(first|refine aM va i hva rfl aa ?_|refine aM ud 0 hud rfl aa ?_|refine aM ud 1 hud rfl aa ?_|refine aM ud 2 hud rfl aa ?_))|(show gZ ..;(first|refine dP hvr (j:=i) aa ?_|refine dP hdr (j:=0) aa ?_|refine dP hdr (j:=1) aa ?_|refine dP hdr (j:=2) aa ?_))|(show jQ _ 92 ..;refine jo (f:=92) Tryz.call92 (.int .i64 (iF n.data.xs (a.xs.getD i 0))) (λρ w' hw=>hpc w') ?_)|refine aoi ?_|refine aot ?_|refine bV ?_|refine ag ?_ ?_<;>intro _)
    all_goals(conv=>whnf)
    exact⟨i+1,[(1,some 3)],hlt,by omega,rfl,fE,⟨by
     show(3,b_.rows (aZ ((List.range (i+1)).map (gu n a.xs b.xs))) 1 3)∈_;rw[hsn,hN];exact an6 _ _ hlen.symm,aj,trivial⟩,λ_ _ h=>h⟩
   ·have hN:gu n a.xs b.xs i=a.xs.getD i 0:=by unfold gu;rw[if_neg aa,if_neg aa,if_neg aa,if_neg aa]
    repeat' ((conv=>whnf)<;>first|(show dn ..;refine aM va i hva rfl aa ?_)|(show gZ ..;refine dP hvr (j:=i) aa ?_)|refine aoi ?_|refine aot ?_|refine bV ?_|refine ag ?_ ?_<;>intro _)
    all_goals(conv=>whnf)
    exact⟨i+1,[(1,some 3)],hlt,by omega,rfl,fE,⟨by
     show(3,b_.rows (aZ ((List.range (i+1)).map (gu n a.xs b.xs))) 1 3)∈_;rw[hsn,hN];exact an6 _ _ hlen.symm,aj,trivial⟩,λ_ _ h=>h⟩
  ·have hiz:i=cnt:=Nat.le_antisymm hi (Nat.not_lt.1 hlt);subst hiz;repeat' ((conv=>whnf)<;>first|refine bV ?_|refine ag ?_ ?_<;>intro _)
   all_goals(conv=>whnf)
   exact rW (B:=⟨w,[]⟩) (λ_ _ h=>h) rfl aj hlen.symm (λz hz=>by
    obtain⟨q,hq,rfl⟩:=abl.1 hz;have:=hbd q;unfold i64;omega) (by simp only[o5,aas,amj];omega)
theorem arO(w:World)(n:ak)(sh:List (List Int))(s:List Int)(sv:aY)(hs:sv.ok w)(t:ax)(cnt:Nat)(h:gN n sh s t.xs cnt)(hno:n.ok w)(ht:sv.l[n.a.toNat]? =some t)(ha0:0<=n.a)(hb0:0<=n.b)(b2:Option Addr)(c2:Nat)(acc:List Sp)(hacc:bE w b2 2 (gz acc))(hA:n.ai≠1->n.ai≠2->n.a.toNat<acc.length)(hB:n.ai=6->n.b.toNat<acc.length)(hbd:∀s∈acc,fJ s.1/\fJ s.2/\s.1<=s.2):Calls Tryz.prog 44 #[n.p9,sv.val,.slice b2 acc.length c2] w λe w'=>e= .returned (o7 (rq (jw n cnt t.xs (acc.getD n.a.toNat (0,0)) (acc.getD n.b.toNat (0,0)))))/\Ext w w':=by
 obtain⟨nd,nb,nlo,nhi,nle⟩:=Gp h.node.near;obtain⟨_,_,h7,h8,h2⟩:=uG h.node.form;have hfo:=dJ h.node.form;have hkind:=hfo.ai;by_cases hl:eF n
 ·have e3:jw n cnt t.xs (acc.getD n.a.toNat (0,0)) (acc.getD n.b.toNat (0,0))=nH n cnt (dZ n t.xs) (acc.getD n.a.toNat (0,0)):=if_pos hl;rw[e3];have hk:n.ai≠1/\n.ai≠2:=by unfold eF at hl;omega
  have hlt:=hA hk.1 hk.2;have hm:=hbd _ (aoZ hlt);exact arU w n sh s sv hs t cnt h hl hno ht ha0 b2 c2 acc hacc hlt ⟨hm.1,hm.2.1⟩
 ·have e3:jw n cnt t.xs (acc.getD n.a.toNat (0,0)) (acc.getD n.b.toNat (0,0))=fA n (acc.getD n.a.toNat (0,0)) (acc.getD n.b.toNat (0,0)):=if_neg hl;rw[e3];unfold eF at hl;by_cases hk8:n.ai=8
  ·have hlt:=hA aa aa;have hm:=hbd _ (aoZ hlt);exact ar_ w n sv b2 c2 acc _ hk8 hno nd (h8 hk8) ha0 hacc hlt ⟨hm.1,hm.2.1⟩
  ·refine aqY w n sv b2 c2 acc aa hno nd nle (λhk=> ?_) h7 ha0 hb0 hacc hA hB hbd;have:=h2 hk;have:=hfo.own (.inr (.inl hk));omega
theorem aqy(l:List Sp)(s:Sp){i m:Nat}{T:TypeId}{H:Heap}(hm:m=l.length):(i,b_.rows (gz (l++[s])) 2 T)∈(i,b_.rows (List.take m (gz l)++[[.int .i64 s.1,.int .i64 s.2]]) 2 T)::H:=by
 subst hm;rw[show gz (l++[s])=List.take l.length (gz l)++[[.int .i64 s.1,.int .i64 s.2]] by rw[aen EP];simp[gz]];exact YV
theorem aoI(w:World)(g:bM)(hg:g.ok w):Calls Tryz.prog 16 #[g.val] w (Dn w (cZ g)):=by
 refine fH Tryz.func16 [.agg [.c (.slice g.base g.l.length g.cap),aC g.out]] ?_;repeat' ((conv=>whnf)<;>first|refine a_ ?_|refine ag ?_ ?_<;>intro _)
 refine oD (f:=34) (check g) Tryz.call34 (λρ w' hw=>U7 w' g (ae hw λR h=>hg.later h)) (λhne=> ?_) (λhe sv hm hsv=> ?_)
 ·have hq:cZ g=((check g).1,[]):=if_pos hne;rw[hq];repeat' ((conv=>whnf)<;>first|(show @iG _ _ _;refine gJ hne ?_)|refine a_ ?_)
  conv=>whnf
  exact Rc (λ_ _ h=>h) rfl hne (λ_=>rfl)
 have hq:cZ g=iJ (check g).2 g.l []:=if_neg (λh=>h he);rw[hq];obtain⟨hl1,Ez,hout,hcl,hin⟩:=gK he;have hsl:sv.l.length=g.l.length:=by rw[<-hcl,<-hm];simp
 repeat' ((conv=>whnf)<;>first|refine a_ ?_|refine ag ?_ ?_<;>intro _)
 refine Wp.loop (σ:=Nat×List Sp) 2 (λ⟨i,acc⟩=>[(4,.c sv.val),(6,.os 1 i),(19,.c (.slice g.base g.l.length g.cap)),(20,aC g.l.length),(21,aC i)]) (λ⟨i,acc⟩=>[(1,.rows (gz acc) 2 58)]) (λ_=>(aU w).and ((jD sv).past w.heap.size))
  (λ⟨i,acc⟩=>i<=g.l.length/\acc.length=i/\iJ (check g).2 (g.l.drop i) acc=iJ (check g).2 g.l []/\(∀s∈acc,fJ s.1/\fJ s.2/\s.1<=s.2)) (λs=>g.l.length-s.1) (0,[]) [(1,none)] ay (λs=>⟨rfl,rfl⟩) ⟨aae _,rfl,rfl,λs hs=>by simp at hs⟩ ⟨rfl,⟨rfl,rfl,rfl,rfl,rfl,trivial⟩,⟨rfl,trivial⟩,λ_ _ h=>h⟩ ?_
 rintro⟨i,acc⟩ ⟨hi,hal,hsp,hab⟩;by_cases hlt:i<g.l.length
 ·obtain⟨a,ha⟩:∃a,g.base=some a:=aT (j:=i) hg.rows ko;have hnm:=aby hlt;obtain⟨s,hs,hni⟩:=hin i g.l[i] (YL hlt);have hdrop:g.l.drop i=g.l[i]::g.l.drop (i+1):=ahc hlt;rw[hdrop]at hsp;have hrow:=fP hlt;have hpi:=yl he (YL hlt);generalize g.l[i]=n at*;have hn:=hg.each n hnm;obtain⟨⟨ha0,akK,hai⟩,⟨hb0,alB,hbi⟩,cnt,hcnt,hpl⟩:=hpi;have e1:(check g).2.getD i []=s:=by rw[TR,hs];rfl
  rw[e1]at hcnt hpl;obtain⟨t,ht,hts⟩:∃t,sv.l[n.a.toNat]? =some t/\t.xs=(check g).2.getD n.a.toNat []:=by
   have hlt2:n.a.toNat<sv.l.length:=by omega
   refine⟨sv.l[n.a.toNat],YL hlt2,?_⟩;rw[<-hm,TR,ab5,YL hlt2];rfl
  rw[<-hts]at hpl;have hfo:=dJ hni.form;have hti:((check g).2.take i).length=i:=by rw[aek,hcl];omega
  have hEq:jm (check g).2 n acc=jw n cnt t.xs (acc.getD n.a.toNat (0,0)) (acc.getD n.b.toNat (0,0)):=by
   unfold jm;rw[hal,e1,hcnt,hts];rfl
  have hEL:=I7 hpl (acc.getD n.a.toNat (0,0)) (acc.getD n.b.toNat (0,0));have arS:∀w',sv.ok w'->n.ok w'->∀b2 c2,bE w' b2 2 (gz acc)->Calls Tryz.prog 44 #[n.p9,sv.val,.slice b2 i c2] w' λe w''=>e= .returned (o7 (rq (jw n cnt t.xs (acc.getD n.a.toNat (0,0)) (acc.getD n.b.toNat (0,0)))))/\Ext w' w'':=λw' h1 h2 b2 c2 h3=>by
   rw[<-hal];exact arO w' n _ s sv h1 t cnt hpl h2 ht ha0 hb0 b2 c2 acc h3 (λk1 k2=>by have:=hfo.a k1 k2;omega) (λk6=>by have:=hfo.b k6;omega) hab
  generalize jw n cnt t.xs (acc.getD n.a.toNat (0,0)) (acc.getD n.b.toNat (0,0))=E at*;have z1:(rq E).1=foldI min E:=rfl;have z2:(rq E).2=foldI max E:=rfl;by_cases hr:foldI min E< -1048576\/1048576<foldI max E
  ·have hq2:iJ (check g).2 (n::g.l.drop (i+1)) acc=(5,[]):=by simp only[iJ];rw[hEq,if_pos hr]
   rw[hq2]at hsp;rw[<-hsp];repeat' ((conv=>whnf)<;>first|refine pR ?_|refine A_ ?_|refine apm ?_|refine a_ ?_|refine ag ?_ ?_<;>intro _)
   all_goals(conv=>whnf)
   all_goals first|(exfalso;omega)|exact Rc (λ_ _ h=>h.1) rfl ay (λ_=>rfl)
  ·have hq2:iJ (check g).2 (n::g.l.drop (i+1)) acc=iJ (check g).2 (g.l.drop (i+1)) (acc++[(foldI min E,foldI max E)]):=by
    conv=>lhs;unfold iJ
    rw[hEq,if_neg hr]
   rw[hq2]at hsp;have hle:=XT hEL;repeat' ((conv=>whnf)<;>first|refine pR ?_|refine A_ ?_|refine apm ?_|(show Gn ..;(refine mg (by rw[jg,hal];exact Tw _) ?_))|(show jv ..;(refine fU (by show(i+1)*16<=140737488355328;omega) ?_))|refine a_ ?_|refine ag ?_ ?_<;>intro _)
   all_goals(conv=>whnf)
   all_goals first|(exfalso;omega)|exact⟨(i+1,acc++[(foldI min E,foldI max E)]),[(1,some 5)],⟨hlt,by rw[adx,hal];rfl,hsp,λs hs=>by
    rcases aeh.1 hs with h|h
    ·exact hab s h
    ·simp at h;subst h;unfold fJ;omega⟩,by simp only;omega,rfl,⟨rfl,rfl,rfl,rfl,rfl,trivial⟩,⟨aqy acc (foldI min E,foldI max E) hal.symm,trivial⟩,λ_ _ h=>h⟩
 ·have hiz:i=g.l.length:=by omega
  subst hiz;rw[akY]at hsp;repeat' ((conv=>whnf)<;>first|refine a_ ?_|refine ag ?_ ?_<;>intro _)
  conv=>whnf
  exact aar (l:=acc) (λ_ _ h=>h.1) rfl aj hal.symm (by rw[<-hsp];rfl)
section
theorem aqO(w:World)(n:ak)(sh:List (List Int))(s:List Int)(sv:aY)(hs:sv.ok w)(t:ax)(cnt:Nat)(h:gN n sh s t.xs cnt)(hk1:n.ai≠1)(hno:n.ok w)(ht:sv.l[n.a.toNat]? =some t)(ha0:0<=n.a)(hb0:0<=n.b)(kb:Option Addr)(kc:Nat)(kn:List ax)(hkr:bE w kb 1 (bA kn))(a b:ax)(hka:n.ai≠2->kn[n.a.toNat]? =some a)(hkb:n.ai=6->kn[n.b.toNat]? =some b)(hao:a.ok w)(hbo:b.ok w)(hab:∀x∈a.xs,fJ x)(hbb:∀x∈b.xs,fJ x)(hn:NumIn n sh a.xs b.xs):Calls Tryz.prog 76 #[n.p9,sv.val,.slice kb kn.length kc] w (Co w n (gH n cnt t.xs a.xs b.xs)):=by
 by_cases hl:eF n
 ·have e3:gH n cnt t.xs a.xs b.xs=jh n cnt cnt (dZ n t.xs) a.xs:=if_pos hl;rw[e3];have hk2:n.ai≠2:=by unfold eF at hl;omega
  have hal:=hn.Yh hk1 hk2;rw[(h.first hl).1]at hal;exact aq0 w n sh s sv hs t cnt h hl hno ht ha0 kb kc kn hkr a (hka hk2) hao hab hal
 ·have e3:gH n cnt t.xs a.xs b.xs=o5 n cnt a.xs b.xs:=if_neg hl;rw[e3];obtain⟨_,_,h7,h8,h2⟩:=uG h.node.form;obtain⟨nd,nb,nlo,nhi,nle⟩:=Gp h.node.near;obtain⟨q1,q2,q3,q4⟩:=OQ h hl hk1 hn;exact ap4 w n sv kb kc kn hkr a b cnt ⟨q1,h.few.2,hno.data,nd,q2,h7,h8,hao,hbo,q3,q4,hab,hbb⟩ hno ha0 hb0 h.few.1 hka hkb
abbrev Mix:=ax×Bool
def anj(N:Nat)(l:List Mix):bR where
 holds R w:=∀p∈l,p.2=false->(Oi N p.1).holds R w
 stable:=λhR hw h p hp e=>(Oi N p.1).stable hR hw (h p hp e)
theorem asH(N:Nat)(R:Nat->Prop)(w:World):(anj N []).holds R w:=λp hp=>by simp at hp
variable {N:Nat} {l:List Mix} {R:Nat->Prop} {w:World}
theorem aqE{p:Mix}(h:(anj N l).holds R w)(hp:p.2=false->(Oi N p.1).holds R w):(anj N (l++[p])).holds R w:=λq hq=>by
 rcases aeh.1 hq with hq|hq
 ·exact h q hq
 ·rw[afe.1 hq];exact hp
structure V7(src:List ax)(l:List Mix):Prop where
 bF:∀p∈l,p.1.bF
 old:∀p∈l,p.2=true->p.1∈src
theorem V7.ok{src:List ax}{w w':World}{R:Nat->Prop}{N:Nat}{l:List Mix}(h:V7 src l)(hs:∀u∈src,u.ok w)(hb:(aU w).holds R w')(hm:(anj N l).holds R w'):∀u∈l.map Prod.fst,u.ok w':=λu hu=>by
 obtain⟨p,hp,rfl⟩:=abl.1 hu;cases e:p.2 with
 |true=>exact(hs _ (h.old p hp e)).later hb
 |false=>exact dw (h.bF p hp) ((bX p.1).mono (hm p hp e) (λb hb=>hb.1))
variable {src:List ax}
theorem V7.snoc{p:Mix}(h:V7 src l)(hs:p.1.bF)(ho:p.2=true->p.1∈src):V7 src (l++[p]):=by
 refine⟨λq hq=> ?_,λq hq=> ?_⟩
 ·rcases aeh.1 hq with hq|hq
  ·exact h.bF q hq
  ·rw[afe.1 hq];exact hs
 ·rcases aeh.1 hq with hq|hq
  ·exact h.old q hq
  ·rw[afe.1 hq];exact ho
def apu(g:bM)(iv:aY):List ax:=g.l.map ak.data++iv.l
theorem asY{g:bM}{iv:aY}(hg:g.ok w)(hi:InV.ok w iv):∀u∈apu g iv,u.ok w:=λu hu=>by
 rcases aeh.1 hu with hu|hu
 ·obtain⟨n,hn,rfl⟩:=abl.1 hu;exact(hg.each n hn).data
 ·exact hi.each u hu
def ao1(src:List ax)(w:World)(r:Int×List (List Int))(e:Ending)(w':World):Prop:=
 (r.1≠0/\e= .returned (.tuple #[.slice none 0 0,.int .i64 r.1])/\Ext w w')\/(r.1=0/\∃(base:Option Addr) (cap:Nat) (l:List Mix),(l.map λp=>p.1.xs)=r.2/\V7 src l/\e= .returned (.tuple #[.slice base l.length cap,.int .i64 0])/\Ext w w'/\(f_ base 1 (bA (l.map Prod.fst))).holds (λb=>w.heap.size<=b/\b<w'.heap.size) w'/\∀p∈l,p.2=false->(bX p.1).holds (λb=>w.heap.size<=b/\b<w'.heap.size) w')
variable {B:Base} {H:Heap} {S:bR} {nx:Nat} {r:Int×List (List Int)}
theorem aoL{v:SV}(hb:∀R w',S.holds R w'->(aU B.w0).holds R w')(hw0:B.w0=w)(hn:r.1≠0)(hv:∀ρ,v.rf ρ= .tuple #[.slice none 0 0,.int .i64 r.1]):jS B v H S nx (ao1 src w r):=by
 subst hw0;exact dK λρ w' hw=> .inl ⟨hn,by rw[hv],bG hw hb⟩
theorem all_good{i m:Nat}(hb:∀R w',S.holds R w'->(aU B.w0).holds R w')(hE:∀R w',S.holds R w'->(anj B.w0.heap.size l).holds R w')(hw0:B.w0=w)(he:(i,b_.rows (bA (l.map Prod.fst)) 1 32)∈H)(hm:m=l.length)(hl:V7 src l)(hr:r=(0,l.map λp=>p.1.xs)):jS B (.xg [.os i m,aC 0]) H S nx (ao1 src w r):=by
 subst hw0 hm hr;refine dK λρ w' hw=> .inr ⟨rfl,?_⟩;have hn:=fI hw hb he;rw[acN]at hn;obtain⟨base,cap,e,hc,hD⟩:=aoC hn;rw[aas]at e;refine⟨base,cap,l,rfl,hl,?_,bG hw hb,hD,λp hp h0=>lW hw (D:=bX p.1) λR w' h=>hE R w' h p hp h0⟩;show Ending.returned (.tuple #[(SV.os i l.length).rf ρ,.int .i64 0])=_;rw[e]
def aoG(g:bM)(inp:List (List Int)):Int×List (List Int):=if(cZ g).1≠0 then((cZ g).1,[])else pE g inp
end
section
section
variable {P:ax->Prop} {N:Nat}
end
end
end Go.Proofs.YtgndjjdeopfdkaaGreat

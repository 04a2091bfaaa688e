import Derived.Test.YtgndjjdeopfdkaaGreatKLowerMeans8d
/- texts LP MG of the proof of LowerMeansSaid -/
set_option maxHeartbeats 16000000
set_option maxRecDepth 20000
set_option linter.unusedVariables false
set_option linter.unusedSimpArgs false
namespace Go.Proofs.YtgndjjdeopfdkaaGreat
open Go.RowKit Go.SX
theorem asi(w:World)(n:ak)(t:ax)(ht:t.ok w)(hno:n.ok w)(hk:n.ai=4)(size cnt:Nat)(k0 k1 k2 k3 i1 i2:Int)(hsx:n.az.xs=[k0,k1,k2,k3])(htx:t.xs=[k1,i1,i2])(hsz:au t.xs=size)(akl:size<=64)(b0:1<=k0/\k0<=64)(b1:1<=k1/\k1<=64)(b2:1<=k2/\k2<=i1)(b3:1<=k3/\k3<=i2)(bi1:i1<=64)(bi2:i2<=64)(hdl:(n.data.xs.length:Int)=k0*k1*k2*k3)(hbl:(n.aQ.xs.length:Int)=k0)(hdb:∀x∈n.data.xs,fJ x)(hbb:∀x∈n.aQ.xs,fJ x)(hcnt:(cnt:Int)=k0*(i1-k2+1)*(i2-k3+1))(ah9:cnt<=64)(hat:∀o:Nat,o<cnt->∀s∈CS n.data.xs k1 k2 k3 i1 i2 o,0<=s.2/\s.2<size):Calls Tryz.prog 91 #[n.p9,t.val] w (aog w n t.xs cnt):=by
 have atQ:0<n.data.xs.length:=by
  have:=amz (amz (amz (show 0<k0 by omega) (show 0<k1 by omega)) (show 0<k2 by omega)) (show 0<k3 by omega);omega
 obtain⟨ut,hut⟩:=ht.base (by rw[htx];simp);obtain⟨ua,iL⟩:=hno.az.base (by rw[hsx];simp);obtain⟨ub,hub⟩:=hno.aQ.base aa;obtain⟨ud,hud⟩:=hno.data.base atQ;have hur:∀(R:Nat->Prop) w',(aU w).holds R w'->bE w' (some ut) 1 (aZ t.xs):=λR w' h=>by rw[<-hut];exact aH h ht.rows
 have hsr:∀(R:Nat->Prop) w',(aU w).holds R w'->bE w' (some ua) 1 (aZ n.az.xs):=λR w' h=>by rw[<-iL];exact aH h hno.az.rows
 have hbr:∀(R:Nat->Prop) w',(aU w).holds R w'->bE w' (some ub) 1 (aZ n.aQ.xs):=λR w' h=>by rw[<-hub];exact aH h hno.aQ.rows
 have hdr:∀(R:Nat->Prop) w',(aU w).holds R w'->bE w' (some ud) 1 (aZ n.data.xs):=λR w' h=>by rw[<-hud];exact aH h hno.data.rows
 have g1:t.xs.getD 1 0=i1:=by rw[htx];rfl
 have g2:t.xs.getD 2 0=i2:=by rw[htx];rfl
 have s0:n.az.xs.getD 0 0=k0:=by rw[hsx];rfl
 have s1:n.az.xs.getD 1 0=k1:=by rw[hsx];rfl
 have s2:n.az.xs.getD 2 0=k2:=by rw[hsx];rfl
 have s3:n.az.xs.getD 3 0=k3:=by rw[hsx];rfl
 have hl3:t.xs.length=3:=by rw[htx];rfl
 have hl4:n.az.xs.length=4:=by rw[hsx];rfl
 obtain⟨H,hHd⟩:∃H,i1-k2+1=H:=⟨_,rfl⟩;obtain⟨W,hWd⟩:∃W,i2-k3+1=W:=⟨_,rfl⟩;rw[hHd,hWd]at hcnt;have hH0:0<=H:=by omega
 have hW0:0<=W:=by omega
 have hTl:∀o:Nat,((CS n.data.xs k1 k2 k3 i1 i2 o).length:Int)=k1*k2*k3:=λo=>by
  have:0<=k1*k2*k3:=agJ (agJ aa aa) aa;simp only[CS,aas,amj];exact alP this
 have c1:B64 k1:=⟨by omega,b1.2⟩;have c2:B64 k2:=⟨by omega,by omega⟩;have c3:B64 k3:=⟨by omega,by omega⟩;have ci1:B64 i1:=⟨by omega,bi1⟩;have ci2:B64 i2:=⟨by omega,bi2⟩;refine fH Tryz.func91 [.agg (vo n),.c t.val] ?_;repeat' ((conv=>whnf)<;>first|refine aoD ?_|refine bV ?_|refine ag ?_ ?_<;>intro _)
 refine Wp.loop (σ:=Int×Nat×List ax×List Int) 3 (λ⟨o,m,us,bs⟩=>[(1,.c t.val),(2,.lp 0 0 0 0),(6,aC size),(18,.c n.az.val),(7,.os 1 m),(17,.os 2 m),(19,aC o)]) (λ⟨_,_,us,bs⟩=>[(1,.rows (bA us) 1 32),(2,.rows (aZ bs) 1 3),(0,.box (vo n) 41)]) (λ⟨_,_,us,_⟩=>(aU w).and (rT w.heap.size us))
  (λ⟨o,m,us,bs⟩=>(0<=o/\o<=k0)/\ZA n t.xs cnt us bs m/\(m:Int)=o*H*W) (λs=>(k0-s.1).toNat) (0,0,[],[]) [(1,none),(2,none)] ay (λs=>⟨rfl,rfl⟩) ⟨⟨aem _,by omega⟩,⟨⟨rfl,λu hu=>by simp at hu⟩,rfl⟩,by simp⟩ ⟨rfl,⟨rfl,rfl,?_,rfl,rfl,rfl,rfl,trivial⟩,⟨rfl,rfl,aj,trivial⟩,λR w' h=>⟨h,yD _ R w'⟩⟩ ?_
 ·rw[hsz];rfl
 rintro⟨o,m,us,bs⟩ ⟨⟨ho0,ho1⟩,hso,hmo⟩;by_cases hok:o<k0
 ·repeat' ((conv=>whnf)<;>first|refine amY ?_|refine amV ?_|refine bV ?_|refine ag ?_ ?_<;>intro _)
  refine Wp.loop (σ:=Int×Nat×List ax×List Int) 5 (λ⟨y,m,us,bs⟩=>[(1,.c t.val),(2,.lp 0 0 0 0),(6,aC size),(18,.c n.az.val),(7,.os 3 m),(17,.os 4 m),(19,aC o),(20,aC y)]) (λ⟨_,_,us,bs⟩=>[(3,.rows (bA us) 1 32),(4,.rows (aZ bs) 1 3),(0,.box (vo n) 41)]) (λ⟨_,_,us,_⟩=>(aU w).and (rT w.heap.size us))
   (λ⟨y,m,us,bs⟩=>(0<=y/\y<=H)/\ZA n t.xs cnt us bs m/\(m:Int)=(o*H+y)*W) (λs=>(H-s.1).toNat) (0,m,us,bs) [(3,some 1),(4,some 2)] ay (λs=>⟨rfl,rfl⟩) ⟨⟨aem _,hH0⟩,hso,by rw[hmo,amE]⟩ ⟨rfl,⟨rfl,rfl,rfl,rfl,rfl,rfl,rfl,rfl,trivial⟩,fE,λ_ _ h=>h⟩ ?_
  clear hmo hso;have co:B64 o:=⟨ho0,aha ho1 b0.2⟩;rintro⟨y,m,us,bs⟩ ⟨⟨hy0,hy1⟩,hso,hmy⟩;by_cases hyi:y<H
  ·repeat' ((conv=>whnf)<;>first|refine amY ?_|refine amV ?_|refine bV ?_|refine ag ?_ ?_<;>intro _)
   refine Wp.loop (σ:=Int×Nat×List ax×List Int) 7 (λ⟨x,m,us,bs⟩=>[(1,.c t.val),(2,.lp 0 0 0 0),(6,aC size),(18,.c n.az.val),(7,.os 5 m),(17,.os 6 m),(19,aC o),(20,aC y),(21,aC x)]) (λ⟨_,_,us,bs⟩=>[(5,.rows (bA us) 1 32),(6,.rows (aZ bs) 1 3),(0,.box (vo n) 41)]) (λ⟨_,_,us,_⟩=>(aU w).and (rT w.heap.size us))
    (λ⟨x,m,us,bs⟩=>(0<=x/\x<=W)/\ZA n t.xs cnt us bs m/\(m:Int)=(o*H+y)*W+x) (λs=>(W-s.1).toNat) (0,m,us,bs) [(5,some 3),(6,some 4)] ay (λs=>⟨rfl,rfl⟩) ⟨⟨aem _,hW0⟩,hso,by rw[hmy,amE]⟩ ⟨rfl,⟨rfl,rfl,rfl,rfl,rfl,rfl,rfl,rfl,rfl,trivial⟩,fE,λ_ _ h=>h⟩ ?_
   clear hmy hso;have cy:B64 y:=⟨hy0,by omega⟩;rintro⟨x,m,us,bs⟩ ⟨⟨hx0,hx1⟩,hso,hmx⟩;by_cases hxi:x<W
   ·repeat' ((conv=>whnf)<;>first|refine amY ?_|refine amV ?_|(show pg ..;(refine lD size rfl rfl mE aa ?_))|refine bV ?_|refine ag ?_ ?_<;>intro _)
    have ar7:m<cnt:=Int.ofNat_lt.1 (aqc hmx hcnt ⟨hx0,hxi⟩ ⟨hy0,hyi⟩ hok);have aqb:=hat m ar7;have hTe:∃T,T=CS n.data.xs k1 k2 k3 i1 i2 m:=⟨_,rfl⟩;obtain⟨T,hT⟩:=hTe;have hTz:=hTl m;have aqQ:∀(p q:Nat) (c i j:Int) (hp:p<T.length),(p:Int)=(c*k2+i)*k3+j->0<=i/\i<k2->0<=j/\j<k3->((o*k1+c)*k2+i)*k3+j=q->T[p]=(n.data.xs.getD q 0,(c*i1+y+i)*i2+x+j):=λp q c i j hp he h0 h1 hq=>aso hT hWd hHd hmx ⟨hx0,hxi⟩ ⟨hy0,hyi⟩ hp he h0 h1 hq;have hTb:=aqA hdb hT;have hbi:dV n cnt m=n.aQ.xs.getD o.toNat 0:=by
     unfold dV;rw[if_neg aa,if_pos hk,ar4 hcnt hbl aa hmx ⟨hx0,hxi⟩ ⟨hy0,hyi⟩ ho0]
    have cx:B64 x:=⟨hx0,by omega⟩;rw[<-hT]at aqb hTz;clear hTl hat;refine Wp.loop (σ:=Int×Nat) 8 (λ⟨c,_⟩=>[(1,.c t.val),(2,.lp 0 0 0 0),(6,aC size),(18,.c n.az.val),(7,.os 5 m),(17,.os 6 m),(19,aC o),(20,aC y),(21,aC x),(22,.os 7 size),(23,aC c)]) (λ⟨_,p⟩=>[(7,.rows (aZ (rowP T size p)) 1 3),(5,.rows (bA us) 1 32),(6,.rows (aZ bs) 1 3),(0,.box (vo n) 41)]) (λ_=>(aU w).and (rT w.heap.size us))
     (λ⟨c,p⟩=>(0<=c/\c<=k1)/\(p:Int)=c*k2*k3) (λs=>(k1-s.1).toNat) (0,0) [] ay (λs=>⟨rfl,rfl⟩) ⟨⟨aem _,c1.1⟩,by simp⟩ ⟨rfl,⟨rfl,rfl,rfl,rfl,rfl,rfl,rfl,rfl,rfl,rfl,rfl,trivial⟩,⟨?_,aj,aj,aj,trivial⟩,λ_ _ h=>h⟩ ?_
    ·have:aZ (rowP T size 0)=List.replicate size [Value.int .i64 0]:=by simp[aZ,rowP]
     show(7,b_.rows (aZ (rowP T size 0)) 1 3)∈_;rw[this];exact aj
    rintro⟨c,p⟩ ⟨⟨hc0,hc1⟩,hpc⟩;by_cases hck:c<k1
    ·clear hcnt hmx ar7 hso hT hTb hbi hbb hdb hsz hHd hWd;have cc:B64 c:=⟨hc0,aha hc1 b1.2⟩;repeat' ((conv=>whnf)<;>first|refine amY ?_|refine amV ?_|refine bV ?_|refine ag ?_ ?_<;>intro _)
     refine Wp.loop (σ:=Int×Nat) 8 (λ⟨i,_⟩=>[(1,.c t.val),(2,.lp 0 0 0 0),(6,aC size),(18,.c n.az.val),(7,.os 5 m),(17,.os 6 m),(19,aC o),(20,aC y),(21,aC x),(22,.os 7 size),(23,aC c),(24,aC i)]) (λ⟨_,p⟩=>[(7,.rows (aZ (rowP T size p)) 1 3),(5,.rows (bA us) 1 32),(6,.rows (aZ bs) 1 3),(0,.box (vo n) 41)]) (λ_=>(aU w).and (rT w.heap.size us))
      (λ⟨i,p⟩=>(0<=i/\i<=k2)/\(p:Int)=(c*k2+i)*k3) (λs=>(k2-s.1).toNat) (0,p) [] ay (λs=>⟨rfl,rfl⟩) ⟨⟨aem _,c2.1⟩,by rw[hpc,amE]⟩ ⟨rfl,⟨rfl,rfl,rfl,rfl,rfl,rfl,rfl,rfl,rfl,rfl,rfl,rfl,trivial⟩,fE,λ_ _ h=>h⟩ ?_
     clear hpc;rintro⟨i,p⟩ ⟨⟨hi0,hi1⟩,hpi⟩;by_cases hii:i<k2
     ·have ci:B64 i:=⟨hi0,aha hi1 c2.2⟩;repeat' ((conv=>whnf)<;>first|refine amY ?_|refine amV ?_|refine bV ?_|refine ag ?_ ?_<;>intro _)
      refine Wp.loop (σ:=Int×Nat) 8 (λ⟨j,_⟩=>[(1,.c t.val),(2,.lp 0 0 0 0),(6,aC size),(18,.c n.az.val),(7,.os 5 m),(17,.os 6 m),(19,aC o),(20,aC y),(21,aC x),(22,.os 7 size),(23,aC c),(24,aC i),(25,aC j)]) (λ⟨_,p⟩=>[(7,.rows (aZ (rowP T size p)) 1 3),(5,.rows (bA us) 1 32),(6,.rows (aZ bs) 1 3),(0,.box (vo n) 41)]) (λ_=>(aU w).and (rT w.heap.size us))
       (λ⟨j,p⟩=>(0<=j/\j<=k3)/\(p:Int)=(c*k2+i)*k3+j) (λs=>(k3-s.1).toNat) (0,p) [] ay (λs=>⟨rfl,rfl⟩) ⟨⟨aem _,c3.1⟩,by rw[hpi,amE]⟩ ⟨rfl,⟨rfl,rfl,rfl,rfl,rfl,rfl,rfl,rfl,rfl,rfl,rfl,rfl,rfl,trivial⟩,fE,λ_ _ h=>h⟩ ?_
      clear hpi;rintro⟨j,p⟩ ⟨⟨hj0,hj1⟩,hpj⟩;by_cases hjk:j<k3
      ·have hpT:p<T.length:=Int.ofNat_lt.1 (aqc hpj hTz ⟨hj0,hjk⟩ ⟨hi0,hii⟩ hck);have E:=auM (x:=x) (j:=j) cc ci1 cy ci ci2 co c1 c2 c3;obtain⟨e1,e2,e3,e4,e5⟩:=E;have hqe:∃q:Nat,((o*k1+c)*k2+i)*k3+j=q:=⟨_,(alP aa).symm⟩;obtain⟨q,hq⟩:=hqe;have Tn:q<n.data.xs.length:=Int.ofNat_lt.1 (aqc hq.symm hdl ⟨hj0,hjk⟩ ⟨hi0,hii⟩ (YY ⟨ho0,hok⟩ ⟨hc0,hck⟩));have hTp:=aqQ p q c i j hpT hpj ⟨hi0,hii⟩ ⟨hj0,hjk⟩ hq;have hb:=aqb _ (aby hpT);have hsu:=apZ (size:=size) hpT;rw[hTp]at hb hsu;have hb2:0<=(c*i1+y+i)*i2+x+j/\(c*i1+y+i)*i2+x+j<size:=hb;have hex:∃r:Nat,(c*i1+y+i)*i2+x+j=r:=⟨_,(alP hb2.1).symm⟩;obtain⟨r,hr⟩:=hex;rw[hr]at hsu hb2;have hrl:r<size:=Int.ofNat_lt.1 hb2.2;clear aqQ aqb hTp hTz hb hb2 hdl;repeat' ((conv=>whnf)<;>first|(show dn ..;(first|refine aM _ 1 hut rfl aa ?_|refine aM _ 2 hut rfl aa ?_|refine aM _ 1 iL rfl aa ?_|refine aM _ 2 iL rfl aa ?_|refine aM _ 3 iL rfl aa ?_|refine aM _ q hud hq Tn ?_))|(show gZ ..;(first|refine Mg (λR w' h=>hur R w' h.1) (j:=1) aa g1 ?_|refine Mg (λR w' h=>hur R w' h.1) (j:=2) aa g2 ?_|refine Mg (λR w' h=>hsr R w' h.1) (j:=1) aa s1 ?_|refine Mg (λR w' h=>hsr R w' h.1) (j:=2) aa s2 ?_|refine Mg (λR w' h=>hsr R w' h.1) (j:=3) aa s3 ?_|refine Mg (λR w' h=>hdr R w' h.1) (j:=q) Tn rfl ?_))|(show eP ..;(refine bY r hr hrl apx ?_))|(show dH ..;(refine aai (by rw[amw];exact hrl) ?_))|(show cO _ 52 ..;refine mV [42] _ atw ?_)|refine bV ?_|refine ag ?_ ?_<;>intro _)
       all_goals(conv=>whnf)
       exact⟨(j+1,p+1),[],⟨⟨anw hj0,hjk⟩,by rw[anM,hpj,akw];rfl⟩,by simp only;omega,rfl,fE,⟨by
        show(7,b_.rows (aZ (rowP T size (p+1))) 1 3)∈_;rw[hsu];exact aj,aj,aj,aj,trivial⟩,λ_ _ h=>h⟩
      ·have hjz:j=k3:=amq hj1 (amt.1 hjk);repeat' ((conv=>whnf)<;>first|refine amY ?_|refine amV ?_|refine bV ?_|refine ag ?_ ?_<;>intro _)
       all_goals(conv=>whnf)
       exact⟨(i+1,p),[],⟨⟨anw hi0,hii⟩,by rw[hpj,hjz,<-akw,aky _ 1,age]⟩,by simp only;omega,rfl,fE,fE,λ_ _ h=>h⟩
     ·have hiz:i=k2:=amq hi1 (amt.1 hii);repeat' ((conv=>whnf)<;>first|refine amY ?_|refine amV ?_|refine bV ?_|refine ag ?_ ?_<;>intro _)
      all_goals(conv=>whnf)
      exact⟨(c+1,p),[],⟨⟨anw hc0,hck⟩,by rw[hpi,hiz,aky c 1,age]⟩,by simp only;omega,rfl,fE,fE,λ_ _ h=>h⟩
    ·have hcz:c=k1:=amq hc1 (amt.1 hck);rw[hcz]at hpc;have hpT:p=T.length:=Int.ofNat.inj (hpc.trans hTz.symm);have hml:us.length=m:=hso.rows.len;have alB:bs.length=m:=hso.ata;have hol:o.toNat<n.aQ.xs.length:=by omega
     have hoe:o=(o.toNat:Int):=(alP ho0).symm;refine Wp.Vh 7 w.heap.size (k:=1) (xs:=aZ (rowP T size p)) (T:=3) aj (λR w' h b hb=>(h.1 b hb).1) (λl1 hl1=> ?_);rw[aP,amw]at hl1;clear hcnt hTz aqQ aqb hdl;repeat' ((conv=>whnf)<;>first|(show @iG _ _ _;refine jc hck ?_)|(show dn ..;(first|refine aM _ 1 iL rfl aa ?_|refine aM _ o.toNat hub hoe hol ?_))|(show gZ ..;(first|refine Mg (λR w' h=>hsr R w' h.1.1) (j:=1) aa s1 ?_|refine Mg (λR w' h=>hbr R w' h.1.1) (j:=o.toNat) hol rfl ?_))|(show Gn ..;(first|refine mg apF ?_|refine mg (by rw[aP,alB];exact Tw _) ?_))|(show jv ..;(first|refine fU aoz ?_|refine fU aoF ?_))|refine bV ?_)
     all_goals(conv=>whnf)
     exact⟨(x+1,m+1,us++[ax.mk l1.base l1.cap (rowP T size p)],bs++[n.aQ.xs.getD o.toNat 0]),[(5,some 9),(6,some 11)],⟨⟨anw hx0,hxi⟩,hso.next ⟨λv hv=>by have:=aq8 hTb v hv;unfold fJ at this;exact⟨by omega,by omega⟩,by rw[amw];exact hl1,by rw[amw];omega⟩ (asc hk hsz m (hT.trans (by rw[g1,g2,s1,s2,s3])) hpT) hbi,by rw[anM,hmx,akw];rfl⟩,by simp only;omega,rfl,fE,⟨by repeat(first|exact apG us l1.base l1.cap (rowP T size p) hml.symm (amw _ _ _).symm|apply aeg),by repeat(first|exact an6 bs _ alB.symm|apply aeg),aj,trivial⟩,λR w' h=>⟨h.1.1,mR h.1.2 h.2⟩⟩
   ·have hxz:x=W:=amq hx1 (amt.1 hxi);repeat' ((conv=>whnf)<;>first|refine amY ?_|refine amV ?_|refine bV ?_|refine ag ?_ ?_<;>intro _)
    all_goals(conv=>whnf)
    exact⟨(y+1,m,us,bs),[(3,some 5),(4,some 6)],⟨⟨anw hy0,hyi⟩,hso,by rw[hmx,hxz,<-akw,aky _ 1,age]⟩,by simp only;omega,rfl,fE,fE,λ_ _ h=>h⟩
  ·have hyz:y=H:=amq hy1 (amt.1 hyi);repeat' ((conv=>whnf)<;>first|refine amY ?_|refine amV ?_|refine bV ?_|refine ag ?_ ?_<;>intro _)
   all_goals(conv=>whnf)
   exact⟨(o+1,m,us,bs),[(1,some 3),(2,some 4)],⟨⟨anw ho0,hok⟩,hso,by rw[hmy,hyz,aky o 1,age]⟩,by simp only;omega,rfl,fE,fE,λ_ _ h=>h⟩
 ·have hoz:o=k0:=amq ho1 (amt.1 hok);rw[hoz]at hmo;have arV:m=cnt:=Int.ofNat.inj (hmo.trans hcnt.symm);subst arV;repeat' ((conv=>whnf)<;>first|refine amY ?_|refine amV ?_|refine bV ?_|refine ag ?_ ?_<;>intro _)
  all_goals(conv=>whnf)
  exact ao0 (i:=1) (j:=2) (B:=⟨w,[]⟩) (S:=(aU w).and (rT w.heap.size us)) (bs:=bs) (λ_ _ h=>h.1) (λ_ _ h=>h.2) rfl aj aj hso.rows.len.symm hso.ata.symm hso.rows hso.aQ (λx hx=>by
   rw[hso.aQ]at hx;obtain⟨k,_,rfl⟩:=abl.1 hx;have:fJ (dV n m k):=by
    unfold dV;rw[if_neg aa,if_pos hk];exact iY hbb _
   unfold fJ at this;exact⟨by omega,by omega⟩) (by rw[hso.ata];omega)
theorem aq6(w:World)(n:ak)(sh:List (List Int))(s:List Int)(t:ax)(cnt:Nat)(h:gN n sh s t.xs cnt)(hl:eF n)(hno:n.ok w)(hto:t.ok w):Calls Tryz.prog 91 #[n.p9,t.val] w (aog w n t.xs cnt):=by
 obtain⟨F,P0,hL⟩:=h.lin hl;have hat:=hL.at_;have hsh:=h.node.az;have hfo:=dJ h.node.form;have h4:=ai3 h.node.form;obtain⟨nd,nb,_,_,_⟩:=Gp h.node.near;have heb:=(dN t.xs).2;have hc:=h.cnt;have ug:=h.few;have hgs:=h.pos;obtain⟨ht,hg⟩:=h.first hl
 obtain⟨size,hsz⟩:∃size:Nat,au t.xs=size:=⟨(au t.xs).toNat,by omega⟩;rcases hl with hk|hk|hk
 ·unfold bP at hsh;rw[if_neg aa,if_pos hk,ht]at hsh;by_cases hdl:(n.data.xs.length:Int)=n.aQ.xs.length*au t.xs
  ·rw[if_pos hdl,Option.some.injEq]at hsh;obtain⟨b1,b2⟩:=hfo.aQ hk;have he1:au [(n.aQ.xs.length:Int)]=n.aQ.xs.length:=by
    unfold au;rw[if_neg aI];simp only[dX];rw[if_neg aa];omega
   rw[<-hsh,he1]at hc;have hbl:n.aQ.xs.length=cnt:=by omega
   have ad8:n.data.xs.length=n.aQ.xs.length*size:=by
    rw[hsz,<-akv]at hdl;exact Int.ofNat.inj hdl
   rw[hbl]at ad8;exact ard w n t hto hno hk size cnt hsz aa hbl ug ad8
  ·rw[if_neg hdl]at hsh;cases hsh
 ·obtain⟨g1,g2⟩:=h4 hk;have QW:=hfo.acS hk;obtain⟨hl4,acD⟩:=uu QW;have hsx:=aiR hl4;have hC:=Vf h hk;unfold bP at hsh;rw[if_neg aa,if_neg aa,if_pos hk,ht]at hsh;have hG:∀o,dZ n t.xs o=CS n.data.xs (n.az.xs.getD 1 0) (n.az.xs.getD 2 0) (n.az.xs.getD 3 0) (t.xs.getD 1 0) (t.xs.getD 2 0) o:=λo=>by unfold dZ;rw[if_neg aa,if_pos hk]
  have dm:∀k,k<4->1<=n.az.xs.getD k 0/\n.az.xs.getD k 0<=64:=λk hk=>acD _ (cu aa);have dm0:=dm 0 ay;have dm1:=dm 1 ay;have dm2:=dm 2 ay;have dm3:=dm 3 ay;rw[hsx]at g1 QW;have hke:=XR QW;rw[hke]at g1;by_cases hbad:t.xs.length≠3\/t.xs.getD 0 0≠n.az.xs.getD 1 0\/t.xs.getD 1 0<n.az.xs.getD 2 0\/t.xs.getD 2 0<n.az.xs.getD 3 0
  ·rw[if_pos hbad]at hsh;cases hsh
  rw[if_neg hbad]at hsh;have hl3:t.xs.length=3:=by omega
  have htx:=adL hl3;have h0:t.xs.getD 0 0=n.az.xs.getD 1 0:=by omega
  rw[h0]at htx;have YR:=(g_ hg).2.2;have td1:=YR _ (cu (xs:=t.xs) (k:=1) aa);have td2:=YR _ (cu (xs:=t.xs) (k:=2) aa);by_cases hpos:0<au [n.az.xs.getD 0 0,t.xs.getD 1 0-n.az.xs.getD 2 0+1,t.xs.getD 2 0-n.az.xs.getD 3 0+1]
  ·rw[if_pos hpos,Option.some.injEq]at hsh;have hcv:=jP hpos;rw[hsh,hc]at hcv;exact asi w n t hto hno hk size cnt _ _ _ _ _ _ hsx htx hsz aa dm0 dm1 hC.k2 hC.k3 td1.2 td2.2 g1 g2 nd nb hcv ug.2 λo ho x hx=>by
    have:=hat o ho x (by rw[hG];exact hx);rw[hsz]at this;exact this
  ·rw[if_neg hpos]at hsh;cases hsh
 ·have hP:=TS h hk;unfold bP at hsh;rw[if_neg aa,if_neg aa,if_neg aa,if_pos hk,ht]at hsh;have hG:∀o,dZ n t.xs o=CQ n.size (t.xs.getD 1 0) (t.xs.getD 2 0) o:=λo=>by unfold dZ;rw[if_neg aa,if_neg aa]
  by_cases hbad:t.xs.length≠3\/t.xs.getD 1 0%n.size≠0\/t.xs.getD 2 0%n.size≠0
  ·rw[if_pos hbad]at hsh;cases hsh
  rw[if_neg hbad,Option.some.injEq]at hsh;have hl3:t.xs.length=3:=by omega
  have htx:=adL hl3;have YR:=(g_ hg).2.2;have td0:=YR _ (cu (xs:=t.xs) (k:=0) aa);have td1:=YR _ (cu (xs:=t.xs) (k:=1) aa);have td2:=YR _ (cu (xs:=t.xs) (k:=2) aa);have hpos:0<au [t.xs.getD 0 0,t.xs.getD 1 0/n.size,t.xs.getD 2 0/n.size]:=by
   have:=jG hfo hgs h.node.az rfl;rw[hsh];exact this
  have hcv:=jP hpos;rw[hsh,hc]at hcv;exact arK w n t hto hno hk size cnt _ _ _ htx hsz aa td0 ⟨hP.z1,td1.2⟩ ⟨hP.z2,td2.2⟩ hP.z hP.m1 hP.m2 hcv ug.2 λo ho x hx=>by
   have:=hat o ho x (by rw[hG];exact hx);rw[hsz]at this;exact this
def zO(n:ak)(tl:List Int)(o i:Int):Int:=
 if n.ai=3 then n.data.xs.getD (o*au tl+i).toNat 0
 else if n.ai=4 then
  (let y:=i/tl.getD 2 0%tl.getD 1 0-o/(tl.getD 2 0-n.az.xs.getD 3 0+1)%(tl.getD 1 0-n.az.xs.getD 2 0+1)
   let x:=i%tl.getD 2 0-o%(tl.getD 2 0-n.az.xs.getD 3 0+1)
   if y<0\/n.az.xs.getD 2 0<=y\/x<0\/n.az.xs.getD 3 0<=x then 0
   else n.data.xs.getD (((o/(tl.getD 2 0-n.az.xs.getD 3 0+1)/(tl.getD 1 0-n.az.xs.getD 2 0+1)*n.az.xs.getD 1 0+i/tl.getD 2 0/tl.getD 1 0)*n.az.xs.getD 2 0+y)*n.az.xs.getD 3 0+x).toNat 0)
 else if i/tl.getD 2 0/tl.getD 1 0≠o/(tl.getD 2 0/n.size)/(tl.getD 1 0/n.size)\/i/tl.getD 2 0%tl.getD 1 0/n.size≠o/(tl.getD 2 0/n.size)%(tl.getD 1 0/n.size)\/i%tl.getD 2 0/n.size≠o%(tl.getD 2 0/n.size)then 0 else 1
theorem Zm{r:List Int}{x:Sp}{i:Nat}(h:x.2.toNat≠i):(Br r x).getD i 0=r.getD i 0:=by simp[Br,List.getD,amy h]
theorem Dw:∀(T:List Sp) (r:List Int) (i:Nat),(∀x∈T,x.2.toNat≠i)->(T.foldl Br r).getD i 0=r.getD i 0
 |[],_,_,_=>rfl
 |x::T,r,i,h=>by
  rw[ahb,Dw T _ i (λy hy=>h y (aeg _ hy)),Zm (h x YV)]
theorem Mt:∀(T:List Sp) (r:List Int) (i:Nat) (x:Sp),i<r.length->x∈T->x.2.toNat=i->(∀y∈T,y.2.toNat=i->y.1=x.1)->(T.foldl Br r).getD i 0=x.1
 |[],_,_,_,_,h,_,_=>by cases h
 |z::T,r,i,x,hl,hx,he,hu=>by
  rw[ahb];by_cases hex:∃y∈T,y.2.toNat=i
  ·obtain⟨y,hy,hyi⟩:=hex;have h1:=Mt T (Br r z) i y (by rw[Br,ajc];exact hl) hy hyi (λu hu' hui=>(hu u (aeg _ hu') hui).trans (hu y (aeg _ hy) hyi).symm);rw[h1];exact hu y (aeg _ hy) hyi
  ·rw[Dw T _ i (λy hy e=>hex ⟨y,hy,e⟩)];have hzx:x=z:=by
    rcases abr.1 hx with g|g
    ·exact g
    ·exact absurd ⟨x,g,he⟩ hex
   subst hzx;simp[Br,List.getD,he,hl]
theorem Rt(n i:Nat):(List.replicate n (0:Int)).getD i 0=0:=by
 simp only[List.getD,amT];split<;>rfl
theorem lX{i I1 I2:Int}(h0:0<=i)(h1:0<I1)(h2:0<I2):i=(i/I2/I1*I1+i/I2%I1)*I2+i%I2/\(0<=i%I2/\i%I2<I2)/\(0<=i/I2%I1/\i/I2%I1<I1)/\0<=i/I2/I1:=by
 have e1:=amB i I2;have e2:=amB (i/I2) I1;have g0:0<=i/I2:=amv h0 aa;refine⟨?_,⟨alL _ aa,akS _ h2⟩,⟨alL _ aa,akS _ h1⟩,amv g0 aa⟩;have e3:i/I2/I1*I1+i/I2%I1=i/I2:=by rw[ajF];exact e2
 rw[e3,ajF];exact e1.symm
theorem rV{a b c:Int}(hb:0<b)(h:a<c*b):a/b<c:=an8 hb h
theorem Ya{d:List Int}{k1 k2 k3 i1 i2 o i:Int}{E:Nat}(hk2:1<=k2/\k2<=i1)(hk3:1<=k3/\k3<=i2)(hE:(E:Int)=k1*i1*i2)(hi:0<=i/\i<E)(ho:0<=o):
 ((CS d k1 k2 k3 i1 i2 o).foldl Br (List.replicate E 0)).getD i.toNat 0=
   (if i/i2%i1-o/(i2-k3+1)%(i1-k2+1)<0\/k2<=i/i2%i1-o/(i2-k3+1)%(i1-k2+1)\/i%i2-o%(i2-k3+1)<0\/k3<=i%i2-o%(i2-k3+1)then 0
    else d.getD (((o/(i2-k3+1)/(i1-k2+1)*k1+i/i2/i1)*k2+(i/i2%i1-o/(i2-k3+1)%(i1-k2+1)))*k3+(i%i2-o%(i2-k3+1))).toNat 0):=by
 have h1:0<i1:=by omega
 have h2:0<i2:=by omega
 obtain⟨ei,bx,by_,bc⟩:=lX hi.1 h1 h2;obtain⟨eo,ox,oy,oc⟩:=lX (i:=o) (I1:=i1-k2+1) (I2:=i2-k3+1) ho aa aa;obtain⟨c,hc⟩:∃c,i/i2/i1=c:=⟨_,rfl⟩;obtain⟨fy,Zx⟩:∃c,i/i2%i1=c:=⟨_,rfl⟩;obtain⟨fx,hfx⟩:∃c,i%i2=c:=⟨_,rfl⟩;obtain⟨tc,htc⟩:∃c,o/(i2-k3+1)/(i1-k2+1)=c:=⟨_,rfl⟩;obtain⟨ty,hty⟩:∃c,o/(i2-k3+1)%(i1-k2+1)=c:=⟨_,rfl⟩;obtain⟨tx,htx⟩:∃c,o%(i2-k3+1)=c:=⟨_,rfl⟩;rw[hc,Zx,hfx]at ei;rw[Zx]at by_;rw[hfx]at bx;rw[hc]at bc;rw[htc]at oc;rw[hty]at oy;rw[htx]at ox;rw[hc,Zx,hfx,htc,hty,htx];have hck:c<k1:=by
  have h3:i/i2<k1*i1:=rV h2 (by rw[<-hE];exact hi.2);rw[<-hc];exact rV h1 h3
 have term:∀x∈CS d k1 k2 k3 i1 i2 o,x.2.toNat=i.toNat->∃p:Nat,x=gY d k1 k2 k3 i1 i2 o p/\(p:Int)/k3/k2=c/\ty+(p:Int)/k3%k2=fy/\tx+(p:Int)%k3=fx:=by
  intro x hx hxi;obtain⟨p,hp,rfl⟩:=abl.1 hx;obtain⟨ep,px,py,pc⟩:=lX (i:=(p:Int)) (I1:=k2) (I2:=k3) aa aa aa;refine⟨p,rfl,?_⟩;have hpos:(gY d k1 k2 k3 i1 i2 o p).2=(((p:Int)/k3/k2*i1+(ty+(p:Int)/k3%k2))*i2+(tx+(p:Int)%k3)):=by
   unfold gY;rw[hty,htx];simp only;rw[<-akw,<-akw]
  have hnn:0<=(gY d k1 k2 k3 i1 i2 o p).2:=by
   rw[hpos];have:=agJ (show 0<=(p:Int)/k3/k2*i1+(ty+(p:Int)/k3%k2) by have:=agJ pc (show 0<=i1 by omega);omega) (show 0<=i2 by omega);omega
  have he:i=(((p:Int)/k3/k2*i1+(ty+(p:Int)/k3%k2))*i2+(tx+(p:Int)%k3)):=by rw[<-hpos];omega
  have:=akj he ⟨by omega,by omega⟩ ⟨by omega,by omega⟩;rw[hc,Zx,hfx]at this;exact⟨this.1.symm,this.2.1.symm,this.2.2.symm⟩
 split
 ·rename_i hbad;rw[Dw,Rt];intro x hx hxi;obtain⟨p,rfl,g1,g2,g3⟩:=term x hx hxi;obtain⟨ep,px,py,pc⟩:=lX (i:=(p:Int)) (I1:=k2) (I2:=k3) aa aa aa;omega
 ·rename_i hgood;obtain⟨y,hy⟩:∃y,fy-ty=y:=⟨_,rfl⟩;obtain⟨x,hx⟩:∃x,fx-tx=x:=⟨_,rfl⟩;rw[hy,hx]at hgood|-
  have hcy:0<=c*k2+y:=by have:=agJ bc (show 0<=k2 by omega);omega
  have hp0:0<=(c*k2+y)*k3+x:=by have:=agJ hcy (show 0<=k3 by omega);omega
  obtain⟨p,hp⟩:=amo hp0;have hp3:=akj (o:=(p:Int)) (c:=c) (y:=y) (x:=x) (H:=k2) (W:=k3) hp.symm ⟨by omega,by omega⟩ ⟨by omega,by omega⟩;have hlt:(p:Int)<k1*k2*k3:=by
   rw[<-hp];have a1:(c+1)*k2<=k1*k2:=ahi aa aa;rw[aky,age]at a1;have a2:(c*k2+y+1)*k3<=k1*k2*k3:=ahi aa aa;rw[aky,age]at a2;omega
  have hmem:gY d k1 k2 k3 i1 i2 o p∈CS d k1 k2 k3 i1 i2 o:=abl.2 ⟨p,ahe.2 aa,rfl⟩;have hval:∀q:Nat,(q:Int)/k3/k2=c->ty+(q:Int)/k3%k2=fy->tx+(q:Int)%k3=fx->(gY d k1 k2 k3 i1 i2 o q).1=d.getD (((tc*k1+c)*k2+y)*k3+x).toNat 0/\(gY d k1 k2 k3 i1 i2 o q).2=i:=by
   intro q g1 g2 g3;obtain⟨eq,qx,qy,qc⟩:=lX (i:=(q:Int)) (I1:=k2) (I2:=k3) aa aa aa;rw[g1]at eq;have e1:(q:Int)/k3%k2=y:=by omega
   have e2:(q:Int)%k3=x:=by omega
   rw[e1,e2]at eq;unfold gY;rw[htc,hty,htx,g1,e1,e2];constructor
   ·simp only
    congr 2
    rw[eq];grind
   ·simp only;rw[ei,<-hy]at*;have:fx=tx+x:=by omega
    grind
  have hpv:=hval p hp3.1 (by rw[hp3.2.1];omega) (by rw[hp3.2.2];omega);rw[Mt _ _ _ (gY d k1 k2 k3 i1 i2 o p) AA hmem (by rw[hpv.2]) (λu hu hui=> ?_)]
  ·exact hpv.1
  ·obtain⟨q,rfl,g1,g2,g3⟩:=term u hu hui;rw[(hval q g1 g2 g3).1,hpv.1]
end Go.Proofs.YtgndjjdeopfdkaaGreat

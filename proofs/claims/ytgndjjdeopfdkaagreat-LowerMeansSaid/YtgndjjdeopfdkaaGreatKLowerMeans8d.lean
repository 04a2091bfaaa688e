import Derived.Test.YtgndjjdeopfdkaaGreatKLowerMeans8c
/- texts LP MG of the proof of LowerMeansSaid -/
set_option maxHeartbeats 16000000
set_option maxRecDepth 20000
set_option linter.unusedVariables false
set_option linter.unusedSimpArgs false
namespace Go.Proofs.YtgndjjdeopfdkaaGreat
open Go.RowKit Go.SX
theorem arK(w:World)(n:ak)(t:ax)(ht:t.ok w)(hno:n.ok w)(hk:n.ai=5)(size cnt:Nat)(i0 i1 i2:Int)(htx:t.xs=[i0,i1,i2])(hsz:au t.xs=size)(akl:size<=64)(b0:1<=i0/\i0<=64)(b1:n.size<=i1/\i1<=64)(b2:n.size<=i2/\i2<=64)(bz:1<=n.size)(m1:i1%n.size=0)(m2:i2%n.size=0)(hcnt:(cnt:Int)=i0*(i1/n.size)*(i2/n.size))(ah9:cnt<=64)(hat:∀o:Nat,o<cnt->∀s∈CQ n.size i1 i2 o,0<=s.2/\s.2<size):Calls Tryz.prog 91 #[n.p9,t.val] w (aog w n t.xs cnt):=by
 obtain⟨ut,hut⟩:=ht.base (by rw[htx];simp);have hur:∀(R:Nat->Prop) w',(aU w).holds R w'->bE w' (some ut) 1 (aZ t.xs):=λR w' h=>by rw[<-hut];exact aH h ht.rows
 have g0:t.xs.getD 0 0=i0:=by rw[htx];rfl
 have g1:t.xs.getD 1 0=i1:=by rw[htx];rfl
 have g2:t.xs.getD 2 0=i2:=by rw[htx];rfl
 have hz0:0<=n.size:=aha ay bz;have hW:=uq (x:=i2) (y:=n.size) bz b2.1;have hH:=uq (x:=i1) (y:=n.size) bz b1.1;have hW2:=aku n.size (show 0<=i2 from aha hz0 b2.1);have hH2:=aku n.size (show 0<=i1 from aha hz0 b1.1);have hTl:∀o:Nat,((CQ n.size i1 i2 o).length:Int)=n.size*n.size:=λo=>by
  have:0<=n.size*n.size:=agJ hz0 hz0;simp only[CQ,aas,amj];exact alP this
 generalize hWd:i2/n.size=W at*;generalize hHd:i1/n.size=H at*;have hW0:0<=W:=aha ay hW;have hH0:0<=H:=aha ay hH;have auU:0<=i0:=aha ay b0.1;clear m1 m2;have hl3:t.xs.length=3:=by rw[htx];rfl
 have hd1:t.xs.getD 1 0/n.size=H:=by rw[g1,hHd]
 have hd2:t.xs.getD 2 0/n.size=W:=by rw[g2,hWd]
 refine fH Tryz.func91 [.agg (vo n),.c t.val] ?_;repeat' ((conv=>whnf)<;>first|refine aoD ?_|(show dn ..;refine aM _ 1 hut rfl aa ?_)|refine kX ?_|(show dn ..;refine aM _ 2 hut rfl aa ?_)|refine j6 ?_|(show yM ..;(first|refine ag2 hd1 aa aa aa ?_|refine ag2 hd2 aa aa aa ?_))|refine bV ?_|refine ag ?_ ?_<;>intro _)
 refine Wp.loop (σ:=Int×Nat×List ax) 2 (λ⟨c,m,us⟩=>[(1,.c t.val),(2,.lp 0 0 0 0),(6,aC size),(9,aC H),(10,aC W),(7,.os 1 m),(11,aC c)]) (λ⟨_,_,us⟩=>[(1,.rows (bA us) 1 32),(0,.box (vo n) 41)]) (λ⟨_,_,us⟩=>(aU w).and (rT w.heap.size us))
  (λ⟨c,m,us⟩=>(0<=c/\c<=i0)/\Jg n t.xs us m/\(m:Int)=c*H*W) (λs=>(i0-s.1).toNat) (0,0,[]) [(1,none)] ay (λs=>⟨rfl,rfl⟩) ⟨⟨aem _,auU⟩,⟨rfl,λu hu=>by simp at hu⟩,by simp⟩ ⟨rfl,⟨rfl,rfl,?_,rfl,rfl,rfl,rfl,trivial⟩,⟨rfl,aj,trivial⟩,λR w' h=>⟨h,yD _ R w'⟩⟩ ?_
 ·rw[hsz];rfl
 rintro⟨c,m,us⟩ ⟨⟨hc0,hc1⟩,hso,hmc⟩;by_cases hci:c<i0
 ·repeat' ((conv=>whnf)<;>first|(show dn ..;refine aM _ 0 hut rfl aa ?_)|(show gZ ..;refine dP (λR w' h=>hur R w' h.1) (j:=0) aa ?_)|refine bV ?_|refine ag ?_ ?_<;>intro _)
  refine Wp.loop (σ:=Int×Nat×List ax) 3 (λ⟨y,m,us⟩=>[(1,.c t.val),(2,.lp 0 0 0 0),(6,aC size),(9,aC H),(10,aC W),(7,.os 2 m),(11,aC c),(12,aC y)]) (λ⟨_,_,us⟩=>[(2,.rows (bA us) 1 32),(0,.box (vo n) 41)]) (λ⟨_,_,us⟩=>(aU w).and (rT w.heap.size us))
   (λ⟨y,m,us⟩=>(0<=y/\y<=H)/\Jg n t.xs us m/\(m:Int)=(c*H+y)*W) (λs=>(H-s.1).toNat) (0,m,us) [(2,some 1)] ay (λs=>⟨rfl,rfl⟩) ⟨⟨aem _,hH0⟩,hso,by rw[hmc,amE]⟩ ⟨rfl,⟨rfl,rfl,rfl,rfl,rfl,rfl,rfl,rfl,trivial⟩,fE,λ_ _ h=>h⟩ ?_
  clear hmc hso;have hcB:0<=c/\c<=64:=⟨hc0,aha hc1 b0.2⟩;rintro⟨y,m,us⟩ ⟨⟨hy0,hy1⟩,hso,hmy⟩;by_cases hyi:y<H
  ·repeat' ((conv=>whnf)<;>first|refine bV ?_|refine ag ?_ ?_<;>intro _)
   refine Wp.loop (σ:=Int×Nat×List ax) 4 (λ⟨x,m,us⟩=>[(1,.c t.val),(2,.lp 0 0 0 0),(6,aC size),(9,aC H),(10,aC W),(7,.os 3 m),(11,aC c),(12,aC y),(13,aC x)]) (λ⟨_,_,us⟩=>[(3,.rows (bA us) 1 32),(0,.box (vo n) 41)]) (λ⟨_,_,us⟩=>(aU w).and (rT w.heap.size us))
    (λ⟨x,m,us⟩=>(0<=x/\x<=W)/\Jg n t.xs us m/\(m:Int)=(c*H+y)*W+x) (λs=>(W-s.1).toNat) (0,m,us) [(3,some 2)] ay (λs=>⟨rfl,rfl⟩) ⟨⟨aem _,hW0⟩,hso,by rw[hmy,amE]⟩ ⟨rfl,⟨rfl,rfl,rfl,rfl,rfl,rfl,rfl,rfl,rfl,trivial⟩,fE,λ_ _ h=>h⟩ ?_
   clear hmy hso;have hyB:0<=y/\y<=64:=⟨hy0,aha hy1 (aha hH2 b1.2)⟩;rintro⟨x,m,us⟩ ⟨⟨hx0,hx1⟩,hso,hmx⟩;by_cases hxi:x<W
   ·repeat' ((conv=>whnf)<;>first|(show pg ..;(refine lD size rfl rfl mE aa ?_))|refine bV ?_|refine ag ?_ ?_<;>intro _)
    have ar7:m<cnt:=by have:=aqc hmx hcnt ⟨hx0,hxi⟩ ⟨hy0,hyi⟩ hci;omega
    have aqb:=hat m ar7;have hTe:∃T,T=CQ n.size i1 i2 m:=⟨_,rfl⟩;obtain⟨T,hT⟩:=hTe;have hTz:=hTl m;have aqQ:∀(p:Nat) (i j:Int) (hp:p<T.length),(p:Int)=i*n.size+j->0<=j->j<n.size->T[p]=(1,(c*i1+y*n.size+i)*i2+x*n.size+j):=λp i j hp he h0 h1=>arM hT hWd hHd hmx ⟨hx0,hxi⟩ ⟨hy0,hyi⟩ hp he ⟨h0,h1⟩;have hTb:=aqp hT;have hxB:0<=x/\x<=64:=⟨hx0,aha hx1 (aha hW2 b2.2)⟩;have hzB:0<=n.size/\n.size<=64:=⟨hz0,aha b1.1 b1.2⟩;have hB1:0<=i1/\i1<=64:=⟨aha hz0 b1.1,b1.2⟩;have hB2:0<=i2/\i2<=64:=⟨aha hz0 b2.1,b2.2⟩;rw[<-hT]at aqb hTz;refine Wp.loop (σ:=Int×Nat) 5 (λ⟨i,_⟩=>[(1,.c t.val),(2,.lp 0 0 0 0),(6,aC size),(9,aC H),(10,aC W),(7,.os 3 m),(11,aC c),(12,aC y),(13,aC x),(14,.os 4 size),(15,aC i)]) (λ⟨_,p⟩=>[(4,.rows (aZ (rowP T size p)) 1 3),(3,.rows (bA us) 1 32),(0,.box (vo n) 41)]) (λ_=>(aU w).and (rT w.heap.size us))
     (λ⟨i,p⟩=>(0<=i/\i<=n.size)/\(p:Int)=i*n.size) (λs=>(n.size-s.1).toNat) (0,0) [] ay (λs=>⟨rfl,rfl⟩) ⟨⟨aem _,hz0⟩,(Int.zero_mul _).symm⟩ ⟨rfl,⟨rfl,rfl,rfl,rfl,rfl,rfl,rfl,rfl,rfl,rfl,rfl,trivial⟩,⟨?_,aj,aj,trivial⟩,λ_ _ h=>h⟩ ?_
    ·have:aZ (rowP T size 0)=List.replicate size [Value.int .i64 0]:=by simp[aZ,rowP]
     show(4,b_.rows (aZ (rowP T size 0)) 1 3)∈_;rw[this];exact aj
    rintro⟨i,p⟩ ⟨⟨hi0,hi1⟩,hpi⟩;by_cases hii:i<n.size
    ·clear hcnt hmx ar7 hso hTl hat hT hTb hsz hno ht hW hH hW2 hH2 hd1 hd2 hWd hHd b1 b2 b0 ah9;repeat' ((conv=>whnf)<;>first|refine bV ?_|refine ag ?_ ?_<;>intro _)
     refine Wp.loop (σ:=Int×Nat) 5 (λ⟨j,_⟩=>[(1,.c t.val),(2,.lp 0 0 0 0),(6,aC size),(9,aC H),(10,aC W),(7,.os 3 m),(11,aC c),(12,aC y),(13,aC x),(14,.os 4 size),(15,aC i),(16,aC j)]) (λ⟨_,p⟩=>[(4,.rows (aZ (rowP T size p)) 1 3),(3,.rows (bA us) 1 32),(0,.box (vo n) 41)]) (λ_=>(aU w).and (rT w.heap.size us))
      (λ⟨j,p⟩=>(0<=j/\j<=n.size)/\(p:Int)=i*n.size+j) (λs=>(n.size-s.1).toNat) (0,p) [] ay (λs=>⟨rfl,rfl⟩) ⟨⟨aem _,hz0⟩,by rw[hpi,amE]⟩ ⟨rfl,⟨rfl,rfl,rfl,rfl,rfl,rfl,rfl,rfl,rfl,rfl,rfl,rfl,trivial⟩,fE,λ_ _ h=>h⟩ ?_
     rintro⟨j,p⟩ ⟨⟨hj0,hj1⟩,hpj⟩;by_cases hji:j<n.size
     ·have hpT:p<T.length:=by have:=atJ hTz hpj hii ⟨hj0,hji⟩;omega
      have hTp:=aqQ p i j hpT hpj hj0 hji;have hb:=aqb _ (aby hpT);have hsu:=apZ (size:=size) hpT;rw[hTp]at hb hsu;have E:=atv (c:=c) (i1:=i1) (y:=y) (z:=n.size) (i:=i) (i2:=i2) (x:=x) hcB hB1 hyB hzB ⟨hi0,aha hi1 hzB.2⟩ hB2 hxB;have e1:=E.1;have e2:=E.2.1;have e3:=E.2.2.1;have e4:=E.2.2.2;clear E;have hb2:0<=(c*i1+y*n.size+i)*i2+x*n.size+j/\(c*i1+y*n.size+i)*i2+x*n.size+j<size:=hb;have hex:∃r:Nat,(c*i1+y*n.size+i)*i2+x*n.size+j=r:=⟨_,(alP hb2.1).symm⟩;obtain⟨r,hr⟩:=hex;rw[hr]at hsu hb2;have hrl:r<size:=Int.ofNat_lt.1 hb2.2;clear aqQ aqb hTp hTz hpi hb hb2;repeat' ((conv=>whnf)<;>first|(show dn ..;(first|refine aM _ 1 hut rfl aa ?_|refine aM _ 2 hut rfl aa ?_))|(show gZ ..;(first|refine Mg (λR w' h=>hur R w' h.1) (j:=1) aa g1 ?_|refine Mg (λR w' h=>hur R w' h.1) (j:=2) aa g2 ?_))|(show eP ..;(refine bY r hr hrl apx ?_))|(show dH ..;(refine aai (by rw[amw];exact hrl) ?_))|(show cO _ 28 ..;refine mV [25] _ atW ?_)|refine bV ?_|refine ag ?_ ?_<;>intro _)
      all_goals(conv=>whnf)
      exact⟨(j+1,p+1),[],⟨⟨anw hj0,hji⟩,by rw[anM,hpj,akw];rfl⟩,by simp only;omega,rfl,fE,⟨by
       show(4,b_.rows (aZ (rowP T size (p+1))) 1 3)∈_;rw[hsu];exact aj,aj,aj,trivial⟩,λ_ _ h=>h⟩
     ·have hjz:j=n.size:=amq hj1 (amt.1 hji);subst hjz;repeat' ((conv=>whnf)<;>first|refine bV ?_|refine ag ?_ ?_<;>intro _)
      all_goals(conv=>whnf)
      exact⟨(i+1,p),[],⟨⟨anw hi0,hii⟩,by rw[hpj,aky,age]⟩,by simp only;omega,rfl,fE,fE,λ_ _ h=>h⟩
    ·have hiz:i=n.size:=amq hi1 (amt.1 hii);subst hiz;have hpT:p=T.length:=Int.ofNat.inj (hpi.trans hTz.symm);refine Wp.Vh 4 w.heap.size (k:=1) (xs:=aZ (rowP T size p)) (T:=3) aj (λR w' h b hb=>(h.1 b hb).1) (λl1 hl1=> ?_);rw[aP,amw]at hl1;have hml:us.length=m:=hso.len;clear hcnt hpi hTz aqQ aqb hTl hat;repeat' ((conv=>whnf)<;>first|(show Gn ..;(refine mg apF ?_))|(show jv ..;(refine fU aoz ?_))|refine bV ?_|refine ag ?_ ?_<;>intro _)
     all_goals(conv=>whnf)
     exact⟨(x+1,m+1,us++[ax.mk l1.base l1.cap (rowP T size p)]),[(3,some 6)],⟨⟨anw hx0,hxi⟩,hso.next ⟨λv hv=>by have:=aq8 hTb v hv;unfold fJ at this;exact⟨by omega,by omega⟩,by rw[amw];exact hl1,by rw[amw];omega⟩ (asj hk hsz m (hT.trans (by rw[g1,g2])) hpT),by rw[anM,hmx,akw];rfl⟩,by simp only;omega,rfl,fE,⟨apG us l1.base l1.cap (rowP T size p) hml.symm (amw _ _ _).symm,aj,trivial⟩,λR w' h=>⟨h.1.1,mR h.1.2 h.2⟩⟩
   ·have hxz:x=W:=amq hx1 (amt.1 hxi);subst hxz;repeat' ((conv=>whnf)<;>first|refine bV ?_|refine ag ?_ ?_<;>intro _)
    all_goals(conv=>whnf)
    exact⟨(y+1,m,us),[(2,some 3)],⟨⟨by omega,by omega⟩,hso,by rw[hmx];grind⟩,by simp only;omega,rfl,fE,fE,λ_ _ h=>h⟩
  ·have hyz:y=H:=amq hy1 (amt.1 hyi);subst hyz;repeat' ((conv=>whnf)<;>first|refine bV ?_|refine ag ?_ ?_<;>intro _)
   all_goals(conv=>whnf)
   exact⟨(c+1,m,us),[(1,some 2)],⟨⟨by omega,by omega⟩,hso,by rw[hmy];grind⟩,by simp only;omega,rfl,fE,fE,λ_ _ h=>h⟩
 ·obtain rfl:c=i0:=amq hc1 (amt.1 hci);have arV:m=cnt:=by omega
  subst arV;repeat' ((conv=>whnf)<;>first|(show dn ..;refine aM _ 0 hut rfl aa ?_)|(show gZ ..;refine dP (λR w' h=>hur R w' h.1) (j:=0) aa ?_)|(show pg ..;(refine lD m rfl rfl mE aa ?_))|(show cO _ 30 ..;refine mV [] _ atD ?_)|refine bV ?_|refine ag ?_ ?_<;>intro _)
  all_goals(conv=>whnf)
  refine ao0 (i:=1) (j:=2) (B:=⟨w,[]⟩) (S:=(aU w).and (rT w.heap.size us)) (bs:=List.replicate m 0) (λ_ _ h=>h.1) (λ_ _ h=>h.2) rfl aj (by rw[aqW];exact aj) hso.len.symm (by rw[aiS]) hso ?_ (λx hx=>by rw[(anB.1 hx).2];exact⟨by decide,by decide⟩) AA;unfold Tx;apply alQ
  ·simp
  ·intro k g1 g2;rw[anm,am3,List.getElem_replicate];unfold dV;rw[if_neg aa,if_neg aa]
section
variable {o k1 c k0:Int}
theorem YY(ho:0<=o/\o<k0)(hc:0<=c/\c<k1):o*k1+c<k0*k1:=by
 have u:(o+1)*k1<=k0*k1:=ahi aa aa;rw[aky,age]at u;omega
variable {T:List Sp} {d:List Int} {k2 k3 i1 i2 W H y x i j:Int} {m:Nat}
theorem aso{p q:Nat}(hT:T=CS d k1 k2 k3 i1 i2 m)(hWd:i2-k3+1=W)(hHd:i1-k2+1=H)(hmx:(m:Int)=(o*H+y)*W+x)(hx:0<=x/\x<W)(hy:0<=y/\y<H)(hp:p<T.length)(he:(p:Int)=(c*k2+i)*k3+j)(hi:0<=i/\i<k2)(hj:0<=j/\j<k3)(hq:((o*k1+c)*k2+i)*k3+j=q):T[p]=(d.getD q 0,(c*i1+y+i)*i2+x+j):=by
 subst hT;have h1:=akj hmx hx hy;have h2:=akj he hj hi;have h3:(o*k1*k2*k3+(p:Int)).toNat=q:=by
  have:o*k1*k2*k3+(p:Int)=q:=by rw[he,<-hq];grind
  rw[this];rfl
 simp only[CS,anm,am3];unfold gY;rw[hWd,hHd,h1.1,h1.2.1,h1.2.2,h2.1,h2.2.1,h2.2.2,h3]
variable {cnt:Nat}
theorem ar4{len:Nat}(hcnt:(cnt:Int)=k0*H*W)(hbl:(len:Int)=k0)(hk:0<k0)(hm:(m:Int)=(o*H+y)*W+x)(hx:0<=x/\x<W)(hy:0<=y/\y<H)(ho:0<=o):m/(cnt/len)=o.toNat:=by
 have e1:((cnt/len:Nat):Int)=H*W:=by rw[am6,hcnt,hbl,ank];exact Int.mul_ediv_cancel_left _ aa
 have e2:((m/(cnt/len):Nat):Int)=o:=by
  rw[am6,e1,hm];have e:(o*H+y)*W+x=o*(H*W)+(y*W+x):=by grind
  rw[e];have b:y*W+x<H*W:=YY hy hx;have b0:=agJ hy.1 (show 0<=W by omega);exact(mul_add_div ⟨by omega,b⟩).1
 omega
theorem asc{n:ak}{t:ax}(hk:n.ai=4){size:Nat}(hsz:au t.xs=size)(o:Nat)(hT:T=CS n.data.xs (n.az.xs.getD 1 0) (n.az.xs.getD 2 0) (n.az.xs.getD 3 0) (t.xs.getD 1 0) (t.xs.getD 2 0) o)(hm:m=T.length):rowP T size m=qZ n t.xs o:=by
 subst hT hm;unfold qZ dZ rowP;rw[if_neg aa,if_neg aa,if_pos hk,aen (Tw _),hsz];rfl
theorem aqA(hd:∀x∈d,fJ x)(hT:T=CS d k1 k2 k3 i1 i2 o):∀t∈T,fJ t.1:=λt ht=>by
 subst hT;obtain⟨k,_,rfl⟩:=abl.1 ht;exact iY hd _
structure IxC(c i1 y i i2 x j o k1 k2 k3:Int):Prop where
 a1:0<=c*i1/\c*i1<=4096
 a2:0<=(c*i1+y+i)*i2/\(c*i1+y+i)*i2<=270336
 a3:0<=o*k1/\o*k1<=4096
 a4:0<=(o*k1+c)*k2/\(o*k1+c)*k2<=266240
 a5:0<=((o*k1+c)*k2+i)*k3/\((o*k1+c)*k2+i)*k3<=17043456
abbrev B64(x:Int):Prop:=0<=x/\x<=64
theorem auM(hc:B64 c)(h1:B64 i1)(hy:B64 y)(hi:B64 i)(h2:B64 i2)(ho:B64 o)(g1:B64 k1)(g2:B64 k2)(g3:B64 k3):IxC c i1 y i i2 x j o k1 k2 k3:=by
 have e1:=aoH (a:=c) (b:=i1) (A:=64) (B:=64) hc h1;have e2:=aoH (a:=c*i1+y+i) (b:=i2) (A:=4224) (B:=64) aa h2;have e3:=aoH (a:=o) (b:=k1) (A:=64) (B:=64) ho g1;have e4:=aoH (a:=o*k1+c) (b:=k2) (A:=4160) (B:=64) aa g2;have e5:=aoH (a:=(o*k1+c)*k2+i) (b:=k3) (A:=266304) (B:=64) aa g3;exact⟨e1,e2,e3,e4,e5⟩
structure ZA(n:ak)(tl:List Int)(cnt:Nat)(us:List ax)(bs:List Int)(m:Nat):Prop where
 rows:Jg n tl us m
 aQ:bs=(List.range m).map (dV n cnt)
variable {tl bs:List Int} {us:List ax}
theorem ZA.ata{n:ak}(h:ZA n tl cnt us bs m):bs.length=m:=by rw[h.aQ];simp
theorem ZA.next{n:ak}{tl:List Int}{cnt:Nat}{us:List ax}{bs:List Int}{m:Nat}{u:ax}{b:Int}(h:ZA n tl cnt us bs m)(hu:u.bF)(hx:u.xs=qZ n tl m)(hb:dV n cnt m=b):ZA n tl cnt (us++[u]) (bs++[b]) (m+1):=
 ⟨h.rows.next hu hx,by rw[h.aQ,<-hb,ait,afn];rfl⟩
theorem an6(bs:List Int)(x:Int)(hm:m=bs.length){i:Nat}{T:TypeId}{H:Heap}:(i,b_.rows (aZ (bs++[x])) 1 T)∈(i,b_.rows (List.take m (aZ bs)++[[.int .i64 x]]) 1 T)::H:=by
 subst hm;exact Jb bs x
end
end Go.Proofs.YtgndjjdeopfdkaaGreat

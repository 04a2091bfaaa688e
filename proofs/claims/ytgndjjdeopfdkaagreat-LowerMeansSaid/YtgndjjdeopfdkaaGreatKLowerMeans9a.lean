import Derived.Test.YtgndjjdeopfdkaaGreatKLowerMeans8
/- texts MH MD of the proof of LowerMeansSaid -/
set_option maxHeartbeats 16000000
set_option maxRecDepth 20000
set_option linter.unusedVariables false
set_option linter.unusedSimpArgs false
namespace Go.Proofs.YtgndjjdeopfdkaaGreat
open Go.SX Go.RowKit
theorem CF{a b z:Int}(hz:0<z)(hb:0<=b/\b<z):(a*z+b)/z=a/\(a*z+b)%z=b:=mul_add_div hb
theorem aqi{z i1 i2 o i:Int}{E:Nat}(hz:1<=z)(h1:z<=i1)(h2:z<=i2)(m1:i1%z=0)(m2:i2%z=0)(hi:0<=i/\i<E)(ho:0<=o):
 ((CQ z i1 i2 o).foldl Br (List.replicate E 0)).getD i.toNat 0=
   (if i/i2/i1≠o/(i2/z)/(i1/z)\/i/i2%i1/z≠o/(i2/z)%(i1/z)\/i%i2/z≠o%(i2/z)then 0 else 1):=by
 have q1:=amB i1 z;have q2:=amB i2 z;obtain⟨H,hH⟩:∃H,i1/z=H:=⟨_,rfl⟩;obtain⟨W,hW⟩:∃W,i2/z=W:=⟨_,rfl⟩;rw[hH]at q1|-
 rw[hW]at q2|-
 have e1:i1=H*z:=by rw[ajF];omega
 have e2:i2=W*z:=by rw[ajF];omega
 have hH1:0<H:=by rw[<-hH];exact Int.ediv_pos_of_pos_of_dvd aa aa (Int.dvd_of_emod_eq_zero m1)
 have hW1:0<W:=by rw[<-hW];exact Int.ediv_pos_of_pos_of_dvd aa aa (Int.dvd_of_emod_eq_zero m2)
 obtain⟨ei,bx,by_,bc⟩:=lX (i:=i) (I1:=i1) (I2:=i2) hi.1 aa aa;obtain⟨eo,ox,oy,oc⟩:=lX (i:=o) (I1:=H) (I2:=W) ho hH1 hW1;obtain⟨c,hc⟩:∃c,i/i2/i1=c:=⟨_,rfl⟩;obtain⟨fy,Zx⟩:∃c,i/i2%i1=c:=⟨_,rfl⟩;obtain⟨fx,hfx⟩:∃c,i%i2=c:=⟨_,rfl⟩;obtain⟨tc,htc⟩:∃c,o/W/H=c:=⟨_,rfl⟩;obtain⟨ty,hty⟩:∃c,o/W%H=c:=⟨_,rfl⟩;obtain⟨tx,htx⟩:∃c,o%W=c:=⟨_,rfl⟩;rw[hc,Zx,hfx]at ei;rw[Zx]at by_;rw[hfx]at bx;rw[hc]at bc;rw[htc]at oc;rw[hty]at oy;rw[htx]at ox;rw[hc,Zx,hfx,htc,hty,htx];have hty':ty*z+z<=i1:=by
  have:=ahi (show ty+1<=H by omega) (show 0<=z by omega);rw[aky,age,<-e1]at this;exact this
 have aoY:tx*z+z<=i2:=by
  have:=ahi (show tx+1<=W by omega) (show 0<=z by omega);rw[aky,age,<-e2]at this;exact this
 have apb:0<=ty*z:=agJ oy.1 aa;have apr:0<=tx*z:=agJ ox.1 aa;have term:∀x∈CQ z i1 i2 o,x.1=1/\(x.2.toNat=i.toNat->tc=c/\fy/z=ty/\fx/z=tx):=by
  intro x hx;obtain⟨p,hp,rfl⟩:=abl.1 hx;refine⟨rfl,λhxi=> ?_⟩;have hpz:(p:Int)<z*z:=by have:=ahe.1 hp;omega
  have py:0<=(p:Int)/z/\(p:Int)/z<z:=⟨amv aa aa,rV aa hpz⟩;have px:0<=(p:Int)%z/\(p:Int)%z<z:=⟨alL _ aa,akS _ aa⟩;have hpos:(iN z i1 i2 o p).2=((tc*i1+(ty*z+(p:Int)/z))*i2+(tx*z+(p:Int)%z)):=by
   unfold iN;rw[hH,hW,htc,hty,htx];simp only;rw[<-akw,<-akw]
  have hnn:0<=(iN z i1 i2 o p).2:=by
   rw[hpos];have:=agJ (show 0<=tc*i1+(ty*z+(p:Int)/z) by have:=agJ oc (show 0<=i1 by omega);omega) (show 0<=i2 by omega);omega
  have he:i=((tc*i1+(ty*z+(p:Int)/z))*i2+(tx*z+(p:Int)%z)):=by rw[<-hpos];omega
  have:=akj he ⟨by omega,by omega⟩ ⟨by omega,by omega⟩;rw[hc,Zx,hfx]at this;exact⟨this.1.symm,by rw[this.2.1];exact(CF aa py).1,by rw[this.2.2];exact(CF aa px).1⟩
 split
 ·rename_i hbad;rw[Dw,Rt];intro x hx hxi;have:=(term x hx).2 hxi;omega
 ·rename_i hgood;have g1:c=tc:=by omega
  have g2:fy/z=ty:=by omega
  have g3:fx/z=tx:=by omega
  have r1:=amB fy z;have r2:=amB fx z;rw[g2]at r1;rw[g3]at r2;have ry:0<=fy%z/\fy%z<z:=⟨alL _ aa,akS _ aa⟩;have rx:0<=fx%z/\fx%z<z:=⟨alL _ aa,akS _ aa⟩;have hp0:0<=fy%z*z+fx%z:=by have:=agJ ry.1 (show 0<=z by omega);omega
  obtain⟨p,hp⟩:=amo hp0;have hpd:=CF (a:=fy%z) (b:=fx%z) (z:=z) aa rx;rw[hp]at hpd;have hlt:(p:Int)<z*z:=by
   rw[<-hp];have:=ahi (show fy%z+1<=z by omega) (show 0<=z by omega);rw[aky,age]at this;omega
  have hmem:iN z i1 i2 o p∈CQ z i1 i2 o:=abl.2 ⟨p,ahe.2 aa,rfl⟩;have hval:(iN z i1 i2 o p).2=i:=by
   unfold iN;rw[hH,hW,htc,hty,htx];simp only;have hd1:(p:Int)/z=fy%z:=hpd.1;have hd2:(p:Int)%z=fx%z:=hpd.2;rw[hd1,hd2,ei,g1];have e3:fy=ty*z+fy%z:=by rw[ajF];omega
   have e4:fx=tx*z+fx%z:=by rw[ajF];omega
   obtain⟨a,ha⟩:∃a,fy%z=a:=⟨_,rfl⟩;obtain⟨b,hb⟩:∃b,fx%z=b:=⟨_,rfl⟩;rw[ha]at e3|-
   rw[hb]at e4|-
   rw[e3,e4];grind
  rw[Mt _ _ _ (iN z i1 i2 o p) AA hmem (by rw[hval]) (λu hu _=>((term u hu).1).trans (term _ hmem).1.symm)];exact(term _ hmem).1
theorem ZM{n:ak}{sh:List (List Int)}{s t:List Int}{cnt:Nat}(h:gN n sh s t cnt)(hl:eF n){o i:Nat}(hi:(i:Int)<au t):(qZ n t o).getD i 0=zO n t o i:=by
 have hb:=dN t;unfold qZ zO;by_cases h3:n.ai=3
 ·rw[if_pos h3,if_pos h3];have e:((o:Int)*au t+(i:Int)).toNat=o*(au t).toNat+i:=by
   have:au t=((au t).toNat:Int):=by omega
   rw[this];have e2:(o:Int)*((au t).toNat:Int)+(i:Int)=((o*(au t).toNat+i:Nat):Int):=by simp
   rw[ahh,e2,ahh]
  rw[e];simp only[List.getD,al2,anl];rw[if_pos aa]
 ·rw[if_neg h3,if_neg h3];by_cases h4:n.ai=4
  ·have hk:n.ai=3\/n.ai=4\/n.ai=5:= .inr (.inl h4);have hci:=Vf h h4;obtain⟨hf,hg⟩:=h.first hk
   have QW:=(dJ h.node.form).acS h4;have hsh:=h.node.az;unfold bP at hsh;rw[if_neg aa,if_neg aa,if_pos h4,hf]at hsh;split at hsh
   ·cases hsh
   ·rename_i hbad;have h3l:t.length=3:=by omega
    have ht0:t.getD 0 0=n.az.xs.getD 1 0:=by omega
    have hE:au t=n.az.xs.getD 1 0*t.getD 1 0*t.getD 2 0:=by
     rw[<-ht0]
     match t,h3l,hg with
     |[a,b,c],_,hg=>
      have h0:au [a,b,c]=dX 1 [a,b,c]:=by unfold au;rfl
      rw[h0]at hg|-
      simp only[dX]at hg|-
      split at hg
      ·omega
      split at hg
      ·omega
      split at hg
      ·omega
      rename_i g1 g2 g3;rw[if_neg g1,if_neg g2,if_neg g3];show 1*a*b*c=a*b*c;rw[age]
    have hrow:=Ya (d:=n.data.xs) (k1:=n.az.xs.getD 1 0) (o:=(o:Int)) (i:=(i:Int)) (E:=(au t).toNat) hci.k2 hci.k3 (by rw[<-hE];omega) ⟨by omega,by omega⟩ aa;have hT:dZ n t o=CS n.data.xs (n.az.xs.getD 1 0) (n.az.xs.getD 2 0) (n.az.xs.getD 3 0) (t.getD 1 0) (t.getD 2 0) o:=by unfold dZ;rw[if_neg h3,if_pos h4]
    rw[hT,if_pos h4];rw[ahh]at hrow;exact hrow
  ·have h5:n.ai=5:=by rcases hl with g|g|g<;>first|exact absurd g h3|exact absurd g h4|exact g
   have hpi:=TS h h5;have hrow:=aqi (z:=n.size) (i1:=t.getD 1 0) (i2:=t.getD 2 0) (o:=(o:Int)) (i:=(i:Int)) (E:=(au t).toNat) hpi.z hpi.z1 hpi.z2 hpi.m1 hpi.m2 ⟨by omega,by omega⟩ aa;have hT:dZ n t o=CQ n.size (t.getD 1 0) (t.getD 2 0) o:=by unfold dZ;rw[if_neg h3,if_neg h4]
   rw[hT,if_neg h4];rw[ahh]at hrow;exact hrow
section
abbrev aiv:DT:=(bS [0,1,2,3,4,5,6,7,8,9,10,11,12,13,14] (.alt 15 (bS [116,117] .done) (bS [116,115,117] .done)))
variable {x y q:Int} {K:Int->Prop}
theorem vC(e:x/y=q)(h0:0<=x)(h1:x<=9223372036854775807)(hy:0<y)(h:K q):yM .i64 x y K:=div_pos rfl h0 h1 hy zM
theorem abg(h0:0<=x)(hy:y≠0)(e:x%y=q)(h:K q):x8 x y K:=Ub h0 hy zM
def Lr(c y x:Int):Value:= .agg #[.int .i64 c,.int .i64 y,.int .i64 x]
theorem Dk(w:World)(at_ high wide:Int)(h0:0<=at_/\at_<=10000)(hh:1<=high/\high<=64)(hw:1<=wide/\wide<=64):Calls Tryz.prog 150 #[.int .i64 at_,.int .i64 high,.int .i64 wide] w λe w'=>e= .returned (Lr (at_/wide/high) (at_/wide%high) (at_%wide))/\Ext w w':=by
 obtain⟨d1,d2,d3,d4⟩:=jI h0.1 (show 0<wide by omega);refine fH Tryz.func150 [aC at_,aC high,aC wide] ?_;repeat' ((conv=>whnf)<;>first|(show yM ..;(first|refine vC (x:=at_) rfl aa aa aa ?_|refine vC (x:=at_/wide) rfl aa aa aa ?_))|(show x8 ..;(first|refine abg (x:=at_) aa aa rfl ?_|refine abg (x:=at_/wide) aa aa rfl ?_))|(show cO _ 1 ..;refine mV [14] _ aiT ?_)|refine a_ ?_)
 all_goals(conv=>whnf)
 exact bZ (λ_ _ h=>h) (λ_=>rfl) rfl
def ou(n:ak)(t:ax):Value:= .agg #[.int .i64 n.ai,.int .i64 n.a,.int .i64 n.b,n.az.val,.int .i64 n.lo,.int .i64 n.hi,.int .i64 n.size,n.data.val,n.aQ.val,t.val]
theorem rJ{a:Addr}{j:Nat}{S:bR}{xs:List Int}{v:Int}{K:SV->Prop}(hx:∀R w,S.holds R w->bE w (some a) 1 (aZ xs))(hj:j<xs.length)(e:xs.getD j 0=v)(h:K (aC v)):gZ (a.add (j*1)) S K:=by
 subst e;exact dP hx hj h
theorem ac_(w:World)(n:ak)(t:ax)(hs:n.az.ok w)(hd:n.data.ok w)(ht:t.ok w)(hsl:n.az.xs.length=4)(htl:t.xs.length=3){k1 k2 k3 i1 i2:Int}(e1:n.az.xs.getD 1 0=k1)(e2:n.az.xs.getD 2 0=k2)(e3:n.az.xs.getD 3 0=k3)(f1:t.xs.getD 1 0=i1)(f2:t.xs.getD 2 0=i2)(b2:(1<=k2/\k2<=i1)/\i1<=64)(b3:(1<=k3/\k3<=i2)/\i2<=64)
 {o c fy fx tc ty tx:Int} (ho:0<=o/\o<=10000) (hc:0<=c/\c<=10000) (Zx:0<=fy/\fy<=10000) (hfx:0<=fx/\fx<=10000) (g1:o/(i2-k3+1)/(i1-k2+1)=tc) (g2:o/(i2-k3+1)%(i1-k2+1)=ty) (g3:o%(i2-k3+1)=tx) {z:Int}
 (hz:(fy-ty<0\/k2<=fy-ty\/fx-tx<0\/k3<=fx-tx)/\z=0\/¬(fy-ty<0\/k2<=fy-ty\/fx-tx<0\/k3<=fx-tx)/\(0<=tc*k1/\tc*k1<=1000000)/\(0<=(tc*k1+c)*k2/\(tc*k1+c)*k2<=1000000)/\(0<=((tc*k1+c)*k2+(fy-ty))*k3/\((tc*k1+c)*k2+(fy-ty))*k3<=1000000)/\∃q:Nat,((tc*k1+c)*k2+(fy-ty))*k3+(fx-tx)=q/\q<n.data.xs.length/\n.data.xs.getD q 0=z):
 Calls Tryz.prog 149 #[ou n t,.int .i64 o,Lr c fy fx] w λe w'=>e= .returned (.int .i64 z)/\Ext w w':=by
 obtain⟨sa,hsa⟩:=hs.base aa;obtain⟨ta,Vs⟩:=ht.base aa;have hsr:∀(R:Nat->Prop) w',(aU w).holds R w'->bE w' (some sa) 1 (aZ n.az.xs):=λR w' h=>by rw[<-hsa];exact aH h hs.rows
 have htr:∀(R:Nat->Prop) w',(aU w).holds R w'->bE w' (some ta) 1 (aZ t.xs):=λR w' h=>by rw[<-Vs];exact aH h ht.rows
 have hsp:∀(w':World),Calls Tryz.prog 150 #[.int .i64 o,.int .i64 (i1-k2+1),.int .i64 (i2-k3+1)] w' λe w2=>e= .returned (Lr tc ty tx)/\Ext w' w2:=λw'=>by
  have:=Dk w' o (i1-k2+1) (i2-k3+1) ho aa aa;rw[g1,g2,g3]at this;exact this
 obtain⟨d1,d2,d3,d4⟩:=jI ho.1 (show 0<i2-k3+1 by omega);obtain⟨d5,d6,d7,d8⟩:=jI d1 (show 0<i1-k2+1 by omega);rw[g1]at d5 d6;rw[g2]at d7 d8;rw[g3]at d3 d4;rcases hz with⟨hbad,rfl⟩|⟨hgood,hA,hB,hC,q,hq,Tn,rfl⟩
 ·refine fH Tryz.func149 [.agg [aC n.ai,aC n.a,aC n.b,.c n.az.val,aC n.lo,aC n.hi,aC n.size,.c n.data.val,.c n.aQ.val,.c t.val],aC o,.agg [aC c,aC fy,aC fx]] ?_;repeat' ((conv=>whnf)<;>first|(show dn ..;(first|refine aM sa 2 hsa rfl aa ?_|refine aM sa 3 hsa rfl aa ?_|refine aM sa 1 hsa rfl aa ?_|refine aM ta 1 Vs rfl aa ?_|refine aM ta 2 Vs rfl aa ?_))|(show gZ ..;(first|refine rJ hsr (j:=2) aa e2 ?_|refine rJ hsr (j:=3) aa e3 ?_|refine rJ hsr (j:=1) aa e1 ?_|refine rJ htr (j:=1) aa f1 ?_|refine rJ htr (j:=2) aa f2 ?_))|(show @iG _ _ _;(first|refine gJ aa ?_|refine jc aa ?_|(refine ag ?_ ?_<;>intro _)))|(show aJ _ 150 ..;refine aR (f:=150) Tryz.call150 (Lr tc ty tx) (λρ w' hw=>hsp w') ?_)|(show cO _ 2 ..;refine mV [17] _ aiv ?_)|refine bV ?_|refine And.intro ?_ ?_)
  all_goals(conv=>whnf)
  all_goals first|(exfalso;omega)|exact bZ (λ_ _ h=>h) (λ_=>rfl) rfl
 ·obtain⟨da,hda⟩:=hd.base aa;have hdr:∀(R:Nat->Prop) w',(aU w).holds R w'->bE w' (some da) 1 (aZ n.data.xs):=λR w' h=>by rw[<-hda];exact aH h hd.rows
  refine fH Tryz.func149 [.agg [aC n.ai,aC n.a,aC n.b,.c n.az.val,aC n.lo,aC n.hi,aC n.size,.c n.data.val,.c n.aQ.val,.c t.val],aC o,.agg [aC c,aC fy,aC fx]] ?_;repeat' ((conv=>whnf)<;>first|(show dn ..;(first|refine aM sa 2 hsa rfl aa ?_|refine aM sa 3 hsa rfl aa ?_|refine aM sa 1 hsa rfl aa ?_|refine aM ta 1 Vs rfl aa ?_|refine aM ta 2 Vs rfl aa ?_|refine aM da q hda hq Tn ?_))|(show gZ ..;(first|refine rJ hsr (j:=2) aa e2 ?_|refine rJ hsr (j:=3) aa e3 ?_|refine rJ hsr (j:=1) aa e1 ?_|refine rJ htr (j:=1) aa f1 ?_|refine rJ htr (j:=2) aa f2 ?_|refine dP hdr (j:=q) Tn ?_))|(show aJ _ 150 ..;refine aR (f:=150) Tryz.call150 (Lr tc ty tx) (λρ w' hw=>hsp w') ?_)|(show cO _ 2 ..;refine mV [17] _ aiv ?_)|refine bV ?_|refine ag ?_ ?_<;>intro _|refine And.intro ?_ ?_)
  all_goals(conv=>whnf)
  all_goals exact bZ (λ_ _ h=>h) (λ_=>rfl) rfl
end
structure af_(n:ak)(t:List Int)(cnt:Nat)(k0 k1 k2 k3 i1 i2:Int):Prop where
 ai:n.ai=4
 s4:n.az.xs.length=4
 t3:t.length=3
 e0:n.az.xs.getD 0 0=k0
 e1:n.az.xs.getD 1 0=k1
 e2:n.az.xs.getD 2 0=k2
 e3:n.az.xs.getD 3 0=k3
 f0:t.getD 0 0=k1
 f1:t.getD 1 0=i1
 f2:t.getD 2 0=i2
 b0:1<=k0/\k0<=64
 b1:1<=k1/\k1<=64
 b2:1<=k2/\k2<=i1
 b3:1<=k3/\k3<=i2
 bi1:i1<=64
 bi2:i2<=64
 data:(n.data.xs.length:Int)=k0*k1*k2*k3
 aQ:(n.aQ.xs.length:Int)=k0
 cnt:(cnt:Int)=k0*(i1-k2+1)*(i2-k3+1)
 size:au t=k1*i1*i2
structure ai1(n:ak)(t:List Int)(cnt:Nat)(i0 i1 i2:Int):Prop where
 ai:n.ai=5
 t3:t.length=3
 f0:t.getD 0 0=i0
 f1:t.getD 1 0=i1
 f2:t.getD 2 0=i2
 b0:1<=i0/\i0<=64
 z:1<=n.size
 z1:n.size<=i1
 z2:n.size<=i2
 b1:i1<=64
 b2:i2<=64
 m1:i1%n.size=0
 m2:i2%n.size=0
 cnt:(cnt:Int)=i0*(i1/n.size)*(i2/n.size)
 size:au t=i0*i1*i2
theorem S_{n:ak}{sh:List (List Int)}{s t:List Int}{cnt:Nat}(h:gN n sh s t cnt)(hl:eF n):
 (n.ai=3/\∃size:Nat,au t=size/\n.data.xs.length=cnt*size/\n.aQ.xs.length=cnt)\/(∃k0 k1 k2 k3 i1 i2,af_ n t cnt k0 k1 k2 k3 i1 i2)\/∃i0 i1 i2,ai1 n t cnt i0 i1 i2:=by
 have hsh:=h.node.az;have hfo:=dJ h.node.form;have h4:=ai3 h.node.form;have heb:=(dN t).2;have hc:=h.cnt;have ug:=h.few;have hgs:=h.pos;obtain⟨ht,hg⟩:=h.first hl
 obtain⟨size,hsz⟩:∃size:Nat,au t=size:=⟨(au t).toNat,by omega⟩;rcases hl with hk|hk|hk
 ·refine .inl ⟨hk,size,hsz,?_⟩;unfold bP at hsh;rw[if_neg aa,if_pos hk,ht]at hsh;by_cases hdl:(n.data.xs.length:Int)=n.aQ.xs.length*au t
  ·rw[if_pos hdl,Option.some.injEq]at hsh;obtain⟨b1,b2⟩:=hfo.aQ hk;have he1:au [(n.aQ.xs.length:Int)]=n.aQ.xs.length:=by
    unfold au;rw[if_neg aI];simp only[dX];rw[if_neg aa];omega
   rw[<-hsh,he1]at hc;have hbl:n.aQ.xs.length=cnt:=by omega
   have ad8:n.data.xs.length=n.aQ.xs.length*size:=by
    rw[hsz,<-akv]at hdl;exact Int.ofNat.inj hdl
   rw[hbl]at ad8;exact⟨ad8,hbl⟩
  ·rw[if_neg hdl]at hsh;cases hsh
 ·obtain⟨g1,g2⟩:=h4 hk;have QW:=hfo.acS hk;obtain⟨hl4,acD⟩:=uu QW;have hsx:=aiR hl4;have hC:=Vf h hk;unfold bP at hsh;rw[if_neg aa,if_neg aa,if_pos hk,ht]at hsh;have dm:∀k,k<4->1<=n.az.xs.getD k 0/\n.az.xs.getD k 0<=64:=λk hk=>acD _ (cu aa);have dm0:=dm 0 ay;have dm1:=dm 1 ay;rw[hsx]at g1 QW;have hke:=XR QW;rw[hke]at g1;by_cases hbad:t.length≠3\/t.getD 0 0≠n.az.xs.getD 1 0\/t.getD 1 0<n.az.xs.getD 2 0\/t.getD 2 0<n.az.xs.getD 3 0
  ·rw[if_pos hbad]at hsh;cases hsh
  rw[if_neg hbad]at hsh;have hl3:t.length=3:=by omega
  have htx:=adL hl3;have h0:t.getD 0 0=n.az.xs.getD 1 0:=by omega
  have YR:=(g_ hg).2.2;have td1:=YR _ (cu (xs:=t) (k:=1) aa);have td2:=YR _ (cu (xs:=t) (k:=2) aa);have hE:au t=n.az.xs.getD 1 0*t.getD 1 0*t.getD 2 0:=by
   have:=jP Am;rw[<-htx,h0]at this;exact this
  by_cases hpos:0<au [n.az.xs.getD 0 0,t.getD 1 0-n.az.xs.getD 2 0+1,t.getD 2 0-n.az.xs.getD 3 0+1]
  ·rw[if_pos hpos,Option.some.injEq]at hsh;have hcv:=jP hpos;rw[hsh,hc]at hcv;exact .inr (.inl ⟨_,_,_,_,_,_,⟨hk,hl4,hl3,rfl,rfl,rfl,rfl,h0,rfl,rfl,dm0,dm1,hC.k2,hC.k3,td1.2,td2.2,g1,g2,hcv,hE⟩⟩)
  ·rw[if_neg hpos]at hsh;cases hsh
 ·have hP:=TS h hk;unfold bP at hsh;rw[if_neg aa,if_neg aa,if_neg aa,if_pos hk,ht]at hsh;by_cases hbad:t.length≠3\/t.getD 1 0%n.size≠0\/t.getD 2 0%n.size≠0
  ·rw[if_pos hbad]at hsh;cases hsh
  rw[if_neg hbad,Option.some.injEq]at hsh;have hl3:t.length=3:=by omega
  have htx:=adL hl3;have YR:=(g_ hg).2.2;have td0:=YR _ (cu (xs:=t) (k:=0) aa);have td1:=YR _ (cu (xs:=t) (k:=1) aa);have td2:=YR _ (cu (xs:=t) (k:=2) aa);have hpos:0<au [t.getD 0 0,t.getD 1 0/n.size,t.getD 2 0/n.size]:=by
   have:=jG hfo hgs h.node.az rfl;rw[hsh];exact this
  have hcv:=jP hpos;rw[hsh,hc]at hcv;have hE:au t=t.getD 0 0*t.getD 1 0*t.getD 2 0:=by
   have:=jP Am;rw[<-htx]at this;exact this
  exact .inr (.inr ⟨_,_,_,⟨hk,hl3,rfl,rfl,rfl,td0,hP.z,hP.z1,hP.z2,td1.2,td2.2,hP.m1,hP.m2,hcv,hE⟩⟩)
def Q9(o i:Int):Int:=if o=i then 1 else 0
theorem YO(w:World)(n:ak)(t:ax)(hk:n.ai=9)(o i:Int):Calls Tryz.prog 124 #[ou n t,.int .i64 o,.int .i64 i] w λe w'=>e= .returned (.int .i64 (Q9 o i))/\Ext w w':=by
 by_cases h:o=i
 ·refine fH Tryz.func124 [.agg [aC n.ai,aC n.a,aC n.b,.c n.az.val,aC n.lo,aC n.hi,aC n.size,.c n.data.val,.c n.aQ.val,.c t.val],aC o,aC i] ?_;repeat' ((conv=>whnf)<;>first|refine bV ?_|refine ag ?_ ?_<;>intro _)
  all_goals(conv=>whnf)
  all_goals exact bZ (λ_ _ h=>h) (λ_=>by rw[Q9,if_pos h];rfl) rfl
 ·refine fH Tryz.func124 [.agg [aC n.ai,aC n.a,aC n.b,.c n.az.val,aC n.lo,aC n.hi,aC n.size,.c n.data.val,.c n.aQ.val,.c t.val],aC o,aC i] ?_;repeat' ((conv=>whnf)<;>first|refine bV ?_|refine ag ?_ ?_<;>intro _)
  all_goals(conv=>whnf)
  all_goals exact bZ (λ_ _ h=>h) (λ_=>by rw[Q9,if_neg h];rfl) rfl
theorem YQ(w:World)(n:ak)(t:ax)(hd:n.data.ok w)(hk:n.ai=3)(size cnt:Nat)(hsz:au t.xs=size)(hdl:n.data.xs.length=cnt*size)(hbl:n.aQ.xs.length=cnt)(ah9:cnt<=64)(akl:size<=64)(o i:Nat)(ho:o<cnt)(hi:i<size):Calls Tryz.prog 124 #[ou n t,.int .i64 o,.int .i64 i] w λe w'=>e= .returned (.int .i64 (zO n t.xs o i))/\Ext w w':=by
 have hq:o*size+i<cnt*size:=by
  have:(o+1)*size<=cnt*size:=aj4 _ ho;rw[aiB]at this;omega
 have hos:o*size<=64*64:=alN aa akl;have hcs:cnt*size<=64*64:=alN ah9 akl;have hdiv:((n.data.xs.length:Nat):Int)/((n.aQ.xs.length:Nat):Int)=(size:Int):=by
  rw[hdl,hbl,<-am6,Nat.mul_div_cancel_left _ aa]
 have hW:zO n t.xs o i=n.data.xs.getD (o*size+i) 0:=by
  rw[zO,if_pos hk,hsz,show(o:Int)*(size:Int)+(i:Int)=((o*size+i:Nat):Int) by simp,ahh]
 rw[hW];obtain⟨da,hda⟩:=hd.base aa;have hdr:∀(R:Nat->Prop) w',(aU w).holds R w'->bE w' (some da) 1 (aZ n.data.xs):=λR w' h=>by rw[<-hda];exact aH h hd.rows
 refine fH Tryz.func124 [.agg [aC n.ai,aC n.a,aC n.b,.c n.az.val,aC n.lo,aC n.hi,aC n.size,.c n.data.val,.c n.aQ.val,.c t.val],aC o,aC i] ?_;repeat' ((conv=>whnf)<;>first|(show yM ..;refine vC hdiv aa aa aa ?_)|(show fF ..;(first|refine Iw ((o*size:Nat):Int) (akv _ _).symm aa aa ?_|refine wrap_i64 aa aa ?_))|(show dn ..;refine aM da (o*size+i) hda aa aa ?_)|(show gZ ..;refine dP hdr (j:=o*size+i) aa ?_)|refine bV ?_|refine ag ?_ ?_<;>intro _)
 all_goals(conv=>whnf)
 all_goals exact bZ (λ_ _ h=>h) (λ_=>rfl) rfl
section
abbrev alV:DT:=(bS [0,1,2,3,4,5,6,7,8,9,10,11,12,13,14,15,16,18,19,20,21,22,23,24,25,26] (.alt 17 (.alt 27 (.alt 28 (bS [129,130,131] .done) (bS [129,128,130,131] .done)) (.alt 28 (.alt 27 (bS [129,130,131] .done) (bS [129,127,130,131] .done)) (.one 29 (.alt 27 (bS [128,130,131] .done) (bS [128,127,130,131] .done))))) (.alt 28 (.alt 17 (.alt 27 (bS [129,130,131] .done) (bS [129,127,130,131] .done)) (bS [129,117,127,130,131] .done)) (.one 29 (.alt 17 (.alt 27 (bS [128,130,131] .done) (bS [128,127,130,131] .done)) (bS [128,117,127,130,131] .done))))))
variable {k0 k1 k2 k3 i1 i2:Int}
theorem ahP{n:ak}{t:ax}{cnt:Nat}(h:af_ n t.xs cnt k0 k1 k2 k3 i1 i2)(ug:n.data.xs.length<=1000000){o i:Int}(ho:0<=o/\o<cnt)(hi:0<=i/\i<au t.xs){c fy fx tc ty tx:Int}
 (hc:i/i2/i1=c) (Zx:i/i2%i1=fy) (hfx:i%i2=fx) (htc:o/(i2-k3+1)/(i1-k2+1)=tc) (hty:o/(i2-k3+1)%(i1-k2+1)=ty) (htx:o%(i2-k3+1)=tx):
 (fy-ty<0\/k2<=fy-ty\/fx-tx<0\/k3<=fx-tx)/\zO n t.xs o i=0\/¬(fy-ty<0\/k2<=fy-ty\/fx-tx<0\/k3<=fx-tx)/\(0<=tc*k1/\tc*k1<=1000000)/\(0<=(tc*k1+c)*k2/\(tc*k1+c)*k2<=1000000)/\(0<=((tc*k1+c)*k2+(fy-ty))*k3/\((tc*k1+c)*k2+(fy-ty))*k3<=1000000)/\∃q:Nat,((tc*k1+c)*k2+(fy-ty))*k3+(fx-tx)=q/\q<n.data.xs.length/\n.data.xs.getD q 0=zO n t.xs o i:=by
 obtain⟨hk,s4,t3,e0,e1,e2,e3,f0,f1,f2,b0,b1,b2,b3,bi1,bi2,hd,hb,hcnt,hsz⟩:=h;have hw:zO n t.xs o i=if fy-ty<0\/k2<=fy-ty\/fx-tx<0\/k3<=fx-tx then 0 else n.data.xs.getD (((tc*k1+c)*k2+(fy-ty))*k3+(fx-tx)).toNat 0:=by
  unfold zO;rw[if_neg aa,if_pos hk,e1,e2,e3,f1,f2,hc,Zx,hfx,htc,hty,htx]
 rw[hw];by_cases hbad:fy-ty<0\/k2<=fy-ty\/fx-tx<0\/k3<=fx-tx
 ·exact .inl ⟨hbad,if_pos hbad⟩
 ·refine .inr ⟨hbad,?_⟩;rw[if_neg hbad];obtain⟨_,ox,oy,oc⟩:=lX (i:=o) (I1:=i1-k2+1) (I2:=i2-k3+1) ho.1 aa aa;obtain⟨_,ix,iy,ic⟩:=lX (i:=i) (I1:=i1) (I2:=i2) hi.1 aa aa;rw[htc]at oc;rw[hc]at ic;have htk:tc<k0:=by
   rw[<-htc];refine rV aa (rV aa ?_);rw[<-hcnt];exact ho.2
  have hck:c<k1:=by
   rw[<-hc];refine rV aa (rV aa ?_);rw[<-hsz];exact hi.2
  have L1:=YY (o:=tc) (k1:=k1) (c:=c) (k0:=k0) ⟨oc,htk⟩ ⟨ic,hck⟩;have p1:0<=tc*k1:=agJ oc aa;have L2:=YY (o:=tc*k1+c) (k1:=k2) (c:=fy-ty) (k0:=k0*k1) ⟨by omega,L1⟩ ⟨by omega,by omega⟩;have p2:0<=(tc*k1+c)*k2:=agJ aa aa;have L3:=YY (o:=(tc*k1+c)*k2+(fy-ty)) (k1:=k3) (c:=fx-tx) (k0:=k0*k1*k2) ⟨by omega,L2⟩ ⟨by omega,by omega⟩;have p3:0<=((tc*k1+c)*k2+(fy-ty))*k3:=agJ aa aa;have u1:tc*k1<=(tc*k1+c)*k2:=by
   have:=ai6 (show 1<=k2 by omega) (show 0<=tc*k1+c by omega);rw[Int.mul_one]at this;omega
  have u2:(tc*k1+c)*k2<=((tc*k1+c)*k2+(fy-ty))*k3:=by
   have:=ai6 (show 1<=k3 by omega) (show 0<=(tc*k1+c)*k2+(fy-ty) by omega);rw[Int.mul_one]at this;omega
  rw[<-hd]at L3;obtain⟨q,hq⟩:=amo (show 0<=((tc*k1+c)*k2+(fy-ty))*k3+(fx-tx) by omega);exact⟨⟨p1,by omega⟩,⟨p2,by omega⟩,⟨p3,by omega⟩,q,hq,by omega,by rw[hq];rfl⟩
theorem XI(w:World)(n:ak)(t:ax)(hno:n.ok w)(ht:t.ok w)(cnt:Nat)(ah9:cnt<=64)(h:af_ n t.xs cnt k0 k1 k2 k3 i1 i2)(o i:Nat)(ho:o<cnt)(hi:(i:Int)<au t.xs):Calls Tryz.prog 124 #[ou n t,.int .i64 o,.int .i64 i] w λe w'=>e= .returned (.int .i64 (zO n t.xs o i))/\Ext w w':=by
 have hes:=(dN t.xs).2;obtain⟨ta,Vs⟩:=ht.base (by have:=h.t3;omega);have ht3:=h.t3;have htr:∀(R:Nat->Prop) w',(aU w).holds R w'->bE w' (some ta) 1 (aZ t.xs):=λR w' h=>by rw[<-Vs];exact aH h ht.rows
 have hk:=h.ai;have g1:=h.b2;have g2:=h.b3;have g3:=h.bi1;have g4:=h.bi2;obtain⟨_,ix,iy,ic⟩:=lX (i:=(i:Int)) (I1:=i1) (I2:=i2) aa aa aa;have d1:=aku (a:=(i:Int)) i2 aa;have d2:=aku (a:=(i:Int)/i2) i1 (amv aa aa);have hsp:∀(w':World),Calls Tryz.prog 150 #[.int .i64 i,.int .i64 i1,.int .i64 i2] w' λe w2=>e= .returned (Lr ((i:Int)/i2/i1) ((i:Int)/i2%i1) ((i:Int)%i2))/\Ext w' w2:=λw'=>Dk w' i i1 i2 aa aa aa;have hcv:∀(w':World),n.ok w'->t.ok w'->Calls Tryz.prog 149 #[ou n t,.int .i64 o,Lr ((i:Int)/i2/i1) ((i:Int)/i2%i1) ((i:Int)%i2)] w' λe w2=>e= .returned (.int .i64 (zO n t.xs o i))/\Ext w' w2:=λw' hn' ht'=>
  ac_ w' n t hn'.az hn'.data ht' h.s4 h.t3 h.e1 h.e2 h.e3 h.f1 h.f2 ⟨g1,g3⟩ ⟨g2,g4⟩ aa aa aa aa rfl rfl rfl (ahP h hno.data.few aa aa rfl rfl rfl rfl rfl rfl)
 refine fH Tryz.func124 [.agg [aC n.ai,aC n.a,aC n.b,.c n.az.val,aC n.lo,aC n.hi,aC n.size,.c n.data.val,.c n.aQ.val,.c t.val],aC o,aC i] ?_;repeat' ((conv=>whnf)<;>first|(show dn ..;(first|refine aM ta 1 Vs rfl aa ?_|refine aM ta 2 Vs rfl aa ?_))|(show gZ ..;(first|refine rJ htr (j:=1) aa h.f1 ?_|refine rJ htr (j:=2) aa h.f2 ?_))|(show jQ _ 150 ..;refine jo (f:=150) Tryz.call150 (Lr ((i:Int)/i2/i1) ((i:Int)/i2%i1) ((i:Int)%i2)) (λρ w' hw=>hsp w') ?_)|(show jQ _ 149 ..;refine jo (f:=149) Tryz.call149 (.int .i64 (zO n t.xs o i)) (λρ w' hw=>hcv w' (ae hw λR h=>hno.later h) (ae hw λR h=>ht.later h)) ?_)|refine bV ?_|refine ag ?_ ?_<;>intro _)
 all_goals(conv=>whnf)
 all_goals exact bZ (λ_ _ h=>h) (λ_=>rfl) rfl
theorem V3(w:World)(n:ak)(t:ax)(ht:t.ok w)(cnt:Nat)(ah9:cnt<=64){i0:Int}(h:ai1 n t.xs cnt i0 i1 i2)(o i:Nat)(ho:o<cnt)(hi:(i:Int)<au t.xs):Calls Tryz.prog 124 #[ou n t,.int .i64 o,.int .i64 i] w λe w'=>e= .returned (.int .i64 (zO n t.xs o i))/\Ext w w':=by
 have hes:=(dN t.xs).2;obtain⟨hk,ht3,f0,f1,f2,b0,hz,z1,z2,b1,b2,m1,m2,hcnt,hsz⟩:=h;obtain⟨ta,Vs⟩:=ht.base aa;have htr:∀(R:Nat->Prop) w',(aU w).holds R w'->bE w' (some ta) 1 (aZ t.xs):=λR w' h=>by rw[<-Vs];exact aH h ht.rows
 have hH:=uq (x:=i1) (y:=n.size) hz z1;have hW:=uq (x:=i2) (y:=n.size) hz z2;have hH2:=aku (a:=i1) n.size aa;have hW2:=aku (a:=i2) n.size aa;obtain⟨_,ix,iy,ic⟩:=lX (i:=(i:Int)) (I1:=i1) (I2:=i2) aa aa aa;have d1:=aku (a:=(i:Int)) i2 aa;have d2:=aku (a:=(i:Int)/i2) i1 (amv aa aa);have hw:zO n t.xs o i=if(i:Int)/i2/i1≠(o:Int)/(i2/n.size)/(i1/n.size)\/(i:Int)/i2%i1/n.size≠(o:Int)/(i2/n.size)%(i1/n.size)\/(i:Int)%i2/n.size≠(o:Int)%(i2/n.size)then 0 else 1:=by
  unfold zO;rw[if_neg aa,if_neg aa,f1,f2]
 rw[hw];have hsp:∀(w':World),Calls Tryz.prog 150 #[.int .i64 i,.int .i64 i1,.int .i64 i2] w' λe w2=>e= .returned (Lr ((i:Int)/i2/i1) ((i:Int)/i2%i1) ((i:Int)%i2))/\Ext w' w2:=λw'=>Dk w' i i1 i2 aa aa aa;have hsp2:∀(w':World),Calls Tryz.prog 150 #[.int .i64 o,.int .i64 (i1/n.size),.int .i64 (i2/n.size)] w' λe w2=>e= .returned (Lr ((o:Int)/(i2/n.size)/(i1/n.size)) ((o:Int)/(i2/n.size)%(i1/n.size)) ((o:Int)%(i2/n.size)))/\Ext w' w2:=λw'=>Dk w' o (i1/n.size) (i2/n.size) aa aa aa;obtain⟨H,hHd⟩:∃H,i1/n.size=H:=⟨_,rfl⟩;obtain⟨W,hWd⟩:∃W,i2/n.size=W:=⟨_,rfl⟩;rw[hHd,hWd]at hsp2|-
 obtain⟨c,hc⟩:∃c,(i:Int)/i2/i1=c:=⟨_,rfl⟩;obtain⟨fy,Zx⟩:∃c,(i:Int)/i2%i1=c:=⟨_,rfl⟩;obtain⟨fx,hfx⟩:∃c,(i:Int)%i2=c:=⟨_,rfl⟩;obtain⟨tc,htc⟩:∃c,(o:Int)/W/H=c:=⟨_,rfl⟩;obtain⟨ty,hty⟩:∃c,(o:Int)/W%H=c:=⟨_,rfl⟩;obtain⟨tx,htx⟩:∃c,(o:Int)%W=c:=⟨_,rfl⟩;rw[hc,Zx,hfx]at hsp|-
 rw[htc,hty,htx]at hsp2|-
 rw[Zx]at iy;rw[hfx]at ix;rw[hc]at ic d2;refine fH Tryz.func124 [.agg [aC n.ai,aC n.a,aC n.b,.c n.az.val,aC n.lo,aC n.hi,aC n.size,.c n.data.val,.c n.aQ.val,.c t.val],aC o,aC i] ?_;repeat' ((conv=>whnf)<;>first|(show cO _ 7 ..;refine mV [] _ alV ?_)|(show dn ..;(first|refine aM ta 1 Vs rfl aa ?_|refine aM ta 2 Vs rfl aa ?_))|(show gZ ..;(first|refine rJ htr (j:=1) aa f1 ?_|refine rJ htr (j:=2) aa f2 ?_))|(show yM ..;(first|refine vC hHd aa aa aa ?_|refine vC hWd aa aa aa ?_|refine vC (x:=fy) rfl aa aa aa ?_|refine vC (x:=fx) rfl aa aa aa ?_))|(show aJ _ 150 [aC i,aC i1,aC i2] ..;refine aR (f:=150) Tryz.call150 (Lr c fy fx) (λρ w' hw=>hsp w') ?_)|(show aJ _ 150 [aC o,aC H,aC W] ..;refine aR (f:=150) Tryz.call150 (Lr tc ty tx) (λρ w' hw=>hsp2 w') ?_)|refine bV ?_|refine ag ?_ ?_<;>intro _|refine And.intro ?_ ?_)
 all_goals(conv=>whnf)
 all_goals first|exact bZ (λ_ _ h=>h) (λ_=>by rw[if_pos aa];rfl) rfl|exact bZ (λ_ _ h=>h) (λ_=>by rw[if_neg aa];rfl) rfl
end
end Go.Proofs.YtgndjjdeopfdkaaGreat

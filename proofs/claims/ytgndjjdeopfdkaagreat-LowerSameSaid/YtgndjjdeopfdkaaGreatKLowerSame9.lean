import Derived.Test.YtgndjjdeopfdkaaGreatKLowerSame8
/- texts MJ MD of the proof of LowerSameSaid -/
set_option maxHeartbeats 16000000
set_option maxRecDepth 20000
set_option linter.unusedVariables false
set_option linter.unusedSimpArgs false
namespace Go.Proofs.YtgndjjdeopfdkaaGreat
open Go.SX Go.RowKit
structure af_(n:ak)(t:List Int)(cnt:Nat)(k0 k1 k2 k3 i1 i2:Int):Prop where
 ai:n.ai=4
 s4:n.az.xs.length=4
 t3:t.length=3
 e0:n.az.xs.getD 0 0=k0
 e1:n.az.xs.getD 1 0=k1
 e2:n.az.xs.getD 2 0=k2
 e3:n.az.xs.getD 3 0=k3
 f0:t.getD 0 0=k1
 f1:t.getD 1 0=i1
 f2:t.getD 2 0=i2
 b0:1<=k0/\k0<=64
 b1:1<=k1/\k1<=64
 b2:1<=k2/\k2<=i1
 b3:1<=k3/\k3<=i2
 bi1:i1<=64
 bi2:i2<=64
 data:(n.data.xs.length:Int)=k0*k1*k2*k3
 aQ:(n.aQ.xs.length:Int)=k0
 cnt:(cnt:Int)=k0*(i1-k2+1)*(i2-k3+1)
 size:au t=k1*i1*i2
structure ai1(n:ak)(t:List Int)(cnt:Nat)(i0 i1 i2:Int):Prop where
 ai:n.ai=5
 t3:t.length=3
 f0:t.getD 0 0=i0
 f1:t.getD 1 0=i1
 f2:t.getD 2 0=i2
 b0:1<=i0/\i0<=64
 z:1<=n.size
 z1:n.size<=i1
 z2:n.size<=i2
 b1:i1<=64
 b2:i2<=64
 m1:i1%n.size=0
 m2:i2%n.size=0
 cnt:(cnt:Int)=i0*(i1/n.size)*(i2/n.size)
 size:au t=i0*i1*i2
theorem S_{n:ak}{sh:List (List Int)}{s t:List Int}{cnt:Nat}(h:gN n sh s t cnt)(hl:eF n):
 (n.ai=3/\∃size:Nat,au t=size/\n.data.xs.length=cnt*size/\n.aQ.xs.length=cnt)\/(∃k0 k1 k2 k3 i1 i2,af_ n t cnt k0 k1 k2 k3 i1 i2)\/∃i0 i1 i2,ai1 n t cnt i0 i1 i2:=by
 have hsh:=h.node.az
 have hfo:=dJ h.node.form
 have h4:=ai3 h.node.form
 have heb:=(dN t).2
 have hc:=h.cnt
 have ug:=h.few
 have hgs:=h.pos
 obtain⟨ht,hg⟩:=h.first hl
 obtain⟨size,hsz⟩:∃size:Nat,au t=size:=⟨(au t).toNat,by omega⟩
 rcases hl with hk|hk|hk
 ·refine .inl ⟨hk,size,hsz,?_⟩
  unfold bP at hsh
  rw[if_neg aa,if_pos hk,ht]at hsh
  by_cases hdl:(n.data.xs.length:Int)=n.aQ.xs.length*au t
  ·rw[if_pos hdl,Option.some.injEq]at hsh
   obtain⟨b1,b2⟩:=hfo.aQ hk
   have he1:au [(n.aQ.xs.length:Int)]=n.aQ.xs.length:=by
    unfold au
    rw[if_neg aI]
    simp only[dX]
    rw[if_neg aa]
    omega
   rw[<-hsh,he1]at hc
   have hbl:n.aQ.xs.length=cnt:=by omega
   have ad8:n.data.xs.length=n.aQ.xs.length*size:=by
    rw[hsz,<-Int.natCast_mul]at hdl
    exact Int.ofNat.inj hdl
   rw[hbl]at ad8
   exact⟨ad8,hbl⟩
  ·rw[if_neg hdl]at hsh;cases hsh
 ·obtain⟨g1,g2⟩:=h4 hk
  have QW:=hfo.acS hk
  obtain⟨hl4,acD⟩:=uu QW
  have hsx:=aiR hl4
  have hC:=Vf h hk
  unfold bP at hsh
  rw[if_neg aa,if_neg aa,if_pos hk,ht]at hsh
  have dm:∀k,k<4->1<=n.az.xs.getD k 0/\n.az.xs.getD k 0<=64:=λk hk=>acD _ (cu aa)
  have dm0:=dm 0 ay
  have dm1:=dm 1 ay
  rw[hsx]at g1 QW
  have hke:=XR QW
  rw[hke]at g1
  by_cases hbad:t.length≠3\/t.getD 0 0≠n.az.xs.getD 1 0\/t.getD 1 0<n.az.xs.getD 2 0\/t.getD 2 0<n.az.xs.getD 3 0
  ·rw[if_pos hbad]at hsh;cases hsh
  rw[if_neg hbad]at hsh
  have hl3:t.length=3:=by omega
  have htx:=adL hl3
  have h0:t.getD 0 0=n.az.xs.getD 1 0:=by omega
  have YR:=(g_ hg).2.2
  have td1:=YR _ (cu (xs:=t) (k:=1) aa)
  have td2:=YR _ (cu (xs:=t) (k:=2) aa)
  have hE:au t=n.az.xs.getD 1 0*t.getD 1 0*t.getD 2 0:=by
   have:=jP Am
   rw[<-htx,h0]at this
   exact this
  by_cases hpos:0<au [n.az.xs.getD 0 0,t.getD 1 0-n.az.xs.getD 2 0+1,t.getD 2 0-n.az.xs.getD 3 0+1]
  ·rw[if_pos hpos,Option.some.injEq]at hsh
   have hcv:=jP hpos
   rw[hsh,hc]at hcv
   exact .inr (.inl ⟨_,_,_,_,_,_,⟨hk,hl4,hl3,rfl,rfl,rfl,rfl,h0,rfl,rfl,dm0,dm1,hC.k2,hC.k3,td1.2,td2.2,g1,g2,hcv,hE⟩⟩)
  ·rw[if_neg hpos]at hsh;cases hsh
 ·have hP:=TS h hk
  unfold bP at hsh
  rw[if_neg aa,if_neg aa,if_neg aa,if_pos hk,ht]at hsh
  by_cases hbad:t.length≠3\/t.getD 1 0%n.size≠0\/t.getD 2 0%n.size≠0
  ·rw[if_pos hbad]at hsh;cases hsh
  rw[if_neg hbad,Option.some.injEq]at hsh
  have hl3:t.length=3:=by omega
  have htx:=adL hl3
  have YR:=(g_ hg).2.2
  have td0:=YR _ (cu (xs:=t) (k:=0) aa)
  have td1:=YR _ (cu (xs:=t) (k:=1) aa)
  have td2:=YR _ (cu (xs:=t) (k:=2) aa)
  have hpos:0<au [t.getD 0 0,t.getD 1 0/n.size,t.getD 2 0/n.size]:=by
   have:=jG hfo hgs h.node.az rfl
   rw[hsh];exact this
  have hcv:=jP hpos
  rw[hsh,hc]at hcv
  have hE:au t=t.getD 0 0*t.getD 1 0*t.getD 2 0:=by
   have:=jP Am
   rw[<-htx]at this
   exact this
  exact .inr (.inr ⟨_,_,_,⟨hk,hl3,rfl,rfl,rfl,td0,hP.z,hP.z1,hP.z2,td1.2,td2.2,hP.m1,hP.m2,hcv,hE⟩⟩)
def Q9(o i:Int):Int:=if o=i then 1 else 0
theorem YO(w:World)(n:ak)(t:ax)(hk:n.ai=9)(o i:Int):Calls Tryz.prog 124 #[ou n t,.int .i64 o,.int .i64 i] w λe w'=>e= .returned (.int .i64 (Q9 o i))/\Ext w w':=by
 by_cases h:o=i
 ·refine fH Tryz.func124 [.agg [aC n.ai,aC n.a,aC n.b,.c n.az.val,aC n.lo,aC n.hi,aC n.size,.c n.data.val,.c n.aQ.val,.c t.val],aC o,aC i] ?_
  repeat' ((conv=>whnf)<;>first|refine bV ?_|refine ag ?_ ?_<;>intro _)
  all_goals(conv=>whnf)
  all_goals exact bZ (λ_ _ h=>h) (λ_=>by rw[Q9,if_pos h];rfl) rfl
 ·refine fH Tryz.func124 [.agg [aC n.ai,aC n.a,aC n.b,.c n.az.val,aC n.lo,aC n.hi,aC n.size,.c n.data.val,.c n.aQ.val,.c t.val],aC o,aC i] ?_
  repeat' ((conv=>whnf)<;>first|refine bV ?_|refine ag ?_ ?_<;>intro _)
  all_goals(conv=>whnf)
  all_goals exact bZ (λ_ _ h=>h) (λ_=>by rw[Q9,if_neg h];rfl) rfl
theorem YQ(w:World)(n:ak)(t:ax)(hd:n.data.ok w)(hk:n.ai=3)(size cnt:Nat)(hsz:au t.xs=size)(hdl:n.data.xs.length=cnt*size)(hbl:n.aQ.xs.length=cnt)(ah9:cnt<=64)(akl:size<=64)(o i:Nat)(ho:o<cnt)(hi:i<size):Calls Tryz.prog 124 #[ou n t,.int .i64 o,.int .i64 i] w λe w'=>e= .returned (.int .i64 (zO n t.xs o i))/\Ext w w':=by
 have hq:o*size+i<cnt*size:=by
  have:(o+1)*size<=cnt*size:=Nat.mul_le_mul_right _ ho
  rw[Nat.succ_mul]at this;omega
 have hos:o*size<=64*64:=Nat.mul_le_mul aa akl
 have hcs:cnt*size<=64*64:=Nat.mul_le_mul ah9 akl
 have hdiv:((n.data.xs.length:Nat):Int)/((n.aQ.xs.length:Nat):Int)=(size:Int):=by
  rw[hdl,hbl,<-Int.natCast_ediv,Nat.mul_div_cancel_left _ aa]
 have hW:zO n t.xs o i=n.data.xs.getD (o*size+i) 0:=by
  rw[zO,if_pos hk,hsz,show(o:Int)*(size:Int)+(i:Int)=((o*size+i:Nat):Int) by simp,Int.toNat_natCast]
 rw[hW]
 obtain⟨da,hda⟩:=hd.base aa
 have hdr:∀(R:Nat->Prop) w',(aU w).holds R w'->bE w' (some da) 1 (aZ n.data.xs):=λR w' h=>by rw[<-hda];exact aH h hd.rows
 refine fH Tryz.func124 [.agg [aC n.ai,aC n.a,aC n.b,.c n.az.val,aC n.lo,aC n.hi,aC n.size,.c n.data.val,.c n.aQ.val,.c t.val],aC o,aC i] ?_
 repeat' ((conv=>whnf)<;>first|(show yM ..;refine vC hdiv aa aa aa ?_)|(show fF ..;(first|refine Iw ((o*size:Nat):Int) (Int.natCast_mul _ _).symm aa aa ?_|refine wrap_i64 aa aa ?_))|(show dn ..;refine aM da (o*size+i) hda aa aa ?_)|(show gZ ..;refine dP hdr (j:=o*size+i) aa ?_)|refine bV ?_|refine ag ?_ ?_<;>intro _)
 all_goals(conv=>whnf)
 all_goals exact bZ (λ_ _ h=>h) (λ_=>rfl) rfl
section
abbrev alV:DT:=(bS [0,1,2,3,4,5,6,7,8,9,10,11,12,13,14,15,16,18,19,20,21,22,23,24,25,26] (.alt 17 (.alt 27 (.alt 28 (bS [129,130,131] .done) (bS [129,128,130,131] .done)) (.alt 28 (.alt 27 (bS [129,130,131] .done) (bS [129,127,130,131] .done)) (.one 29 (.alt 27 (bS [128,130,131] .done) (bS [128,127,130,131] .done))))) (.alt 28 (.alt 17 (.alt 27 (bS [129,130,131] .done) (bS [129,127,130,131] .done)) (bS [129,117,127,130,131] .done)) (.one 29 (.alt 17 (.alt 27 (bS [128,130,131] .done) (bS [128,127,130,131] .done)) (bS [128,117,127,130,131] .done))))))
variable {k0 k1 k2 k3 i1 i2:Int}
theorem ahP{n:ak}{t:ax}{cnt:Nat}(h:af_ n t.xs cnt k0 k1 k2 k3 i1 i2)(ug:n.data.xs.length<=1000000){o i:Int}(ho:0<=o/\o<cnt)(hi:0<=i/\i<au t.xs){c fy fx tc ty tx:Int}
 (hc:i/i2/i1=c) (Zx:i/i2%i1=fy) (hfx:i%i2=fx) (htc:o/(i2-k3+1)/(i1-k2+1)=tc) (hty:o/(i2-k3+1)%(i1-k2+1)=ty) (htx:o%(i2-k3+1)=tx):
 (fy-ty<0\/k2<=fy-ty\/fx-tx<0\/k3<=fx-tx)/\zO n t.xs o i=0\/¬(fy-ty<0\/k2<=fy-ty\/fx-tx<0\/k3<=fx-tx)/\(0<=tc*k1/\tc*k1<=1000000)/\(0<=(tc*k1+c)*k2/\(tc*k1+c)*k2<=1000000)/\(0<=((tc*k1+c)*k2+(fy-ty))*k3/\((tc*k1+c)*k2+(fy-ty))*k3<=1000000)/\∃q:Nat,((tc*k1+c)*k2+(fy-ty))*k3+(fx-tx)=q/\q<n.data.xs.length/\n.data.xs.getD q 0=zO n t.xs o i:=by
 obtain⟨hk,s4,t3,e0,e1,e2,e3,f0,f1,f2,b0,b1,b2,b3,bi1,bi2,hd,hb,hcnt,hsz⟩:=h
 have hw:zO n t.xs o i=if fy-ty<0\/k2<=fy-ty\/fx-tx<0\/k3<=fx-tx then 0 else n.data.xs.getD (((tc*k1+c)*k2+(fy-ty))*k3+(fx-tx)).toNat 0:=by
  unfold zO
  rw[if_neg aa,if_pos hk,e1,e2,e3,f1,f2,hc,Zx,hfx,htc,hty,htx]
 rw[hw]
 by_cases hbad:fy-ty<0\/k2<=fy-ty\/fx-tx<0\/k3<=fx-tx
 ·exact .inl ⟨hbad,if_pos hbad⟩
 ·refine .inr ⟨hbad,?_⟩
  rw[if_neg hbad]
  obtain⟨_,ox,oy,oc⟩:=lX (i:=o) (I1:=i1-k2+1) (I2:=i2-k3+1) ho.1 aa aa
  obtain⟨_,ix,iy,ic⟩:=lX (i:=i) (I1:=i1) (I2:=i2) hi.1 aa aa
  rw[htc]at oc
  rw[hc]at ic
  have htk:tc<k0:=by
   rw[<-htc]
   refine rV aa (rV aa ?_)
   rw[<-hcnt];exact ho.2
  have hck:c<k1:=by
   rw[<-hc]
   refine rV aa (rV aa ?_)
   rw[<-hsz];exact hi.2
  have L1:=YY (o:=tc) (k1:=k1) (c:=c) (k0:=k0) ⟨oc,htk⟩ ⟨ic,hck⟩
  have p1:0<=tc*k1:=Int.mul_nonneg oc aa
  have L2:=YY (o:=tc*k1+c) (k1:=k2) (c:=fy-ty) (k0:=k0*k1) ⟨by omega,L1⟩ ⟨by omega,by omega⟩
  have p2:0<=(tc*k1+c)*k2:=Int.mul_nonneg aa aa
  have L3:=YY (o:=(tc*k1+c)*k2+(fy-ty)) (k1:=k3) (c:=fx-tx) (k0:=k0*k1*k2) ⟨by omega,L2⟩ ⟨by omega,by omega⟩
  have p3:0<=((tc*k1+c)*k2+(fy-ty))*k3:=Int.mul_nonneg aa aa
  have u1:tc*k1<=(tc*k1+c)*k2:=by
   have:=Int.mul_le_mul_of_nonneg_left (show 1<=k2 by omega) (show 0<=tc*k1+c by omega)
   rw[Int.mul_one]at this;omega
  have u2:(tc*k1+c)*k2<=((tc*k1+c)*k2+(fy-ty))*k3:=by
   have:=Int.mul_le_mul_of_nonneg_left (show 1<=k3 by omega) (show 0<=(tc*k1+c)*k2+(fy-ty) by omega)
   rw[Int.mul_one]at this;omega
  rw[<-hd]at L3
  obtain⟨q,hq⟩:=Int.eq_ofNat_of_zero_le (show 0<=((tc*k1+c)*k2+(fy-ty))*k3+(fx-tx) by omega)
  exact⟨⟨p1,by omega⟩,⟨p2,by omega⟩,⟨p3,by omega⟩,q,hq,by omega,by rw[hq];rfl⟩
theorem XI(w:World)(n:ak)(t:ax)(hno:n.ok w)(ht:t.ok w)(cnt:Nat)(ah9:cnt<=64)(h:af_ n t.xs cnt k0 k1 k2 k3 i1 i2)(o i:Nat)(ho:o<cnt)(hi:(i:Int)<au t.xs):Calls Tryz.prog 124 #[ou n t,.int .i64 o,.int .i64 i] w λe w'=>e= .returned (.int .i64 (zO n t.xs o i))/\Ext w w':=by
 have hes:=(dN t.xs).2
 obtain⟨ta,Vs⟩:=ht.base (by have:=h.t3;omega)
 have ht3:=h.t3
 have htr:∀(R:Nat->Prop) w',(aU w).holds R w'->bE w' (some ta) 1 (aZ t.xs):=λR w' h=>by rw[<-Vs];exact aH h ht.rows
 have hk:=h.ai
 have g1:=h.b2
 have g2:=h.b3
 have g3:=h.bi1
 have g4:=h.bi2
 obtain⟨_,ix,iy,ic⟩:=lX (i:=(i:Int)) (I1:=i1) (I2:=i2) aa aa aa
 have d1:=Int.ediv_le_self (a:=(i:Int)) i2 aa
 have d2:=Int.ediv_le_self (a:=(i:Int)/i2) i1 (Int.ediv_nonneg aa aa)
 have hsp:∀(w':World),Calls Tryz.prog 150 #[.int .i64 i,.int .i64 i1,.int .i64 i2] w' λe w2=>e= .returned (Lr ((i:Int)/i2/i1) ((i:Int)/i2%i1) ((i:Int)%i2))/\Ext w' w2:=λw'=>Dk w' i i1 i2 aa aa aa
 have hcv:∀(w':World),n.ok w'->t.ok w'->Calls Tryz.prog 149 #[ou n t,.int .i64 o,Lr ((i:Int)/i2/i1) ((i:Int)/i2%i1) ((i:Int)%i2)] w' λe w2=>e= .returned (.int .i64 (zO n t.xs o i))/\Ext w' w2:=λw' hn' ht'=>
  ac_ w' n t hn'.az hn'.data ht' h.s4 h.t3 h.e1 h.e2 h.e3 h.f1 h.f2 ⟨g1,g3⟩ ⟨g2,g4⟩ aa aa aa aa rfl rfl rfl (ahP h hno.data.few aa aa rfl rfl rfl rfl rfl rfl)
 refine fH Tryz.func124 [.agg [aC n.ai,aC n.a,aC n.b,.c n.az.val,aC n.lo,aC n.hi,aC n.size,.c n.data.val,.c n.aQ.val,.c t.val],aC o,aC i] ?_
 repeat' ((conv=>whnf)<;>first|(show dn ..;(first|refine aM ta 1 Vs rfl aa ?_|refine aM ta 2 Vs rfl aa ?_))|(show gZ ..;(first|refine rJ htr (j:=1) aa h.f1 ?_|refine rJ htr (j:=2) aa h.f2 ?_))|(show jQ _ 150 ..;refine jo (f:=150) Tryz.call150 (Lr ((i:Int)/i2/i1) ((i:Int)/i2%i1) ((i:Int)%i2)) (λρ w' hw=>hsp w') ?_)|(show jQ _ 149 ..;refine jo (f:=149) Tryz.call149 (.int .i64 (zO n t.xs o i)) (λρ w' hw=>hcv w' (ae hw λR h=>hno.later h) (ae hw λR h=>ht.later h)) ?_)|refine bV ?_|refine ag ?_ ?_<;>intro _)
 all_goals(conv=>whnf)
 all_goals exact bZ (λ_ _ h=>h) (λ_=>rfl) rfl
theorem V3(w:World)(n:ak)(t:ax)(ht:t.ok w)(cnt:Nat)(ah9:cnt<=64){i0:Int}(h:ai1 n t.xs cnt i0 i1 i2)(o i:Nat)(ho:o<cnt)(hi:(i:Int)<au t.xs):Calls Tryz.prog 124 #[ou n t,.int .i64 o,.int .i64 i] w λe w'=>e= .returned (.int .i64 (zO n t.xs o i))/\Ext w w':=by
 have hes:=(dN t.xs).2
 obtain⟨hk,ht3,f0,f1,f2,b0,hz,z1,z2,b1,b2,m1,m2,hcnt,hsz⟩:=h
 obtain⟨ta,Vs⟩:=ht.base aa
 have htr:∀(R:Nat->Prop) w',(aU w).holds R w'->bE w' (some ta) 1 (aZ t.xs):=λR w' h=>by rw[<-Vs];exact aH h ht.rows
 have hH:=uq (x:=i1) (y:=n.size) hz z1
 have hW:=uq (x:=i2) (y:=n.size) hz z2
 have hH2:=Int.ediv_le_self (a:=i1) n.size aa
 have hW2:=Int.ediv_le_self (a:=i2) n.size aa
 obtain⟨_,ix,iy,ic⟩:=lX (i:=(i:Int)) (I1:=i1) (I2:=i2) aa aa aa
 have d1:=Int.ediv_le_self (a:=(i:Int)) i2 aa
 have d2:=Int.ediv_le_self (a:=(i:Int)/i2) i1 (Int.ediv_nonneg aa aa)
 have hw:zO n t.xs o i=if(i:Int)/i2/i1≠(o:Int)/(i2/n.size)/(i1/n.size)\/(i:Int)/i2%i1/n.size≠(o:Int)/(i2/n.size)%(i1/n.size)\/(i:Int)%i2/n.size≠(o:Int)%(i2/n.size)then 0 else 1:=by
  unfold zO
  rw[if_neg aa,if_neg aa,f1,f2]
 rw[hw]
 have hsp:∀(w':World),Calls Tryz.prog 150 #[.int .i64 i,.int .i64 i1,.int .i64 i2] w' λe w2=>e= .returned (Lr ((i:Int)/i2/i1) ((i:Int)/i2%i1) ((i:Int)%i2))/\Ext w' w2:=λw'=>Dk w' i i1 i2 aa aa aa
 have hsp2:∀(w':World),Calls Tryz.prog 150 #[.int .i64 o,.int .i64 (i1/n.size),.int .i64 (i2/n.size)] w' λe w2=>e= .returned (Lr ((o:Int)/(i2/n.size)/(i1/n.size)) ((o:Int)/(i2/n.size)%(i1/n.size)) ((o:Int)%(i2/n.size)))/\Ext w' w2:=λw'=>Dk w' o (i1/n.size) (i2/n.size) aa aa aa
 obtain⟨H,hHd⟩:∃H,i1/n.size=H:=⟨_,rfl⟩
 obtain⟨W,hWd⟩:∃W,i2/n.size=W:=⟨_,rfl⟩
 rw[hHd,hWd]at hsp2|-
 obtain⟨c,hc⟩:∃c,(i:Int)/i2/i1=c:=⟨_,rfl⟩
 obtain⟨fy,Zx⟩:∃c,(i:Int)/i2%i1=c:=⟨_,rfl⟩
 obtain⟨fx,hfx⟩:∃c,(i:Int)%i2=c:=⟨_,rfl⟩
 obtain⟨tc,htc⟩:∃c,(o:Int)/W/H=c:=⟨_,rfl⟩
 obtain⟨ty,hty⟩:∃c,(o:Int)/W%H=c:=⟨_,rfl⟩
 obtain⟨tx,htx⟩:∃c,(o:Int)%W=c:=⟨_,rfl⟩
 rw[hc,Zx,hfx]at hsp|-
 rw[htc,hty,htx]at hsp2|-
 rw[Zx]at iy
 rw[hfx]at ix
 rw[hc]at ic d2
 refine fH Tryz.func124 [.agg [aC n.ai,aC n.a,aC n.b,.c n.az.val,aC n.lo,aC n.hi,aC n.size,.c n.data.val,.c n.aQ.val,.c t.val],aC o,aC i] ?_
 repeat' ((conv=>whnf)<;>first|(show cO _ 7 ..;refine mV [] _ alV ?_)|(show dn ..;(first|refine aM ta 1 Vs rfl aa ?_|refine aM ta 2 Vs rfl aa ?_))|(show gZ ..;(first|refine rJ htr (j:=1) aa f1 ?_|refine rJ htr (j:=2) aa f2 ?_))|(show yM ..;(first|refine vC hHd aa aa aa ?_|refine vC hWd aa aa aa ?_|refine vC (x:=fy) rfl aa aa aa ?_|refine vC (x:=fx) rfl aa aa aa ?_))|(show aJ _ 150 [aC i,aC i1,aC i2] ..;refine aR (f:=150) Tryz.call150 (Lr c fy fx) (λρ w' hw=>hsp w') ?_)|(show aJ _ 150 [aC o,aC H,aC W] ..;refine aR (f:=150) Tryz.call150 (Lr tc ty tx) (λρ w' hw=>hsp2 w') ?_)|refine bV ?_|refine ag ?_ ?_<;>intro _|refine And.intro ?_ ?_)
 all_goals(conv=>whnf)
 all_goals first|exact bZ (λ_ _ h=>h) (λ_=>by rw[if_pos aa];rfl) rfl|exact bZ (λ_ _ h=>h) (λ_=>by rw[if_neg aa];rfl) rfl
end
theorem DI(w:World)(n:ak)(t:ax)(hb:n.aQ.ok w)(cnt o:Nat)(hc:cnt<=64)(ho:o<cnt)(h3:n.ai=3->n.aQ.xs.length=cnt)(h4:n.ai=4->1<=n.aQ.xs.length/\n.aQ.xs.length<=64/\0<cnt/n.aQ.xs.length/\o/(cnt/n.aQ.xs.length)<n.aQ.xs.length):
 Calls Tryz.prog 125 #[ou n t,.int .i64 o,.int .i64 cnt] w λe w'=>e= .returned (.int .i64 (dV n cnt o))/\Ext w w':=by
 have ug:=hb.few
 by_cases hk3:n.ai=3
 ·have hB:dV n cnt o=n.aQ.xs.getD o 0:=if_pos hk3
  have hl:=h3 hk3
  rw[hB]
  obtain⟨ua,rO⟩:=hb.base aa
  have hur:∀(R:Nat->Prop) w',(aU w).holds R w'->bE w' (some ua) 1 (aZ n.aQ.xs):=λR w' h=>by rw[<-rO];exact aH h hb.rows
  refine fH Tryz.func125 [.agg [aC n.ai,aC n.a,aC n.b,.c n.az.val,aC n.lo,aC n.hi,aC n.size,.c n.data.val,.c n.aQ.val,.c t.val],aC o,aC cnt] ?_
  repeat' ((conv=>whnf)<;>first|(show dn ..;refine aM ua o rO rfl aa ?_)|refine pY ?_|refine bV ?_|refine ag ?_ ?_<;>intro _)
  all_goals(conv=>whnf)
  all_goals exact bZ (λ_ _ h=>h) (λ_=>rfl) rfl
 ·by_cases hk4:n.ai=4
  ·obtain⟨l1,l2,l3,l4⟩:=h4 hk4
   have hB:dV n cnt o=n.aQ.xs.getD (o/(cnt/n.aQ.xs.length)) 0:=by rw[dV,if_neg hk3,if_pos hk4]
   rw[hB]
   obtain⟨ua,rO⟩:=hb.base aa
   have hur:∀(R:Nat->Prop) w',(aU w).holds R w'->bE w' (some ua) 1 (aZ n.aQ.xs):=λR w' h=>by rw[<-rO];exact aH h hb.rows
   refine fH Tryz.func125 [.agg [aC n.ai,aC n.a,aC n.b,.c n.az.val,aC n.lo,aC n.hi,aC n.size,.c n.data.val,.c n.aQ.val,.c t.val],aC o,aC cnt] ?_
   repeat' ((conv=>whnf)<;>first|(show yM ..;(first|refine vC (Int.natCast_ediv cnt n.aQ.xs.length).symm aa aa aa ?_|refine vC (Int.natCast_ediv o (cnt/n.aQ.xs.length)).symm aa aa aa ?_))|(show dn ..;refine aM ua (o/(cnt/n.aQ.xs.length)) rO rfl l4 ?_)|(show gZ ..;refine dP hur (j:=o/(cnt/n.aQ.xs.length)) l4 ?_)|refine bV ?_|refine ag ?_ ?_<;>intro _)
   all_goals(conv=>whnf)
   all_goals exact bZ (λ_ _ h=>h) (λ_=>rfl) rfl
  ·have hB:dV n cnt o=0:=by rw[dV,if_neg hk3,if_neg hk4]
   rw[hB]
   refine fH Tryz.func125 [.agg [aC n.ai,aC n.a,aC n.b,.c n.az.val,aC n.lo,aC n.hi,aC n.size,.c n.data.val,.c n.aQ.val,.c t.val],aC o,aC cnt] ?_
   repeat' ((conv=>whnf)<;>first|refine bV ?_|refine ag ?_ ?_<;>intro _)
   all_goals(conv=>whnf)
   all_goals exact bZ (λ_ _ h=>h) (λ_=>rfl) rfl
def Bu(n:ak)(t:List Int)(o:Nat):List Int:=(List.range (au t).toNat).map λ(i:Nat)=>if n.ai=9 then Q9 o i else zO n t o i
def yu(n:ak)(t:List Int)(cnt:Nat):List (List Int):=(List.range cnt).map (Bu n t)
structure RowsIn(n:ak)(t s:List Int)(cnt:Nat):Prop where
 place:gN n [t] s t cnt
 ai:eF n\/n.ai=9
 size:1<=au t
theorem ZI(w:World)(n:ak)(t:ax)(s:List Int)(cnt:Nat)(h:RowsIn n t.xs s cnt)(hno:n.ok w)(ht:t.ok w)(o i:Nat)(ho:o<cnt)(hi:(i:Int)<au t.xs):Calls Tryz.prog 124 #[ou n t,.int .i64 o,.int .i64 i] w λe w'=>e= .returned (.int .i64 (if n.ai=9 then Q9 o i else zO n t.xs o i))/\Ext w w':=by
 have hc:=h.place.few
 have heb:=(dN t.xs).2
 rcases h.ai with hl|h9
 ·have h9:n.ai≠9:=by rcases hl with g|g|g<;>omega
  rw[if_neg h9]
  rcases S_ h.place hl with⟨hk,size,hsz,hdl,hbl⟩|⟨k0,k1,k2,k3,i1,i2,hL⟩|⟨i0,i1,i2,hL⟩
  ·exact YQ w n t hno.data hk size cnt hsz hdl hbl hc.2 aa o i ho aa
  ·exact XI w n t hno ht cnt hc.2 hL o i ho hi
  ·exact V3 w n t ht cnt hc.2 hL o i ho hi
 ·rw[if_pos h9]
  exact YO w n t h9 o i
theorem ahO(w:World)(n:ak)(t:ax)(s:List Int)(cnt:Nat)(h:RowsIn n t.xs s cnt)(hno:n.ok w)(o:Nat)(ho:o<cnt):Calls Tryz.prog 125 #[ou n t,.int .i64 o,.int .i64 cnt] w λe w'=>e= .returned (.int .i64 (dV n cnt o))/\Ext w w':=by
 have hc:=h.place.few
 rcases h.ai with hl|h9
 ·rcases S_ h.place hl with⟨hk,size,hsz,hdl,hbl⟩|⟨k0,k1,k2,k3,i1,i2,hL⟩|⟨i0,i1,i2,hL⟩
  ·exact DI w n t hno.aQ cnt o hc.2 ho (λ_=>hbl) (λh4=>by omega)
  ·refine DI w n t hno.aQ cnt o hc.2 ho (λh3=>by have:=hL.ai;omega) λ_=> ?_
   have hb:=hL.aQ
   have b0:=hL.b0
   have hcnt:=hL.cnt
   have b2:=hL.b2
   have b3:=hL.b3
   obtain⟨q,hq⟩:∃q:Nat,(i1-k2+1)*(i2-k3+1)=q:=Int.eq_ofNat_of_zero_le (Int.mul_nonneg aa aa)
   have hq1:1<=q:=by
    have:=Int.mul_pos (show 0<i1-k2+1 by omega) (show 0<i2-k3+1 by omega)
    omega
   have e1:cnt=n.aQ.xs.length*q:=by
    rw[Int.mul_assoc,hq,<-hb,<-Int.natCast_mul]at hcnt
    exact Int.ofNat.inj hcnt
   have e2:cnt/n.aQ.xs.length=q:=by rw[e1,Nat.mul_div_cancel_left _ aa]
   rw[e2]
   exact⟨by omega,by omega,hq1,(Nat.div_lt_iff_lt_mul aa).2 (by rw[<-e1];exact ho)⟩
  ·exact DI w n t hno.aQ cnt o hc.2 ho (λh3=>by have:=hL.ai;omega) (λh4=>by have:=hL.ai;omega)
 ·exact DI w n t hno.aQ cnt o hc.2 ho (λh3=>by omega) (λh4=>by omega)
section
def af5:ax:=⟨none,0,[]⟩
def inpN(t:ax):ak:=⟨1,0,0,t,0,0,0,af5,af5⟩
def zB(n:ak)(t:ax):Int×List (List Int):=check ⟨none,0,[inpN t,n],1⟩
theorem abn(n:ak)(t:ax)(b:Option Addr)(c:Nat):check ⟨b,c,[inpN t,n],1⟩=zB n t:=by unfold zB check;rfl
def sW(n:ak)(t:ax):Prop:=(eF n\/n.ai=9)/\n.a=0/\(zB n t).1=0
instance(n:ak)(t:ax):Decidable (sW n t):=by unfold sW;infer_instance
def zw(n:ak)(t:ax):Nat:=(au ((zB n t).2.getD 1 [])).toNat
def pu(n:ak)(t:ax):(List (List Int)×List Int)×Int:=if sW n t then((yu n t.xs (zw n t),(List.range (zw n t)).map (dV n (zw n t))),0)else(([],[]),3)
variable {t:ax}
theorem aaS{n:ak}(h:sW n t):∃s,(zB n t).2=[t.xs,s]/\au s=zw n t/\RowsIn n t.xs s (zw n t):=by
 obtain⟨hk,ha,hc⟩:=h
 obtain⟨h1,h2,h3,h4,h5⟩:=gK (g:=⟨none,0,[inpN t,n],1⟩) hc
 obtain⟨s0,e0,n0⟩:=h5 0 (inpN t) rfl
 obtain⟨s1,e1,n1⟩:=h5 1 n rfl
 have hs0:s0=t.xs:=by
  have:=n0.az
  unfold bP at this
  rw[if_pos (.inl rfl)]at this
  exact(Option.some.inj this).symm
 have hl:(zB n t).2.length=2:=h4
 have hsh:(zB n t).2=[t.xs,s1]:=by
  have a0:(zB n t).2[0]? =some s0:=e0
  have a1:(zB n t).2[1]? =some s1:=e1
  match hq:(zB n t).2,hl with
  |[x,y],_=>
   rw[hq]at a0 a1
   simp at a0 a1
   rw[a0,a1,hs0]
 obtain⟨_,_,cnt,hcnt,hp⟩:=yl (g:=⟨none,0,[inpN t,n],1⟩) hc (i:=1) (n:=n) rfl
 have e2:(check ⟨none,0,[inpN t,n],1⟩).2=[t.xs,s1]:=hsh
 rw[e2,ha]at hp
 rw[e2]at hcnt
 have hc2:zw n t=cnt:=by
  unfold zw
  rw[hsh,hcnt];rfl
 refine⟨s1,hsh,by rw[hc2];exact hcnt,by rw[hc2];exact hp,hk,?_⟩
 have:=hp.pos t.xs List.mem_cons_self
 omega
def yY(w:World)(r:(List (List Int)×List Int)×Int):Ending->World->Prop:=λe w'=>∃(x:aY) (y:ax),(BO r.1.1 x/\y.xs=r.1.2/\y.bF)/\e= .returned (.tuple #[x.val,y.val,.int .i64 r.2])/\Ext w w'/\(wm x).holds (λb=>w.heap.size<=b/\b<w'.heap.size) w'/\(bX y).holds (λb=>w.heap.size<=b/\b<w'.heap.size) w'
variable {w:World} {B:Base} {H:Heap} {S:bR} {nx:Nat}
theorem Kl{n:ak}(hno:¬sW n t)(hb:∀R w',S.holds R w'->(aU B.w0).holds R w')(hw0:B.w0=w):jS B (.xg [.c (.slice none 0 0),.c (.slice none 0 0),aC 3]) H S nx (yY w (pu n t)):=by
 subst hw0
 rw[pu,if_neg hno]
 refine dK λρ w' hw=>⟨⟨none,0,[]⟩,⟨none,0,[]⟩,⟨⟨rfl,λ_ h=>bT,Nat.le_refl _⟩,rfl,⟨λ_ h=>bT,Nat.le_refl _,by decide⟩⟩,rfl,bG hw hb,⟨⟨λ_ h=>bT,.inl rfl⟩,λ_ h=>bT⟩,⟨λ_ h=>bT,.inl rfl⟩⟩
def RIs(p:iR):Prop:=(p.1=⟨none,0⟩/\p.2=[])\/((∃b off,p.1.base=some ⟨b,off,none⟩)/\p.2≠[]/\p.2.length<=p.1.cap)
theorem afE{i g j n m:Nat}{L:List iR}{bs:List Int}{r:(List (List Int)×List Int)×Int}(hb:∀R w',S.holds R w'->(aU B.w0).holds R w')(hw0:B.w0=w)(hL:∀p∈L,RIs p)(hf:∀p∈L,(∀x∈p.2,i64 x)/\p.2.length<=1000000)(hm:m=L.length)(hn:n=bs.length)(hbf:∀x∈bs,i64 x)(hbl:bs.length<=1000000)
 (hi:(i,b_.rows (iM L) 1 32)∈H) (hg:(g,b_.ext (o_ 3 (nK L)))∈H) (hj:(j,b_.rows (aZ bs) 1 3)∈H) (hr:r=((L.map Prod.snd,bs),0)):
 jS B (.xg [.os i m,.os j n,aC 0]) H S nx (yY w r):=by
 subst hw0 hm hn hr
 refine dK λρ w' hw=> ?_
 have hn1:=fI hw hb hi
 have hsh:iM L=bA (L.map p_):=by simp[iM,bA,Nj,p_,ax.val]
 rw[hsh]at hn1
 obtain⟨base,cap,e,h1,h2⟩:∃base cap,(SV.os i (bA (L.map p_)).length).rf ρ= .slice base (L.map p_).length cap/\(L.map p_).length<=cap/\(f_ base 1 (bA (L.map p_))).holds (λb=>B.w0.heap.size<=b/\b<w'.heap.size) w':=by
  obtain⟨base,cap,e,h1⟩:=ig hn1
  obtain⟨lc,e2,F,hF,hr,hcap,_⟩:=hn1
  rw[e2]at e
  simp only[Value.slice.injEq]at e
  obtain⟨e3,_,e4⟩:=e
  refine⟨base,cap,?_,?_,h1⟩
  ·rw[e2,e3,e4,bz]
  ·rw[<-e4];simpa[bz]using hcap
 have hlen:(bA (L.map p_)).length=L.length:=by rw[bz,List.length_map]
 rw[hlen]at e
 have hn2:=fI hw hb hj
 rw[aP]at hn2
 obtain⟨y,ey,y1,y2,y3⟩:=vv hn2 hbf hbl
 refine⟨⟨base,cap,L.map p_⟩,y,⟨⟨by simp[p_],λu hu=> ?_,h1⟩,y1,y2⟩,?_,bG hw hb,⟨h2,λu hu=> ?_⟩,y3⟩
 ·obtain⟨p,hp,rfl⟩:=List.mem_map.1 hu
  rcases hL p hp with⟨e1,e2⟩|⟨_,e2,e3⟩
  ·exact⟨(hf p hp).1,by simp[p_,e2],by simp[p_,e2]⟩
  ·exact⟨(hf p hp).1,e3,(hf p hp).2⟩
 ·have:(SV.xg [.os i L.length,.os j bs.length,aC 0]).rf ρ= .tuple #[(SV.os i L.length).rf ρ,(SV.os j bs.length).rf ρ,.int .i64 0]:=rfl
  rw[this,e,ey,List.length_map]
  simp[aY.val]
 ·obtain⟨p,hp,rfl⟩:=List.mem_map.1 hu
  rcases hL p hp with⟨e1,e2⟩|⟨⟨b,off,e1⟩,e2,e3⟩
  ·show(f_ (p_ p).base 1 (aZ (p_ p).xs)).holds _ w'
   have:(p_ p).xs=[]:=e2
   rw[this]
   exact⟨λr hr=>(by cases hr),.inl rfl⟩
  ·have hp':((p.1,p.2.map (Value.int .i64)):zi)∈nK L:=List.mem_map.2 ⟨p,hp,rfl⟩
   obtain⟨g1,g2,g3⟩:=aa5 hw hb hg hp' e1
   refine⟨kJ,.inr ⟨b,off,e1,⟨g1,g2⟩,λk r hk j v hj=> ?_⟩⟩
   have hkl:k<p.2.length:=by
    have:=(List.getElem?_eq_some_iff.1 hk).1
    rwa[aP]at this
   have hk':(aZ p.2)[k]? =some r:=hk
   rw[eO hkl]at hk'
   obtain rfl:[Value.int .i64 p.2[k]]=r:=by simpa using hk'
   have hj0:j=0:=by
    rcases Nat.eq_zero_or_pos j with h|h
    ·exact h
    ·rw[List.getElem?_eq_none AR]at hj;cases hj
   subst hj0
   have:=g3 k (Value.int .i64 p.2[k]) (by simp[hkl])
   obtain rfl:Value.int .i64 p.2[k]=v:=by simpa using hj
   simpa using this
end
abbrev akW:DT:=(bS [0,2] (.alt 1 (bS [4,103,5] .done) (bS [103,101,4,5] .done)))
abbrev aiU:DT:=(bS [0,1,2,3,4,5,6,7,8,109,110,111,12,113] .done)
theorem aeN{l1:SX.Loc}{R:Nat->Prop}{w:World}{n:ak}{t:ax}(hn:n.ok w)(hsm:n.small)(ht:t.ok w)(h:((f_ l1.base 9 (bO [inpN t,n])).past 0).holds R w):(⟨l1.base,l1.cap,[inpN t,n],1⟩:bM).ok w:=by
 have z:i64 0:=⟨by decide,by decide⟩
 have nv:af5.ok w:=⟨.inl rfl,λ_ h=>bT,Nat.le_refl _,by decide⟩
 refine⟨bf h,λm hm=> ?_,λm hm=> ?_,(show 2<=1000000 by decide),(show i64 1 from⟨by decide,by decide⟩)⟩
 ·rcases List.mem_cons.1 hm with rfl|hm
  ·exact⟨ht,nv,nv,(show i64 1 from⟨by decide,by decide⟩),z,z,z,z,z⟩
  ·rw[List.mem_singleton.1 hm];exact hn
 ·rcases List.mem_cons.1 hm with rfl|hm
  ·exact⟨Nat.zero_le _,Nat.zero_le _⟩
  ·rw[List.mem_singleton.1 hm];exact hsm
theorem Ym{cx:Cx}{f:FuncId}{args:List SV}{H:Heap}{S:bR}{nx:Nat}{K:SV->Heap->bR->Nat->Prop}(r:Int×List (List Int))(hf:∀ar w,(callFunc f ar).run cx.P w= .ok (.enter f ar) w)
 (hc:∀ρ w',dO cx.B ρ nx H S w'->Calls cx.P f (SV.dW ρ args).toArray w' (oW w' r))
 (h0:r.1≠0->K (.c (.tuple #[.slice none 0 0,.int .i64 r.1])) H S nx)
 (h1:r.1=0->∀sv:aY,sv.l.map (·.xs)=r.2->(∀u∈sv.l,u.bF)->(0<sv.l.length->∃a,sv.base=some a)->K (.c (.tuple #[sv.val,.int .i64 0])) H (S.and ((jD sv).past cx.B.w0.heap.size)) nx):aJ cx f args H S nx K:=by
 rw[fZ]
 refine⟨hf,λρ w hw=>(hc ρ w hw).mono ?_⟩
 rintro e w' ⟨v,rfl,he,hbad,hgood⟩
 by_cases hr:r.1=0
 ·obtain⟨sv,rfl,hm,hs,hd,hcap⟩:=hgood hr
  rw[hr]
  exact⟨.c (.tuple #[sv.val,.int .i64 0]),ρ,H,_,nx,rfl,λ_ _=>rfl,Nat.le_refl _,SV.iW _,hw.grow he hd,h1 hr sv hm hs (λh0=>aT (j:=0) (bf hd.1) (by rw[bz];exact h0))⟩
 ·rw[hbad hr]
  exact⟨.c (.tuple #[.slice none 0 0,.int .i64 r.1]),ρ,H,S,nx,rfl,λ_ _=>rfl,Nat.le_refl _,SV.iW _,hw.ext he,h0 hr⟩
theorem aax(w:World)(n:ak)(t:ax)(hn:n.ok w)(hsm:n.small)(ht:t.ok w)(hno:¬sW n t):Calls Tryz.prog 63 #[n.p9,t.val] w (yY w (pu n t)):=by
 by_cases hk:eF n\/n.ai=9
 ·have hkk:=hk
  unfold eF at hk
  refine fH Tryz.func63 [.agg (vo n),.c t.val] ?_
  repeat' ((conv=>whnf)<;>first|refine Lv ?_|refine ag ?_ ?_<;>intro _)
  all_goals first|(exfalso;omega)|skip
  all_goals
   repeat' ((conv=>whnf)<;>first|refine Lv ?_|refine ag ?_ ?_<;>intro _)
   refine sH 0 (λ_ _ _ _ hb=>absurd hb (Nat.not_lt_zero _)) (λl1 hl1=> ?_)
   repeat' ((conv=>whnf)<;>first|(show aJ _ 24 ..;(refine oD (f:=24) (zB n t) Tryz.call24 (λρ w' hw=>by have:=qE w' ⟨l1.base,l1.cap,[inpN t,n],1⟩ (ae hw λR h=>aeN (hn.later h.1) hsm (ht.later h.1) h.2);rw[abn]at this;exact this) (λhne=> ?_) (λhe sv hm hsv=> ?_)))|(show @iG _ _ _;(first|refine gJ aa ?_|refine jc (λh=>h rfl) ?_|refine gJ (λh=>hno ⟨hkk,h,he⟩) ?_))|refine Lv ?_)
   all_goals(conv=>whnf)
   all_goals first|exact Kl hno (λ_ _ h=>h.1) rfl|exact Kl hno (λ_ _ h=>h.1.1) rfl
 ·have hk':n.ai≠3/\n.ai≠4/\n.ai≠5/\n.ai≠9:=⟨λg=>hk (.inl (.inl g)),λg=>hk (.inl (.inr (.inl g))),λg=>hk (.inl (.inr (.inr g))),λg=>hk (.inr g)⟩
  refine fH Tryz.func63 [.agg (vo n),.c t.val] ?_
  repeat' ((conv=>whnf)<;>first|refine Lv ?_|refine ag ?_ ?_<;>intro _)
  all_goals(conv=>whnf)
  all_goals first|(exfalso;omega)|exact Kl hno (λ_ _ h=>h) rfl
section
theorem WW{r:List Int}{k:Nat}{v:Int}{K:List (List Value)->Prop}(hk:k<r.length)(h:K (aZ (r.set k v))):dH (aZ r) k 0 [.int .i64 v] K:=by
 refine jq _ (eO hk) kQ ?_
 have e:(aZ r).set k (cB [Value.int .i64 r[k]] 0 [.int .i64 v])=aZ (r.set k v):=by
  have e2:cB [Value.int .i64 r[k]] 0 [.int .i64 v]=[Value.int .i64 v]:=rfl
  rw[e2]
  simp[aZ,List.map_set]
 rw[e];exact h
def wy(n:ak)(t:List Int)(o i:Nat):Int:=if n.ai=9 then Q9 o i else zO n t o i
theorem oz(n:ak)(t:List Int)(o:Nat):(Bu n t o).length=(au t).toNat:=by simp[Bu]
variable {t:List Int} {o i:Nat}
theorem adk{n:ak}(h:i<(au t).toNat):(Bu n t o).take (i+1)=(Bu n t o).take i++[wy n t o i]:=by
 rw[List.take_succ_eq_append_getElem (by rw[oz];exact h)]
 simp[Bu,wy]
theorem G_{l:List Int}(h:∀x∈l,i64 x)(k:Nat):i64 (l.getD k 0):=by
 rcases Nat.lt_or_ge k l.length with g|g
 ·have e:l.getD k 0=l[k]:=by simp[List.getD,g]
  rw[e];exact h _ (List.getElem_mem g)
 ·have e:l.getD k 0=0:=by simp[List.getD,g]
  rw[e];exact⟨by decide,by decide⟩
theorem af8{n:ak}(hd:∀x∈n.data.xs,i64 x)(t:List Int)(o i:Nat):i64 (wy n t o i):=by
 have z:i64 0:=⟨by decide,by decide⟩
 have one:i64 1:=⟨by decide,by decide⟩
 unfold wy Q9 zO
 split
 ·split<;>assumption
 ·split
  ·exact G_ hd _
  ·split
   ·simp only
    split
    ·exact z
    ·exact G_ hd _
   ·split<;>assumption
theorem acm{n:ak}(hb:∀x∈n.aQ.xs,i64 x)(cnt o:Nat):i64 (dV n cnt o):=by
 unfold dV
 split
 ·exact G_ hb _
 ·split
  ·exact G_ hb _
  ·exact⟨by decide,by decide⟩
structure mU(n:ak)(t:List Int)(cnt o i:Nat)(L:List iR):Prop where
 len:L.length=cnt
 each:∀p∈L,RIs p
 fits:∀p∈L,(∀x∈p.2,i64 x)/\p.2.length<=1000000
 is:∀k,k<cnt->(L.map Prod.snd).getD k []=if k<o then Bu n t k else if k=o then(Bu n t o).take i else []
theorem mU.start(n:ak)(t:List Int)(cnt:Nat):mU n t cnt 0 0 (Cb cnt):=⟨by simp[Cb],λp hp=> .inl Ns,λp hp=>by rw[(List.mem_replicate.1 hp).2];exact⟨λx hx=>(by cases hx),Nat.zero_le _⟩,λk hk=>by
 rw[Vy]
 simp only[List.getD,List.getElem?_replicate]
 simp[hk]⟩
variable {cnt:Nat} {L:List iR}
theorem mU.next{n:ak}(h:mU n t cnt o (au t).toNat L):mU n t cnt (o+1) 0 L:=⟨h.len,h.each,h.fits,λk hk=>by
 rw[h.is k hk]
 by_cases g:k<o
 ·rw[if_pos g,if_pos aa]
 ·rw[if_neg g]
  by_cases g2:k=o
  ·rw[if_pos g2,if_pos aa,g2,List.take_of_length_le (by rw[oz];exact Nat.le_refl _)]
  ·rw[if_neg g2,if_neg aa];simp⟩
theorem mU.push{n:ak}{q:iR}{l':SX.Loc}(h:mU n t cnt o i L)(hd:∀x∈n.data.xs,i64 x)(hi:i<(au t).toNat)(ajo:i<=64)(hq:L[o]? =some q)(hl:∃b off,l'.base=some ⟨b,off,none⟩)(hcap:q.2.length+1<=l'.cap):mU n t cnt o (i+1) (L.set o (l',q.2++[wy n t o i])):=by
 have ho:o<L.length:=(List.getElem?_eq_some_iff.1 hq).1
 have hq2:q.2=(Bu n t o).take i:=by
  have:=h.is o (by rw[<-h.len];exact ho)
  rw[H6 hq,if_neg (Nat.lt_irrefl o),if_pos rfl]at this
  exact this
 have Tn:q.2.length=i:=by rw[hq2,List.length_take,oz];omega
 refine⟨by rw[List.length_set];exact h.len,λp hp=> ?_,λp hp=> ?_,λk hk=> ?_⟩
 ·rcases List.mem_or_eq_of_mem_set hp with hp|hp
  ·exact h.each p hp
  ·rw[hp];exact .inr ⟨hl,by simp,by simpa using hcap⟩
 ·rcases List.mem_or_eq_of_mem_set hp with hp|hp
  ·exact h.fits p hp
  ·rw[hp]
   refine⟨λx hx=> ?_,by simp;omega⟩
   rcases List.mem_append.1 hx with hx|hx
   ·exact(h.fits q (List.mem_of_getElem? hq)).1 x hx
   ·rw[List.mem_singleton.1 hx];exact af8 hd t o i
 ·rw[List.map_set]
  by_cases e:o=k
  ·subst e
   rw[if_neg (Nat.lt_irrefl o),if_pos rfl,adk hi,<-hq2]
   simp[List.getD,ho]
  ·have:=h.is k hk
   have e2:((L.map Prod.snd).set o (l',q.2++[wy n t o i]).2).getD k []=(L.map Prod.snd).getD k []:=by simp[List.getD,List.getElem?_set_ne e]
   rw[e2,this]
   by_cases g:k<o
   ·rw[if_pos g,if_pos g]
   ·rw[if_neg g,if_neg g,if_neg (λe'=>e e'.symm),if_neg (λe'=>e e'.symm)]
structure Bc(n:ak)(cnt o:Nat)(bs:List Int):Prop where
 len:bs.length=cnt
 is:∀k,k<cnt->bs.getD k 0=if k<o then dV n cnt k else 0
variable {bs:List Int}
theorem Bc.next{n:ak}(h:Bc n cnt o bs)(ho:o<cnt):Bc n cnt (o+1) (bs.set o (dV n cnt o)):=by
 refine⟨by rw[List.length_set];exact h.len,λk hk=> ?_⟩
 by_cases e:o=k
 ·subst e
  rw[if_pos (Nat.lt_succ_self o)]
  simp[List.getD,h.len,ho]
 ·have:=h.is k hk
  have e2:(bs.set o (dV n cnt o)).getD k 0=bs.getD k 0:=by simp[List.getD,List.getElem?_set_ne e]
  rw[e2,this]
  by_cases g:k<o
  ·rw[if_pos g,if_pos aa]
  ·rw[if_neg g,if_neg aa]
theorem Bc.done{n:ak}(h:Bc n cnt cnt bs):bs=(List.range cnt).map (dV n cnt):=by
 apply List.ext_getElem
 ·simp[h.len]
 ·intro k h1 h2
  have hk:k<cnt:=by rw[<-h.len];exact h1
  have:=h.is k hk
  rw[if_pos hk]at this
  simp[List.getD,h1]at this
  simp[this]
theorem mU.done{n:ak}(h:mU n t cnt cnt 0 L):L.map Prod.snd=yu n t cnt:=by
 apply List.ext_getElem
 ·simp[yu,h.len]
 ·intro k h1 h2
  have hk:k<cnt:=by rw[<-h.len];simpa using h1
  have:=h.is k hk
  rw[if_pos hk]at this
  have e:(yu n t cnt)[k]=Bu n t k:=by simp[yu]
  rw[e,<-this]
  simp[List.getD,h.len,hk]
theorem aaj(w:World)(n:ak)(t:ax)(hn:n.ok w)(hsm:n.small)(ht:t.ok w)(hok:sW n t):Calls Tryz.prog 63 #[n.p9,t.val] w (yY w (pu n t)):=by
 obtain⟨s,hsh,hcs,hR⟩:=aaS hok
 have hcnt:=hR.place.few
 have hsz:=hR.size
 have heb:=(dN t.xs).2
 rw[pu,if_pos hok]
 obtain⟨cnt,hce⟩:∃c,zw n t=c:=⟨_,rfl⟩
 rw[hce]at hcs hR hcnt|-
 obtain⟨E,hE⟩:∃E:Nat,au t.xs=E:=⟨(au t.xs).toNat,by omega⟩
 have ha:=hok.2.1
 have hk:=hok.1
 have hkk:=hk
 unfold eF at hk
 refine fH Tryz.func63 [.agg (vo n),.c t.val] ?_
 (repeat' ((conv=>whnf)<;>first|refine Wp.go bW rfl ?_|refine Ib ?_|refine Hz ?_|refine ag ?_ ?_<;>intro _))
 all_goals first|(exfalso;omega)|skip
 all_goals
  (repeat' ((conv=>whnf)<;>first|refine Wp.go bW rfl ?_|refine Ib ?_|refine Hz ?_|refine ag ?_ ?_<;>intro _))
  refine sH 0 (λ_ _ _ _ hb=>absurd hb (Nat.not_lt_zero _)) (λl1 hl1=> ?_)
  (repeat' ((conv=>whnf)<;>first|(show aJ _ 24 ..;(refine Ym (f:=24) (zB n t) Tryz.call24 (λρ w' hw=>by have:=qE w' ⟨l1.base,l1.cap,[inpN t,n],1⟩ (ae hw λR h=>aeN (hn.later h.1) hsm (ht.later h.1) h.2);rw[abn]at this;exact this) (λhne=>absurd hok.2.2 hne) (λhe sv hm hsv hsb=> ?_)))|(show @iG _ _ _;(first|refine gJ aa ?_|refine jc (λh=>h rfl) ?_|refine jc (λh=>h ha) ?_))|refine Wp.go bW rfl ?_))
  rw[hsh]at hm
  obtain⟨vb,vc,vl⟩:=sv
  obtain⟨u0,u1,rfl,hu0,hu1⟩:∃u v,vl=[u,v]/\u.xs=t.xs/\v.xs=s:=by
   have h2:vl.length=2:=by have:=congrArg List.length hm;simpa using this
   match vl,h2,hm with
   |[u,v],_,h=>exact⟨u,v,rfl,by simpa using(List.cons.inj h).1,by simpa using(List.cons.inj (List.cons.inj h).2).1⟩
  obtain⟨va,rfl⟩:∃a,vb=some a:=hsb (show 0<2 by decide)
  (repeat' ((conv=>whnf)<;>first|(show dn ..;refine aM va 1 rfl rfl (show 1<2 by decide) ?_)|(show gZ ..;refine bN (λR w' h=>bf h.2.1) [u1.val] u1.val rfl rfl ?_)|(show aJ _ 61 ..;(refine aR (f:=61) Tryz.call61 (.int .i64 (cnt:Nat)) (λρ w' hw=>by have:=nS w' u1.base u1.cap u1.xs (ae hw λR h=>bf (h.2.2 u1 aj));rw[show au u1.xs=(cnt:Int) by rw[hu1];exact hcs]at this;exact this) ?_))|(show pg ..;(first|refine lD cnt rfl rfl Fv aa ?_|refine lD cnt rfl rfl mE aa ?_))|(show cO _ 14 ..;refine mV [] _ akW ?_)|refine Wp.go bW rfl ?_|refine XD ?_|refine lS ?_|refine And.intro ?_ ?_))
  all_goals(conv=>whnf)
 all_goals
  refine Wp.grp 3 cnt ?_
  first
  |refine Wp.loop (σ:=Nat×List iR×List Int) 9 (λx=>[(1,.c t.val),(10,.lp 3 0 0 0),(11,.fn (.func 124) [.agg [aC n.ai,aC n.a,aC n.b,.c n.az.val,aC n.lo,aC n.hi,aC n.size,.c n.data.val,.c n.aQ.val,.c t.val]] []),(12,aC (cnt:Nat)),(13,.os 7 cnt),(14,.os 8 cnt),(55,aC (cnt:Nat)),(56,aC x.1)]) (λx=>[(3,.box [aC n.ai,aC n.a,aC n.b,.c n.az.val,aC n.lo,aC n.hi,aC n.size,.c n.data.val,.c n.aQ.val,.c t.val] 158),(7,.rows (iM x.2.1) 1 32),(6,.ext (o_ 3 (nK x.2.1))),(8,.rows (aZ x.2.2) 1 3)]) (λ_=>aU w)
    (λx=>x.1<=cnt/\mU n t.xs cnt x.1 0 x.2.1/\Bc n cnt x.1 x.2.2) (λx=>cnt-x.1) (0,Cb cnt,List.replicate cnt 0) [(7,some 5),(8,some 4)] ay (λ_=>⟨rfl,rfl⟩)
    ⟨Nat.zero_le _,mU.start n t.xs cnt,by simp,λk hk=>by simp only[List.getD,List.getElem?_replicate];simp[hk]⟩ ⟨rfl,⟨rfl,rfl,rfl,rfl,rfl,rfl,rfl,rfl,trivial⟩,?_,λ_ _ h=>h.1.1⟩ ?_
  |refine Wp.loop (σ:=Nat×List iR×List Int) 9 (λx=>[(1,.c t.val),(10,.lp 3 0 0 0),(11,.fn (.func 124) [.agg [aC n.ai,aC n.a,aC n.b,.c n.az.val,aC n.lo,aC n.hi,aC n.size,.c n.data.val,.c n.aQ.val,.c t.val]] []),(12,aC (cnt:Nat)),(13,.os 7 cnt),(14,.os 8 cnt),(55,aC (cnt:Nat)),(56,aC x.1)]) (λx=>[(3,.box [aC n.ai,aC n.a,aC n.b,.c n.az.val,aC n.lo,aC n.hi,aC n.size,.c n.data.val,.c n.aQ.val,.c t.val] 158),(7,.rows (iM x.2.1) 1 32),(6,.ext (o_ 3 (nK x.2.1))),(8,.rows (aZ x.2.2) 1 3)]) (λ_=>aU w)
    (λx=>x.1<=cnt/\mU n t.xs cnt x.1 0 x.2.1/\Bc n cnt x.1 x.2.2) (λx=>cnt-x.1) (0,Cb cnt,List.replicate cnt 0) [(7,some 4),(8,some 5)] ay (λ_=>⟨rfl,rfl⟩)
    ⟨Nat.zero_le _,mU.start n t.xs cnt,by simp,λk hk=>by simp only[List.getD,List.getElem?_replicate];simp[hk]⟩ ⟨rfl,⟨rfl,rfl,rfl,rfl,rfl,rfl,rfl,rfl,trivial⟩,?_,λ_ _ h=>h.1.1⟩ ?_
  ·show lI _ _ [(3,.box [aC n.ai,aC n.a,aC n.b,.c n.az.val,aC n.lo,aC n.hi,aC n.size,.c n.data.val,.c n.aQ.val,.c t.val] 158),(7,.rows (iM (Cb cnt)) 1 32),(6,.ext (o_ 3 (nK (Cb cnt)))),(8,.rows (aZ (List.replicate cnt 0)) 1 3)]
   rw[Ru,Vu,show aZ (List.replicate cnt 0)=List.replicate cnt [Value.int .i64 0] by simp[aZ]]
   exact fE
  rintro⟨o,L,bs⟩ ⟨ho,hL,hB⟩
  dsimp only at ho hL hB
  by_cases hoc:o<cnt
  ·have hwb:∀(w':World),n.ok w'->Calls Tryz.prog 125 #[ou n t,.int .i64 o,.int .i64 cnt] w' λe w2=>e= .returned (.int .i64 (dV n cnt o))/\Ext w' w2:=λw' hn'=>ahO w' n t s cnt hR hn' o hoc
   (repeat' ((conv=>whnf)<;>first|(show aJ _ 125 ..;refine aR (f:=125) Tryz.call125 (.int .i64 (dV n cnt o)) (λρ w' hw=>hwb w' (ae hw λR h=>hn.later h)) ?_)|(show eP ..;(refine bY o rfl hoc (Nat.le_of_eq (by rw[aP];exact hB.len.symm)) ?_))|(show dH ..;refine WW (Nat.lt_of_lt_of_eq hoc hB.len.symm) ?_)|(show aJ _ 61 ..;(refine aR (f:=61) Tryz.call61 (.int .i64 (E:Nat)) (λρ w' hw=>by have:=nS w' t.base t.cap t.xs (ae hw λR h=>aH h ht.rows);rw[hE]at this;exact this) ?_))|refine Wp.go bW rfl ?_|refine Ib ?_|refine Hz ?_|refine ag ?_ ?_<;>intro _))
   all_goals(conv=>whnf)
   have hB':=hB.next hoc
   clear hB
   obtain⟨bs',hbs⟩:∃b,bs.set o (dV n cnt o)=b:=⟨_,rfl⟩
   rw[hbs]at hB'|-
   have hEt:(au t.xs).toNat=E:=by rw[hE];rfl
   refine Wp.loop (σ:=Nat×List iR) 9 (λx=>[(1,.c t.val),(10,.lp 3 0 0 0),(11,.fn (.func 124) [.agg [aC n.ai,aC n.a,aC n.b,.c n.az.val,aC n.lo,aC n.hi,aC n.size,.c n.data.val,.c n.aQ.val,.c t.val]] []),(12,aC (cnt:Nat)),(13,.os 7 cnt),(14,.os 8 cnt),(55,aC (cnt:Nat)),(56,aC o),(15,aC o),(67,aC (E:Nat)),(68,aC x.1)]) (λx=>[(3,.box [aC n.ai,aC n.a,aC n.b,.c n.az.val,aC n.lo,aC n.hi,aC n.size,.c n.data.val,.c n.aQ.val,.c t.val] 158),(7,.rows (iM x.2) 1 32),(6,.ext (o_ 3 (nK x.2))),(8,.rows (aZ bs') 1 3)]) (λ_=>aU w)
    (λx=>x.1<=E/\mU n t.xs cnt o x.1 x.2) (λx=>E-x.1) (0,L) [] ay (λ_=>⟨rfl,rfl⟩) ⟨Nat.zero_le _,hL⟩ ⟨rfl,⟨rfl,rfl,rfl,rfl,rfl,rfl,rfl,rfl,rfl,rfl,rfl,trivial⟩,fE,λ_ _ h=>h⟩ ?_
   clear hL
   rintro⟨i,M⟩ ⟨hi,hM⟩
   dsimp only at hi hM
   by_cases hiE:i<E
   ·have hww:∀(w':World),n.ok w'->t.ok w'->Calls Tryz.prog 124 #[ou n t,.int .i64 o,.int .i64 i] w' λe w2=>e= .returned (.int .i64 (wy n t.xs o i))/\Ext w' w2:=λw' hn' ht'=>ZI w' n t s cnt hR hn' ht' o i hoc (by rw[hE];omega)
    have hoM:o<M.length:=by rw[hM.len];exact hoc
    have hdl:=He M
    obtain⟨q,hq⟩:∃q,M[o]? =some q:=⟨_,List.getElem?_eq_getElem hoM⟩
    have hqm:=List.mem_of_getElem? hq
    have hq2:q.2=(Bu n t.xs o).take i:=by
     have:=hM.is o hoc
     rw[H6 hq,if_neg (Nat.lt_irrefl o),if_pos rfl]at this
     exact this
    have Tn:q.2.length=i:=by rw[hq2,List.length_take,oz];omega
    have hpush:=λl'=>hM.push (l':=l') hn.data.fits (by rw[hEt];exact hiE) aa hq
    rcases hM.each q hqm with⟨e1,e2⟩|⟨⟨b,off,e1⟩,e2,e3⟩
    ·obtain⟨ql,qv⟩:=q
     simp only at e1 e2
     subst e1 e2
     (repeat' ((conv=>whnf)<;>first|(show cO _ 22 ..;refine mV [13] _ aiU ?_ (h6:=List.Sublist.cons_cons _ (List.Sublist.cons_cons _ (List.Sublist.cons _ (List.Sublist.refl _)))))|(show mW ..;(first|refine ed (List.Sublist.cons _ (List.Sublist.cons_cons _ (List.Sublist.cons_cons _ (List.Sublist.cons _ (List.Sublist.refl _))))) (λ_ _ h=>h) ?_|refine ed (List.Sublist.cons_cons _ (List.Sublist.cons_cons _ (List.Sublist.cons _ (List.Sublist.refl _)))) (λ_ _ h=>h) ?_))|(show aJ _ 124 ..;refine aR (f:=124) Tryz.call124 (.int .i64 (wy n t.xs o i)) (λρ w' hw=>hww w' (ae hw λR h=>hn.later h) (ae hw λR h=>ht.later h)) ?_)|(show eP ..;refine bY o rfl hoc (Nat.le_of_eq (hdl.trans hM.len).symm) ?_)|(show rQ ..;refine row_of _ _ (tq hq) rfl ?_)|refine Wp.go bW rfl ?_|refine Ib ?_|refine Hz ?_|refine ag ?_ ?_<;>intro _))
     refine lS ?_
     (repeat' ((conv=>whnf)<;>first|(show mW ..;(first|refine ed (List.Sublist.cons _ (List.Sublist.cons_cons _ (List.Sublist.cons_cons _ (List.Sublist.cons _ (List.Sublist.refl _))))) (λ_ _ h=>h) ?_|refine ed (List.Sublist.cons_cons _ (List.Sublist.cons_cons _ (List.Sublist.cons _ (List.Sublist.refl _)))) (λ_ _ h=>h) ?_))|(show Gn ..;refine mg (Nat.le_refl _) ?_)|(show jv ..;refine fU (show 1*8<=140737488355328 by decide) ?_)))
     all_goals(conv=>whnf)
     refine Te (T:=3) (g:=6) (d:=o) (us:=[]) (l0:=⟨none,0⟩) (L:=nK M) (vs:=[.int .i64 (wy n t.xs o i)]) ?_ (H8 hq) rfl rfl rfl Nat.zero_lt_one (λl' hlc hlb=> ?_)
     ·exact aj
     have hp:=hpush l' hlb hlc
     have er:iM (M.set o (l',[]++[wy n t.xs o i]))=(iM M).set o [.slice l'.base 1 l'.cap]:=by rw[yJ];rfl
     have eg:nK (M.set o (l',[]++[wy n t.xs o i]))=(nK M).set o (l',[.int .i64 (wy n t.xs o i)]):=by rw[Ic];rfl
     (repeat' ((conv=>whnf)<;>first|(show mW ..;(first|refine ed (List.Sublist.cons _ (List.Sublist.cons_cons _ (List.Sublist.cons_cons _ (List.Sublist.cons _ (List.Sublist.refl _))))) (λ_ _ h=>h) ?_|refine ed (List.Sublist.cons_cons _ (List.Sublist.cons_cons _ (List.Sublist.cons _ (List.Sublist.refl _)))) (λ_ _ h=>h) ?_))|(show dH ..;(refine jq _ (tq hq) kQ ?_))|(show eP ..;refine bY o rfl hoc (Nat.le_of_eq (hdl.trans hM.len).symm) ?_)|refine Wp.go bW rfl ?_|refine mh ?_|refine lS ?_))
     all_goals(conv=>whnf)
     refine⟨(i+1,M.set o (l',[]++[wy n t.xs o i])),[],⟨hiE,hp⟩,by show E-(i+1)<E-i;omega,rfl,fE,?_,λ_ _ h=>h⟩
     show lI [] _ [(3,.box [aC n.ai,aC n.a,aC n.b,.c n.az.val,aC n.lo,aC n.hi,aC n.size,.c n.data.val,.c n.aQ.val,.c t.val] 158),(7,.rows (iM (M.set o (l',[]++[wy n t.xs o i]))) 1 32),(6,.ext (o_ 3 (nK (M.set o (l',[]++[wy n t.xs o i]))))),(8,.rows (aZ bs') 1 3)]
     rw[eg,er]
     exact fE
    ·obtain⟨ql,qv⟩:=q
     simp only at e1 e2 e3 Tn
     have hrow:(iM M)[o]? =some [.slice (some ⟨b,off,none⟩) i ql.cap]:=by rw[tq hq,Nj,e1,Tn]
     (repeat' ((conv=>whnf)<;>first|(show cO _ 22 ..;refine mV [13] _ aiU ?_ (h6:=List.Sublist.cons_cons _ (List.Sublist.cons_cons _ (List.Sublist.cons _ (List.Sublist.refl _)))))|(show mW ..;(first|refine ed (List.Sublist.cons _ (List.Sublist.cons_cons _ (List.Sublist.cons_cons _ (List.Sublist.cons _ (List.Sublist.refl _))))) (λ_ _ h=>h) ?_|refine ed (List.Sublist.cons_cons _ (List.Sublist.cons_cons _ (List.Sublist.cons _ (List.Sublist.refl _)))) (λ_ _ h=>h) ?_))|(show aJ _ 124 ..;refine aR (f:=124) Tryz.call124 (.int .i64 (wy n t.xs o i)) (λρ w' hw=>hww w' (ae hw λR h=>hn.later h) (ae hw λR h=>ht.later h)) ?_)|(show eP ..;refine bY o rfl hoc (Nat.le_of_eq (hdl.trans hM.len).symm) ?_)|(show rQ ..;refine row_of _ _ hrow rfl ?_)|refine Wp.go bW rfl ?_|refine Ib ?_|refine Hz ?_|refine ag ?_ ?_<;>intro _))
     all_goals(conv=>whnf)
     refine lS ?_
     (repeat' ((conv=>whnf)<;>first|(show mW ..;(first|refine ed (List.Sublist.cons _ (List.Sublist.cons_cons _ (List.Sublist.cons_cons _ (List.Sublist.cons _ (List.Sublist.refl _))))) (λ_ _ h=>h) ?_|refine ed (List.Sublist.cons_cons _ (List.Sublist.cons_cons _ (List.Sublist.cons _ (List.Sublist.refl _)))) (λ_ _ h=>h) ?_))|(show Gn ..;refine mg (Nat.le_refl _) ?_)))
     all_goals(conv=>whnf)
     obtain⟨ii,hii,hi0,hi1,hi2⟩:=info_parts ab1
     refine⟨.inr ?_⟩
     refine agd (T:=3) (xe:=3) (g:=6) (d:=o) (L:=nK M) (l:=ql) (vs:=qv.map (Value.int .i64)) (v:= .int .i64 (wy n t.xs o i)) (b:=b) (off:=off) (i:=ii) (z:= .int .i64 0) Tryz.underlying32 Tryz.underlying32 hii hi0 hi1 hi2 rfl ?_ (H8 hq) e1 (by rw[List.length_map];exact e3) vZ (λu hu=>by obtain⟨x,_,rfl⟩:=List.mem_map.1 hu;rfl) rfl i (by rw[List.length_map];exact Tn.symm) ql.cap rfl (λl' hlc hlb=> ?_)
     ·exact aj
     rw[List.length_map]at hlc
     rw[List.length_map,Tn]
     have hp:=hpush l' hlb hlc
     have er:iM (M.set o (l',qv++[wy n t.xs o i]))=(iM M).set o [.slice l'.base (i+1) l'.cap]:=by rw[yJ];simp[Nj,Tn]
     have eg:nK (M.set o (l',qv++[wy n t.xs o i]))=(nK M).set o (l',qv.map (Value.int .i64)++[.int .i64 (wy n t.xs o i)]):=by rw[Ic];simp
     (repeat' ((conv=>whnf)<;>first|(show mW ..;(first|refine ed (List.Sublist.cons _ (List.Sublist.cons_cons _ (List.Sublist.cons_cons _ (List.Sublist.cons _ (List.Sublist.refl _))))) (λ_ _ h=>h) ?_|refine ed (List.Sublist.cons_cons _ (List.Sublist.cons_cons _ (List.Sublist.cons _ (List.Sublist.refl _)))) (λ_ _ h=>h) ?_))|(show dH ..;(refine jq _ (tq hq) kQ ?_))|(show eP ..;refine bY o rfl hoc (Nat.le_of_eq (hdl.trans hM.len).symm) ?_)|refine Wp.go bW rfl ?_|refine mh ?_|refine lS ?_))
     all_goals(conv=>whnf)
     refine⟨(i+1,M.set o (l',qv++[wy n t.xs o i])),[],⟨hiE,hp⟩,by show E-(i+1)<E-i;omega,rfl,fE,?_,λ_ _ h=>h⟩
     show lI [] _ [(3,.box [aC n.ai,aC n.a,aC n.b,.c n.az.val,aC n.lo,aC n.hi,aC n.size,.c n.data.val,.c n.aQ.val,.c t.val] 158),(7,.rows (iM (M.set o (l',qv++[wy n t.xs o i]))) 1 32),(6,.ext (o_ 3 (nK (M.set o (l',qv++[wy n t.xs o i]))))),(8,.rows (aZ bs') 1 3)]
     rw[eg,er]
     exact fE
   ·(repeat' ((conv=>whnf)<;>first|refine Wp.go bW rfl ?_|refine Ib ?_|refine Hz ?_|refine mh ?_|refine ag ?_ ?_<;>intro _))
    all_goals(conv=>whnf)
    have hie:i=E:=by omega
    rw[hie,<-hEt]at hM
    exact⟨(o+1,M,bs'),[],⟨hoc,hM.next,hB'⟩,by show cnt-(o+1)<cnt-o;omega,rfl,fE,fE,λ_ _ h=>h⟩
  ·(repeat' ((conv=>whnf)<;>first|refine Wp.go bW rfl ?_|refine Ib ?_|refine Hz ?_|refine mh ?_|refine ag ?_ ?_<;>intro _))
   all_goals(conv=>whnf)
   have hoe:o=cnt:=by omega
   rw[hoe]at hL hB
   exact afE (i:=7) (g:=6) (j:=8) (λ_ _ h=>h) rfl hL.each hL.fits hL.len.symm hB.len.symm (λx hx=>by rw[hB.done]at hx;obtain⟨k,_,rfl⟩:=List.mem_map.1 hx;exact acm hn.aQ.fits cnt k) (by rw[hB.len];omega) aj aj aj (by rw[hL.done,<-hB.done])
theorem VL(w:World)(n:ak)(t:ax)(hn:n.ok w)(hsm:n.small)(ht:t.ok w):Calls Tryz.prog 63 #[n.p9,t.val] w (yY w (pu n t)):=by
 by_cases hok:sW n t
 ·exact aaj w n t hn hsm ht hok
 ·exact aax w n t hn hsm ht hok
end
theorem aep(w:World)(b:Int):Calls Tryz.prog 67 #[.int .i64 b] w λe w'=>e= .returned (.bool (decide (b≠0)))/\Ext w w':=by
 refine fH Tryz.func67 [aC b] ?_
 repeat' ((conv=>whnf)<;>first|(show @iG _ _ _;((refine ag ?_ ?_<;>intro _)))|refine a_ ?_)
 all_goals(conv=>whnf)
 all_goals first|exact bq (λ_ _ h=>h) rfl (decide_eq_true aa)|exact bq (λ_ _ h=>h) rfl (decide_eq_false aa)
def nzs(l:List Int)(i:Nat):Prop:=∀k,k<i->∀h:k<l.length,l[k]=0
theorem Wu(w:World)(u:ax)(hu:u.ok w):Calls Tryz.prog 131 #[u.val,.func (.func 67) #[] #[]] w λe w'=>(∃k:Int,e= .returned (.int .i64 k)/\(0<=k↔u.xs.any (λb=>decide (b≠0))=true))/\Ext w w':=by
 have hf:=hu.few
 refine fH Tryz.func131 [.c u.val,.c (.func (.func 67) #[] #[])] ?_
 repeat' ((conv=>whnf)<;>first|refine a_ ?_|refine ag ?_ ?_<;>intro _)
 refine Wp.loop (σ:=Nat) 0 (λi=>[(0,.c u.val),(1,.c (.func (.func 67) #[] #[])),(7,aC u.xs.length),(8,aC i)]) (λ_=>[]) (λ_=>aU w)
  (λi=>nzs u.xs i) (λi=>u.xs.length-i) 0 [] ay (λs=>⟨rfl,rfl⟩) (λk hk=>absurd hk (Nat.not_lt_zero k)) ⟨rfl,⟨rfl,rfl,rfl,rfl,trivial⟩,trivial,λ_ _ h=>h⟩ ?_
 intro i hi
 by_cases hlt:i<u.xs.length
 ·obtain⟨ra,hra⟩:∃a,u.base=some a:=aT (j:=i) hu.rows (by rw[aP];exact hlt)
  have hx:u.xs.getD i 0=u.xs[i]:=by rw[List.getD_eq_getElem?_getD,List.getElem?_eq_getElem hlt];rfl
  by_cases hne:u.xs[i]=0
  ·repeat' ((conv=>whnf)<;>first|(show dn ..;refine aM ra i hra rfl hlt ?_)|(show gZ ..;(refine qQ (λR w' h=>by rw[<-hra];exact aH h hu.rows) (j:=i) hlt (hx.trans hne) ?_))|(show aJ _ 67 ..;refine aR (f:=67) Tryz.call67 (.bool false) (λρ w' hw=>aep w' 0) ?_)|refine a_ ?_|refine ag ?_ ?_<;>intro _)
   all_goals(conv=>whnf)
   all_goals refine⟨i+1,[],λk hk h=> ?_,by omega,rfl,fE,trivial,λ_ _ h=>h⟩
   rcases Nat.lt_or_ge k i with h1|h1
   ·exact hi k h1 h
   ·obtain rfl:k=i:=by omega
    exact hne
  ·repeat' ((conv=>whnf)<;>first|(show dn ..;refine aM ra i hra rfl hlt ?_)|(show gZ ..;(refine qQ (λR w' h=>by rw[<-hra];exact aH h hu.rows) (j:=i) hlt hx ?_))|(show aJ _ 67 ..;(refine aR (f:=67) Tryz.call67 (.bool true) (λρ w' hw=>by have:=aep w' u.xs[i];rw[decide_eq_true hne]at this;exact this) ?_))|refine a_ ?_|refine ag ?_ ?_<;>intro _)
   all_goals(conv=>whnf)
   refine dK λρ w' hw=>⟨⟨i,rfl,λ_=>List.any_eq_true.2 ⟨u.xs[i],List.getElem_mem hlt,by simpa using hne⟩,λ_=>by omega⟩,bG hw (λ_ _ h=>h)⟩
 ·repeat' ((conv=>whnf)<;>first|refine a_ ?_|refine ag ?_ ?_<;>intro _)
  all_goals(conv=>whnf)
  refine dK λρ w' hw=>⟨⟨-1,rfl,λh=>absurd h ay,λh=> ?_⟩,bG hw (λ_ _ h=>h)⟩
  obtain⟨b,hb,hx⟩:=List.any_eq_true.1 h
  obtain⟨k,hk,rfl⟩:=List.mem_iff_getElem.1 hb
  exact absurd (hi k aa hk) (by simpa using hx)
theorem CR(w:World)(u:ax)(hu:u.ok w):Calls Tryz.prog 66 #[u.val,.func (.func 67) #[] #[]] w λe w'=>e= .returned (.bool (u.xs.any λb=>decide (b≠0)))/\Ext w w':=by
 refine fH Tryz.func66 [.c u.val,.c (.func (.func 67) #[] #[])] ?_
 repeat' ((conv=>whnf)<;>first|(show aJ _ 131 ..;refine Ry (f:=131) Tryz.call131 (λk:Int=> .int .i64 k) (λk=>0<=k↔u.xs.any (λb=>decide (b≠0))=true) (λρ w' hw=> ?_) (λk hk=> ?_))|refine a_ ?_|refine ag ?_ ?_<;>intro _)
 ·refine(Wu w' u (ae hw λR h=>hu.later h)).mono ?_
  rintro e w2 ⟨⟨k,h1,h2⟩,h3⟩
  exact⟨k,h2,h1,h3⟩
 all_goals(conv=>whnf)
 all_goals rename_i h0
 ·exact bq (λ_ _ h=>h) rfl (hk.1 h0)
 ·exact bq (λ_ _ h=>h) rfl (Bool.eq_false_iff.2 λh=>h0 (hk.2 h))
theorem Y4(w:World)(b e:Nat)(u:ax)(T:TypeId)(he:e<u.xs.length)(hu:bE w u.base 1 (aZ u.xs))(h:w.heap[b]? =some (.cells [u.val].toArray T (0,0))):Calls Tryz.prog 70 #[.int .i64 e,.pointer (some ⟨b,0,none⟩)] w λen w'=>en= .returned (.int .i64 (u.xs.getD e 0))/\Ext w w':=by
 have hc:w.cell? ⟨b,0,none⟩=some u.val:=by simp[World.cell?,h]
 obtain⟨da,hda⟩:∃a,u.base=some a:=aT (j:=e) hu (by rw[aP];exact he)
 refine fH Tryz.func70 [aC e,.c (.pointer (some ⟨b,0,none⟩))] ?_
 repeat' ((conv=>whnf)<;>first|(show dn ..;refine aM da e hda rfl he ?_)|(show gZ ..;(first|refine A9 (λR w' h=>by rw[jE (h _ (iA hc)).2];exact hc) ?_|refine qQ (λR w' h=>by rw[<-hda];exact aH h hu) (j:=e) he rfl ?_))|refine a_ ?_)
 all_goals(conv=>whnf)
 all_goals exact bZ (λ_ _ h=>h) (λ_=>rfl) rfl
structure dz(k:Nat)(a b:dL):Prop where
 more:a.code.length<=b.code.length
 few:b.code.length<=a.code.length+k
 aF:b.aF.length+a.code.length<=a.aF.length+b.code.length
 inputs:b.inputs.length+a.code.length<=a.inputs.length+b.code.length
theorem dz.refl(a:dL):dz 0 a a:=⟨Nat.le_refl _,Nat.le_refl _,Nat.le_refl _,Nat.le_refl _⟩
theorem dz.trans{j k:Nat}{a b c:dL}(h1:dz j a b)(h2:dz k b c):dz (j+k) a c:=by
 obtain⟨a1,a2,a3,a4⟩:=h1
 obtain⟨b1,b2,b3,b4⟩:=h2
 exact⟨by omega,by omega,by omega,by omega⟩
theorem dz.mono{j k:Nat}{a b:dL}(h:dz j a b)(hk:j<=k):dz k a b:=by
 obtain⟨a1,a2,a3,a4⟩:=h
 exact⟨by omega,by omega,by omega,by omega⟩
theorem dz.lay(s:dL)(op a b k:Int):dz 1 s (bI s op a b k).1:=by
 have e:(bI s op a b k).1.code.length=s.code.length+1:=by simp[bI]
 exact⟨by omega,by omega,by rw[e];show s.aF.length+_<=_;omega,by rw[e];show s.inputs.length+_<=_;omega⟩
theorem Ue(s:dL)(r:List Int):(dF s r).1.code=s.code/\(dF s r).1.inputs=s.inputs/\(dF s r).1.aF.length<=s.aF.length+1:=by
 unfold dF
 split
 ·exact⟨rfl,rfl,Nat.le_succ _⟩
 ·exact⟨rfl,rfl,by simp⟩
theorem dz.plain(s:dL)(r:List Int)(op a b k:Int):dz 1 s (bI (dF s r).1 op a b k).1:=by
 obtain⟨h1,h2,h3⟩:=Ue s r
 have e:(bI (dF s r).1 op a b k).1.code.length=s.code.length+1:=by simp[bI,h1]
 exact⟨by omega,by omega,by rw[e];show(dF s r).1.aF.length+_<=_;omega,by rw[e];show(dF s r).1.inputs.length+_<=_;rw[h2];omega⟩
theorem dz.add(s:dL)(m:Option Int)(v:Int):dz 1 s (iU s m v).1:=by
 cases m with
 |none=>exact(dz.refl s).mono (Nat.zero_le _)
 |some a=>exact .lay _ _ _ _ _
theorem dz.turn(s:dL)(t:Int->Option Int)(x:Int)(i:Nat):dz 1 s (rY s t x i).1:=by
 unfold rY
 split
 ·exact(dz.refl s).mono (Nat.zero_le _)
 ·exact .lay _ _ _ _ _
theorem dz.inner(n base:Nat)(x:Int)(y:oZ)(i:Nat)(d:List Int):dz 3 y.s (uX n base x y i d).s:=by
 unfold uX
 split
 ·exact(dz.refl _).mono (Nat.zero_le _)
 ·exact((dz.turn y.s y.t x i).trans (dz.plain _ _ _ _ _ _)).trans (dz.add _ _ _)
theorem dz.aa9(n base:Nat)(x:Int):∀(l:List (List Int)) (i:Nat) (y:oZ),dz (3*l.length) y.s (sN n base x l i y).s
 |[],_,y=>dz.refl _
 |d::r,i,y=>by
  have h1:=dz.inner n base x y i d
  have h2:=dz.aa9 n base x r (i+1) (uX n base x y i d)
  exact(h1.trans h2).mono EA
theorem dz.giant(n base:Nat)(x:Int)(y:oZ)(ds:List (List Int)):dz (3*ds.length+2) y.s (sV n base x y ds).s:=by
 have h:=dz.aa9 n base x ds 0 ⟨y.s,y.t,none⟩
 unfold sV
 dsimp only
 split
 ·exact h.mono aa
 ·refine h.trans (k:=2) ?_
  split
  ·exact(dz.lay _ _ _ _ _).trans (dz.add _ _ _)
  ·exact(dz.add _ _ _).mono aa
theorem dz.aa6(n g:Nat)(x:Int)(all:List (List Int))(hg:1<=g)(hl:all.length<=n):∀(f base:Nat) (y:oZ),dz (5*(n-base)) y.s (p8 n g x all f base y).s
 |0,base,y=>(dz.refl _).mono (Nat.zero_le _)
 |f+1,base,y=>by
  unfold p8
  split
  ·rename_i hb
   have h1:=dz.giant n base x y ((all.drop base).take (min n (base+g)-base))
   have h2:=dz.aa6 n g x all hg hl f (base+g) (sV n base x y ((all.drop base).take (min n (base+g)-base)))
   refine(h1.trans h2).mono ?_
   have:((all.drop base).take (min n (base+g)-base)).length<=min n (base+g)-base:=by rw[List.length_take];omega
   omega
  ·exact(dz.refl _).mono (Nat.zero_le _)
theorem Sj:∀(f n g:Nat),1<=g->1<=stepG f n g
 |0,_,_,h=>h
 |f+1,n,g,h=>by
  unfold stepG
  split
  ·exact Sj f n (2*g) aa
  ·exact h
theorem YF(b:Bool)(n:Nat)(hn:1<=n):1<=tT b n:=by
 unfold tT
 split
 ·exact Sj _ _ _ (Nat.le_refl _)
 ·exact hn
theorem dz.rows(n:Nat)(b:Bool)(s:dL)(x:Int)(all:List (List Int))(hn:1<=n)(hl:all.length<=n):dz (5*n+1) s (nG n b s x all).1:=by
 have h:=dz.aa6 n (tT b n) x all (YF b n hn) hl n 0 ⟨s,qY x,none⟩
 unfold nG
 dsimp only
 split
 ·exact h.trans (dz.plain _ _ _ _ _ _)
 ·exact h.mono aa
def up:Nat->Int->Int->Int
 |0,_,p=>p
 |k+1,size,p=>if p<size then up k size (p*2)else p
def Ta(xs:List Int)(aV:Int):Int:=if aV=1/\xs.length=3 then xs.getD 1 0*xs.getD 2 0 else au xs
def Jz(xs:List Int)(aV:Int):Int:=if aV=1/\xs.length=3 then up 7 (xs.getD 1 0*xs.getD 2 0) 1 else au xs
def kD(size Bh:Int)(i:Nat):Int:=(i:Int)/size*Bh+i%size
def jN(size Bh:Int)(k:Nat):List Int:=(List.range k).map (kD size Bh)
def gM(xs:List Int)(aV aA:Int):List Int×Int:=
 if au xs=0\/aV<0\/1<aV then([],4)
 else if aA<=kD (Ta xs aV) (Jz xs aV) ((au xs).toNat-1)then([],7)
 else(jN (Ta xs aV) (Jz xs aV) (au xs).toNat,0)
theorem fV(size Bh:Int)(k:Nat):(jN size Bh k).length=k:=by simp[jN]
theorem BS(size Bh:Int)(k:Nat):jN size Bh (k+1)=jN size Bh k++[kD size Bh k]:=by simp[jN,List.range_succ]
theorem Cq(size Bh:Int){k i:Nat}(h:i<k):(jN size Bh k).getD i 0=kD size Bh i:=by simp[jN,List.getD,h]
theorem aiz:∀(k:Nat) (size p:Int),1<=p->p*2^k=128->size<=64->size<=up k size p/\1<=up k size p/\up k size p<=128
 |0,size,p,h1,h2,h3=>by
  have:p=128:=by simpa using h2
  simp only[up];omega
 |k+1,size,p,h1,h2,h3=>by
  rw[up]
  split
  ·exact aiz k size (p*2) aa (by rw[Int.mul_assoc,<-Int.pow_succ'];exact h2) h3
  ·refine⟨by omega,by omega,?_⟩
   have h4:(1:Int)<=2^(k+1):=by have:(0:Int)<2^(k+1):=Int.pow_pos ay;omega
   have:p*1<=p*2^(k+1):=Int.mul_le_mul_of_nonneg_left h4 aa
   omega
theorem QY{xs:List Int}(h:au xs≠0)(h3:xs.length=3):au xs=xs.getD 0 0*(xs.getD 1 0*xs.getD 2 0)/\1<=xs.getD 0 0/\1<=xs.getD 1 0/\1<=xs.getD 2 0:=by
 match xs,h3 with
 |[a,b,c],_=>
  have h0:au [a,b,c]=dX 1 [a,b,c]:=by unfold au;rfl
  rw[h0]at h|-
  simp only[dX]at h|-
  split at h
  ·exact absurd rfl h
  split at h
  ·exact absurd rfl h
  split at h
  ·exact absurd rfl h
  rename_i g1 g2 g3
  rw[if_neg g1,if_neg g2,if_neg g3]
  refine⟨?_,?_,?_,?_⟩
  ·show 1*a*b*c=a*(b*c)
   rw[Int.one_mul,Int.mul_assoc]
  all_goals simp only[List.getD_cons_zero,List.getD_cons_succ];omega
theorem Sr{xs:List Int}{aV:Int}(h:au xs≠0):∃c s p:Nat,au xs=(c*s:Nat)/\Ta xs aV=s/\Jz xs aV=p/\1<=c/\1<=s/\s<=p/\p<=128/\c*s<=64/\c<=64/\s<=64/\(¬(aV=1/\xs.length=3)->c=1/\s=p):=by
 have hb:=dN xs
 by_cases h1:aV=1/\xs.length=3
 ·obtain⟨e,h2,h3,h4⟩:=QY h h1.2
  obtain⟨a,ha⟩:=Int.eq_ofNat_of_zero_le (show 0<=xs.getD 0 0 by omega)
  obtain⟨b,hb'⟩:=Int.eq_ofNat_of_zero_le (show 0<=xs.getD 1 0 by omega)
  obtain⟨c,hc⟩:=Int.eq_ofNat_of_zero_le (show 0<=xs.getD 2 0 by omega)
  rw[Ta,Jz,if_pos h1,if_pos h1]
  rw[ha,hb',hc]at e
  rw[ha]at h2
  rw[hb']at h3|-
  rw[hc]at h4|-
  have e2:(b:Int)*(c:Int)=((b*c:Nat):Int):=by simp
  have e3:(a:Int)*((b:Int)*(c:Int))=((a*(b*c):Nat):Int):=by simp
  rw[e3]at e
  rw[e2]
  have hbc:1<=b*c:=Nat.mul_pos aa aa
  have hle:a*(b*c)<=64:=by omega
  have hsl:b*c<=a*(b*c):=Nat.le_mul_of_pos_left _ aa
  have hal:a<=a*(b*c):=Nat.le_mul_of_pos_right _ hbc
  obtain⟨u1,u2,u3⟩:=aiz 7 ((b*c:Nat):Int) 1 ay ay aa
  obtain⟨p,hp⟩:=Int.eq_ofNat_of_zero_le (show 0<=up 7 ((b*c:Nat):Int) 1 by omega)
  exact⟨a,b*c,p,e,rfl,hp,by omega,hbc,by omega,by omega,hle,by omega,by omega,λg=>absurd h1 g⟩
 ·obtain⟨n,hn⟩:=Int.eq_ofNat_of_zero_le hb.1
  rw[Ta,Jz,if_neg h1,if_neg h1,hn]
  rw[hn]at h hb
  exact⟨1,n,n,by simp,rfl,rfl,by decide,by omega,by omega,by omega,by omega,by omega,by omega,λ_=>⟨rfl,rfl⟩⟩
theorem Kk{c i s p:Nat}(h:i<s):kD s p (c*s+i)=(c*p+i:Nat):=by
 have hs:0<s:=by omega
 have e1:((c*s+i:Nat):Int)/(s:Int)=(c:Int):=by
  rw[<-Int.natCast_ediv,Nat.add_comm,Nat.add_mul_div_right _ _ hs,Nat.div_eq_of_lt h,Nat.zero_add]
 have e2:((c*s+i:Nat):Int)%(s:Int)=(i:Int):=by
  rw[<-Int.natCast_emod,Nat.add_comm,Nat.add_mul_mod_self_right,Nat.mod_eq_of_lt h]
 rw[kD,e1,e2];simp
theorem Aa{s p:Nat}(i:Nat):kD s p i=((i/s*p+i%s:Nat):Int):=by simp[kD]
theorem Rx{s p i:Nat}(hs:1<=s)(hp:s<=p):kD s p i<kD s p (i+1):=by
 rw[Aa,Aa,Int.ofNat_lt]
 have h1:=Nat.div_add_mod i s
 have h2:=Nat.mod_lt i (show s>0 by omega)
 rcases Nat.lt_or_ge (i%s+1) s with h|h
 ·have e1:(i+1)/s=i/s:=by
   have:i+1=i%s+1+(i/s)*s:=by rw[Nat.mul_comm];omega
   rw[this,Nat.add_mul_div_right _ _ aa,Nat.div_eq_of_lt h,Nat.zero_add]
  have e2:(i+1)%s=i%s+1:=by
   have:i+1=i%s+1+(i/s)*s:=by rw[Nat.mul_comm];omega
   rw[this,Nat.add_mul_mod_self_right,Nat.mod_eq_of_lt h]
  rw[e1,e2];omega
 ·have e3:i+1=(i/s+1)*s:=by rw[Nat.succ_mul,Nat.mul_comm];omega
  have e1:(i+1)/s=i/s+1:=by rw[e3,Nat.mul_div_cancel _ aa]
  have e2:(i+1)%s=0:=by rw[e3,Nat.mul_mod_left]
  rw[e1,e2,Nat.succ_mul];omega
theorem KT{s p:Nat}(hs:1<=s)(hp:s<=p):∀{i j:Nat},i<=j->kD s p i<=kD s p j:=by
 intro i j h
 induction h with
 |refl=>exact Int.le_refl _
 |step _ ih=>exact Int.le_trans ih (Int.le_of_lt (Rx hs hp))
theorem Dl{s p i n:Nat}(hs:1<=s)(hp:s<=p)(hi:i<n)(hn:n<=64)(hp2:p<=128):0<=kD s p i/\kD s p i<=10000:=by
 rw[Aa]
 have h1:i/s<=i:=Nat.div_le_self _ _
 have h2:=Nat.mod_lt i (show s>0 by omega)
 have h3:i/s*p<=64*128:=Nat.mul_le_mul aa hp2
 have h4:=Nat.mod_le i s
 omega
section
def Di(w:World)(r:List Int×Int):Ending->World->Prop:=λe w'=>∃x:ax,(x.xs=r.1/\x.bF)/\e= .returned (.tuple #[x.val,.int .i64 r.2])/\Ext w w'/\(bX x).holds (λb=>w.heap.size<=b/\b<w'.heap.size) w'
variable {w:World} {B:Base} {H:Heap} {S:bR} {nx:Nat} {r:List Int×Int}
theorem Av{er:Int}(hb:∀R w',S.holds R w'->(aU B.w0).holds R w')(hw0:B.w0=w)(hr:r=([],er)):jS B (.xg [.c (.slice none 0 0),aC er]) H S nx (Di w r):=by
 subst hw0 hr
 refine dK λρ w' hw=>⟨⟨none,0,[]⟩,⟨rfl,⟨λ_ h=>bT,Nat.le_refl _,by decide⟩⟩,rfl,bG hw hb,⟨λ_ h=>bT,.inl rfl⟩⟩
variable {i m:Nat}
theorem JU{l:List Int}(hb:∀R w',S.holds R w'->(aU B.w0).holds R w')(hw0:B.w0=w)(hm:m=l.length)(hf:∀x∈l,i64 x)(hl:l.length<=1000000)(hi:(i,b_.rows (aZ l) 1 3)∈H)(hr:r=(l,0)):
 jS B (.xg [.os i m,aC 0]) H S nx (Di w r):=by
 subst hw0 hm hr
 refine dK λρ w' hw=> ?_
 have hn:=fI hw hb hi
 rw[aP]at hn
 obtain⟨u,e,h1,h2,h3⟩:=vv hn hf hl
 refine⟨u,⟨h1,h2⟩,?_,bG hw hb,h3⟩
 have:(SV.xg [.os i l.length,aC 0]).rf ρ= .tuple #[(SV.os i l.length).rf ρ,.int .i64 0]:=rfl
 rw[this,e]
variable {K:Int->Prop}
theorem yN{z:Int}(y:Int)(h:z=y)(h1: -9223372036854775808<=y)(h2:y<=9223372036854775807)(hk:K y):fF .i64 z K:=by
 subst h;exact wrap_i64 h1 h2 hk
variable {q:Int}
theorem abF{x y:Int}(e:x/y=q)(h0:0<=x)(h1:x<=9223372036854775807)(hy:0<y)(h:K q):yM .i64 x y K:=div_pos rfl h0 h1 hy zM
theorem Gf(xs:List Int)(x:Int)(hm:m=xs.length){T:TypeId}:(i,b_.rows (aZ (xs++[x])) 1 T)∈(i,b_.rows (List.take m (aZ xs)++[[.int .i64 x]]) 1 T)::H:=by
 subst hm
 rw[show aZ (xs++[x])=List.take xs.length (aZ xs)++[[.int .i64 x]] by rw[List.take_of_length_le oG];simp[aZ]]
 exact List.mem_cons_self
theorem Gl{s p n:Nat}(hs:1<=s)(hp:s<=p)(hn:n<=64)(hp2:p<=128):∀x∈jN s p n,i64 x:=λx hx=>by
 obtain⟨i,hi,rfl⟩:=List.mem_map.1 hx
 have:=Dl hs hp (List.mem_range.1 hi) hn hp2
 exact⟨by omega,by omega⟩
variable {k:Nat} {size:Int}
theorem ahv(h:¬q<size):up k size q=q:=by cases k<;>simp[up,h]
theorem ahx(h:q<size)(h64:size<=64)(e:q*2^k=128):∃k',k=k'+1/\up k size q=up k' size (q*2)/\q*2*2^k'=128:=by
 cases k with
 |zero=>simp at e;omega
 |succ k=>exact⟨k,rfl,by simp[up,h],by rw[Int.mul_assoc,<-Int.pow_succ'];exact e⟩
theorem adz(w:World)(u:ax)(hx:bE w u.base 1 (aZ u.xs))(aV aA:Int):Calls Tryz.prog 25 #[u.val,.int .i64 aV,.int .i64 aA] w (Di w (gM u.xs aV aA)):=by
 by_cases hA:au u.xs=0\/aV<0\/1<aV
 ·refine fH Tryz.func25 [.c u.val,aC aV,aC aA] ?_
  repeat' ((conv=>whnf)<;>first|(show aJ _ 61 ..;refine aR (f:=61) Tryz.call61 (.int .i64 (au u.xs)) (λρ w' hw=>nS w' u.base u.cap u.xs (ae hw λR h=>aH h hx)) ?_)|refine bV ?_|refine ag ?_ ?_<;>intro _)
  all_goals(conv=>whnf)
  all_goals first|(exfalso;omega)|skip
  all_goals exact Av (λ_ _ h=>h) rfl (by rw[gM,if_pos hA])
 ·obtain⟨c,s,p,hcs,hs,hp,hc1,hs1,hsp,hp2,Zc,ah9,akl,hel⟩:=Sr (xs:=u.xs) (aV:=aV) aa
  have hdef:gM u.xs aV aA=if aA<=kD s p (c*s-1)then([],7)else(jN s p (c*s),0):=by
   rw[gM,if_neg hA,hs,hp,hcs,Int.toNat_natCast]
  obtain⟨n,hn⟩:∃n,c*s=n:=⟨_,rfl⟩
  have hn1:1<=n:=by rw[<-hn];exact Nat.mul_pos hc1 hs1
  rw[hn]at hdef hcs Zc
  have hq:((n:Nat):Int)/(s:Int)=c:=by rw[<-hn,<-Int.natCast_ediv,Nat.mul_div_cancel _ aa]
  rw[hdef]
  have hent:∀{ρ:Nat->SX.Loc} {w':World} {nx:Nat} {H:Heap},dO ⟨w,[]⟩ ρ nx H (aU w) w'->Calls Tryz.prog 61 #[u.val] w' λe w2=>e= .returned (.int .i64 (n:Nat))/\Ext w' w2:=λhw=>by
   have:=nS _ u.base u.cap u.xs (ae hw λR h=>aH h hx)
   rw[hcs]at this;exact this
  by_cases h1:aV=1/\u.xs.length=3
  ·obtain⟨ua,rO⟩:∃a,u.base=some a:=aT (j:=0) hx dS
   have hur:∀(R:Nat->Prop) w',(aU w).holds R w'->bE w' (some ua) 1 (aZ u.xs):=λR w' h=>by rw[<-rO];exact aH h hx
   rw[Ta,if_pos h1]at hs
   rw[Jz,if_pos h1,hs]at hp
   refine fH Tryz.func25 [.c u.val,aC aV,aC aA] ?_
   repeat' ((conv=>whnf)<;>first|(show aJ _ 61 ..;refine aR (f:=61) Tryz.call61 (.int .i64 (n:Nat)) (λρ w' hw=>hent hw) ?_)|(show dn ..;(first|refine aM ua 1 rO rfl aa ?_|refine aM ua 2 rO rfl aa ?_))|(show gZ ..;(first|refine dP hur (j:=1) aa ?_|refine dP hur (j:=2) aa ?_))|(show fF ..;refine yN (s:Int) hs aa aa ?_)|refine bV ?_|refine ag ?_ ?_<;>intro _)
   all_goals(conv=>whnf)
   refine Wp.loop (σ:=Nat×Nat) 0 (λ⟨q,k⟩=>[(2,aC aA),(8,aC (n:Nat)),(9,aC (s:Nat)),(10,aC q)]) (λ_=>[]) (λ_=>aU w)
    (λ⟨q,k⟩=>(q:Int)*2^k=128/\1<=q/\up k s q=p) (λx=>x.2) (1,7) [] ay (λs=>⟨rfl,rfl⟩) ⟨by decide,by decide,hp⟩ ⟨rfl,⟨rfl,rfl,rfl,rfl,trivial⟩,trivial,λ_ _ h=>h⟩ ?_
   rintro⟨q,k⟩ ⟨hq1,hq2,hq3⟩
   by_cases hqs:(q:Int)<s
   ·obtain⟨k',rfl,hk2,hk3⟩:=ahx hqs aa hq1
    repeat' ((conv=>whnf)<;>first|(show fF ..;refine yN ((q*2:Nat):Int) aI aa aa ?_)|refine bV ?_|refine ag ?_ ?_<;>intro _)
    all_goals(conv=>whnf)
    exact⟨(q*2,k'),[],⟨by simpa using hk3,by show 1<=q*2;omega,by rw[<-hq3,hk2];simp⟩,Nat.lt_succ_self _,rfl,fE,trivial,λ_ _ h=>h⟩
   ·rw[ahv hqs]at hq3
    have hqp:p=q:=by omega
    subst hqp
    repeat' ((conv=>whnf)<;>first|(show pg ..;(refine X0 0 n rfl rfl (Nat.zero_le _) mE aa ?_))|(show yM ..;refine abF hq aa aa aa ?_)|refine bV ?_|refine ag ?_ ?_<;>intro _)
    all_goals(conv=>whnf)
    refine Wp.loop (σ:=Nat×Nat) 2 (λx=>[(2,aC aA),(8,aC (n:Nat)),(9,aC (s:Nat)),(10,aC (p:Nat)),(11,.os 1 x.2),(51,aC (c:Nat)),(52,aC x.1)]) (λx=>[(1,.rows (aZ (jN s p x.2)) 1 3)]) (λ_=>aU w)
     (λx=>x.1<=c/\x.2=x.1*s) (λx=>c-x.1) (0,0) [(1,some 0)] ay (λ_=>⟨rfl,rfl⟩) ⟨Nat.zero_le _,(Nat.zero_mul s).symm⟩ ⟨rfl,⟨rfl,rfl,rfl,rfl,rfl,rfl,rfl,trivial⟩,⟨List.mem_cons_self,trivial⟩,λ_ _ h=>h⟩ ?_
    rintro⟨cc,m⟩ ⟨hcc,hm⟩
    dsimp only at hcc hm
    by_cases hlt:cc<c
    ·repeat' ((conv=>whnf)<;>first|refine bV ?_|refine ag ?_ ?_<;>intro _)
     all_goals(conv=>whnf)
     have hcp:cc*p<=64*128:=Nat.mul_le_mul aa hp2
     have hms:cc*s+s<=c*s:=by rw[<-Nat.succ_mul];exact Nat.mul_le_mul_right s hlt
     refine Wp.loop (σ:=Nat×Nat) 3 (λx=>[(2,aC aA),(8,aC (n:Nat)),(9,aC (s:Nat)),(10,aC (p:Nat)),(11,.os 2 x.2),(51,aC (c:Nat)),(52,aC cc),(12,aC cc),(55,aC (s:Nat)),(56,aC x.1)]) (λx=>[(2,.rows (aZ (jN s p x.2)) 1 3)]) (λ_=>aU w)
      (λx=>x.1<=s/\x.2=cc*s+x.1) (λx=>s-x.1) (0,m) [(2,some 1)] ay (λ_=>⟨rfl,rfl⟩) ⟨Nat.zero_le _,hm⟩ ⟨rfl,⟨rfl,rfl,rfl,rfl,rfl,rfl,rfl,rfl,rfl,rfl,trivial⟩,⟨List.mem_cons_self,trivial⟩,λ_ _ h=>h⟩ ?_
     rintro⟨i,k⟩ ⟨hi,hk⟩
     dsimp only at hi hk
     by_cases Vt:i<s
     ·have hpl:(((cc*p:Nat):Int)+(i:Int))=kD s p k:=by rw[hk,Kk Vt];simp
      have hrl:=fV s p k
      repeat' ((conv=>whnf)<;>first|(show fF ..;(first|refine yN ((cc*p:Nat):Int) (Int.natCast_mul cc p).symm aa aa ?_|refine yN (kD s p k) hpl aa aa ?_|refine wrap_i64 aa aa ?_))|refine Ey ?_|refine EF ?_|refine bV ?_|refine ag ?_ ?_<;>intro _)
      all_goals(conv=>whnf)
      exact⟨(i+1,k+1),[(2,some 4)],⟨Vt,by show k+1=cc*s+(i+1);omega⟩,by show s-(i+1)<s-i;omega,rfl,fE,⟨by show(4,b_.rows (aZ (jN s p (k+1))) 1 3)∈_;rw[BS];exact Gf _ _ (fV s p k).symm,trivial⟩,λ_ _ h=>h⟩
     ·repeat' ((conv=>whnf)<;>first|refine bV ?_|refine ag ?_ ?_<;>intro _)
      all_goals(conv=>whnf)
      exact⟨(cc+1,k),[(1,some 2)],⟨hlt,by show k=(cc+1)*s;rw[Nat.succ_mul];omega⟩,by show c-(cc+1)<c-cc;omega,rfl,fE,⟨List.mem_cons_self,trivial⟩,λ_ _ h=>h⟩
    ·have aeF:cc=c:=by omega
     rw[aeF,hn]at hm
     have hpb:=Dl (i:=n-1) (n:=n) hs1 hsp aa Zc hp2
     have hlast:=Cq s p (k:=n) (i:=n-1) aa
     have hll:=fV s p n
     have hm':=hm.symm
     subst hm'
     repeat' ((conv=>whnf)<;>first|refine F9 ?_|(show rQ ..;refine uV (xs:=jN s p n) (j:=n-1) aa ?_)|refine bV ?_|refine ag ?_ ?_<;>intro _)
     all_goals(conv=>whnf)
     ·exact Av (λ_ _ h=>h) rfl (if_pos aa)
     ·exact JU (i:=1) (λ_ _ h=>h) rfl hll.symm (Gl hs1 hsp Zc hp2) aa aj (if_neg aa)
  ·obtain⟨hc,anV⟩:=hel h1
   have hns:n=s:=by rw[<-hn,hc,Nat.one_mul]
   subst anV
   subst hns
   refine fH Tryz.func25 [.c u.val,aC aV,aC aA] ?_
   repeat' ((conv=>whnf)<;>first|(show aJ _ 61 ..;refine aR (f:=61) Tryz.call61 (.int .i64 (n:Nat)) (λρ w' hw=>hent hw) ?_)|(show pg ..;(refine X0 0 n rfl rfl (Nat.zero_le _) mE aa ?_))|(show yM ..;refine abF (q:=(c:Int)) hq aa aa aa ?_)|refine bV ?_|refine ag ?_ ?_<;>intro _)
   all_goals(conv=>whnf)
   ·skip
    refine Wp.loop (σ:=Nat×Nat) 2 (λx=>[(2,aC aA),(8,aC (n:Nat)),(9,aC (n:Nat)),(10,aC (n:Nat)),(11,.os 1 x.2),(51,aC (c:Nat)),(52,aC x.1)]) (λx=>[(1,.rows (aZ (jN n n x.2)) 1 3)]) (λ_=>aU w)
     (λx=>x.1<=c/\x.2=x.1*n) (λx=>c-x.1) (0,0) [(1,some 0)] ay (λ_=>⟨rfl,rfl⟩) ⟨Nat.zero_le _,(Nat.zero_mul n).symm⟩ ⟨rfl,⟨rfl,rfl,rfl,rfl,rfl,rfl,rfl,trivial⟩,⟨List.mem_cons_self,trivial⟩,λ_ _ h=>h⟩ ?_
    rintro⟨cc,m⟩ ⟨hcc,hm⟩
    dsimp only at hcc hm
    by_cases hlt:cc<c
    ·repeat' ((conv=>whnf)<;>first|refine bV ?_|refine ag ?_ ?_<;>intro _)
     all_goals(conv=>whnf)
     have hcp:cc*n<=64*128:=Nat.mul_le_mul aa hp2
     have hms:cc*n+n<=c*n:=by rw[<-Nat.succ_mul];exact Nat.mul_le_mul_right n hlt
     refine Wp.loop (σ:=Nat×Nat) 3 (λx=>[(2,aC aA),(8,aC (n:Nat)),(9,aC (n:Nat)),(10,aC (n:Nat)),(11,.os 2 x.2),(51,aC (c:Nat)),(52,aC cc),(12,aC cc),(55,aC (n:Nat)),(56,aC x.1)]) (λx=>[(2,.rows (aZ (jN n n x.2)) 1 3)]) (λ_=>aU w)
      (λx=>x.1<=n/\x.2=cc*n+x.1) (λx=>n-x.1) (0,m) [(2,some 1)] ay (λ_=>⟨rfl,rfl⟩) ⟨Nat.zero_le _,hm⟩ ⟨rfl,⟨rfl,rfl,rfl,rfl,rfl,rfl,rfl,rfl,rfl,rfl,trivial⟩,⟨List.mem_cons_self,trivial⟩,λ_ _ h=>h⟩ ?_
     rintro⟨i,k⟩ ⟨hi,hk⟩
     dsimp only at hi hk
     by_cases Vt:i<n
     ·have hpl:(((cc*n:Nat):Int)+(i:Int))=kD n n k:=by rw[hk,Kk Vt];simp
      have hrl:=fV n n k
      repeat' ((conv=>whnf)<;>first|refine MZ ?_|refine Ey ?_|refine EF ?_|refine bV ?_|refine ag ?_ ?_<;>intro _)
      all_goals(conv=>whnf)
      exact⟨(i+1,k+1),[(2,some 4)],⟨Vt,by show k+1=cc*n+(i+1);omega⟩,by show n-(i+1)<n-i;omega,rfl,fE,⟨by show(4,b_.rows (aZ (jN n n (k+1))) 1 3)∈_;rw[BS];exact Gf _ _ (fV n n k).symm,trivial⟩,λ_ _ h=>h⟩
     ·repeat' ((conv=>whnf)<;>first|refine bV ?_|refine ag ?_ ?_<;>intro _)
      all_goals(conv=>whnf)
      exact⟨(cc+1,k),[(1,some 2)],⟨hlt,by show k=(cc+1)*n;rw[Nat.succ_mul];omega⟩,by show c-(cc+1)<c-cc;omega,rfl,fE,⟨List.mem_cons_self,trivial⟩,λ_ _ h=>h⟩
    ·have aeF:cc=c:=by omega
     rw[aeF,hn]at hm
     have hpb:=Dl (i:=n-1) (n:=n) hs1 hsp aa Zc hp2
     have hlast:=Cq n n (k:=n) (i:=n-1) aa
     have hll:=fV n n n
     have hm':=hm.symm
     subst hm'
     repeat' ((conv=>whnf)<;>first|refine F9 ?_|(show rQ ..;refine uV (xs:=jN n n n) (j:=n-1) aa ?_)|refine bV ?_|refine ag ?_ ?_<;>intro _)
     all_goals(conv=>whnf)
     ·exact Av (λ_ _ h=>h) rfl (if_pos aa)
     ·exact JU (i:=1) (λ_ _ h=>h) rfl hll.symm (Gl hs1 hsp Zc hp2) aa aj (if_neg aa)
   ·skip
    refine Wp.loop (σ:=Nat×Nat) 2 (λx=>[(2,aC aA),(8,aC (n:Nat)),(9,aC (n:Nat)),(10,aC (n:Nat)),(11,.os 1 x.2),(51,aC (c:Nat)),(52,aC x.1)]) (λx=>[(1,.rows (aZ (jN n n x.2)) 1 3)]) (λ_=>aU w)
     (λx=>x.1<=c/\x.2=x.1*n) (λx=>c-x.1) (0,0) [(1,some 0)] ay (λ_=>⟨rfl,rfl⟩) ⟨Nat.zero_le _,(Nat.zero_mul n).symm⟩ ⟨rfl,⟨rfl,rfl,rfl,rfl,rfl,rfl,rfl,trivial⟩,⟨List.mem_cons_self,trivial⟩,λ_ _ h=>h⟩ ?_
    rintro⟨cc,m⟩ ⟨hcc,hm⟩
    dsimp only at hcc hm
    by_cases hlt:cc<c
    ·repeat' ((conv=>whnf)<;>first|refine bV ?_|refine ag ?_ ?_<;>intro _)
     all_goals(conv=>whnf)
     have hcp:cc*n<=64*128:=Nat.mul_le_mul aa hp2
     have hms:cc*n+n<=c*n:=by rw[<-Nat.succ_mul];exact Nat.mul_le_mul_right n hlt
     refine Wp.loop (σ:=Nat×Nat) 3 (λx=>[(2,aC aA),(8,aC (n:Nat)),(9,aC (n:Nat)),(10,aC (n:Nat)),(11,.os 2 x.2),(51,aC (c:Nat)),(52,aC cc),(12,aC cc),(55,aC (n:Nat)),(56,aC x.1)]) (λx=>[(2,.rows (aZ (jN n n x.2)) 1 3)]) (λ_=>aU w)
      (λx=>x.1<=n/\x.2=cc*n+x.1) (λx=>n-x.1) (0,m) [(2,some 1)] ay (λ_=>⟨rfl,rfl⟩) ⟨Nat.zero_le _,hm⟩ ⟨rfl,⟨rfl,rfl,rfl,rfl,rfl,rfl,rfl,rfl,rfl,rfl,trivial⟩,⟨List.mem_cons_self,trivial⟩,λ_ _ h=>h⟩ ?_
     rintro⟨i,k⟩ ⟨hi,hk⟩
     dsimp only at hi hk
     by_cases Vt:i<n
     ·have hpl:(((cc*n:Nat):Int)+(i:Int))=kD n n k:=by rw[hk,Kk Vt];simp
      have hrl:=fV n n k
      repeat' ((conv=>whnf)<;>first|refine MZ ?_|refine Ey ?_|refine EF ?_|refine bV ?_|refine ag ?_ ?_<;>intro _)
      all_goals(conv=>whnf)
      exact⟨(i+1,k+1),[(2,some 4)],⟨Vt,by show k+1=cc*n+(i+1);omega⟩,by show n-(i+1)<n-i;omega,rfl,fE,⟨by show(4,b_.rows (aZ (jN n n (k+1))) 1 3)∈_;rw[BS];exact Gf _ _ (fV n n k).symm,trivial⟩,λ_ _ h=>h⟩
     ·repeat' ((conv=>whnf)<;>first|refine bV ?_|refine ag ?_ ?_<;>intro _)
      all_goals(conv=>whnf)
      exact⟨(cc+1,k),[(1,some 2)],⟨hlt,by show k=(cc+1)*n;rw[Nat.succ_mul];omega⟩,by show c-(cc+1)<c-cc;omega,rfl,fE,⟨List.mem_cons_self,trivial⟩,λ_ _ h=>h⟩
    ·have aeF:cc=c:=by omega
     rw[aeF,hn]at hm
     have hpb:=Dl (i:=n-1) (n:=n) hs1 hsp aa Zc hp2
     have hlast:=Cq n n (k:=n) (i:=n-1) aa
     have hll:=fV n n n
     have hm':=hm.symm
     subst hm'
     repeat' ((conv=>whnf)<;>first|refine F9 ?_|(show rQ ..;refine uV (xs:=jN n n n) (j:=n-1) aa ?_)|refine bV ?_|refine ag ?_ ?_<;>intro _)
     all_goals(conv=>whnf)
     ·exact Av (λ_ _ h=>h) rfl (if_pos aa)
     ·exact JU (i:=1) (λ_ _ h=>h) rfl hll.symm (Gl hs1 hsp Zc hp2) aa aj (if_neg aa)
end
theorem afg{x:aY}{D:List (List Int)}{R:Nat->Prop}{w:World}(hx:BO D x)(hl:D.length<=1000000)(h:(wm x).holds R w):x.okB w:=⟨bf h.1,λu hu=>dw (hx.bF u hu) (h.2 u hu),by have:=congrArg List.length hx.rows;rw[List.length_map]at this;omega⟩
theorem ZV{cx:Cx}{f:FuncId}{args:List SV}{H:Heap}{S:bR}{nx:Nat}{K:SV->Heap->bR->Nat->Prop}(r:List Int×Int)(hf:∀ar w,(callFunc f ar).run cx.P w= .ok (.enter f ar) w)
 (hc:∀ρ w,dO cx.B ρ nx H S w->Calls cx.P f (SV.dW ρ args).toArray w (Di w r)) (h:∀x:ax,x.xs=r.1->x.bF->K (.c (.tuple #[x.val,.int .i64 r.2])) H (S.and ((bX x).past cx.B.w0.heap.size)) nx):aJ cx f args H S nx K:=by
 refine jU hf (λx:ax=> .tuple #[x.val,.int .i64 r.2]) bX (λx=>x.xs=r.1/\x.bF) (λρ w' hw=>(hc ρ w' hw).mono ?_) (λx hx=>h x hx.1 hx.2)
 rintro e w2 ⟨x,h1,h2,h3,h4⟩
 exact⟨x,h1,h2,h3,h4⟩
section
abbrev akC:DT:=(bS [0,1,2,3,4,5,6,7,8] (.alt 9 (bS [10,11,12,13,114,15,116,17] .done) (bS [114,109,10,11,12,13,15,116,17] .done)))
abbrev alz:DT:=(bS [0,1,2,3,4,5,6,7,8,9,10,11,12,13,14,15,16,17,18,19,20,121,22,23,24,25,26] .done)
def ku(n:Nat)(giant:Bool)(s:dL)(x:Int)(r:List (List Int)×List Int)(fr to:List Int):dL×Int:=
 let q:=nG n giant s x (vk r.1 fr to n).1
 if r.2.any (λb=>decide (b≠0))=true then
  let p:=bH n q.1 to (λe=>r.2.getD e 0)
  bI p.1 4 q.2 0 p.2
 else q
def Mf(c:fT):bR:=(f_ c.shapes.base 1 (bA c.shapes.l)).and (iQ c.shapes.l)
abbrev TF(c:fT)(s:fu)(n:ak):bR:=(D6 c s n).and (Mf c)
def n0(n:ak):ak:={n with a:=0}
variable {cx:Cx} {f:FuncId} {args:List SV} {H:Heap} {S:bR} {nx:Nat} {K:SV->Heap->bR->Nat->Prop}
theorem ZR(n:Nat)(r:List (List Int)×Int)(hf:∀ar w,(callFunc f ar).run cx.P w= .ok (.enter f ar) w)
 (hc:∀ρ w,dO cx.B ρ nx H S w->Calls cx.P f (SV.dW ρ args).toArray w (tu w n r.1 r.2)) (h:∀x:aY,BO r.1 x->abK n x->K (.c (.tuple #[x.val,.int .i64 r.2])) H (S.and ((wm x).past cx.B.w0.heap.size)) nx):aJ cx f args H S nx K:=by
 refine jU hf (λx:aY=> .tuple #[x.val,.int .i64 r.2]) wm (λx=>BO r.1 x/\abK n x) (λρ w' hw=>(hc ρ w' hw).mono ?_) (λx hx=>h x hx.1 hx.2)
 rintro e w2 ⟨x,h1,h2,h3,h4⟩
 exact⟨x,h1,h2,h3,h4⟩
def agE(p:aY×ax):bR:=(wm p.1).and (bX p.2)
theorem Zj(r:(List (List Int)×List Int)×Int)(hf:∀ar w,(callFunc f ar).run cx.P w= .ok (.enter f ar) w)
 (hc:∀ρ w,dO cx.B ρ nx H S w->Calls cx.P f (SV.dW ρ args).toArray w (yY w r)) (h:∀(x:aY) (y:ax),BO r.1.1 x->y.xs=r.1.2->y.bF->K (.c (.tuple #[x.val,y.val,.int .i64 r.2])) H (S.and ((agE (x,y)).past cx.B.w0.heap.size)) nx):aJ cx f args H S nx K:=by
 refine jU hf (λp:aY×ax=> .tuple #[p.1.val,p.2.val,.int .i64 r.2]) agE (λp=>BO r.1.1 p.1/\p.2.xs=r.1.2/\p.2.bF) (λρ w' hw=>(hc ρ w' hw).mono ?_) (λp hp=>h p.1 p.2 hp.1 hp.2.1 hp.2.2)
 rintro e w2 ⟨x,y,h1,h2,h3,h4,h5⟩
 exact⟨(x,y),h1,h2,h3,h4,h5⟩
variable {R:Nat->Prop} {w:World}
theorem Xr{n:ak}(hn:n.uB)(h:(Xp n).holds R w):n.ok w:=⟨⟨iO h.1,hn.az.fits,hn.az.room,hn.az.few⟩,⟨iO h.2.1,hn.data.fits,hn.data.room,hn.data.few⟩,⟨iO h.2.2,hn.aQ.fits,hn.aQ.room,hn.aQ.few⟩,hn.lQ,hn.Cr,hn.yh,hn.nk,hn.ng,hn.lV⟩
theorem akL{n:ak}(hn:n.uB)(h:(Xp n).holds R w):(n0 n).ok w:=by
 have:=Xr hn h
 exact⟨this.az,this.data,this.aQ,hn.lQ,by show i64 0;unfold i64;omega,hn.yh,hn.nk,hn.ng,hn.lV⟩
theorem JD{α:Type}{f:List (List Int)->α->List (List Int)}(h:∀D a,(f D a).length=D.length):∀(l:List α) (D:List (List Int)),(l.foldl f D).length=D.length
 |[],_=>rfl
 |a::l,D=>by rw[List.foldl_cons,JD h l,h]
theorem Hg{rows:List (List Int)}{fr to:List Int}{n:Nat}(hd:Bd rows fr to n):(vk rows fr to n).1.length=n:=by
 rw[vk,if_pos hd]
 show(pQ _ _ _ _ _).length=n
 unfold pQ
 rw[JD]
 ·simp
 ·intro D a
  unfold Ct
  refine JD (λD a=> ?_) _ _
  unfold nu
  split<;>simp
theorem YP(c:fT)(s:fu)(vl:List Int)(n:ak)(i:Nat)(sh fr to:ax)(r:List (List Int)×List Int)(hN:wT c s vl)(h0:0<=n.a)(ha:n.a.toNat<vl.length)(hn:n.uB)(hsm:n.small)(hsh:c.shapes.l[n.a.toNat]? =some sh)(ani:sh.bF)(hfr:c.di.l[n.a.toNat]? =some fr)(aaQ:fr.bF)(hto:c.di.l[i]? =some to)(Jk:to.bF)(hk:¬(n.ai=9/\fr.xs=to.xs))(hr:(pu (n0 n) sh).1=r)(hd:Bd r.1 fr.xs to.xs c.aA)(hb:to.xs.length<=r.2.length)
 (w:World) (ρ:Nat->SX.Loc) (F:Nat->Prop) (h:qF w ρ F 2 5 (kG c s vl) (TF c s n)):
 Calls Tryz.prog 26 (SV.dW ρ [.lp 0 0 0 0,.agg (vo n),aC i]).toArray w (pz w ρ F c s vl (ku c.aA c.giant s.pl (vl.getD n.a.toNat 0) r fr.xs to.xs)):=by
 have hcl:=hN.y9
 have hpl:=hN.yF
 have hn1:=hN.aA.1
 have hn2:=hN.aA.2
 have fsl:∀{j:Nat} {u:ax} {l:List ax},l[j]? =some u->(bA l)[j]? =some [u.val]:=λh=>by unfold bA;rw[List.getElem?_map,h];rfl
 have ln:∀{j:Nat} {u:ax} {l:List ax},l[j]? =some u->j<l.length:=λh=>(List.getElem?_eq_some_iff.1 h).1
 refine zzF Tryz.func26 (yZ 2 ρ) ρ [.lp 0 0 0 0,.agg (vo n),aC i] (kG c s vl) ((TF c s n).and (l8 w F)) 5 h.abs ?_
 refine Wp.know (p:=∃a,c.di.base=some a) (λρ w' hw=>ae hw λR h=>aT (j:=i) (bf h.1.1.1.2.1) (by rw[bz];exact ln hto)) ?_
 rintro⟨sa,hsa⟩
 refine Wp.know (p:=∃a,c.shapes.base=some a) (λρ w' hw=>ae hw λR h=>aT (j:=n.a.toNat) (bf h.1.2.1) (by rw[bz];exact ln hsh)) ?_
 rintro⟨ha',hha⟩
 by_cases hk9:n.ai=9
 all_goals
  repeat' ((conv=>whnf)<;>first|(show cO _ 6 ..;refine mV [] _ akC ?_)|(show cO _ 7 ..;refine mV [] _ alz ?_)|refine eU ?_|refine bn ?_|(show dn ..;(first|refine aM sa n.a.toNat hsa aa (ln hfr) ?_|refine aM sa i hsa rfl (ln hto) ?_|refine aM ha' n.a.toNat hha aa (ln hsh) ?_))|(show gZ ..;(first|refine bN (λR w' h=>by rw[<-hsa];first|exact bf h.1.1.1.2.1|exact bf h.1.1.1.1.2.1) _ _ (fsl hfr) rfl ?_|refine bN (λR w' h=>by rw[<-hsa];first|exact bf h.1.1.1.2.1|exact bf h.1.1.1.1.2.1) _ _ (fsl hto) rfl ?_|refine bN (λR w' h=>by rw[<-hha];exact bf h.1.2.1) _ _ (fsl hsh) rfl ?_))|refine FX ?_|(show rQ ..;refine uV ha ?_)|(show jQ _ 62 ..;(refine jo (f:=62) Tryz.call62 (.bool false) (λρ w' hw=>by have:=tK w' fr to (ae hw λR h=>dw aaQ (h.1.1.1.2.2 _ (List.mem_of_getElem? hfr))) (ae hw λR h=>dw Jk (h.1.1.1.2.2 _ (List.mem_of_getElem? hto)));rw[decide_eq_false (λe=>hk ⟨hk9,e⟩)]at this;exact this) ?_))|(show aJ _ 63 ..;refine Zj (pu (n0 n) sh) Tryz.call63 (λρ w' hw=>VL w' (n0 n) sh (ae hw λR h=>akL hn h.1.1.2) ⟨hsm.data,hsm.aQ⟩ (ae hw λR h=>dw ani (h.1.2.2 _ (List.mem_of_getElem? hsh)))) (λx y hx hy hys=> ?_))|(show aJ _ 64 ..;(refine ZR c.aA (vk (x.l.map ax.xs) fr.xs to.xs c.aA) Tryz.call64 (λρ w' hw=>acU w' x (ae hw λR h=>afg hx (by rw[hr,hd.2.2.1];exact Jk.few) ((wm x).mono h.2.1 (λ_ hb=>hb.1))) fr to (ae hw λR h=>dw aaQ (h.1.1.1.1.2.2 _ (List.mem_of_getElem? hfr))) (ae hw λR h=>dw Jk (h.1.1.1.1.2.2 _ (List.mem_of_getElem? hto))) c.aA ⟨by omega,by omega⟩) (λd hdx hdn=> ?_)))|refine bV ?_|refine And.intro ?_ ?_)
 all_goals
  have hdl:d.l.length=c.aA:=by have:=congrArg List.length hdx.rows;rw[List.length_map,hx.rows,hr,Hg hd]at this;exact this
  have hDr:d.l.map ax.xs=(vk r.1 fr.xs to.xs c.aA).1:=by rw[hdx.rows,hx.rows,hr]
  have hG:=dz.rows c.aA c.giant s.pl (vl.getD n.a.toNat 0) (d.l.map ax.xs) hn1 vZ
  refine dM [(7,.box [.c y.val] 32),(6,.box [aC n.ai,aC 0,aC n.b,.c n.az.val,aC n.lo,aC n.hi,aC n.size,.c n.data.val,.c n.aQ.val] 41),(5,.box (cs n.cells) 41)] 0 1 2 3 4 c s vl ((iQ s.aF).and (wm d)) [.lp 0 0 0 0,aC (vl.getD n.a.toNat 0),.c d.val] _ _ _ _ Tryz.call65 rfl rfl rfl (λR w' h=>⟨h.1.1.1.1.1.1,(wm d).mono h.2 (λ_ hb=>hb.1)⟩) (iV w F) (λR w' h b hb=>(h.1.1.2 b hb).1) (λw' ρ' F' h'=>afX c s vl (vl.getD n.a.toNat 0) d hN hdl hdn hdx.bF hdx.room w' ρ' F' h') (λq ⟨hq1,hq2,hq3⟩=> ?_)
  rw[<-hq1]at hG
  have hGf:q.1.code.length<=s.code.length+(5*c.aA+1):=hG.few
  have hGp:q.1.aF.length<=1000000:=by
   have:=hG.aF
   have e1:q.1.pl.aF.length=q.1.aF.length:=List.length_map _
   have e2:s.pl.aF.length=s.aF.length:=List.length_map _
   have e3:q.1.pl.code.length=q.1.code.length:=rfl
   have e4:s.pl.code.length=s.code.length:=rfl
   omega
  have hyr:y.xs=r.2:=by rw[hy,hr]
  have hw0:∀v,nG c.aA c.giant s.pl (vl.getD n.a.toNat 0) (d.l.map ax.xs)=v->ku c.aA c.giant s.pl (vl.getD n.a.toNat 0) r fr.xs to.xs=(if y.xs.any (λb=>decide (b≠0))=true then bI (bH c.aA v.1 to.xs (λe=>y.xs.getD e 0)).1 4 v.2 0 (bH c.aA v.1 to.xs (λe=>y.xs.getD e 0)).2 else v):=λv hv=>by unfold ku;rw[<-hDr,hv,hyr]
  have hw1:=hw0 (q.1.pl,q.2) (Prod.ext hq1.symm hq2.symm)
  by_cases hnz:y.xs.any (λb=>decide (b≠0))=true
  ·rw[if_pos hnz]at hw1
   rw[hw1]
   repeat' ((conv=>whnf)<;>first|(show aJ _ 66 ..;(refine aR (f:=66) Tryz.call66 (.bool true) (λρ w' hw=>by have:=CR w' y (ae hw λR h=>dw hys ((bX y).mono h.1.1.2.2 (λ_ hb=>hb.1)));rw[hnz]at this;exact this) ?_))|refine bV ?_)
   refine ru rfl [(6,.box [aC n.ai,aC 0,aC n.b,.c n.az.val,aC n.lo,aC n.hi,aC n.size,.c n.data.val,.c n.aQ.val] 41),(5,.box (cs n.cells) 41)] 7 0 1 10 11 12 c q.1 vl 70 [y.val] 32 i (λe=>y.xs.getD e 0) (bX y) to hn2 hq3.aF hGp hto Jk (wL hd.2.2.2.2.1).1 (λe he=>by rw[List.getD_eq_getElem?_getD,List.getElem?_eq_getElem (by rw[hyr];omega)];exact hys.fits _ (List.getElem_mem _)) Tryz.call70 (λR w' b e he hh hA=>Y4 w' b e y _ (by rw[hyr];omega) (bf hA) hh) rfl rfl rfl (λR w' h=>⟨⟨adl h.1.1.1.1.1.1.1 h.2,h.1.1.1.1.1.1.2⟩,(bX y).mono h.1.1.2.2 (λ_ hb=>hb.1)⟩) (iV w F) (λR w' h b hb=>(h.1.1.1.2 b hb).1) (λu hu iL=> ?_)
   repeat' ((conv=>whnf)<;>first|refine bV ?_)
   refine dM [(6,.box [aC n.ai,aC 0,aC n.b,.c n.az.val,aC n.lo,aC n.hi,aC n.size,.c n.data.val,.c n.aQ.val] 41),(5,.box (cs n.cells) 41)] 0 1 15 16 17 c (aS q.1 u).1 vl iK [.lp 0 0 0 0,aC 4,aC q.2,aC 0,aC (aS q.1 u).2] _ _ _ _ Tryz.call68 rfl rfl rfl (λR w' h=>trivial) (iV w F) (λR w' h b hb=>(h.1.1.1.1.2 b hb).1) (λw' ρ' F' h'=>gQ c (aS q.1 u).1 vl 4 q.2 0 (aS q.1 u).2 Fe w' ρ' F' h') (λ_ _=> ?_)
   repeat' ((conv=>whnf)<;>first|refine bV ?_)
   all_goals(conv=>whnf)
   exact lH _ _ _ _ (eH (aS q.1 u).1 4 q.2 0 (aS q.1 u).2,((aS q.1 u).1.code.length:Int)) [(2,some 21),(3,some 22),(4,some 23)] ⟨by rw[oU hu,sU],by rw[oU hu,sU],De (y_ hq3 iL) _ _ _ _⟩ ay rfl rfl rfl rfl fE (λR w' h=>⟨h.1.1.1.1.1.2,lY h.1.1.2 h.1.2⟩)
  ·rw[if_neg hnz]at hw1
   rw[hw1]
   have hnf:=Bool.eq_false_iff.2 hnz
   repeat' ((conv=>whnf)<;>first|(show aJ _ 66 ..;(refine aR (f:=66) Tryz.call66 (.bool false) (λρ w' hw=>by have:=CR w' y (ae hw λR h=>dw hys ((bX y).mono h.1.1.2.2 (λ_ hb=>hb.1)));rw[hnf]at this;exact this) ?_))|refine bV ?_)
   all_goals(conv=>whnf)
   exact lH _ _ _ _ q [(2,some 10),(3,some 11),(4,some 12)] ⟨rfl,rfl,hq3⟩ ay rfl rfl rfl rfl fE (λR w' h=>⟨h.1.1.1.2,h.2⟩)
end
theorem aeo(c:fT)(s:fu)(vl:List Int)(n:ak)(i:Nat)(fr to:ax)(hN:wT c s vl)(h0:0<=n.a)(ha:n.a.toNat<vl.length)(hfr:c.di.l[n.a.toNat]? =some fr)(aaQ:fr.bF)(hto:c.di.l[i]? =some to)(Jk:to.bF)(hk9:n.ai=9)(hft:fr.xs=to.xs)
 (w:World) (ρ:Nat->SX.Loc) (F:Nat->Prop) (h:qF w ρ F 2 5 (kG c s vl) (TF c s n)):
 Calls Tryz.prog 26 (SV.dW ρ [.lp 0 0 0 0,.agg (vo n),aC i]).toArray w (pz w ρ F c s vl (s.pl,vl.getD n.a.toNat 0)):=by
 have fsl:∀{j:Nat} {u:ax} {l:List ax},l[j]? =some u->(bA l)[j]? =some [u.val]:=λh=>by unfold bA;rw[List.getElem?_map,h];rfl
 have ln:∀{j:Nat} {u:ax} {l:List ax},l[j]? =some u->j<l.length:=λh=>(List.getElem?_eq_some_iff.1 h).1
 refine zzF Tryz.func26 (yZ 2 ρ) ρ [.lp 0 0 0 0,.agg (vo n),aC i] (kG c s vl) ((TF c s n).and (l8 w F)) 5 h.abs ?_
 refine Wp.know (p:=∃a,c.di.base=some a) (λρ w' hw=>ae hw λR h=>aT (j:=i) (bf h.1.1.1.2.1) (by rw[bz];exact ln hto)) ?_
 rintro⟨sa,hsa⟩
 repeat' ((conv=>whnf)<;>first|(show @iG _ _ _;refine gJ aa ?_)|(show dn ..;(first|refine aM sa n.a.toNat hsa aa (ln hfr) ?_|refine aM sa i hsa rfl (ln hto) ?_))|(show gZ ..;(first|refine bN (λR w' h=>by rw[<-hsa];exact bf h.1.1.1.2.1) _ _ (fsl hfr) rfl ?_|refine bN (λR w' h=>by rw[<-hsa];exact bf h.1.1.1.2.1) _ _ (fsl hto) rfl ?_))|refine FX ?_|(show rQ ..;refine uV ha ?_)|(show jQ _ 62 ..;(refine jo (f:=62) Tryz.call62 (.bool true) (λρ w' hw=>by have:=tK w' fr to (ae hw λR h=>dw aaQ (h.1.1.1.2.2 _ (List.mem_of_getElem? hfr))) (ae hw λR h=>dw Jk (h.1.1.1.2.2 _ (List.mem_of_getElem? hto)));rw[decide_eq_true hft]at this;exact this) ?_))|refine bV ?_)
 all_goals(conv=>whnf)
 all_goals exact lH _ _ _ _ (s,vl.getD n.a.toNat 0) [] ⟨rfl,rfl,hN.ok⟩ ay rfl rfl rfl rfl fE (λR w' h=>⟨h.2,vP _ _ _⟩)
structure l7 where
 aA:Int
 ib:Option Addr
 ic:Nat
 inputs:List nN
 aF:aY
 cb:Option Addr
 cc:Nat
 code:List jf
 last:Int
 out:ax
structure yx where
 aA:Int
 low:dL
 last:Int
 out:List Int
def l7.val(v:l7):Value:= .agg #[.int .i64 v.aA,.slice v.ib v.inputs.length v.ic,v.aF.val,.slice v.cb v.code.length v.cc,.int .i64 v.last,v.out.val]
def l7.pl(v:l7):yx:=⟨v.aA,⟨v.inputs.map nN.pl,v.aF.l.map ax.xs,v.code⟩,v.last,v.out.xs⟩
structure l7.bF(v:l7):Prop where
 aF:∀p∈v.aF.l,p.bF
 inputs:∀x∈v.inputs,x.aA.bF/\i64 x.lo/\i64 x.hi
 out:v.out.bF
 yF:v.aF.l.length<=1000000
 aaK:v.inputs.length<=1000000
 y9:v.code.length<=1000000
def aiG(l:List nN):bR where
 holds R w:=∀x∈l,(bX x.aA).holds R w
 stable:=λhR hw h x hx=>(bX x.aA).stable hR hw (h x hx)
def LD(v:l7):bR:=(((f_ v.ib 3 (mq v.inputs)).and (aiG v.inputs)).and ((f_ v.aF.base 1 (bA v.aF.l)).and (iQ v.aF.l))).and ((f_ v.cb 5 (iX v.code)).and (bX v.out))
def Ca:yx:=⟨0,⟨[],[],[]⟩,0,[]⟩
def vD(w:World)(r:yx×Int):Ending->World->Prop:=λe w'=>∃v:l7,(v.pl=r.1/\v.bF)/\e= .returned (.tuple #[v.val,.int .i64 r.2])/\Ext w w'/\(LD v).holds (λb=>w.heap.size<=b/\b<w'.heap.size) w'
structure DZ where
 aV:Int
 tidy:Bool
 lazy:Bool
 giant:Bool
 rows:Int
def DZ.val(o:DZ):Value:= .agg #[.int .i64 o.aV,.bool o.tidy,.bool o.lazy,.bool o.giant,.int .i64 o.rows]
def nJ(o:DZ)(aA:Int):Prop:=0<=o.aV/\o.aV<=1/\4<=aA/\aA<=2048/\bitsOf .and .i64 aA (aA-1)=0
instance(o:DZ)(aA:Int):Decidable (nJ o aA):=by unfold nJ;infer_instance
theorem G5{op:BinOp}{k:IntKind}{x y:Int}{K:Int->Prop}(h:K (bitsOf op k x y)):Ci op k x y K:=by rw[vN];exact h
theorem yz{w:World}{B:Base}{H:Heap}{S:bR}{nx:Nat}{er:Int}{v:SV}{r:yx×Int}(hb:∀R w',S.holds R w'->(aU B.w0).holds R w')(hw0:B.w0=w)(hr:r=(Ca,er))(hv:∀ρ,v.rf ρ= .tuple #[.agg #[.int .i64 0,.slice none 0 0,.slice none 0 0,.slice none 0 0,.int .i64 0,.slice none 0 0],.int .i64 er]):jS B v H S nx (vD w r):=by
 subst hw0 hr
 refine dK λρ w' hw=>⟨⟨0,none,0,[],⟨none,0,[]⟩,none,0,[],0,⟨none,0,[]⟩⟩,⟨rfl,⟨λ_ h=>bT,λ_ h=>bT,⟨λ_ h=>bT,Nat.le_refl _,Nat.zero_le _⟩,Nat.zero_le _,Nat.zero_le _,Nat.zero_le _⟩⟩,by rw[hv];rfl,bG hw hb,?_⟩
 have z:∀k,(f_ none k []).holds (λb=>B.w0.heap.size<=b/\b<w'.heap.size) w':=λk=>⟨λ_ h=>bT,.inl rfl⟩
 exact⟨⟨⟨z 3,λ_ h=>bT⟩,⟨z 1,λ_ h=>bT⟩⟩,⟨z 5,z 1⟩⟩
theorem acV(w:World)(g:bM)(o:DZ)(aA:Int)(hg:g.ok w)(h64:i64 aA)(hbad:¬nJ o aA\/(cZ g).1≠0):Calls Tryz.prog 9 #[g.val,o.val,.int .i64 aA] w (vD w (Ca,if nJ o aA then(cZ g).1 else 1)):=by
 obtain⟨h1,h2⟩:=h64
 by_cases hs:nJ o aA
 ·rw[if_pos hs]
  have hne:=hbad.resolve_left (λh=>h hs)
  obtain⟨s1,s2,s3,s4,s5⟩:=hs
  refine fH Tryz.func9 [.agg [.c (.slice g.base g.l.length g.cap),aC g.out],.agg [aC o.aV,.c (.bool o.tidy),.c (.bool o.lazy),.c (.bool o.giant),aC o.rows],aC aA] ?_
  repeat' ((conv=>whnf)<;>first|(show Ci ..;refine G5 ?_)|(show @iG _ _ _;(first|refine jc aa ?_|refine gJ hne ?_))|(show aJ _ 22 ..;refine wZ (f:=22) (cZ g) Tryz.call22 (λρ w' hw=>yj w' g (ae hw λR h=>hg.later h)) (λ_=> ?_) (λhsp=>absurd hsp hne))|refine a_ ?_)
  all_goals(conv=>whnf)
  exact yz (λ_ _ h=>h) rfl rfl (λρ=>rfl)
 ·rw[if_neg hs]
  refine fH Tryz.func9 [.agg [.c (.slice g.base g.l.length g.cap),aC g.out],.agg [aC o.aV,.c (.bool o.tidy),.c (.bool o.lazy),.c (.bool o.giant),aC o.rows],aC aA] ?_
  repeat' ((conv=>whnf)<;>first|(show Ci ..;refine G5 ?_)|(show @iG _ _ _;((refine ag ?_ ?_<;>intro _)))|(show aJ _ 22 ..;((exfalso;exact hs ⟨by omega,by omega,by omega,by omega,by omega⟩)))|refine a_ ?_)
  all_goals(conv=>whnf)
  all_goals exact yz (λ_ _ h=>h) rfl rfl (λρ=>rfl)
section
def eT(xs:List Int):List (List Value):=xs.map λx=>[.int .u64 x]
theorem eG(xs:List Int):(eT xs).length=xs.length:=by simp[eT]
variable {xs:List Int}
theorem R6{k:Nat}(h:k<xs.length):(eT xs)[k]? =some [.int .u64 (xs.getD k 0)]:=by
 unfold eT
 rw[List.getElem?_map,List.getElem?_eq_getElem h,List.getD_eq_getElem?_getD,List.getElem?_eq_getElem h];rfl
theorem acQ(xs:List Int)(j:Nat)(z:Int):eT (xs.set j z)=(eT xs).set j [.int .u64 z]:=by simp[eT,List.map_set]
variable {j:Nat}
theorem BL{z:Int}{K:List (List Value)->Prop}(hj:j<xs.length)(h:K (eT (xs.set j z))):dH (eT xs) j 0 [.int .u64 z] K:=by
 refine jq _ (R6 hj) kQ ?_
 have e2:cB [Value.int .u64 (xs.getD j 0)] 0 [.int .u64 z]=[Value.int .u64 z]:=rfl
 rw[e2,<-acQ];exact h
theorem Fs(n:Nat):List.replicate n [Value.int .u64 0]=eT (List.replicate n 0):=by simp[eT]
def HZ(f:Nat->Int)(n i:Nat):List Int:=(List.range n).map λk=>if k<i then f k else 0
theorem Bz(f:Nat->Int)(n i:Nat):(HZ f n i).length=n:=by simp[HZ]
theorem Jw(f:Nat->Int)(n:Nat):HZ f n 0=List.replicate n 0:=by
 apply List.ext_getElem
 ·simp[HZ]
 ·intro k h1 h2;simp[HZ]
theorem Jm(f:Nat->Int)(n:Nat):HZ f n n=(List.range n).map f:=
 List.map_congr_left λk hk=>if_pos (List.mem_range.1 hk)
theorem Nu{f:Nat->Int}{n i:Nat}:(HZ f n i).set i (f i)=HZ f n (i+1):=by
 apply List.ext_getElem
 ·simp[HZ]
 ·intro k h1 h2
  rw[List.getElem_set]
  by_cases e:i=k
  ·subst e;rw[if_pos rfl];simp[HZ]
  ·rw[if_neg e]
   simp only[HZ,List.getElem_map,List.getElem_range]
   by_cases h:k<i
   ·rw[if_pos h,if_pos aa]
   ·rw[if_neg h,if_neg aa]
def Z_(v:l7)(t:Nat)(ins:aY)(kv:Value):List Value:=[.int .i64 v.aA,.slice v.ib v.inputs.length v.ic,v.aF.val,.slice v.cb v.code.length v.cc,.int .i64 v.last,v.out.val,.int .u64 t,ins.val,kv]
def r_(v:l7)(t:Nat)(ins:aY)(kv:Value)(b:Nat)(w:World):Prop:=w.heap[b]? =some (.cells (Z_ v t ins kv).toArray 96 (0,0))
theorem r_.cell{v:l7}{t:Nat}{ins:aY}{kv:Value}{b:Nat}{w:World}(h:r_ v t ins kv b w){j:Nat}{x:Value}(hx:(Z_ v t ins kv)[j]? =some x):w.cell? ⟨b,j,none⟩=some x:=by
 unfold r_ at h
 simp[World.cell?,h,hx]
variable {v:l7} {t b:Nat} {ins:aY} {kv:Value} {w:World}
theorem r_.later{w':World}{R:Nat->Prop}(h:r_ v t ins kv b w)(hb:(aU w).holds R w'):r_ v t ins kv b w':=by
 have hl:b<w.heap.size:=by
  unfold r_ at h
  exact(Array.getElem?_eq_some_iff.1 h).1
 unfold r_ at*
 rw[(hb b hl).2];exact h
variable {x:Value}
theorem rD(h:r_ v t ins kv b w){S:bR}{K:SV->Prop}(hS:∀R w',S.holds R w'->(aU w).holds R w')(hx:(Z_ v t ins kv)[j]? =some x)(hk:K (.c x)):gZ ⟨b,j,none⟩ S K:=by
 have hc:=h.cell hx
 refine A9 (λR w' hR=> ?_) hk
 rw[jE ((hS R w' hR) _ (iA hc)).2];exact hc
abbrev og(w:World)(xs:List Int):Ending->World->Prop:=λe w'=>∃r,e= .returned r/\Ext w w'/\je w w' r 1 59 (eT xs)
theorem aeG(w:World)(b:Nat)(v:l7)(t n:Nat)(ins:aY)(kv:Value)(hm:r_ v t ins kv b w)(hn:v.aA=n)(hn2:n<=2048)(ht:0<t)(ht2:t<=1073741824)(l:ax)(hl:l.ok w)(hll:l.xs.length=n):
 Calls Tryz.prog 141 #[.pointer (some ⟨b,0,none⟩),l.val] w (og w ((List.range n).map λk=>l.xs.getD k 0%t)):=by
 refine fH Tryz.func141 [.c (.pointer (some ⟨b,0,none⟩)),.c (.slice l.base l.xs.length l.cap)] ?_
 repeat' ((conv=>whnf)<;>first|(show gZ ..;refine rD hm (j:=0) (λR w' h=>h) rfl ?_)|(show pg ..;(refine lD n hn hn AB aa ?_))|refine a_ ?_)
 refine Wp.loop (σ:=Nat) 2 (λi=>[(0,.c (.pointer (some ⟨b,0,none⟩))),(5,.os 0 n),(14,.c (.slice l.base l.xs.length l.cap)),(15,aC l.xs.length),(16,aC i)]) (λi=>[(0,.rows (eT (HZ (λk=>l.xs.getD k 0%t) n i)) 1 59)]) (λ_=>aU w)
  (λi=>i<=n) (λi=>n-i) 0 [] ay (λ_=>⟨rfl,rfl⟩) (Nat.zero_le _) ⟨rfl,⟨rfl,rfl,rfl,rfl,rfl,trivial⟩,⟨by rw[Jw,<-Fs];exact List.mem_cons_self,trivial⟩,λR w' h=>h⟩ ?_
 rintro i hi
 by_cases hlt:i<n
 ·obtain⟨la,hla⟩:=hl.base aa
  have hlr:∀(R:Nat->Prop) w',(aU w).holds R w'->bE w' (some la) 1 (aZ l.xs):=λR w' h=>by rw[<-hla];exact aH h hl.rows
  have hfit: -9223372036854775808<=l.xs.getD i 0/\l.xs.getD i 0<=9223372036854775807:=hl.fits _ (cu aa)
  have hlen:=Bz (λk=>l.xs.getD k 0%(t:Int)) n i
  repeat' ((conv=>whnf)<;>first|refine bn ?_|(show dn ..;refine aM la i hla rfl aa ?_)|(show gZ ..;(first|refine dP hlr (j:=i) aa ?_|refine rD hm (j:=6) (λR w' h=>h) rfl ?_))|(show aJ _ 142 ..;refine aR (f:=142) Tryz.call142 (.int .u64 (l.xs.getD i 0%t)) (λρ w' _=>WZ w' _ t hfit ht ht2) ?_)|(show eP ..;(refine bY i rfl hlt PU ?_))|(show dH ..;(refine BL (by rw[hlen];exact hlt) ?_))|refine nU ?_|refine a_ ?_)
  all_goals(conv=>whnf)
  all_goals exact⟨i+1,[],hlt,by show n-(i+1)<n-i;omega,rfl,fE,⟨by rw[<-Nu (f:=λk=>l.xs.getD k 0%(t:Int))];exact List.mem_cons_self,trivial⟩,λ_ _ h=>h⟩
 ·obtain rfl:i=n:=by omega
  repeat' ((conv=>whnf)<;>first|refine bn ?_|refine a_ ?_)
  all_goals(conv=>whnf)
  all_goals exact gT (λ_ _ h=>h) rfl (show(0,b_.rows (eT ((List.range i).map λk=>l.xs.getD k 0%(t:Int))) 1 59)∈_ by rw[<-Jm];exact List.mem_cons_self) Mv
end
section
def Sd(n:Nat)(d:Int)(r:List Int×Bool)(s f w:Int):List Int×Bool:=if(s+d)%n=f then(r.1.set s.toNat w,r.2||decide (w≠0))else r
def aey(n:Nat)(d:Int)(fr row:List Int)(s:Int)(r:List Int×Bool)(k:Nat):List Int×Bool:=(List.range k).foldl (λr i=>Sd n d r s (fr.getD i 0) (row.getD i 0)) r
def aaa(n:Nat)(d:Int)(rows:List (List Int))(fr to:List Int)(o:Nat):List Int×Bool:=(List.range o).foldl (λr o=>aey n d fr (rows.getD o []) (to.getD o 0) r fr.length) (List.replicate n 0,false)
abbrev agA:=Int×Int×Int
def qo(rows:List (List Int))(fr to:List Int)(o:Nat):List agA:=(List.range o).flatMap λo=>(List.range fr.length).map λi=>(to.getD o 0,fr.getD i 0,(rows.getD o []).getD i 0)
theorem Hf(n:Nat)(rows:List (List Int))(fr to:List Int)(o:Nat):pQ n rows fr to o=(qo rows fr to o).foldl (λD t=>nu n D t.1 t.2.1 t.2.2) (List.replicate n []):=by
 simp only[pQ,qo,Ct,List.foldl_flatMap,List.foldl_map]
theorem TH(n:Nat)(d:Int)(rows:List (List Int))(fr to:List Int)(o:Nat):aaa n d rows fr to o=(qo rows fr to o).foldl (λr t=>Sd n d r t.1 t.2.1 t.2.2) (List.replicate n 0,false):=by
 simp only[aaa,qo,aey,List.foldl_flatMap,List.foldl_map]
variable {l:List Int} {k:Nat}
theorem getD_at(h:k<l.length):l.getD k 0=l[k]:=by simp[List.getD,h]
variable {j:Nat}
theorem Hr(h:l.Nodup){i:Nat}(hi:i<l.length)(hj:j<l.length)(hij:i<j):l.getD i 0≠l.getD j 0:=by
 rw[getD_at hi,getD_at hj]
 rw[List.Nodup,List.pairwise_iff_getElem]at h
 exact h i j hi hj hij
variable {rows:List (List Int)} {fr to:List Int}
theorem K8(hf:fr.Nodup)(ht:to.Nodup):∀o,o<=to.length->(qo rows fr to o).Pairwise (λa b=>¬(a.1=b.1/\a.2.1=b.2.1)):=by
 intro o ho
 induction o with
 |zero=>simp[qo]
 |succ o ih=>
  have e:qo rows fr to (o+1)=qo rows fr to o++(List.range fr.length).map λi=>(to.getD o 0,fr.getD i 0,(rows.getD o []).getD i 0):=by simp[qo,List.range_succ]
  rw[e,List.pairwise_append]
  refine⟨ih aa,?_,?_⟩
  ·rw[List.pairwise_map,List.pairwise_iff_getElem]
   intro i j hi hj hij h
   simp only[List.getElem_range]at h
   rw[List.length_range]at hi hj
   exact Hr hf hi hj hij h.2
  ·intro a ha b hb h
   obtain⟨o',ho',ha⟩:=List.mem_flatMap.1 ha
   obtain⟨i,hi,rfl⟩:=List.mem_map.1 ha
   obtain⟨j,hj,rfl⟩:=List.mem_map.1 hb
   exact Hr ht (by have:=List.mem_range.1 ho';omega) aa (List.mem_range.1 ho') h.1
theorem VI{n:Nat}(hf:∀x∈fr,0<=x/\x<n)(ht:∀x∈to,0<=x/\x<n){o:Nat}(ho:o<=to.length):∀t∈qo rows fr to o,(0<=t.1/\t.1<n)/\0<=t.2.1/\t.2.1<n:=by
 intro t h
 obtain⟨o',ho',h⟩:=List.mem_flatMap.1 h
 obtain⟨i,hi,rfl⟩:=List.mem_map.1 h
 have h1:o'<to.length:=by have:=List.mem_range.1 ho';omega
 have h2:i<fr.length:=List.mem_range.1 hi
 simp only
 rw[getD_at h1,getD_at h2]
 exact⟨ht _ (List.getElem_mem h1),hf _ (List.getElem_mem h2)⟩
theorem modn{x:Int}{n:Nat}(h0:0<=x)(h1:x<2*n):x%n=if x<n then x else x-n:=by
 split
 ·exact Int.emod_eq_of_lt h0 fw
 ·have:x=x-n+n:=by omega
  rw[this,Int.add_emod_right,Int.emod_eq_of_lt aa aa];omega
variable {s f:Int} {d:Nat}
theorem Gs{n:Nat}(hs:0<=s/\s<n)(hf:0<=f/\f<n)(hd:d<n):(s+(d:Int))%n=f↔((f-s+n)%n).toNat=d:=by
 rw[modn (x:=s+d) aa aa,modn (x:=f-s+n) aa aa]
 split<;>split<;>omega
structure aco(n d:Nat)(D:List (List Int))(r:List Int×Bool):Prop where
 akO:D.length=n
 len:r.1.length=n
 is:D.getD d []=if r.2 then r.1 else []
 zero:r.2=false->r.1=List.replicate n 0
theorem qh{α:Type}{l:List α}{x y:α}(h:k<l.length):(l.set k x).getD k y=x:=by simp[List.getD,h]
theorem getD_set_ne{α:Type}{l:List α}{x y:α}(h:k≠j):(l.set k x).getD j y=l.getD j y:=by simp[List.getD,List.getElem?_set_ne h]
theorem QZ(hk:k<l.length)(h:l.getD k 0=0):l.set k 0=l:=by
 apply List.ext_getElem?
 intro i
 by_cases e:k=i
 ·subst e
  rw[List.getElem?_set_self hk]
  rw[getD_at hk]at h
  rw[List.getElem?_eq_getElem hk,h]
 ·rw[List.getElem?_set_ne e]
theorem aco.step{n:Nat}(hd:d<n){D:List (List Int)}{r:List Int×Bool}(h:aco n d D r){w:Int}(hs:0<=s/\s<n)(hf:0<=f/\f<n)(hz:(s+(d:Int))%n=f->r.1.getD s.toNat 0=0):aco n d (nu n D s f w) (Sd n d r s f w):=by
 have hsn:s.toNat<n:=by omega
 have hc:=Gs hs hf hd
 obtain⟨l,b⟩:=r
 obtain⟨h1,h2,h3,h4⟩:=h
 simp only at h2 h3 h4 hz
 unfold nu Sd
 by_cases hw:w=0
 ·subst hw
  rw[if_pos rfl]
  split
  ·rename_i g
   have:=QZ aa (hz g)
   simp only[this]
   exact⟨h1,h2,by simpa using h3,by simpa using h4⟩
  ·exact⟨h1,h2,h3,h4⟩
 ·rw[if_neg hw]
  have hd2:((f-s+n)%n).toNat<n:=by
   have:=Int.emod_nonneg (f-s+n) (show(n:Int)≠0 by omega)
   have:=Int.emod_lt_of_pos (f-s+n) (show(0:Int)<n by omega)
   omega
  by_cases g:(s+(d:Int))%n=f
  ·rw[if_pos g,hc.1 g]
   refine⟨by rw[List.length_set];exact h1,by rw[List.length_set];exact h2,?_,λe=>by simp[hw]at e⟩
   rw[qh aa,h3]
   cases b with
   |true=>
    have hne:l≠[]:=λe=>by rw[e]at h2;simp at h2;omega
    simp[hne]
   |false=>
    rw[h4 rfl]
    simp[hw]
  ·rw[if_neg g]
   have hne:((f-s+n)%n).toNat≠d:=λe=>g (hc.2 e)
   exact⟨by rw[List.length_set];exact h1,h2,by rw[getD_set_ne hne];exact h3,h4⟩
theorem VV{n d:Nat}(hd:d<n):∀(T:List agA) (D:List (List Int)) (r:List Int×Bool),T.Pairwise (λa b=>¬(a.1=b.1/\a.2.1=b.2.1))->(∀t∈T,(0<=t.1/\t.1<n)/\0<=t.2.1/\t.2.1<n)->aco n d D r->
 (∀t∈T,(t.1+(d:Int))%n=t.2.1->r.1.getD t.1.toNat 0=0)->aco n d (T.foldl (λD t=>nu n D t.1 t.2.1 t.2.2) D) (T.foldl (λr t=>Sd n d r t.1 t.2.1 t.2.2) r)
 |[],D,r,_,_,h,_=>h
 |t::T,D,r,hp,hin,h,hz=>by
  obtain⟨hp1,hp2⟩:=List.pairwise_cons.1 hp
  rw[List.foldl_cons,List.foldl_cons]
  have ht:=hin t List.mem_cons_self
  refine VV hd T _ _ hp2 (λu hu=>hin u (List.mem_cons_of_mem _ hu)) (h.step hd ht.1 ht.2 (hz t List.mem_cons_self)) λu hu hc=> ?_
  have hu0:=hz u (List.mem_cons_of_mem _ hu) hc
  unfold Sd
  split
  ·rename_i g
   have hne:t.1.toNat≠u.1.toNat:=λe=>by
    have hti:=hin u (List.mem_cons_of_mem _ hu)
    have e1:t.1=u.1:=by omega
    exact hp1 u hu ⟨e1,by rw[<-g,<-hc,e1]⟩
   simp only
   rw[getD_set_ne hne];exact hu0
  ·exact hu0
end
section
def W64(z:Int):Int:=IntKind.i64.wrap z
theorem Na(z:Int):W64 z=if z%18446744073709551616>=9223372036854775808 then z%18446744073709551616-18446744073709551616 else z%18446744073709551616:=by
 unfold W64 IntKind.wrap
 simp[IntKind.signed,IntKind.bits]
theorem air(z:Int):i64 (W64 z):=by
 rw[Na]
 constructor<;>split<;>omega
theorem ahw(a b:Int):W64 (W64 a+W64 b)=W64 (a+b):=by
 rw[Na (W64 a+W64 b),Na (a+b),Na a,Na b]
 split<;>split<;>split<;>split<;>omega
def DE(D:List (List Int))(k s:Nat):Int:=(D.getD k []).getD s 0
structure ZC(n:Nat)(D:List (List Int)):Prop where
 len:D.length=n
 each:∀k,D.getD k []=[]\/(D.getD k []).length=n
theorem BP{α:Type}{l:List α}{k:Nat}{y:α}(h:l.length<=k):l.getD k y=y:=by simp[List.getD,h]
variable {s:Nat}
theorem oL{n:Nat}:(List.replicate n (0:Int)).getD s 0=0:=by
 simp only[List.getD,List.getElem?_replicate];split<;>rfl
theorem Qe{n:Nat}:(List.replicate n ([]:List Int)).getD s []=[]:=by
 simp only[List.getD,List.getElem?_replicate];split<;>rfl
theorem XP{n d s0:Nat}{D:List (List Int)}{s f w:Int}(h:ZC n D)(hd:((f-s+n)%n).toNat=d)(hdn:d<n)(hs:s.toNat=s0)(hsn:s0<n)(hz:DE D d s0=0):
 ZC n (nu n D s f w)/\∀k j,DE (nu n D s f w) k j=if k=d/\j=s0 then w else DE D k j:=by
 unfold nu
 by_cases hw:w=0
 ·rw[if_pos hw]
  refine⟨h,λk j=> ?_⟩
  split
  ·rename_i g;rw[g.1,g.2,hz,hw]
  ·rfl
 ·rw[if_neg hw,hd,hs]
  obtain⟨l0,hl0⟩:∃l,(if D.getD d []=[]then List.replicate n 0 else D.getD d [])=l:=⟨_,rfl⟩
  have hl:l0.length=n/\∀j,l0.getD j 0=DE D d j:=by
   rw[<-hl0]
   split
   ·rename_i g
    refine⟨List.length_replicate,λj=> ?_⟩
    rw[oL,DE,g];rfl
   ·rename_i g
    exact⟨(h.each d).resolve_left g,λj=>rfl⟩
  rw[hl0]
  refine⟨⟨by rw[List.length_set];exact h.len,λk=> ?_⟩,λk j=> ?_⟩
  ·by_cases e:d=k
   ·subst e
    rw[qh (by rw[h.len];exact hdn),List.length_set];exact .inr hl.1
   ·rw[getD_set_ne e];exact h.each k
  ·unfold DE
   by_cases e:d=k
   ·subst e
    rw[qh (by rw[h.len];exact hdn)]
    by_cases e2:s0=j
    ·subst e2
     rw[qh (by rw[hl.1];exact hsn),if_pos ⟨rfl,rfl⟩]
    ·rw[getD_set_ne e2,if_neg (λg=>e2 g.2.symm),hl.2];rfl
   ·rw[getD_set_ne e,if_neg (λg=>e g.1.symm)]
theorem abk(g h:Nat->Int)(d:Nat):∀n:Nat,(∀k,k≠d->h k=g k)->((List.range n).map h).sum=((List.range n).map g).sum+(if d<n then h d-g d else 0)
 |0,_=>by simp
 |n+1,he=>by
  rw[List.range_succ,List.map_append,List.map_append,List.sum_append,List.sum_append,abk g h d n he]
  simp only[List.map_cons,List.map_nil,List.sum_cons,List.sum_nil]
  by_cases e:n=d
  ·subst e
   simp only[Nat.lt_irrefl,if_false,Nat.lt_succ_self,if_true];omega
  ·rw[he n e]
   by_cases e2:d<n
   ·rw[if_pos e2,if_pos aa];omega
   ·rw[if_neg e2,if_neg aa];omega
def BG(D:List (List Int))(X:Nat->Int)(n m s:Nat):Int:=((List.range m).map λk=>DE D k s*X ((s+k)%n)).sum
def wC(X:Nat->Int)(T:List agA)(s:Nat):Int:=(T.map λt=>if t.1.toNat=s then t.2.2*X t.2.1.toNat else 0).sum
theorem XN{n:Nat}(X:Nat->Int):∀(T:List agA) (D:List (List Int)),T.Pairwise (λa b=>¬(a.1=b.1/\a.2.1=b.2.1))->(∀t∈T,(0<=t.1/\t.1<n)/\0<=t.2.1/\t.2.1<n)->ZC n D->(∀t∈T,DE D ((t.2.1-t.1+n)%n).toNat t.1.toNat=0)->
 ∀s,BG (T.foldl (λD t=>nu n D t.1 t.2.1 t.2.2) D) X n n s=BG D X n n s+wC X T s
 |[],D,_,_,_,_,s=>by simp[wC]
 |t::T,D,hp,hin,hD,hz,s=>by
  obtain⟨hp1,hp2⟩:=List.pairwise_cons.1 hp
  have ht:=hin t List.mem_cons_self
  have hn0:(0:Int)<n:=by omega
  obtain⟨d,hd⟩:∃d,((t.2.1-t.1+n)%n).toNat=d:=⟨_,rfl⟩
  have hdn:d<n:=by
   have:=Int.emod_nonneg (t.2.1-t.1+n) (show(n:Int)≠0 by omega)
   have:=Int.emod_lt_of_pos (t.2.1-t.1+n) hn0
   omega
  have hz0:=hz t List.mem_cons_self
  rw[hd]at hz0
  obtain⟨hD',hent⟩:=XP (w:=t.2.2) hD hd hdn rfl aa hz0
  rw[List.foldl_cons]
  have ih:=XN X T (nu n D t.1 t.2.1 t.2.2) hp2 (λu hu=>hin u (List.mem_cons_of_mem _ hu)) hD' (λu hu=>by
   rw[hent,if_neg,hz u (List.mem_cons_of_mem _ hu)]
   rintro⟨g1,g2⟩
   have hu':=hin u (List.mem_cons_of_mem _ hu)
   have e1:t.1=u.1:=by omega
   refine hp1 u hu ⟨e1,?_⟩
   have c1:=(Gs ht.1 ht.2 hdn).2 hd
   have c2:=(Gs hu'.1 hu'.2 hdn).2 g1
   rw[<-c1,<-c2,e1]) s
  rw[ih]
  have hw:wC X (t::T) s=(if t.1.toNat=s then t.2.2*X t.2.1.toNat else 0)+wC X T s:=by simp[wC]
  rw[hw]
  have hs1:BG (nu n D t.1 t.2.1 t.2.2) X n n s=BG D X n n s+(if t.1.toNat=s then t.2.2*X t.2.1.toNat else 0):=by
   unfold BG
   rw[abk (λk=>DE D k s*X ((s+k)%n)) _ d n (λk hk=>by rw[hent,if_neg (λg=>hk g.1)]),if_pos hdn,hent]
   by_cases e:t.1.toNat=s
   ·rw[if_pos ⟨rfl,e.symm⟩,if_pos e,<-e,hz0]
    have hc:=(Gs ht.1 ht.2 hdn).2 hd
    have e2:(t.1.toNat+d)%n=t.2.1.toNat:=by
     have h1:t.1=(t.1.toNat:Int):=by omega
     rw[h1]at hc
     have h2:(((t.1.toNat+d)%n:Nat):Int)=t.2.1:=by rw[Int.natCast_emod,Int.natCast_add];exact hc
     omega
    rw[e2];omega
   ·rw[if_neg (λg=>e g.2.symm),if_neg e];omega
  rw[hs1];omega
variable {rows:List (List Int)} {fr to:List Int}
theorem SK{n:Nat}(hf:(∀x∈fr,0<=x/\x<n)/\fr.Nodup)(ht:(∀x∈to,0<=x/\x<n)/\to.Nodup)(X:Nat->Int)(s:Nat):
 BG (pQ n rows fr to to.length) X n n s=wC X (qo rows fr to to.length) s:=by
 have hD0:ZC n (List.replicate n ([]:List Int)):=⟨by simp,λk=> .inl Qe⟩
 have hz:∀k j,DE (List.replicate n ([]:List Int)) k j=0:=λk j=>by rw[DE,Qe];rfl
 rw[Hf,XN X _ _ (K8 hf.2 ht.2 _ (Nat.le_refl _)) (VI hf.1 ht.1 (Nat.le_refl _)) hD0 (λt _=>hz _ _)]
 have:∀m,((List.range m).map λk=>DE (List.replicate n ([]:List Int)) k s*X ((s+k)%n)).sum=0:=λm=>by
  induction m with
  |zero=>rfl
  |succ m ih=>rw[List.range_succ,List.map_append,List.sum_append,ih];simp[hz]
 rw[BG,this];omega
theorem ac5(D:List (List Int))(X:Nat->Int)(n m s:Nat):BG D X n (m+1) s=BG D X n m s+DE D m s*X ((s+m)%n):=by
 simp[BG,List.range_succ,List.sum_append]
theorem YT{n:Nat}(hf:(∀x∈fr,0<=x/\x<n)/\fr.Nodup)(ht:(∀x∈to,0<=x/\x<n)/\to.Nodup)(hn:0<n):ZC n (pQ n rows fr to to.length):=by
 have key:∀d,d<n->aco n d (pQ n rows fr to to.length) (aaa n d rows fr to to.length):=λd hd=>by
  rw[Hf,TH]
  refine VV hd _ _ _ (K8 hf.2 ht.2 _ (Nat.le_refl _)) (VI hf.1 ht.1 (Nat.le_refl _)) ⟨by simp,by simp,by simp[List.getD,hd],λ_=>rfl⟩ λt _ _=>oL
 refine⟨(key 0 hn).akO,λk=> ?_⟩
 rcases Nat.lt_or_ge k n with g|g
 ·have h:=key k g
  rw[h.is]
  split
  ·exact .inr h.len
  ·exact .inl rfl
 ·exact .inl (BP (by rw[(key 0 hn).akO];exact g))
def xN(rows:List (List Int))(fr to:List Int)(o i:Nat):List agA:=qo rows fr to o++(List.range i).map λi=>(to.getD o 0,fr.getD i 0,(rows.getD o []).getD i 0)
theorem Ur(rows:List (List Int))(fr to:List Int)(o:Nat):xN rows fr to o 0=qo rows fr to o:=by simp[xN]
theorem UQ(rows:List (List Int))(fr to:List Int)(o:Nat):xN rows fr to o fr.length=qo rows fr to (o+1):=by simp[xN,qo,List.range_succ]
theorem Zr(X:Nat->Int)(rows:List (List Int))(fr to:List Int)(o i s:Nat):wC X (xN rows fr to o (i+1)) s=wC X (xN rows fr to o i) s+(if(to.getD o 0).toNat=s then(rows.getD o []).getD i 0*X (fr.getD i 0).toNat else 0):=by
 simp[wC,xN,List.range_succ,List.sum_append,Int.add_assoc]
structure KS(n:Nat)(E:Nat->Int)(l:List Int):Prop where
 len:l.length=n
 at_:∀s,s<n->l.getD s 0=W64 (E s)
variable {E:Nat->Int} {l:List Int}
theorem KS.fits{n:Nat}(h:KS n E l):∀x∈l,i64 x:=λx hx=>by
 obtain⟨k,hk,rfl⟩:=List.mem_iff_getElem.1 hx
 have:=h.at_ k (by rw[<-h.len];exact hk)
 rw[getD_at hk]at this
 rw[this];exact air _
variable {E':Nat->Int}
theorem KS.eq{n:Nat}{l':List Int}(h:KS n E l)(h':KS n E' l')(he:∀s,s<n->E s=E' s):l=l':=by
 apply List.ext_getElem
 ·rw[h.len,h'.len]
 ·intro k h1 h2
  have a1:=h.at_ k FI
  have a2:=h'.at_ k FI
  rw[getD_at h1]at a1
  rw[getD_at h2]at a2
  rw[a1,a2,he k FI]
theorem KS.step{n:Nat}(h:KS n E l)(hs:s<n){p:Int}(he:E' s=E s+p)(hne:∀j,j≠s->E' j=E j):KS n E' (l.set s (W64 (l.getD s 0+W64 p))):=by
 refine⟨by rw[List.length_set];exact h.len,λj hj=> ?_⟩
 by_cases e:s=j
 ·subst e
  rw[qh (by rw[h.len];exact hs),h.at_ s hs,ahw,he]
 ·rw[getD_set_ne e,h.at_ j hj,hne j (λg=>e g.symm)]
end
end Go.Proofs.YtgndjjdeopfdkaaGreat

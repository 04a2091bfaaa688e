import Derived.Test.YtgndjjdeopfdkaaGreatKLowerMakes8
/- texts MG QR of the proof of LowerMakesSaid -/
set_option maxHeartbeats 16000000
set_option maxRecDepth 20000
set_option linter.unusedVariables false
set_option linter.unusedSimpArgs false
namespace Go.Proofs.YtgndjjdeopfdkaaGreat
open Go.SX Go.RowKit
def yZ(n:ai)(tl:List Int)(o i:Int):Int:=
 if n.ak=3 then n.data.xs.getD (o*az tl+i).toNat 0
 else if n.ak=4 then
  (let y:=i/tl.getD 2 0%tl.getD 1 0-o/(tl.getD 2 0-n.ay.xs.getD 3 0+1)%(tl.getD 1 0-n.ay.xs.getD 2 0+1)
   let x:=i%tl.getD 2 0-o%(tl.getD 2 0-n.ay.xs.getD 3 0+1)
   if y<0\/n.ay.xs.getD 2 0<=y\/x<0\/n.ay.xs.getD 3 0<=x then 0
   else n.data.xs.getD (((o/(tl.getD 2 0-n.ay.xs.getD 3 0+1)/(tl.getD 1 0-n.ay.xs.getD 2 0+1)*n.ay.xs.getD 1 0+i/tl.getD 2 0/tl.getD 1 0)*n.ay.xs.getD 2 0+y)*n.ay.xs.getD 3 0+x).toNat 0)
 else if i/tl.getD 2 0/tl.getD 1 0≠o/(tl.getD 2 0/n.size)/(tl.getD 1 0/n.size)\/i/tl.getD 2 0%tl.getD 1 0/n.size≠o/(tl.getD 2 0/n.size)%(tl.getD 1 0/n.size)\/i%tl.getD 2 0/n.size≠o%(tl.getD 2 0/n.size)then 0 else 1
theorem XL{r:List Int}{x:Sp}{i:Nat}(h:x.2.toNat≠i):(wO r x).getD i 0=r.getD i 0:=by simp[wO,List.getD,List.getElem?_set_ne h]
theorem Bp:∀(T:List Sp) (r:List Int) (i:Nat),(∀x∈T,x.2.toNat≠i)->(T.foldl wO r).getD i 0=r.getD i 0
 |[],_,_,_=>rfl
 |x::T,r,i,h=>by
  rw[List.foldl_cons,Bp T _ i (λy hy=>h y (List.mem_cons_of_mem _ hy)),XL (h x List.mem_cons_self)]
theorem LH:∀(T:List Sp) (r:List Int) (i:Nat) (x:Sp),i<r.length->x∈T->x.2.toNat=i->(∀y∈T,y.2.toNat=i->y.1=x.1)->(T.foldl wO r).getD i 0=x.1
 |[],_,_,_,_,h,_,_=>by cases h
 |z::T,r,i,x,hl,hx,he,hu=>by
  rw[List.foldl_cons]
  by_cases hex:∃y∈T,y.2.toNat=i
  ·obtain⟨y,hy,hyi⟩:=hex
   have h1:=LH T (wO r z) i y (by rw[wO,List.length_set];exact hl) hy hyi (λu hu' hui=>(hu u (List.mem_cons_of_mem _ hu') hui).trans (hu y (List.mem_cons_of_mem _ hy) hyi).symm)
   rw[h1];exact hu y (List.mem_cons_of_mem _ hy) hyi
  ·rw[Bp T _ i (λy hy e=>hex ⟨y,hy,e⟩)]
   have hzx:x=z:=by
    rcases List.mem_cons.1 hx with g|g
    ·exact g
    ·exact absurd ⟨x,g,he⟩ hex
   subst hzx
   simp[wO,List.getD,he,hl]
theorem Oy(n i:Nat):(List.replicate n (0:Int)).getD i 0=0:=by
 simp only[List.getD,List.getElem?_replicate];split<;>rfl
theorem lT{i I1 I2:Int}(h0:0<=i)(h1:0<I1)(h2:0<I2):i=(i/I2/I1*I1+i/I2%I1)*I2+i%I2/\(0<=i%I2/\i%I2<I2)/\(0<=i/I2%I1/\i/I2%I1<I1)/\0<=i/I2/I1:=by
 have e1:=Int.mul_ediv_add_emod i I2
 have e2:=Int.mul_ediv_add_emod (i/I2) I1
 have g0:0<=i/I2:=Int.ediv_nonneg h0 aa
 refine⟨?_,⟨Int.emod_nonneg _ aa,Int.emod_lt_of_pos _ h2⟩,⟨Int.emod_nonneg _ aa,Int.emod_lt_of_pos _ h1⟩,Int.ediv_nonneg g0 aa⟩
 have e3:i/I2/I1*I1+i/I2%I1=i/I2:=by rw[Int.mul_comm];exact e2
 rw[e3,Int.mul_comm];exact e1.symm
theorem rP{a b c:Int}(hb:0<b)(h:a<c*b):a/b<c:=Int.ediv_lt_of_lt_mul hb h
theorem RS{d:List Int}{k1 k2 k3 i1 i2 o i:Int}{E:Nat}(hk2:1<=k2/\k2<=i1)(hk3:1<=k3/\k3<=i2)(hE:(E:Int)=k1*i1*i2)(hi:0<=i/\i<E)(ho:0<=o):
 ((pz d k1 k2 k3 i1 i2 o).foldl wO (List.replicate E 0)).getD i.toNat 0=
   (if i/i2%i1-o/(i2-k3+1)%(i1-k2+1)<0\/k2<=i/i2%i1-o/(i2-k3+1)%(i1-k2+1)\/i%i2-o%(i2-k3+1)<0\/k3<=i%i2-o%(i2-k3+1)then 0
    else d.getD (((o/(i2-k3+1)/(i1-k2+1)*k1+i/i2/i1)*k2+(i/i2%i1-o/(i2-k3+1)%(i1-k2+1)))*k3+(i%i2-o%(i2-k3+1))).toNat 0):=by
 have h1:0<i1:=by omega
 have h2:0<i2:=by omega
 obtain⟨ei,bx,by_,bc⟩:=lT hi.1 h1 h2
 obtain⟨eo,ox,oy,oc⟩:=lT (i:=o) (I1:=i1-k2+1) (I2:=i2-k3+1) ho aa aa
 obtain⟨c,hc⟩:∃c,i/i2/i1=c:=⟨_,rfl⟩
 obtain⟨fy,Wu⟩:∃c,i/i2%i1=c:=⟨_,rfl⟩
 obtain⟨fx,hfx⟩:∃c,i%i2=c:=⟨_,rfl⟩
 obtain⟨tc,htc⟩:∃c,o/(i2-k3+1)/(i1-k2+1)=c:=⟨_,rfl⟩
 obtain⟨ty,hty⟩:∃c,o/(i2-k3+1)%(i1-k2+1)=c:=⟨_,rfl⟩
 obtain⟨tx,htx⟩:∃c,o%(i2-k3+1)=c:=⟨_,rfl⟩
 rw[hc,Wu,hfx]at ei
 rw[Wu]at by_
 rw[hfx]at bx
 rw[hc]at bc
 rw[htc]at oc
 rw[hty]at oy
 rw[htx]at ox
 rw[hc,Wu,hfx,htc,hty,htx]
 have hck:c<k1:=by
  have h3:i/i2<k1*i1:=rP h2 (by rw[<-hE];exact hi.2)
  rw[<-hc];exact rP h1 h3
 have term:∀x∈pz d k1 k2 k3 i1 i2 o,x.2.toNat=i.toNat->∃p:Nat,x=gQ d k1 k2 k3 i1 i2 o p/\(p:Int)/k3/k2=c/\ty+(p:Int)/k3%k2=fy/\tx+(p:Int)%k3=fx:=by
  intro x hx hxi
  obtain⟨p,hp,rfl⟩:=List.mem_map.1 hx
  obtain⟨ep,px,py,pc⟩:=lT (i:=(p:Int)) (I1:=k2) (I2:=k3) aa aa aa
  refine⟨p,rfl,?_⟩
  have hpos:(gQ d k1 k2 k3 i1 i2 o p).2=(((p:Int)/k3/k2*i1+(ty+(p:Int)/k3%k2))*i2+(tx+(p:Int)%k3)):=by
   unfold gQ
   rw[hty,htx]
   simp only
   rw[<-Int.add_assoc,<-Int.add_assoc]
  have hnn:0<=(gQ d k1 k2 k3 i1 i2 o p).2:=by
   rw[hpos]
   have:=Int.mul_nonneg (show 0<=(p:Int)/k3/k2*i1+(ty+(p:Int)/k3%k2) by have:=Int.mul_nonneg pc (show 0<=i1 by omega);omega) (show 0<=i2 by omega)
   omega
  have he:i=(((p:Int)/k3/k2*i1+(ty+(p:Int)/k3%k2))*i2+(tx+(p:Int)%k3)):=by rw[<-hpos];omega
  have:=abo he ⟨by omega,by omega⟩ ⟨by omega,by omega⟩
  rw[hc,Wu,hfx]at this
  exact⟨this.1.symm,this.2.1.symm,this.2.2.symm⟩
 split
 ·rename_i hbad
  rw[Bp,Oy]
  intro x hx hxi
  obtain⟨p,rfl,g1,g2,g3⟩:=term x hx hxi
  obtain⟨ep,px,py,pc⟩:=lT (i:=(p:Int)) (I1:=k2) (I2:=k3) aa aa aa
  omega
 ·rename_i hgood
  obtain⟨y,hy⟩:∃y,fy-ty=y:=⟨_,rfl⟩
  obtain⟨x,hx⟩:∃x,fx-tx=x:=⟨_,rfl⟩
  rw[hy,hx]at hgood|-
  have hcy:0<=c*k2+y:=by have:=Int.mul_nonneg bc (show 0<=k2 by omega);omega
  have hp0:0<=(c*k2+y)*k3+x:=by have:=Int.mul_nonneg hcy (show 0<=k3 by omega);omega
  obtain⟨p,hp⟩:=Int.eq_ofNat_of_zero_le hp0
  have hp3:=abo (o:=(p:Int)) (c:=c) (y:=y) (x:=x) (H:=k2) (W:=k3) hp.symm ⟨by omega,by omega⟩ ⟨by omega,by omega⟩
  have hlt:(p:Int)<k1*k2*k3:=by
   rw[<-hp]
   have a1:(c+1)*k2<=k1*k2:=Int.mul_le_mul_of_nonneg_right aa aa
   rw[Int.add_mul,Int.one_mul]at a1
   have a2:(c*k2+y+1)*k3<=k1*k2*k3:=Int.mul_le_mul_of_nonneg_right aa aa
   rw[Int.add_mul,Int.one_mul]at a2
   omega
  have hmem:gQ d k1 k2 k3 i1 i2 o p∈pz d k1 k2 k3 i1 i2 o:=List.mem_map.2 ⟨p,List.mem_range.2 aa,rfl⟩
  have hval:∀q:Nat,(q:Int)/k3/k2=c->ty+(q:Int)/k3%k2=fy->tx+(q:Int)%k3=fx->(gQ d k1 k2 k3 i1 i2 o q).1=d.getD (((tc*k1+c)*k2+y)*k3+x).toNat 0/\(gQ d k1 k2 k3 i1 i2 o q).2=i:=by
   intro q g1 g2 g3
   obtain⟨eq,qx,qy,qc⟩:=lT (i:=(q:Int)) (I1:=k2) (I2:=k3) aa aa aa
   rw[g1]at eq
   have e1:(q:Int)/k3%k2=y:=by omega
   have e2:(q:Int)%k3=x:=by omega
   rw[e1,e2]at eq
   unfold gQ
   rw[htc,hty,htx,g1,e1,e2]
   constructor
   ·simp only
    congr 2
    rw[eq];grind
   ·simp only
    rw[ei,<-hy]at*
    have:fx=tx+x:=by omega
    grind
  have hpv:=hval p hp3.1 (by rw[hp3.2.1];omega) (by rw[hp3.2.2];omega)
  rw[LH _ _ _ (gQ d k1 k2 k3 i1 i2 o p) Oz hmem (by rw[hpv.2]) (λu hu hui=> ?_)]
  ·exact hpv.1
  ·obtain⟨q,rfl,g1,g2,g3⟩:=term u hu hui
   rw[(hval q g1 g2 g3).1,hpv.1]
theorem zF{a b z:Int}(hz:0<z)(hb:0<=b/\b<z):(a*z+b)/z=a/\(a*z+b)%z=b:=mul_add_div hb
theorem S_{z i1 i2 o i:Int}{E:Nat}(hz:1<=z)(h1:z<=i1)(h2:z<=i2)(m1:i1%z=0)(m2:i2%z=0)(hi:0<=i/\i<E)(ho:0<=o):
 ((pW z i1 i2 o).foldl wO (List.replicate E 0)).getD i.toNat 0=
   (if i/i2/i1≠o/(i2/z)/(i1/z)\/i/i2%i1/z≠o/(i2/z)%(i1/z)\/i%i2/z≠o%(i2/z)then 0 else 1):=by
 have q1:=Int.mul_ediv_add_emod i1 z
 have q2:=Int.mul_ediv_add_emod i2 z
 obtain⟨H,hH⟩:∃H,i1/z=H:=⟨_,rfl⟩
 obtain⟨W,hW⟩:∃W,i2/z=W:=⟨_,rfl⟩
 rw[hH]at q1|-
 rw[hW]at q2|-
 have e1:i1=H*z:=by rw[Int.mul_comm];omega
 have e2:i2=W*z:=by rw[Int.mul_comm];omega
 have hH1:0<H:=by rw[<-hH];exact Int.ediv_pos_of_pos_of_dvd aa aa (Int.dvd_of_emod_eq_zero m1)
 have hW1:0<W:=by rw[<-hW];exact Int.ediv_pos_of_pos_of_dvd aa aa (Int.dvd_of_emod_eq_zero m2)
 obtain⟨ei,bx,by_,bc⟩:=lT (i:=i) (I1:=i1) (I2:=i2) hi.1 aa aa
 obtain⟨eo,ox,oy,oc⟩:=lT (i:=o) (I1:=H) (I2:=W) ho hH1 hW1
 obtain⟨c,hc⟩:∃c,i/i2/i1=c:=⟨_,rfl⟩
 obtain⟨fy,Wu⟩:∃c,i/i2%i1=c:=⟨_,rfl⟩
 obtain⟨fx,hfx⟩:∃c,i%i2=c:=⟨_,rfl⟩
 obtain⟨tc,htc⟩:∃c,o/W/H=c:=⟨_,rfl⟩
 obtain⟨ty,hty⟩:∃c,o/W%H=c:=⟨_,rfl⟩
 obtain⟨tx,htx⟩:∃c,o%W=c:=⟨_,rfl⟩
 rw[hc,Wu,hfx]at ei
 rw[Wu]at by_
 rw[hfx]at bx
 rw[hc]at bc
 rw[htc]at oc
 rw[hty]at oy
 rw[htx]at ox
 rw[hc,Wu,hfx,htc,hty,htx]
 have hty':ty*z+z<=i1:=by
  have:=Int.mul_le_mul_of_nonneg_right (show ty+1<=H by omega) (show 0<=z by omega)
  rw[Int.add_mul,Int.one_mul,<-e1]at this;exact this
 have apH:tx*z+z<=i2:=by
  have:=Int.mul_le_mul_of_nonneg_right (show tx+1<=W by omega) (show 0<=z by omega)
  rw[Int.add_mul,Int.one_mul,<-e2]at this;exact this
 have apd:0<=ty*z:=Int.mul_nonneg oy.1 aa
 have aph:0<=tx*z:=Int.mul_nonneg ox.1 aa
 have term:∀x∈pW z i1 i2 o,x.1=1/\(x.2.toNat=i.toNat->tc=c/\fy/z=ty/\fx/z=tx):=by
  intro x hx
  obtain⟨p,hp,rfl⟩:=List.mem_map.1 hx
  refine⟨rfl,λhxi=> ?_⟩
  have hpz:(p:Int)<z*z:=by have:=List.mem_range.1 hp;omega
  have py:0<=(p:Int)/z/\(p:Int)/z<z:=⟨Int.ediv_nonneg aa aa,rP aa hpz⟩
  have px:0<=(p:Int)%z/\(p:Int)%z<z:=⟨Int.emod_nonneg _ aa,Int.emod_lt_of_pos _ aa⟩
  have hpos:(iH z i1 i2 o p).2=((tc*i1+(ty*z+(p:Int)/z))*i2+(tx*z+(p:Int)%z)):=by
   unfold iH
   rw[hH,hW,htc,hty,htx]
   simp only
   rw[<-Int.add_assoc,<-Int.add_assoc]
  have hnn:0<=(iH z i1 i2 o p).2:=by
   rw[hpos]
   have:=Int.mul_nonneg (show 0<=tc*i1+(ty*z+(p:Int)/z) by have:=Int.mul_nonneg oc (show 0<=i1 by omega);omega) (show 0<=i2 by omega)
   omega
  have he:i=((tc*i1+(ty*z+(p:Int)/z))*i2+(tx*z+(p:Int)%z)):=by rw[<-hpos];omega
  have:=abo he ⟨by omega,by omega⟩ ⟨by omega,by omega⟩
  rw[hc,Wu,hfx]at this
  exact⟨this.1.symm,by rw[this.2.1];exact(zF aa py).1,by rw[this.2.2];exact(zF aa px).1⟩
 split
 ·rename_i hbad
  rw[Bp,Oy]
  intro x hx hxi
  have:=(term x hx).2 hxi
  omega
 ·rename_i hgood
  have g1:c=tc:=by omega
  have g2:fy/z=ty:=by omega
  have g3:fx/z=tx:=by omega
  have r1:=Int.mul_ediv_add_emod fy z
  have r2:=Int.mul_ediv_add_emod fx z
  rw[g2]at r1
  rw[g3]at r2
  have ry:0<=fy%z/\fy%z<z:=⟨Int.emod_nonneg _ aa,Int.emod_lt_of_pos _ aa⟩
  have rx:0<=fx%z/\fx%z<z:=⟨Int.emod_nonneg _ aa,Int.emod_lt_of_pos _ aa⟩
  have hp0:0<=fy%z*z+fx%z:=by have:=Int.mul_nonneg ry.1 (show 0<=z by omega);omega
  obtain⟨p,hp⟩:=Int.eq_ofNat_of_zero_le hp0
  have hpd:=zF (a:=fy%z) (b:=fx%z) (z:=z) aa rx
  rw[hp]at hpd
  have hlt:(p:Int)<z*z:=by
   rw[<-hp]
   have:=Int.mul_le_mul_of_nonneg_right (show fy%z+1<=z by omega) (show 0<=z by omega)
   rw[Int.add_mul,Int.one_mul]at this
   omega
  have hmem:iH z i1 i2 o p∈pW z i1 i2 o:=List.mem_map.2 ⟨p,List.mem_range.2 aa,rfl⟩
  have hval:(iH z i1 i2 o p).2=i:=by
   unfold iH
   rw[hH,hW,htc,hty,htx]
   simp only
   have hd1:(p:Int)/z=fy%z:=hpd.1
   have hd2:(p:Int)%z=fx%z:=hpd.2
   rw[hd1,hd2,ei,g1]
   have e3:fy=ty*z+fy%z:=by rw[Int.mul_comm];omega
   have e4:fx=tx*z+fx%z:=by rw[Int.mul_comm];omega
   obtain⟨a,ha⟩:∃a,fy%z=a:=⟨_,rfl⟩
   obtain⟨b,hb⟩:∃b,fx%z=b:=⟨_,rfl⟩
   rw[ha]at e3|-
   rw[hb]at e4|-
   rw[e3,e4];grind
  rw[LH _ _ _ (iH z i1 i2 o p) Oz hmem (by rw[hval]) (λu hu _=>((term u hu).1).trans (term _ hmem).1.symm)]
  exact(term _ hmem).1
theorem X8{n:ai}{sh:List (List Int)}{s t:List Int}{cnt:Nat}(h:fu n sh s t cnt)(hl:dX n){o i:Nat}(hi:(i:Int)<az t):(iI n t o).getD i 0=yZ n t o i:=by
 have hb:=dQ t
 unfold iI yZ
 by_cases h3:n.ak=3
 ·rw[if_pos h3,if_pos h3]
  have e:((o:Int)*az t+(i:Int)).toNat=o*(az t).toNat+i:=by
   have:az t=((az t).toNat:Int):=by omega
   rw[this]
   have e2:(o:Int)*((az t).toNat:Int)+(i:Int)=((o*(az t).toNat+i:Nat):Int):=by simp
   rw[Int.toNat_natCast,e2,Int.toNat_natCast]
  rw[e]
  simp only[List.getD,List.getElem?_take,List.getElem?_drop]
  rw[if_pos aa]
 ·rw[if_neg h3,if_neg h3]
  by_cases h4:n.ak=4
  ·have hk:n.ak=3\/n.ak=4\/n.ak=5:= .inr (.inl h4)
   have hci:=Ib h h4
   obtain⟨hf,hg⟩:=h.first hk
   have D6:=(dM h.node.form).X3 h4
   have hsh:=h.node.ay
   unfold bR at hsh
   rw[if_neg aa,if_neg aa,if_pos h4,hf]at hsh
   split at hsh
   ·cases hsh
   ·rename_i hbad
    have h3l:t.length=3:=by omega
    have ht0:t.getD 0 0=n.ay.xs.getD 1 0:=by omega
    have hE:az t=n.ay.xs.getD 1 0*t.getD 1 0*t.getD 2 0:=by
     rw[<-ht0]
     match t,h3l,hg with
     |[a,b,c],_,hg=>
      have h0:az [a,b,c]=fF 1 [a,b,c]:=by unfold az;rfl
      rw[h0]at hg|-
      simp only[fF]at hg|-
      split at hg
      ·omega
      split at hg
      ·omega
      split at hg
      ·omega
      rename_i g1 g2 g3
      rw[if_neg g1,if_neg g2,if_neg g3]
      show 1*a*b*c=a*b*c
      rw[Int.one_mul]
    have hrow:=RS (d:=n.data.xs) (k1:=n.ay.xs.getD 1 0) (o:=(o:Int)) (i:=(i:Int)) (E:=(az t).toNat) hci.k2 hci.k3 (by rw[<-hE];omega) ⟨by omega,by omega⟩ aa
    have hT:bS n t o=pz n.data.xs (n.ay.xs.getD 1 0) (n.ay.xs.getD 2 0) (n.ay.xs.getD 3 0) (t.getD 1 0) (t.getD 2 0) o:=by unfold bS;rw[if_neg h3,if_pos h4]
    rw[hT,if_pos h4]
    rw[Int.toNat_natCast]at hrow
    exact hrow
  ·have h5:n.ak=5:=by rcases hl with g|g|g<;>first|exact absurd g h3|exact absurd g h4|exact g
   have hpi:=Im h h5
   have hrow:=S_ (z:=n.size) (i1:=t.getD 1 0) (i2:=t.getD 2 0) (o:=(o:Int)) (i:=(i:Int)) (E:=(az t).toNat) hpi.z hpi.z1 hpi.z2 hpi.m1 hpi.m2 ⟨by omega,by omega⟩ aa
   have hT:bS n t o=pW n.size (t.getD 1 0) (t.getD 2 0) o:=by unfold bS;rw[if_neg h3,if_neg h4]
   rw[hT,if_neg h4]
   rw[Int.toNat_natCast]at hrow
   exact hrow
section
abbrev aiy:DT:=(eY [0,1,2,3,4,5,6,7,8,9,10,11,12,13,14] (.alt 15 (eY [116,117] .done) (eY [116,115,117] .done)))
variable {x y q:Int} {K:Int->Prop}
theorem ug(e:x/y=q)(h0:0<=x)(h1:x<=9223372036854775807)(hy:0<y)(h:K q):wK .i64 x y K:=div_pos rfl h0 h1 hy YH
theorem Ig(h0:0<=x)(hy:y≠0)(e:x%y=q)(h:K q):CQ x y K:=Ih h0 hy YH
def Hz(c y x:Int):Value:= .agg #[.int .i64 c,.int .i64 y,.int .i64 x]
theorem Bu(w:World)(at_ high wide:Int)(h0:0<=at_/\at_<=10000)(hh:1<=high/\high<=64)(hw:1<=wide/\wide<=64):Calls Tryz.prog 150 #[.int .i64 at_,.int .i64 high,.int .i64 wide] w λe w'=>e= .returned (Hz (at_/wide/high) (at_/wide%high) (at_%wide))/\Ext w w':=by
 obtain⟨d1,d2,d3,d4⟩:=jG h0.1 (show 0<wide by omega)
 refine fH Tryz.func150 [ax at_,ax high,ax wide] ?_
 repeat' ((conv=>whnf)<;>first|(show wK ..;(first|refine ug (x:=at_) rfl aa aa aa ?_|refine ug (x:=at_/wide) rfl aa aa aa ?_))|(show CQ ..;(first|refine Ig (x:=at_) aa aa rfl ?_|refine Ig (x:=at_/wide) aa aa rfl ?_))|(show b_ _ 1 ..;refine lu [14] _ aia ?_)|refine aX ?_)
 all_goals(conv=>whnf)
 exact cz (λ_ _ h=>h) (λ_=>rfl) rfl
def nL(n:ai)(t:au):Value:= .agg #[.int .i64 n.ak,.int .i64 n.a,.int .i64 n.b,n.ay.val,.int .i64 n.lo,.int .i64 n.hi,.int .i64 n.size,n.data.val,n.aM.val,t.val]
theorem qJ{a:Addr}{j:Nat}{S:bN}{xs:List Int}{v:Int}{K:SV->Prop}(hx:∀R w,S.holds R w->bu w (some a) 1 (aN xs))(hj:j<xs.length)(e:xs.getD j 0=v)(h:K (ax v)):fT (a.add (j*1)) S K:=by
 subst e;exact bY hx hj h
theorem aaf(w:World)(n:ai)(t:au)(hs:n.ay.ok w)(hd:n.data.ok w)(ht:t.ok w)(hsl:n.ay.xs.length=4)(htl:t.xs.length=3){k1 k2 k3 i1 i2:Int}(e1:n.ay.xs.getD 1 0=k1)(e2:n.ay.xs.getD 2 0=k2)(e3:n.ay.xs.getD 3 0=k3)(f1:t.xs.getD 1 0=i1)(f2:t.xs.getD 2 0=i2)(b2:(1<=k2/\k2<=i1)/\i1<=64)(b3:(1<=k3/\k3<=i2)/\i2<=64)
 {o c fy fx tc ty tx:Int} (ho:0<=o/\o<=10000) (hc:0<=c/\c<=10000) (Wu:0<=fy/\fy<=10000) (hfx:0<=fx/\fx<=10000) (g1:o/(i2-k3+1)/(i1-k2+1)=tc) (g2:o/(i2-k3+1)%(i1-k2+1)=ty) (g3:o%(i2-k3+1)=tx) {z:Int}
 (hz:(fy-ty<0\/k2<=fy-ty\/fx-tx<0\/k3<=fx-tx)/\z=0\/¬(fy-ty<0\/k2<=fy-ty\/fx-tx<0\/k3<=fx-tx)/\(0<=tc*k1/\tc*k1<=1000000)/\(0<=(tc*k1+c)*k2/\(tc*k1+c)*k2<=1000000)/\(0<=((tc*k1+c)*k2+(fy-ty))*k3/\((tc*k1+c)*k2+(fy-ty))*k3<=1000000)/\∃q:Nat,((tc*k1+c)*k2+(fy-ty))*k3+(fx-tx)=q/\q<n.data.xs.length/\n.data.xs.getD q 0=z):
 Calls Tryz.prog 149 #[nL n t,.int .i64 o,Hz c fy fx] w λe w'=>e= .returned (.int .i64 z)/\Ext w w':=by
 obtain⟨sa,hsa⟩:=hs.base aa
 obtain⟨ta,Iw⟩:=ht.base aa
 have P6:∀(R:Nat->Prop) w',(aO w).holds R w'->bu w' (some sa) 1 (aN n.ay.xs):=λR w' h=>by rw[<-hsa];exact aA h hs.rows
 have htr:∀(R:Nat->Prop) w',(aO w).holds R w'->bu w' (some ta) 1 (aN t.xs):=λR w' h=>by rw[<-Iw];exact aA h ht.rows
 have hsp:∀(w':World),Calls Tryz.prog 150 #[.int .i64 o,.int .i64 (i1-k2+1),.int .i64 (i2-k3+1)] w' λe w2=>e= .returned (Hz tc ty tx)/\Ext w' w2:=λw'=>by
  have:=Bu w' o (i1-k2+1) (i2-k3+1) ho aa aa
  rw[g1,g2,g3]at this;exact this
 obtain⟨d1,d2,d3,d4⟩:=jG ho.1 (show 0<i2-k3+1 by omega)
 obtain⟨d5,d6,d7,d8⟩:=jG d1 (show 0<i1-k2+1 by omega)
 rw[g1]at d5 d6
 rw[g2]at d7 d8
 rw[g3]at d3 d4
 rcases hz with⟨hbad,rfl⟩|⟨hgood,hA,hB,hC,q,hq,hql,rfl⟩
 ·refine fH Tryz.func149 [.agg [ax n.ak,ax n.a,ax n.b,.c n.ay.val,ax n.lo,ax n.hi,ax n.size,.c n.data.val,.c n.aM.val,.c t.val],ax o,.agg [ax c,ax fy,ax fx]] ?_
  repeat' ((conv=>whnf)<;>first|(show bV ..;(first|refine aH sa 2 hsa rfl aa ?_|refine aH sa 3 hsa rfl aa ?_|refine aH sa 1 hsa rfl aa ?_|refine aH ta 1 Iw rfl aa ?_|refine aH ta 2 Iw rfl aa ?_))|(show fT ..;(first|refine qJ P6 (j:=2) aa e2 ?_|refine qJ P6 (j:=3) aa e3 ?_|refine qJ P6 (j:=1) aa e1 ?_|refine qJ htr (j:=1) aa f1 ?_|refine qJ htr (j:=2) aa f2 ?_))|(show @eZ _ _ _;(first|refine cu aa ?_|refine dA aa ?_|(refine ag ?_ ?_<;>intro _)))|(show aI _ 150 ..;refine aQ (f:=150) Tryz.call150 (Hz tc ty tx) (λρ w' hw=>hsp w') ?_)|(show b_ _ 2 ..;refine lu [17] _ aiy ?_)|refine bn ?_|refine And.intro ?_ ?_)
  all_goals(conv=>whnf)
  all_goals first|(exfalso;omega)|exact cz (λ_ _ h=>h) (λ_=>rfl) rfl
 ·obtain⟨da,hda⟩:=hd.base aa
  have hdr:∀(R:Nat->Prop) w',(aO w).holds R w'->bu w' (some da) 1 (aN n.data.xs):=λR w' h=>by rw[<-hda];exact aA h hd.rows
  refine fH Tryz.func149 [.agg [ax n.ak,ax n.a,ax n.b,.c n.ay.val,ax n.lo,ax n.hi,ax n.size,.c n.data.val,.c n.aM.val,.c t.val],ax o,.agg [ax c,ax fy,ax fx]] ?_
  repeat' ((conv=>whnf)<;>first|(show bV ..;(first|refine aH sa 2 hsa rfl aa ?_|refine aH sa 3 hsa rfl aa ?_|refine aH sa 1 hsa rfl aa ?_|refine aH ta 1 Iw rfl aa ?_|refine aH ta 2 Iw rfl aa ?_|refine aH da q hda hq hql ?_))|(show fT ..;(first|refine qJ P6 (j:=2) aa e2 ?_|refine qJ P6 (j:=3) aa e3 ?_|refine qJ P6 (j:=1) aa e1 ?_|refine qJ htr (j:=1) aa f1 ?_|refine qJ htr (j:=2) aa f2 ?_|refine bY hdr (j:=q) hql ?_))|(show aI _ 150 ..;refine aQ (f:=150) Tryz.call150 (Hz tc ty tx) (λρ w' hw=>hsp w') ?_)|(show b_ _ 2 ..;refine lu [17] _ aiy ?_)|refine bn ?_|refine ag ?_ ?_<;>intro _|refine And.intro ?_ ?_)
  all_goals(conv=>whnf)
  all_goals exact cz (λ_ _ h=>h) (λ_=>rfl) rfl
end
structure aeR(n:ai)(t:List Int)(cnt:Nat)(k0 k1 k2 k3 i1 i2:Int):Prop where
 ak:n.ak=4
 s4:n.ay.xs.length=4
 t3:t.length=3
 e0:n.ay.xs.getD 0 0=k0
 e1:n.ay.xs.getD 1 0=k1
 e2:n.ay.xs.getD 2 0=k2
 e3:n.ay.xs.getD 3 0=k3
 f0:t.getD 0 0=k1
 f1:t.getD 1 0=i1
 f2:t.getD 2 0=i2
 b0:1<=k0/\k0<=64
 b1:1<=k1/\k1<=64
 b2:1<=k2/\k2<=i1
 b3:1<=k3/\k3<=i2
 bi1:i1<=64
 bi2:i2<=64
 data:(n.data.xs.length:Int)=k0*k1*k2*k3
 aM:(n.aM.xs.length:Int)=k0
 cnt:(cnt:Int)=k0*(i1-k2+1)*(i2-k3+1)
 size:az t=k1*i1*i2
structure aiu(n:ai)(t:List Int)(cnt:Nat)(i0 i1 i2:Int):Prop where
 ak:n.ak=5
 t3:t.length=3
 f0:t.getD 0 0=i0
 f1:t.getD 1 0=i1
 f2:t.getD 2 0=i2
 b0:1<=i0/\i0<=64
 z:1<=n.size
 z1:n.size<=i1
 z2:n.size<=i2
 b1:i1<=64
 b2:i2<=64
 m1:i1%n.size=0
 m2:i2%n.size=0
 cnt:(cnt:Int)=i0*(i1/n.size)*(i2/n.size)
 size:az t=i0*i1*i2
theorem Pm{n:ai}{sh:List (List Int)}{s t:List Int}{cnt:Nat}(h:fu n sh s t cnt)(hl:dX n):
 (n.ak=3/\∃size:Nat,az t=size/\n.data.xs.length=cnt*size/\n.aM.xs.length=cnt)\/(∃k0 k1 k2 k3 i1 i2,aeR n t cnt k0 k1 k2 k3 i1 i2)\/∃i0 i1 i2,aiu n t cnt i0 i1 i2:=by
 have hsh:=h.node.ay
 have hfo:=dM h.node.form
 have h4:=af1 h.node.form
 have heb:=(dQ t).2
 have hc:=h.cnt
 have oz:=h.few
 have hgs:=h.pos
 obtain⟨ht,hg⟩:=h.first hl
 obtain⟨size,hsz⟩:∃size:Nat,az t=size:=⟨(az t).toNat,by omega⟩
 rcases hl with hk|hk|hk
 ·refine .inl ⟨hk,size,hsz,?_⟩
  unfold bR at hsh
  rw[if_neg aa,if_pos hk,ht]at hsh
  by_cases hdl:(n.data.xs.length:Int)=n.aM.xs.length*az t
  ·rw[if_pos hdl,Option.some.injEq]at hsh
   obtain⟨b1,b2⟩:=hfo.aM hk
   have he1:az [(n.aM.xs.length:Int)]=n.aM.xs.length:=by
    unfold az
    rw[if_neg fP]
    simp only[fF]
    rw[if_neg aa]
    omega
   rw[<-hsh,he1]at hc
   have hbl:n.aM.xs.length=cnt:=by omega
   have RD:n.data.xs.length=n.aM.xs.length*size:=by
    rw[hsz,<-Int.natCast_mul]at hdl
    exact Int.ofNat.inj hdl
   rw[hbl]at RD
   exact⟨RD,hbl⟩
  ·rw[if_neg hdl]at hsh;cases hsh
 ·obtain⟨g1,g2⟩:=h4 hk
  have D6:=hfo.X3 hk
  obtain⟨hl4,UW⟩:=pG D6
  have hsx:=adB hl4
  have hC:=Ib h hk
  unfold bR at hsh
  rw[if_neg aa,if_neg aa,if_pos hk,ht]at hsh
  have dm:∀k,k<4->1<=n.ay.xs.getD k 0/\n.ay.xs.getD k 0<=64:=λk hk=>UW _ (dz aa)
  have dm0:=dm 0 aY
  have dm1:=dm 1 aY
  rw[hsx]at g1 D6
  have hke:=JC D6
  rw[hke]at g1
  by_cases hbad:t.length≠3\/t.getD 0 0≠n.ay.xs.getD 1 0\/t.getD 1 0<n.ay.xs.getD 2 0\/t.getD 2 0<n.ay.xs.getD 3 0
  ·rw[if_pos hbad]at hsh;cases hsh
  rw[if_neg hbad]at hsh
  have hl3:t.length=3:=by omega
  have htx:=Xi hl3
  have h0:t.getD 0 0=n.ay.xs.getD 1 0:=by omega
  have KM:=(gM hg).2.2
  have td1:=KM _ (dz (xs:=t) (k:=1) aa)
  have td2:=KM _ (dz (xs:=t) (k:=2) aa)
  have hE:az t=n.ay.xs.getD 1 0*t.getD 1 0*t.getD 2 0:=by
   have:=iM ach
   rw[<-htx,h0]at this
   exact this
  by_cases hpos:0<az [n.ay.xs.getD 0 0,t.getD 1 0-n.ay.xs.getD 2 0+1,t.getD 2 0-n.ay.xs.getD 3 0+1]
  ·rw[if_pos hpos,Option.some.injEq]at hsh
   have hcv:=iM hpos
   rw[hsh,hc]at hcv
   exact .inr (.inl ⟨_,_,_,_,_,_,⟨hk,hl4,hl3,rfl,rfl,rfl,rfl,h0,rfl,rfl,dm0,dm1,hC.k2,hC.k3,td1.2,td2.2,g1,g2,hcv,hE⟩⟩)
  ·rw[if_neg hpos]at hsh;cases hsh
 ·have hP:=Im h hk
  unfold bR at hsh
  rw[if_neg aa,if_neg aa,if_neg aa,if_pos hk,ht]at hsh
  by_cases hbad:t.length≠3\/t.getD 1 0%n.size≠0\/t.getD 2 0%n.size≠0
  ·rw[if_pos hbad]at hsh;cases hsh
  rw[if_neg hbad,Option.some.injEq]at hsh
  have hl3:t.length=3:=by omega
  have htx:=Xi hl3
  have KM:=(gM hg).2.2
  have td0:=KM _ (dz (xs:=t) (k:=0) aa)
  have td1:=KM _ (dz (xs:=t) (k:=1) aa)
  have td2:=KM _ (dz (xs:=t) (k:=2) aa)
  have hpos:0<az [t.getD 0 0,t.getD 1 0/n.size,t.getD 2 0/n.size]:=by
   have:=jF hfo hgs h.node.ay rfl
   rw[hsh];exact this
  have hcv:=iM hpos
  rw[hsh,hc]at hcv
  have hE:az t=t.getD 0 0*t.getD 1 0*t.getD 2 0:=by
   have:=iM ach
   rw[<-htx]at this
   exact this
  exact .inr (.inr ⟨_,_,_,⟨hk,hl3,rfl,rfl,rfl,td0,hP.z,hP.z1,hP.z2,td1.2,td2.2,hP.m1,hP.m2,hcv,hE⟩⟩)
def Rn(o i:Int):Int:=if o=i then 1 else 0
theorem RJ(w:World)(n:ai)(t:au)(hk:n.ak=9)(o i:Int):Calls Tryz.prog 124 #[nL n t,.int .i64 o,.int .i64 i] w λe w'=>e= .returned (.int .i64 (Rn o i))/\Ext w w':=by
 by_cases h:o=i
 ·refine fH Tryz.func124 [.agg [ax n.ak,ax n.a,ax n.b,.c n.ay.val,ax n.lo,ax n.hi,ax n.size,.c n.data.val,.c n.aM.val,.c t.val],ax o,ax i] ?_
  repeat' ((conv=>whnf)<;>first|refine bn ?_|refine ag ?_ ?_<;>intro _)
  all_goals(conv=>whnf)
  all_goals exact cz (λ_ _ h=>h) (λ_=>by rw[Rn,if_pos h];rfl) rfl
 ·refine fH Tryz.func124 [.agg [ax n.ak,ax n.a,ax n.b,.c n.ay.val,ax n.lo,ax n.hi,ax n.size,.c n.data.val,.c n.aM.val,.c t.val],ax o,ax i] ?_
  repeat' ((conv=>whnf)<;>first|refine bn ?_|refine ag ?_ ?_<;>intro _)
  all_goals(conv=>whnf)
  all_goals exact cz (λ_ _ h=>h) (λ_=>by rw[Rn,if_neg h];rfl) rfl
theorem UY(w:World)(n:ai)(t:au)(hd:n.data.ok w)(hk:n.ak=3)(size cnt:Nat)(hsz:az t.xs=size)(hdl:n.data.xs.length=cnt*size)(hbl:n.aM.xs.length=cnt)(U1:cnt<=64)(aa6:size<=64)(o i:Nat)(ho:o<cnt)(hi:i<size):Calls Tryz.prog 124 #[nL n t,.int .i64 o,.int .i64 i] w λe w'=>e= .returned (.int .i64 (yZ n t.xs o i))/\Ext w w':=by
 have hq:o*size+i<cnt*size:=by
  have:(o+1)*size<=cnt*size:=Nat.mul_le_mul_right _ ho
  rw[Nat.succ_mul]at this;omega
 have hos:o*size<=64*64:=Nat.mul_le_mul aa aa6
 have hcs:cnt*size<=64*64:=Nat.mul_le_mul U1 aa6
 have hdiv:((n.data.xs.length:Nat):Int)/((n.aM.xs.length:Nat):Int)=(size:Int):=by
  rw[hdl,hbl,<-Int.natCast_ediv,Nat.mul_div_cancel_left _ aa]
 have hW:yZ n t.xs o i=n.data.xs.getD (o*size+i) 0:=by
  rw[yZ,if_pos hk,hsz,show(o:Int)*(size:Int)+(i:Int)=((o*size+i:Nat):Int) by simp,Int.toNat_natCast]
 rw[hW]
 obtain⟨da,hda⟩:=hd.base aa
 have hdr:∀(R:Nat->Prop) w',(aO w).holds R w'->bu w' (some da) 1 (aN n.data.xs):=λR w' h=>by rw[<-hda];exact aA h hd.rows
 refine fH Tryz.func124 [.agg [ax n.ak,ax n.a,ax n.b,.c n.ay.val,ax n.lo,ax n.hi,ax n.size,.c n.data.val,.c n.aM.val,.c t.val],ax o,ax i] ?_
 repeat' ((conv=>whnf)<;>first|(show wK ..;refine ug hdiv aa aa aa ?_)|(show iL ..;(first|refine Ee ((o*size:Nat):Int) (Int.natCast_mul _ _).symm aa aa ?_|refine wrap_i64 aa aa ?_))|(show bV ..;refine aH da (o*size+i) hda aa aa ?_)|(show fT ..;refine bY hdr (j:=o*size+i) aa ?_)|refine bn ?_|refine ag ?_ ?_<;>intro _)
 all_goals(conv=>whnf)
 all_goals exact cz (λ_ _ h=>h) (λ_=>rfl) rfl
section
abbrev ak6:DT:=(eY [0,1,2,3,4,5,6,7,8,9,10,11,12,13,14,15,16,18,19,20,21,22,23,24,25,26] (.alt 17 (.alt 27 (.alt 28 (eY [129,130,131] .done) (eY [129,128,130,131] .done)) (.alt 28 (.alt 27 (eY [129,130,131] .done) (eY [129,127,130,131] .done)) (.one 29 (.alt 27 (eY [128,130,131] .done) (eY [128,127,130,131] .done))))) (.alt 28 (.alt 17 (.alt 27 (eY [129,130,131] .done) (eY [129,127,130,131] .done)) (eY [129,117,127,130,131] .done)) (.one 29 (.alt 17 (.alt 27 (eY [128,130,131] .done) (eY [128,127,130,131] .done)) (eY [128,117,127,130,131] .done))))))
variable {k0 k1 k2 k3 i1 i2:Int}
theorem ag6{n:ai}{t:au}{cnt:Nat}(h:aeR n t.xs cnt k0 k1 k2 k3 i1 i2)(oz:n.data.xs.length<=1000000){o i:Int}(ho:0<=o/\o<cnt)(hi:0<=i/\i<az t.xs){c fy fx tc ty tx:Int}
 (hc:i/i2/i1=c) (Wu:i/i2%i1=fy) (hfx:i%i2=fx) (htc:o/(i2-k3+1)/(i1-k2+1)=tc) (hty:o/(i2-k3+1)%(i1-k2+1)=ty) (htx:o%(i2-k3+1)=tx):
 (fy-ty<0\/k2<=fy-ty\/fx-tx<0\/k3<=fx-tx)/\yZ n t.xs o i=0\/¬(fy-ty<0\/k2<=fy-ty\/fx-tx<0\/k3<=fx-tx)/\(0<=tc*k1/\tc*k1<=1000000)/\(0<=(tc*k1+c)*k2/\(tc*k1+c)*k2<=1000000)/\(0<=((tc*k1+c)*k2+(fy-ty))*k3/\((tc*k1+c)*k2+(fy-ty))*k3<=1000000)/\∃q:Nat,((tc*k1+c)*k2+(fy-ty))*k3+(fx-tx)=q/\q<n.data.xs.length/\n.data.xs.getD q 0=yZ n t.xs o i:=by
 obtain⟨hk,s4,t3,e0,e1,e2,e3,f0,f1,f2,b0,b1,b2,b3,bi1,bi2,hd,hb,hcnt,hsz⟩:=h
 have hw:yZ n t.xs o i=if fy-ty<0\/k2<=fy-ty\/fx-tx<0\/k3<=fx-tx then 0 else n.data.xs.getD (((tc*k1+c)*k2+(fy-ty))*k3+(fx-tx)).toNat 0:=by
  unfold yZ
  rw[if_neg aa,if_pos hk,e1,e2,e3,f1,f2,hc,Wu,hfx,htc,hty,htx]
 rw[hw]
 by_cases hbad:fy-ty<0\/k2<=fy-ty\/fx-tx<0\/k3<=fx-tx
 ·exact .inl ⟨hbad,if_pos hbad⟩
 ·refine .inr ⟨hbad,?_⟩
  rw[if_neg hbad]
  obtain⟨_,ox,oy,oc⟩:=lT (i:=o) (I1:=i1-k2+1) (I2:=i2-k3+1) ho.1 aa aa
  obtain⟨_,ix,iy,ic⟩:=lT (i:=i) (I1:=i1) (I2:=i2) hi.1 aa aa
  rw[htc]at oc
  rw[hc]at ic
  have htk:tc<k0:=by
   rw[<-htc]
   refine rP aa (rP aa ?_)
   rw[<-hcnt];exact ho.2
  have hck:c<k1:=by
   rw[<-hc]
   refine rP aa (rP aa ?_)
   rw[<-hsz];exact hi.2
  have L1:=KO (o:=tc) (k1:=k1) (c:=c) (k0:=k0) ⟨oc,htk⟩ ⟨ic,hck⟩
  have p1:0<=tc*k1:=Int.mul_nonneg oc aa
  have L2:=KO (o:=tc*k1+c) (k1:=k2) (c:=fy-ty) (k0:=k0*k1) ⟨by omega,L1⟩ ⟨by omega,by omega⟩
  have p2:0<=(tc*k1+c)*k2:=Int.mul_nonneg aa aa
  have L3:=KO (o:=(tc*k1+c)*k2+(fy-ty)) (k1:=k3) (c:=fx-tx) (k0:=k0*k1*k2) ⟨by omega,L2⟩ ⟨by omega,by omega⟩
  have p3:0<=((tc*k1+c)*k2+(fy-ty))*k3:=Int.mul_nonneg aa aa
  have u1:tc*k1<=(tc*k1+c)*k2:=by
   have:=Int.mul_le_mul_of_nonneg_left (show 1<=k2 by omega) (show 0<=tc*k1+c by omega)
   rw[Int.mul_one]at this;omega
  have u2:(tc*k1+c)*k2<=((tc*k1+c)*k2+(fy-ty))*k3:=by
   have:=Int.mul_le_mul_of_nonneg_left (show 1<=k3 by omega) (show 0<=(tc*k1+c)*k2+(fy-ty) by omega)
   rw[Int.mul_one]at this;omega
  rw[<-hd]at L3
  obtain⟨q,hq⟩:=Int.eq_ofNat_of_zero_le (show 0<=((tc*k1+c)*k2+(fy-ty))*k3+(fx-tx) by omega)
  exact⟨⟨p1,by omega⟩,⟨p2,by omega⟩,⟨p3,by omega⟩,q,hq,by omega,by rw[hq];rfl⟩
theorem RO(w:World)(n:ai)(t:au)(hno:n.ok w)(ht:t.ok w)(cnt:Nat)(U1:cnt<=64)(h:aeR n t.xs cnt k0 k1 k2 k3 i1 i2)(o i:Nat)(ho:o<cnt)(hi:(i:Int)<az t.xs):Calls Tryz.prog 124 #[nL n t,.int .i64 o,.int .i64 i] w λe w'=>e= .returned (.int .i64 (yZ n t.xs o i))/\Ext w w':=by
 have hes:=(dQ t.xs).2
 obtain⟨ta,Iw⟩:=ht.base (by have:=h.t3;omega)
 have ht3:=h.t3
 have htr:∀(R:Nat->Prop) w',(aO w).holds R w'->bu w' (some ta) 1 (aN t.xs):=λR w' h=>by rw[<-Iw];exact aA h ht.rows
 have hk:=h.ak
 have g1:=h.b2
 have g2:=h.b3
 have g3:=h.bi1
 have g4:=h.bi2
 obtain⟨_,ix,iy,ic⟩:=lT (i:=(i:Int)) (I1:=i1) (I2:=i2) aa aa aa
 have d1:=Int.ediv_le_self (a:=(i:Int)) i2 aa
 have d2:=Int.ediv_le_self (a:=(i:Int)/i2) i1 (Int.ediv_nonneg aa aa)
 have hsp:∀(w':World),Calls Tryz.prog 150 #[.int .i64 i,.int .i64 i1,.int .i64 i2] w' λe w2=>e= .returned (Hz ((i:Int)/i2/i1) ((i:Int)/i2%i1) ((i:Int)%i2))/\Ext w' w2:=λw'=>Bu w' i i1 i2 aa aa aa
 have hcv:∀(w':World),n.ok w'->t.ok w'->Calls Tryz.prog 149 #[nL n t,.int .i64 o,Hz ((i:Int)/i2/i1) ((i:Int)/i2%i1) ((i:Int)%i2)] w' λe w2=>e= .returned (.int .i64 (yZ n t.xs o i))/\Ext w' w2:=λw' hn' ht'=>
  aaf w' n t hn'.ay hn'.data ht' h.s4 h.t3 h.e1 h.e2 h.e3 h.f1 h.f2 ⟨g1,g3⟩ ⟨g2,g4⟩ aa aa aa aa rfl rfl rfl (ag6 h hno.data.few aa aa rfl rfl rfl rfl rfl rfl)
 refine fH Tryz.func124 [.agg [ax n.ak,ax n.a,ax n.b,.c n.ay.val,ax n.lo,ax n.hi,ax n.size,.c n.data.val,.c n.aM.val,.c t.val],ax o,ax i] ?_
 repeat' ((conv=>whnf)<;>first|(show bV ..;(first|refine aH ta 1 Iw rfl aa ?_|refine aH ta 2 Iw rfl aa ?_))|(show fT ..;(first|refine qJ htr (j:=1) aa h.f1 ?_|refine qJ htr (j:=2) aa h.f2 ?_))|(show kE _ 150 ..;refine iU (f:=150) Tryz.call150 (Hz ((i:Int)/i2/i1) ((i:Int)/i2%i1) ((i:Int)%i2)) (λρ w' hw=>hsp w') ?_)|(show kE _ 149 ..;refine iU (f:=149) Tryz.call149 (.int .i64 (yZ n t.xs o i)) (λρ w' hw=>hcv w' (ae hw λR h=>hno.later h) (ae hw λR h=>ht.later h)) ?_)|refine bn ?_|refine ag ?_ ?_<;>intro _)
 all_goals(conv=>whnf)
 all_goals exact cz (λ_ _ h=>h) (λ_=>rfl) rfl
theorem SN(w:World)(n:ai)(t:au)(ht:t.ok w)(cnt:Nat)(U1:cnt<=64){i0:Int}(h:aiu n t.xs cnt i0 i1 i2)(o i:Nat)(ho:o<cnt)(hi:(i:Int)<az t.xs):Calls Tryz.prog 124 #[nL n t,.int .i64 o,.int .i64 i] w λe w'=>e= .returned (.int .i64 (yZ n t.xs o i))/\Ext w w':=by
 have hes:=(dQ t.xs).2
 obtain⟨hk,ht3,f0,f1,f2,b0,hz,z1,z2,b1,b2,m1,m2,hcnt,hsz⟩:=h
 obtain⟨ta,Iw⟩:=ht.base aa
 have htr:∀(R:Nat->Prop) w',(aO w).holds R w'->bu w' (some ta) 1 (aN t.xs):=λR w' h=>by rw[<-Iw];exact aA h ht.rows
 have hH:=oF (x:=i1) (y:=n.size) hz z1
 have hW:=oF (x:=i2) (y:=n.size) hz z2
 have hH2:=Int.ediv_le_self (a:=i1) n.size aa
 have hW2:=Int.ediv_le_self (a:=i2) n.size aa
 obtain⟨_,ix,iy,ic⟩:=lT (i:=(i:Int)) (I1:=i1) (I2:=i2) aa aa aa
 have d1:=Int.ediv_le_self (a:=(i:Int)) i2 aa
 have d2:=Int.ediv_le_self (a:=(i:Int)/i2) i1 (Int.ediv_nonneg aa aa)
 have hw:yZ n t.xs o i=if(i:Int)/i2/i1≠(o:Int)/(i2/n.size)/(i1/n.size)\/(i:Int)/i2%i1/n.size≠(o:Int)/(i2/n.size)%(i1/n.size)\/(i:Int)%i2/n.size≠(o:Int)%(i2/n.size)then 0 else 1:=by
  unfold yZ
  rw[if_neg aa,if_neg aa,f1,f2]
 rw[hw]
 have hsp:∀(w':World),Calls Tryz.prog 150 #[.int .i64 i,.int .i64 i1,.int .i64 i2] w' λe w2=>e= .returned (Hz ((i:Int)/i2/i1) ((i:Int)/i2%i1) ((i:Int)%i2))/\Ext w' w2:=λw'=>Bu w' i i1 i2 aa aa aa
 have hsp2:∀(w':World),Calls Tryz.prog 150 #[.int .i64 o,.int .i64 (i1/n.size),.int .i64 (i2/n.size)] w' λe w2=>e= .returned (Hz ((o:Int)/(i2/n.size)/(i1/n.size)) ((o:Int)/(i2/n.size)%(i1/n.size)) ((o:Int)%(i2/n.size)))/\Ext w' w2:=λw'=>Bu w' o (i1/n.size) (i2/n.size) aa aa aa
 obtain⟨H,hHd⟩:∃H,i1/n.size=H:=⟨_,rfl⟩
 obtain⟨W,hWd⟩:∃W,i2/n.size=W:=⟨_,rfl⟩
 rw[hHd,hWd]at hsp2|-
 obtain⟨c,hc⟩:∃c,(i:Int)/i2/i1=c:=⟨_,rfl⟩
 obtain⟨fy,Wu⟩:∃c,(i:Int)/i2%i1=c:=⟨_,rfl⟩
 obtain⟨fx,hfx⟩:∃c,(i:Int)%i2=c:=⟨_,rfl⟩
 obtain⟨tc,htc⟩:∃c,(o:Int)/W/H=c:=⟨_,rfl⟩
 obtain⟨ty,hty⟩:∃c,(o:Int)/W%H=c:=⟨_,rfl⟩
 obtain⟨tx,htx⟩:∃c,(o:Int)%W=c:=⟨_,rfl⟩
 rw[hc,Wu,hfx]at hsp|-
 rw[htc,hty,htx]at hsp2|-
 rw[Wu]at iy
 rw[hfx]at ix
 rw[hc]at ic d2
 refine fH Tryz.func124 [.agg [ax n.ak,ax n.a,ax n.b,.c n.ay.val,ax n.lo,ax n.hi,ax n.size,.c n.data.val,.c n.aM.val,.c t.val],ax o,ax i] ?_
 repeat' ((conv=>whnf)<;>first|(show b_ _ 7 ..;refine lu [] _ ak6 ?_)|(show bV ..;(first|refine aH ta 1 Iw rfl aa ?_|refine aH ta 2 Iw rfl aa ?_))|(show fT ..;(first|refine qJ htr (j:=1) aa f1 ?_|refine qJ htr (j:=2) aa f2 ?_))|(show wK ..;(first|refine ug hHd aa aa aa ?_|refine ug hWd aa aa aa ?_|refine ug (x:=fy) rfl aa aa aa ?_|refine ug (x:=fx) rfl aa aa aa ?_))|(show aI _ 150 [ax i,ax i1,ax i2] ..;refine aQ (f:=150) Tryz.call150 (Hz c fy fx) (λρ w' hw=>hsp w') ?_)|(show aI _ 150 [ax o,ax H,ax W] ..;refine aQ (f:=150) Tryz.call150 (Hz tc ty tx) (λρ w' hw=>hsp2 w') ?_)|refine bn ?_|refine ag ?_ ?_<;>intro _|refine And.intro ?_ ?_)
 all_goals(conv=>whnf)
 all_goals first|exact cz (λ_ _ h=>h) (λ_=>by rw[if_pos aa];rfl) rfl|exact cz (λ_ _ h=>h) (λ_=>by rw[if_neg aa];rfl) rfl
end
theorem A8(w:World)(n:ai)(t:au)(hb:n.aM.ok w)(cnt o:Nat)(hc:cnt<=64)(ho:o<cnt)(h3:n.ak=3->n.aM.xs.length=cnt)(h4:n.ak=4->1<=n.aM.xs.length/\n.aM.xs.length<=64/\0<cnt/n.aM.xs.length/\o/(cnt/n.aM.xs.length)<n.aM.xs.length):
 Calls Tryz.prog 125 #[nL n t,.int .i64 o,.int .i64 cnt] w λe w'=>e= .returned (.int .i64 (dI n cnt o))/\Ext w w':=by
 have oz:=hb.few
 by_cases hk3:n.ak=3
 ·have hB:dI n cnt o=n.aM.xs.getD o 0:=if_pos hk3
  have hl:=h3 hk3
  rw[hB]
  obtain⟨ua,jD⟩:=hb.base aa
  have hur:∀(R:Nat->Prop) w',(aO w).holds R w'->bu w' (some ua) 1 (aN n.aM.xs):=λR w' h=>by rw[<-jD];exact aA h hb.rows
  refine fH Tryz.func125 [.agg [ax n.ak,ax n.a,ax n.b,.c n.ay.val,ax n.lo,ax n.hi,ax n.size,.c n.data.val,.c n.aM.val,.c t.val],ax o,ax cnt] ?_
  repeat' ((conv=>whnf)<;>first|(show bV ..;refine aH ua o jD rfl aa ?_)|refine Pd ?_|refine bn ?_|refine ag ?_ ?_<;>intro _)
  all_goals(conv=>whnf)
  all_goals exact cz (λ_ _ h=>h) (λ_=>rfl) rfl
 ·by_cases hk4:n.ak=4
  ·obtain⟨l1,l2,l3,l4⟩:=h4 hk4
   have hB:dI n cnt o=n.aM.xs.getD (o/(cnt/n.aM.xs.length)) 0:=by rw[dI,if_neg hk3,if_pos hk4]
   rw[hB]
   obtain⟨ua,jD⟩:=hb.base aa
   have hur:∀(R:Nat->Prop) w',(aO w).holds R w'->bu w' (some ua) 1 (aN n.aM.xs):=λR w' h=>by rw[<-jD];exact aA h hb.rows
   refine fH Tryz.func125 [.agg [ax n.ak,ax n.a,ax n.b,.c n.ay.val,ax n.lo,ax n.hi,ax n.size,.c n.data.val,.c n.aM.val,.c t.val],ax o,ax cnt] ?_
   repeat' ((conv=>whnf)<;>first|(show wK ..;(first|refine ug (Int.natCast_ediv cnt n.aM.xs.length).symm aa aa aa ?_|refine ug (Int.natCast_ediv o (cnt/n.aM.xs.length)).symm aa aa aa ?_))|(show bV ..;refine aH ua (o/(cnt/n.aM.xs.length)) jD rfl l4 ?_)|(show fT ..;refine bY hur (j:=o/(cnt/n.aM.xs.length)) l4 ?_)|refine bn ?_|refine ag ?_ ?_<;>intro _)
   all_goals(conv=>whnf)
   all_goals exact cz (λ_ _ h=>h) (λ_=>rfl) rfl
  ·have hB:dI n cnt o=0:=by rw[dI,if_neg hk3,if_neg hk4]
   rw[hB]
   refine fH Tryz.func125 [.agg [ax n.ak,ax n.a,ax n.b,.c n.ay.val,ax n.lo,ax n.hi,ax n.size,.c n.data.val,.c n.aM.val,.c t.val],ax o,ax cnt] ?_
   repeat' ((conv=>whnf)<;>first|refine bn ?_|refine ag ?_ ?_<;>intro _)
   all_goals(conv=>whnf)
   all_goals exact cz (λ_ _ h=>h) (λ_=>rfl) rfl
def D7(n:ai)(t:List Int)(o:Nat):List Int:=(List.range (az t).toNat).map λ(i:Nat)=>if n.ak=9 then Rn o i else yZ n t o i
def tQ(n:ai)(t:List Int)(cnt:Nat):List (List Int):=(List.range cnt).map (D7 n t)
structure RowsIn(n:ai)(t s:List Int)(cnt:Nat):Prop where
 place:fu n [t] s t cnt
 ak:dX n\/n.ak=9
 size:1<=az t
theorem WX(w:World)(n:ai)(t:au)(s:List Int)(cnt:Nat)(h:RowsIn n t.xs s cnt)(hno:n.ok w)(ht:t.ok w)(o i:Nat)(ho:o<cnt)(hi:(i:Int)<az t.xs):Calls Tryz.prog 124 #[nL n t,.int .i64 o,.int .i64 i] w λe w'=>e= .returned (.int .i64 (if n.ak=9 then Rn o i else yZ n t.xs o i))/\Ext w w':=by
 have hc:=h.place.few
 have heb:=(dQ t.xs).2
 rcases h.ak with hl|h9
 ·have h9:n.ak≠9:=by rcases hl with g|g|g<;>omega
  rw[if_neg h9]
  rcases Pm h.place hl with⟨hk,size,hsz,hdl,hbl⟩|⟨k0,k1,k2,k3,i1,i2,hL⟩|⟨i0,i1,i2,hL⟩
  ·exact UY w n t hno.data hk size cnt hsz hdl hbl hc.2 aa o i ho aa
  ·exact RO w n t hno ht cnt hc.2 hL o i ho hi
  ·exact SN w n t ht cnt hc.2 hL o i ho hi
 ·rw[if_pos h9]
  exact RJ w n t h9 o i
theorem agw(w:World)(n:ai)(t:au)(s:List Int)(cnt:Nat)(h:RowsIn n t.xs s cnt)(hno:n.ok w)(o:Nat)(ho:o<cnt):Calls Tryz.prog 125 #[nL n t,.int .i64 o,.int .i64 cnt] w λe w'=>e= .returned (.int .i64 (dI n cnt o))/\Ext w w':=by
 have hc:=h.place.few
 rcases h.ak with hl|h9
 ·rcases Pm h.place hl with⟨hk,size,hsz,hdl,hbl⟩|⟨k0,k1,k2,k3,i1,i2,hL⟩|⟨i0,i1,i2,hL⟩
  ·exact A8 w n t hno.aM cnt o hc.2 ho (λ_=>hbl) (λh4=>by omega)
  ·refine A8 w n t hno.aM cnt o hc.2 ho (λh3=>by have:=hL.ak;omega) λ_=> ?_
   have hb:=hL.aM
   have b0:=hL.b0
   have hcnt:=hL.cnt
   have b2:=hL.b2
   have b3:=hL.b3
   obtain⟨q,hq⟩:∃q:Nat,(i1-k2+1)*(i2-k3+1)=q:=Int.eq_ofNat_of_zero_le (Int.mul_nonneg aa aa)
   have hq1:1<=q:=by
    have:=Int.mul_pos (show 0<i1-k2+1 by omega) (show 0<i2-k3+1 by omega)
    omega
   have e1:cnt=n.aM.xs.length*q:=by
    rw[Int.mul_assoc,hq,<-hb,<-Int.natCast_mul]at hcnt
    exact Int.ofNat.inj hcnt
   have e2:cnt/n.aM.xs.length=q:=by rw[e1,Nat.mul_div_cancel_left _ aa]
   rw[e2]
   exact⟨by omega,by omega,hq1,(Nat.div_lt_iff_lt_mul aa).2 (by rw[<-e1];exact ho)⟩
  ·exact A8 w n t hno.aM cnt o hc.2 ho (λh3=>by have:=hL.ak;omega) (λh4=>by have:=hL.ak;omega)
 ·exact A8 w n t hno.aM cnt o hc.2 ho (λh3=>by omega) (λh4=>by omega)
section
def afN:au:=⟨none,0,[]⟩
def inpN(t:au):ai:=⟨1,0,0,t,0,0,0,afN,afN⟩
def wN(n:ai)(t:au):Int×List (List Int):=check ⟨none,0,[inpN t,n],1⟩
theorem Ik(n:ai)(t:au)(b:Option Addr)(c:Nat):check ⟨b,c,[inpN t,n],1⟩=wN n t:=by unfold wN check;rfl
def nD(n:ai)(t:au):Prop:=(dX n\/n.ak=9)/\n.a=0/\(wN n t).1=0
instance(n:ai)(t:au):Decidable (nD n t):=by unfold nD;infer_instance
def wD(n:ai)(t:au):Nat:=(az ((wN n t).2.getD 1 [])).toNat
def jA(n:ai)(t:au):(List (List Int)×List Int)×Int:=if nD n t then((tQ n t.xs (wD n t),(List.range (wD n t)).map (dI n (wD n t))),0)else(([],[]),3)
variable {t:au}
theorem Eb{n:ai}(h:nD n t):∃s,(wN n t).2=[t.xs,s]/\az s=wD n t/\RowsIn n t.xs s (wD n t):=by
 obtain⟨hk,ha,hc⟩:=h
 obtain⟨h1,h2,h3,h4,h5⟩:=iq (g:=⟨none,0,[inpN t,n],1⟩) hc
 obtain⟨s0,e0,n0⟩:=h5 0 (inpN t) rfl
 obtain⟨s1,e1,n1⟩:=h5 1 n rfl
 have hs0:s0=t.xs:=by
  have:=n0.ay
  unfold bR at this
  rw[if_pos (.inl rfl)]at this
  exact(Option.some.inj this).symm
 have hl:(wN n t).2.length=2:=h4
 have hsh:(wN n t).2=[t.xs,s1]:=by
  have a0:(wN n t).2[0]? =some s0:=e0
  have a1:(wN n t).2[1]? =some s1:=e1
  match hq:(wN n t).2,hl with
  |[x,y],_=>
   rw[hq]at a0 a1
   simp at a0 a1
   rw[a0,a1,hs0]
 obtain⟨_,_,cnt,hcnt,hp⟩:=xZ (g:=⟨none,0,[inpN t,n],1⟩) hc (i:=1) (n:=n) rfl
 have e2:(check ⟨none,0,[inpN t,n],1⟩).2=[t.xs,s1]:=hsh
 rw[e2,ha]at hp
 rw[e2]at hcnt
 have hc2:wD n t=cnt:=by
  unfold wD
  rw[hsh,hcnt];rfl
 refine⟨s1,hsh,by rw[hc2];exact hcnt,by rw[hc2];exact hp,hk,?_⟩
 have:=hp.pos t.xs List.mem_cons_self
 omega
def qC(w:World)(r:(List (List Int)×List Int)×Int):Ending->World->Prop:=λe w'=>∃(x:a_) (y:au),(wG r.1.1 x/\y.xs=r.1.2/\y.bq)/\e= .returned (.tuple #[x.val,y.val,.int .i64 r.2])/\Ext w w'/\(nM x).holds (λb=>w.heap.size<=b/\b<w'.heap.size) w'/\(bE y).holds (λb=>w.heap.size<=b/\b<w'.heap.size) w'
variable {w:World} {B:Base} {H:Heap} {S:bN} {nx:Nat}
theorem uO{n:ai}(hno:¬nD n t)(hb:∀R w',S.holds R w'->(aO B.w0).holds R w')(hw0:B.w0=w):jI B (.sN [.c (.slice none 0 0),.c (.slice none 0 0),ax 3]) H S nx (qC w (jA n t)):=by
 subst hw0
 rw[jA,if_neg hno]
 refine dH λρ w' hw=>⟨⟨none,0,[]⟩,⟨none,0,[]⟩,⟨⟨rfl,λ_ h=>kP,Nat.le_refl _⟩,rfl,⟨λ_ h=>kP,Nat.le_refl _,by decide⟩⟩,rfl,aZ hw hb,⟨⟨λ_ h=>kP,.inl rfl⟩,λ_ h=>kP⟩,⟨λ_ h=>kP,.inl rfl⟩⟩
def RIs(p:iK):Prop:=(p.1=⟨none,0⟩/\p.2=[])\/((∃b off,p.1.base=some ⟨b,off,none⟩)/\p.2≠[]/\p.2.length<=p.1.cap)
theorem Vy{i g j n m:Nat}{L:List iK}{bs:List Int}{r:(List (List Int)×List Int)×Int}(hb:∀R w',S.holds R w'->(aO B.w0).holds R w')(hw0:B.w0=w)(hL:∀p∈L,RIs p)(hf:∀p∈L,(∀x∈p.2,i64 x)/\p.2.length<=1000000)(hm:m=L.length)(hn:n=bs.length)(hbf:∀x∈bs,i64 x)(hbl:bs.length<=1000000)
 (hi:(i,bZ.rows (gI L) 1 32)∈H) (hg:(g,bZ.ext (mK 3 (kC L)))∈H) (hj:(j,bZ.rows (aN bs) 1 3)∈H) (hr:r=((L.map Prod.snd,bs),0)):
 jI B (.sN [.os i m,.os j n,ax 0]) H S nx (qC w r):=by
 subst hw0 hm hn hr
 refine dH λρ w' hw=> ?_
 have hn1:=dK hw hb hi
 have hsh:gI L=aS (L.map o_):=by simp[gI,aS,H6,o_,au.val]
 rw[hsh]at hn1
 obtain⟨base,cap,e,h1,h2⟩:∃base cap,(SV.os i (aS (L.map o_)).length).rf ρ= .slice base (L.map o_).length cap/\(L.map o_).length<=cap/\(fC base 1 (aS (L.map o_))).holds (λb=>B.w0.heap.size<=b/\b<w'.heap.size) w':=by
  obtain⟨base,cap,e,h1⟩:=fJ hn1
  obtain⟨lc,e2,F,hF,hr,hcap,_⟩:=hn1
  rw[e2]at e
  simp only[Value.slice.injEq]at e
  obtain⟨e3,_,e4⟩:=e
  refine⟨base,cap,?_,?_,h1⟩
  ·rw[e2,e3,e4,aW]
  ·rw[<-e4];simpa[aW]using hcap
 have hlen:(aS (L.map o_)).length=L.length:=by rw[aW,List.length_map]
 rw[hlen]at e
 have hn2:=dK hw hb hj
 rw[aJ]at hn2
 obtain⟨y,ey,y1,y2,y3⟩:=uD hn2 hbf hbl
 refine⟨⟨base,cap,L.map o_⟩,y,⟨⟨by simp[o_],λu hu=> ?_,h1⟩,y1,y2⟩,?_,aZ hw hb,⟨h2,λu hu=> ?_⟩,y3⟩
 ·obtain⟨p,hp,rfl⟩:=List.mem_map.1 hu
  rcases hL p hp with⟨e1,e2⟩|⟨_,e2,e3⟩
  ·exact⟨(hf p hp).1,by simp[o_,e2],by simp[o_,e2]⟩
  ·exact⟨(hf p hp).1,e3,(hf p hp).2⟩
 ·have:(SV.sN [.os i L.length,.os j bs.length,ax 0]).rf ρ= .tuple #[(SV.os i L.length).rf ρ,(SV.os j bs.length).rf ρ,.int .i64 0]:=rfl
  rw[this,e,ey,List.length_map]
  simp[a_.val]
 ·obtain⟨p,hp,rfl⟩:=List.mem_map.1 hu
  rcases hL p hp with⟨e1,e2⟩|⟨⟨b,off,e1⟩,e2,e3⟩
  ·show(fC (o_ p).base 1 (aN (o_ p).xs)).holds _ w'
   have:(o_ p).xs=[]:=e2
   rw[this]
   exact⟨λr hr=>(by cases hr),.inl rfl⟩
  ·have hp':((p.1,p.2.map (Value.int .i64)):wU)∈kC L:=List.mem_map.2 ⟨p,hp,rfl⟩
   obtain⟨g1,g2,g3⟩:=Y3 hw hb hg hp' e1
   refine⟨kL,.inr ⟨b,off,e1,⟨g1,g2⟩,λk r hk j v hj=> ?_⟩⟩
   have hkl:k<p.2.length:=by
    have:=(List.getElem?_eq_some_iff.1 hk).1
    rwa[aJ]at this
   have hk':(aN p.2)[k]? =some r:=hk
   rw[eH hkl]at hk'
   obtain rfl:[Value.int .i64 p.2[k]]=r:=by simpa using hk'
   have hj0:j=0:=by
    rcases Nat.eq_zero_or_pos j with h|h
    ·exact h
    ·rw[List.getElem?_eq_none ab9]at hj;cases hj
   subst hj0
   have:=g3 k (Value.int .i64 p.2[k]) (by simp[hkl])
   obtain rfl:Value.int .i64 p.2[k]=v:=by simpa using hj
   simpa using this
end
abbrev ak5:DT:=(eY [0,2] (.alt 1 (eY [4,103,5] .done) (eY [103,101,4,5] .done)))
abbrev ah1:DT:=(eY [0,1,2,3,4,5,6,7,8,109,110,111,12,113] .done)
theorem Q_{l1:SX.Loc}{R:Nat->Prop}{w:World}{n:ai}{t:au}(hn:n.ok w)(hsm:n.small)(ht:t.ok w)(h:((fC l1.base 9 (bF [inpN t,n])).past 0).holds R w):(⟨l1.base,l1.cap,[inpN t,n],1⟩:bG).ok w:=by
 have z:i64 0:=⟨by decide,by decide⟩
 have nv:afN.ok w:=⟨.inl rfl,λ_ h=>kP,Nat.le_refl _,by decide⟩
 refine⟨aV h,λm hm=> ?_,λm hm=> ?_,(show 2<=1000000 by decide),(show i64 1 from⟨by decide,by decide⟩)⟩
 ·rcases List.mem_cons.1 hm with rfl|hm
  ·exact⟨ht,nv,nv,(show i64 1 from⟨by decide,by decide⟩),z,z,z,z,z⟩
  ·rw[List.mem_singleton.1 hm];exact hn
 ·rcases List.mem_cons.1 hm with rfl|hm
  ·exact⟨Nat.zero_le _,Nat.zero_le _⟩
  ·rw[List.mem_singleton.1 hm];exact hsm
theorem Ag{cx:Cx}{f:FuncId}{args:List SV}{H:Heap}{S:bN}{nx:Nat}{K:SV->Heap->bN->Nat->Prop}(r:Int×List (List Int))(hf:∀ar w,(callFunc f ar).run cx.P w= .ok (.enter f ar) w)
 (hc:∀ρ w',eD cx.B ρ nx H S w'->Calls cx.P f (SV.eO ρ args).toArray w' (rM w' r))
 (h0:r.1≠0->K (.c (.tuple #[.slice none 0 0,.int .i64 r.1])) H S nx)
 (h1:r.1=0->∀sv:a_,sv.l.map (·.xs)=r.2->(∀u∈sv.l,u.bq)->(0<sv.l.length->∃a,sv.base=some a)->K (.c (.tuple #[sv.val,.int .i64 0])) H (S.and ((jE sv).past cx.B.w0.heap.size)) nx):aI cx f args H S nx K:=by
 rw[gN]
 refine⟨hf,λρ w hw=>(hc ρ w hw).mono ?_⟩
 rintro e w' ⟨v,rfl,he,hbad,hgood⟩
 by_cases hr:r.1=0
 ·obtain⟨sv,rfl,hm,hs,hd,hcap⟩:=hgood hr
  rw[hr]
  exact⟨.c (.tuple #[sv.val,.int .i64 0]),ρ,H,_,nx,rfl,λ_ _=>rfl,Nat.le_refl _,SV.jk _,hw.grow he hd,h1 hr sv hm hs (λh0=>aP (j:=0) (aV hd.1) (by rw[aW];exact h0))⟩
 ·rw[hbad hr]
  exact⟨.c (.tuple #[.slice none 0 0,.int .i64 r.1]),ρ,H,S,nx,rfl,λ_ _=>rfl,Nat.le_refl _,SV.jk _,hw.ext he,h0 hr⟩
theorem Wy(w:World)(n:ai)(t:au)(hn:n.ok w)(hsm:n.small)(ht:t.ok w)(hno:¬nD n t):Calls Tryz.prog 63 #[n.j3,t.val] w (qC w (jA n t)):=by
 by_cases hk:dX n\/n.ak=9
 ·have hkk:=hk
  unfold dX at hk
  refine fH Tryz.func63 [.agg (jN n),.c t.val] ?_
  repeat' ((conv=>whnf)<;>first|refine uT ?_|refine ag ?_ ?_<;>intro _)
  all_goals first|(exfalso;omega)|skip
  all_goals
   repeat' ((conv=>whnf)<;>first|refine uT ?_|refine ag ?_ ?_<;>intro _)
   refine lm 0 (λ_ _ _ _ hb=>absurd hb (Nat.not_lt_zero _)) (λl1 hl1=> ?_)
   repeat' ((conv=>whnf)<;>first|(show aI _ 24 ..;(refine oV (f:=24) (wN n t) Tryz.call24 (λρ w' hw=>by have:=pV w' ⟨l1.base,l1.cap,[inpN t,n],1⟩ (ae hw λR h=>Q_ (hn.later h.1) hsm (ht.later h.1) h.2);rw[Ik]at this;exact this) (λhne=> ?_) (λhe sv hm hsv=> ?_)))|(show @eZ _ _ _;(first|refine cu aa ?_|refine dA (λh=>h rfl) ?_|refine cu (λh=>hno ⟨hkk,h,he⟩) ?_))|refine uT ?_)
   all_goals(conv=>whnf)
   all_goals first|exact uO hno (λ_ _ h=>h.1) rfl|exact uO hno (λ_ _ h=>h.1.1) rfl
 ·have hk':n.ak≠3/\n.ak≠4/\n.ak≠5/\n.ak≠9:=⟨λg=>hk (.inl (.inl g)),λg=>hk (.inl (.inr (.inl g))),λg=>hk (.inl (.inr (.inr g))),λg=>hk (.inr g)⟩
  refine fH Tryz.func63 [.agg (jN n),.c t.val] ?_
  repeat' ((conv=>whnf)<;>first|refine uT ?_|refine ag ?_ ?_<;>intro _)
  all_goals(conv=>whnf)
  all_goals first|(exfalso;omega)|exact uO hno (λ_ _ h=>h) rfl
section
theorem Vv{r:List Int}{k:Nat}{v:Int}{K:List (List Value)->Prop}(hk:k<r.length)(h:K (aN (r.set k v))):cO (aN r) k 0 [.int .i64 v] K:=by
 refine iW _ (eH hk) FW ?_
 have e:(aN r).set k (bW [Value.int .i64 r[k]] 0 [.int .i64 v])=aN (r.set k v):=by
  have e2:bW [Value.int .i64 r[k]] 0 [.int .i64 v]=[Value.int .i64 v]:=rfl
  rw[e2]
  simp[aN,List.map_set]
 rw[e];exact h
def uS(n:ai)(t:List Int)(o i:Nat):Int:=if n.ak=9 then Rn o i else yZ n t o i
theorem jQ(n:ai)(t:List Int)(o:Nat):(D7 n t o).length=(az t).toNat:=by simp[D7]
variable {t:List Int} {o i:Nat}
theorem ab8{n:ai}(h:i<(az t).toNat):(D7 n t o).take (i+1)=(D7 n t o).take i++[uS n t o i]:=by
 rw[List.take_succ_eq_append_getElem (by rw[jQ];exact h)]
 simp[D7,uS]
theorem D5{l:List Int}(h:∀x∈l,i64 x)(k:Nat):i64 (l.getD k 0):=by
 rcases Nat.lt_or_ge k l.length with g|g
 ·have e:l.getD k 0=l[k]:=by simp[List.getD,g]
  rw[e];exact h _ (List.getElem_mem g)
 ·have e:l.getD k 0=0:=by simp[List.getD,g]
  rw[e];exact⟨by decide,by decide⟩
theorem acs{n:ai}(hd:∀x∈n.data.xs,i64 x)(t:List Int)(o i:Nat):i64 (uS n t o i):=by
 have z:i64 0:=⟨by decide,by decide⟩
 have one:i64 1:=⟨by decide,by decide⟩
 unfold uS Rn yZ
 split
 ·split<;>assumption
 ·split
  ·exact D5 hd _
  ·split
   ·simp only
    split
    ·exact z
    ·exact D5 hd _
   ·split<;>assumption
theorem Z0{n:ai}(hb:∀x∈n.aM.xs,i64 x)(cnt o:Nat):i64 (dI n cnt o):=by
 unfold dI
 split
 ·exact D5 hb _
 ·split
  ·exact D5 hb _
  ·exact⟨by decide,by decide⟩
structure l9(n:ai)(t:List Int)(cnt o i:Nat)(L:List iK):Prop where
 len:L.length=cnt
 each:∀p∈L,RIs p
 fits:∀p∈L,(∀x∈p.2,i64 x)/\p.2.length<=1000000
 is:∀k,k<cnt->(L.map Prod.snd).getD k []=if k<o then D7 n t k else if k=o then(D7 n t o).take i else []
theorem l9.start(n:ai)(t:List Int)(cnt:Nat):l9 n t cnt 0 0 (xq cnt):=⟨by simp[xq],λp hp=> .inl aib,λp hp=>by rw[(List.mem_replicate.1 hp).2];exact⟨λx hx=>(by cases hx),Nat.zero_le _⟩,λk hk=>by
 rw[Td]
 simp only[List.getD,List.getElem?_replicate]
 simp[hk]⟩
variable {cnt:Nat} {L:List iK}
theorem l9.next{n:ai}(h:l9 n t cnt o (az t).toNat L):l9 n t cnt (o+1) 0 L:=⟨h.len,h.each,h.fits,λk hk=>by
 rw[h.is k hk]
 by_cases g:k<o
 ·rw[if_pos g,if_pos aa]
 ·rw[if_neg g]
  by_cases g2:k=o
  ·rw[if_pos g2,if_pos aa,g2,List.take_of_length_le (by rw[jQ];exact Nat.le_refl _)]
  ·rw[if_neg g2,if_neg aa];simp⟩
theorem l9.push{n:ai}{q:iK}{l':SX.Loc}(h:l9 n t cnt o i L)(hd:∀x∈n.data.xs,i64 x)(hi:i<(az t).toNat)(aaI:i<=64)(hq:L[o]? =some q)(hl:∃b off,l'.base=some ⟨b,off,none⟩)(hcap:q.2.length+1<=l'.cap):l9 n t cnt o (i+1) (L.set o (l',q.2++[uS n t o i])):=by
 have ho:o<L.length:=(List.getElem?_eq_some_iff.1 hq).1
 have hq2:q.2=(D7 n t o).take i:=by
  have:=h.is o (by rw[<-h.len];exact ho)
  rw[DR hq,if_neg (Nat.lt_irrefl o),if_pos rfl]at this
  exact this
 have hql:q.2.length=i:=by rw[hq2,List.length_take,jQ];omega
 refine⟨by rw[List.length_set];exact h.len,λp hp=> ?_,λp hp=> ?_,λk hk=> ?_⟩
 ·rcases List.mem_or_eq_of_mem_set hp with hp|hp
  ·exact h.each p hp
  ·rw[hp];exact .inr ⟨hl,by simp,by simpa using hcap⟩
 ·rcases List.mem_or_eq_of_mem_set hp with hp|hp
  ·exact h.fits p hp
  ·rw[hp]
   refine⟨λx hx=> ?_,by simp;omega⟩
   rcases List.mem_append.1 hx with hx|hx
   ·exact(h.fits q (List.mem_of_getElem? hq)).1 x hx
   ·rw[List.mem_singleton.1 hx];exact acs hd t o i
 ·rw[List.map_set]
  by_cases e:o=k
  ·subst e
   rw[if_neg (Nat.lt_irrefl o),if_pos rfl,ab8 hi,<-hq2]
   simp[List.getD,ho]
  ·have:=h.is k hk
   have e2:((L.map Prod.snd).set o (l',q.2++[uS n t o i]).2).getD k []=(L.map Prod.snd).getD k []:=by simp[List.getD,List.getElem?_set_ne e]
   rw[e2,this]
   by_cases g:k<o
   ·rw[if_pos g,if_pos g]
   ·rw[if_neg g,if_neg g,if_neg (λe'=>e e'.symm),if_neg (λe'=>e e'.symm)]
structure yR(n:ai)(cnt o:Nat)(bs:List Int):Prop where
 len:bs.length=cnt
 is:∀k,k<cnt->bs.getD k 0=if k<o then dI n cnt k else 0
variable {bs:List Int}
theorem yR.next{n:ai}(h:yR n cnt o bs)(ho:o<cnt):yR n cnt (o+1) (bs.set o (dI n cnt o)):=by
 refine⟨by rw[List.length_set];exact h.len,λk hk=> ?_⟩
 by_cases e:o=k
 ·subst e
  rw[if_pos (Nat.lt_succ_self o)]
  simp[List.getD,h.len,ho]
 ·have:=h.is k hk
  have e2:(bs.set o (dI n cnt o)).getD k 0=bs.getD k 0:=by simp[List.getD,List.getElem?_set_ne e]
  rw[e2,this]
  by_cases g:k<o
  ·rw[if_pos g,if_pos aa]
  ·rw[if_neg g,if_neg aa]
theorem yR.done{n:ai}(h:yR n cnt cnt bs):bs=(List.range cnt).map (dI n cnt):=by
 apply List.ext_getElem
 ·simp[h.len]
 ·intro k h1 h2
  have hk:k<cnt:=by rw[<-h.len];exact h1
  have:=h.is k hk
  rw[if_pos hk]at this
  simp[List.getD,h1]at this
  simp[this]
theorem l9.done{n:ai}(h:l9 n t cnt cnt 0 L):L.map Prod.snd=tQ n t cnt:=by
 apply List.ext_getElem
 ·simp[tQ,h.len]
 ·intro k h1 h2
  have hk:k<cnt:=by rw[<-h.len];simpa using h1
  have:=h.is k hk
  rw[if_pos hk]at this
  have e:(tQ n t cnt)[k]=D7 n t k:=by simp[tQ]
  rw[e,<-this]
  simp[List.getD,h.len,hk]
theorem WL(w:World)(n:ai)(t:au)(hn:n.ok w)(hsm:n.small)(ht:t.ok w)(hok:nD n t):Calls Tryz.prog 63 #[n.j3,t.val] w (qC w (jA n t)):=by
 obtain⟨s,hsh,hcs,hR⟩:=Eb hok
 have hcnt:=hR.place.few
 have hsz:=hR.size
 have heb:=(dQ t.xs).2
 rw[jA,if_pos hok]
 obtain⟨cnt,hce⟩:∃c,wD n t=c:=⟨_,rfl⟩
 rw[hce]at hcs hR hcnt|-
 obtain⟨E,hE⟩:∃E:Nat,az t.xs=E:=⟨(az t.xs).toNat,by omega⟩
 have ha:=hok.2.1
 have hk:=hok.1
 have hkk:=hk
 unfold dX at hk
 refine fH Tryz.func63 [.agg (jN n),.c t.val] ?_
 (repeat' ((conv=>whnf)<;>first|refine Wp.go bQ rfl ?_|refine zW ?_|refine CB ?_|refine ag ?_ ?_<;>intro _))
 all_goals first|(exfalso;omega)|skip
 all_goals
  (repeat' ((conv=>whnf)<;>first|refine Wp.go bQ rfl ?_|refine zW ?_|refine CB ?_|refine ag ?_ ?_<;>intro _))
  refine lm 0 (λ_ _ _ _ hb=>absurd hb (Nat.not_lt_zero _)) (λl1 hl1=> ?_)
  (repeat' ((conv=>whnf)<;>first|(show aI _ 24 ..;(refine Ag (f:=24) (wN n t) Tryz.call24 (λρ w' hw=>by have:=pV w' ⟨l1.base,l1.cap,[inpN t,n],1⟩ (ae hw λR h=>Q_ (hn.later h.1) hsm (ht.later h.1) h.2);rw[Ik]at this;exact this) (λhne=>absurd hok.2.2 hne) (λhe sv hm hsv hsb=> ?_)))|(show @eZ _ _ _;(first|refine cu aa ?_|refine dA (λh=>h rfl) ?_|refine dA (λh=>h ha) ?_))|refine Wp.go bQ rfl ?_))
  rw[hsh]at hm
  obtain⟨vb,vc,vl⟩:=sv
  obtain⟨u0,u1,rfl,hu0,hu1⟩:∃u v,vl=[u,v]/\u.xs=t.xs/\v.xs=s:=by
   have h2:vl.length=2:=by have:=congrArg List.length hm;simpa using this
   match vl,h2,hm with
   |[u,v],_,h=>exact⟨u,v,rfl,by simpa using(List.cons.inj h).1,by simpa using(List.cons.inj (List.cons.inj h).2).1⟩
  obtain⟨va,rfl⟩:∃a,vb=some a:=hsb (show 0<2 by decide)
  (repeat' ((conv=>whnf)<;>first|(show bV ..;refine aH va 1 rfl rfl (show 1<2 by decide) ?_)|(show fT ..;refine bA (λR w' h=>aV h.2.1) [u1.val] u1.val rfl rfl ?_)|(show aI _ 61 ..;(refine aQ (f:=61) Tryz.call61 (.int .i64 (cnt:Nat)) (λρ w' hw=>by have:=nJ w' u1.base u1.cap u1.xs (ae hw λR h=>aV (h.2.2 u1 aU));rw[show az u1.xs=(cnt:Int) by rw[hu1];exact hcs]at this;exact this) ?_))|(show mJ ..;(first|refine jC cnt rfl rfl aex aa ?_|refine jC cnt rfl rfl DI aa ?_))|(show b_ _ 14 ..;refine lu [] _ ak5 ?_)|refine Wp.go bQ rfl ?_|refine Uq ?_|refine kT ?_|refine And.intro ?_ ?_))
  all_goals(conv=>whnf)
 all_goals
  refine Wp.grp 3 cnt ?_
  first
  |refine Wp.loop (σ:=Nat×List iK×List Int) 9 (λx=>[(1,.c t.val),(10,.lp 3 0 0 0),(11,.fn (.func 124) [.agg [ax n.ak,ax n.a,ax n.b,.c n.ay.val,ax n.lo,ax n.hi,ax n.size,.c n.data.val,.c n.aM.val,.c t.val]] []),(12,ax (cnt:Nat)),(13,.os 7 cnt),(14,.os 8 cnt),(55,ax (cnt:Nat)),(56,ax x.1)]) (λx=>[(3,.box [ax n.ak,ax n.a,ax n.b,.c n.ay.val,ax n.lo,ax n.hi,ax n.size,.c n.data.val,.c n.aM.val,.c t.val] 158),(7,.rows (gI x.2.1) 1 32),(6,.ext (mK 3 (kC x.2.1))),(8,.rows (aN x.2.2) 1 3)]) (λ_=>aO w)
    (λx=>x.1<=cnt/\l9 n t.xs cnt x.1 0 x.2.1/\yR n cnt x.1 x.2.2) (λx=>cnt-x.1) (0,xq cnt,List.replicate cnt 0) [(7,some 5),(8,some 4)] aY (λ_=>⟨rfl,rfl⟩)
    ⟨Nat.zero_le _,l9.start n t.xs cnt,by simp,λk hk=>by simp only[List.getD,List.getElem?_replicate];simp[hk]⟩ ⟨rfl,⟨rfl,rfl,rfl,rfl,rfl,rfl,rfl,rfl,trivial⟩,?_,λ_ _ h=>h.1.1⟩ ?_
  |refine Wp.loop (σ:=Nat×List iK×List Int) 9 (λx=>[(1,.c t.val),(10,.lp 3 0 0 0),(11,.fn (.func 124) [.agg [ax n.ak,ax n.a,ax n.b,.c n.ay.val,ax n.lo,ax n.hi,ax n.size,.c n.data.val,.c n.aM.val,.c t.val]] []),(12,ax (cnt:Nat)),(13,.os 7 cnt),(14,.os 8 cnt),(55,ax (cnt:Nat)),(56,ax x.1)]) (λx=>[(3,.box [ax n.ak,ax n.a,ax n.b,.c n.ay.val,ax n.lo,ax n.hi,ax n.size,.c n.data.val,.c n.aM.val,.c t.val] 158),(7,.rows (gI x.2.1) 1 32),(6,.ext (mK 3 (kC x.2.1))),(8,.rows (aN x.2.2) 1 3)]) (λ_=>aO w)
    (λx=>x.1<=cnt/\l9 n t.xs cnt x.1 0 x.2.1/\yR n cnt x.1 x.2.2) (λx=>cnt-x.1) (0,xq cnt,List.replicate cnt 0) [(7,some 4),(8,some 5)] aY (λ_=>⟨rfl,rfl⟩)
    ⟨Nat.zero_le _,l9.start n t.xs cnt,by simp,λk hk=>by simp only[List.getD,List.getElem?_replicate];simp[hk]⟩ ⟨rfl,⟨rfl,rfl,rfl,rfl,rfl,rfl,rfl,rfl,trivial⟩,?_,λ_ _ h=>h.1.1⟩ ?_
  ·show kU _ _ [(3,.box [ax n.ak,ax n.a,ax n.b,.c n.ay.val,ax n.lo,ax n.hi,ax n.size,.c n.data.val,.c n.aM.val,.c t.val] 158),(7,.rows (gI (xq cnt)) 1 32),(6,.ext (mK 3 (kC (xq cnt)))),(8,.rows (aN (List.replicate cnt 0)) 1 3)]
   rw[Nq,Lr,show aN (List.replicate cnt 0)=List.replicate cnt [Value.int .i64 0] by simp[aN]]
   exact bM
  rintro⟨o,L,bs⟩ ⟨ho,hL,hB⟩
  dsimp only at ho hL hB
  by_cases hoc:o<cnt
  ·have hwb:∀(w':World),n.ok w'->Calls Tryz.prog 125 #[nL n t,.int .i64 o,.int .i64 cnt] w' λe w2=>e= .returned (.int .i64 (dI n cnt o))/\Ext w' w2:=λw' hn'=>agw w' n t s cnt hR hn' o hoc
   (repeat' ((conv=>whnf)<;>first|(show aI _ 125 ..;refine aQ (f:=125) Tryz.call125 (.int .i64 (dI n cnt o)) (λρ w' hw=>hwb w' (ae hw λR h=>hn.later h)) ?_)|(show di ..;(refine bg o rfl hoc (Nat.le_of_eq (by rw[aJ];exact hB.len.symm)) ?_))|(show cO ..;refine Vv (Nat.lt_of_lt_of_eq hoc hB.len.symm) ?_)|(show aI _ 61 ..;(refine aQ (f:=61) Tryz.call61 (.int .i64 (E:Nat)) (λρ w' hw=>by have:=nJ w' t.base t.cap t.xs (ae hw λR h=>aA h ht.rows);rw[hE]at this;exact this) ?_))|refine Wp.go bQ rfl ?_|refine zW ?_|refine CB ?_|refine ag ?_ ?_<;>intro _))
   all_goals(conv=>whnf)
   have hB':=hB.next hoc
   clear hB
   obtain⟨bs',hbs⟩:∃b,bs.set o (dI n cnt o)=b:=⟨_,rfl⟩
   rw[hbs]at hB'|-
   have hEt:(az t.xs).toNat=E:=by rw[hE];rfl
   refine Wp.loop (σ:=Nat×List iK) 9 (λx=>[(1,.c t.val),(10,.lp 3 0 0 0),(11,.fn (.func 124) [.agg [ax n.ak,ax n.a,ax n.b,.c n.ay.val,ax n.lo,ax n.hi,ax n.size,.c n.data.val,.c n.aM.val,.c t.val]] []),(12,ax (cnt:Nat)),(13,.os 7 cnt),(14,.os 8 cnt),(55,ax (cnt:Nat)),(56,ax o),(15,ax o),(67,ax (E:Nat)),(68,ax x.1)]) (λx=>[(3,.box [ax n.ak,ax n.a,ax n.b,.c n.ay.val,ax n.lo,ax n.hi,ax n.size,.c n.data.val,.c n.aM.val,.c t.val] 158),(7,.rows (gI x.2) 1 32),(6,.ext (mK 3 (kC x.2))),(8,.rows (aN bs') 1 3)]) (λ_=>aO w)
    (λx=>x.1<=E/\l9 n t.xs cnt o x.1 x.2) (λx=>E-x.1) (0,L) [] aY (λ_=>⟨rfl,rfl⟩) ⟨Nat.zero_le _,hL⟩ ⟨rfl,⟨rfl,rfl,rfl,rfl,rfl,rfl,rfl,rfl,rfl,rfl,rfl,trivial⟩,bM,λ_ _ h=>h⟩ ?_
   clear hL
   rintro⟨i,M⟩ ⟨hi,hM⟩
   dsimp only at hi hM
   by_cases hiE:i<E
   ·have hww:∀(w':World),n.ok w'->t.ok w'->Calls Tryz.prog 124 #[nL n t,.int .i64 o,.int .i64 i] w' λe w2=>e= .returned (.int .i64 (uS n t.xs o i))/\Ext w' w2:=λw' hn' ht'=>WX w' n t s cnt hR hn' ht' o i hoc (by rw[hE];omega)
    have hoM:o<M.length:=by rw[hM.len];exact hoc
    have hdl:=uk M
    obtain⟨q,hq⟩:∃q,M[o]? =some q:=⟨_,List.getElem?_eq_getElem hoM⟩
    have hqm:=List.mem_of_getElem? hq
    have hq2:q.2=(D7 n t.xs o).take i:=by
     have:=hM.is o hoc
     rw[DR hq,if_neg (Nat.lt_irrefl o),if_pos rfl]at this
     exact this
    have hql:q.2.length=i:=by rw[hq2,List.length_take,jQ];omega
    have hpush:=λl'=>hM.push (l':=l') hn.data.fits (by rw[hEt];exact hiE) aa hq
    rcases hM.each q hqm with⟨e1,e2⟩|⟨⟨b,off,e1⟩,e2,e3⟩
    ·obtain⟨ql,qv⟩:=q
     simp only at e1 e2
     subst e1 e2
     (repeat' ((conv=>whnf)<;>first|(show b_ _ 22 ..;refine lu [13] _ ah1 ?_ (h6:=List.Sublist.cons_cons _ (List.Sublist.cons_cons _ (List.Sublist.cons _ (List.Sublist.refl _)))))|(show lq ..;(first|refine eF (List.Sublist.cons _ (List.Sublist.cons_cons _ (List.Sublist.cons_cons _ (List.Sublist.cons _ (List.Sublist.refl _))))) (λ_ _ h=>h) ?_|refine eF (List.Sublist.cons_cons _ (List.Sublist.cons_cons _ (List.Sublist.cons _ (List.Sublist.refl _)))) (λ_ _ h=>h) ?_))|(show aI _ 124 ..;refine aQ (f:=124) Tryz.call124 (.int .i64 (uS n t.xs o i)) (λρ w' hw=>hww w' (ae hw λR h=>hn.later h) (ae hw λR h=>ht.later h)) ?_)|(show di ..;refine bg o rfl hoc (Nat.le_of_eq (hdl.trans hM.len).symm) ?_)|(show mq ..;refine row_of _ _ (rH hq) rfl ?_)|refine Wp.go bQ rfl ?_|refine zW ?_|refine CB ?_|refine ag ?_ ?_<;>intro _))
     refine kT ?_
     (repeat' ((conv=>whnf)<;>first|(show lq ..;(first|refine eF (List.Sublist.cons _ (List.Sublist.cons_cons _ (List.Sublist.cons_cons _ (List.Sublist.cons _ (List.Sublist.refl _))))) (λ_ _ h=>h) ?_|refine eF (List.Sublist.cons_cons _ (List.Sublist.cons_cons _ (List.Sublist.cons _ (List.Sublist.refl _)))) (λ_ _ h=>h) ?_))|(show vO ..;refine gY (Nat.le_refl _) ?_)|(show gP ..;refine dP (show 1*8<=140737488355328 by decide) ?_)))
     all_goals(conv=>whnf)
     refine EM (T:=3) (g:=6) (d:=o) (us:=[]) (l0:=⟨none,0⟩) (L:=kC M) (vs:=[.int .i64 (uS n t.xs o i)]) ?_ (Ae hq) rfl rfl rfl Nat.zero_lt_one (λl' hlc hlb=> ?_)
     ·exact aU
     have hp:=hpush l' hlb hlc
     have er:gI (M.set o (l',[]++[uS n t.xs o i]))=(gI M).set o [.slice l'.base 1 l'.cap]:=by rw[wZ];rfl
     have eg:kC (M.set o (l',[]++[uS n t.xs o i]))=(kC M).set o (l',[.int .i64 (uS n t.xs o i)]):=by rw[zT];rfl
     (repeat' ((conv=>whnf)<;>first|(show lq ..;(first|refine eF (List.Sublist.cons _ (List.Sublist.cons_cons _ (List.Sublist.cons_cons _ (List.Sublist.cons _ (List.Sublist.refl _))))) (λ_ _ h=>h) ?_|refine eF (List.Sublist.cons_cons _ (List.Sublist.cons_cons _ (List.Sublist.cons _ (List.Sublist.refl _)))) (λ_ _ h=>h) ?_))|(show cO ..;(refine iW _ (rH hq) FW ?_))|(show di ..;refine bg o rfl hoc (Nat.le_of_eq (hdl.trans hM.len).symm) ?_)|refine Wp.go bQ rfl ?_|refine lG ?_|refine kT ?_))
     all_goals(conv=>whnf)
     refine⟨(i+1,M.set o (l',[]++[uS n t.xs o i])),[],⟨hiE,hp⟩,by show E-(i+1)<E-i;omega,rfl,bM,?_,λ_ _ h=>h⟩
     show kU [] _ [(3,.box [ax n.ak,ax n.a,ax n.b,.c n.ay.val,ax n.lo,ax n.hi,ax n.size,.c n.data.val,.c n.aM.val,.c t.val] 158),(7,.rows (gI (M.set o (l',[]++[uS n t.xs o i]))) 1 32),(6,.ext (mK 3 (kC (M.set o (l',[]++[uS n t.xs o i]))))),(8,.rows (aN bs') 1 3)]
     rw[eg,er]
     exact bM
    ·obtain⟨ql,qv⟩:=q
     simp only at e1 e2 e3 hql
     have hrow:(gI M)[o]? =some [.slice (some ⟨b,off,none⟩) i ql.cap]:=by rw[rH hq,H6,e1,hql]
     (repeat' ((conv=>whnf)<;>first|(show b_ _ 22 ..;refine lu [13] _ ah1 ?_ (h6:=List.Sublist.cons_cons _ (List.Sublist.cons_cons _ (List.Sublist.cons _ (List.Sublist.refl _)))))|(show lq ..;(first|refine eF (List.Sublist.cons _ (List.Sublist.cons_cons _ (List.Sublist.cons_cons _ (List.Sublist.cons _ (List.Sublist.refl _))))) (λ_ _ h=>h) ?_|refine eF (List.Sublist.cons_cons _ (List.Sublist.cons_cons _ (List.Sublist.cons _ (List.Sublist.refl _)))) (λ_ _ h=>h) ?_))|(show aI _ 124 ..;refine aQ (f:=124) Tryz.call124 (.int .i64 (uS n t.xs o i)) (λρ w' hw=>hww w' (ae hw λR h=>hn.later h) (ae hw λR h=>ht.later h)) ?_)|(show di ..;refine bg o rfl hoc (Nat.le_of_eq (hdl.trans hM.len).symm) ?_)|(show mq ..;refine row_of _ _ hrow rfl ?_)|refine Wp.go bQ rfl ?_|refine zW ?_|refine CB ?_|refine ag ?_ ?_<;>intro _))
     all_goals(conv=>whnf)
     refine kT ?_
     (repeat' ((conv=>whnf)<;>first|(show lq ..;(first|refine eF (List.Sublist.cons _ (List.Sublist.cons_cons _ (List.Sublist.cons_cons _ (List.Sublist.cons _ (List.Sublist.refl _))))) (λ_ _ h=>h) ?_|refine eF (List.Sublist.cons_cons _ (List.Sublist.cons_cons _ (List.Sublist.cons _ (List.Sublist.refl _)))) (λ_ _ h=>h) ?_))|(show vO ..;refine gY (Nat.le_refl _) ?_)))
     all_goals(conv=>whnf)
     obtain⟨ii,hii,hi0,hi1,hi2⟩:=info_parts Zl
     refine⟨.inr ?_⟩
     refine aed (T:=3) (xe:=3) (g:=6) (d:=o) (L:=kC M) (l:=ql) (vs:=qv.map (Value.int .i64)) (v:= .int .i64 (uS n t.xs o i)) (b:=b) (off:=off) (i:=ii) (z:= .int .i64 0) Tryz.underlying32 Tryz.underlying32 hii hi0 hi1 hi2 rfl ?_ (Ae hq) e1 (by rw[List.length_map];exact e3) aaw (λu hu=>by obtain⟨x,_,rfl⟩:=List.mem_map.1 hu;rfl) rfl i (by rw[List.length_map];exact hql.symm) ql.cap rfl (λl' hlc hlb=> ?_)
     ·exact aU
     rw[List.length_map]at hlc
     rw[List.length_map,hql]
     have hp:=hpush l' hlb hlc
     have er:gI (M.set o (l',qv++[uS n t.xs o i]))=(gI M).set o [.slice l'.base (i+1) l'.cap]:=by rw[wZ];simp[H6,hql]
     have eg:kC (M.set o (l',qv++[uS n t.xs o i]))=(kC M).set o (l',qv.map (Value.int .i64)++[.int .i64 (uS n t.xs o i)]):=by rw[zT];simp
     (repeat' ((conv=>whnf)<;>first|(show lq ..;(first|refine eF (List.Sublist.cons _ (List.Sublist.cons_cons _ (List.Sublist.cons_cons _ (List.Sublist.cons _ (List.Sublist.refl _))))) (λ_ _ h=>h) ?_|refine eF (List.Sublist.cons_cons _ (List.Sublist.cons_cons _ (List.Sublist.cons _ (List.Sublist.refl _)))) (λ_ _ h=>h) ?_))|(show cO ..;(refine iW _ (rH hq) FW ?_))|(show di ..;refine bg o rfl hoc (Nat.le_of_eq (hdl.trans hM.len).symm) ?_)|refine Wp.go bQ rfl ?_|refine lG ?_|refine kT ?_))
     all_goals(conv=>whnf)
     refine⟨(i+1,M.set o (l',qv++[uS n t.xs o i])),[],⟨hiE,hp⟩,by show E-(i+1)<E-i;omega,rfl,bM,?_,λ_ _ h=>h⟩
     show kU [] _ [(3,.box [ax n.ak,ax n.a,ax n.b,.c n.ay.val,ax n.lo,ax n.hi,ax n.size,.c n.data.val,.c n.aM.val,.c t.val] 158),(7,.rows (gI (M.set o (l',qv++[uS n t.xs o i]))) 1 32),(6,.ext (mK 3 (kC (M.set o (l',qv++[uS n t.xs o i]))))),(8,.rows (aN bs') 1 3)]
     rw[eg,er]
     exact bM
   ·(repeat' ((conv=>whnf)<;>first|refine Wp.go bQ rfl ?_|refine zW ?_|refine CB ?_|refine lG ?_|refine ag ?_ ?_<;>intro _))
    all_goals(conv=>whnf)
    have hie:i=E:=by omega
    rw[hie,<-hEt]at hM
    exact⟨(o+1,M,bs'),[],⟨hoc,hM.next,hB'⟩,by show cnt-(o+1)<cnt-o;omega,rfl,bM,bM,λ_ _ h=>h⟩
  ·(repeat' ((conv=>whnf)<;>first|refine Wp.go bQ rfl ?_|refine zW ?_|refine CB ?_|refine lG ?_|refine ag ?_ ?_<;>intro _))
   all_goals(conv=>whnf)
   have hoe:o=cnt:=by omega
   rw[hoe]at hL hB
   exact Vy (i:=7) (g:=6) (j:=8) (λ_ _ h=>h) rfl hL.each hL.fits hL.len.symm hB.len.symm (λx hx=>by rw[hB.done]at hx;obtain⟨k,_,rfl⟩:=List.mem_map.1 hx;exact Z0 hn.aM.fits cnt k) (by rw[hB.len];omega) aU aU aU (by rw[hL.done,<-hB.done])
theorem R5(w:World)(n:ai)(t:au)(hn:n.ok w)(hsm:n.small)(ht:t.ok w):Calls Tryz.prog 63 #[n.j3,t.val] w (qC w (jA n t)):=by
 by_cases hok:nD n t
 ·exact WL w n t hn hsm ht hok
 ·exact Wy w n t hn hsm ht hok
end
theorem acE(w:World)(b:Int):Calls Tryz.prog 67 #[.int .i64 b] w λe w'=>e= .returned (.bool (decide (b≠0)))/\Ext w w':=by
 refine fH Tryz.func67 [ax b] ?_
 repeat' ((conv=>whnf)<;>first|(show @eZ _ _ _;((refine ag ?_ ?_<;>intro _)))|refine aX ?_)
 all_goals(conv=>whnf)
 all_goals first|exact bf (λ_ _ h=>h) rfl (decide_eq_true aa)|exact bf (λ_ _ h=>h) rfl (decide_eq_false aa)
def nzs(l:List Int)(i:Nat):Prop:=∀k,k<i->∀h:k<l.length,l[k]=0
theorem Vd(w:World)(u:au)(hu:u.ok w):Calls Tryz.prog 131 #[u.val,.func (.func 67) #[] #[]] w λe w'=>(∃k:Int,e= .returned (.int .i64 k)/\(0<=k↔u.xs.any (λb=>decide (b≠0))=true))/\Ext w w':=by
 have hf:=hu.few
 refine fH Tryz.func131 [.c u.val,.c (.func (.func 67) #[] #[])] ?_
 repeat' ((conv=>whnf)<;>first|refine aX ?_|refine ag ?_ ?_<;>intro _)
 refine Wp.loop (σ:=Nat) 0 (λi=>[(0,.c u.val),(1,.c (.func (.func 67) #[] #[])),(7,ax u.xs.length),(8,ax i)]) (λ_=>[]) (λ_=>aO w)
  (λi=>nzs u.xs i) (λi=>u.xs.length-i) 0 [] aY (λs=>⟨rfl,rfl⟩) (λk hk=>absurd hk (Nat.not_lt_zero k)) ⟨rfl,⟨rfl,rfl,rfl,rfl,trivial⟩,trivial,λ_ _ h=>h⟩ ?_
 intro i hi
 by_cases hlt:i<u.xs.length
 ·obtain⟨ra,hra⟩:∃a,u.base=some a:=aP (j:=i) hu.rows abP
  have hx:u.xs.getD i 0=u.xs[i]:=by rw[List.getD_eq_getElem?_getD,List.getElem?_eq_getElem hlt];rfl
  by_cases hne:u.xs[i]=0
  ·repeat' ((conv=>whnf)<;>first|refine SQ ?_|(show fT ..;(refine kz (λR w' h=>by rw[<-hra];exact aA h hu.rows) (j:=i) hlt (hx.trans hne) ?_))|(show aI _ 67 ..;refine aQ (f:=67) Tryz.call67 (.bool false) (λρ w' hw=>acE w' 0) ?_)|refine aX ?_|refine ag ?_ ?_<;>intro _)
   all_goals(conv=>whnf)
   all_goals refine⟨i+1,[],λk hk h=> ?_,by omega,rfl,bM,trivial,λ_ _ h=>h⟩
   rcases Nat.lt_or_ge k i with h1|h1
   ·exact hi k h1 h
   ·obtain rfl:k=i:=by omega
    exact hne
  ·repeat' ((conv=>whnf)<;>first|refine SQ ?_|(show fT ..;(refine kz (λR w' h=>by rw[<-hra];exact aA h hu.rows) (j:=i) hlt hx ?_))|(show aI _ 67 ..;(refine aQ (f:=67) Tryz.call67 (.bool true) (λρ w' hw=>by have:=acE w' u.xs[i];rw[decide_eq_true hne]at this;exact this) ?_))|refine aX ?_|refine ag ?_ ?_<;>intro _)
   all_goals(conv=>whnf)
   refine dH λρ w' hw=>⟨⟨i,rfl,λ_=>List.any_eq_true.2 ⟨u.xs[i],List.getElem_mem hlt,by simpa using hne⟩,λ_=>by omega⟩,aZ hw (λ_ _ h=>h)⟩
 ·repeat' ((conv=>whnf)<;>first|refine aX ?_|refine ag ?_ ?_<;>intro _)
  all_goals(conv=>whnf)
  refine dH λρ w' hw=>⟨⟨-1,rfl,λh=>absurd h aY,λh=> ?_⟩,aZ hw (λ_ _ h=>h)⟩
  obtain⟨b,hb,hx⟩:=List.any_eq_true.1 h
  obtain⟨k,hk,rfl⟩:=List.mem_iff_getElem.1 hb
  exact absurd (hi k aa hk) (by simpa using hx)
theorem Ah(w:World)(u:au)(hu:u.ok w):Calls Tryz.prog 66 #[u.val,.func (.func 67) #[] #[]] w λe w'=>e= .returned (.bool (u.xs.any λb=>decide (b≠0)))/\Ext w w':=by
 refine fH Tryz.func66 [.c u.val,.c (.func (.func 67) #[] #[])] ?_
 repeat' ((conv=>whnf)<;>first|(show aI _ 131 ..;refine N_ (f:=131) Tryz.call131 (λk:Int=> .int .i64 k) (λk=>0<=k↔u.xs.any (λb=>decide (b≠0))=true) (λρ w' hw=> ?_) (λk hk=> ?_))|refine aX ?_|refine ag ?_ ?_<;>intro _)
 ·refine(Vd w' u (ae hw λR h=>hu.later h)).mono ?_
  rintro e w2 ⟨⟨k,h1,h2⟩,h3⟩
  exact⟨k,h2,h1,h3⟩
 all_goals(conv=>whnf)
 all_goals rename_i h0
 ·exact bf (λ_ _ h=>h) rfl (hk.1 h0)
 ·exact bf (λ_ _ h=>h) rfl (Bool.eq_false_iff.2 λh=>h0 (hk.2 h))
theorem WI(w:World)(b e:Nat)(u:au)(T:TypeId)(he:e<u.xs.length)(hu:bu w u.base 1 (aN u.xs))(h:w.heap[b]? =some (.cells [u.val].toArray T (0,0))):Calls Tryz.prog 70 #[.int .i64 e,.pointer (some ⟨b,0,none⟩)] w λen w'=>en= .returned (.int .i64 (u.xs.getD e 0))/\Ext w w':=by
 have hc:w.cell? ⟨b,0,none⟩=some u.val:=by simp[World.cell?,h]
 obtain⟨da,hda⟩:∃a,u.base=some a:=aP (j:=e) hu (by rw[aJ];exact he)
 refine fH Tryz.func70 [ax e,.c (.pointer (some ⟨b,0,none⟩))] ?_
 repeat' ((conv=>whnf)<;>first|(show bV ..;refine aH da e hda rfl he ?_)|(show fT ..;(first|refine yC (λR w' h=>by rw[jv (h _ (iN hc)).2];exact hc) ?_|refine kz (λR w' h=>by rw[<-hda];exact aA h hu) (j:=e) he rfl ?_))|refine aX ?_)
 all_goals(conv=>whnf)
 all_goals exact cz (λ_ _ h=>h) (λ_=>rfl) rfl
structure dD(k:Nat)(a b:fE):Prop where
 more:a.code.length<=b.code.length
 few:b.code.length<=a.code.length+k
 aF:b.aF.length+a.code.length<=a.aF.length+b.code.length
 inputs:b.inputs.length+a.code.length<=a.inputs.length+b.code.length
theorem dD.refl(a:fE):dD 0 a a:=⟨Nat.le_refl _,Nat.le_refl _,Nat.le_refl _,Nat.le_refl _⟩
theorem dD.trans{j k:Nat}{a b c:fE}(h1:dD j a b)(h2:dD k b c):dD (j+k) a c:=by
 obtain⟨a1,a2,a3,a4⟩:=h1
 obtain⟨b1,b2,b3,b4⟩:=h2
 exact⟨by omega,by omega,by omega,by omega⟩
theorem dD.mono{j k:Nat}{a b:fE}(h:dD j a b)(hk:j<=k):dD k a b:=by
 obtain⟨a1,a2,a3,a4⟩:=h
 exact⟨by omega,by omega,by omega,by omega⟩
theorem dD.lay(s:fE)(op a b k:Int):dD 1 s (bP s op a b k).1:=by
 have e:(bP s op a b k).1.code.length=s.code.length+1:=by simp[bP]
 exact⟨by omega,by omega,by rw[e];show s.aF.length+_<=_;omega,by rw[e];show s.inputs.length+_<=_;omega⟩
theorem Qv(s:fE)(r:List Int):(gm s r).1.code=s.code/\(gm s r).1.inputs=s.inputs/\(gm s r).1.aF.length<=s.aF.length+1:=by
 unfold gm
 split
 ·exact⟨rfl,rfl,Nat.le_succ _⟩
 ·exact⟨rfl,rfl,by simp⟩
theorem dD.plain(s:fE)(r:List Int)(op a b k:Int):dD 1 s (bP (gm s r).1 op a b k).1:=by
 obtain⟨h1,h2,h3⟩:=Qv s r
 have e:(bP (gm s r).1 op a b k).1.code.length=s.code.length+1:=by simp[bP,h1]
 exact⟨by omega,by omega,by rw[e];show(gm s r).1.aF.length+_<=_;omega,by rw[e];show(gm s r).1.inputs.length+_<=_;rw[h2];omega⟩
theorem dD.add(s:fE)(m:Option Int)(v:Int):dD 1 s (lI s m v).1:=by
 cases m with
 |none=>exact(dD.refl s).mono (Nat.zero_le _)
 |some a=>exact .lay _ _ _ _ _
theorem dD.turn(s:fE)(t:Int->Option Int)(x:Int)(i:Nat):dD 1 s (p9 s t x i).1:=by
 unfold p9
 split
 ·exact(dD.refl s).mono (Nat.zero_le _)
 ·exact .lay _ _ _ _ _
theorem dD.inner(n base:Nat)(x:Int)(y:oH)(i:Nat)(d:List Int):dD 3 y.s (rG n base x y i d).s:=by
 unfold rG
 split
 ·exact(dD.refl _).mono (Nat.zero_le _)
 ·exact((dD.turn y.s y.t x i).trans (dD.plain _ _ _ _ _ _)).trans (dD.add _ _ _)
theorem dD.Zb(n base:Nat)(x:Int):∀(l:List (List Int)) (i:Nat) (y:oH),dD (3*l.length) y.s (m_ n base x l i y).s
 |[],_,y=>dD.refl _
 |d::r,i,y=>by
  have h1:=dD.inner n base x y i d
  have h2:=dD.Zb n base x r (i+1) (rG n base x y i d)
  exact(h1.trans h2).mono Ze
theorem dD.giant(n base:Nat)(x:Int)(y:oH)(ds:List (List Int)):dD (3*ds.length+2) y.s (sU n base x y ds).s:=by
 have h:=dD.Zb n base x ds 0 ⟨y.s,y.t,none⟩
 unfold sU
 dsimp only
 split
 ·exact h.mono aa
 ·refine h.trans (k:=2) ?_
  split
  ·exact(dD.lay _ _ _ _ _).trans (dD.add _ _ _)
  ·exact(dD.add _ _ _).mono aa
theorem dD.Y5(n g:Nat)(x:Int)(all:List (List Int))(hg:1<=g)(hl:all.length<=n):∀(f base:Nat) (y:oH),dD (5*(n-base)) y.s (kI n g x all f base y).s
 |0,base,y=>(dD.refl _).mono (Nat.zero_le _)
 |f+1,base,y=>by
  unfold kI
  split
  ·rename_i hb
   have h1:=dD.giant n base x y ((all.drop base).take (min n (base+g)-base))
   have h2:=dD.Y5 n g x all hg hl f (base+g) (sU n base x y ((all.drop base).take (min n (base+g)-base)))
   refine(h1.trans h2).mono ?_
   have:((all.drop base).take (min n (base+g)-base)).length<=min n (base+g)-base:=by rw[List.length_take];omega
   omega
  ·exact(dD.refl _).mono (Nat.zero_le _)
theorem Ny:∀(f n g:Nat),1<=g->1<=stepG f n g
 |0,_,_,h=>h
 |f+1,n,g,h=>by
  unfold stepG
  split
  ·exact Ny f n (2*g) aa
  ·exact h
theorem RX(b:Bool)(n:Nat)(hn:1<=n):1<=oK b n:=by
 unfold oK
 split
 ·exact Ny _ _ _ (Nat.le_refl _)
 ·exact hn
theorem dD.rows(n:Nat)(b:Bool)(s:fE)(x:Int)(all:List (List Int))(hn:1<=n)(hl:all.length<=n):dD (5*n+1) s (jm n b s x all).1:=by
 have h:=dD.Y5 n (oK b n) x all (RX b n hn) hl n 0 ⟨s,mU x,none⟩
 unfold jm
 dsimp only
 split
 ·exact h.trans (dD.plain _ _ _ _ _ _)
 ·exact h.mono aa
def up:Nat->Int->Int->Int
 |0,_,p=>p
 |k+1,size,p=>if p<size then up k size (p*2)else p
def KZ(xs:List Int)(aR:Int):Int:=if aR=1/\xs.length=3 then xs.getD 1 0*xs.getD 2 0 else az xs
def Ct(xs:List Int)(aR:Int):Int:=if aR=1/\xs.length=3 then up 7 (xs.getD 1 0*xs.getD 2 0) 1 else az xs
def gT(size y9:Int)(i:Nat):Int:=(i:Int)/size*y9+i%size
def iD(size y9:Int)(k:Nat):List Int:=(List.range k).map (gT size y9)
def gz(xs:List Int)(aR aj:Int):List Int×Int:=
 if az xs=0\/aR<0\/1<aR then([],4)
 else if aj<=gT (KZ xs aR) (Ct xs aR) ((az xs).toNat-1)then([],7)
 else(iD (KZ xs aR) (Ct xs aR) (az xs).toNat,0)
theorem dU(size y9:Int)(k:Nat):(iD size y9 k).length=k:=by simp[iD]
theorem pI(size y9:Int)(k:Nat):iD size y9 (k+1)=iD size y9 k++[gT size y9 k]:=by simp[iD,List.range_succ]
theorem Al(size y9:Int){k i:Nat}(h:i<k):(iD size y9 k).getD i 0=gT size y9 i:=by simp[iD,List.getD,h]
theorem aiz:∀(k:Nat) (size p:Int),1<=p->p*2^k=128->size<=64->size<=up k size p/\1<=up k size p/\up k size p<=128
 |0,size,p,h1,h2,h3=>by
  have:p=128:=by simpa using h2
  simp only[up];omega
 |k+1,size,p,h1,h2,h3=>by
  rw[up]
  split
  ·exact aiz k size (p*2) aa (by rw[Int.mul_assoc,<-Int.pow_succ'];exact h2) h3
  ·refine⟨by omega,by omega,?_⟩
   have h4:(1:Int)<=2^(k+1):=by have:(0:Int)<2^(k+1):=Int.pow_pos aY;omega
   have:p*1<=p*2^(k+1):=Int.mul_le_mul_of_nonneg_left h4 aa
   omega
theorem MV{xs:List Int}(h:az xs≠0)(h3:xs.length=3):az xs=xs.getD 0 0*(xs.getD 1 0*xs.getD 2 0)/\1<=xs.getD 0 0/\1<=xs.getD 1 0/\1<=xs.getD 2 0:=by
 match xs,h3 with
 |[a,b,c],_=>
  have h0:az [a,b,c]=fF 1 [a,b,c]:=by unfold az;rfl
  rw[h0]at h|-
  simp only[fF]at h|-
  split at h
  ·exact absurd rfl h
  split at h
  ·exact absurd rfl h
  split at h
  ·exact absurd rfl h
  rename_i g1 g2 g3
  rw[if_neg g1,if_neg g2,if_neg g3]
  refine⟨?_,?_,?_,?_⟩
  ·show 1*a*b*c=a*(b*c)
   rw[Int.one_mul,Int.mul_assoc]
  all_goals simp only[List.getD_cons_zero,List.getD_cons_succ];omega
theorem FL{xs:List Int}{aR:Int}(h:az xs≠0):∃c s p:Nat,az xs=(c*s:Nat)/\KZ xs aR=s/\Ct xs aR=p/\1<=c/\1<=s/\s<=p/\p<=128/\c*s<=64/\c<=64/\s<=64/\(¬(aR=1/\xs.length=3)->c=1/\s=p):=by
 have hb:=dQ xs
 by_cases h1:aR=1/\xs.length=3
 ·obtain⟨e,h2,h3,h4⟩:=MV h h1.2
  obtain⟨a,ha⟩:=Int.eq_ofNat_of_zero_le (show 0<=xs.getD 0 0 by omega)
  obtain⟨b,hb'⟩:=Int.eq_ofNat_of_zero_le (show 0<=xs.getD 1 0 by omega)
  obtain⟨c,hc⟩:=Int.eq_ofNat_of_zero_le (show 0<=xs.getD 2 0 by omega)
  rw[KZ,Ct,if_pos h1,if_pos h1]
  rw[ha,hb',hc]at e
  rw[ha]at h2
  rw[hb']at h3|-
  rw[hc]at h4|-
  have e2:(b:Int)*(c:Int)=((b*c:Nat):Int):=by simp
  have e3:(a:Int)*((b:Int)*(c:Int))=((a*(b*c):Nat):Int):=by simp
  rw[e3]at e
  rw[e2]
  have hbc:1<=b*c:=Nat.mul_pos aa aa
  have hle:a*(b*c)<=64:=by omega
  have hsl:b*c<=a*(b*c):=Nat.le_mul_of_pos_left _ aa
  have hal:a<=a*(b*c):=Nat.le_mul_of_pos_right _ hbc
  obtain⟨u1,u2,u3⟩:=aiz 7 ((b*c:Nat):Int) 1 aY aY aa
  obtain⟨p,hp⟩:=Int.eq_ofNat_of_zero_le (show 0<=up 7 ((b*c:Nat):Int) 1 by omega)
  exact⟨a,b*c,p,e,rfl,hp,by omega,hbc,by omega,by omega,hle,by omega,by omega,λg=>absurd h1 g⟩
 ·obtain⟨n,hn⟩:=Int.eq_ofNat_of_zero_le hb.1
  rw[KZ,Ct,if_neg h1,if_neg h1,hn]
  rw[hn]at h hb
  exact⟨1,n,n,by simp,rfl,rfl,by decide,by omega,by omega,by omega,by omega,by omega,by omega,λ_=>⟨rfl,rfl⟩⟩
theorem EZ{c i s p:Nat}(h:i<s):gT s p (c*s+i)=(c*p+i:Nat):=by
 have hs:0<s:=by omega
 have e1:((c*s+i:Nat):Int)/(s:Int)=(c:Int):=by
  rw[<-Int.natCast_ediv,Nat.add_comm,Nat.add_mul_div_right _ _ hs,Nat.div_eq_of_lt h,Nat.zero_add]
 have e2:((c*s+i:Nat):Int)%(s:Int)=(i:Int):=by
  rw[<-Int.natCast_emod,Nat.add_comm,Nat.add_mul_mod_self_right,Nat.mod_eq_of_lt h]
 rw[gT,e1,e2];simp
theorem oM{s p:Nat}(i:Nat):gT s p i=((i/s*p+i%s:Nat):Int):=by simp[gT]
theorem Ns{s p i:Nat}(hs:1<=s)(hp:s<=p):gT s p i<gT s p (i+1):=by
 rw[oM,oM,Int.ofNat_lt]
 have h1:=Nat.div_add_mod i s
 have h2:=Nat.mod_lt i (show s>0 by omega)
 rcases Nat.lt_or_ge (i%s+1) s with h|h
 ·have e1:(i+1)/s=i/s:=by
   have:i+1=i%s+1+(i/s)*s:=by rw[Nat.mul_comm];omega
   rw[this,Nat.add_mul_div_right _ _ aa,Nat.div_eq_of_lt h,Nat.zero_add]
  have e2:(i+1)%s=i%s+1:=by
   have:i+1=i%s+1+(i/s)*s:=by rw[Nat.mul_comm];omega
   rw[this,Nat.add_mul_mod_self_right,Nat.mod_eq_of_lt h]
  rw[e1,e2];omega
 ·have e3:i+1=(i/s+1)*s:=by rw[Nat.succ_mul,Nat.mul_comm];omega
  have e1:(i+1)/s=i/s+1:=by rw[e3,Nat.mul_div_cancel _ aa]
  have e2:(i+1)%s=0:=by rw[e3,Nat.mul_mod_left]
  rw[e1,e2,Nat.succ_mul];omega
theorem Ar{s p:Nat}(hs:1<=s)(hp:s<=p):∀{i j:Nat},i<=j->gT s p i<=gT s p j:=by
 intro i j h
 induction h with
 |refl=>exact Int.le_refl _
 |step _ ih=>exact Int.le_trans ih (Int.le_of_lt (Ns hs hp))
theorem rO{s p i n:Nat}(hs:1<=s)(hp:s<=p)(hi:i<n)(hn:n<=64)(hp2:p<=128):0<=gT s p i/\gT s p i<=10000:=by
 rw[oM]
 have h1:i/s<=i:=Nat.div_le_self _ _
 have h2:=Nat.mod_lt i (show s>0 by omega)
 have h3:i/s*p<=64*128:=Nat.mul_le_mul aa hp2
 have h4:=Nat.mod_le i s
 omega
section
def xy(w:World)(r:List Int×Int):Ending->World->Prop:=λe w'=>∃x:au,(x.xs=r.1/\x.bq)/\e= .returned (.tuple #[x.val,.int .i64 r.2])/\Ext w w'/\(bE x).holds (λb=>w.heap.size<=b/\b<w'.heap.size) w'
variable {w:World} {B:Base} {H:Heap} {S:bN} {nx:Nat} {r:List Int×Int}
theorem ny{er:Int}(hb:∀R w',S.holds R w'->(aO B.w0).holds R w')(hw0:B.w0=w)(hr:r=([],er)):jI B (.sN [.c (.slice none 0 0),ax er]) H S nx (xy w r):=by
 subst hw0 hr
 refine dH λρ w' hw=>⟨⟨none,0,[]⟩,⟨rfl,⟨λ_ h=>kP,Nat.le_refl _,by decide⟩⟩,rfl,aZ hw hb,⟨λ_ h=>kP,.inl rfl⟩⟩
variable {i m:Nat}
theorem uN{l:List Int}(hb:∀R w',S.holds R w'->(aO B.w0).holds R w')(hw0:B.w0=w)(hm:m=l.length)(hf:∀x∈l,i64 x)(hl:l.length<=1000000)(hi:(i,bZ.rows (aN l) 1 3)∈H)(hr:r=(l,0)):
 jI B (.sN [.os i m,ax 0]) H S nx (xy w r):=by
 subst hw0 hm hr
 refine dH λρ w' hw=> ?_
 have hn:=dK hw hb hi
 rw[aJ]at hn
 obtain⟨u,e,h1,h2,h3⟩:=uD hn hf hl
 refine⟨u,⟨h1,h2⟩,?_,aZ hw hb,h3⟩
 have:(SV.sN [.os i l.length,ax 0]).rf ρ= .tuple #[(SV.os i l.length).rf ρ,.int .i64 0]:=rfl
 rw[this,e]
variable {K:Int->Prop}
theorem je{z:Int}(y:Int)(h:z=y)(h1: -9223372036854775808<=y)(h2:y<=9223372036854775807)(hk:K y):iL .i64 z K:=by
 subst h;exact wrap_i64 h1 h2 hk
variable {q:Int}
theorem IZ{x y:Int}(e:x/y=q)(h0:0<=x)(h1:x<=9223372036854775807)(hy:0<y)(h:K q):wK .i64 x y K:=div_pos rfl h0 h1 hy YH
theorem rR(xs:List Int)(x:Int)(hm:m=xs.length){T:TypeId}:(i,bZ.rows (aN (xs++[x])) 1 T)∈(i,bZ.rows (List.take m (aN xs)++[[.int .i64 x]]) 1 T)::H:=by
 subst hm
 rw[show aN (xs++[x])=List.take xs.length (aN xs)++[[.int .i64 x]] by rw[List.take_of_length_le N7];simp[aN]]
 exact List.mem_cons_self
theorem rC{s p n:Nat}(hs:1<=s)(hp:s<=p)(hn:n<=64)(hp2:p<=128):∀x∈iD s p n,i64 x:=λx hx=>by
 obtain⟨i,hi,rfl⟩:=List.mem_map.1 hx
 have:=rO hs hp (List.mem_range.1 hi) hn hp2
 exact⟨by omega,by omega⟩
variable {k:Nat} {size:Int}
theorem Zv(h:¬q<size):up k size q=q:=by cases k<;>simp[up,h]
theorem Y6(h:q<size)(h64:size<=64)(e:q*2^k=128):∃k',k=k'+1/\up k size q=up k' size (q*2)/\q*2*2^k'=128:=by
 cases k with
 |zero=>simp at e;omega
 |succ k=>exact⟨k,rfl,by simp[up,h],by rw[Int.mul_assoc,<-Int.pow_succ'];exact e⟩
theorem aby(w:World)(u:au)(hx:bu w u.base 1 (aN u.xs))(aR aj:Int):Calls Tryz.prog 25 #[u.val,.int .i64 aR,.int .i64 aj] w (xy w (gz u.xs aR aj)):=by
 by_cases hA:az u.xs=0\/aR<0\/1<aR
 ·refine fH Tryz.func25 [.c u.val,ax aR,ax aj] ?_
  repeat' ((conv=>whnf)<;>first|(show aI _ 61 ..;refine aQ (f:=61) Tryz.call61 (.int .i64 (az u.xs)) (λρ w' hw=>nJ w' u.base u.cap u.xs (ae hw λR h=>aA h hx)) ?_)|refine bn ?_|refine ag ?_ ?_<;>intro _)
  all_goals(conv=>whnf)
  all_goals first|(exfalso;omega)|skip
  all_goals exact ny (λ_ _ h=>h) rfl (by rw[gz,if_pos hA])
 ·obtain⟨c,s,p,hcs,hs,hp,hc1,hs1,hsp,hp2,Co,U1,aa6,hel⟩:=FL (xs:=u.xs) (aR:=aR) aa
  have hdef:gz u.xs aR aj=if aj<=gT s p (c*s-1)then([],7)else(iD s p (c*s),0):=by
   rw[gz,if_neg hA,hs,hp,hcs,Int.toNat_natCast]
  obtain⟨n,hn⟩:∃n,c*s=n:=⟨_,rfl⟩
  have hn1:1<=n:=by rw[<-hn];exact Nat.mul_pos hc1 hs1
  rw[hn]at hdef hcs Co
  have hq:((n:Nat):Int)/(s:Int)=c:=by rw[<-hn,<-Int.natCast_ediv,Nat.mul_div_cancel _ aa]
  rw[hdef]
  have hent:∀{ρ:Nat->SX.Loc} {w':World} {nx:Nat} {H:Heap},eD ⟨w,[]⟩ ρ nx H (aO w) w'->Calls Tryz.prog 61 #[u.val] w' λe w2=>e= .returned (.int .i64 (n:Nat))/\Ext w' w2:=λhw=>by
   have:=nJ _ u.base u.cap u.xs (ae hw λR h=>aA h hx)
   rw[hcs]at this;exact this
  by_cases h1:aR=1/\u.xs.length=3
  ·obtain⟨ua,jD⟩:∃a,u.base=some a:=aP (j:=0) hx vK
   have hur:∀(R:Nat->Prop) w',(aO w).holds R w'->bu w' (some ua) 1 (aN u.xs):=λR w' h=>by rw[<-jD];exact aA h hx
   rw[KZ,if_pos h1]at hs
   rw[Ct,if_pos h1,hs]at hp
   refine fH Tryz.func25 [.c u.val,ax aR,ax aj] ?_
   repeat' ((conv=>whnf)<;>first|(show aI _ 61 ..;refine aQ (f:=61) Tryz.call61 (.int .i64 (n:Nat)) (λρ w' hw=>hent hw) ?_)|(show bV ..;(first|refine aH ua 1 jD rfl aa ?_|refine aH ua 2 jD rfl aa ?_))|(show fT ..;(first|refine bY hur (j:=1) aa ?_|refine bY hur (j:=2) aa ?_))|(show iL ..;refine je (s:Int) hs aa aa ?_)|refine bn ?_|refine ag ?_ ?_<;>intro _)
   all_goals(conv=>whnf)
   refine Wp.loop (σ:=Nat×Nat) 0 (λ⟨q,k⟩=>[(2,ax aj),(8,ax (n:Nat)),(9,ax (s:Nat)),(10,ax q)]) (λ_=>[]) (λ_=>aO w)
    (λ⟨q,k⟩=>(q:Int)*2^k=128/\1<=q/\up k s q=p) (λx=>x.2) (1,7) [] aY (λs=>⟨rfl,rfl⟩) ⟨by decide,by decide,hp⟩ ⟨rfl,⟨rfl,rfl,rfl,rfl,trivial⟩,trivial,λ_ _ h=>h⟩ ?_
   rintro⟨q,k⟩ ⟨hq1,hq2,hq3⟩
   by_cases hqs:(q:Int)<s
   ·obtain⟨k',rfl,hk2,hk3⟩:=Y6 hqs aa hq1
    repeat' ((conv=>whnf)<;>first|(show iL ..;refine je ((q*2:Nat):Int) fP aa aa ?_)|refine bn ?_|refine ag ?_ ?_<;>intro _)
    all_goals(conv=>whnf)
    exact⟨(q*2,k'),[],⟨by simpa using hk3,by show 1<=q*2;omega,by rw[<-hq3,hk2];simp⟩,Nat.lt_succ_self _,rfl,bM,trivial,λ_ _ h=>h⟩
   ·rw[Zv hqs]at hq3
    have hqp:p=q:=by omega
    subst hqp
    repeat' ((conv=>whnf)<;>first|(show mJ ..;(refine RZ 0 n rfl rfl (Nat.zero_le _) DI aa ?_))|(show wK ..;refine IZ hq aa aa aa ?_)|refine bn ?_|refine ag ?_ ?_<;>intro _)
    all_goals(conv=>whnf)
    refine Wp.loop (σ:=Nat×Nat) 2 (λx=>[(2,ax aj),(8,ax (n:Nat)),(9,ax (s:Nat)),(10,ax (p:Nat)),(11,.os 1 x.2),(51,ax (c:Nat)),(52,ax x.1)]) (λx=>[(1,.rows (aN (iD s p x.2)) 1 3)]) (λ_=>aO w)
     (λx=>x.1<=c/\x.2=x.1*s) (λx=>c-x.1) (0,0) [(1,some 0)] aY (λ_=>⟨rfl,rfl⟩) ⟨Nat.zero_le _,(Nat.zero_mul s).symm⟩ ⟨rfl,⟨rfl,rfl,rfl,rfl,rfl,rfl,rfl,trivial⟩,⟨List.mem_cons_self,trivial⟩,λ_ _ h=>h⟩ ?_
    rintro⟨cc,m⟩ ⟨hcc,hm⟩
    dsimp only at hcc hm
    by_cases hlt:cc<c
    ·repeat' ((conv=>whnf)<;>first|refine bn ?_|refine ag ?_ ?_<;>intro _)
     all_goals(conv=>whnf)
     have hcp:cc*p<=64*128:=Nat.mul_le_mul aa hp2
     have hms:cc*s+s<=c*s:=by rw[<-Nat.succ_mul];exact Nat.mul_le_mul_right s hlt
     refine Wp.loop (σ:=Nat×Nat) 3 (λx=>[(2,ax aj),(8,ax (n:Nat)),(9,ax (s:Nat)),(10,ax (p:Nat)),(11,.os 2 x.2),(51,ax (c:Nat)),(52,ax cc),(12,ax cc),(55,ax (s:Nat)),(56,ax x.1)]) (λx=>[(2,.rows (aN (iD s p x.2)) 1 3)]) (λ_=>aO w)
      (λx=>x.1<=s/\x.2=cc*s+x.1) (λx=>s-x.1) (0,m) [(2,some 1)] aY (λ_=>⟨rfl,rfl⟩) ⟨Nat.zero_le _,hm⟩ ⟨rfl,⟨rfl,rfl,rfl,rfl,rfl,rfl,rfl,rfl,rfl,rfl,trivial⟩,⟨List.mem_cons_self,trivial⟩,λ_ _ h=>h⟩ ?_
     rintro⟨i,k⟩ ⟨hi,hk⟩
     dsimp only at hi hk
     by_cases Gm:i<s
     ·have hpl:(((cc*p:Nat):Int)+(i:Int))=gT s p k:=by rw[hk,EZ Gm];simp
      have hrl:=dU s p k
      repeat' ((conv=>whnf)<;>first|(show iL ..;(first|refine je ((cc*p:Nat):Int) (Int.natCast_mul cc p).symm aa aa ?_|refine je (gT s p k) hpl aa aa ?_|refine wrap_i64 aa aa ?_))|refine RN ?_|refine aeH ?_|refine bn ?_|refine ag ?_ ?_<;>intro _)
      all_goals(conv=>whnf)
      exact⟨(i+1,k+1),[(2,some 4)],⟨Gm,by show k+1=cc*s+(i+1);omega⟩,by show s-(i+1)<s-i;omega,rfl,bM,⟨by show(4,bZ.rows (aN (iD s p (k+1))) 1 3)∈_;rw[pI];exact rR _ _ (dU s p k).symm,trivial⟩,λ_ _ h=>h⟩
     ·repeat' ((conv=>whnf)<;>first|refine bn ?_|refine ag ?_ ?_<;>intro _)
      all_goals(conv=>whnf)
      exact⟨(cc+1,k),[(1,some 2)],⟨hlt,by show k=(cc+1)*s;rw[Nat.succ_mul];omega⟩,by show c-(cc+1)<c-cc;omega,rfl,bM,⟨List.mem_cons_self,trivial⟩,λ_ _ h=>h⟩
    ·have ae1:cc=c:=by omega
     rw[ae1,hn]at hm
     have hpb:=rO (i:=n-1) (n:=n) hs1 hsp aa Co hp2
     have hlast:=Al s p (k:=n) (i:=n-1) aa
     have hll:=dU s p n
     have hm':=hm.symm
     subst hm'
     repeat' ((conv=>whnf)<;>first|refine adh ?_|(show mq ..;refine qZ (xs:=iD s p n) (j:=n-1) aa ?_)|refine bn ?_|refine ag ?_ ?_<;>intro _)
     all_goals(conv=>whnf)
     ·exact ny (λ_ _ h=>h) rfl (if_pos aa)
     ·exact uN (i:=1) (λ_ _ h=>h) rfl hll.symm (rC hs1 hsp Co hp2) aa aU (if_neg aa)
  ·obtain⟨hc,ajc⟩:=hel h1
   have hns:n=s:=by rw[<-hn,hc,Nat.one_mul]
   subst ajc
   subst hns
   refine fH Tryz.func25 [.c u.val,ax aR,ax aj] ?_
   repeat' ((conv=>whnf)<;>first|(show aI _ 61 ..;refine aQ (f:=61) Tryz.call61 (.int .i64 (n:Nat)) (λρ w' hw=>hent hw) ?_)|(show mJ ..;(refine RZ 0 n rfl rfl (Nat.zero_le _) DI aa ?_))|(show wK ..;refine IZ (q:=(c:Int)) hq aa aa aa ?_)|refine bn ?_|refine ag ?_ ?_<;>intro _)
   all_goals(conv=>whnf)
   ·skip
    refine Wp.loop (σ:=Nat×Nat) 2 (λx=>[(2,ax aj),(8,ax (n:Nat)),(9,ax (n:Nat)),(10,ax (n:Nat)),(11,.os 1 x.2),(51,ax (c:Nat)),(52,ax x.1)]) (λx=>[(1,.rows (aN (iD n n x.2)) 1 3)]) (λ_=>aO w)
     (λx=>x.1<=c/\x.2=x.1*n) (λx=>c-x.1) (0,0) [(1,some 0)] aY (λ_=>⟨rfl,rfl⟩) ⟨Nat.zero_le _,(Nat.zero_mul n).symm⟩ ⟨rfl,⟨rfl,rfl,rfl,rfl,rfl,rfl,rfl,trivial⟩,⟨List.mem_cons_self,trivial⟩,λ_ _ h=>h⟩ ?_
    rintro⟨cc,m⟩ ⟨hcc,hm⟩
    dsimp only at hcc hm
    by_cases hlt:cc<c
    ·repeat' ((conv=>whnf)<;>first|refine bn ?_|refine ag ?_ ?_<;>intro _)
     all_goals(conv=>whnf)
     have hcp:cc*n<=64*128:=Nat.mul_le_mul aa hp2
     have hms:cc*n+n<=c*n:=by rw[<-Nat.succ_mul];exact Nat.mul_le_mul_right n hlt
     refine Wp.loop (σ:=Nat×Nat) 3 (λx=>[(2,ax aj),(8,ax (n:Nat)),(9,ax (n:Nat)),(10,ax (n:Nat)),(11,.os 2 x.2),(51,ax (c:Nat)),(52,ax cc),(12,ax cc),(55,ax (n:Nat)),(56,ax x.1)]) (λx=>[(2,.rows (aN (iD n n x.2)) 1 3)]) (λ_=>aO w)
      (λx=>x.1<=n/\x.2=cc*n+x.1) (λx=>n-x.1) (0,m) [(2,some 1)] aY (λ_=>⟨rfl,rfl⟩) ⟨Nat.zero_le _,hm⟩ ⟨rfl,⟨rfl,rfl,rfl,rfl,rfl,rfl,rfl,rfl,rfl,rfl,trivial⟩,⟨List.mem_cons_self,trivial⟩,λ_ _ h=>h⟩ ?_
     rintro⟨i,k⟩ ⟨hi,hk⟩
     dsimp only at hi hk
     by_cases Gm:i<n
     ·have hpl:(((cc*n:Nat):Int)+(i:Int))=gT n n k:=by rw[hk,EZ Gm];simp
      have hrl:=dU n n k
      repeat' ((conv=>whnf)<;>first|refine ahz ?_|refine RN ?_|refine aeH ?_|refine bn ?_|refine ag ?_ ?_<;>intro _)
      all_goals(conv=>whnf)
      exact⟨(i+1,k+1),[(2,some 4)],⟨Gm,by show k+1=cc*n+(i+1);omega⟩,by show n-(i+1)<n-i;omega,rfl,bM,⟨by show(4,bZ.rows (aN (iD n n (k+1))) 1 3)∈_;rw[pI];exact rR _ _ (dU n n k).symm,trivial⟩,λ_ _ h=>h⟩
     ·repeat' ((conv=>whnf)<;>first|refine bn ?_|refine ag ?_ ?_<;>intro _)
      all_goals(conv=>whnf)
      exact⟨(cc+1,k),[(1,some 2)],⟨hlt,by show k=(cc+1)*n;rw[Nat.succ_mul];omega⟩,by show c-(cc+1)<c-cc;omega,rfl,bM,⟨List.mem_cons_self,trivial⟩,λ_ _ h=>h⟩
    ·have ae1:cc=c:=by omega
     rw[ae1,hn]at hm
     have hpb:=rO (i:=n-1) (n:=n) hs1 hsp aa Co hp2
     have hlast:=Al n n (k:=n) (i:=n-1) aa
     have hll:=dU n n n
     have hm':=hm.symm
     subst hm'
     repeat' ((conv=>whnf)<;>first|refine adh ?_|(show mq ..;refine qZ (xs:=iD n n n) (j:=n-1) aa ?_)|refine bn ?_|refine ag ?_ ?_<;>intro _)
     all_goals(conv=>whnf)
     ·exact ny (λ_ _ h=>h) rfl (if_pos aa)
     ·exact uN (i:=1) (λ_ _ h=>h) rfl hll.symm (rC hs1 hsp Co hp2) aa aU (if_neg aa)
   ·skip
    refine Wp.loop (σ:=Nat×Nat) 2 (λx=>[(2,ax aj),(8,ax (n:Nat)),(9,ax (n:Nat)),(10,ax (n:Nat)),(11,.os 1 x.2),(51,ax (c:Nat)),(52,ax x.1)]) (λx=>[(1,.rows (aN (iD n n x.2)) 1 3)]) (λ_=>aO w)
     (λx=>x.1<=c/\x.2=x.1*n) (λx=>c-x.1) (0,0) [(1,some 0)] aY (λ_=>⟨rfl,rfl⟩) ⟨Nat.zero_le _,(Nat.zero_mul n).symm⟩ ⟨rfl,⟨rfl,rfl,rfl,rfl,rfl,rfl,rfl,trivial⟩,⟨List.mem_cons_self,trivial⟩,λ_ _ h=>h⟩ ?_
    rintro⟨cc,m⟩ ⟨hcc,hm⟩
    dsimp only at hcc hm
    by_cases hlt:cc<c
    ·repeat' ((conv=>whnf)<;>first|refine bn ?_|refine ag ?_ ?_<;>intro _)
     all_goals(conv=>whnf)
     have hcp:cc*n<=64*128:=Nat.mul_le_mul aa hp2
     have hms:cc*n+n<=c*n:=by rw[<-Nat.succ_mul];exact Nat.mul_le_mul_right n hlt
     refine Wp.loop (σ:=Nat×Nat) 3 (λx=>[(2,ax aj),(8,ax (n:Nat)),(9,ax (n:Nat)),(10,ax (n:Nat)),(11,.os 2 x.2),(51,ax (c:Nat)),(52,ax cc),(12,ax cc),(55,ax (n:Nat)),(56,ax x.1)]) (λx=>[(2,.rows (aN (iD n n x.2)) 1 3)]) (λ_=>aO w)
      (λx=>x.1<=n/\x.2=cc*n+x.1) (λx=>n-x.1) (0,m) [(2,some 1)] aY (λ_=>⟨rfl,rfl⟩) ⟨Nat.zero_le _,hm⟩ ⟨rfl,⟨rfl,rfl,rfl,rfl,rfl,rfl,rfl,rfl,rfl,rfl,trivial⟩,⟨List.mem_cons_self,trivial⟩,λ_ _ h=>h⟩ ?_
     rintro⟨i,k⟩ ⟨hi,hk⟩
     dsimp only at hi hk
     by_cases Gm:i<n
     ·have hpl:(((cc*n:Nat):Int)+(i:Int))=gT n n k:=by rw[hk,EZ Gm];simp
      have hrl:=dU n n k
      repeat' ((conv=>whnf)<;>first|refine ahz ?_|refine RN ?_|refine aeH ?_|refine bn ?_|refine ag ?_ ?_<;>intro _)
      all_goals(conv=>whnf)
      exact⟨(i+1,k+1),[(2,some 4)],⟨Gm,by show k+1=cc*n+(i+1);omega⟩,by show n-(i+1)<n-i;omega,rfl,bM,⟨by show(4,bZ.rows (aN (iD n n (k+1))) 1 3)∈_;rw[pI];exact rR _ _ (dU n n k).symm,trivial⟩,λ_ _ h=>h⟩
     ·repeat' ((conv=>whnf)<;>first|refine bn ?_|refine ag ?_ ?_<;>intro _)
      all_goals(conv=>whnf)
      exact⟨(cc+1,k),[(1,some 2)],⟨hlt,by show k=(cc+1)*n;rw[Nat.succ_mul];omega⟩,by show c-(cc+1)<c-cc;omega,rfl,bM,⟨List.mem_cons_self,trivial⟩,λ_ _ h=>h⟩
    ·have ae1:cc=c:=by omega
     rw[ae1,hn]at hm
     have hpb:=rO (i:=n-1) (n:=n) hs1 hsp aa Co hp2
     have hlast:=Al n n (k:=n) (i:=n-1) aa
     have hll:=dU n n n
     have hm':=hm.symm
     subst hm'
     repeat' ((conv=>whnf)<;>first|refine adh ?_|(show mq ..;refine qZ (xs:=iD n n n) (j:=n-1) aa ?_)|refine bn ?_|refine ag ?_ ?_<;>intro _)
     all_goals(conv=>whnf)
     ·exact ny (λ_ _ h=>h) rfl (if_pos aa)
     ·exact uN (i:=1) (λ_ _ h=>h) rfl hll.symm (rC hs1 hsp Co hp2) aa aU (if_neg aa)
end
theorem yu{s p n:Nat}{aj:Int}(hs:1<=s)(hp:s<=p){i:Nat}(hi:i<n)(h:aj<=gT s p i):aj<=gT s p (n-1):=Int.le_trans h (Ar hs hp aa)
theorem Ri{x y q:Int}{K:Int->Prop}(h0:0<=x)(hy:y≠0)(e:x%y=q)(h:K q):CQ x y K:=Ih h0 hy YH
theorem PW(w:World)(u:au)(hx:bu w u.base 1 (aN u.xs))(aR aj:Int):Calls Tryz.prog 35 #[u.val,.int .i64 aR,.int .i64 aj] w (xy w (gz u.xs aR aj)):=by
 by_cases hA:az u.xs=0\/aR<0\/1<aR
 ·refine fH Tryz.func35 [.c u.val,ax aR,ax aj] ?_
  repeat' ((conv=>whnf)<;>first|(show aI _ 42 ..;refine aQ (f:=42) Tryz.call42 (.int .i64 (az u.xs)) (λρ w' hw=>jq w' u.base u.cap u.xs (ae hw λR h=>aA h hx)) ?_)|refine bn ?_|refine ag ?_ ?_<;>intro _)
  all_goals(conv=>whnf)
  all_goals first|(exfalso;omega)|skip
  all_goals exact ny (λ_ _ h=>h) rfl (by rw[gz,if_pos hA])
 ·obtain⟨c,s,p,hcs,hs,hp,hc1,hs1,hsp,hp2,Co,U1,aa6,hel⟩:=FL (xs:=u.xs) (aR:=aR) aa
  have hdef:gz u.xs aR aj=if aj<=gT s p (c*s-1)then([],7)else(iD s p (c*s),0):=by
   rw[gz,if_neg hA,hs,hp,hcs,Int.toNat_natCast]
  obtain⟨n,hn⟩:∃n,c*s=n:=⟨_,rfl⟩
  have hn1:1<=n:=by rw[<-hn];exact Nat.mul_pos hc1 hs1
  rw[hn]at hdef hcs Co
  rw[hdef]
  have hent:∀{ρ:Nat->SX.Loc} {w':World} {nx:Nat} {H:Heap},eD ⟨w,[]⟩ ρ nx H (aO w) w'->Calls Tryz.prog 42 #[u.val] w' λe w2=>e= .returned (.int .i64 (n:Nat))/\Ext w' w2:=λhw=>by
   have:=jq _ u.base u.cap u.xs (ae hw λR h=>aA h hx)
   rw[hcs]at this;exact this
  by_cases h1:aR=1/\u.xs.length=3
  ·obtain⟨ua,jD⟩:∃a,u.base=some a:=aP (j:=0) hx vK
   have hur:∀(R:Nat->Prop) w',(aO w).holds R w'->bu w' (some ua) 1 (aN u.xs):=λR w' h=>by rw[<-jD];exact aA h hx
   rw[KZ,if_pos h1]at hs
   rw[Ct,if_pos h1,hs]at hp
   refine fH Tryz.func35 [.c u.val,ax aR,ax aj] ?_
   repeat' ((conv=>whnf)<;>first|(show aI _ 42 ..;refine aQ (f:=42) Tryz.call42 (.int .i64 (n:Nat)) (λρ w' hw=>hent hw) ?_)|(show bV ..;(first|refine aH ua 1 jD rfl aa ?_|refine aH ua 2 jD rfl aa ?_))|(show fT ..;(first|refine bY hur (j:=1) aa ?_|refine bY hur (j:=2) aa ?_))|(show iL ..;refine je (s:Int) hs aa aa ?_)|refine bn ?_|refine ag ?_ ?_<;>intro _)
   all_goals(conv=>whnf)
   refine Wp.loop (σ:=Nat×Nat) 0 (λ⟨q,k⟩=>[(2,ax aj),(8,ax (n:Nat)),(9,ax (s:Nat)),(10,ax q)]) (λ_=>[]) (λ_=>aO w)
    (λ⟨q,k⟩=>(q:Int)*2^k=128/\1<=q/\up k s q=p) (λx=>x.2) (1,7) [] aY (λs=>⟨rfl,rfl⟩) ⟨by decide,by decide,hp⟩ ⟨rfl,⟨rfl,rfl,rfl,rfl,trivial⟩,trivial,λ_ _ h=>h⟩ ?_
   rintro⟨q,k⟩ ⟨hq1,hq2,hq3⟩
   by_cases hqs:(q:Int)<s
   ·obtain⟨k',rfl,hk2,hk3⟩:=Y6 hqs aa hq1
    repeat' ((conv=>whnf)<;>first|(show iL ..;(refine je ((q*2:Nat):Int) (by rw[Int.natCast_mul];exact Int.mul_comm _ _) aa aa ?_))|refine bn ?_|refine ag ?_ ?_<;>intro _)
    all_goals(conv=>whnf)
    exact⟨(q*2,k'),[],⟨by simpa using hk3,by show 1<=q*2;omega,by rw[<-hq3,hk2];simp⟩,Nat.lt_succ_self _,rfl,bM,trivial,λ_ _ h=>h⟩
   ·rw[Zv hqs]at hq3
    have hqp:p=q:=by omega
    subst hqp
    repeat' ((conv=>whnf)<;>first|refine bn ?_|refine ag ?_ ?_<;>intro _)
    all_goals(conv=>whnf)
    refine Wp.loop (σ:=Nat) 2 (λm=>[(2,ax aj),(8,ax (n:Nat)),(9,ax (s:Nat)),(10,ax (p:Nat)),(11,.os 1 m),(12,ax m)]) (λm=>[(1,.rows (aN (iD s p m)) 1 3)]) (λ_=>aO w)
     (λm=>m<=n/\∀i,i<m->gT s p i<aj) (λm=>n-m) 0 [(1,none)] aY (λ_=>⟨rfl,rfl⟩) ⟨Nat.zero_le _,λi hi=>absurd hi (Nat.not_lt_zero i)⟩ ⟨rfl,⟨rfl,rfl,rfl,rfl,rfl,rfl,trivial⟩,⟨rfl,trivial⟩,λ_ _ h=>h⟩ ?_
    rintro m ⟨hm,hall⟩
    have hrl:=dU s p m
    by_cases hlt:m<n
    ·have hpb:=rO (i:=m) (n:=n) hs1 hsp hlt Co hp2
     have hpn:=oM (s:=s) (p:=p) m
     have hq1:((m/s:Nat):Int)*(p:Int)=((m/s*p:Nat):Int):=(Int.natCast_mul _ _).symm
     have hq2:m/s*p<=64*128:=Nat.mul_le_mul (Nat.le_trans (Nat.div_le_self _ _) aa) hp2
     by_cases hge:aj<=gT s p m
     ·repeat' ((conv=>whnf)<;>first|(show wK ..;refine IZ (q:=((m/s:Nat):Int)) (Int.natCast_ediv m s).symm aa aa aa ?_)|(show CQ ..;refine Ri (q:=((m%s:Nat):Int)) aa aa (Int.natCast_emod m s).symm ?_)|refine afQ ?_|refine bn ?_|refine ag ?_ ?_<;>intro _)
      all_goals(conv=>whnf)
      all_goals exact ny (λ_ _ h=>h) rfl (if_pos (yu hs1 hsp hlt hge))
     ·repeat' ((conv=>whnf)<;>first|(show wK ..;refine IZ (q:=((m/s:Nat):Int)) (Int.natCast_ediv m s).symm aa aa aa ?_)|(show CQ ..;refine Ri (q:=((m%s:Nat):Int)) aa aa (Int.natCast_emod m s).symm ?_)|refine afQ ?_|refine RN ?_|refine ZK ?_|refine bn ?_|refine ag ?_ ?_<;>intro _)
      all_goals(conv=>whnf)
      refine⟨m+1,[(1,some 3)],⟨hlt,λi hi=> ?_⟩,by show n-(m+1)<n-m;omega,rfl,bM,⟨by show(3,bZ.rows (aN (iD s p (m+1))) 1 3)∈_;rw[pI];exact rR _ _ (dU s p m).symm,trivial⟩,λ_ _ h=>h⟩
      rcases Nat.lt_or_ge i m with g|g
      ·exact hall i g
      ·obtain rfl:i=m:=by omega
       omega
    ·have hmn:n=m:=by omega
     have hlast:=hall (n-1) aa
     subst hmn
     repeat' ((conv=>whnf)<;>first|refine bn ?_|refine ag ?_ ?_<;>intro _)
     all_goals(conv=>whnf)
     exact uN (i:=1) (λ_ _ h=>h) rfl hrl.symm (rC hs1 hsp Co hp2) aa aU (if_neg aa)
  ·obtain⟨hc,ajc⟩:=hel h1
   have hns:n=s:=by rw[<-hn,hc,Nat.one_mul]
   subst ajc
   subst hns
   refine fH Tryz.func35 [.c u.val,ax aR,ax aj] ?_
   repeat' ((conv=>whnf)<;>first|(show aI _ 42 ..;refine aQ (f:=42) Tryz.call42 (.int .i64 (n:Nat)) (λρ w' hw=>hent hw) ?_)|refine bn ?_|refine ag ?_ ?_<;>intro _)
   all_goals(conv=>whnf)
   all_goals first|(exfalso;omega)|skip
   ·skip
    refine Wp.loop (σ:=Nat) 2 (λm=>[(2,ax aj),(8,ax (n:Nat)),(9,ax (n:Nat)),(10,ax (n:Nat)),(11,.os 1 m),(12,ax m)]) (λm=>[(1,.rows (aN (iD n n m)) 1 3)]) (λ_=>aO w)
     (λm=>m<=n/\∀i,i<m->gT n n i<aj) (λm=>n-m) 0 [(1,none)] aY (λ_=>⟨rfl,rfl⟩) ⟨Nat.zero_le _,λi hi=>absurd hi (Nat.not_lt_zero i)⟩ ⟨rfl,⟨rfl,rfl,rfl,rfl,rfl,rfl,trivial⟩,⟨rfl,trivial⟩,λ_ _ h=>h⟩ ?_
    rintro m ⟨hm,hall⟩
    have hrl:=dU n n m
    by_cases hlt:m<n
    ·have hpb:=rO (i:=m) (n:=n) hs1 hsp hlt Co hp2
     have hpn:=oM (s:=n) (p:=n) m
     have hq1:((m/n:Nat):Int)*(n:Int)=((m/n*n:Nat):Int):=(Int.natCast_mul _ _).symm
     have hq2:m/n*n<=64*128:=Nat.mul_le_mul (Nat.le_trans (Nat.div_le_self _ _) aa) hp2
     by_cases hge:aj<=gT n n m
     ·repeat' ((conv=>whnf)<;>first|refine aaY ?_|refine aaL ?_|refine abh ?_|refine bn ?_|refine ag ?_ ?_<;>intro _)
      all_goals(conv=>whnf)
      all_goals exact ny (λ_ _ h=>h) rfl (if_pos (yu hs1 hsp hlt hge))
     ·repeat' ((conv=>whnf)<;>first|refine aaY ?_|refine aaL ?_|refine abh ?_|refine RN ?_|refine ZK ?_|refine bn ?_|refine ag ?_ ?_<;>intro _)
      all_goals(conv=>whnf)
      refine⟨m+1,[(1,some 3)],⟨hlt,λi hi=> ?_⟩,by show n-(m+1)<n-m;omega,rfl,bM,⟨by show(3,bZ.rows (aN (iD n n (m+1))) 1 3)∈_;rw[pI];exact rR _ _ (dU n n m).symm,trivial⟩,λ_ _ h=>h⟩
      rcases Nat.lt_or_ge i m with g|g
      ·exact hall i g
      ·obtain rfl:i=m:=by omega
       omega
    ·have hmn:n=m:=by omega
     have hlast:=hall (n-1) aa
     subst hmn
     repeat' ((conv=>whnf)<;>first|refine bn ?_|refine ag ?_ ?_<;>intro _)
     all_goals(conv=>whnf)
     exact uN (i:=1) (λ_ _ h=>h) rfl hrl.symm (rC hs1 hsp Co hp2) aa aU (if_neg aa)
   ·skip
    refine Wp.loop (σ:=Nat) 2 (λm=>[(2,ax aj),(8,ax (n:Nat)),(9,ax (n:Nat)),(10,ax (n:Nat)),(11,.os 1 m),(12,ax m)]) (λm=>[(1,.rows (aN (iD n n m)) 1 3)]) (λ_=>aO w)
     (λm=>m<=n/\∀i,i<m->gT n n i<aj) (λm=>n-m) 0 [(1,none)] aY (λ_=>⟨rfl,rfl⟩) ⟨Nat.zero_le _,λi hi=>absurd hi (Nat.not_lt_zero i)⟩ ⟨rfl,⟨rfl,rfl,rfl,rfl,rfl,rfl,trivial⟩,⟨rfl,trivial⟩,λ_ _ h=>h⟩ ?_
    rintro m ⟨hm,hall⟩
    have hrl:=dU n n m
    by_cases hlt:m<n
    ·have hpb:=rO (i:=m) (n:=n) hs1 hsp hlt Co hp2
     have hpn:=oM (s:=n) (p:=n) m
     have hq1:((m/n:Nat):Int)*(n:Int)=((m/n*n:Nat):Int):=(Int.natCast_mul _ _).symm
     have hq2:m/n*n<=64*128:=Nat.mul_le_mul (Nat.le_trans (Nat.div_le_self _ _) aa) hp2
     by_cases hge:aj<=gT n n m
     ·repeat' ((conv=>whnf)<;>first|refine aaY ?_|refine aaL ?_|refine abh ?_|refine bn ?_|refine ag ?_ ?_<;>intro _)
      all_goals(conv=>whnf)
      all_goals exact ny (λ_ _ h=>h) rfl (if_pos (yu hs1 hsp hlt hge))
     ·repeat' ((conv=>whnf)<;>first|refine aaY ?_|refine aaL ?_|refine abh ?_|refine RN ?_|refine ZK ?_|refine bn ?_|refine ag ?_ ?_<;>intro _)
      all_goals(conv=>whnf)
      refine⟨m+1,[(1,some 3)],⟨hlt,λi hi=> ?_⟩,by show n-(m+1)<n-m;omega,rfl,bM,⟨by show(3,bZ.rows (aN (iD n n (m+1))) 1 3)∈_;rw[pI];exact rR _ _ (dU n n m).symm,trivial⟩,λ_ _ h=>h⟩
      rcases Nat.lt_or_ge i m with g|g
      ·exact hall i g
      ·obtain rfl:i=m:=by omega
       omega
    ·have hmn:n=m:=by omega
     have hlast:=hall (n-1) aa
     subst hmn
     repeat' ((conv=>whnf)<;>first|refine bn ?_|refine ag ?_ ?_<;>intro _)
     all_goals(conv=>whnf)
     exact uN (i:=1) (λ_ _ h=>h) rfl hrl.symm (rC hs1 hsp Co hp2) aa aU (if_neg aa)
section
theorem afe{x:a_}{D:List (List Int)}{R:Nat->Prop}{w:World}(hx:wG D x)(hl:D.length<=1000000)(h:(nM x).holds R w):x.okB w:=⟨aV h.1,λu hu=>bT (hx.bq u hu) (h.2 u hu),by have:=congrArg List.length hx.rows;rw[List.length_map]at this;omega⟩
variable {cx:Cx} {f:FuncId} {args:List SV} {H:Heap} {S:bN} {nx:Nat} {K:SV->Heap->bN->Nat->Prop}
theorem K3(r:List Int×Int)(hf:∀ar w,(callFunc f ar).run cx.P w= .ok (.enter f ar) w)
 (hc:∀ρ w,eD cx.B ρ nx H S w->Calls cx.P f (SV.eO ρ args).toArray w (xy w r)) (h:∀x:au,x.xs=r.1->x.bq->K (.c (.tuple #[x.val,.int .i64 r.2])) H (S.and ((bE x).past cx.B.w0.heap.size)) nx):aI cx f args H S nx K:=by
 refine gX hf (λx:au=> .tuple #[x.val,.int .i64 r.2]) bE (λx=>x.xs=r.1/\x.bq) (λρ w' hw=>(hc ρ w' hw).mono ?_) (λx hx=>h x hx.1 hx.2)
 rintro e w2 ⟨x,h1,h2,h3,h4⟩
 exact⟨x,h1,h2,h3,h4⟩
theorem abI(r:List (List Int)×Int)(hf:∀ar w,(callFunc f ar).run cx.P w= .ok (.enter f ar) w)
 (hc:∀ρ w,eD cx.B ρ nx H S w->Calls cx.P f (SV.eO ρ args).toArray w (zG w r.1 r.2)) (h:∀x:a_,wG r.1 x->(0<x.l.length->∃a,x.base=some a)->K (.c (.tuple #[x.val,.int .i64 r.2])) H (S.and ((nM x).past cx.B.w0.heap.size)) nx):aI cx f args H S nx K:=by
 refine gX hf (λx:a_=> .tuple #[x.val,.int .i64 r.2]) nM (λx=>wG r.1 x/\(0<x.l.length->∃a,x.base=some a)) (λρ w' hw=>(hc ρ w' hw).mono ?_) (λx hx=>h x hx.1 hx.2)
 rintro e w2 ⟨x,h1,h2,h3,h4⟩
 exact⟨x,⟨h1,λh0=>aP (j:=0) (aV h4.1) (by rw[aW];exact h0)⟩,h2,h3,h4⟩
end
section
abbrev alp:DT:=(eY [0,1,2,3,4,5,6,7,8] (.alt 9 (eY [10,11,12,13,114,15,116,17] .done) (eY [114,109,10,11,12,13,15,116,17] .done)))
abbrev amE:DT:=(eY [0,1,2,3,4,5,6,7,8,9,10,11,12,13,14,15,16,17,18,19,20,121,22,23,24,25,26] .done)
def iC(n:Nat)(giant:Bool)(s:fE)(x:Int)(r:List (List Int)×List Int)(fr to:List Int):fE×Int:=
 let q:=jm n giant s x (mW r.1 fr to n).1
 if r.2.any (λb=>decide (b≠0))=true then
  let p:=bC n q.1 to (λe=>r.2.getD e 0)
  bP p.1 4 q.2 0 p.2
 else q
def Iu(c:dN):bN:=(fC c.shapes.base 1 (aS c.shapes.l)).and (dW c.shapes.l)
abbrev ru(c:dN)(s:dw)(n:ai):bN:=(BH c s n).and (Iu c)
def n0(n:ai):ai:={n with a:=0}
variable {cx:Cx} {f:FuncId} {args:List SV} {H:Heap} {S:bN} {nx:Nat} {K:SV->Heap->bN->Nat->Prop}
theorem Wt(n:Nat)(r:List (List Int)×Int)(hf:∀ar w,(callFunc f ar).run cx.P w= .ok (.enter f ar) w)
 (hc:∀ρ w,eD cx.B ρ nx H S w->Calls cx.P f (SV.eO ρ args).toArray w (rq w n r.1 r.2)) (h:∀x:a_,wG r.1 x->YS n x->K (.c (.tuple #[x.val,.int .i64 r.2])) H (S.and ((nM x).past cx.B.w0.heap.size)) nx):aI cx f args H S nx K:=by
 refine gX hf (λx:a_=> .tuple #[x.val,.int .i64 r.2]) nM (λx=>wG r.1 x/\YS n x) (λρ w' hw=>(hc ρ w' hw).mono ?_) (λx hx=>h x hx.1 hx.2)
 rintro e w2 ⟨x,h1,h2,h3,h4⟩
 exact⟨x,h1,h2,h3,h4⟩
def adn(p:a_×au):bN:=(nM p.1).and (bE p.2)
theorem Yf(r:(List (List Int)×List Int)×Int)(hf:∀ar w,(callFunc f ar).run cx.P w= .ok (.enter f ar) w)
 (hc:∀ρ w,eD cx.B ρ nx H S w->Calls cx.P f (SV.eO ρ args).toArray w (qC w r)) (h:∀(x:a_) (y:au),wG r.1.1 x->y.xs=r.1.2->y.bq->K (.c (.tuple #[x.val,y.val,.int .i64 r.2])) H (S.and ((adn (x,y)).past cx.B.w0.heap.size)) nx):aI cx f args H S nx K:=by
 refine gX hf (λp:a_×au=> .tuple #[p.1.val,p.2.val,.int .i64 r.2]) adn (λp=>wG r.1.1 p.1/\p.2.xs=r.1.2/\p.2.bq) (λρ w' hw=>(hc ρ w' hw).mono ?_) (λp hp=>h p.1 p.2 hp.1 hp.2.1 hp.2.2)
 rintro e w2 ⟨x,y,h1,h2,h3,h4,h5⟩
 exact⟨(x,y),h1,h2,h3,h4,h5⟩
variable {R:Nat->Prop} {w:World}
theorem Vx{n:ai}(hn:n.iJ)(h:(U8 n).holds R w):n.ok w:=⟨⟨fV h.1,hn.ay.fits,hn.ay.room,hn.ay.few⟩,⟨fV h.2.1,hn.data.fits,hn.data.room,hn.data.few⟩,⟨fV h.2.2,hn.aM.fits,hn.aM.room,hn.aM.few⟩,hn.jK,hn.qO,hn.oh,hn.kH,hn.kJ,hn.jM⟩
theorem aem{n:ai}(hn:n.iJ)(h:(U8 n).holds R w):(n0 n).ok w:=by
 have:=Vx hn h
 exact⟨this.ay,this.data,this.aM,hn.jK,by show i64 0;unfold i64;omega,hn.oh,hn.kH,hn.kJ,hn.jM⟩
theorem Fg{α:Type}{f:List (List Int)->α->List (List Int)}(h:∀D a,(f D a).length=D.length):∀(l:List α) (D:List (List Int)),(l.foldl f D).length=D.length
 |[],_=>rfl
 |a::l,D=>by rw[List.foldl_cons,Fg h l,h]
theorem tX{rows:List (List Int)}{fr to:List Int}{n:Nat}(hd:oU rows fr to n):(mW rows fr to n).1.length=n:=by
 rw[mW,if_pos hd]
 show(ou _ _ _ _ _).length=n
 unfold ou
 rw[Fg]
 ·simp
 ·intro D a
  unfold Ay
  refine Fg (λD a=> ?_) _ _
  unfold qA
  split<;>simp
theorem Sb(c:dN)(s:dw)(vl:List Int)(n:ai)(i:Nat)(sh fr to:au)(r:List (List Int)×List Int)(hN:lU c s vl)(h0:0<=n.a)(ha:n.a.toNat<vl.length)(hn:n.iJ)(hsm:n.small)(hsh:c.shapes.l[n.a.toNat]? =some sh)(zk:sh.bq)(hfr:c.bO.l[n.a.toNat]? =some fr)(CX:fr.bq)(hto:c.bO.l[i]? =some to)(tF:to.bq)(hk:¬(n.ak=9/\fr.xs=to.xs))(hr:(jA (n0 n) sh).1=r)(hd:oU r.1 fr.xs to.xs c.aj)(hb:to.xs.length<=r.2.length)
 (w:World) (ρ:Nat->SX.Loc) (F:Nat->Prop) (h:iY w ρ F 2 5 (kQ c s vl) (ru c s n)):
 Calls Tryz.prog 26 (SV.eO ρ [.lp 0 0 0 0,.agg (jN n),ax i]).toArray w (oD w ρ F c s vl (iC c.aj c.giant s.pl (vl.getD n.a.toNat 0) r fr.xs to.xs)):=by
 have hcl:=hN.lW
 have hpl:=hN.qW
 have hn1:=hN.aj.1
 have hn2:=hN.aj.2
 have YV:∀{j:Nat} {u:au} {l:List au},l[j]? =some u->(aS l)[j]? =some [u.val]:=λh=>by unfold aS;rw[List.getElem?_map,h];rfl
 have ln:∀{j:Nat} {u:au} {l:List au},l[j]? =some u->j<l.length:=λh=>(List.getElem?_eq_some_iff.1 h).1
 refine Ez Tryz.func26 (mI 2 ρ) ρ [.lp 0 0 0 0,.agg (jN n),ax i] (kQ c s vl) ((ru c s n).and (gu w F)) 5 h.abs ?_
 refine Wp.know (p:=∃a,c.bO.base=some a) (λρ w' hw=>ae hw λR h=>aP (j:=i) (aV h.1.1.1.2.1) abl) ?_
 rintro⟨sa,hsa⟩
 refine Wp.know (p:=∃a,c.shapes.base=some a) (λρ w' hw=>ae hw λR h=>aP (j:=n.a.toNat) (aV h.1.2.1) (by rw[aW];exact ln hsh)) ?_
 rintro⟨ha',hha⟩
 by_cases hk9:n.ak=9
 all_goals
  repeat' ((conv=>whnf)<;>first|(show b_ _ 6 ..;refine lu [] _ alp ?_)|(show b_ _ 7 ..;refine lu [] _ amE ?_)|refine BF ?_|refine OQ ?_|(show bV ..;(first|refine aH sa n.a.toNat hsa aa (ln hfr) ?_|refine aH sa i hsa rfl (ln hto) ?_|refine aH ha' n.a.toNat hha aa (ln hsh) ?_))|(show fT ..;(first|refine bA (λR w' h=>by rw[<-hsa];first|exact aV h.1.1.1.2.1|exact aV h.1.1.1.1.2.1) _ _ (YV hfr) rfl ?_|refine bA (λR w' h=>by rw[<-hsa];first|exact aV h.1.1.1.2.1|exact aV h.1.1.1.1.2.1) _ _ (YV hto) rfl ?_|refine bA (λR w' h=>by rw[<-hha];exact aV h.1.2.1) _ _ (YV hsh) rfl ?_))|refine Oc ?_|(show mq ..;refine qZ ha ?_)|(show kE _ 62 ..;(refine iU (f:=62) Tryz.call62 (.bool false) (λρ w' hw=>by have:=q8 w' fr to (ae hw λR h=>bT CX (h.1.1.1.2.2 _ (List.mem_of_getElem? hfr))) (ae hw λR h=>bT tF (h.1.1.1.2.2 _ (List.mem_of_getElem? hto)));rw[decide_eq_false (λe=>hk ⟨hk9,e⟩)]at this;exact this) ?_))|(show aI _ 63 ..;refine Yf (jA (n0 n) sh) Tryz.call63 (λρ w' hw=>R5 w' (n0 n) sh (ae hw λR h=>aem hn h.1.1.2) ⟨hsm.data,hsm.aM⟩ (ae hw λR h=>bT zk (h.1.2.2 _ (List.mem_of_getElem? hsh)))) (λx y hx hy hys=> ?_))|(show aI _ 64 ..;(refine Wt c.aj (mW (x.l.map au.xs) fr.xs to.xs c.aj) Tryz.call64 (λρ w' hw=>abv w' x (ae hw λR h=>afe hx (by rw[hr,hd.2.2.1];exact tF.few) ((nM x).mono h.2.1 (λ_ hb=>hb.1))) fr to (ae hw λR h=>bT CX (h.1.1.1.1.2.2 _ (List.mem_of_getElem? hfr))) (ae hw λR h=>bT tF (h.1.1.1.1.2.2 _ (List.mem_of_getElem? hto))) c.aj ⟨by omega,by omega⟩) (λd hdx hdn=> ?_)))|refine bn ?_|refine And.intro ?_ ?_)
 all_goals
  have hdl:d.l.length=c.aj:=by have:=congrArg List.length hdx.rows;rw[List.length_map,hx.rows,hr,tX hd]at this;exact this
  have hDr:d.l.map au.xs=(mW r.1 fr.xs to.xs c.aj).1:=by rw[hdx.rows,hx.rows,hr]
  have hG:=dD.rows c.aj c.giant s.pl (vl.getD n.a.toNat 0) (d.l.map au.xs) hn1 aaw
  refine dV [(7,.box [.c y.val] 32),(6,.box [ax n.ak,ax 0,ax n.b,.c n.ay.val,ax n.lo,ax n.hi,ax n.size,.c n.data.val,.c n.aM.val] 41),(5,.box (cs n.cells) 41)] 0 1 2 3 4 c s vl ((dW s.aF).and (nM d)) [.lp 0 0 0 0,ax (vl.getD n.a.toNat 0),.c d.val] _ _ _ _ Tryz.call65 rfl rfl rfl (λR w' h=>⟨h.1.1.1.1.1.1,(nM d).mono h.2 (λ_ hb=>hb.1)⟩) (dZ w F) (λR w' h b hb=>(h.1.1.2 b hb).1) (λw' ρ' F' h'=>aff c s vl (vl.getD n.a.toNat 0) d hN hdl hdn hdx.bq hdx.room w' ρ' F' h') (λq ⟨hq1,hq2,hq3⟩=> ?_)
  rw[<-hq1]at hG
  have hGf:q.1.code.length<=s.code.length+(5*c.aj+1):=hG.few
  have hGp:q.1.aF.length<=1000000:=by
   have:=hG.aF
   have e1:q.1.pl.aF.length=q.1.aF.length:=List.length_map _
   have e2:s.pl.aF.length=s.aF.length:=List.length_map _
   have e3:q.1.pl.code.length=q.1.code.length:=rfl
   have e4:s.pl.code.length=s.code.length:=rfl
   omega
  have hyr:y.xs=r.2:=by rw[hy,hr]
  have hw0:∀v,jm c.aj c.giant s.pl (vl.getD n.a.toNat 0) (d.l.map au.xs)=v->iC c.aj c.giant s.pl (vl.getD n.a.toNat 0) r fr.xs to.xs=(if y.xs.any (λb=>decide (b≠0))=true then bP (bC c.aj v.1 to.xs (λe=>y.xs.getD e 0)).1 4 v.2 0 (bC c.aj v.1 to.xs (λe=>y.xs.getD e 0)).2 else v):=λv hv=>by unfold iC;rw[<-hDr,hv,hyr]
  have hw1:=hw0 (q.1.pl,q.2) (Prod.ext hq1.symm hq2.symm)
  by_cases hnz:y.xs.any (λb=>decide (b≠0))=true
  ·rw[if_pos hnz]at hw1
   rw[hw1]
   repeat' ((conv=>whnf)<;>first|(show aI _ 66 ..;(refine aQ (f:=66) Tryz.call66 (.bool true) (λρ w' hw=>by have:=Ah w' y (ae hw λR h=>bT hys ((bE y).mono h.1.1.2.2 (λ_ hb=>hb.1)));rw[hnz]at this;exact this) ?_))|refine bn ?_)
   refine qj rfl [(6,.box [ax n.ak,ax 0,ax n.b,.c n.ay.val,ax n.lo,ax n.hi,ax n.size,.c n.data.val,.c n.aM.val] 41),(5,.box (cs n.cells) 41)] 7 0 1 10 11 12 c q.1 vl 70 [y.val] 32 i (λe=>y.xs.getD e 0) (bE y) to hn2 hq3.aF hGp hto tF (j_ hd.2.2.2.2.1).1 (λe he=>by rw[List.getD_eq_getElem?_getD,List.getElem?_eq_getElem (by rw[hyr];omega)];exact hys.fits _ (List.getElem_mem _)) Tryz.call70 (λR w' b e he hh hA=>WI w' b e y _ (by rw[hyr];omega) (aV hA) hh) rfl rfl rfl (λR w' h=>⟨⟨Pq h.1.1.1.1.1.1.1 h.2,h.1.1.1.1.1.1.2⟩,(bE y).mono h.1.1.2.2 (λ_ hb=>hb.1)⟩) (dZ w F) (λR w' h b hb=>(h.1.1.1.2 b hb).1) (λu hu fI=> ?_)
   repeat' ((conv=>whnf)<;>first|refine bn ?_)
   refine dV [(6,.box [ax n.ak,ax 0,ax n.b,.c n.ay.val,ax n.lo,ax n.hi,ax n.size,.c n.data.val,.c n.aM.val] 41),(5,.box (cs n.cells) 41)] 0 1 15 16 17 c (aC q.1 u).1 vl ed [.lp 0 0 0 0,ax 4,ax q.2,ax 0,ax (aC q.1 u).2] _ _ _ _ Tryz.call68 rfl rfl rfl (λR w' h=>trivial) (dZ w F) (λR w' h b hb=>(h.1.1.1.1.2 b hb).1) (λw' ρ' F' h'=>gV c (aC q.1 u).1 vl 4 q.2 0 (aC q.1 u).2 Yy w' ρ' F' h') (λ_ _=> ?_)
   repeat' ((conv=>whnf)<;>first|refine bn ?_)
   all_goals(conv=>whnf)
   exact fw _ _ _ _ (dn (aC q.1 u).1 4 q.2 0 (aC q.1 u).2,((aC q.1 u).1.code.length:Int)) [(2,some 21),(3,some 22),(4,some 23)] ⟨by rw[iB hu,nQ],by rw[iB hu,nQ],qL (nR hq3 fI) _ _ _ _⟩ aY rfl rfl rfl rfl bM (λR w' h=>⟨h.1.1.1.1.1.2,gW h.1.1.2 h.1.2⟩)
  ·rw[if_neg hnz]at hw1
   rw[hw1]
   have hnf:=Bool.eq_false_iff.2 hnz
   repeat' ((conv=>whnf)<;>first|(show aI _ 66 ..;(refine aQ (f:=66) Tryz.call66 (.bool false) (λρ w' hw=>by have:=Ah w' y (ae hw λR h=>bT hys ((bE y).mono h.1.1.2.2 (λ_ hb=>hb.1)));rw[hnf]at this;exact this) ?_))|refine bn ?_)
   all_goals(conv=>whnf)
   exact fw _ _ _ _ q [(2,some 10),(3,some 11),(4,some 12)] ⟨rfl,rfl,hq3⟩ aY rfl rfl rfl rfl bM (λR w' h=>⟨h.1.1.1.2,h.2⟩)
end
theorem adU(c:dN)(s:dw)(vl:List Int)(n:ai)(i:Nat)(fr to:au)(hN:lU c s vl)(h0:0<=n.a)(ha:n.a.toNat<vl.length)(hfr:c.bO.l[n.a.toNat]? =some fr)(CX:fr.bq)(hto:c.bO.l[i]? =some to)(tF:to.bq)(hk9:n.ak=9)(hft:fr.xs=to.xs)
 (w:World) (ρ:Nat->SX.Loc) (F:Nat->Prop) (h:iY w ρ F 2 5 (kQ c s vl) (ru c s n)):
 Calls Tryz.prog 26 (SV.eO ρ [.lp 0 0 0 0,.agg (jN n),ax i]).toArray w (oD w ρ F c s vl (s.pl,vl.getD n.a.toNat 0)):=by
 have YV:∀{j:Nat} {u:au} {l:List au},l[j]? =some u->(aS l)[j]? =some [u.val]:=λh=>by unfold aS;rw[List.getElem?_map,h];rfl
 have ln:∀{j:Nat} {u:au} {l:List au},l[j]? =some u->j<l.length:=λh=>(List.getElem?_eq_some_iff.1 h).1
 refine Ez Tryz.func26 (mI 2 ρ) ρ [.lp 0 0 0 0,.agg (jN n),ax i] (kQ c s vl) ((ru c s n).and (gu w F)) 5 h.abs ?_
 refine Wp.know (p:=∃a,c.bO.base=some a) (λρ w' hw=>ae hw λR h=>aP (j:=i) (aV h.1.1.1.2.1) abl) ?_
 rintro⟨sa,hsa⟩
 repeat' ((conv=>whnf)<;>first|(show @eZ _ _ _;refine cu aa ?_)|refine aeU ?_|refine ahM ?_|refine Oc ?_|(show mq ..;refine qZ ha ?_)|(show kE _ 62 ..;(refine iU (f:=62) Tryz.call62 (.bool true) (λρ w' hw=>by have:=q8 w' fr to (ae hw λR h=>bT CX (h.1.1.1.2.2 _ (List.mem_of_getElem? hfr))) (ae hw λR h=>bT tF (h.1.1.1.2.2 _ (List.mem_of_getElem? hto)));rw[decide_eq_true hft]at this;exact this) ?_))|refine bn ?_)
 all_goals(conv=>whnf)
 all_goals exact fw _ _ _ _ (s,vl.getD n.a.toNat 0) [] ⟨rfl,rfl,hN.ok⟩ aY rfl rfl rfl rfl bM (λR w' h=>⟨h.2,lQ _ _ _⟩)
structure zn where
 aj:Int
 ib:Option Addr
 ic:Nat
 inputs:List qo
 aF:a_
 cb:Option Addr
 cc:Nat
 code:List qX
 last:Int
 out:au
structure qY where
 aj:Int
 low:fE
 last:Int
 out:List Int
def zn.val(v:zn):Value:= .agg #[.int .i64 v.aj,.slice v.ib v.inputs.length v.ic,v.aF.val,.slice v.cb v.code.length v.cc,.int .i64 v.last,v.out.val]
def zn.pl(v:zn):qY:=⟨v.aj,⟨v.inputs.map qo.pl,v.aF.l.map au.xs,v.code⟩,v.last,v.out.xs⟩
structure zn.bq(v:zn):Prop where
 aF:∀p∈v.aF.l,p.bq
 inputs:∀x∈v.inputs,x.aj.bq/\i64 x.lo/\i64 x.hi
 out:v.out.bq
 qW:v.aF.l.length<=1000000
 Hr:v.inputs.length<=1000000
 lW:v.code.length<=1000000
def acB(l:List qo):bN where
 holds R w:=∀x∈l,(bE x.aj).holds R w
 stable:=λhR hw h x hx=>(bE x.aj).stable hR hw (h x hx)
def VZ(v:zn):bN:=(((fC v.ib 3 (iP v.inputs)).and (acB v.inputs)).and ((fC v.aF.base 1 (aS v.aF.l)).and (dW v.aF.l))).and ((fC v.cb 5 (iO v.code)).and (bE v.out))
def uZ:qY:=⟨0,⟨[],[],[]⟩,0,[]⟩
def oI(w:World)(r:qY×Int):Ending->World->Prop:=λe w'=>∃v:zn,(v.pl=r.1/\v.bq)/\e= .returned (.tuple #[v.val,.int .i64 r.2])/\Ext w w'/\(VZ v).holds (λb=>w.heap.size<=b/\b<w'.heap.size) w'
structure Aw where
 aR:Int
 tidy:Bool
 lazy:Bool
 giant:Bool
 rows:Int
def Aw.val(o:Aw):Value:= .agg #[.int .i64 o.aR,.bool o.tidy,.bool o.lazy,.bool o.giant,.int .i64 o.rows]
def mD(o:Aw)(aj:Int):Prop:=0<=o.aR/\o.aR<=1/\4<=aj/\aj<=2048/\bitsOf .and .i64 aj (aj-1)=0
instance(o:Aw)(aj:Int):Decidable (mD o aj):=by unfold mD;infer_instance
theorem IK{op:BinOp}{k:IntKind}{x y:Int}{K:Int->Prop}(h:K (bitsOf op k x y)):Jl op k x y K:=by rw[wW];exact h
theorem nk{w:World}{B:Base}{H:Heap}{S:bN}{nx:Nat}{er:Int}{v:SV}{r:qY×Int}(hb:∀R w',S.holds R w'->(aO B.w0).holds R w')(hw0:B.w0=w)(hr:r=(uZ,er))(hv:∀ρ,v.rf ρ= .tuple #[.agg #[.int .i64 0,.slice none 0 0,.slice none 0 0,.slice none 0 0,.int .i64 0,.slice none 0 0],.int .i64 er]):jI B v H S nx (oI w r):=by
 subst hw0 hr
 refine dH λρ w' hw=>⟨⟨0,none,0,[],⟨none,0,[]⟩,none,0,[],0,⟨none,0,[]⟩⟩,⟨rfl,⟨λ_ h=>kP,λ_ h=>kP,⟨λ_ h=>kP,Nat.le_refl _,Nat.zero_le _⟩,Nat.zero_le _,Nat.zero_le _,Nat.zero_le _⟩⟩,by rw[hv];rfl,aZ hw hb,?_⟩
 have z:∀k,(fC none k []).holds (λb=>B.w0.heap.size<=b/\b<w'.heap.size) w':=λk=>⟨λ_ h=>kP,.inl rfl⟩
 exact⟨⟨⟨z 3,λ_ h=>kP⟩,⟨z 1,λ_ h=>kP⟩⟩,⟨z 5,z 1⟩⟩
theorem abG(w:World)(g:bG)(o:Aw)(aj:Int)(hg:g.ok w)(h64:i64 aj)(hbad:¬mD o aj\/(bX g).1≠0):Calls Tryz.prog 9 #[g.val,o.val,.int .i64 aj] w (oI w (uZ,if mD o aj then(bX g).1 else 1)):=by
 obtain⟨h1,h2⟩:=h64
 by_cases hs:mD o aj
 ·rw[if_pos hs]
  have hne:=hbad.resolve_left (λh=>h hs)
  obtain⟨s1,s2,s3,s4,s5⟩:=hs
  refine fH Tryz.func9 [.agg [.c (.slice g.base g.l.length g.cap),ax g.out],.agg [ax o.aR,.c (.bool o.tidy),.c (.bool o.lazy),.c (.bool o.giant),ax o.rows],ax aj] ?_
  repeat' ((conv=>whnf)<;>first|(show Jl ..;refine IK ?_)|(show @eZ _ _ _;(first|refine dA aa ?_|refine cu hne ?_))|(show aI _ 22 ..;refine nK (f:=22) (bX g) Tryz.call22 (λρ w' hw=>xw w' g (ae hw λR h=>hg.later h)) (λ_=> ?_) (λhsp=>absurd hsp hne))|refine aX ?_)
  all_goals(conv=>whnf)
  exact nk (λ_ _ h=>h) rfl rfl (λρ=>rfl)
 ·rw[if_neg hs]
  refine fH Tryz.func9 [.agg [.c (.slice g.base g.l.length g.cap),ax g.out],.agg [ax o.aR,.c (.bool o.tidy),.c (.bool o.lazy),.c (.bool o.giant),ax o.rows],ax aj] ?_
  repeat' ((conv=>whnf)<;>first|(show Jl ..;refine IK ?_)|(show @eZ _ _ _;((refine ag ?_ ?_<;>intro _)))|(show aI _ 22 ..;((exfalso;exact hs ⟨by omega,by omega,by omega,by omega,by omega⟩)))|refine aX ?_)
  all_goals(conv=>whnf)
  all_goals exact nk (λ_ _ h=>h) rfl rfl (λρ=>rfl)
end Go.Proofs.YtgndjjdeopfdkaaGreat

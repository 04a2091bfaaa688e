import Derived.Test.YtgndjjdeopfdkaaGreatKLowerMakes8
/- texts MH QS of the proof of LowerMakesSaid -/
set_option maxHeartbeats 16000000
set_option maxRecDepth 20000
namespace Go.Proofs.YtgndjjdeopfdkaaGreat
open Go.SX Go.RowKit
theorem Ah{a b z:Int}(hz:0<z)(hb:0<=b/\b<z):(a*z+b)/z=a/\(a*z+b)%z=b:=mul_add_div hb
theorem Ug{z i1 i2 o i:Int}{E:Nat}(hz:1<=z)(h1:z<=i1)(h2:z<=i2)(m1:i1%z=0)(m2:i2%z=0)(hi:0<=i/\i<E)(ho:0<=o):
 ((pG z i1 i2 o).foldl wG (List.replicate E 0)).getD i.toNat 0=
   (if i/i2/i1≠o/(i2/z)/(i1/z)\/i/i2%i1/z≠o/(i2/z)%(i1/z)\/i%i2/z≠o%(i2/z)then 0 else 1):=by
 have q1:=Int.mul_ediv_add_emod i1 z
 have q2:=Int.mul_ediv_add_emod i2 z
 obtain⟨H,hH⟩:∃H,i1/z=H:=⟨_,rfl⟩
 obtain⟨W,hW⟩:∃W,i2/z=W:=⟨_,rfl⟩
 rw[hH]at q1|-
 rw[hW]at q2|-
 have e1:i1=H*z:=by rw[Int.mul_comm];omega
 have e2:i2=W*z:=by rw[Int.mul_comm];omega
 have hH1:0<H:=by rw[<-hH];exact Int.ediv_pos_of_pos_of_dvd aa aa (Int.dvd_of_emod_eq_zero m1)
 have hW1:0<W:=by rw[<-hW];exact Int.ediv_pos_of_pos_of_dvd aa aa (Int.dvd_of_emod_eq_zero m2)
 obtain⟨ei,bx,by_,bc⟩:=lK (i:=i) (I1:=i1) (I2:=i2) hi.1 aa aa
 obtain⟨eo,ox,oy,oc⟩:=lK (i:=o) (I1:=H) (I2:=W) ho hH1 hW1
 obtain⟨c,hc⟩:∃c,i/i2/i1=c:=⟨_,rfl⟩
 obtain⟨fy,W9⟩:∃c,i/i2%i1=c:=⟨_,rfl⟩
 obtain⟨fx,hfx⟩:∃c,i%i2=c:=⟨_,rfl⟩
 obtain⟨tc,htc⟩:∃c,o/W/H=c:=⟨_,rfl⟩
 obtain⟨ty,hty⟩:∃c,o/W%H=c:=⟨_,rfl⟩
 obtain⟨tx,htx⟩:∃c,o%W=c:=⟨_,rfl⟩
 rw[hc,W9,hfx]at ei
 rw[W9]at by_
 rw[hfx]at bx
 rw[hc]at bc
 rw[htc]at oc
 rw[hty]at oy
 rw[htx]at ox
 rw[hc,W9,hfx,htc,hty,htx]
 have hty':ty*z+z<=i1:=by
  have:=Int.mul_le_mul_of_nonneg_right (show ty+1<=H by omega) (show 0<=z by omega)
  rw[Int.add_mul,Int.one_mul,<-e1]at this;exact this
 have apX:tx*z+z<=i2:=by
  have:=Int.mul_le_mul_of_nonneg_right (show tx+1<=W by omega) (show 0<=z by omega)
  rw[Int.add_mul,Int.one_mul,<-e2]at this;exact this
 have apY:0<=ty*z:=Int.mul_nonneg oy.1 aa
 have apZ:0<=tx*z:=Int.mul_nonneg ox.1 aa
 have term:∀x∈pG z i1 i2 o,x.1=1/\(x.2.toNat=i.toNat->tc=c/\fy/z=ty/\fx/z=tx):=by
  intro x hx
  obtain⟨p,hp,rfl⟩:=List.mem_map.1 hx
  refine⟨rfl,λhxi=> ?_⟩
  have hpz:(p:Int)<z*z:=by have:=List.mem_range.1 hp;omega
  have py:0<=(p:Int)/z/\(p:Int)/z<z:=⟨Int.ediv_nonneg aa aa,rD aa hpz⟩
  have px:0<=(p:Int)%z/\(p:Int)%z<z:=⟨Int.emod_nonneg _ aa,Int.emod_lt_of_pos _ aa⟩
  have hpos:(iB z i1 i2 o p).2=((tc*i1+(ty*z+(p:Int)/z))*i2+(tx*z+(p:Int)%z)):=by
   unfold iB
   rw[hH,hW,htc,hty,htx]
   simp only
   rw[<-Int.add_assoc,<-Int.add_assoc]
  have hnn:0<=(iB z i1 i2 o p).2:=by
   rw[hpos]
   have:=Int.mul_nonneg (show 0<=tc*i1+(ty*z+(p:Int)/z) by have:=Int.mul_nonneg oc (show 0<=i1 by omega);omega) (show 0<=i2 by omega)
   omega
  have he:i=((tc*i1+(ty*z+(p:Int)/z))*i2+(tx*z+(p:Int)%z)):=by rw[<-hpos];omega
  have:=aaR he ⟨by omega,by omega⟩ ⟨by omega,by omega⟩
  rw[hc,W9,hfx]at this
  exact⟨this.1.symm,by rw[this.2.1];exact(Ah aa py).1,by rw[this.2.2];exact(Ah aa px).1⟩
 split
 ·rename_i hbad
  rw[Bc,OP]
  intro x hx hxi
  have:=(term x hx).2 hxi
  omega
 ·rename_i hgood
  have g1:c=tc:=by omega
  have g2:fy/z=ty:=by omega
  have g3:fx/z=tx:=by omega
  have r1:=Int.mul_ediv_add_emod fy z
  have r2:=Int.mul_ediv_add_emod fx z
  rw[g2]at r1
  rw[g3]at r2
  have ry:0<=fy%z/\fy%z<z:=⟨Int.emod_nonneg _ aa,Int.emod_lt_of_pos _ aa⟩
  have rx:0<=fx%z/\fx%z<z:=⟨Int.emod_nonneg _ aa,Int.emod_lt_of_pos _ aa⟩
  have hp0:0<=fy%z*z+fx%z:=by have:=Int.mul_nonneg ry.1 (show 0<=z by omega);omega
  obtain⟨p,hp⟩:=Int.eq_ofNat_of_zero_le hp0
  have hpd:=Ah (a:=fy%z) (b:=fx%z) (z:=z) aa rx
  rw[hp]at hpd
  have hlt:(p:Int)<z*z:=by
   rw[<-hp]
   have:=Int.mul_le_mul_of_nonneg_right (show fy%z+1<=z by omega) (show 0<=z by omega)
   rw[Int.add_mul,Int.one_mul]at this
   omega
  have hmem:iB z i1 i2 o p∈pG z i1 i2 o:=List.mem_map.2 ⟨p,List.mem_range.2 aa,rfl⟩
  have hval:(iB z i1 i2 o p).2=i:=by
   unfold iB
   rw[hH,hW,htc,hty,htx]
   simp only
   have hd1:(p:Int)/z=fy%z:=hpd.1
   have hd2:(p:Int)%z=fx%z:=hpd.2
   rw[hd1,hd2,ei,g1]
   have e3:fy=ty*z+fy%z:=by rw[Int.mul_comm];omega
   have e4:fx=tx*z+fx%z:=by rw[Int.mul_comm];omega
   obtain⟨a,ha⟩:∃a,fy%z=a:=⟨_,rfl⟩
   obtain⟨b,hb⟩:∃b,fx%z=b:=⟨_,rfl⟩
   rw[ha]at e3|-
   rw[hb]at e4|-
   rw[e3,e4];grind
  rw[K7 _ _ _ (iB z i1 i2 o p) VL hmem (by rw[hval]) (λu hu _=>((term u hu).1).trans (term _ hmem).1.symm)]
  exact(term _ hmem).1
theorem W_{n:ai}{sh:List (List Int)}{s t:List Int}{cnt:Nat}(h:eT n sh s t cnt)(hl:dQ n){o i:Nat}(hi:(i:Int)<entries t):(iH n t o).getD i 0=yN n t o i:=by
 have hb:=dL t
 unfold iH yN
 by_cases h3:n.kind=3
 ·rw[if_pos h3,if_pos h3]
  have e:((o:Int)*entries t+(i:Int)).toNat=o*(entries t).toNat+i:=by
   have:entries t=((entries t).toNat:Int):=by omega
   rw[this]
   have e2:(o:Int)*((entries t).toNat:Int)+(i:Int)=((o*(entries t).toNat+i:Nat):Int):=by simp
   rw[Int.toNat_natCast,e2,Int.toNat_natCast]
  rw[e]
  simp only[List.getD,List.getElem?_take,List.getElem?_drop]
  rw[if_pos aa]
 ·rw[if_neg h3,if_neg h3]
  by_cases h4:n.kind=4
  ·have hk:n.kind=3\/n.kind=4\/n.kind=5:= .inr (.inl h4)
   have hci:=Im h h4
   obtain⟨hf,hg⟩:=h.first hk
   have DD:=(dH h.node.form).V6 h4
   have hsh:=h.node.shape
   unfold bM at hsh
   rw[if_neg aa,if_neg aa,if_pos h4,hf]at hsh
   split at hsh
   ·cases hsh
   ·rename_i hbad
    have h3l:t.length=3:=by omega
    have ht0:t.getD 0 0=n.shape.xs.getD 1 0:=by omega
    have hE:entries t=n.shape.xs.getD 1 0*t.getD 1 0*t.getD 2 0:=by
     rw[<-ht0]
     match t,h3l,hg with
     |[a,b,c],_,hg=>
      have h0:entries [a,b,c]=eZ 1 [a,b,c]:=by unfold entries;rfl
      rw[h0]at hg|-
      simp only[eZ]at hg|-
      split at hg
      ·omega
      split at hg
      ·omega
      split at hg
      ·omega
      rename_i g1 g2 g3
      rw[if_neg g1,if_neg g2,if_neg g3]
      show 1*a*b*c=a*b*c
      rw[Int.one_mul]
    have hrow:=Uf (d:=n.data.xs) (k1:=n.shape.xs.getD 1 0) (o:=(o:Int)) (i:=(i:Int)) (E:=(entries t).toNat) hci.k2 hci.k3 (by rw[<-hE];omega) ⟨by omega,by omega⟩ aa
    have hT:bN n t o=pF n.data.xs (n.shape.xs.getD 1 0) (n.shape.xs.getD 2 0) (n.shape.xs.getD 3 0) (t.getD 1 0) (t.getD 2 0) o:=by unfold bN;rw[if_neg h3,if_pos h4]
    rw[hT,if_pos h4]
    rw[Int.toNat_natCast]at hrow
    exact hrow
  ·have h5:n.kind=5:=by rcases hl with g|g|g<;>first|exact absurd g h3|exact absurd g h4|exact g
   have hpi:=Io h h5
   have hrow:=Ug (z:=n.size) (i1:=t.getD 1 0) (i2:=t.getD 2 0) (o:=(o:Int)) (i:=(i:Int)) (E:=(entries t).toNat) hpi.z hpi.z1 hpi.z2 hpi.m1 hpi.m2 ⟨by omega,by omega⟩ aa
   have hT:bN n t o=pG n.size (t.getD 1 0) (t.getD 2 0) o:=by unfold bN;rw[if_neg h3,if_neg h4]
   rw[hT,if_neg h4]
   rw[Int.toNat_natCast]at hrow
   exact hrow
abbrev ait:Go.SX.DT:=(eF [0,1,2,3,4,5,6,7,8,9,10,11,12,13,14] (.alt 15 (eF [116,117] .done) (eF [116,115,117] .done)))
section
variable {x y q:Int} {K:Int->Prop}
theorem uo(e:x/y=q)(h0:0<=x)(h1:x<=9223372036854775807)(hy:0<y)(h:K q):qQ .i64 x y K:=div_pos rfl h0 h1 hy RS
theorem Iq(h0:0<=x)(hy:y≠0)(e:x%y=q)(h:K q):ww x y K:=rO h0 hy RS
def Hw(c y x:Int):Value:= .agg #[.int .i64 c,.int .i64 y,.int .i64 x]
theorem Bd(w:World)(at_ high wide:Int)(h0:0<=at_/\at_<=10000)(hh:1<=high/\high<=64)(hw:1<=wide/\wide<=64):Calls Tryz.prog 150 #[.int .i64 at_,.int .i64 high,.int .i64 wide] w λe w'=>e= .returned (Hw (at_/wide/high) (at_/wide%high) (at_%wide))/\Ext w w':=by
 obtain⟨d1,d2,d3,d4⟩:=jG h0.1 (show 0<wide by omega)
 refine fq Tryz.func150 [ak at_,ak high,ak wide] ?_
 (repeat' ((conv=>whnf)<;>first|(show qQ ..;(first|refine uo (x:=at_) rfl aa aa aa ?_|refine uo (x:=at_/wide) rfl aa aa aa ?_))|(show ww ..;(first|refine Iq (x:=at_) aa aa rfl ?_|refine Iq (x:=at_/wide) aa aa rfl ?_))|(show cO _ 1 ..;refine mE [14] _ aif ?_)|refine aN ?_))
 all_goals(conv=>whnf)
 exact bW (λ_ _ h=>h) (λ_=>rfl) rfl
def nk(n:ai)(t:aj):Value:= .agg #[.int .i64 n.kind,.int .i64 n.a,.int .i64 n.b,n.shape.val,.int .i64 n.lo,.int .i64 n.hi,.int .i64 n.size,n.data.val,n.aG.val,t.val]
theorem qH{a:Addr}{j:Nat}{S:bJ}{xs:List Int}{v:Int}{K:SV->Prop}(hx:∀R w,S.holds R w->bf w (some a) 1 (ints xs))(hj:j<xs.length)(e:xs.getD j 0=v)(h:K (ak v)):fu (a.add (j*1)) S K:=by
 subst e;exact bO hx hj h
theorem aaT(w:World)(n:ai)(t:aj)(hs:n.shape.ok w)(hd:n.data.ok w)(ht:t.ok w)(hsl:n.shape.xs.length=4)(htl:t.xs.length=3){k1 k2 k3 i1 i2:Int}(e1:n.shape.xs.getD 1 0=k1)(e2:n.shape.xs.getD 2 0=k2)(e3:n.shape.xs.getD 3 0=k3)(f1:t.xs.getD 1 0=i1)(f2:t.xs.getD 2 0=i2)(b2:(1<=k2/\k2<=i1)/\i1<=64)(b3:(1<=k3/\k3<=i2)/\i2<=64)
 {o c fy fx tc ty tx:Int} (ho:0<=o/\o<=10000) (hc:0<=c/\c<=10000) (W9:0<=fy/\fy<=10000) (hfx:0<=fx/\fx<=10000) (g1:o/(i2-k3+1)/(i1-k2+1)=tc) (g2:o/(i2-k3+1)%(i1-k2+1)=ty) (g3:o%(i2-k3+1)=tx) {z:Int}
 (hz:(fy-ty<0\/k2<=fy-ty\/fx-tx<0\/k3<=fx-tx)/\z=0\/¬(fy-ty<0\/k2<=fy-ty\/fx-tx<0\/k3<=fx-tx)/\(0<=tc*k1/\tc*k1<=1000000)/\(0<=(tc*k1+c)*k2/\(tc*k1+c)*k2<=1000000)/\(0<=((tc*k1+c)*k2+(fy-ty))*k3/\((tc*k1+c)*k2+(fy-ty))*k3<=1000000)/\∃q:Nat,((tc*k1+c)*k2+(fy-ty))*k3+(fx-tx)=q/\q<n.data.xs.length/\n.data.xs.getD q 0=z):
 Calls Tryz.prog 149 #[nk n t,.int .i64 o,Hw c fy fx] w λe w'=>e= .returned (.int .i64 z)/\Ext w w':=by
 obtain⟨sa,hsa⟩:=hs.base aa
 obtain⟨ta,Ia⟩:=ht.base aa
 have Pj:∀(R:Nat->Prop) w',(aH w).holds R w'->bf w' (some sa) 1 (ints n.shape.xs):=λR w' h=>by rw[<-hsa];exact au h hs.rows
 have htr:∀(R:Nat->Prop) w',(aH w).holds R w'->bf w' (some ta) 1 (ints t.xs):=λR w' h=>by rw[<-Ia];exact au h ht.rows
 have hsp:∀(w':World),Calls Tryz.prog 150 #[.int .i64 o,.int .i64 (i1-k2+1),.int .i64 (i2-k3+1)] w' λe w2=>e= .returned (Hw tc ty tx)/\Ext w' w2:=λw'=>by
  have:=Bd w' o (i1-k2+1) (i2-k3+1) ho aa aa
  rw[g1,g2,g3]at this;exact this
 obtain⟨d1,d2,d3,d4⟩:=jG ho.1 (show 0<i2-k3+1 by omega)
 obtain⟨d5,d6,d7,d8⟩:=jG d1 (show 0<i1-k2+1 by omega)
 rw[g1]at d5 d6
 rw[g2]at d7 d8
 rw[g3]at d3 d4
 rcases hz with⟨hbad,rfl⟩|⟨hgood,hA,hB,hC,q,hq,hql,rfl⟩
 ·refine fq Tryz.func149 [.agg [ak n.kind,ak n.a,ak n.b,.c n.shape.val,ak n.lo,ak n.hi,ak n.size,.c n.data.val,.c n.aG.val,.c t.val],ak o,.agg [ak c,ak fy,ak fx]] ?_
  (repeat' ((conv=>whnf)<;>first|(show bC ..;(first|refine ax sa 2 hsa rfl aa ?_|refine ax sa 3 hsa rfl aa ?_|refine ax sa 1 hsa rfl aa ?_|refine ax ta 1 Ia rfl aa ?_|refine ax ta 2 Ia rfl aa ?_))|(show fu ..;(first|refine qH Pj (j:=2) aa e2 ?_|refine qH Pj (j:=3) aa e3 ?_|refine qH Pj (j:=1) aa e1 ?_|refine qH htr (j:=1) aa f1 ?_|refine qH htr (j:=2) aa f2 ?_))|(show @dR _ _ _;(first|refine bA aa ?_|refine cK aa ?_|(refine ag ?_ ?_<;>intro _)))|(show aC _ 150 ..;refine aJ (f:=150) Tryz.call150 (Hw tc ty tx) (λρ w' hw=>hsp w') ?_)|(show cO _ 2 ..;refine mE [17] _ ait ?_)|refine aZ ?_|refine And.intro ?_ ?_))
  all_goals(conv=>whnf)
  all_goals first|(exfalso;omega)|exact bW (λ_ _ h=>h) (λ_=>rfl) rfl
 ·obtain⟨da,hda⟩:=hd.base aa
  have hdr:∀(R:Nat->Prop) w',(aH w).holds R w'->bf w' (some da) 1 (ints n.data.xs):=λR w' h=>by rw[<-hda];exact au h hd.rows
  refine fq Tryz.func149 [.agg [ak n.kind,ak n.a,ak n.b,.c n.shape.val,ak n.lo,ak n.hi,ak n.size,.c n.data.val,.c n.aG.val,.c t.val],ak o,.agg [ak c,ak fy,ak fx]] ?_
  (repeat' ((conv=>whnf)<;>first|(show bC ..;(first|refine ax sa 2 hsa rfl aa ?_|refine ax sa 3 hsa rfl aa ?_|refine ax sa 1 hsa rfl aa ?_|refine ax ta 1 Ia rfl aa ?_|refine ax ta 2 Ia rfl aa ?_|refine ax da q hda hq hql ?_))|(show fu ..;(first|refine qH Pj (j:=2) aa e2 ?_|refine qH Pj (j:=3) aa e3 ?_|refine qH Pj (j:=1) aa e1 ?_|refine qH htr (j:=1) aa f1 ?_|refine qH htr (j:=2) aa f2 ?_|refine bO hdr (j:=q) hql ?_))|(show aC _ 150 ..;refine aJ (f:=150) Tryz.call150 (Hw tc ty tx) (λρ w' hw=>hsp w') ?_)|(show cO _ 2 ..;refine mE [17] _ ait ?_)|refine aZ ?_|refine ag ?_ ?_<;>intro _|refine And.intro ?_ ?_))
  all_goals(conv=>whnf)
  all_goals exact bW (λ_ _ h=>h) (λ_=>rfl) rfl
end
structure aet(n:ai)(t:List Int)(cnt:Nat)(k0 k1 k2 k3 i1 i2:Int):Prop where
 kind:n.kind=4
 s4:n.shape.xs.length=4
 t3:t.length=3
 e0:n.shape.xs.getD 0 0=k0
 e1:n.shape.xs.getD 1 0=k1
 e2:n.shape.xs.getD 2 0=k2
 e3:n.shape.xs.getD 3 0=k3
 f0:t.getD 0 0=k1
 f1:t.getD 1 0=i1
 f2:t.getD 2 0=i2
 b0:1<=k0/\k0<=64
 b1:1<=k1/\k1<=64
 b2:1<=k2/\k2<=i1
 b3:1<=k3/\k3<=i2
 bi1:i1<=64
 bi2:i2<=64
 data:(n.data.xs.length:Int)=k0*k1*k2*k3
 aG:(n.aG.xs.length:Int)=k0
 cnt:(cnt:Int)=k0*(i1-k2+1)*(i2-k3+1)
 size:entries t=k1*i1*i2
structure aiu(n:ai)(t:List Int)(cnt:Nat)(i0 i1 i2:Int):Prop where
 kind:n.kind=5
 t3:t.length=3
 f0:t.getD 0 0=i0
 f1:t.getD 1 0=i1
 f2:t.getD 2 0=i2
 b0:1<=i0/\i0<=64
 z:1<=n.size
 z1:n.size<=i1
 z2:n.size<=i2
 b1:i1<=64
 b2:i2<=64
 m1:i1%n.size=0
 m2:i2%n.size=0
 cnt:(cnt:Int)=i0*(i1/n.size)*(i2/n.size)
 size:entries t=i0*i1*i2
theorem OQ{n:ai}{sh:List (List Int)}{s t:List Int}{cnt:Nat}(h:eT n sh s t cnt)(hl:dQ n):
 (n.kind=3/\∃size:Nat,entries t=size/\n.data.xs.length=cnt*size/\n.aG.xs.length=cnt)\/(∃k0 k1 k2 k3 i1 i2,aet n t cnt k0 k1 k2 k3 i1 i2)\/∃i0 i1 i2,aiu n t cnt i0 i1 i2:=by
 have hsh:=h.node.shape
 have hfo:=dH h.node.form
 have h4:=adu h.node.form
 have heb:=(dL t).2
 have hc:=h.cnt
 have nX:=h.few
 have hgs:=h.pos
 obtain⟨ht,hg⟩:=h.first hl
 obtain⟨size,hsz⟩:∃size:Nat,entries t=size:=⟨(entries t).toNat,by omega⟩
 rcases hl with hk|hk|hk
 ·refine .inl ⟨hk,size,hsz,?_⟩
  unfold bM at hsh
  rw[if_neg aa,if_pos hk,ht]at hsh
  by_cases hdl:(n.data.xs.length:Int)=n.aG.xs.length*entries t
  ·rw[if_pos hdl,Option.some.injEq]at hsh
   obtain⟨b1,b2⟩:=hfo.aG hk
   have he1:entries [(n.aG.xs.length:Int)]=n.aG.xs.length:=by
    unfold entries
    rw[if_neg fC]
    simp only[eZ]
    rw[if_neg aa]
    omega
   rw[<-hsh,he1]at hc
   have hbl:n.aG.xs.length=cnt:=by omega
   have Qe:n.data.xs.length=n.aG.xs.length*size:=by
    rw[hsz,<-Int.natCast_mul]at hdl
    exact Int.ofNat.inj hdl
   rw[hbl]at Qe
   exact⟨Qe,hbl⟩
  ·rw[if_neg hdl]at hsh;cases hsh
 ·obtain⟨g1,g2⟩:=h4 hk
  have DD:=hfo.V6 hk
  obtain⟨hl4,S_⟩:=pq DD
  have hsx:=adv hl4
  have hC:=Im h hk
  unfold bM at hsh
  rw[if_neg aa,if_neg aa,if_pos hk,ht]at hsh
  have dm:∀k,k<4->1<=n.shape.xs.getD k 0/\n.shape.xs.getD k 0<=64:=λk hk=>S_ _ (df aa)
  have dm0:=dm 0 aS
  have dm1:=dm 1 aS
  rw[hsx]at g1 DD
  have hke:=Km DD
  rw[hke]at g1
  by_cases hbad:t.length≠3\/t.getD 0 0≠n.shape.xs.getD 1 0\/t.getD 1 0<n.shape.xs.getD 2 0\/t.getD 2 0<n.shape.xs.getD 3 0
  ·rw[if_pos hbad]at hsh;cases hsh
  rw[if_neg hbad]at hsh
  have hl3:t.length=3:=by omega
  have htx:=V7 hl3
  have h0:t.getD 0 0=n.shape.xs.getD 1 0:=by omega
  have Kn:=(gJ hg).2.2
  have td1:=Kn _ (df (xs:=t) (k:=1) aa)
  have td2:=Kn _ (df (xs:=t) (k:=2) aa)
  have hE:entries t=n.shape.xs.getD 1 0*t.getD 1 0*t.getD 2 0:=by
   have:=iJ Yl
   rw[<-htx,h0]at this
   exact this
  by_cases hpos:0<entries [n.shape.xs.getD 0 0,t.getD 1 0-n.shape.xs.getD 2 0+1,t.getD 2 0-n.shape.xs.getD 3 0+1]
  ·rw[if_pos hpos,Option.some.injEq]at hsh
   have hcv:=iJ hpos
   rw[hsh,hc]at hcv
   exact .inr (.inl ⟨_,_,_,_,_,_,⟨hk,hl4,hl3,rfl,rfl,rfl,rfl,h0,rfl,rfl,dm0,dm1,hC.k2,hC.k3,td1.2,td2.2,g1,g2,hcv,hE⟩⟩)
  ·rw[if_neg hpos]at hsh;cases hsh
 ·have hP:=Io h hk
  unfold bM at hsh
  rw[if_neg aa,if_neg aa,if_neg aa,if_pos hk,ht]at hsh
  by_cases hbad:t.length≠3\/t.getD 1 0%n.size≠0\/t.getD 2 0%n.size≠0
  ·rw[if_pos hbad]at hsh;cases hsh
  rw[if_neg hbad,Option.some.injEq]at hsh
  have hl3:t.length=3:=by omega
  have htx:=V7 hl3
  have Kn:=(gJ hg).2.2
  have td0:=Kn _ (df (xs:=t) (k:=0) aa)
  have td1:=Kn _ (df (xs:=t) (k:=1) aa)
  have td2:=Kn _ (df (xs:=t) (k:=2) aa)
  have hpos:0<entries [t.getD 0 0,t.getD 1 0/n.size,t.getD 2 0/n.size]:=by
   have:=jF hfo hgs h.node.shape rfl
   rw[hsh];exact this
  have hcv:=iJ hpos
  rw[hsh,hc]at hcv
  have hE:entries t=t.getD 0 0*t.getD 1 0*t.getD 2 0:=by
   have:=iJ Yl
   rw[<-htx]at this
   exact this
  exact .inr (.inr ⟨_,_,_,⟨hk,hl3,rfl,rfl,rfl,td0,hP.z,hP.z1,hP.z2,td1.2,td2.2,hP.m1,hP.m2,hcv,hE⟩⟩)
def QW(o i:Int):Int:=if o=i then 1 else 0
theorem Uh(w:World)(n:ai)(t:aj)(hk:n.kind=9)(o i:Int):Calls Tryz.prog 124 #[nk n t,.int .i64 o,.int .i64 i] w λe w'=>e= .returned (.int .i64 (QW o i))/\Ext w w':=by
 by_cases h:o=i
 ·refine fq Tryz.func124 [.agg [ak n.kind,ak n.a,ak n.b,.c n.shape.val,ak n.lo,ak n.hi,ak n.size,.c n.data.val,.c n.aG.val,.c t.val],ak o,ak i] ?_
  (repeat' ((conv=>whnf)<;>first|refine aZ ?_|refine ag ?_ ?_<;>intro _))
  all_goals(conv=>whnf)
  all_goals exact bW (λ_ _ h=>h) (λ_=>by rw[QW,if_pos h];rfl) rfl
 ·refine fq Tryz.func124 [.agg [ak n.kind,ak n.a,ak n.b,.c n.shape.val,ak n.lo,ak n.hi,ak n.size,.c n.data.val,.c n.aG.val,.c t.val],ak o,ak i] ?_
  (repeat' ((conv=>whnf)<;>first|refine aZ ?_|refine ag ?_ ?_<;>intro _))
  all_goals(conv=>whnf)
  all_goals exact bW (λ_ _ h=>h) (λ_=>by rw[QW,if_neg h];rfl) rfl
theorem Ui(w:World)(n:ai)(t:aj)(hd:n.data.ok w)(hk:n.kind=3)(size cnt:Nat)(hsz:entries t.xs=size)(hdl:n.data.xs.length=cnt*size)(hbl:n.aG.xs.length=cnt)(Ud:cnt<=64)(aaS:size<=64)(o i:Nat)(ho:o<cnt)(hi:i<size):Calls Tryz.prog 124 #[nk n t,.int .i64 o,.int .i64 i] w λe w'=>e= .returned (.int .i64 (yN n t.xs o i))/\Ext w w':=by
 have hq:o*size+i<cnt*size:=by
  have:(o+1)*size<=cnt*size:=Nat.mul_le_mul_right _ ho
  rw[Nat.succ_mul]at this;omega
 have hos:o*size<=64*64:=Nat.mul_le_mul aa aaS
 have hcs:cnt*size<=64*64:=Nat.mul_le_mul Ud aaS
 have hdiv:((n.data.xs.length:Nat):Int)/((n.aG.xs.length:Nat):Int)=(size:Int):=by
  rw[hdl,hbl,<-Int.natCast_ediv,Nat.mul_div_cancel_left _ aa]
 have hW:yN n t.xs o i=n.data.xs.getD (o*size+i) 0:=by
  rw[yN,if_pos hk,hsz,show(o:Int)*(size:Int)+(i:Int)=((o*size+i:Nat):Int) by simp,Int.toNat_natCast]
 rw[hW]
 obtain⟨da,hda⟩:=hd.base aa
 have hdr:∀(R:Nat->Prop) w',(aH w).holds R w'->bf w' (some da) 1 (ints n.data.xs):=λR w' h=>by rw[<-hda];exact au h hd.rows
 refine fq Tryz.func124 [.agg [ak n.kind,ak n.a,ak n.b,.c n.shape.val,ak n.lo,ak n.hi,ak n.size,.c n.data.val,.c n.aG.val,.c t.val],ak o,ak i] ?_
 (repeat' ((conv=>whnf)<;>first|(show qQ ..;refine uo hdiv aa aa aa ?_)|(show iw ..;(first|refine Dz ((o*size:Nat):Int) (Int.natCast_mul _ _).symm aa aa ?_|refine wrap_i64 aa aa ?_))|(show bC ..;refine ax da (o*size+i) hda aa aa ?_)|(show fu ..;refine bO hdr (j:=o*size+i) aa ?_)|refine aZ ?_|refine ag ?_ ?_<;>intro _))
 all_goals(conv=>whnf)
 all_goals exact bW (λ_ _ h=>h) (λ_=>rfl) rfl
abbrev al2:Go.SX.DT:=(eF [0,1,2,3,4,5,6,7,8,9,10,11,12,13,14,15,16,18,19,20,21,22,23,24,25,26] (.alt 17 (.alt 27 (.alt 28 (eF [129,130,131] .done) (eF [129,128,130,131] .done)) (.alt 28 (.alt 27 (eF [129,130,131] .done) (eF [129,127,130,131] .done)) (.one 29 (.alt 27 (eF [128,130,131] .done) (eF [128,127,130,131] .done))))) (.alt 28 (.alt 17 (.alt 27 (eF [129,130,131] .done) (eF [129,127,130,131] .done)) (eF [129,117,127,130,131] .done)) (.one 29 (.alt 17 (.alt 27 (eF [128,130,131] .done) (eF [128,127,130,131] .done)) (eF [128,117,127,130,131] .done))))))
section
variable {k0 k1 k2 k3 i1 i2:Int}
theorem agv{n:ai}{t:aj}{cnt:Nat}(h:aet n t.xs cnt k0 k1 k2 k3 i1 i2)(nX:n.data.xs.length<=1000000){o i:Int}(ho:0<=o/\o<cnt)(hi:0<=i/\i<entries t.xs){c fy fx tc ty tx:Int}
 (hc:i/i2/i1=c) (W9:i/i2%i1=fy) (hfx:i%i2=fx) (htc:o/(i2-k3+1)/(i1-k2+1)=tc) (hty:o/(i2-k3+1)%(i1-k2+1)=ty) (htx:o%(i2-k3+1)=tx):
 (fy-ty<0\/k2<=fy-ty\/fx-tx<0\/k3<=fx-tx)/\yN n t.xs o i=0\/¬(fy-ty<0\/k2<=fy-ty\/fx-tx<0\/k3<=fx-tx)/\(0<=tc*k1/\tc*k1<=1000000)/\(0<=(tc*k1+c)*k2/\(tc*k1+c)*k2<=1000000)/\(0<=((tc*k1+c)*k2+(fy-ty))*k3/\((tc*k1+c)*k2+(fy-ty))*k3<=1000000)/\∃q:Nat,((tc*k1+c)*k2+(fy-ty))*k3+(fx-tx)=q/\q<n.data.xs.length/\n.data.xs.getD q 0=yN n t.xs o i:=by
 obtain⟨hk,s4,t3,e0,e1,e2,e3,f0,f1,f2,b0,b1,b2,b3,bi1,bi2,hd,hb,hcnt,hsz⟩:=h
 have hw:yN n t.xs o i=if fy-ty<0\/k2<=fy-ty\/fx-tx<0\/k3<=fx-tx then 0 else n.data.xs.getD (((tc*k1+c)*k2+(fy-ty))*k3+(fx-tx)).toNat 0:=by
  unfold yN
  rw[if_neg aa,if_pos hk,e1,e2,e3,f1,f2,hc,W9,hfx,htc,hty,htx]
 rw[hw]
 by_cases hbad:fy-ty<0\/k2<=fy-ty\/fx-tx<0\/k3<=fx-tx
 ·exact .inl ⟨hbad,if_pos hbad⟩
 ·refine .inr ⟨hbad,?_⟩
  rw[if_neg hbad]
  obtain⟨_,ox,oy,oc⟩:=lK (i:=o) (I1:=i1-k2+1) (I2:=i2-k3+1) ho.1 aa aa
  obtain⟨_,ix,iy,ic⟩:=lK (i:=i) (I1:=i1) (I2:=i2) hi.1 aa aa
  rw[htc]at oc
  rw[hc]at ic
  have htk:tc<k0:=by
   rw[<-htc]
   refine rD aa (rD aa ?_)
   rw[<-hcnt];exact ho.2
  have hck:c<k1:=by
   rw[<-hc]
   refine rD aa (rD aa ?_)
   rw[<-hsz];exact hi.2
  have L1:=K6 (o:=tc) (k1:=k1) (c:=c) (k0:=k0) ⟨oc,htk⟩ ⟨ic,hck⟩
  have p1:0<=tc*k1:=Int.mul_nonneg oc aa
  have L2:=K6 (o:=tc*k1+c) (k1:=k2) (c:=fy-ty) (k0:=k0*k1) ⟨by omega,L1⟩ ⟨by omega,by omega⟩
  have p2:0<=(tc*k1+c)*k2:=Int.mul_nonneg aa aa
  have L3:=K6 (o:=(tc*k1+c)*k2+(fy-ty)) (k1:=k3) (c:=fx-tx) (k0:=k0*k1*k2) ⟨by omega,L2⟩ ⟨by omega,by omega⟩
  have p3:0<=((tc*k1+c)*k2+(fy-ty))*k3:=Int.mul_nonneg aa aa
  have u1:tc*k1<=(tc*k1+c)*k2:=by
   have:=Int.mul_le_mul_of_nonneg_left (show 1<=k2 by omega) (show 0<=tc*k1+c by omega)
   rw[Int.mul_one]at this;omega
  have u2:(tc*k1+c)*k2<=((tc*k1+c)*k2+(fy-ty))*k3:=by
   have:=Int.mul_le_mul_of_nonneg_left (show 1<=k3 by omega) (show 0<=(tc*k1+c)*k2+(fy-ty) by omega)
   rw[Int.mul_one]at this;omega
  rw[<-hd]at L3
  obtain⟨q,hq⟩:=Int.eq_ofNat_of_zero_le (show 0<=((tc*k1+c)*k2+(fy-ty))*k3+(fx-tx) by omega)
  exact⟨⟨p1,by omega⟩,⟨p2,by omega⟩,⟨p3,by omega⟩,q,hq,by omega,by rw[hq];rfl⟩
theorem Uj(w:World)(n:ai)(t:aj)(hno:n.ok w)(ht:t.ok w)(cnt:Nat)(Ud:cnt<=64)(h:aet n t.xs cnt k0 k1 k2 k3 i1 i2)(o i:Nat)(ho:o<cnt)(hi:(i:Int)<entries t.xs):Calls Tryz.prog 124 #[nk n t,.int .i64 o,.int .i64 i] w λe w'=>e= .returned (.int .i64 (yN n t.xs o i))/\Ext w w':=by
 have hes:=(dL t.xs).2
 obtain⟨ta,Ia⟩:=ht.base (by have:=h.t3;omega)
 have ht3:=h.t3
 have htr:∀(R:Nat->Prop) w',(aH w).holds R w'->bf w' (some ta) 1 (ints t.xs):=λR w' h=>by rw[<-Ia];exact au h ht.rows
 have hk:=h.kind
 have g1:=h.b2
 have g2:=h.b3
 have g3:=h.bi1
 have g4:=h.bi2
 obtain⟨_,ix,iy,ic⟩:=lK (i:=(i:Int)) (I1:=i1) (I2:=i2) aa aa aa
 have d1:=Int.ediv_le_self (a:=(i:Int)) i2 aa
 have d2:=Int.ediv_le_self (a:=(i:Int)/i2) i1 (Int.ediv_nonneg aa aa)
 have hsp:∀(w':World),Calls Tryz.prog 150 #[.int .i64 i,.int .i64 i1,.int .i64 i2] w' λe w2=>e= .returned (Hw ((i:Int)/i2/i1) ((i:Int)/i2%i1) ((i:Int)%i2))/\Ext w' w2:=λw'=>Bd w' i i1 i2 aa aa aa
 have hcv:∀(w':World),n.ok w'->t.ok w'->Calls Tryz.prog 149 #[nk n t,.int .i64 o,Hw ((i:Int)/i2/i1) ((i:Int)/i2%i1) ((i:Int)%i2)] w' λe w2=>e= .returned (.int .i64 (yN n t.xs o i))/\Ext w' w2:=λw' hn' ht'=>
  aaT w' n t hn'.shape hn'.data ht' h.s4 h.t3 h.e1 h.e2 h.e3 h.f1 h.f2 ⟨g1,g3⟩ ⟨g2,g4⟩ aa aa aa aa rfl rfl rfl (agv h hno.data.few aa aa rfl rfl rfl rfl rfl rfl)
 refine fq Tryz.func124 [.agg [ak n.kind,ak n.a,ak n.b,.c n.shape.val,ak n.lo,ak n.hi,ak n.size,.c n.data.val,.c n.aG.val,.c t.val],ak o,ak i] ?_
 (repeat' ((conv=>whnf)<;>first|(show bC ..;(first|refine ax ta 1 Ia rfl aa ?_|refine ax ta 2 Ia rfl aa ?_))|(show fu ..;(first|refine qH htr (j:=1) aa h.f1 ?_|refine qH htr (j:=2) aa h.f2 ?_))|(show ku _ 150 ..;refine iL (f:=150) Tryz.call150 (Hw ((i:Int)/i2/i1) ((i:Int)/i2%i1) ((i:Int)%i2)) (λρ w' hw=>hsp w') ?_)|(show ku _ 149 ..;refine iL (f:=149) Tryz.call149 (.int .i64 (yN n t.xs o i)) (λρ w' hw=>hcv w' (ae hw λR h=>hno.later h) (ae hw λR h=>ht.later h)) ?_)|refine aZ ?_|refine ag ?_ ?_<;>intro _))
 all_goals(conv=>whnf)
 all_goals exact bW (λ_ _ h=>h) (λ_=>rfl) rfl
theorem Uk(w:World)(n:ai)(t:aj)(ht:t.ok w)(cnt:Nat)(Ud:cnt<=64){i0:Int}(h:aiu n t.xs cnt i0 i1 i2)(o i:Nat)(ho:o<cnt)(hi:(i:Int)<entries t.xs):Calls Tryz.prog 124 #[nk n t,.int .i64 o,.int .i64 i] w λe w'=>e= .returned (.int .i64 (yN n t.xs o i))/\Ext w w':=by
 have hes:=(dL t.xs).2
 obtain⟨hk,ht3,f0,f1,f2,b0,hz,z1,z2,b1,b2,m1,m2,hcnt,hsz⟩:=h
 obtain⟨ta,Ia⟩:=ht.base aa
 have htr:∀(R:Nat->Prop) w',(aH w).holds R w'->bf w' (some ta) 1 (ints t.xs):=λR w' h=>by rw[<-Ia];exact au h ht.rows
 have hH:=om (x:=i1) (y:=n.size) hz z1
 have hW:=om (x:=i2) (y:=n.size) hz z2
 have hH2:=Int.ediv_le_self (a:=i1) n.size aa
 have hW2:=Int.ediv_le_self (a:=i2) n.size aa
 obtain⟨_,ix,iy,ic⟩:=lK (i:=(i:Int)) (I1:=i1) (I2:=i2) aa aa aa
 have d1:=Int.ediv_le_self (a:=(i:Int)) i2 aa
 have d2:=Int.ediv_le_self (a:=(i:Int)/i2) i1 (Int.ediv_nonneg aa aa)
 have hw:yN n t.xs o i=if(i:Int)/i2/i1≠(o:Int)/(i2/n.size)/(i1/n.size)\/(i:Int)/i2%i1/n.size≠(o:Int)/(i2/n.size)%(i1/n.size)\/(i:Int)%i2/n.size≠(o:Int)%(i2/n.size)then 0 else 1:=by
  unfold yN
  rw[if_neg aa,if_neg aa,f1,f2]
 rw[hw]
 have hsp:∀(w':World),Calls Tryz.prog 150 #[.int .i64 i,.int .i64 i1,.int .i64 i2] w' λe w2=>e= .returned (Hw ((i:Int)/i2/i1) ((i:Int)/i2%i1) ((i:Int)%i2))/\Ext w' w2:=λw'=>Bd w' i i1 i2 aa aa aa
 have hsp2:∀(w':World),Calls Tryz.prog 150 #[.int .i64 o,.int .i64 (i1/n.size),.int .i64 (i2/n.size)] w' λe w2=>e= .returned (Hw ((o:Int)/(i2/n.size)/(i1/n.size)) ((o:Int)/(i2/n.size)%(i1/n.size)) ((o:Int)%(i2/n.size)))/\Ext w' w2:=λw'=>Bd w' o (i1/n.size) (i2/n.size) aa aa aa
 obtain⟨H,hHd⟩:∃H,i1/n.size=H:=⟨_,rfl⟩
 obtain⟨W,hWd⟩:∃W,i2/n.size=W:=⟨_,rfl⟩
 rw[hHd,hWd]at hsp2|-
 obtain⟨c,hc⟩:∃c,(i:Int)/i2/i1=c:=⟨_,rfl⟩
 obtain⟨fy,W9⟩:∃c,(i:Int)/i2%i1=c:=⟨_,rfl⟩
 obtain⟨fx,hfx⟩:∃c,(i:Int)%i2=c:=⟨_,rfl⟩
 obtain⟨tc,htc⟩:∃c,(o:Int)/W/H=c:=⟨_,rfl⟩
 obtain⟨ty,hty⟩:∃c,(o:Int)/W%H=c:=⟨_,rfl⟩
 obtain⟨tx,htx⟩:∃c,(o:Int)%W=c:=⟨_,rfl⟩
 rw[hc,W9,hfx]at hsp|-
 rw[htc,hty,htx]at hsp2|-
 rw[W9]at iy
 rw[hfx]at ix
 rw[hc]at ic d2
 refine fq Tryz.func124 [.agg [ak n.kind,ak n.a,ak n.b,.c n.shape.val,ak n.lo,ak n.hi,ak n.size,.c n.data.val,.c n.aG.val,.c t.val],ak o,ak i] ?_
 (repeat' ((conv=>whnf)<;>first|(show cO _ 7 ..;refine mE [] _ al2 ?_)|(show bC ..;(first|refine ax ta 1 Ia rfl aa ?_|refine ax ta 2 Ia rfl aa ?_))|(show fu ..;(first|refine qH htr (j:=1) aa f1 ?_|refine qH htr (j:=2) aa f2 ?_))|(show qQ ..;(first|refine uo hHd aa aa aa ?_|refine uo hWd aa aa aa ?_|refine uo (x:=fy) rfl aa aa aa ?_|refine uo (x:=fx) rfl aa aa aa ?_))|(show aC _ 150 [ak i,ak i1,ak i2] ..;refine aJ (f:=150) Tryz.call150 (Hw c fy fx) (λρ w' hw=>hsp w') ?_)|(show aC _ 150 [ak o,ak H,ak W] ..;refine aJ (f:=150) Tryz.call150 (Hw tc ty tx) (λρ w' hw=>hsp2 w') ?_)|refine aZ ?_|refine ag ?_ ?_<;>intro _|refine And.intro ?_ ?_))
 all_goals(conv=>whnf)
 all_goals first|exact bW (λ_ _ h=>h) (λ_=>by rw[if_pos aa];rfl) rfl|exact bW (λ_ _ h=>h) (λ_=>by rw[if_neg aa];rfl) rfl
end
theorem Be(w:World)(n:ai)(t:aj)(hb:n.aG.ok w)(cnt o:Nat)(hc:cnt<=64)(ho:o<cnt)(h3:n.kind=3->n.aG.xs.length=cnt)(h4:n.kind=4->1<=n.aG.xs.length/\n.aG.xs.length<=64/\0<cnt/n.aG.xs.length/\o/(cnt/n.aG.xs.length)<n.aG.xs.length):
 Calls Tryz.prog 125 #[nk n t,.int .i64 o,.int .i64 cnt] w λe w'=>e= .returned (.int .i64 (dA n cnt o))/\Ext w w':=by
 have nX:=hb.few
 by_cases hk3:n.kind=3
 ·have hB:dA n cnt o=n.aG.xs.getD o 0:=if_pos hk3
  have hl:=h3 hk3
  rw[hB]
  obtain⟨ua,jr⟩:=hb.base aa
  have hur:∀(R:Nat->Prop) w',(aH w).holds R w'->bf w' (some ua) 1 (ints n.aG.xs):=λR w' h=>by rw[<-jr];exact au h hb.rows
  refine fq Tryz.func125 [.agg [ak n.kind,ak n.a,ak n.b,.c n.shape.val,ak n.lo,ak n.hi,ak n.size,.c n.data.val,.c n.aG.val,.c t.val],ak o,ak cnt] ?_
  (repeat' ((conv=>whnf)<;>first|(show bC ..;refine ax ua o jr rfl aa ?_)|(show fu ..;refine bO hur (j:=o) aa ?_)|refine aZ ?_|refine ag ?_ ?_<;>intro _))
  all_goals(conv=>whnf)
  all_goals exact bW (λ_ _ h=>h) (λ_=>rfl) rfl
 ·by_cases hk4:n.kind=4
  ·obtain⟨l1,l2,l3,l4⟩:=h4 hk4
   have hB:dA n cnt o=n.aG.xs.getD (o/(cnt/n.aG.xs.length)) 0:=by rw[dA,if_neg hk3,if_pos hk4]
   rw[hB]
   obtain⟨ua,jr⟩:=hb.base aa
   have hur:∀(R:Nat->Prop) w',(aH w).holds R w'->bf w' (some ua) 1 (ints n.aG.xs):=λR w' h=>by rw[<-jr];exact au h hb.rows
   refine fq Tryz.func125 [.agg [ak n.kind,ak n.a,ak n.b,.c n.shape.val,ak n.lo,ak n.hi,ak n.size,.c n.data.val,.c n.aG.val,.c t.val],ak o,ak cnt] ?_
   (repeat' ((conv=>whnf)<;>first|(show qQ ..;(first|refine uo (Int.natCast_ediv cnt n.aG.xs.length).symm aa aa aa ?_|refine uo (Int.natCast_ediv o (cnt/n.aG.xs.length)).symm aa aa aa ?_))|(show bC ..;refine ax ua (o/(cnt/n.aG.xs.length)) jr rfl l4 ?_)|(show fu ..;refine bO hur (j:=o/(cnt/n.aG.xs.length)) l4 ?_)|refine aZ ?_|refine ag ?_ ?_<;>intro _))
   all_goals(conv=>whnf)
   all_goals exact bW (λ_ _ h=>h) (λ_=>rfl) rfl
  ·have hB:dA n cnt o=0:=by rw[dA,if_neg hk3,if_neg hk4]
   rw[hB]
   refine fq Tryz.func125 [.agg [ak n.kind,ak n.a,ak n.b,.c n.shape.val,ak n.lo,ak n.hi,ak n.size,.c n.data.val,.c n.aG.val,.c t.val],ak o,ak cnt] ?_
   (repeat' ((conv=>whnf)<;>first|refine aZ ?_|refine ag ?_ ?_<;>intro _))
   all_goals(conv=>whnf)
   all_goals exact bW (λ_ _ h=>h) (λ_=>rfl) rfl
def D9(n:ai)(t:List Int)(o:Nat):List Int:=(List.range (entries t).toNat).map λ(i:Nat)=>if n.kind=9 then QW o i else yN n t o i
def tJ(n:ai)(t:List Int)(cnt:Nat):List (List Int):=(List.range cnt).map (D9 n t)
structure RowsIn(n:ai)(t s:List Int)(cnt:Nat):Prop where
 place:eT n [t] s t cnt
 kind:dQ n\/n.kind=9
 size:1<=entries t
theorem Xa(w:World)(n:ai)(t:aj)(s:List Int)(cnt:Nat)(h:RowsIn n t.xs s cnt)(hno:n.ok w)(ht:t.ok w)(o i:Nat)(ho:o<cnt)(hi:(i:Int)<entries t.xs):Calls Tryz.prog 124 #[nk n t,.int .i64 o,.int .i64 i] w λe w'=>e= .returned (.int .i64 (if n.kind=9 then QW o i else yN n t.xs o i))/\Ext w w':=by
 have hc:=h.place.few
 have heb:=(dL t.xs).2
 rcases h.kind with hl|h9
 ·have h9:n.kind≠9:=by rcases hl with g|g|g<;>omega
  rw[if_neg h9]
  rcases OQ h.place hl with⟨hk,size,hsz,hdl,hbl⟩|⟨k0,k1,k2,k3,i1,i2,hL⟩|⟨i0,i1,i2,hL⟩
  ·exact Ui w n t hno.data hk size cnt hsz hdl hbl hc.2 aa o i ho aa
  ·exact Uj w n t hno ht cnt hc.2 hL o i ho hi
  ·exact Uk w n t ht cnt hc.2 hL o i ho hi
 ·rw[if_pos h9]
  exact Uh w n t h9 o i
theorem agw(w:World)(n:ai)(t:aj)(s:List Int)(cnt:Nat)(h:RowsIn n t.xs s cnt)(hno:n.ok w)(o:Nat)(ho:o<cnt):Calls Tryz.prog 125 #[nk n t,.int .i64 o,.int .i64 cnt] w λe w'=>e= .returned (.int .i64 (dA n cnt o))/\Ext w w':=by
 have hc:=h.place.few
 rcases h.kind with hl|h9
 ·rcases OQ h.place hl with⟨hk,size,hsz,hdl,hbl⟩|⟨k0,k1,k2,k3,i1,i2,hL⟩|⟨i0,i1,i2,hL⟩
  ·exact Be w n t hno.aG cnt o hc.2 ho (λ_=>hbl) (λh4=>by omega)
  ·refine Be w n t hno.aG cnt o hc.2 ho (λh3=>by have:=hL.kind;omega) λ_=> ?_
   have hb:=hL.aG
   have b0:=hL.b0
   have hcnt:=hL.cnt
   have b2:=hL.b2
   have b3:=hL.b3
   obtain⟨q,hq⟩:∃q:Nat,(i1-k2+1)*(i2-k3+1)=q:=Int.eq_ofNat_of_zero_le (Int.mul_nonneg aa aa)
   have hq1:1<=q:=by
    have:=Int.mul_pos (show 0<i1-k2+1 by omega) (show 0<i2-k3+1 by omega)
    omega
   have e1:cnt=n.aG.xs.length*q:=by
    rw[Int.mul_assoc,hq,<-hb,<-Int.natCast_mul]at hcnt
    exact Int.ofNat.inj hcnt
   have e2:cnt/n.aG.xs.length=q:=by rw[e1,Nat.mul_div_cancel_left _ aa]
   rw[e2]
   exact⟨by omega,by omega,hq1,(Nat.div_lt_iff_lt_mul aa).2 (by rw[<-e1];exact ho)⟩
  ·exact Be w n t hno.aG cnt o hc.2 ho (λh3=>by have:=hL.kind;omega) (λh4=>by have:=hL.kind;omega)
 ·exact Be w n t hno.aG cnt o hc.2 ho (λh3=>by omega) (λh4=>by omega)
section
variable {t:aj} {w:World} {B:Base} {H:Heap} {S:bJ} {nx:Nat}
def aex:aj:=⟨none,0,[]⟩
def inpN(t:aj):ai:=⟨1,0,0,t,0,0,0,aex,aex⟩
def vH(n:ai)(t:aj):Int×List (List Int):=check ⟨none,0,[inpN t,n],1⟩
theorem D_(n:ai)(t:aj)(b:Option Addr)(c:Nat):check ⟨b,c,[inpN t,n],1⟩=vH n t:=by unfold vH check;rfl
def nu(n:ai)(t:aj):Prop:=(dQ n\/n.kind=9)/\n.a=0/\(vH n t).1=0
instance(n:ai)(t:aj):Decidable (nu n t):=by unfold nu;infer_instance
def wI(n:ai)(t:aj):Nat:=(entries ((vH n t).2.getD 1 [])).toNat
def jC(n:ai)(t:aj):(List (List Int)×List Int)×Int:=if nu n t then((tJ n t.xs (wI n t),(List.range (wI n t)).map (dA n (wI n t))),0)else(([],[]),3)
theorem DU{n:ai}(h:nu n t):∃s,(vH n t).2=[t.xs,s]/\entries s=wI n t/\RowsIn n t.xs s (wI n t):=by
 obtain⟨hk,ha,hc⟩:=h
 obtain⟨h1,h2,h3,h4,h5⟩:=gX (g:=⟨none,0,[inpN t,n],1⟩) hc
 obtain⟨s0,e0,n0⟩:=h5 0 (inpN t) rfl
 obtain⟨s1,e1,n1⟩:=h5 1 n rfl
 have hs0:s0=t.xs:=by
  have:=n0.shape
  unfold bM at this
  rw[if_pos (.inl rfl)]at this
  exact(Option.some.inj this).symm
 have hl:(vH n t).2.length=2:=h4
 have hsh:(vH n t).2=[t.xs,s1]:=by
  have a0:(vH n t).2[0]? =some s0:=e0
  have a1:(vH n t).2[1]? =some s1:=e1
  match hq:(vH n t).2,hl with
  |[x,y],_=>
   rw[hq]at a0 a1
   simp at a0 a1
   rw[a0,a1,hs0]
 obtain⟨_,_,cnt,hcnt,hp⟩:=xm (g:=⟨none,0,[inpN t,n],1⟩) hc (i:=1) (n:=n) rfl
 have e2:(check ⟨none,0,[inpN t,n],1⟩).2=[t.xs,s1]:=hsh
 rw[e2,ha]at hp
 rw[e2]at hcnt
 have hc2:wI n t=cnt:=by
  unfold wI
  rw[hsh,hcnt];rfl
 refine⟨s1,hsh,by rw[hc2];exact hcnt,by rw[hc2];exact hp,hk,?_⟩
 have:=hp.pos t.xs List.mem_cons_self
 omega
def qI(w:World)(r:(List (List Int)×List Int)×Int):Ending->World->Prop:=λe w'=>∃(x:aY) (y:aj),(wF r.1.1 x/\y.xs=r.1.2/\y.a_)/\e= .returned (.tuple #[x.val,y.val,.int .i64 r.2])/\Ext w w'/\(ni x).holds (λb=>w.heap.size<=b/\b<w'.heap.size) w'/\(bn y).holds (λb=>w.heap.size<=b/\b<w'.heap.size) w'
theorem uI{n:ai}(hno:¬nu n t)(hb:∀R w',S.holds R w'->(aH B.w0).holds R w')(hw0:B.w0=w):jE B (.sI [.c (.slice none 0 0),.c (.slice none 0 0),ak 3]) H S nx (qI w (jC n t)):=by
 subst hw0
 rw[jC,if_neg hno]
 refine dz λρ w' hw=>⟨⟨none,0,[]⟩,⟨none,0,[]⟩,⟨⟨rfl,λ_ h=>kJ,Nat.le_refl _⟩,rfl,⟨λ_ h=>kJ,Nat.le_refl _,by decide⟩⟩,rfl,aV hw hb,⟨⟨λ_ h=>kJ,.inl rfl⟩,λ_ h=>kJ⟩,⟨λ_ h=>kJ,.inl rfl⟩⟩
def RIs(p:iX):Prop:=(p.1=⟨none,0⟩/\p.2=[])\/((∃b off,p.1.base=some ⟨b,off,none⟩)/\p.2≠[]/\p.2.length<=p.1.cap)
theorem Ul{i g j n m:Nat}{L:List iX}{bs:List Int}{r:(List (List Int)×List Int)×Int}(hb:∀R w',S.holds R w'->(aH B.w0).holds R w')(hw0:B.w0=w)(hL:∀p∈L,RIs p)(hf:∀p∈L,(∀x∈p.2,i64 x)/\p.2.length<=1000000)(hm:m=L.length)(hn:n=bs.length)(hbf:∀x∈bs,i64 x)(hbl:bs.length<=1000000)
 (hi:(i,bU.rows (gF L) 1 32)∈H) (hg:(g,bU.ext (mh 3 (kr L)))∈H) (hj:(j,bU.rows (ints bs) 1 3)∈H) (hr:r=((L.map Prod.snd,bs),0)):
 jE B (.sI [.os i m,.os j n,ak 0]) H S nx (qI w r):=by
 subst hw0 hm hn hr
 refine dz λρ w' hw=> ?_
 have hn1:=dF hw hb hi
 have hsh:gF L=aM (L.map oU):=by simp[gF,aM,Hr,oU,aj.val]
 rw[hsh]at hn1
 obtain⟨base,cap,e,h1,h2⟩:∃base cap,(SV.os i (aM (L.map oU)).length).rf ρ= .slice base (L.map oU).length cap/\(L.map oU).length<=cap/\(eY base 1 (aM (L.map oU))).holds (λb=>B.w0.heap.size<=b/\b<w'.heap.size) w':=by
  obtain⟨base,cap,e,h1⟩:=fw hn1
  obtain⟨lc,e2,F,hF,hr,hcap,_⟩:=hn1
  rw[e2]at e
  simp only[Value.slice.injEq]at e
  obtain⟨e3,_,e4⟩:=e
  refine⟨base,cap,?_,?_,h1⟩
  ·rw[e2,e3,e4,aR]
  ·rw[<-e4];simpa[aR]using hcap
 have hlen:(aM (L.map oU)).length=L.length:=by rw[aR,List.length_map]
 rw[hlen]at e
 have hn2:=dF hw hb hj
 rw[aF]at hn2
 obtain⟨y,ey,y1,y2,y3⟩:=tX hn2 hbf hbl
 refine⟨⟨base,cap,L.map oU⟩,y,⟨⟨by simp[oU],λu hu=> ?_,h1⟩,y1,y2⟩,?_,aV hw hb,⟨h2,λu hu=> ?_⟩,y3⟩
 ·obtain⟨p,hp,rfl⟩:=List.mem_map.1 hu
  rcases hL p hp with⟨e1,e2⟩|⟨_,e2,e3⟩
  ·exact⟨(hf p hp).1,by simp[oU,e2],by simp[oU,e2]⟩
  ·exact⟨(hf p hp).1,e3,(hf p hp).2⟩
 ·have:(SV.sI [.os i L.length,.os j bs.length,ak 0]).rf ρ= .tuple #[(SV.os i L.length).rf ρ,(SV.os j bs.length).rf ρ,.int .i64 0]:=rfl
  rw[this,e,ey,List.length_map]
  simp[aY.val]
 ·obtain⟨p,hp,rfl⟩:=List.mem_map.1 hu
  rcases hL p hp with⟨e1,e2⟩|⟨⟨b,off,e1⟩,e2,e3⟩
  ·show(eY (oU p).base 1 (ints (oU p).xs)).holds _ w'
   have:(oU p).xs=[]:=e2
   rw[this]
   exact⟨λr hr=>(by cases hr),.inl rfl⟩
  ·have hp':((p.1,p.2.map (Value.int .i64)):xx)∈kr L:=List.mem_map.2 ⟨p,hp,rfl⟩
   obtain⟨g1,g2,g3⟩:=Zd hw hb hg hp' e1
   refine⟨kN,.inr ⟨b,off,e1,⟨g1,g2⟩,λk r hk j v hj=> ?_⟩⟩
   have hkl:k<p.2.length:=by
    have:=(List.getElem?_eq_some_iff.1 hk).1
    rwa[aF]at this
   have hk':(ints p.2)[k]? =some r:=hk
   rw[d9 hkl]at hk'
   obtain rfl:[Value.int .i64 p.2[k]]=r:=by simpa using hk'
   have hj0:j=0:=by
    rcases Nat.eq_zero_or_pos j with h|h
    ·exact h
    ·rw[List.getElem?_eq_none Ym]at hj;cases hj
   subst hj0
   have:=g3 k (Value.int .i64 p.2[k]) (by simp[hkl])
   obtain rfl:Value.int .i64 p.2[k]=v:=by simpa using hj
   simpa using this
end
abbrev al6:Go.SX.DT:=(eF [0,2] (.alt 1 (eF [4,103,5] .done) (eF [103,101,4,5] .done)))
abbrev ak1:Go.SX.DT:=(eF [0,1,2,3,4,5,6,7,8,109,110,111,12,113] .done)
theorem K8{l1:SX.Loc}{R:Nat->Prop}{w:World}{n:ai}{t:aj}(hn:n.ok w)(hsm:n.small)(ht:t.ok w)(h:((eY l1.base 9 (bq [inpN t,n])).past 0).holds R w):(⟨l1.base,l1.cap,[inpN t,n],1⟩:bE).ok w:=by
 have z:i64 0:=⟨by decide,by decide⟩
 have nv:aex.ok w:=⟨.inl rfl,λ_ h=>kJ,Nat.le_refl _,by decide⟩
 refine⟨aO h,λm hm=> ?_,λm hm=> ?_,(show 2<=1000000 by decide),(show i64 1 from⟨by decide,by decide⟩)⟩
 ·rcases List.mem_cons.1 hm with rfl|hm
  ·exact⟨ht,nv,nv,(show i64 1 from⟨by decide,by decide⟩),z,z,z,z,z⟩
  ·rw[List.mem_singleton.1 hm];exact hn
 ·rcases List.mem_cons.1 hm with rfl|hm
  ·exact⟨Nat.zero_le _,Nat.zero_le _⟩
  ·rw[List.mem_singleton.1 hm];exact hsm
theorem v_{cx:Cx}{f:FuncId}{args:List SV}{H:Heap}{S:bJ}{nx:Nat}{K:SV->Heap->bJ->Nat->Prop}(r:Int×List (List Int))(hf:∀ar w,(callFunc f ar).run cx.P w= .ok (.enter f ar) w)
 (hc:∀ρ w',dY cx.B ρ nx H S w'->Calls cx.P f (SV.d_ ρ args).toArray w' (qZ w' r))
 (h0:r.1≠0->K (.c (.tuple #[.slice none 0 0,.int .i64 r.1])) H S nx)
 (h1:r.1=0->∀sv:aY,sv.l.map (·.xs)=r.2->(∀u∈sv.l,u.a_)->(0<sv.l.length->∃a,sv.base=some a)->K (.c (.tuple #[sv.val,.int .i64 0])) H (S.and ((jy sv).past cx.B.w0.heap.size)) nx):aC cx f args H S nx K:=by
 rw[gI]
 refine⟨hf,λρ w hw=>(hc ρ w hw).mono ?_⟩
 rintro e w' ⟨v,rfl,he,hbad,hgood⟩
 by_cases hr:r.1=0
 ·obtain⟨sv,rfl,hm,hs,hd,hcap⟩:=hgood hr
  rw[hr]
  exact⟨.c (.tuple #[sv.val,.int .i64 0]),ρ,H,_,nx,rfl,λ_ _=>rfl,Nat.le_refl _,SV.ji _,hw.grow he hd,h1 hr sv hm hs (λh0=>aI (j:=0) (aO hd.1) (by rw[aR];exact h0))⟩
 ·rw[hbad hr]
  exact⟨.c (.tuple #[.slice none 0 0,.int .i64 r.1]),ρ,H,S,nx,rfl,λ_ _=>rfl,Nat.le_refl _,SV.ji _,hw.ext he,h0 hr⟩
theorem Xb(w:World)(n:ai)(t:aj)(hn:n.ok w)(hsm:n.small)(ht:t.ok w)(hno:¬nu n t):Calls Tryz.prog 63 #[n.jS,t.val] w (qI w (jC n t)):=by
 by_cases hk:dQ n\/n.kind=9
 ·have hkk:=hk
  unfold dQ at hk
  refine fq Tryz.func63 [.agg (jM n),.c t.val] ?_
  (repeat' ((conv=>whnf)<;>first|refine qP ?_|refine ag ?_ ?_<;>intro _))
  all_goals first|(exfalso;omega)|skip
  all_goals
   (repeat' ((conv=>whnf)<;>first|refine qP ?_|refine ag ?_ ?_<;>intro _))
   refine kU 0 (λ_ _ _ _ hb=>absurd hb (Nat.not_lt_zero _)) (λl1 hl1=> ?_)
   (repeat' ((conv=>whnf)<;>first|(show aC _ 24 ..;(refine oL (f:=24) (vH n t) Tryz.call24 (λρ w' hw=>by have:=pu w' ⟨l1.base,l1.cap,[inpN t,n],1⟩ (ae hw λR h=>K8 (hn.later h.1) hsm (ht.later h.1) h.2);rw[D_]at this;exact this) (λhne=> ?_) (λhe sv hm hsv=> ?_)))|(show @dR _ _ _;(first|refine bA aa ?_|refine cK (λh=>h rfl) ?_|refine bA (λh=>hno ⟨hkk,h,he⟩) ?_))|refine qP ?_))
   all_goals(conv=>whnf)
   all_goals first|exact uI hno (λ_ _ h=>h.1) rfl|exact uI hno (λ_ _ h=>h.1.1) rfl
 ·have hk':n.kind≠3/\n.kind≠4/\n.kind≠5/\n.kind≠9:=⟨λg=>hk (.inl (.inl g)),λg=>hk (.inl (.inr (.inl g))),λg=>hk (.inl (.inr (.inr g))),λg=>hk (.inr g)⟩
  refine fq Tryz.func63 [.agg (jM n),.c t.val] ?_
  (repeat' ((conv=>whnf)<;>first|refine qP ?_|refine ag ?_ ?_<;>intro _))
  all_goals(conv=>whnf)
  all_goals first|(exfalso;omega)|exact uI hno (λ_ _ h=>h) rfl
section
variable {t bs:List Int} {o i cnt:Nat} {L:List iX}
theorem Um{r:List Int}{k:Nat}{v:Int}{K:List (List Value)->Prop}(hk:k<r.length)(h:K (ints (r.set k v))):bS (ints r) k 0 [.int .i64 v] K:=by
 refine iV _ (d9 hk) Ja ?_
 have e:(ints r).set k (bR [Value.int .i64 r[k]] 0 [.int .i64 v])=ints (r.set k v):=by
  have e2:bR [Value.int .i64 r[k]] 0 [.int .i64 v]=[Value.int .i64 v]:=rfl
  rw[e2]
  simp[ints,List.map_set]
 rw[e];exact h
def vC(n:ai)(t:List Int)(o i:Nat):Int:=if n.kind=9 then QW o i else yN n t o i
theorem jQ(n:ai)(t:List Int)(o:Nat):(D9 n t o).length=(entries t).toNat:=by simp[D9]
theorem aaU{n:ai}(h:i<(entries t).toNat):(D9 n t o).take (i+1)=(D9 n t o).take i++[vC n t o i]:=by
 rw[List.take_succ_eq_append_getElem (by rw[jQ];exact h)]
 simp[D9,vC]
theorem Ea{l:List Int}(h:∀x∈l,i64 x)(k:Nat):i64 (l.getD k 0):=by
 rcases Nat.lt_or_ge k l.length with g|g
 ·have e:l.getD k 0=l[k]:=by simp[List.getD,g]
  rw[e];exact h _ (List.getElem_mem g)
 ·have e:l.getD k 0=0:=by simp[List.getD,g]
  rw[e];exact⟨by decide,by decide⟩
theorem aey{n:ai}(hd:∀x∈n.data.xs,i64 x)(t:List Int)(o i:Nat):i64 (vC n t o i):=by
 have z:i64 0:=⟨by decide,by decide⟩
 have one:i64 1:=⟨by decide,by decide⟩
 unfold vC QW yN
 split
 ·split<;>assumption
 ·split
  ·exact Ea hd _
  ·split
   ·simp only
    split
    ·exact z
    ·exact Ea hd _
   ·split<;>assumption
theorem aaV{n:ai}(hb:∀x∈n.aG.xs,i64 x)(cnt o:Nat):i64 (dA n cnt o):=by
 unfold dA
 split
 ·exact Ea hb _
 ·split
  ·exact Ea hb _
  ·exact⟨by decide,by decide⟩
structure l6(n:ai)(t:List Int)(cnt o i:Nat)(L:List iX):Prop where
 len:L.length=cnt
 each:∀p∈L,RIs p
 fits:∀p∈L,(∀x∈p.2,i64 x)/\p.2.length<=1000000
 is:∀k,k<cnt->(L.map Prod.snd).getD k []=if k<o then D9 n t k else if k=o then(D9 n t o).take i else []
theorem l6.start(n:ai)(t:List Int)(cnt:Nat):l6 n t cnt 0 0 (xI cnt):=⟨by simp[xI],λp hp=> .inl ahF,λp hp=>by rw[(List.mem_replicate.1 hp).2];exact⟨λx hx=>(by cases hx),Nat.zero_le _⟩,λk hk=>by
 rw[TT]
 simp only[List.getD,List.getElem?_replicate]
 simp[hk]⟩
theorem l6.next{n:ai}(h:l6 n t cnt o (entries t).toNat L):l6 n t cnt (o+1) 0 L:=⟨h.len,h.each,h.fits,λk hk=>by
 rw[h.is k hk]
 by_cases g:k<o
 ·rw[if_pos g,if_pos aa]
 ·rw[if_neg g]
  by_cases g2:k=o
  ·rw[if_pos g2,if_pos aa,g2,List.take_of_length_le (by rw[jQ];exact Nat.le_refl _)]
  ·rw[if_neg g2,if_neg aa];simp⟩
theorem l6.push{n:ai}{q:iX}{l':SX.Loc}(h:l6 n t cnt o i L)(hd:∀x∈n.data.xs,i64 x)(hi:i<(entries t).toNat)(aaA:i<=64)(hq:L[o]? =some q)(hl:∃b off,l'.base=some ⟨b,off,none⟩)(hcap:q.2.length+1<=l'.cap):l6 n t cnt o (i+1) (L.set o (l',q.2++[vC n t o i])):=by
 have ho:o<L.length:=(List.getElem?_eq_some_iff.1 hq).1
 have hq2:q.2=(D9 n t o).take i:=by
  have:=h.is o (by rw[<-h.len];exact ho)
  rw[D7 hq,if_neg (Nat.lt_irrefl o),if_pos rfl]at this
  exact this
 have hql:q.2.length=i:=by rw[hq2,List.length_take,jQ];omega
 refine⟨by rw[List.length_set];exact h.len,λp hp=> ?_,λp hp=> ?_,λk hk=> ?_⟩
 ·rcases List.mem_or_eq_of_mem_set hp with hp|hp
  ·exact h.each p hp
  ·rw[hp];exact .inr ⟨hl,by simp,by simpa using hcap⟩
 ·rcases List.mem_or_eq_of_mem_set hp with hp|hp
  ·exact h.fits p hp
  ·rw[hp]
   refine⟨λx hx=> ?_,by simp;omega⟩
   rcases List.mem_append.1 hx with hx|hx
   ·exact(h.fits q (List.mem_of_getElem? hq)).1 x hx
   ·rw[List.mem_singleton.1 hx];exact aey hd t o i
 ·rw[List.map_set]
  by_cases e:o=k
  ·subst e
   rw[if_neg (Nat.lt_irrefl o),if_pos rfl,aaU hi,<-hq2]
   simp[List.getD,ho]
  ·have:=h.is k hk
   have e2:((L.map Prod.snd).set o (l',q.2++[vC n t o i]).2).getD k []=(L.map Prod.snd).getD k []:=by simp[List.getD,List.getElem?_set_ne e]
   rw[e2,this]
   by_cases g:k<o
   ·rw[if_pos g,if_pos g]
   ·rw[if_neg g,if_neg g,if_neg (λe'=>e e'.symm),if_neg (λe'=>e e'.symm)]
structure yO(n:ai)(cnt o:Nat)(bs:List Int):Prop where
 len:bs.length=cnt
 is:∀k,k<cnt->bs.getD k 0=if k<o then dA n cnt k else 0
theorem yO.next{n:ai}(h:yO n cnt o bs)(ho:o<cnt):yO n cnt (o+1) (bs.set o (dA n cnt o)):=by
 refine⟨by rw[List.length_set];exact h.len,λk hk=> ?_⟩
 by_cases e:o=k
 ·subst e
  rw[if_pos (Nat.lt_succ_self o)]
  simp[List.getD,h.len,ho]
 ·have:=h.is k hk
  have e2:(bs.set o (dA n cnt o)).getD k 0=bs.getD k 0:=by simp[List.getD,List.getElem?_set_ne e]
  rw[e2,this]
  by_cases g:k<o
  ·rw[if_pos g,if_pos aa]
  ·rw[if_neg g,if_neg aa]
theorem yO.done{n:ai}(h:yO n cnt cnt bs):bs=(List.range cnt).map (dA n cnt):=by
 apply List.ext_getElem
 ·simp[h.len]
 ·intro k h1 h2
  have hk:k<cnt:=by rw[<-h.len];exact h1
  have:=h.is k hk
  rw[if_pos hk]at this
  simp[List.getD,h1]at this
  simp[this]
theorem l6.done{n:ai}(h:l6 n t cnt cnt 0 L):L.map Prod.snd=tJ n t cnt:=by
 apply List.ext_getElem
 ·simp[tJ,h.len]
 ·intro k h1 h2
  have hk:k<cnt:=by rw[<-h.len];simpa using h1
  have:=h.is k hk
  rw[if_pos hk]at this
  have e:(tJ n t cnt)[k]=D9 n t k:=by simp[tJ]
  rw[e,<-this]
  simp[List.getD,h.len,hk]
theorem Xc(w:World)(n:ai)(t:aj)(hn:n.ok w)(hsm:n.small)(ht:t.ok w)(hok:nu n t):Calls Tryz.prog 63 #[n.jS,t.val] w (qI w (jC n t)):=by
 obtain⟨s,hsh,hcs,hR⟩:=DU hok
 have hcnt:=hR.place.few
 have hsz:=hR.size
 have heb:=(dL t.xs).2
 rw[jC,if_pos hok]
 obtain⟨cnt,hce⟩:∃c,wI n t=c:=⟨_,rfl⟩
 rw[hce]at hcs hR hcnt|-
 obtain⟨E,hE⟩:∃E:Nat,entries t.xs=E:=⟨(entries t.xs).toNat,by omega⟩
 have ha:=hok.2.1
 have hk:=hok.1
 have hkk:=hk
 unfold dQ at hk
 refine fq Tryz.func63 [.agg (jM n),.c t.val] ?_
 (repeat' ((conv=>whnf)<;>first|refine qP ?_|refine ag ?_ ?_<;>intro _))
 all_goals first|(exfalso;omega)|skip
 all_goals
  (repeat' ((conv=>whnf)<;>first|refine qP ?_|refine ag ?_ ?_<;>intro _))
  refine kU 0 (λ_ _ _ _ hb=>absurd hb (Nat.not_lt_zero _)) (λl1 hl1=> ?_)
  (repeat' ((conv=>whnf)<;>first|(show aC _ 24 ..;(refine v_ (f:=24) (vH n t) Tryz.call24 (λρ w' hw=>by have:=pu w' ⟨l1.base,l1.cap,[inpN t,n],1⟩ (ae hw λR h=>K8 (hn.later h.1) hsm (ht.later h.1) h.2);rw[D_]at this;exact this) (λhne=>absurd hok.2.2 hne) (λhe sv hm hsv hsb=> ?_)))|(show @dR _ _ _;(first|refine bA aa ?_|refine cK (λh=>h rfl) ?_|refine cK (λh=>h ha) ?_))|refine qP ?_))
  rw[hsh]at hm
  obtain⟨vb,vc,vl⟩:=sv
  obtain⟨u0,u1,rfl,hu0,hu1⟩:∃u v,vl=[u,v]/\u.xs=t.xs/\v.xs=s:=by
   have h2:vl.length=2:=by have:=congrArg List.length hm;simpa using this
   match vl,h2,hm with
   |[u,v],_,h=>exact⟨u,v,rfl,by simpa using(List.cons.inj h).1,by simpa using(List.cons.inj (List.cons.inj h).2).1⟩
  obtain⟨va,rfl⟩:∃a,vb=some a:=hsb (show 0<2 by decide)
  (repeat' ((conv=>whnf)<;>first|(show bC ..;refine ax va 1 rfl rfl (show 1<2 by decide) ?_)|(show fu ..;refine aW (λR w' h=>aO h.2.1) [u1.val] u1.val rfl rfl ?_)|(show aC _ 61 ..;(refine aJ (f:=61) Tryz.call61 (.int .i64 (cnt:Nat)) (λρ w' hw=>by have:=mU w' u1.base u1.cap u1.xs (ae hw λR h=>aO (h.2.2 u1 aQ));rw[show entries u1.xs=(cnt:Int) by rw[hu1];exact hcs]at this;exact this) ?_))|(show kv ..;(first|refine g_ cnt rfl rfl acQ aa ?_|refine g_ cnt rfl rfl xY aa ?_))|(show cO _ 14 ..;refine mE [] _ al6 ?_)|refine aN ?_|refine And.intro ?_ ?_))
  all_goals(conv=>whnf)
 all_goals
  refine Wp.grp 3 cnt ?_
  first
  |refine Wp.loop (σ:=Nat×List iX×List Int) 9 (λx=>[(1,.c t.val),(10,.lp 3 0 0 0),(11,.fn (.func 124) [.agg [ak n.kind,ak n.a,ak n.b,.c n.shape.val,ak n.lo,ak n.hi,ak n.size,.c n.data.val,.c n.aG.val,.c t.val]] []),(12,ak (cnt:Nat)),(13,.os 7 cnt),(14,.os 8 cnt),(55,ak (cnt:Nat)),(56,ak x.1)]) (λx=>[(3,.box [ak n.kind,ak n.a,ak n.b,.c n.shape.val,ak n.lo,ak n.hi,ak n.size,.c n.data.val,.c n.aG.val,.c t.val] 158),(7,.rows (gF x.2.1) 1 32),(6,.ext (mh 3 (kr x.2.1))),(8,.rows (ints x.2.2) 1 3)]) (λ_=>aH w)
    (λx=>x.1<=cnt/\l6 n t.xs cnt x.1 0 x.2.1/\yO n cnt x.1 x.2.2) (λx=>cnt-x.1) (0,xI cnt,List.replicate cnt 0) [(7,some 5),(8,some 4)] aS (λ_=>⟨rfl,rfl⟩)
    ⟨Nat.zero_le _,l6.start n t.xs cnt,by simp,λk hk=>by simp only[List.getD,List.getElem?_replicate];simp[hk]⟩ ⟨rfl,aU,?_,λ_ _ h=>h.1.1⟩ ?_
  |refine Wp.loop (σ:=Nat×List iX×List Int) 9 (λx=>[(1,.c t.val),(10,.lp 3 0 0 0),(11,.fn (.func 124) [.agg [ak n.kind,ak n.a,ak n.b,.c n.shape.val,ak n.lo,ak n.hi,ak n.size,.c n.data.val,.c n.aG.val,.c t.val]] []),(12,ak (cnt:Nat)),(13,.os 7 cnt),(14,.os 8 cnt),(55,ak (cnt:Nat)),(56,ak x.1)]) (λx=>[(3,.box [ak n.kind,ak n.a,ak n.b,.c n.shape.val,ak n.lo,ak n.hi,ak n.size,.c n.data.val,.c n.aG.val,.c t.val] 158),(7,.rows (gF x.2.1) 1 32),(6,.ext (mh 3 (kr x.2.1))),(8,.rows (ints x.2.2) 1 3)]) (λ_=>aH w)
    (λx=>x.1<=cnt/\l6 n t.xs cnt x.1 0 x.2.1/\yO n cnt x.1 x.2.2) (λx=>cnt-x.1) (0,xI cnt,List.replicate cnt 0) [(7,some 4),(8,some 5)] aS (λ_=>⟨rfl,rfl⟩)
    ⟨Nat.zero_le _,l6.start n t.xs cnt,by simp,λk hk=>by simp only[List.getD,List.getElem?_replicate];simp[hk]⟩ ⟨rfl,aU,?_,λ_ _ h=>h.1.1⟩ ?_
  ·show kL _ _ [(3,.box [ak n.kind,ak n.a,ak n.b,.c n.shape.val,ak n.lo,ak n.hi,ak n.size,.c n.data.val,.c n.aG.val,.c t.val] 158),(7,.rows (gF (xI cnt)) 1 32),(6,.ext (mh 3 (kr (xI cnt)))),(8,.rows (ints (List.replicate cnt 0)) 1 3)]
   rw[OE,KT,show ints (List.replicate cnt 0)=List.replicate cnt [Value.int .i64 0] by simp[ints]]
   exact aU
  rintro⟨o,L,bs⟩ ⟨ho,hL,hB⟩
  dsimp only at ho hL hB
  by_cases hoc:o<cnt
  ·have hwb:∀(w':World),n.ok w'->Calls Tryz.prog 125 #[nk n t,.int .i64 o,.int .i64 cnt] w' λe w2=>e= .returned (.int .i64 (dA n cnt o))/\Ext w' w2:=λw' hn'=>agw w' n t s cnt hR hn' o hoc
   (repeat' ((conv=>whnf)<;>first|(show aC _ 125 ..;refine aJ (f:=125) Tryz.call125 (.int .i64 (dA n cnt o)) (λρ w' hw=>hwb w' (ae hw λR h=>hn.later h)) ?_)|(show bV ..;(refine aT o rfl hoc (Nat.le_of_eq (by rw[aF];exact hB.len.symm)) ?_))|(show bS ..;refine Um (Nat.lt_of_lt_of_eq hoc hB.len.symm) ?_)|(show aC _ 61 ..;(refine aJ (f:=61) Tryz.call61 (.int .i64 (E:Nat)) (λρ w' hw=>by have:=mU w' t.base t.cap t.xs (ae hw λR h=>au h ht.rows);rw[hE]at this;exact this) ?_))|refine aN ?_|refine ag ?_ ?_<;>intro _))
   all_goals(conv=>whnf)
   have hB':=hB.next hoc
   clear hB
   obtain⟨bs',hbs⟩:∃b,bs.set o (dA n cnt o)=b:=⟨_,rfl⟩
   rw[hbs]at hB'|-
   have hEt:(entries t.xs).toNat=E:=by rw[hE];rfl
   refine Wp.loop (σ:=Nat×List iX) 9 (λx=>[(1,.c t.val),(10,.lp 3 0 0 0),(11,.fn (.func 124) [.agg [ak n.kind,ak n.a,ak n.b,.c n.shape.val,ak n.lo,ak n.hi,ak n.size,.c n.data.val,.c n.aG.val,.c t.val]] []),(12,ak (cnt:Nat)),(13,.os 7 cnt),(14,.os 8 cnt),(55,ak (cnt:Nat)),(56,ak o),(15,ak o),(67,ak (E:Nat)),(68,ak x.1)]) (λx=>[(3,.box [ak n.kind,ak n.a,ak n.b,.c n.shape.val,ak n.lo,ak n.hi,ak n.size,.c n.data.val,.c n.aG.val,.c t.val] 158),(7,.rows (gF x.2) 1 32),(6,.ext (mh 3 (kr x.2))),(8,.rows (ints bs') 1 3)]) (λ_=>aH w)
    (λx=>x.1<=E/\l6 n t.xs cnt o x.1 x.2) (λx=>E-x.1) (0,L) [] aS (λ_=>⟨rfl,rfl⟩) ⟨Nat.zero_le _,hL⟩ ⟨rfl,aU,aU,λ_ _ h=>h⟩ ?_
   clear hL
   rintro⟨i,M⟩ ⟨hi,hM⟩
   dsimp only at hi hM
   by_cases hiE:i<E
   ·have hww:∀(w':World),n.ok w'->t.ok w'->Calls Tryz.prog 124 #[nk n t,.int .i64 o,.int .i64 i] w' λe w2=>e= .returned (.int .i64 (vC n t.xs o i))/\Ext w' w2:=λw' hn' ht'=>Xa w' n t s cnt hR hn' ht' o i hoc (by rw[hE];omega)
    have hoM:o<M.length:=by rw[hM.len];exact hoc
    have hdl:=uf M
    obtain⟨q,hq⟩:∃q,M[o]? =some q:=⟨_,List.getElem?_eq_getElem hoM⟩
    have hqm:=List.mem_of_getElem? hq
    have hq2:q.2=(D9 n t.xs o).take i:=by
     have:=hM.is o hoc
     rw[D7 hq,if_neg (Nat.lt_irrefl o),if_pos rfl]at this
     exact this
    have hql:q.2.length=i:=by rw[hq2,List.length_take,jQ];omega
    have hpush:=λl'=>hM.push (l':=l') hn.data.fits (by rw[hEt];exact hiE) aa hq
    rcases hM.each q hqm with⟨e1,e2⟩|⟨⟨b,off,e1⟩,e2,e3⟩
    ·obtain⟨ql,qv⟩:=q
     simp only at e1 e2
     subst e1 e2
     (repeat' ((conv=>whnf)<;>first|refine ag2 ?_|refine M0 ?_|refine ag3 ?_|refine XW ?_|(show kC ..;refine row_of _ _ (rz hq) rfl ?_)|refine qP ?_|refine ag ?_ ?_<;>intro _))
     refine uN ?_
     (repeat' ((conv=>whnf)<;>first|refine M0 ?_|(show sH ..;refine fO (Nat.le_refl _) ?_)|(show fG ..;refine b_ (show 1*8<=140737488355328 by decide) ?_)))
     all_goals(conv=>whnf)
     refine Fs (T:=3) (g:=6) (d:=o) (us:=[]) (l0:=⟨none,0⟩) (L:=kr M) (vs:=[.int .i64 (vC n t.xs o i)]) ?_ (z_ hq) rfl rfl rfl Nat.zero_lt_one (λl' hlc hlb=> ?_)
     ·exact aQ
     have hp:=hpush l' hlb hlc
     have er:gF (M.set o (l',[]++[vC n t.xs o i]))=(gF M).set o [.slice l'.base 1 l'.cap]:=by rw[xH];rfl
     have eg:kr (M.set o (l',[]++[vC n t.xs o i]))=(kr M).set o (l',[.int .i64 (vC n t.xs o i)]):=by rw[Aa];rfl
     (repeat' ((conv=>whnf)<;>first|refine M0 ?_|(show bS ..;(refine iV _ (rz hq) Ja ?_))|refine XW ?_|refine aN ?_))
     all_goals(conv=>whnf)
     refine⟨(i+1,M.set o (l',[]++[vC n t.xs o i])),[],⟨hiE,hp⟩,by show E-(i+1)<E-i;omega,rfl,aU,?_,λ_ _ h=>h⟩
     show kL [] _ [(3,.box [ak n.kind,ak n.a,ak n.b,.c n.shape.val,ak n.lo,ak n.hi,ak n.size,.c n.data.val,.c n.aG.val,.c t.val] 158),(7,.rows (gF (M.set o (l',[]++[vC n t.xs o i]))) 1 32),(6,.ext (mh 3 (kr (M.set o (l',[]++[vC n t.xs o i]))))),(8,.rows (ints bs') 1 3)]
     rw[eg,er]
     exact aU
    ·obtain⟨ql,qv⟩:=q
     simp only at e1 e2 e3 hql
     have hrow:(gF M)[o]? =some [.slice (some ⟨b,off,none⟩) i ql.cap]:=by rw[rz hq,Hr,e1,hql]
     (repeat' ((conv=>whnf)<;>first|refine ag2 ?_|refine M0 ?_|refine ag3 ?_|refine XW ?_|(show kC ..;refine row_of _ _ hrow rfl ?_)|refine am8 ?_|refine ag ?_ ?_<;>intro _))
     all_goals(conv=>whnf)
     refine uN ?_
     (repeat' ((conv=>whnf)<;>first|refine M0 ?_|(show sH ..;refine fO (Nat.le_refl _) ?_)))
     all_goals(conv=>whnf)
     obtain⟨ii,hii,hi0,hi1,hi2⟩:=info_parts Za
     refine⟨.inr ?_⟩
     refine aew (T:=3) (xe:=3) (g:=6) (d:=o) (L:=kr M) (l:=ql) (vs:=qv.map (Value.int .i64)) (v:= .int .i64 (vC n t.xs o i)) (b:=b) (off:=off) (i:=ii) (z:= .int .i64 0) Tryz.underlying32 Tryz.underlying32 hii hi0 hi1 hi2 rfl ?_ (z_ hq) e1 (by rw[List.length_map];exact e3) Yk (λu hu=>by obtain⟨x,_,rfl⟩:=List.mem_map.1 hu;rfl) rfl i (by rw[List.length_map];exact hql.symm) ql.cap rfl (λl' hlc hlb=> ?_)
     ·exact aQ
     rw[List.length_map]at hlc
     rw[List.length_map,hql]
     have hp:=hpush l' hlb hlc
     have er:gF (M.set o (l',qv++[vC n t.xs o i]))=(gF M).set o [.slice l'.base (i+1) l'.cap]:=by rw[xH];simp[Hr,hql]
     have eg:kr (M.set o (l',qv++[vC n t.xs o i]))=(kr M).set o (l',qv.map (Value.int .i64)++[.int .i64 (vC n t.xs o i)]):=by rw[Aa];simp
     (repeat' ((conv=>whnf)<;>first|refine M0 ?_|(show bS ..;(refine iV _ (rz hq) Ja ?_))|refine XW ?_|refine aN ?_))
     all_goals(conv=>whnf)
     refine⟨(i+1,M.set o (l',qv++[vC n t.xs o i])),[],⟨hiE,hp⟩,by show E-(i+1)<E-i;omega,rfl,aU,?_,λ_ _ h=>h⟩
     show kL [] _ [(3,.box [ak n.kind,ak n.a,ak n.b,.c n.shape.val,ak n.lo,ak n.hi,ak n.size,.c n.data.val,.c n.aG.val,.c t.val] 158),(7,.rows (gF (M.set o (l',qv++[vC n t.xs o i]))) 1 32),(6,.ext (mh 3 (kr (M.set o (l',qv++[vC n t.xs o i]))))),(8,.rows (ints bs') 1 3)]
     rw[eg,er]
     exact aU
   ·(repeat' ((conv=>whnf)<;>first|refine aN ?_|refine ag ?_ ?_<;>intro _))
    all_goals(conv=>whnf)
    have hie:i=E:=by omega
    rw[hie,<-hEt]at hM
    exact⟨(o+1,M,bs'),[],⟨hoc,hM.next,hB'⟩,by show cnt-(o+1)<cnt-o;omega,rfl,aU,aU,λ_ _ h=>h⟩
  ·(repeat' ((conv=>whnf)<;>first|refine aN ?_|refine ag ?_ ?_<;>intro _))
   all_goals(conv=>whnf)
   have hoe:o=cnt:=by omega
   rw[hoe]at hL hB
   exact Ul (i:=7) (g:=6) (j:=8) (λ_ _ h=>h) rfl hL.each hL.fits hL.len.symm hB.len.symm (λx hx=>by rw[hB.done]at hx;obtain⟨k,_,rfl⟩:=List.mem_map.1 hx;exact aaV hn.aG.fits cnt k) (by rw[hB.len];omega) aQ aQ aQ (by rw[hL.done,<-hB.done])
theorem Un(w:World)(n:ai)(t:aj)(hn:n.ok w)(hsm:n.small)(ht:t.ok w):Calls Tryz.prog 63 #[n.jS,t.val] w (qI w (jC n t)):=by
 by_cases hok:nu n t
 ·exact Xc w n t hn hsm ht hok
 ·exact Xb w n t hn hsm ht hok
end
theorem aez(w:World)(b:Int):Calls Tryz.prog 67 #[.int .i64 b] w λe w'=>e= .returned (.bool (decide (b≠0)))/\Ext w w':=by
 refine fq Tryz.func67 [ak b] ?_
 (repeat' ((conv=>whnf)<;>first|(show @dR _ _ _;((refine ag ?_ ?_<;>intro _)))|refine aN ?_))
 all_goals(conv=>whnf)
 all_goals first|exact aX (λ_ _ h=>h) rfl (decide_eq_true aa)|exact aX (λ_ _ h=>h) rfl (decide_eq_false aa)
def nzs(l:List Int)(i:Nat):Prop:=∀k,k<i->∀h:k<l.length,l[k]=0
theorem Uo(w:World)(u:aj)(hu:u.ok w):Calls Tryz.prog 131 #[u.val,.func (.func 67) #[] #[]] w λe w'=>(∃k:Int,e= .returned (.int .i64 k)/\(0<=k↔u.xs.any (λb=>decide (b≠0))=true))/\Ext w w':=by
 have hf:=hu.few
 refine fq Tryz.func131 [.c u.val,.c (.func (.func 67) #[] #[])] ?_
 (repeat' ((conv=>whnf)<;>first|refine aN ?_|refine ag ?_ ?_<;>intro _))
 refine Wp.loop (σ:=Nat) 0 (λi=>[(0,.c u.val),(1,.c (.func (.func 67) #[] #[])),(7,ak u.xs.length),(8,ak i)]) (λ_=>[]) (λ_=>aH w)
  (λi=>nzs u.xs i) (λi=>u.xs.length-i) 0 [] aS (λs=>⟨rfl,rfl⟩) (λk hk=>absurd hk (Nat.not_lt_zero k)) ⟨rfl,aU,trivial,λ_ _ h=>h⟩ ?_
 intro i hi
 by_cases hlt:i<u.xs.length
 ·obtain⟨ra,hra⟩:∃a,u.base=some a:=aI (j:=i) hu.rows Yj
  have hx:u.xs.getD i 0=u.xs[i]:=by rw[List.getD_eq_getElem?_getD,List.getElem?_eq_getElem hlt];rfl
  by_cases hne:u.xs[i]=0
  ·(repeat' ((conv=>whnf)<;>first|(show bC ..;refine ax ra i hra rfl hlt ?_)|(show fu ..;(refine j6 (λR w' h=>by rw[<-hra];exact au h hu.rows) (j:=i) hlt (hx.trans hne) ?_))|(show aC _ 67 ..;refine aJ (f:=67) Tryz.call67 (.bool false) (λρ w' hw=>aez w' 0) ?_)|refine aN ?_|refine ag ?_ ?_<;>intro _))
   all_goals(conv=>whnf)
   all_goals refine⟨i+1,[],λk hk h=> ?_,by omega,rfl,aU,trivial,λ_ _ h=>h⟩
   rcases Nat.lt_or_ge k i with h1|h1
   ·exact hi k h1 h
   ·obtain rfl:k=i:=by omega
    exact hne
  ·(repeat' ((conv=>whnf)<;>first|(show bC ..;refine ax ra i hra rfl hlt ?_)|(show fu ..;(refine j6 (λR w' h=>by rw[<-hra];exact au h hu.rows) (j:=i) hlt hx ?_))|(show aC _ 67 ..;(refine aJ (f:=67) Tryz.call67 (.bool true) (λρ w' hw=>by have:=aez w' u.xs[i];rw[decide_eq_true hne]at this;exact this) ?_))|refine aN ?_|refine ag ?_ ?_<;>intro _))
   all_goals(conv=>whnf)
   refine dz λρ w' hw=>⟨⟨i,rfl,λ_=>List.any_eq_true.2 ⟨u.xs[i],List.getElem_mem hlt,by simpa using hne⟩,λ_=>by omega⟩,aV hw (λ_ _ h=>h)⟩
 ·(repeat' ((conv=>whnf)<;>first|refine aN ?_|refine ag ?_ ?_<;>intro _))
  all_goals(conv=>whnf)
  refine dz λρ w' hw=>⟨⟨-1,rfl,λh=>absurd h aS,λh=> ?_⟩,aV hw (λ_ _ h=>h)⟩
  obtain⟨b,hb,hx⟩:=List.any_eq_true.1 h
  obtain⟨k,hk,rfl⟩:=List.mem_iff_getElem.1 hb
  exact absurd (hi k aa hk) (by simpa using hx)
theorem Ai(w:World)(u:aj)(hu:u.ok w):Calls Tryz.prog 66 #[u.val,.func (.func 67) #[] #[]] w λe w'=>e= .returned (.bool (u.xs.any λb=>decide (b≠0)))/\Ext w w':=by
 refine fq Tryz.func66 [.c u.val,.c (.func (.func 67) #[] #[])] ?_
 (repeat' ((conv=>whnf)<;>first|(show aC _ 131 ..;refine Nw (f:=131) Tryz.call131 (λk:Int=> .int .i64 k) (λk=>0<=k↔u.xs.any (λb=>decide (b≠0))=true) (λρ w' hw=> ?_) (λk hk=> ?_))|refine aN ?_|refine ag ?_ ?_<;>intro _))
 ·refine(Uo w' u (ae hw λR h=>hu.later h)).mono ?_
  rintro e w2 ⟨⟨k,h1,h2⟩,h3⟩
  exact⟨k,h2,h1,h3⟩
 all_goals(conv=>whnf)
 all_goals rename_i h0
 ·exact aX (λ_ _ h=>h) rfl (hk.1 h0)
 ·exact aX (λ_ _ h=>h) rfl (Bool.eq_false_iff.2 λh=>h0 (hk.2 h))
theorem Xd(w:World)(b e:Nat)(u:aj)(T:TypeId)(he:e<u.xs.length)(hu:bf w u.base 1 (ints u.xs))(h:w.heap[b]? =some (.cells [u.val].toArray T (0,0))):Calls Tryz.prog 70 #[.int .i64 e,.pointer (some ⟨b,0,none⟩)] w λen w'=>en= .returned (.int .i64 (u.xs.getD e 0))/\Ext w w':=by
 have hc:w.cell? ⟨b,0,none⟩=some u.val:=by simp[World.cell?,h]
 obtain⟨da,hda⟩:∃a,u.base=some a:=aI (j:=e) hu (by rw[aF];exact he)
 refine fq Tryz.func70 [ak e,.c (.pointer (some ⟨b,0,none⟩))] ?_
 (repeat' ((conv=>whnf)<;>first|(show bC ..;refine ax da e hda rfl he ?_)|(show fu ..;(first|refine pX (λR w' h=>by rw[jw (h _ (iN hc)).2];exact hc) ?_|refine j6 (λR w' h=>by rw[<-hda];exact au h hu) (j:=e) he rfl ?_))|refine aN ?_))
 all_goals(conv=>whnf)
 all_goals exact bW (λ_ _ h=>h) (λ_=>rfl) rfl
structure dn(k:Nat)(a b:fF):Prop where
 more:a.code.length<=b.code.length
 few:b.code.length<=a.code.length+k
 ay:b.ay.length+a.code.length<=a.ay.length+b.code.length
 inputs:b.inputs.length+a.code.length<=a.inputs.length+b.code.length
theorem dn.refl(a:fF):dn 0 a a:=⟨Nat.le_refl _,Nat.le_refl _,Nat.le_refl _,Nat.le_refl _⟩
theorem dn.trans{j k:Nat}{a b c:fF}(h1:dn j a b)(h2:dn k b c):dn (j+k) a c:=by
 obtain⟨a1,a2,a3,a4⟩:=h1
 obtain⟨b1,b2,b3,b4⟩:=h2
 exact⟨by omega,by omega,by omega,by omega⟩
theorem dn.mono{j k:Nat}{a b:fF}(h:dn j a b)(hk:j<=k):dn k a b:=by
 obtain⟨a1,a2,a3,a4⟩:=h
 exact⟨by omega,by omega,by omega,by omega⟩
theorem dn.lay(s:fF)(op a b k:Int):dn 1 s (bI s op a b k).1:=by
 have e:(bI s op a b k).1.code.length=s.code.length+1:=by simp[bI]
 exact⟨by omega,by omega,by rw[e];show s.ay.length+_<=_;omega,by rw[e];show s.inputs.length+_<=_;omega⟩
theorem QZ(s:fF)(r:List Int):(fZ s r).1.code=s.code/\(fZ s r).1.inputs=s.inputs/\(fZ s r).1.ay.length<=s.ay.length+1:=by
 unfold fZ
 split
 ·exact⟨rfl,rfl,Nat.le_succ _⟩
 ·exact⟨rfl,rfl,by simp⟩
theorem dn.plain(s:fF)(r:List Int)(op a b k:Int):dn 1 s (bI (fZ s r).1 op a b k).1:=by
 obtain⟨h1,h2,h3⟩:=QZ s r
 have e:(bI (fZ s r).1 op a b k).1.code.length=s.code.length+1:=by simp[bI,h1]
 exact⟨by omega,by omega,by rw[e];show(fZ s r).1.ay.length+_<=_;omega,by rw[e];show(fZ s r).1.inputs.length+_<=_;rw[h2];omega⟩
theorem dn.add(s:fF)(m:Option Int)(v:Int):dn 1 s (lq s m v).1:=by
 cases m with
 |none=>exact(dn.refl s).mono (Nat.zero_le _)
 |some a=>exact .lay _ _ _ _ _
theorem dn.turn(s:fF)(t:Int->Option Int)(x:Int)(i:Nat):dn 1 s (qw s t x i).1:=by
 unfold qw
 split
 ·exact(dn.refl s).mono (Nat.zero_le _)
 ·exact .lay _ _ _ _ _
theorem dn.inner(n base:Nat)(x:Int)(y:oo)(i:Nat)(d:List Int):dn 3 y.s (q9 n base x y i d).s:=by
 unfold q9
 split
 ·exact(dn.refl _).mono (Nat.zero_le _)
 ·exact((dn.turn y.s y.t x i).trans (dn.plain _ _ _ _ _ _)).trans (dn.add _ _ _)
theorem dn.Zj(n base:Nat)(x:Int):∀(l:List (List Int)) (i:Nat) (y:oo),dn (3*l.length) y.s (mZ n base x l i y).s
 |[],_,y=>dn.refl _
 |d::r,i,y=>by
  have h1:=dn.inner n base x y i d
  have h2:=dn.Zj n base x r (i+1) (q9 n base x y i d)
  exact(h1.trans h2).mono acC
theorem dn.giant(n base:Nat)(x:Int)(y:oo)(ds:List (List Int)):dn (3*ds.length+2) y.s (sZ n base x y ds).s:=by
 have h:=dn.Zj n base x ds 0 ⟨y.s,y.t,none⟩
 unfold sZ
 dsimp only
 split
 ·exact h.mono aa
 ·refine h.trans (k:=2) ?_
  split
  ·exact(dn.lay _ _ _ _ _).trans (dn.add _ _ _)
  ·exact(dn.add _ _ _).mono aa
theorem dn.Zk(n g:Nat)(x:Int)(all:List (List Int))(hg:1<=g)(hl:all.length<=n):∀(f base:Nat) (y:oo),dn (5*(n-base)) y.s (kG n g x all f base y).s
 |0,base,y=>(dn.refl _).mono (Nat.zero_le _)
 |f+1,base,y=>by
  unfold kG
  split
  ·rename_i hb
   have h1:=dn.giant n base x y ((all.drop base).take (min n (base+g)-base))
   have h2:=dn.Zk n g x all hg hl f (base+g) (sZ n base x y ((all.drop base).take (min n (base+g)-base)))
   refine(h1.trans h2).mono ?_
   have:((all.drop base).take (min n (base+g)-base)).length<=min n (base+g)-base:=by rw[List.length_take];omega
   omega
  ·exact(dn.refl _).mono (Nat.zero_le _)
theorem OU:∀(f n g:Nat),1<=g->1<=stepG f n g
 |0,_,_,h=>h
 |f+1,n,g,h=>by
  unfold stepG
  split
  ·exact OU f n (2*g) aa
  ·exact h
theorem Uq(b:Bool)(n:Nat)(hn:1<=n):1<=oC b n:=by
 unfold oC
 split
 ·exact OU _ _ _ (Nat.le_refl _)
 ·exact hn
theorem dn.rows(n:Nat)(b:Bool)(s:fF)(x:Int)(all:List (List Int))(hn:1<=n)(hl:all.length<=n):dn (5*n+1) s (jl n b s x all).1:=by
 have h:=dn.Zk n (oC b n) x all (Uq b n hn) hl n 0 ⟨s,mG x,none⟩
 unfold jl
 dsimp only
 split
 ·exact h.trans (dn.plain _ _ _ _ _ _)
 ·exact h.mono aa
def up:Nat->Int->Int->Int
 |0,_,p=>p
 |k+1,size,p=>if p<size then up k size (p*2)else p
def K9(xs:List Int)(layout:Int):Int:=if layout=1/\xs.length=3 then xs.getD 1 0*xs.getD 2 0 else entries xs
def CK(xs:List Int)(layout:Int):Int:=if layout=1/\xs.length=3 then up 7 (xs.getD 1 0*xs.getD 2 0) 1 else entries xs
def gL(size y9:Int)(i:Nat):Int:=(i:Int)/size*y9+i%size
def ig(size y9:Int)(k:Nat):List Int:=(List.range k).map (gL size y9)
def fT(xs:List Int)(layout slots:Int):List Int×Int:=
 if entries xs=0\/layout<0\/1<layout then([],4)
 else if slots<=gL (K9 xs layout) (CK xs layout) ((entries xs).toNat-1)then([],7)
 else(ig (K9 xs layout) (CK xs layout) (entries xs).toNat,0)
theorem dG(size y9:Int)(k:Nat):(ig size y9 k).length=k:=by simp[ig]
theorem pM(size y9:Int)(k:Nat):ig size y9 (k+1)=ig size y9 k++[gL size y9 k]:=by simp[ig,List.range_succ]
theorem Aj(size y9:Int){k i:Nat}(h:i<k):(ig size y9 k).getD i 0=gL size y9 i:=by simp[ig,List.getD,h]
theorem aiw:∀(k:Nat) (size p:Int),1<=p->p*2^k=128->size<=64->size<=up k size p/\1<=up k size p/\up k size p<=128
 |0,size,p,h1,h2,h3=>by
  have:p=128:=by simpa using h2
  simp only[up];omega
 |k+1,size,p,h1,h2,h3=>by
  rw[up]
  split
  ·exact aiw k size (p*2) aa (by rw[Int.mul_assoc,<-Int.pow_succ'];exact h2) h3
  ·refine⟨by omega,by omega,?_⟩
   have h4:(1:Int)<=2^(k+1):=by have:(0:Int)<2^(k+1):=Int.pow_pos aS;omega
   have:p*1<=p*2^(k+1):=Int.mul_le_mul_of_nonneg_left h4 aa
   omega
theorem MF{xs:List Int}(h:entries xs≠0)(h3:xs.length=3):entries xs=xs.getD 0 0*(xs.getD 1 0*xs.getD 2 0)/\1<=xs.getD 0 0/\1<=xs.getD 1 0/\1<=xs.getD 2 0:=by
 match xs,h3 with
 |[a,b,c],_=>
  have h0:entries [a,b,c]=eZ 1 [a,b,c]:=by unfold entries;rfl
  rw[h0]at h|-
  simp only[eZ]at h|-
  split at h
  ·exact absurd rfl h
  split at h
  ·exact absurd rfl h
  split at h
  ·exact absurd rfl h
  rename_i g1 g2 g3
  rw[if_neg g1,if_neg g2,if_neg g3]
  refine⟨?_,?_,?_,?_⟩
  ·show 1*a*b*c=a*(b*c)
   rw[Int.one_mul,Int.mul_assoc]
  all_goals simp only[List.getD_cons_zero,List.getD_cons_succ];omega
theorem Fv{xs:List Int}{layout:Int}(h:entries xs≠0):∃c s p:Nat,entries xs=(c*s:Nat)/\K9 xs layout=s/\CK xs layout=p/\1<=c/\1<=s/\s<=p/\p<=128/\c*s<=64/\c<=64/\s<=64/\(¬(layout=1/\xs.length=3)->c=1/\s=p):=by
 have hb:=dL xs
 by_cases h1:layout=1/\xs.length=3
 ·obtain⟨e,h2,h3,h4⟩:=MF h h1.2
  obtain⟨a,ha⟩:=Int.eq_ofNat_of_zero_le (show 0<=xs.getD 0 0 by omega)
  obtain⟨b,hb'⟩:=Int.eq_ofNat_of_zero_le (show 0<=xs.getD 1 0 by omega)
  obtain⟨c,hc⟩:=Int.eq_ofNat_of_zero_le (show 0<=xs.getD 2 0 by omega)
  rw[K9,CK,if_pos h1,if_pos h1]
  rw[ha,hb',hc]at e
  rw[ha]at h2
  rw[hb']at h3|-
  rw[hc]at h4|-
  have e2:(b:Int)*(c:Int)=((b*c:Nat):Int):=by simp
  have e3:(a:Int)*((b:Int)*(c:Int))=((a*(b*c):Nat):Int):=by simp
  rw[e3]at e
  rw[e2]
  have hbc:1<=b*c:=Nat.mul_pos aa aa
  have hle:a*(b*c)<=64:=by omega
  have hsl:b*c<=a*(b*c):=Nat.le_mul_of_pos_left _ aa
  have hal:a<=a*(b*c):=Nat.le_mul_of_pos_right _ hbc
  obtain⟨u1,u2,u3⟩:=aiw 7 ((b*c:Nat):Int) 1 aS aS aa
  obtain⟨p,hp⟩:=Int.eq_ofNat_of_zero_le (show 0<=up 7 ((b*c:Nat):Int) 1 by omega)
  exact⟨a,b*c,p,e,rfl,hp,by omega,hbc,by omega,by omega,hle,by omega,by omega,λg=>absurd h1 g⟩
 ·obtain⟨n,hn⟩:=Int.eq_ofNat_of_zero_le hb.1
  rw[K9,CK,if_neg h1,if_neg h1,hn]
  rw[hn]at h hb
  exact⟨1,n,n,by simp,rfl,rfl,by decide,by omega,by omega,by omega,by omega,by omega,by omega,λ_=>⟨rfl,rfl⟩⟩
theorem Fw{c i s p:Nat}(h:i<s):gL s p (c*s+i)=(c*p+i:Nat):=by
 have hs:0<s:=by omega
 have e1:((c*s+i:Nat):Int)/(s:Int)=(c:Int):=by
  rw[<-Int.natCast_ediv,Nat.add_comm,Nat.add_mul_div_right _ _ hs,Nat.div_eq_of_lt h,Nat.zero_add]
 have e2:((c*s+i:Nat):Int)%(s:Int)=(i:Int):=by
  rw[<-Int.natCast_emod,Nat.add_comm,Nat.add_mul_mod_self_right,Nat.mod_eq_of_lt h]
 rw[gL,e1,e2];simp
theorem oZ{s p:Nat}(i:Nat):gL s p i=((i/s*p+i%s:Nat):Int):=by simp[gL]
theorem OV{s p i:Nat}(hs:1<=s)(hp:s<=p):gL s p i<gL s p (i+1):=by
 rw[oZ,oZ,Int.ofNat_lt]
 have h1:=Nat.div_add_mod i s
 have h2:=Nat.mod_lt i (show s>0 by omega)
 rcases Nat.lt_or_ge (i%s+1) s with h|h
 ·have e1:(i+1)/s=i/s:=by
   have:i+1=i%s+1+(i/s)*s:=by rw[Nat.mul_comm];omega
   rw[this,Nat.add_mul_div_right _ _ aa,Nat.div_eq_of_lt h,Nat.zero_add]
  have e2:(i+1)%s=i%s+1:=by
   have:i+1=i%s+1+(i/s)*s:=by rw[Nat.mul_comm];omega
   rw[this,Nat.add_mul_mod_self_right,Nat.mod_eq_of_lt h]
  rw[e1,e2];omega
 ·have e3:i+1=(i/s+1)*s:=by rw[Nat.succ_mul,Nat.mul_comm];omega
  have e1:(i+1)/s=i/s+1:=by rw[e3,Nat.mul_div_cancel _ aa]
  have e2:(i+1)%s=0:=by rw[e3,Nat.mul_mod_left]
  rw[e1,e2,Nat.succ_mul];omega
theorem Ak{s p:Nat}(hs:1<=s)(hp:s<=p):∀{i j:Nat},i<=j->gL s p i<=gL s p j:=by
 intro i j h
 induction h with
 |refl=>exact Int.le_refl _
 |step _ ih=>exact Int.le_trans ih (Int.le_of_lt (OV hs hp))
theorem rE{s p i n:Nat}(hs:1<=s)(hp:s<=p)(hi:i<n)(hn:n<=64)(hp2:p<=128):0<=gL s p i/\gL s p i<=10000:=by
 rw[oZ]
 have h1:i/s<=i:=Nat.div_le_self _ _
 have h2:=Nat.mod_lt i (show s>0 by omega)
 have h3:i/s*p<=64*128:=Nat.mul_le_mul aa hp2
 have h4:=Nat.mod_le i s
 omega
section
variable {w:World} {B:Base} {H:Heap} {S:bJ} {nx i m k:Nat} {r:List Int×Int} {K:Int->Prop} {q size:Int}
def xL(w:World)(r:List Int×Int):Ending->World->Prop:=λe w'=>∃x:aj,(x.xs=r.1/\x.a_)/\e= .returned (.tuple #[x.val,.int .i64 r.2])/\Ext w w'/\(bn x).holds (λb=>w.heap.size<=b/\b<w'.heap.size) w'
theorem ny{er:Int}(hb:∀R w',S.holds R w'->(aH B.w0).holds R w')(hw0:B.w0=w)(hr:r=([],er)):jE B (.sI [.c (.slice none 0 0),ak er]) H S nx (xL w r):=by
 subst hw0 hr
 refine dz λρ w' hw=>⟨⟨none,0,[]⟩,⟨rfl,⟨λ_ h=>kJ,Nat.le_refl _,by decide⟩⟩,rfl,aV hw hb,⟨λ_ h=>kJ,.inl rfl⟩⟩
theorem uJ{l:List Int}(hb:∀R w',S.holds R w'->(aH B.w0).holds R w')(hw0:B.w0=w)(hm:m=l.length)(hf:∀x∈l,i64 x)(hl:l.length<=1000000)(hi:(i,bU.rows (ints l) 1 3)∈H)(hr:r=(l,0)):
 jE B (.sI [.os i m,ak 0]) H S nx (xL w r):=by
 subst hw0 hm hr
 refine dz λρ w' hw=> ?_
 have hn:=dF hw hb hi
 rw[aF]at hn
 obtain⟨u,e,h1,h2,h3⟩:=tX hn hf hl
 refine⟨u,⟨h1,h2⟩,?_,aV hw hb,h3⟩
 have:(SV.sI [.os i l.length,ak 0]).rf ρ= .tuple #[(SV.os i l.length).rf ρ,.int .i64 0]:=rfl
 rw[this,e]
theorem jc{z:Int}(y:Int)(h:z=y)(h1: -9223372036854775808<=y)(h2:y<=9223372036854775807)(hk:K y):iw .i64 z K:=by
 subst h;exact wrap_i64 h1 h2 hk
theorem HV{x y:Int}(e:x/y=q)(h0:0<=x)(h1:x<=9223372036854775807)(hy:0<y)(h:K q):qQ .i64 x y K:=div_pos rfl h0 h1 hy RS
theorem rF(xs:List Int)(x:Int)(hm:m=xs.length){T:TypeId}:(i,bU.rows (ints (xs++[x])) 1 T)∈(i,bU.rows (List.take m (ints xs)++[[.int .i64 x]]) 1 T)::H:=by
 subst hm
 rw[show ints (xs++[x])=List.take xs.length (ints xs)++[[.int .i64 x]] by rw[List.take_of_length_le zf];simp[ints]]
 exact List.mem_cons_self
theorem rG{s p n:Nat}(hs:1<=s)(hp:s<=p)(hn:n<=64)(hp2:p<=128):∀x∈ig s p n,i64 x:=λx hx=>by
 obtain⟨i,hi,rfl⟩:=List.mem_map.1 hx
 have:=rE hs hp (List.mem_range.1 hi) hn hp2
 exact⟨by omega,by omega⟩
theorem Zl(h:¬q<size):up k size q=q:=by cases k<;>simp[up,h]
theorem Zm(h:q<size)(h64:size<=64)(e:q*2^k=128):∃k',k=k'+1/\up k size q=up k' size (q*2)/\q*2*2^k'=128:=by
 cases k with
 |zero=>simp at e;omega
 |succ k=>exact⟨k,rfl,by simp[up,h],by rw[Int.mul_assoc,<-Int.pow_succ'];exact e⟩
theorem M3(w:World)(u:aj)(hx:bf w u.base 1 (ints u.xs))(layout slots:Int):Calls Tryz.prog 25 #[u.val,.int .i64 layout,.int .i64 slots] w (xL w (fT u.xs layout slots)):=by
 by_cases hA:entries u.xs=0\/layout<0\/1<layout
 ·refine fq Tryz.func25 [.c u.val,ak layout,ak slots] ?_
  (repeat' ((conv=>whnf)<;>first|(show aC _ 61 ..;refine aJ (f:=61) Tryz.call61 (.int .i64 (entries u.xs)) (λρ w' hw=>mU w' u.base u.cap u.xs (ae hw λR h=>au h hx)) ?_)|refine aZ ?_|refine ag ?_ ?_<;>intro _))
  all_goals(conv=>whnf)
  all_goals first|(exfalso;omega)|skip
  all_goals exact ny (λ_ _ h=>h) rfl (by rw[fT,if_pos hA])
 ·obtain⟨c,s,p,hcs,hs,hp,hc1,hs1,hsp,hp2,CL,Ud,aaS,hel⟩:=Fv (xs:=u.xs) (layout:=layout) aa
  have hdef:fT u.xs layout slots=if slots<=gL s p (c*s-1)then([],7)else(ig s p (c*s),0):=by
   rw[fT,if_neg hA,hs,hp,hcs,Int.toNat_natCast]
  obtain⟨n,hn⟩:∃n,c*s=n:=⟨_,rfl⟩
  have hn1:1<=n:=by rw[<-hn];exact Nat.mul_pos hc1 hs1
  rw[hn]at hdef hcs CL
  have hq:((n:Nat):Int)/(s:Int)=c:=by rw[<-hn,<-Int.natCast_ediv,Nat.mul_div_cancel _ aa]
  rw[hdef]
  have hent:∀{ρ:Nat->SX.Loc} {w':World} {nx:Nat} {H:Heap},dY ⟨w,[]⟩ ρ nx H (aH w) w'->Calls Tryz.prog 61 #[u.val] w' λe w2=>e= .returned (.int .i64 (n:Nat))/\Ext w' w2:=λhw=>by
   have:=mU _ u.base u.cap u.xs (ae hw λR h=>au h hx)
   rw[hcs]at this;exact this
  by_cases h1:layout=1/\u.xs.length=3
  ·obtain⟨ua,jr⟩:∃a,u.base=some a:=aI (j:=0) hx vD
   have hur:∀(R:Nat->Prop) w',(aH w).holds R w'->bf w' (some ua) 1 (ints u.xs):=λR w' h=>by rw[<-jr];exact au h hx
   rw[K9,if_pos h1]at hs
   rw[CK,if_pos h1,hs]at hp
   refine fq Tryz.func25 [.c u.val,ak layout,ak slots] ?_
   (repeat' ((conv=>whnf)<;>first|(show aC _ 61 ..;refine aJ (f:=61) Tryz.call61 (.int .i64 (n:Nat)) (λρ w' hw=>hent hw) ?_)|(show bC ..;(first|refine ax ua 1 jr rfl aa ?_|refine ax ua 2 jr rfl aa ?_))|(show fu ..;(first|refine bO hur (j:=1) aa ?_|refine bO hur (j:=2) aa ?_))|(show iw ..;refine jc (s:Int) hs aa aa ?_)|refine aZ ?_|refine ag ?_ ?_<;>intro _))
   all_goals(conv=>whnf)
   refine Wp.loop (σ:=Nat×Nat) 0 (λ⟨q,k⟩=>[(2,ak slots),(8,ak (n:Nat)),(9,ak (s:Nat)),(10,ak q)]) (λ_=>[]) (λ_=>aH w)
    (λ⟨q,k⟩=>(q:Int)*2^k=128/\1<=q/\up k s q=p) (λx=>x.2) (1,7) [] aS (λs=>⟨rfl,rfl⟩) ⟨by decide,by decide,hp⟩ ⟨rfl,aU,trivial,λ_ _ h=>h⟩ ?_
   rintro⟨q,k⟩ ⟨hq1,hq2,hq3⟩
   by_cases hqs:(q:Int)<s
   ·obtain⟨k',rfl,hk2,hk3⟩:=Zm hqs aa hq1
    (repeat' ((conv=>whnf)<;>first|(show iw ..;refine jc ((q*2:Nat):Int) fC aa aa ?_)|refine aZ ?_|refine ag ?_ ?_<;>intro _))
    all_goals(conv=>whnf)
    exact⟨(q*2,k'),[],⟨by simpa using hk3,by show 1<=q*2;omega,by rw[<-hq3,hk2];simp⟩,Nat.lt_succ_self _,rfl,aU,trivial,λ_ _ h=>h⟩
   ·rw[Zl hqs]at hq3
    have hqp:p=q:=by omega
    subst hqp
    (repeat' ((conv=>whnf)<;>first|(show kv ..;(refine Sv 0 n rfl rfl (Nat.zero_le _) xY aa ?_))|(show qQ ..;refine HV hq aa aa aa ?_)|refine aZ ?_|refine ag ?_ ?_<;>intro _))
    all_goals(conv=>whnf)
    refine Wp.loop (σ:=Nat×Nat) 2 (λx=>[(2,ak slots),(8,ak (n:Nat)),(9,ak (s:Nat)),(10,ak (p:Nat)),(11,.os 1 x.2),(51,ak (c:Nat)),(52,ak x.1)]) (λx=>[(1,.rows (ints (ig s p x.2)) 1 3)]) (λ_=>aH w)
     (λx=>x.1<=c/\x.2=x.1*s) (λx=>c-x.1) (0,0) [(1,some 0)] aS (λ_=>⟨rfl,rfl⟩) ⟨Nat.zero_le _,(Nat.zero_mul s).symm⟩ ⟨rfl,aU,⟨List.mem_cons_self,trivial⟩,λ_ _ h=>h⟩ ?_
    rintro⟨cc,m⟩ ⟨hcc,hm⟩
    dsimp only at hcc hm
    by_cases hlt:cc<c
    ·(repeat' ((conv=>whnf)<;>first|refine aZ ?_|refine ag ?_ ?_<;>intro _))
     all_goals(conv=>whnf)
     have hcp:cc*p<=64*128:=Nat.mul_le_mul aa hp2
     have hms:cc*s+s<=c*s:=by rw[<-Nat.succ_mul];exact Nat.mul_le_mul_right s hlt
     refine Wp.loop (σ:=Nat×Nat) 3 (λx=>[(2,ak slots),(8,ak (n:Nat)),(9,ak (s:Nat)),(10,ak (p:Nat)),(11,.os 2 x.2),(51,ak (c:Nat)),(52,ak cc),(12,ak cc),(55,ak (s:Nat)),(56,ak x.1)]) (λx=>[(2,.rows (ints (ig s p x.2)) 1 3)]) (λ_=>aH w)
      (λx=>x.1<=s/\x.2=cc*s+x.1) (λx=>s-x.1) (0,m) [(2,some 1)] aS (λ_=>⟨rfl,rfl⟩) ⟨Nat.zero_le _,hm⟩ ⟨rfl,aU,⟨List.mem_cons_self,trivial⟩,λ_ _ h=>h⟩ ?_
     rintro⟨i,k⟩ ⟨hi,hk⟩
     dsimp only at hi hk
     by_cases Eu:i<s
     ·have hpl:(((cc*p:Nat):Int)+(i:Int))=gL s p k:=by rw[hk,Fw Eu];simp
      have hrl:=dG s p k
      (repeat' ((conv=>whnf)<;>first|(show iw ..;(first|refine jc ((cc*p:Nat):Int) (Int.natCast_mul cc p).symm aa aa ?_|refine jc (gL s p k) hpl aa aa ?_|refine wrap_i64 aa aa ?_))|refine abZ ?_|refine ab0 ?_|refine aZ ?_|refine ag ?_ ?_<;>intro _))
      all_goals(conv=>whnf)
      exact⟨(i+1,k+1),[(2,some 4)],⟨Eu,by show k+1=cc*s+(i+1);omega⟩,by show s-(i+1)<s-i;omega,rfl,aU,⟨by show(4,bU.rows (ints (ig s p (k+1))) 1 3)∈_;rw[pM];exact rF _ _ (dG s p k).symm,trivial⟩,λ_ _ h=>h⟩
     ·(repeat' ((conv=>whnf)<;>first|refine aZ ?_|refine ag ?_ ?_<;>intro _))
      all_goals(conv=>whnf)
      exact⟨(cc+1,k),[(1,some 2)],⟨hlt,by show k=(cc+1)*s;rw[Nat.succ_mul];omega⟩,by show c-(cc+1)<c-cc;omega,rfl,aU,⟨List.mem_cons_self,trivial⟩,λ_ _ h=>h⟩
    ·have aeA:cc=c:=by omega
     rw[aeA,hn]at hm
     have hpb:=rE (i:=n-1) (n:=n) hs1 hsp aa CL hp2
     have hlast:=Aj s p (k:=n) (i:=n-1) aa
     have hll:=dG s p n
     have hm':=hm.symm
     subst hm'
     (repeat' ((conv=>whnf)<;>first|refine ab1 ?_|(show kC ..;refine lY (xs:=ig s p n) (j:=n-1) aa ?_)|refine aZ ?_|refine ag ?_ ?_<;>intro _))
     all_goals(conv=>whnf)
     ·exact ny (λ_ _ h=>h) rfl (if_pos aa)
     ·exact uJ (i:=1) (λ_ _ h=>h) rfl hll.symm (rG hs1 hsp CL hp2) aa aQ (if_neg aa)
  ·obtain⟨hc,aj1⟩:=hel h1
   have hns:n=s:=by rw[<-hn,hc,Nat.one_mul]
   subst aj1
   subst hns
   refine fq Tryz.func25 [.c u.val,ak layout,ak slots] ?_
   (repeat' ((conv=>whnf)<;>first|(show aC _ 61 ..;refine aJ (f:=61) Tryz.call61 (.int .i64 (n:Nat)) (λρ w' hw=>hent hw) ?_)|(show kv ..;(refine Sv 0 n rfl rfl (Nat.zero_le _) xY aa ?_))|(show qQ ..;refine HV (q:=(c:Int)) hq aa aa aa ?_)|refine aZ ?_|refine ag ?_ ?_<;>intro _))
   all_goals(conv=>whnf)
   ·skip
    refine Wp.loop (σ:=Nat×Nat) 2 (λx=>[(2,ak slots),(8,ak (n:Nat)),(9,ak (n:Nat)),(10,ak (n:Nat)),(11,.os 1 x.2),(51,ak (c:Nat)),(52,ak x.1)]) (λx=>[(1,.rows (ints (ig n n x.2)) 1 3)]) (λ_=>aH w)
     (λx=>x.1<=c/\x.2=x.1*n) (λx=>c-x.1) (0,0) [(1,some 0)] aS (λ_=>⟨rfl,rfl⟩) ⟨Nat.zero_le _,(Nat.zero_mul n).symm⟩ ⟨rfl,aU,⟨List.mem_cons_self,trivial⟩,λ_ _ h=>h⟩ ?_
    rintro⟨cc,m⟩ ⟨hcc,hm⟩
    dsimp only at hcc hm
    by_cases hlt:cc<c
    ·(repeat' ((conv=>whnf)<;>first|refine aZ ?_|refine ag ?_ ?_<;>intro _))
     all_goals(conv=>whnf)
     have hcp:cc*n<=64*128:=Nat.mul_le_mul aa hp2
     have hms:cc*n+n<=c*n:=by rw[<-Nat.succ_mul];exact Nat.mul_le_mul_right n hlt
     refine Wp.loop (σ:=Nat×Nat) 3 (λx=>[(2,ak slots),(8,ak (n:Nat)),(9,ak (n:Nat)),(10,ak (n:Nat)),(11,.os 2 x.2),(51,ak (c:Nat)),(52,ak cc),(12,ak cc),(55,ak (n:Nat)),(56,ak x.1)]) (λx=>[(2,.rows (ints (ig n n x.2)) 1 3)]) (λ_=>aH w)
      (λx=>x.1<=n/\x.2=cc*n+x.1) (λx=>n-x.1) (0,m) [(2,some 1)] aS (λ_=>⟨rfl,rfl⟩) ⟨Nat.zero_le _,hm⟩ ⟨rfl,aU,⟨List.mem_cons_self,trivial⟩,λ_ _ h=>h⟩ ?_
     rintro⟨i,k⟩ ⟨hi,hk⟩
     dsimp only at hi hk
     by_cases Eu:i<n
     ·have hpl:(((cc*n:Nat):Int)+(i:Int))=gL n n k:=by rw[hk,Fw Eu];simp
      have hrl:=dG n n k
      (repeat' ((conv=>whnf)<;>first|refine ag4 ?_|refine abZ ?_|refine ab0 ?_|refine aZ ?_|refine ag ?_ ?_<;>intro _))
      all_goals(conv=>whnf)
      exact⟨(i+1,k+1),[(2,some 4)],⟨Eu,by show k+1=cc*n+(i+1);omega⟩,by show n-(i+1)<n-i;omega,rfl,aU,⟨by show(4,bU.rows (ints (ig n n (k+1))) 1 3)∈_;rw[pM];exact rF _ _ (dG n n k).symm,trivial⟩,λ_ _ h=>h⟩
     ·(repeat' ((conv=>whnf)<;>first|refine aZ ?_|refine ag ?_ ?_<;>intro _))
      all_goals(conv=>whnf)
      exact⟨(cc+1,k),[(1,some 2)],⟨hlt,by show k=(cc+1)*n;rw[Nat.succ_mul];omega⟩,by show c-(cc+1)<c-cc;omega,rfl,aU,⟨List.mem_cons_self,trivial⟩,λ_ _ h=>h⟩
    ·have aeA:cc=c:=by omega
     rw[aeA,hn]at hm
     have hpb:=rE (i:=n-1) (n:=n) hs1 hsp aa CL hp2
     have hlast:=Aj n n (k:=n) (i:=n-1) aa
     have hll:=dG n n n
     have hm':=hm.symm
     subst hm'
     (repeat' ((conv=>whnf)<;>first|refine ab1 ?_|(show kC ..;refine lY (xs:=ig n n n) (j:=n-1) aa ?_)|refine aZ ?_|refine ag ?_ ?_<;>intro _))
     all_goals(conv=>whnf)
     ·exact ny (λ_ _ h=>h) rfl (if_pos aa)
     ·exact uJ (i:=1) (λ_ _ h=>h) rfl hll.symm (rG hs1 hsp CL hp2) aa aQ (if_neg aa)
   ·skip
    refine Wp.loop (σ:=Nat×Nat) 2 (λx=>[(2,ak slots),(8,ak (n:Nat)),(9,ak (n:Nat)),(10,ak (n:Nat)),(11,.os 1 x.2),(51,ak (c:Nat)),(52,ak x.1)]) (λx=>[(1,.rows (ints (ig n n x.2)) 1 3)]) (λ_=>aH w)
     (λx=>x.1<=c/\x.2=x.1*n) (λx=>c-x.1) (0,0) [(1,some 0)] aS (λ_=>⟨rfl,rfl⟩) ⟨Nat.zero_le _,(Nat.zero_mul n).symm⟩ ⟨rfl,aU,⟨List.mem_cons_self,trivial⟩,λ_ _ h=>h⟩ ?_
    rintro⟨cc,m⟩ ⟨hcc,hm⟩
    dsimp only at hcc hm
    by_cases hlt:cc<c
    ·(repeat' ((conv=>whnf)<;>first|refine aZ ?_|refine ag ?_ ?_<;>intro _))
     all_goals(conv=>whnf)
     have hcp:cc*n<=64*128:=Nat.mul_le_mul aa hp2
     have hms:cc*n+n<=c*n:=by rw[<-Nat.succ_mul];exact Nat.mul_le_mul_right n hlt
     refine Wp.loop (σ:=Nat×Nat) 3 (λx=>[(2,ak slots),(8,ak (n:Nat)),(9,ak (n:Nat)),(10,ak (n:Nat)),(11,.os 2 x.2),(51,ak (c:Nat)),(52,ak cc),(12,ak cc),(55,ak (n:Nat)),(56,ak x.1)]) (λx=>[(2,.rows (ints (ig n n x.2)) 1 3)]) (λ_=>aH w)
      (λx=>x.1<=n/\x.2=cc*n+x.1) (λx=>n-x.1) (0,m) [(2,some 1)] aS (λ_=>⟨rfl,rfl⟩) ⟨Nat.zero_le _,hm⟩ ⟨rfl,aU,⟨List.mem_cons_self,trivial⟩,λ_ _ h=>h⟩ ?_
     rintro⟨i,k⟩ ⟨hi,hk⟩
     dsimp only at hi hk
     by_cases Eu:i<n
     ·have hpl:(((cc*n:Nat):Int)+(i:Int))=gL n n k:=by rw[hk,Fw Eu];simp
      have hrl:=dG n n k
      (repeat' ((conv=>whnf)<;>first|refine ag4 ?_|refine abZ ?_|refine ab0 ?_|refine aZ ?_|refine ag ?_ ?_<;>intro _))
      all_goals(conv=>whnf)
      exact⟨(i+1,k+1),[(2,some 4)],⟨Eu,by show k+1=cc*n+(i+1);omega⟩,by show n-(i+1)<n-i;omega,rfl,aU,⟨by show(4,bU.rows (ints (ig n n (k+1))) 1 3)∈_;rw[pM];exact rF _ _ (dG n n k).symm,trivial⟩,λ_ _ h=>h⟩
     ·(repeat' ((conv=>whnf)<;>first|refine aZ ?_|refine ag ?_ ?_<;>intro _))
      all_goals(conv=>whnf)
      exact⟨(cc+1,k),[(1,some 2)],⟨hlt,by show k=(cc+1)*n;rw[Nat.succ_mul];omega⟩,by show c-(cc+1)<c-cc;omega,rfl,aU,⟨List.mem_cons_self,trivial⟩,λ_ _ h=>h⟩
    ·have aeA:cc=c:=by omega
     rw[aeA,hn]at hm
     have hpb:=rE (i:=n-1) (n:=n) hs1 hsp aa CL hp2
     have hlast:=Aj n n (k:=n) (i:=n-1) aa
     have hll:=dG n n n
     have hm':=hm.symm
     subst hm'
     (repeat' ((conv=>whnf)<;>first|refine ab1 ?_|(show kC ..;refine lY (xs:=ig n n n) (j:=n-1) aa ?_)|refine aZ ?_|refine ag ?_ ?_<;>intro _))
     all_goals(conv=>whnf)
     ·exact ny (λ_ _ h=>h) rfl (if_pos aa)
     ·exact uJ (i:=1) (λ_ _ h=>h) rfl hll.symm (rG hs1 hsp CL hp2) aa aQ (if_neg aa)
end
theorem yP{s p n:Nat}{slots:Int}(hs:1<=s)(hp:s<=p){i:Nat}(hi:i<n)(h:slots<=gL s p i):slots<=gL s p (n-1):=Int.le_trans h (Ak hs hp aa)
theorem Pn{x y q:Int}{K:Int->Prop}(h0:0<=x)(hy:y≠0)(e:x%y=q)(h:K q):ww x y K:=rO h0 hy RS
theorem Po(w:World)(u:aj)(hx:bf w u.base 1 (ints u.xs))(layout slots:Int):Calls Tryz.prog 35 #[u.val,.int .i64 layout,.int .i64 slots] w (xL w (fT u.xs layout slots)):=by
 by_cases hA:entries u.xs=0\/layout<0\/1<layout
 ·refine fq Tryz.func35 [.c u.val,ak layout,ak slots] ?_
  (repeat' ((conv=>whnf)<;>first|(show aC _ 42 ..;refine aJ (f:=42) Tryz.call42 (.int .i64 (entries u.xs)) (λρ w' hw=>gT w' u.base u.cap u.xs (ae hw λR h=>au h hx)) ?_)|refine aZ ?_|refine ag ?_ ?_<;>intro _))
  all_goals(conv=>whnf)
  all_goals first|(exfalso;omega)|skip
  all_goals exact ny (λ_ _ h=>h) rfl (by rw[fT,if_pos hA])
 ·obtain⟨c,s,p,hcs,hs,hp,hc1,hs1,hsp,hp2,CL,Ud,aaS,hel⟩:=Fv (xs:=u.xs) (layout:=layout) aa
  have hdef:fT u.xs layout slots=if slots<=gL s p (c*s-1)then([],7)else(ig s p (c*s),0):=by
   rw[fT,if_neg hA,hs,hp,hcs,Int.toNat_natCast]
  obtain⟨n,hn⟩:∃n,c*s=n:=⟨_,rfl⟩
  have hn1:1<=n:=by rw[<-hn];exact Nat.mul_pos hc1 hs1
  rw[hn]at hdef hcs CL
  rw[hdef]
  have hent:∀{ρ:Nat->SX.Loc} {w':World} {nx:Nat} {H:Heap},dY ⟨w,[]⟩ ρ nx H (aH w) w'->Calls Tryz.prog 42 #[u.val] w' λe w2=>e= .returned (.int .i64 (n:Nat))/\Ext w' w2:=λhw=>by
   have:=gT _ u.base u.cap u.xs (ae hw λR h=>au h hx)
   rw[hcs]at this;exact this
  by_cases h1:layout=1/\u.xs.length=3
  ·obtain⟨ua,jr⟩:∃a,u.base=some a:=aI (j:=0) hx vD
   have hur:∀(R:Nat->Prop) w',(aH w).holds R w'->bf w' (some ua) 1 (ints u.xs):=λR w' h=>by rw[<-jr];exact au h hx
   rw[K9,if_pos h1]at hs
   rw[CK,if_pos h1,hs]at hp
   refine fq Tryz.func35 [.c u.val,ak layout,ak slots] ?_
   (repeat' ((conv=>whnf)<;>first|(show aC _ 42 ..;refine aJ (f:=42) Tryz.call42 (.int .i64 (n:Nat)) (λρ w' hw=>hent hw) ?_)|(show bC ..;(first|refine ax ua 1 jr rfl aa ?_|refine ax ua 2 jr rfl aa ?_))|(show fu ..;(first|refine bO hur (j:=1) aa ?_|refine bO hur (j:=2) aa ?_))|(show iw ..;refine jc (s:Int) hs aa aa ?_)|refine aZ ?_|refine ag ?_ ?_<;>intro _))
   all_goals(conv=>whnf)
   refine Wp.loop (σ:=Nat×Nat) 0 (λ⟨q,k⟩=>[(2,ak slots),(8,ak (n:Nat)),(9,ak (s:Nat)),(10,ak q)]) (λ_=>[]) (λ_=>aH w)
    (λ⟨q,k⟩=>(q:Int)*2^k=128/\1<=q/\up k s q=p) (λx=>x.2) (1,7) [] aS (λs=>⟨rfl,rfl⟩) ⟨by decide,by decide,hp⟩ ⟨rfl,aU,trivial,λ_ _ h=>h⟩ ?_
   rintro⟨q,k⟩ ⟨hq1,hq2,hq3⟩
   by_cases hqs:(q:Int)<s
   ·obtain⟨k',rfl,hk2,hk3⟩:=Zm hqs aa hq1
    (repeat' ((conv=>whnf)<;>first|(show iw ..;(refine jc ((q*2:Nat):Int) (by rw[Int.natCast_mul];exact Int.mul_comm _ _) aa aa ?_))|refine aZ ?_|refine ag ?_ ?_<;>intro _))
    all_goals(conv=>whnf)
    exact⟨(q*2,k'),[],⟨by simpa using hk3,by show 1<=q*2;omega,by rw[<-hq3,hk2];simp⟩,Nat.lt_succ_self _,rfl,aU,trivial,λ_ _ h=>h⟩
   ·rw[Zl hqs]at hq3
    have hqp:p=q:=by omega
    subst hqp
    (repeat' ((conv=>whnf)<;>first|refine aZ ?_|refine ag ?_ ?_<;>intro _))
    all_goals(conv=>whnf)
    refine Wp.loop (σ:=Nat) 2 (λm=>[(2,ak slots),(8,ak (n:Nat)),(9,ak (s:Nat)),(10,ak (p:Nat)),(11,.os 1 m),(12,ak m)]) (λm=>[(1,.rows (ints (ig s p m)) 1 3)]) (λ_=>aH w)
     (λm=>m<=n/\∀i,i<m->gL s p i<slots) (λm=>n-m) 0 [(1,none)] aS (λ_=>⟨rfl,rfl⟩) ⟨Nat.zero_le _,λi hi=>absurd hi (Nat.not_lt_zero i)⟩ ⟨rfl,aU,⟨rfl,trivial⟩,λ_ _ h=>h⟩ ?_
    rintro m ⟨hm,hall⟩
    have hrl:=dG s p m
    by_cases hlt:m<n
    ·have hpb:=rE (i:=m) (n:=n) hs1 hsp hlt CL hp2
     have hpn:=oZ (s:=s) (p:=p) m
     have hq1:((m/s:Nat):Int)*(p:Int)=((m/s*p:Nat):Int):=(Int.natCast_mul _ _).symm
     have hq2:m/s*p<=64*128:=Nat.mul_le_mul (Nat.le_trans (Nat.div_le_self _ _) aa) hp2
     by_cases hge:slots<=gL s p m
     ·(repeat' ((conv=>whnf)<;>first|refine ag5 ?_|(show ww ..;refine Pn (q:=((m%s:Nat):Int)) aa aa (Int.natCast_emod m s).symm ?_)|refine ag6 ?_|refine aZ ?_|refine ag ?_ ?_<;>intro _))
      all_goals(conv=>whnf)
      all_goals exact ny (λ_ _ h=>h) rfl (if_pos (yP hs1 hsp hlt hge))
     ·(repeat' ((conv=>whnf)<;>first|refine ag5 ?_|(show ww ..;refine Pn (q:=((m%s:Nat):Int)) aa aa (Int.natCast_emod m s).symm ?_)|refine ag6 ?_|refine ab2 ?_|refine ab3 ?_|refine aZ ?_|refine ag ?_ ?_<;>intro _))
      all_goals(conv=>whnf)
      refine⟨m+1,[(1,some 3)],⟨hlt,λi hi=> ?_⟩,by show n-(m+1)<n-m;omega,rfl,aU,⟨by show(3,bU.rows (ints (ig s p (m+1))) 1 3)∈_;rw[pM];exact rF _ _ (dG s p m).symm,trivial⟩,λ_ _ h=>h⟩
      rcases Nat.lt_or_ge i m with g|g
      ·exact hall i g
      ·obtain rfl:i=m:=by omega
       omega
    ·have hmn:n=m:=by omega
     have hlast:=hall (n-1) aa
     subst hmn
     (repeat' ((conv=>whnf)<;>first|refine aZ ?_|refine ag ?_ ?_<;>intro _))
     all_goals(conv=>whnf)
     exact uJ (i:=1) (λ_ _ h=>h) rfl hrl.symm (rG hs1 hsp CL hp2) aa aQ (if_neg aa)
  ·obtain⟨hc,aj1⟩:=hel h1
   have hns:n=s:=by rw[<-hn,hc,Nat.one_mul]
   subst aj1
   subst hns
   refine fq Tryz.func35 [.c u.val,ak layout,ak slots] ?_
   (repeat' ((conv=>whnf)<;>first|(show aC _ 42 ..;refine aJ (f:=42) Tryz.call42 (.int .i64 (n:Nat)) (λρ w' hw=>hent hw) ?_)|refine aZ ?_|refine ag ?_ ?_<;>intro _))
   all_goals(conv=>whnf)
   all_goals first|(exfalso;omega)|skip
   ·skip
    refine Wp.loop (σ:=Nat) 2 (λm=>[(2,ak slots),(8,ak (n:Nat)),(9,ak (n:Nat)),(10,ak (n:Nat)),(11,.os 1 m),(12,ak m)]) (λm=>[(1,.rows (ints (ig n n m)) 1 3)]) (λ_=>aH w)
     (λm=>m<=n/\∀i,i<m->gL n n i<slots) (λm=>n-m) 0 [(1,none)] aS (λ_=>⟨rfl,rfl⟩) ⟨Nat.zero_le _,λi hi=>absurd hi (Nat.not_lt_zero i)⟩ ⟨rfl,aU,⟨rfl,trivial⟩,λ_ _ h=>h⟩ ?_
    rintro m ⟨hm,hall⟩
    have hrl:=dG n n m
    by_cases hlt:m<n
    ·have hpb:=rE (i:=m) (n:=n) hs1 hsp hlt CL hp2
     have hpn:=oZ (s:=n) (p:=n) m
     have hq1:((m/n:Nat):Int)*(n:Int)=((m/n*n:Nat):Int):=(Int.natCast_mul _ _).symm
     have hq2:m/n*n<=64*128:=Nat.mul_le_mul (Nat.le_trans (Nat.div_le_self _ _) aa) hp2
     by_cases hge:slots<=gL n n m
     ·(repeat' ((conv=>whnf)<;>first|refine XX ?_|refine XY ?_|refine XZ ?_|refine aZ ?_|refine ag ?_ ?_<;>intro _))
      all_goals(conv=>whnf)
      all_goals exact ny (λ_ _ h=>h) rfl (if_pos (yP hs1 hsp hlt hge))
     ·(repeat' ((conv=>whnf)<;>first|refine XX ?_|refine XY ?_|refine XZ ?_|refine ab2 ?_|refine ab3 ?_|refine aZ ?_|refine ag ?_ ?_<;>intro _))
      all_goals(conv=>whnf)
      refine⟨m+1,[(1,some 3)],⟨hlt,λi hi=> ?_⟩,by show n-(m+1)<n-m;omega,rfl,aU,⟨by show(3,bU.rows (ints (ig n n (m+1))) 1 3)∈_;rw[pM];exact rF _ _ (dG n n m).symm,trivial⟩,λ_ _ h=>h⟩
      rcases Nat.lt_or_ge i m with g|g
      ·exact hall i g
      ·obtain rfl:i=m:=by omega
       omega
    ·have hmn:n=m:=by omega
     have hlast:=hall (n-1) aa
     subst hmn
     (repeat' ((conv=>whnf)<;>first|refine aZ ?_|refine ag ?_ ?_<;>intro _))
     all_goals(conv=>whnf)
     exact uJ (i:=1) (λ_ _ h=>h) rfl hrl.symm (rG hs1 hsp CL hp2) aa aQ (if_neg aa)
   ·skip
    refine Wp.loop (σ:=Nat) 2 (λm=>[(2,ak slots),(8,ak (n:Nat)),(9,ak (n:Nat)),(10,ak (n:Nat)),(11,.os 1 m),(12,ak m)]) (λm=>[(1,.rows (ints (ig n n m)) 1 3)]) (λ_=>aH w)
     (λm=>m<=n/\∀i,i<m->gL n n i<slots) (λm=>n-m) 0 [(1,none)] aS (λ_=>⟨rfl,rfl⟩) ⟨Nat.zero_le _,λi hi=>absurd hi (Nat.not_lt_zero i)⟩ ⟨rfl,aU,⟨rfl,trivial⟩,λ_ _ h=>h⟩ ?_
    rintro m ⟨hm,hall⟩
    have hrl:=dG n n m
    by_cases hlt:m<n
    ·have hpb:=rE (i:=m) (n:=n) hs1 hsp hlt CL hp2
     have hpn:=oZ (s:=n) (p:=n) m
     have hq1:((m/n:Nat):Int)*(n:Int)=((m/n*n:Nat):Int):=(Int.natCast_mul _ _).symm
     have hq2:m/n*n<=64*128:=Nat.mul_le_mul (Nat.le_trans (Nat.div_le_self _ _) aa) hp2
     by_cases hge:slots<=gL n n m
     ·(repeat' ((conv=>whnf)<;>first|refine XX ?_|refine XY ?_|refine XZ ?_|refine aZ ?_|refine ag ?_ ?_<;>intro _))
      all_goals(conv=>whnf)
      all_goals exact ny (λ_ _ h=>h) rfl (if_pos (yP hs1 hsp hlt hge))
     ·(repeat' ((conv=>whnf)<;>first|refine XX ?_|refine XY ?_|refine XZ ?_|refine ab2 ?_|refine ab3 ?_|refine aZ ?_|refine ag ?_ ?_<;>intro _))
      all_goals(conv=>whnf)
      refine⟨m+1,[(1,some 3)],⟨hlt,λi hi=> ?_⟩,by show n-(m+1)<n-m;omega,rfl,aU,⟨by show(3,bU.rows (ints (ig n n (m+1))) 1 3)∈_;rw[pM];exact rF _ _ (dG n n m).symm,trivial⟩,λ_ _ h=>h⟩
      rcases Nat.lt_or_ge i m with g|g
      ·exact hall i g
      ·obtain rfl:i=m:=by omega
       omega
    ·have hmn:n=m:=by omega
     have hlast:=hall (n-1) aa
     subst hmn
     (repeat' ((conv=>whnf)<;>first|refine aZ ?_|refine ag ?_ ?_<;>intro _))
     all_goals(conv=>whnf)
     exact uJ (i:=1) (λ_ _ h=>h) rfl hrl.symm (rG hs1 hsp CL hp2) aa aQ (if_neg aa)
section
variable {cx:Cx} {f:FuncId} {args:List SV} {H:Heap} {S:bJ} {nx:Nat} {K:SV->Heap->bJ->Nat->Prop}
theorem aeB{x:aY}{D:List (List Int)}{R:Nat->Prop}{w:World}(hx:wF D x)(hl:D.length<=1000000)(h:(ni x).holds R w):x.okB w:=⟨aO h.1,λu hu=>bP (hx.a_ u hu) (h.2 u hu),by have:=congrArg List.length hx.rows;rw[List.length_map]at this;omega⟩
theorem B_(r:List Int×Int)(hf:∀ar w,(callFunc f ar).run cx.P w= .ok (.enter f ar) w)
 (hc:∀ρ w,dY cx.B ρ nx H S w->Calls cx.P f (SV.d_ ρ args).toArray w (xL w r)) (h:∀x:aj,x.xs=r.1->x.a_->K (.c (.tuple #[x.val,.int .i64 r.2])) H (S.and ((bn x).past cx.B.w0.heap.size)) nx):aC cx f args H S nx K:=by
 refine gP hf (λx:aj=> .tuple #[x.val,.int .i64 r.2]) bn (λx=>x.xs=r.1/\x.a_) (λρ w' hw=>(hc ρ w' hw).mono ?_) (λx hx=>h x hx.1 hx.2)
 rintro e w2 ⟨x,h1,h2,h3,h4⟩
 exact⟨x,h1,h2,h3,h4⟩
theorem aaW(r:List (List Int)×Int)(hf:∀ar w,(callFunc f ar).run cx.P w= .ok (.enter f ar) w)
 (hc:∀ρ w,dY cx.B ρ nx H S w->Calls cx.P f (SV.d_ ρ args).toArray w (Ab w r.1 r.2)) (h:∀x:aY,wF r.1 x->(0<x.l.length->∃a,x.base=some a)->K (.c (.tuple #[x.val,.int .i64 r.2])) H (S.and ((ni x).past cx.B.w0.heap.size)) nx):aC cx f args H S nx K:=by
 refine gP hf (λx:aY=> .tuple #[x.val,.int .i64 r.2]) ni (λx=>wF r.1 x/\(0<x.l.length->∃a,x.base=some a)) (λρ w' hw=>(hc ρ w' hw).mono ?_) (λx hx=>h x hx.1 hx.2)
 rintro e w2 ⟨x,h1,h2,h3,h4⟩
 exact⟨x,⟨h1,λh0=>aI (j:=0) (aO h4.1) (by rw[aR];exact h0)⟩,h2,h3,h4⟩
end
abbrev al7:Go.SX.DT:=(eF [0,1,2,3,4,5,6,7,8] (.alt 9 (eF [10,11,12,13,114,15,116,17] .done) (eF [114,109,10,11,12,13,15,116,17] .done)))
abbrev al8:Go.SX.DT:=(eF [0,1,2,3,4,5,6,7,8,9,10,11,12,13,14,15,16,17,18,19,20,121,22,23,24,25,26] .done)
section
variable {cx:Cx} {f:FuncId} {args:List SV} {H:Heap} {S:bJ} {nx:Nat} {K:SV->Heap->bJ->Nat->Prop} {R:Nat->Prop} {w:World}
def iq(n:Nat)(giant:Bool)(s:fF)(x:Int)(r:List (List Int)×List Int)(fr to:List Int):fF×Int:=
 let q:=jl n giant s x (mK r.1 fr to n).1
 if r.2.any (λb=>decide (b≠0))=true then
  let p:=bg n q.1 to (λe=>r.2.getD e 0)
  bI p.1 4 q.2 0 p.2
 else q
def Ir(c:dM):bJ:=(eY c.shapes.base 1 (aM c.shapes.l)).and (dP c.shapes.l)
abbrev rH(c:dM)(s:cZ)(n:ai):bJ:=(BO c s n).and (Ir c)
def n0(n:ai):ai:={n with a:=0}
theorem Xe(n:Nat)(r:List (List Int)×Int)(hf:∀ar w,(callFunc f ar).run cx.P w= .ok (.enter f ar) w)
 (hc:∀ρ w,dY cx.B ρ nx H S w->Calls cx.P f (SV.d_ ρ args).toArray w (rC w n r.1 r.2)) (h:∀x:aY,wF r.1 x->Ze n x->K (.c (.tuple #[x.val,.int .i64 r.2])) H (S.and ((ni x).past cx.B.w0.heap.size)) nx):aC cx f args H S nx K:=by
 refine gP hf (λx:aY=> .tuple #[x.val,.int .i64 r.2]) ni (λx=>wF r.1 x/\Ze n x) (λρ w' hw=>(hc ρ w' hw).mono ?_) (λx hx=>h x hx.1 hx.2)
 rintro e w2 ⟨x,h1,h2,h3,h4⟩
 exact⟨x,h1,h2,h3,h4⟩
def aeC(p:aY×aj):bJ:=(ni p.1).and (bn p.2)
theorem Xf(r:(List (List Int)×List Int)×Int)(hf:∀ar w,(callFunc f ar).run cx.P w= .ok (.enter f ar) w)
 (hc:∀ρ w,dY cx.B ρ nx H S w->Calls cx.P f (SV.d_ ρ args).toArray w (qI w r)) (h:∀(x:aY) (y:aj),wF r.1.1 x->y.xs=r.1.2->y.a_->K (.c (.tuple #[x.val,y.val,.int .i64 r.2])) H (S.and ((aeC (x,y)).past cx.B.w0.heap.size)) nx):aC cx f args H S nx K:=by
 refine gP hf (λp:aY×aj=> .tuple #[p.1.val,p.2.val,.int .i64 r.2]) aeC (λp=>wF r.1.1 p.1/\p.2.xs=r.1.2/\p.2.a_) (λρ w' hw=>(hc ρ w' hw).mono ?_) (λp hp=>h p.1 p.2 hp.1 hp.2.1 hp.2.2)
 rintro e w2 ⟨x,y,h1,h2,h3,h4,h5⟩
 exact⟨(x,y),h1,h2,h3,h4,h5⟩
theorem Ur{n:ai}(hn:n.iI)(h:(TM n).holds R w):n.ok w:=⟨⟨fK h.1,hn.shape.fits,hn.shape.room,hn.shape.few⟩,⟨fK h.2.1,hn.data.fits,hn.data.room,hn.data.few⟩,⟨fK h.2.2,hn.aG.fits,hn.aG.room,hn.aG.few⟩,hn.jJ,hn.p9,hn.nQ,hn.kE,hn.kF,hn.jK⟩
theorem aeD{n:ai}(hn:n.iI)(h:(TM n).holds R w):(n0 n).ok w:=by
 have:=Ur hn h
 exact⟨this.shape,this.data,this.aG,hn.jJ,by show i64 0;unfold i64;omega,hn.nQ,hn.kE,hn.kF,hn.jK⟩
theorem Fx{α:Type}{f:List (List Int)->α->List (List Int)}(h:∀D a,(f D a).length=D.length):∀(l:List α) (D:List (List Int)),(l.foldl f D).length=D.length
 |[],_=>rfl
 |a::l,D=>by rw[List.foldl_cons,Fx h l,h]
theorem uq{rows:List (List Int)}{fr to:List Int}{n:Nat}(hd:oQ rows fr to n):(mK rows fr to n).1.length=n:=by
 rw[mK,if_pos hd]
 show(nY _ _ _ _ _).length=n
 unfold nY
 rw[Fx]
 ·simp
 ·intro D a
  unfold z8
  refine Fx (λD a=> ?_) _ _
  unfold qG
  split<;>simp
theorem Us(c:dM)(s:cZ)(vl:List Int)(n:ai)(i:Nat)(sh fr to:aj)(r:List (List Int)×List Int)(hN:lH c s vl)(h0:0<=n.a)(ha:n.a.toNat<vl.length)(hn:n.iI)(hsm:n.small)(hsh:c.shapes.l[n.a.toNat]? =some sh)(zh:sh.a_)(hfr:c.bH.l[n.a.toNat]? =some fr)(CO:fr.a_)(hto:c.bH.l[i]? =some to)(tu:to.a_)(hk:¬(n.kind=9/\fr.xs=to.xs))(hr:(jC (n0 n) sh).1=r)(hd:oQ r.1 fr.xs to.xs c.slots)(hb:to.xs.length<=r.2.length)
 (w:World) (ρ:Nat->SX.Loc) (F:Nat->Prop) (h:iW w ρ F 2 5 (kR c s vl) (rH c s n)):
 Calls Tryz.prog 26 (SV.d_ ρ [.lp 0 0 0 0,.agg (jM n),ak i]).toArray w (ou w ρ F c s vl (iq c.slots c.giant s.pl (vl.getD n.a.toNat 0) r fr.xs to.xs)):=by
 have hcl:=hN.lM
 have hpl:=hN.qM
 have hn1:=hN.slots.1
 have hn2:=hN.slots.2
 have Vx:∀{j:Nat} {u:aj} {l:List aj},l[j]? =some u->(aM l)[j]? =some [u.val]:=λh=>by unfold aM;rw[List.getElem?_map,h];rfl
 have ln:∀{j:Nat} {u:aj} {l:List aj},l[j]? =some u->j<l.length:=λh=>(List.getElem?_eq_some_iff.1 h).1
 refine Es Tryz.func26 (mq 2 ρ) ρ [.lp 0 0 0 0,.agg (jM n),ak i] (kR c s vl) ((rH c s n).and (f_ w F)) 5 h.abs ?_
 refine Wp.know (p:=∃a,c.bH.base=some a) (λρ w' hw=>ae hw λR h=>aI (j:=i) (aO h.1.1.1.2.1) af5) ?_
 rintro⟨sa,hsa⟩
 refine Wp.know (p:=∃a,c.shapes.base=some a) (λρ w' hw=>ae hw λR h=>aI (j:=n.a.toNat) (aO h.1.2.1) (by rw[aR];exact ln hsh)) ?_
 rintro⟨ha',hha⟩
 by_cases hk9:n.kind=9
 all_goals
  (repeat' ((conv=>whnf)<;>first|(show cO _ 6 ..;refine mE [] _ al7 ?_)|(show cO _ 7 ..;refine mE [] _ al8 ?_)|(show iK ..;refine og ?_)|(show @dR _ _ _;(first|refine bA aa ?_|refine cK aa ?_))|(show bC ..;(first|refine ax sa n.a.toNat hsa aa (ln hfr) ?_|refine ax sa i hsa rfl (ln hto) ?_|refine ax ha' n.a.toNat hha aa (ln hsh) ?_))|(show fu ..;(first|refine aW (λR w' h=>by rw[<-hsa];first|exact aO h.1.1.1.2.1|exact aO h.1.1.1.1.2.1) _ _ (Vx hfr) rfl ?_|refine aW (λR w' h=>by rw[<-hsa];first|exact aO h.1.1.1.2.1|exact aO h.1.1.1.1.2.1) _ _ (Vx hto) rfl ?_|refine aW (λR w' h=>by rw[<-hha];exact aO h.1.2.1) _ _ (Vx hsh) rfl ?_))|(show bV ..;(refine aT n.a.toNat aa ha zf ?_))|(show kC ..;refine lY ha ?_)|(show ku _ 62 ..;(refine iL (f:=62) Tryz.call62 (.bool false) (λρ w' hw=>by have:=qY w' fr to (ae hw λR h=>bP CO (h.1.1.1.2.2 _ (List.mem_of_getElem? hfr))) (ae hw λR h=>bP tu (h.1.1.1.2.2 _ (List.mem_of_getElem? hto)));rw[decide_eq_false (λe=>hk ⟨hk9,e⟩)]at this;exact this) ?_))|(show aC _ 63 ..;refine Xf (jC (n0 n) sh) Tryz.call63 (λρ w' hw=>Un w' (n0 n) sh (ae hw λR h=>aeD hn h.1.1.2) ⟨hsm.data,hsm.aG⟩ (ae hw λR h=>bP zh (h.1.2.2 _ (List.mem_of_getElem? hsh)))) (λx y hx hy hys=> ?_))|(show aC _ 64 ..;(refine Xe c.slots (mK (x.l.map aj.xs) fr.xs to.xs c.slots) Tryz.call64 (λρ w' hw=>aaJ w' x (ae hw λR h=>aeB hx (by rw[hr,hd.2.2.1];exact tu.few) ((ni x).mono h.2.1 (λ_ hb=>hb.1))) fr to (ae hw λR h=>bP CO (h.1.1.1.1.2.2 _ (List.mem_of_getElem? hfr))) (ae hw λR h=>bP tu (h.1.1.1.1.2.2 _ (List.mem_of_getElem? hto))) c.slots ⟨by omega,by omega⟩) (λd hdx hdn=> ?_)))|refine aZ ?_|refine And.intro ?_ ?_))
 all_goals
  have hdl:d.l.length=c.slots:=by have:=congrArg List.length hdx.rows;rw[List.length_map,hx.rows,hr,uq hd]at this;exact this
  have hDr:d.l.map aj.xs=(mK r.1 fr.xs to.xs c.slots).1:=by rw[hdx.rows,hx.rows,hr]
  have hG:=dn.rows c.slots c.giant s.pl (vl.getD n.a.toNat 0) (d.l.map aj.xs) hn1 Yk
  refine dN [(7,.box [.c y.val] 32),(6,.box [ak n.kind,ak 0,ak n.b,.c n.shape.val,ak n.lo,ak n.hi,ak n.size,.c n.data.val,.c n.aG.val] 41),(5,.box (cs n.cells) 41)] 0 1 2 3 4 c s vl ((dP s.ay).and (ni d)) [.lp 0 0 0 0,ak (vl.getD n.a.toNat 0),.c d.val] _ _ _ _ Tryz.call65 rfl rfl rfl (λR w' h=>⟨h.1.1.1.1.1.1,(ni d).mono h.2 (λ_ hb=>hb.1)⟩) (dU w F) (λR w' h b hb=>(h.1.1.2 b hb).1) (λw' ρ' F' h'=>aea c s vl (vl.getD n.a.toNat 0) d hN hdl hdn hdx.a_ hdx.room w' ρ' F' h') (λq ⟨hq1,hq2,hq3⟩=> ?_)
  rw[<-hq1]at hG
  have hGf:q.1.code.length<=s.code.length+(5*c.slots+1):=hG.few
  have hGp:q.1.ay.length<=1000000:=by
   have:=hG.ay
   have e1:q.1.pl.ay.length=q.1.ay.length:=List.length_map _
   have e2:s.pl.ay.length=s.ay.length:=List.length_map _
   have e3:q.1.pl.code.length=q.1.code.length:=rfl
   have e4:s.pl.code.length=s.code.length:=rfl
   omega
  have hyr:y.xs=r.2:=by rw[hy,hr]
  have hw0:∀v,jl c.slots c.giant s.pl (vl.getD n.a.toNat 0) (d.l.map aj.xs)=v->iq c.slots c.giant s.pl (vl.getD n.a.toNat 0) r fr.xs to.xs=(if y.xs.any (λb=>decide (b≠0))=true then bI (bg c.slots v.1 to.xs (λe=>y.xs.getD e 0)).1 4 v.2 0 (bg c.slots v.1 to.xs (λe=>y.xs.getD e 0)).2 else v):=λv hv=>by unfold iq;rw[<-hDr,hv,hyr]
  have hw1:=hw0 (q.1.pl,q.2) (Prod.ext hq1.symm hq2.symm)
  by_cases hnz:y.xs.any (λb=>decide (b≠0))=true
  ·rw[if_pos hnz]at hw1
   rw[hw1]
   (repeat' ((conv=>whnf)<;>first|(show aC _ 66 ..;(refine aJ (f:=66) Tryz.call66 (.bool true) (λρ w' hw=>by have:=Ai w' y (ae hw λR h=>bP hys ((bn y).mono h.1.1.2.2 (λ_ hb=>hb.1)));rw[hnz]at this;exact this) ?_))|refine aZ ?_))
   refine qE rfl [(6,.box [ak n.kind,ak 0,ak n.b,.c n.shape.val,ak n.lo,ak n.hi,ak n.size,.c n.data.val,.c n.aG.val] 41),(5,.box (cs n.cells) 41)] 7 0 1 10 11 12 c q.1 vl 70 [y.val] 32 i (λe=>y.xs.getD e 0) (bn y) to hn2 hq3.ay hGp hto tu (j5 hd.2.2.2.2.1).1 (λe he=>by rw[List.getD_eq_getElem?_getD,List.getElem?_eq_getElem (by rw[hyr];omega)];exact hys.fits _ (List.getElem_mem _)) Tryz.call70 (λR w' b e he hh hA=>Xd w' b e y _ (by rw[hyr];omega) (aO hA) hh) rfl rfl rfl (λR w' h=>⟨⟨OD h.1.1.1.1.1.1.1 h.2,h.1.1.1.1.1.1.2⟩,(bn y).mono h.1.1.2.2 (λ_ hb=>hb.1)⟩) (dU w F) (λR w' h b hb=>(h.1.1.1.2 b hb).1) (λu hu fP=> ?_)
   (repeat' ((conv=>whnf)<;>first|refine aZ ?_))
   refine dN [(6,.box [ak n.kind,ak 0,ak n.b,.c n.shape.val,ak n.lo,ak n.hi,ak n.size,.c n.data.val,.c n.aG.val] 41),(5,.box (cs n.cells) 41)] 0 1 15 16 17 c (az q.1 u).1 vl dW [.lp 0 0 0 0,ak 4,ak q.2,ak 0,ak (az q.1 u).2] _ _ _ _ Tryz.call68 rfl rfl rfl (λR w' h=>trivial) (dU w F) (λR w' h b hb=>(h.1.1.1.1.2 b hb).1) (λw' ρ' F' h'=>gN c (az q.1 u).1 vl 4 q.2 0 (az q.1 u).2 RQ w' ρ' F' h') (λ_ _=> ?_)
   (repeat' ((conv=>whnf)<;>first|refine aZ ?_))
   all_goals(conv=>whnf)
   exact eU _ _ _ _ (cu (az q.1 u).1 4 q.2 0 (az q.1 u).2,((az q.1 u).1.code.length:Int)) [(2,some 21),(3,some 22),(4,some 23)] ⟨by rw[h_ hu,nO],by rw[h_ hu,nO],qA (nN hq3 fP) _ _ _ _⟩ aS rfl rfl rfl rfl aU (λR w' h=>⟨h.1.1.1.1.1.2,gQ h.1.1.2 h.1.2⟩)
  ·rw[if_neg hnz]at hw1
   rw[hw1]
   have hnf:=Bool.eq_false_iff.2 hnz
   (repeat' ((conv=>whnf)<;>first|(show aC _ 66 ..;(refine aJ (f:=66) Tryz.call66 (.bool false) (λρ w' hw=>by have:=Ai w' y (ae hw λR h=>bP hys ((bn y).mono h.1.1.2.2 (λ_ hb=>hb.1)));rw[hnf]at this;exact this) ?_))|refine aZ ?_))
   all_goals(conv=>whnf)
   exact eU _ _ _ _ q [(2,some 10),(3,some 11),(4,some 12)] ⟨rfl,rfl,hq3⟩ aS rfl rfl rfl rfl aU (λR w' h=>⟨h.1.1.1.2,h.2⟩)
end
theorem aeE(c:dM)(s:cZ)(vl:List Int)(n:ai)(i:Nat)(fr to:aj)(hN:lH c s vl)(h0:0<=n.a)(ha:n.a.toNat<vl.length)(hfr:c.bH.l[n.a.toNat]? =some fr)(CO:fr.a_)(hto:c.bH.l[i]? =some to)(tu:to.a_)(hk9:n.kind=9)(hft:fr.xs=to.xs)
 (w:World) (ρ:Nat->SX.Loc) (F:Nat->Prop) (h:iW w ρ F 2 5 (kR c s vl) (rH c s n)):
 Calls Tryz.prog 26 (SV.d_ ρ [.lp 0 0 0 0,.agg (jM n),ak i]).toArray w (ou w ρ F c s vl (s.pl,vl.getD n.a.toNat 0)):=by
 have Vx:∀{j:Nat} {u:aj} {l:List aj},l[j]? =some u->(aM l)[j]? =some [u.val]:=λh=>by unfold aM;rw[List.getElem?_map,h];rfl
 have ln:∀{j:Nat} {u:aj} {l:List aj},l[j]? =some u->j<l.length:=λh=>(List.getElem?_eq_some_iff.1 h).1
 refine Es Tryz.func26 (mq 2 ρ) ρ [.lp 0 0 0 0,.agg (jM n),ak i] (kR c s vl) ((rH c s n).and (f_ w F)) 5 h.abs ?_
 refine Wp.know (p:=∃a,c.bH.base=some a) (λρ w' hw=>ae hw λR h=>aI (j:=i) (aO h.1.1.1.2.1) af5) ?_
 rintro⟨sa,hsa⟩
 (repeat' ((conv=>whnf)<;>first|(show @dR _ _ _;refine bA aa ?_)|(show bC ..;(first|refine ax sa n.a.toNat hsa aa (ln hfr) ?_|refine ax sa i hsa rfl (ln hto) ?_))|(show fu ..;(first|refine aW (λR w' h=>by rw[<-hsa];exact aO h.1.1.1.2.1) _ _ (Vx hfr) rfl ?_|refine aW (λR w' h=>by rw[<-hsa];exact aO h.1.1.1.2.1) _ _ (Vx hto) rfl ?_))|(show bV ..;(refine aT n.a.toNat aa ha zf ?_))|(show kC ..;refine lY ha ?_)|(show ku _ 62 ..;(refine iL (f:=62) Tryz.call62 (.bool true) (λρ w' hw=>by have:=qY w' fr to (ae hw λR h=>bP CO (h.1.1.1.2.2 _ (List.mem_of_getElem? hfr))) (ae hw λR h=>bP tu (h.1.1.1.2.2 _ (List.mem_of_getElem? hto)));rw[decide_eq_true hft]at this;exact this) ?_))|refine aZ ?_))
 all_goals(conv=>whnf)
 all_goals exact eU _ _ _ _ (s,vl.getD n.a.toNat 0) [] ⟨rfl,rfl,hN.ok⟩ aS rfl rfl rfl rfl aU (λR w' h=>⟨h.2,lG _ _ _⟩)
structure Al where
 slots:Int
 ib:Option Addr
 ic:Nat
 inputs:List oq
 ay:aY
 cb:Option Addr
 cc:Nat
 code:List oN
 last:Int
 out:aj
structure qO where
 slots:Int
 low:fF
 last:Int
 out:List Int
def Al.val(v:Al):Value:= .agg #[.int .i64 v.slots,.slice v.ib v.inputs.length v.ic,v.ay.val,.slice v.cb v.code.length v.cc,.int .i64 v.last,v.out.val]
def Al.pl(v:Al):qO:=⟨v.slots,⟨v.inputs.map oq.pl,v.ay.l.map aj.xs,v.code⟩,v.last,v.out.xs⟩
structure Al.a_(v:Al):Prop where
 ay:∀p∈v.ay.l,p.a_
 inputs:∀x∈v.inputs,x.slots.a_/\i64 x.lo/\i64 x.hi
 out:v.out.a_
 qM:v.ay.l.length<=1000000
 Ho:v.inputs.length<=1000000
 lM:v.code.length<=1000000
def aeF(l:List oq):bJ where
 holds R w:=∀x∈l,(bn x.slots).holds R w
 stable:=λhR hw h x hx=>(bn x.slots).stable hR hw (h x hx)
def Xg(v:Al):bJ:=(((eY v.ib 3 (iF v.inputs)).and (aeF v.inputs)).and ((eY v.ay.base 1 (aM v.ay.l)).and (dP v.ay.l))).and ((eY v.cb 5 (iE v.code)).and (bn v.out))
def vo:qO:=⟨0,⟨[],[],[]⟩,0,[]⟩
def oD(w:World)(r:qO×Int):Ending->World->Prop:=λe w'=>∃v:Al,(v.pl=r.1/\v.a_)/\e= .returned (.tuple #[v.val,.int .i64 r.2])/\Ext w w'/\(Xg v).holds (λb=>w.heap.size<=b/\b<w'.heap.size) w'
structure Am where
 layout:Int
 tidy:Bool
 lazy:Bool
 giant:Bool
 rows:Int
def Am.val(o:Am):Value:= .agg #[.int .i64 o.layout,.bool o.tidy,.bool o.lazy,.bool o.giant,.int .i64 o.rows]
def l7(o:Am)(slots:Int):Prop:=0<=o.layout/\o.layout<=1/\4<=slots/\slots<=2048/\bitsOf .and .i64 slots (slots-1)=0
instance(o:Am)(slots:Int):Decidable (l7 o slots):=by unfold l7;infer_instance
theorem Iu{op:BinOp}{k:IntKind}{x y:Int}{K:Int->Prop}(h:K (bitsOf op k x y)):Jh op k x y K:=by rw[wQ];exact h
theorem nA{w:World}{B:Base}{H:Heap}{S:bJ}{nx:Nat}{er:Int}{v:SV}{r:qO×Int}(hb:∀R w',S.holds R w'->(aH B.w0).holds R w')(hw0:B.w0=w)(hr:r=(vo,er))(hv:∀ρ,v.rf ρ= .tuple #[.agg #[.int .i64 0,.slice none 0 0,.slice none 0 0,.slice none 0 0,.int .i64 0,.slice none 0 0],.int .i64 er]):jE B v H S nx (oD w r):=by
 subst hw0 hr
 refine dz λρ w' hw=>⟨⟨0,none,0,[],⟨none,0,[]⟩,none,0,[],0,⟨none,0,[]⟩⟩,⟨rfl,⟨λ_ h=>kJ,λ_ h=>kJ,⟨λ_ h=>kJ,Nat.le_refl _,Nat.zero_le _⟩,Nat.zero_le _,Nat.zero_le _,Nat.zero_le _⟩⟩,by rw[hv];rfl,aV hw hb,?_⟩
 have z:∀k,(eY none k []).holds (λb=>B.w0.heap.size<=b/\b<w'.heap.size) w':=λk=>⟨λ_ h=>kJ,.inl rfl⟩
 exact⟨⟨⟨z 3,λ_ h=>kJ⟩,⟨z 1,λ_ h=>kJ⟩⟩,⟨z 5,z 1⟩⟩
theorem aaX(w:World)(g:bE)(o:Am)(slots:Int)(hg:g.ok w)(h64:i64 slots)(hbad:¬l7 o slots\/(bT g).1≠0):Calls Tryz.prog 9 #[g.val,o.val,.int .i64 slots] w (oD w (vo,if l7 o slots then(bT g).1 else 1)):=by
 obtain⟨h1,h2⟩:=h64
 by_cases hs:l7 o slots
 ·rw[if_pos hs]
  have hne:=hbad.resolve_left (λh=>h hs)
  obtain⟨s1,s2,s3,s4,s5⟩:=hs
  refine fq Tryz.func9 [.agg [.c (.slice g.base g.l.length g.cap),ak g.out],.agg [ak o.layout,.c (.bool o.tidy),.c (.bool o.lazy),.c (.bool o.giant),ak o.rows],ak slots] ?_
  (repeat' ((conv=>whnf)<;>first|(show Jh ..;refine Iu ?_)|(show @dR _ _ _;(first|refine cK aa ?_|refine bA hne ?_))|(show aC _ 22 ..;refine mY (f:=22) (bT g) Tryz.call22 (λρ w' hw=>xq w' g (ae hw λR h=>hg.later h)) (λ_=> ?_) (λhsp=>absurd hsp hne))|refine aN ?_))
  all_goals(conv=>whnf)
  exact nA (λ_ _ h=>h) rfl rfl (λρ=>rfl)
 ·rw[if_neg hs]
  refine fq Tryz.func9 [.agg [.c (.slice g.base g.l.length g.cap),ak g.out],.agg [ak o.layout,.c (.bool o.tidy),.c (.bool o.lazy),.c (.bool o.giant),ak o.rows],ak slots] ?_
  (repeat' ((conv=>whnf)<;>first|(show Jh ..;refine Iu ?_)|(show @dR _ _ _;((refine ag ?_ ?_<;>intro _)))|(show aC _ 22 ..;((exfalso;exact hs ⟨by omega,by omega,by omega,by omega,by omega⟩)))|refine aN ?_))
  all_goals(conv=>whnf)
  all_goals exact nA (λ_ _ h=>h) rfl rfl (λρ=>rfl)
def cz(c:dM)(n:ai)(i:Nat)(s:fF)(vl:List Int):fF×Int:=
 if n.kind=1 then lI s n.lo n.hi (c.bH.l.getD i fI).xs
 else if n.kind=2 then bI (bg c.slots s (c.bH.l.getD i fI).xs (λe=>n.data.xs.getD e 0)).1 2 0 0 (bg c.slots s (c.bH.l.getD i fI).xs (λe=>n.data.xs.getD e 0)).2
 else if n.kind=6 then bI s 3 (vl.getD n.a.toNat 0) (vl.getD n.b.toNat 0) 0
 else if n.kind=7 then bI (bg c.slots s (c.bH.l.getD i fI).xs (λ_=>n.data.xs.getD 0 0)).1 5 (vl.getD n.a.toNat 0) 0 (bg c.slots s (c.bH.l.getD i fI).xs (λ_=>n.data.xs.getD 0 0)).2
 else if n.kind=8 then lu c.slots s (vl.getD n.a.toNat 0) n.data.xs (c.bH.l.getD i fI).xs
 else if n.kind=9/\(c.bH.l.getD n.a.toNat fI).xs=(c.bH.l.getD i fI).xs then(s,vl.getD n.a.toNat 0)
 else iq c.slots c.giant s (vl.getD n.a.toNat 0) (jC (n0 n) (c.shapes.l.getD n.a.toNat fI)).1 (c.bH.l.getD n.a.toNat fI).xs (c.bH.l.getD i fI).xs
def gZ(c:dM):List ai->Nat->fF->List Int->Option (fF×List Int)
 |[],_,s,vl=>some (s,vl)
 |n::r,i,s,vl=>if 2048<(cz c n i s vl).1.code.length then none else gZ c r (i+1) (cz c n i s vl).1 (vl++[(cz c n i s vl).2])
def lowerT(c:dM)(g:bE):Option (fF×List Int)->qO×Int
 |none=>(vo,6)
 |some q=>(⟨c.slots,q.1,q.2.getD g.out.toNat 0,(c.bH.l.getD g.out.toNat fI).xs⟩,0)
def qJ(c:dM)(g:bE):qO×Int:=lowerT c g (gZ c g.l 0 ⟨[],[],[]⟩ [])
def gy(layout slots:Int):List (List Int)->List (List Int)->List (List Int)×Int
 |[],acc=>(acc,0)
 |x::r,acc=>if(fT x layout slots).2≠0 then([],(fT x layout slots).2)else gy layout slots r (acc++[(fT x layout slots).1])
theorem dn.power(n:Nat)(s:fF)(x:Int)(data sl:List Int):dn 8 s (lu n s x data sl).1:=by
 have pl:∀(s:fF) (f:Nat->Int) (op a b:Int),dn 1 s (bI (bg n s sl f).1 op a b (bg n s sl f).2).1:=λs f op a b=>dn.plain s _ _ _ _ _
 obtain⟨y,hy⟩:∃y:fF×Option Int,y=(if data.getD 2 0=0 then(s,none)else if data.getD 2 0=1 then((bI s 6 x x 0).1,some (bI s 6 x x 0).2)else((bI (bg n (bI s 6 x x 0).1 sl (λ_=>data.getD 2 0)).1 5 (bI s 6 x x 0).2 0 (bg n (bI s 6 x x 0).1 sl (λ_=>data.getD 2 0)).2).1,some (bI (bg n (bI s 6 x x 0).1 sl (λ_=>data.getD 2 0)).1 5 (bI s 6 x x 0).2 0 (bg n (bI s 6 x x 0).1 sl (λ_=>data.getD 2 0)).2).2)):=⟨_,rfl⟩
 have g1:dn 2 s y.1:=by
  rw[hy]
  split
  ·exact(dn.refl s).mono (Nat.zero_le _)
  ·split
   ·exact(dn.lay _ _ _ _ _).mono aS
   ·exact(dn.lay _ _ _ _ _).trans (pl _ _ _ _ _)
 obtain⟨z,hz⟩:∃z:fF×Option Int,z=(if data.getD 1 0=0 then y else if data.getD 1 0=1 then((lq y.1 y.2 x).1,some (lq y.1 y.2 x).2)else((lq (bI (bg n y.1 sl (λ_=>data.getD 1 0)).1 5 x 0 (bg n y.1 sl (λ_=>data.getD 1 0)).2).1 y.2 (bI (bg n y.1 sl (λ_=>data.getD 1 0)).1 5 x 0 (bg n y.1 sl (λ_=>data.getD 1 0)).2).2).1,some (lq (bI (bg n y.1 sl (λ_=>data.getD 1 0)).1 5 x 0 (bg n y.1 sl (λ_=>data.getD 1 0)).2).1 y.2 (bI (bg n y.1 sl (λ_=>data.getD 1 0)).1 5 x 0 (bg n y.1 sl (λ_=>data.getD 1 0)).2).2).2)):=⟨_,rfl⟩
 have g2:dn 2 y.1 z.1:=by
  rw[hz]
  split
  ·exact(dn.refl _).mono (Nat.zero_le _)
  ·split
   ·exact(dn.add _ _ _).mono aS
   ·exact(pl _ _ _ _ _).trans (dn.add _ _ _)
 obtain⟨o,ho⟩:∃o:fF×Int,o=(match z.2 with|none=>tZ n z.1 x|some m=>(z.1,m)):=⟨_,rfl⟩
 have g3:dn 1 z.1 o.1:=by
  rw[ho]
  split
  ·exact dn.plain _ _ _ _ _ _
  ·exact(dn.refl _).mono (Nat.zero_le _)
 have e:lu n s x data sl=(if data.getD 0 0=0 then o else bI (bg n o.1 sl (λ_=>data.getD 0 0)).1 4 o.2 0 (bg n o.1 sl (λ_=>data.getD 0 0)).2):=by
  rw[ho,hz,hy];rfl
 rw[e]
 split
 ·exact((g1.trans g2).trans g3).mono aS
 ·exact(((g1.trans g2).trans g3).trans (pl _ _ _ _ _)).mono aS
theorem dn.input(s:fF)(lo hi:Int)(sl:List Int):dn 1 s (lI s lo hi sl).1:=by
 have e:(lI s lo hi sl).1.code.length=s.code.length+1:=by simp[lI,bI]
 exact⟨by omega,by omega,by rw[e];show s.ay.length+_<=_;omega,by rw[e];show(s.inputs++_).length+_<=_;rw[List.length_append,List.length_singleton];omega⟩
theorem OW(rows:List (List Int))(fr to:List Int)(n:Nat):(mK rows fr to n).1.length<=n:=by
 by_cases hd:oQ rows fr to n
 ·exact Nat.le_of_eq (uq hd)
 ·rw[mK,if_neg hd];exact Nat.zero_le _
theorem dn.aeG(n:Nat)(b:Bool)(s:fF)(x:Int)(r:List (List Int)×List Int)(fr to:List Int)(hn:1<=n):dn (5*n+2) s (iq n b s x r fr to).1:=by
 have h:=dn.rows n b s x (mK r.1 fr to n).1 hn (OW _ _ _ _)
 unfold iq
 dsimp only
 split
 ·exact h.trans (dn.plain _ _ _ _ _ _)
 ·exact h.mono aa
theorem dn.node(c:dM)(n:ai)(i:Nat)(s:fF)(vl:List Int)(hn:1<=c.slots):dn (5*c.slots+8) s (cz c n i s vl).1:=by
 unfold cz
 repeat' split
 ·exact(dn.input _ _ _ _).mono aa
 ·exact(dn.plain _ _ _ _ _ _).mono aa
 ·exact(dn.lay _ _ _ _ _).mono aa
 ·exact(dn.plain _ _ _ _ _ _).mono aa
 ·exact(dn.power _ _ _ _ _).mono aa
 ·exact(dn.refl _).mono (Nat.zero_le _)
 ·exact(dn.aeG _ _ _ _ _ _ _ hn).mono aa
def vv(k:Int):FuncId:=if k=1 then 27 else if k=2 then 28 else if k=6 then 29 else if k=7 then 30 else if k=8 then 31 else 26
theorem Zn(k:Int):(k=1/\vv k=27)\/(k=2/\vv k=28)\/(k=6/\vv k=29)\/(k=7/\vv k=30)\/(k=8/\vv k=31)\/((k≠1/\k≠2/\k≠6/\k≠7/\k≠8)/\vv k=26):=by
 by_cases h1:k=1
 ·subst h1;exact .inl ⟨rfl,rfl⟩
 by_cases h2:k=2
 ·subst h2;exact .inr (.inl ⟨rfl,rfl⟩)
 by_cases h3:k=6
 ·subst h3;exact .inr (.inr (.inl ⟨rfl,rfl⟩))
 by_cases h4:k=7
 ·subst h4;exact .inr (.inr (.inr (.inl ⟨rfl,rfl⟩)))
 by_cases h5:k=8
 ·subst h5;exact .inr (.inr (.inr (.inr (.inl ⟨rfl,rfl⟩))))
 ·exact .inr (.inr (.inr (.inr (.inr ⟨⟨h1,h2,h3,h4,h5⟩,by unfold vv;rw[if_neg h1,if_neg h2,if_neg h3,if_neg h4,if_neg h5]⟩))))
def Eb(c:dM)(n:ai)(i:Nat)(f:FuncId):Prop:=∀(s:cZ) (vl:List Int) (w:World) (ρ:Nat->SX.Loc) (F:Nat->Prop),lH c s vl->vl.length=i->iW w ρ F 2 5 (kR c s vl) (rH c s n)->
 Calls Tryz.prog f (SV.d_ ρ [.lp 0 0 0 0,.agg (jM n),ak i]).toArray w (ou w ρ F c s vl (cz c n i s.pl vl))
end Go.Proofs.YtgndjjdeopfdkaaGreat

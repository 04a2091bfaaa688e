import Derived.DeepKeys
import Derived.Test.YtgndjjdeopfdkaaGreatKLowerSame11d
/- texts QT WE of the proof of LowerSameSaid -/
set_option maxHeartbeats 16000000
set_option maxRecDepth 20000
set_option linter.unusedVariables false
set_option linter.unusedSimpArgs false
namespace Go.Proofs.YtgndjjdeopfdkaaGreat
open Go.SX Go.RowKit
section
variable {ins:List (List Int)} {s:dL}
theorem akt{n:Nat}(h:Bv n s){x:Int}{sl data a:List Int}(hsl:Sl n sl)(hx:kR ins s x (bU n sl λe=>a.getD e 0)):
 nX n ins s (rM n s x data sl).1 (rM n s x data sl).2 (bU n sl λe=>iF data (a.getD e 0)):=by
 rw[Z9]
 have sp:∀f:Nat->Int,(bU n sl f).length=n:=dA n sl
 have g1:∃f:Nat->Int,(∀e,f e=data.getD 2 0*a.getD e 0*a.getD e 0)/\Bv n (pw1 n s x (data.getD 2 0) sl).1/\oM s (pw1 n s x (data.getD 2 0) sl).1/\Jd n ins (pw1 n s x (data.getD 2 0) sl).1 (pw1 n s x (data.getD 2 0) sl).2 λj=>(bU n sl f).getD j 0:=by
  refine⟨λe=>data.getD 2 0*a.getD e 0*a.getD e 0,λ_=>rfl,?_⟩
  unfold pw1
  by_cases h0:data.getD 2 0=0
  ·rw[if_pos h0]
   refine⟨h,oM.refl s,λj _=> ?_⟩
   show(bU n sl λe=>data.getD 2 0*a.getD e 0*a.getD e 0).getD j 0=0
   rw[gG hsl (g:=λ_=>0) (λe _=>by rw[h0,Int.zero_mul,Int.zero_mul]),<-V9 hsl,oL]
  ·rw[if_neg h0]
   have q:=amU h hx hx
   rw[zq hsl]at q
   by_cases h1:data.getD 2 0=1
   ·rw[if_pos h1]
    exact⟨q.ok,q.ext,_,q.val.eq (gG hsl (g:=λe=>data.getD 2 0*a.getD e 0*a.getD e 0) λe _=>by rw[h1,Int.one_mul]),sp _,λj _=>rfl⟩
   ·rw[if_neg h1]
    have r:=XY q.ok q.val (sp λ_=>data.getD 2 0)
    rw[zq hsl]at r
    exact⟨r.ok,q.ext.trans r.ext,_,r.val.eq (gG hsl (g:=λe=>data.getD 2 0*a.getD e 0*a.getD e 0) λe _=>by rw[Int.mul_comm _ (data.getD 2 0),Int.mul_assoc]),sp _,λj _=>rfl⟩
 obtain⟨f1,e1,k1,k2,k3⟩:=g1
 generalize pw1 n s x (data.getD 2 0) sl=y at k1 k2 k3
 have g2:∃f:Nat->Int,(∀e,f e=data.getD 2 0*a.getD e 0*a.getD e 0+data.getD 1 0*a.getD e 0)/\Bv n (pw2 n y x (data.getD 1 0) sl).1/\oM s (pw2 n y x (data.getD 1 0) sl).1/\Jd n ins (pw2 n y x (data.getD 1 0) sl).1 (pw2 n y x (data.getD 1 0) sl).2 λj=>(bU n sl f).getD j 0:=by
  have hxy:=hx.mono h k2
  have add:∀{u:dL} {m:Option Int} {v:Int},Bv n u->oM s u->Jd n ins u m (λj=>(bU n sl f1).getD j 0)->kR ins u v (bU n sl λe=>data.getD 1 0*a.getD e 0)->∃f:Nat->Int,(∀e,f e=data.getD 2 0*a.getD e 0*a.getD e 0+data.getD 1 0*a.getD e 0)/\Bv n (iU u m v).1/\oM s (iU u m v).1/\Jd n ins (iU u m v).1 (some (iU u m v).2) λj=>(bU n sl f).getD j 0:=λ{u m v} h1 h2 h3 h4=>by
   obtain⟨a1,a2,a3⟩:=aj0 h1 h3 h4 (sp _)
   refine⟨λe=>f1 e+data.getD 1 0*a.getD e 0,λe=>by show f1 e+_=_;rw[e1],a1,h2.trans a2,a3.congr λj _=> ?_⟩
   show(bU n sl f1).getD j 0+(bU n sl λe=>data.getD 1 0*a.getD e 0).getD j 0=(bU n sl λe=>f1 e+data.getD 1 0*a.getD e 0).getD j 0
   rw[<-Mm (by rw[sp,sp]),zz hsl]
  unfold pw2
  by_cases h0:data.getD 1 0=0
  ·rw[if_pos h0]
   exact⟨f1,λe=>by rw[e1,h0,Int.zero_mul,Int.add_zero],k1,k2,k3⟩
  ·rw[if_neg h0]
   by_cases h1:data.getD 1 0=1
   ·rw[if_pos h1]
    exact add k1 k2 k3 (hxy.eq (gG hsl λe _=>by rw[h1,Int.one_mul]))
   ·rw[if_neg h1]
    have r:=XY k1 hxy (sp λ_=>data.getD 1 0)
    rw[zq hsl]at r
    exact add r.ok (k2.trans r.ext) (k3.mono k1 r.ext) (r.val.eq (gG hsl λe _=>Int.mul_comm _ _))
 clear k3
 obtain⟨f2,e2,m1,m2,m3⟩:=g2
 generalize pw2 n y x (data.getD 1 0) sl=u at m1 m2 m3
 have g3:nX n ins s (pw3 n u x).1 (pw3 n u x).2 (bU n sl f2):=by
  unfold pw3
  obtain⟨us,um⟩:=u
  cases um with
  |none=>
   have z:=aiJ m1 (hx.mono h m2) (sp _)
   refine⟨z.ok,m2.trans z.ext,z.val.eq (TT (by rw[List.length_replicate,sp]) λj hj=> ?_)⟩
   rw[List.length_replicate]at hj
   rw[oL];exact(m3 j hj).symm
  |some b=>
   obtain⟨q,q1,q2,q3⟩:=m3
   exact⟨m1,m2,q1.eq (TT (by rw[q2,sp]) λj hj=>q3 j aa)⟩
 clear m3
 unfold pw4
 by_cases h0:data.getD 0 0=0
 ·rw[if_pos h0]
  refine g3.eq (gG hsl λe _=> ?_)
  unfold iF;rw[e2,h0,Int.add_zero]
 ·rw[if_neg h0]
  have r:=ajf g3.ok g3.val (sp λ_=>data.getD 0 0)
  rw[zz hsl]at r
  refine⟨r.ok,g3.ext.trans r.ext,r.val.eq (gG hsl λe _=> ?_)⟩
  unfold iF;rw[e2]
theorem P6{n:ak}{sh:List (List Int)}{s:List Int}(h:bP n sh=some s)(hk:n.ai=6\/n.ai=7\/n.ai=8):sh.getD n.a.toNat []=s/\(n.ai=6->sh.getD n.b.toNat []=s):=by
 unfold bP at h
 rw[if_neg aa,if_neg aa,if_neg aa,if_neg aa]at h
 by_cases h6:n.ai=6
 ·rw[if_pos h6]at h
  split at h
  ·rename_i he
   injection h with h
   exact⟨h,λ_=>by rw[<-he,h]⟩
  ·cases h
 ·rw[if_neg h6,if_neg aa]at h
  injection h with h
  exact⟨h,λh=>absurd h h6⟩
theorem tY{n:ak}{cnt:Nat}{t a b:List Int}(h:¬eF n){e:Nat}(he:e<cnt):(gH n cnt t a b).getD e 0=gu n a b e:=by
 rw[KP h,List.getD_eq_getElem?_getD,List.getElem?_map,List.getElem?_range he];rfl
variable {i:Nat}
theorem FY{α:Type}{l:List α}{d:α}{k:Nat}(h:k<i):(l.take i).getD k d=l.getD k d:=by
 rw[List.getD_eq_getElem?_getD,List.getD_eq_getElem?_getD,List.getElem?_take,if_pos h]
structure Tu(c:fT)(aV:Int)(g:bM):Prop where
 aA:1<=c.aA/\c.aA<=4096
 shapes:c.shapes.l.map ax.xs=(check g).2
 di:c.di.l.map ax.xs=(check g).2.map (λx=>(gM x aV c.aA).1)
 good:∀x∈(check g).2,(gM x aV c.aA).2=0
variable {c:fT} {aV:Int} {g:bM}
theorem Tu.at_(hck:(check g).1=0)(h:Tu c aV g)(hi:i<g.l.length):∃(t u:ax),c.shapes.l.getD i cK=t/\c.di.l.getD i cK=u/\(check g).2.getD i []=t.xs/\(check g).2[i]? =some t.xs/\u.xs=(gM t.xs aV c.aA).1/\lG u.xs c.aA=true/\u.xs.length=(au t.xs).toNat/\0<au t.xs:=by
 obtain⟨_,_,_,hcl,_⟩:=gK hck
 have l1:c.shapes.l.length=g.l.length:=by have:=congrArg List.length h.shapes;rw[List.length_map]at this;rw[this,hcl]
 have l2:c.di.l.length=g.l.length:=by have:=congrArg List.length h.di;rw[List.length_map,List.length_map]at this;rw[this,hcl]
 have i1:i<c.shapes.l.length:=by omega
 have i2:i<c.di.l.length:=by omega
 have e1:=congrArg (λl:List (List Int)=>l[i]?) h.shapes
 have e2:=congrArg (λl:List (List Int)=>l[i]?) h.di
 simp only[List.getElem?_map,List.getElem?_eq_getElem i1,List.getElem?_eq_getElem i2,Option.map_some]at e1 e2
 rw[<-e1]at e2
 have e3:c.di.l[i].xs=(gM c.shapes.l[i].xs aV c.aA).1:=by simpa using e2
 have hm:c.shapes.l[i].xs∈(check g).2:=List.mem_of_getElem? e1.symm
 obtain⟨p1,p2,p3⟩:=Es (h.good _ hm)
 refine⟨c.shapes.l[i],c.di.l[i],by rw[List.getD_eq_getElem?_getD,List.getElem?_eq_getElem i1];rfl,by rw[List.getD_eq_getElem?_getD,List.getElem?_eq_getElem i2];rfl,by rw[List.getD_eq_getElem?_getD,<-e1];rfl,e1.symm,e3,by rw[e3];exact p1,by rw[e3];exact p2,p3⟩
theorem aaZ(hck:(check g).1=0){n:ak}(hi:g.l[i]? =some n):i<g.l.length/\Ac n i/\∃s,(check g).2[i]? =some s/\jb n ((check g).2.take i) s:=by
 obtain⟨_,_,_,hcl,hin⟩:=gK hck
 have hl:=(List.getElem?_eq_some_iff.1 hi).1
 obtain⟨s,h1,h2⟩:=hin i n hi
 have e:((check g).2.take i).length=i:=by rw[List.length_take,hcl];omega
 exact⟨hl,by have:=dJ h2.form;rwa[e]at this,s,h1,h2⟩
theorem ale(hck:(check g).1=0)(h:Tu c aV g){n:ak}(hn:g.l[i]? =some n)(hk1:n.ai≠1){vl:List Int}{known:List (List Int)}(hok:Bv c.aA s)(hkl:known.length=i)
 (hval:∀j,j<i->kR ins s (vl.getD j 0) (bU c.aA (c.di.l.getD j cK).xs λe=>(known.getD j []).getD e 0)):
 nX c.aA ins s (d_ c n i s vl).1 (d_ c n i s vl).2 (bU c.aA (c.di.l.getD i cK).xs λe=>(gy (check g).2 n known).getD e 0):=by
 obtain⟨hl,hF,sI,hsI,hin⟩:=aaZ hck hn
 obtain⟨t2,to,_,eto,gt2,akJ,eu2,tp,tl,te⟩:=h.at_ hck hl
 have es:sI=t2.xs:=by rw[hsI]at akJ;simpa using akJ
 have hcnt:(au ((check g).2.getD known.length [])).toNat=to.xs.length:=by rw[hkl,gt2,tl]
 have hsl:Sl c.aA to.xs:=aaV tp
 have acA:gy (check g).2 n known=gH n to.xs.length ((check g).2.getD n.a.toNat []) (known.getD n.a.toNat []) (known.getD n.b.toNat []):=by unfold gy;rw[hcnt]
 rw[acA,eto]
 have hkind:=hF.ai
 unfold d_
 rw[if_neg hk1,eto]
 by_cases k2:n.ai=2
 ·rw[if_pos k2]
  refine(ahD hok (dA _ _ _)).eq (gG hsl λe he=> ?_)
  rw[tY jF he]
  unfold gu;rw[if_pos k2]
 rw[if_neg k2]
 obtain⟨ha0,hai⟩:=hF.a hk1 k2
 have hat:n.a.toNat<i:=by omega
 obtain⟨t,fr,et,efr,gt_,_,eu,fp,fl,fe⟩:=h.at_ hck (i:=n.a.toNat) aa
 have va:=hval n.a.toNat hat
 rw[efr]at va
 have same:(n.ai=6\/n.ai=7\/n.ai=8)->fr.xs=to.xs:=λhk=>by
  have:=(P6 hin.az hk).1
  rw[FY hat,gt_,es]at this
  rw[eu,eu2,this]
 by_cases k6:n.ai=6
 ·rw[if_pos k6]
  have hb:=hF.b k6
  have hbt:n.b.toNat<i:=by omega
  obtain⟨tb,fb,_,efb,gtb,_,eub,_⟩:=h.at_ hck (i:=n.b.toNat) aa
  have vb:=hval n.b.toNat hbt
  have eb:fb.xs=to.xs:=by
   have:=(P6 hin.az (.inl k6)).2 k6
   rw[FY hbt,gtb,es]at this
   rw[eub,eu2,this]
  rw[efb,eb]at vb
  rw[same (.inl k6)]at va
  have k:=akA hok va vb
  rw[zz hsl]at k
  refine k.eq (gG hsl λe he=> ?_)
  rw[tY jF he]
  unfold gu;rw[if_neg k2,if_pos k6]
 rw[if_neg k6]
 by_cases k7:n.ai=7
 ·rw[if_pos k7]
  rw[same (.inr (.inl k7))]at va
  have k:=XY hok va (dA c.aA to.xs λ_=>n.data.xs.getD 0 0)
  rw[zq hsl]at k
  refine k.eq (gG hsl λe he=> ?_)
  rw[tY jF he]
  unfold gu;rw[if_neg k2,if_neg k6,if_pos k7]
 rw[if_neg k7]
 by_cases k8:n.ai=8
 ·rw[if_pos k8]
  rw[same (.inr (.inr k8))]at va
  refine(akt hok hsl va).eq (gG hsl λe he=> ?_)
  rw[tY jF he]
  unfold gu;rw[if_neg k2,if_neg k6,if_neg k7,if_pos k8]
 rw[if_neg k8,efr]
 by_cases k9:n.ai=9/\fr.xs=to.xs
 ·rw[if_pos k9]
  rw[k9.2]at va
  refine⟨hok,oM.refl s,va.eq (gG hsl λe he=> ?_)⟩
  have k91:=k9.1
  rw[tY jF he]
  unfold gu;rw[if_neg k2,if_neg k6,if_neg k7,if_neg k8]
 rw[if_neg k9,et]
 have hk:eF n\/n.ai=9:=by unfold eF;omega
 have eta:((check g).2.take i).getD n.a.toNat []=t.xs:=by rw[FY hat,gt_]
 obtain⟨rok,hc2⟩:=rows_ok hk hin.form eta hin.az hin.near fe
 have hcr:zw (n0 n) t=to.xs.length:=by
  show(au ((zB (at0 n) t).2.getD 1 [])).toNat=_
  rw[hc2]
  show(au sI).toNat=_
  rw[es,tl]
 have hr:(pu (n0 n) t).1=(yu n t.xs to.xs.length,(List.range to.xs.length).map (dV n to.xs.length)):=by
  have:pu (n0 n) t=((yu (n0 n) t.xs (zw (n0 n) t),(List.range (zw (n0 n) t)).map (dV (n0 n) (zw (n0 n) t))),0):=by unfold pu;exact if_pos rok
  rw[this,hcr];rfl
 obtain⟨_,_,cnt,hcn,hp⟩:=yl hck hn
 have amR:cnt=to.xs.length:=by
  rw[gt2]at hcn
  omega
 rw[gt_]at hp
 subst amR
 have h9:n.ai=9->(au t.xs).toNat=to.xs.length:=λk=>by
  have hnl:¬eF n:=by unfold eF;omega
  have:=(Oa hin.az hnl aa hk1).2.1 aa
  rw[eta,es]at this
  rw[this,tl]
 have akm:=h.aA
 rw[hr]
 refine(afs aa akm.2 c.giant hok (aaV fp) hsl va (v:=gH n to.xs.length ((check g).2.getD n.a.toNat []) (known.getD n.a.toNat []) (known.getD n.b.toNat [])) (by simp[yu]) (λr hr=> ?_) aI (λo ho=> ?_)).eq rfl
 ·obtain⟨o,_,rfl⟩:=List.mem_map.1 hr
  unfold Bu
  rw[List.length_map,List.length_range,fl]
 ·have e1:((List.range to.xs.length).map (dV n to.xs.length)).getD o 0=dV n to.xs.length o:=by rw[List.getD_eq_getElem?_getD,List.getElem?_map,List.getElem?_range ho];rfl
  have e2:(yu n t.xs to.xs.length).getD o []=Bu n t.xs o:=by unfold yu;rw[List.getD_eq_getElem?_getD,List.getElem?_map,List.getElem?_range ho];rfl
  rw[e1,e2,gt_]
  exact aeL hp hk h9 _ _ ho
end
def xh(n:Nat):List BZ->List (List Int)->List (List Int)
 |x::a,v::b=>(bU n x.aA λe=>v.getD e 0)::xh n a b
 |_,_=>[]
theorem ab9(n:Nat)(x:BZ)(v:List Int)(B:List BZ)(D:List (List Int)):∀(A:List BZ) (C:List (List Int)),A.length=C.length->(xh n (A++x::B) (C++v::D)).getD A.length []=bU n x.aA λe=>v.getD e 0
 |[],[],_=>rfl
 |[],_::_,h=>by simp at h
 |_::_,[],h=>by simp at h
 |a::A,c::C,h=>ab9 n x v B D A C wU
def Fh:List BZ->List (List Int)->Prop
 |[],[]=>True
 |x::a,v::b=>v.length=x.aA.length/\Fh a b
 |_,_=>False
theorem Fh.snoc{x:BZ}{v:List Int}(h1:v.length=x.aA.length):∀{a:List BZ} {b:List (List Int)},Fh a b->Fh (a++[x]) (b++[v])
 |[],[],_=>⟨h1,trivial⟩
 |_::_,_::_,h=>⟨h.1,h.2.snoc h1⟩
theorem Fh.len:∀{a:List BZ} {b:List (List Int)},Fh a b->a.length=b.length
 |[],[],_=>rfl
 |_::_,_::_,h=>by rw[List.length_cons,List.length_cons,h.2.len]
theorem aks{n:Nat}{ins:List (List Int)}{s:dL}(h:Bv n s){lo hi:Int}{sl q:List Int}(hsl:Sl n sl)(hq:ins.getD s.inputs.length []=q):
 Bv n (kN s lo hi sl).1/\(∃c,(kN s lo hi sl).1.code=s.code++c)/\(kN s lo hi sl).1.aF=s.aF/\(kN s lo hi sl).1.inputs=s.inputs++[⟨lo,hi,sl⟩]/\kR ins (kN s lo hi sl).1 (kN s lo hi sl).2 q:=by
 have h':Bv n ⟨s.inputs++[⟨lo,hi,sl⟩],s.aF,s.code⟩:=⟨λi x hx=>(h.form i x hx).mono (Nat.le_refl _) aI,h.aF,λx hx=>by
  rcases List.mem_append.1 hx with hx|hx
  ·exact h.inputs x hx
  ·rw[List.mem_singleton.1 hx];exact⟨hsl.bd,hsl.nodup⟩⟩
 have k:=aaP (ins:=ins) h' (op:=1) (a:=0) (b:=0) (k:=s.inputs.length) ⟨rfl,.inl (.inl ⟨rfl,rfl,rfl,Int.natCast_nonneg _,by show(s.inputs.length:Int)<((s.inputs++[_]).length:Nat);rw[List.length_append,List.length_singleton];omega⟩)⟩
 exact⟨k.ok,k.ext.code,rfl,rfl,k.val.eq hq⟩
theorem iP(s:dL)(r:List Int):(dF s r).1.inputs=s.inputs:=by
 unfold dF;split<;>rfl
theorem abt(s:dL)(op a b k:Int):(bI s op a b k).1.inputs=s.inputs:=rfl
theorem L_(s:dL)(m:Option Int)(v:Int):(iU s m v).1.inputs=s.inputs:=by cases m<;>rfl
theorem aeP(s:dL)(t:Int->Option Int)(x:Int)(i:Nat):(rY s t x i).1.inputs=s.inputs:=by unfold rY;split<;>rfl
theorem adR(n base:Nat)(x:Int)(y:oZ)(i:Nat)(d:List Int):(uX n base x y i d).s.inputs=y.s.inputs:=by
 unfold uX
 split
 ·rfl
 ·dsimp only
  rw[L_,abt,iP,aeP]
theorem Ou(n base:Nat)(x:Int):∀(l:List (List Int)) (i:Nat) (y:oZ),(sN n base x l i y).s.inputs=y.s.inputs
 |[],_,_=>rfl
 |d::l,i,y=>by
  show(sN n base x l (i+1) _).s.inputs=_
  rw[Ou n base x l,adR]
theorem adC(n base:Nat)(x:Int)(y:oZ)(l:List (List Int)):(sV n base x y l).s.inputs=y.s.inputs:=by
 have h:=Ou n base x l 0 ⟨y.s,y.t,none⟩
 unfold sV
 dsimp only at h|-
 split
 ·exact h
 ·dsimp only
  rw[L_]
  split<;>exact h
theorem Ni(n g:Nat)(x:Int)(all:List (List Int)):∀(f base:Nat) (y:oZ),(p8 n g x all f base y).s.inputs=y.s.inputs
 |0,_,_=>rfl
 |f+1,base,y=>by
  unfold p8
  split
  ·rw[Ni n g x all f,adC]
  ·rfl
theorem Yj(n:Nat)(s:dL)(x:Int):(vB n s x).1.inputs=s.inputs:=iP _ _
theorem XO(n:Nat)(b:Bool)(s:dL)(x:Int)(all:List (List Int)):(nG n b s x all).1.inputs=s.inputs:=by
 have h:=Ni n (tT b n) x all n 0 ⟨s,qY x,none⟩
 unfold nG
 dsimp only at h|-
 split
 ·rw[Yj];exact h
 ·exact h
theorem ad1(n:Nat)(s:dL)(x:Int)(data sl:List Int):(rM n s x data sl).1.inputs=s.inputs:=by
 rw[Z9]
 have h1:(pw1 n s x (data.getD 2 0) sl).1.inputs=s.inputs:=by
  unfold pw1
  split
  ·rfl
  ·split
   ·rfl
   ·exact iP _ _
 generalize pw1 n s x (data.getD 2 0) sl=y at h1
 have h2:(pw2 n y x (data.getD 1 0) sl).1.inputs=s.inputs:=by
  unfold pw2
  split
  ·exact h1
  ·split
   ·dsimp only;rw[L_];exact h1
   ·dsimp only;rw[L_,abt];exact(iP _ _).trans h1
 generalize pw2 n y x (data.getD 1 0) sl=u at h2
 have h3:(pw3 n u x).1.inputs=s.inputs:=by
  unfold pw3
  split
  ·rw[Yj];exact h2
  ·exact h2
 unfold pw4
 split
 ·exact h3
 ·exact(iP _ _).trans h3
theorem aeC(c:fT)(n:ak)(i:Nat)(s:dL)(vl:List Int):∃a,(d_ c n i s vl).1.inputs=s.inputs++a:=by
 have nil:∀{t:dL},t.inputs=s.inputs->∃a,t.inputs=s.inputs++a:=λh=>⟨[],by rw[h,List.append_nil]⟩
 unfold d_
 split
 ·exact⟨_,rfl⟩
 split
 ·exact nil (iP _ _)
 split
 ·exact nil rfl
 split
 ·exact nil (iP _ _)
 split
 ·exact nil (ad1 _ _ _ _ _)
 split
 ·exact nil rfl
 ·refine nil ?_
  unfold ku
  dsimp only
  split
  ·exact(iP _ _).trans (XO _ _ _ _ _)
  ·exact XO _ _ _ _ _
theorem Ao(c:fT):∀(r:List ak) (i:Nat) (s:dL) (vl:List Int) {q:dL×List Int},gU c r i s vl=some q->∃a,q.1.inputs=s.inputs++a
 |[],i,s,vl,q,h=>by
  have h:(s,vl)=q:=by simpa[gU]using h
  subst h
  exact⟨[],by simp⟩
 |n::r,i,s,vl,q,h=>by
  unfold gU at h
  split at h
  ·cases h
  ·obtain⟨a,ha⟩:=Ao c r (i+1) _ _ h
   obtain⟨b,hb⟩:=aeC c n i s vl
   exact⟨b++a,by rw[ha,hb,List.append_assoc]⟩
theorem Jo{c:fT}{aV:Int}{g:bM}(hck:(check g).1=0)(h:Tu c aV g){ins inp:List (List Int)}{q:dL×List Int}(hins:ins=xh c.aA q.1.inputs inp){vals:List (List Int)}:∀(r:List ak) (i:Nat) (s:dL) (vl:List Int) (known done rest:List (List Int)),r=g.l.drop i->gU c r i s vl=some q->(∃a,q.1.inputs=s.inputs++a)->d9 (check g).2 r known rest=(0,vals)->inp=done++rest->Fh s.inputs done->Bv c.aA s->vl.length=i->known.length=i->s.code.length<=2048->
 (∀j,j<i->kR ins s (vl.getD j 0) (bU c.aA (c.di.l.getD j cK).xs λe=>(known.getD j []).getD e 0))->
 Bv c.aA q.1/\Fh q.1.inputs inp/\q.1.code.length<=2048/\∀j,j<i+r.length->kR ins q.1 (q.2.getD j 0) (bU c.aA (c.di.l.getD j cK).xs λe=>(vals.getD j []).getD e 0)
 |[],i,s,vl,known,done,rest,_,hq,_,hv,ad3,hm,hok,_,_,hcl,hval=>by
  have hq:(s,vl)=q:=by simpa[gU]using hq
  subst hq
  unfold d9 at hv
  split at hv
  ·simp at hv
  ·rename_i hr
   obtain rfl:known=vals:=(Prod.mk.inj hv).2
   obtain rfl:rest=[]:=List.length_eq_zero_iff.1 aa
   rw[List.append_nil]at ad3
   subst ad3
   exact⟨hok,hm,hcl,hval⟩
 |n::r,i,s,vl,known,done,rest,hr,hq,hpre,hv,ad3,hm,hok,hvl,hkl,hcl,hval=>by
  have hn:g.l[i]? =some n:=by
   have:(g.l.drop i)[0]? =some n:=by rw[<-hr];rfl
   rwa[List.getElem?_drop,Nat.add_zero]at this
  have hr':r=g.l.drop (i+1):=by
   rw[<-List.drop_drop,<-hr];rfl
  unfold gU at hq
  split at hq
  ·cases hq
  rename_i hbig
  by_cases hk:n.ai=1
  ·unfold d9 at hv
   rw[if_neg (λh=>h hk)]at hv
   cases rest with
   |nil=>simp at hv
   |cons x xs=>
    dsimp only at hv
    split at hv
    ·simp at hv
    rename_i hx
    obtain⟨hl,_⟩:=aaZ hck hn
    obtain⟨t,u,_,eu,gt_,_,_,tp,tl,te⟩:=h.at_ hck hl
    have hxl:x.length=u.xs.length:=by
     have:¬((x.length:Int)≠au ((check g).2.getD known.length [])):=λh=>hx (.inl h)
     rw[hkl,gt_]at this
     omega
    have hN:d_ c n i s vl=kN s n.lo n.hi u.xs:=by unfold d_;rw[if_pos hk,eu]
    rw[hN]at hq hbig
    have ai2:∃a,q.1.inputs=(s.inputs++[(⟨n.lo,n.hi,u.xs⟩:BZ)])++a:=Ao c r (i+1) _ _ hq
    have hin:ins.getD s.inputs.length []=bU c.aA u.xs λe=>x.getD e 0:=by
     obtain⟨a,ha⟩:=ai2
     rw[hins,ha,ad3,List.append_assoc]
     exact ab9 c.aA ⟨n.lo,n.hi,u.xs⟩ x a xs s.inputs done hm.len
    obtain⟨k1,k2,k3,k4,k5⟩:=aks (lo:=n.lo) (hi:=n.hi) hok (aaV tp) hin
    have res:=Jo hck h hins r (i+1) _ _ (known++[x]) (done++[x]) xs hr' hq (by rw[k4];exact ai2) hv (by rw[ad3,List.append_assoc];rfl) (by rw[k4];exact hm.snoc hxl) k1 M3 Pd aa (λj hj=>by
     by_cases e:j=i
     ·subst e
      rw[Dp hvl.symm,Dp hkl.symm,eu];exact k5
     ·rw[DD (l:=vl) aa,DD (l:=known) aa]
      exact(hval j aa).aiE hok k2 ⟨[],by rw[k3,List.append_nil]⟩)
    exact⟨res.1,res.2.1,res.2.2.1,λj hj=>res.2.2.2 j (by rw[List.length_cons]at hj;omega)⟩
  ·unfold d9 at hv
   rw[if_pos hk]at hv
   have k:=ale hck h hn hk hok hkl hval
   have res:=Jo hck h hins r (i+1) _ _ (known++[gy (check g).2 n known]) done rest hr' hq (Ao c r (i+1) _ _ hq) hv ad3 (by rw[k.ext.inputs];exact hm) k.ok M3 Pd aa (λj hj=>by
    by_cases e:j=i
    ·subst e
     rw[Dp hvl.symm,Dp hkl.symm];exact k.val
    ·rw[DD (l:=vl) aa,DD (l:=known) aa]
     exact(hval j aa).mono hok k.ext)
   exact⟨res.1,res.2.1,res.2.2.1,λj hj=>res.2.2.2 j (by rw[List.length_cons]at hj;omega)⟩
structure J9(n:Nat)(p:yx)(inp:List (List Int))(sl v:List Int):Prop where
 aA:p.aA=n
 ok:Bv n p.low
 mat:Fh p.low.inputs inp
 few:p.low.code.length<=2048
 out:p.out=sl
 places:Sl n sl
 len:v.length=sl.length
 val:kR (xh n p.low.inputs inp) p.low p.last (bU n sl λe=>v.getD e 0)
theorem ahQ{c:fT}{aV:Int}{g:bM}(hck:(check g).1=0)(h:Tu c aV g){inp vals:List (List Int)}(hv:d9 (check g).2 g.l [] inp=(0,vals))(hvl:((vals.getD g.out.toNat []).length:Int)=au ((check g).2.getD g.out.toNat []))(hr:(uW c g).2=0):
 J9 c.aA (uW c g).1 inp (c.di.l.getD g.out.toNat cK).xs (vals.getD g.out.toNat []):=by
 obtain⟨_,_,⟨ho,ho1⟩,_,_⟩:=gK hck
 unfold uW at hr|-
 cases e:gU c g.l 0 ⟨[],[],[]⟩ []with
 |none=>rw[e]at hr;cases hr
 |some q=>
  have res:=Jo hck h (q:=q) (inp:=inp) rfl g.l 0 ⟨[],[],[]⟩ [] [] [] inp rfl e ⟨q.1.inputs,rfl⟩ hv rfl trivial ⟨λi x hx=>(by cases hx),λp hp=>(by cases hp),λx hx=>(by cases hx)⟩ rfl rfl (Nat.zero_le _) (λj hj=>absurd hj (Nat.not_lt_zero _))
  obtain⟨t,u,_,eu,gt_,_,_,tp,tl,te⟩:=h.at_ hck (i:=g.out.toNat) aa
  exact⟨rfl,res.1,res.2.1,res.2.2.1,rfl,by rw[eu];exact aaV tp,by rw[eu,tl];rw[gt_]at hvl;omega,res.2.2.2 g.out.toNat aa⟩
end Go.Proofs.YtgndjjdeopfdkaaGreat

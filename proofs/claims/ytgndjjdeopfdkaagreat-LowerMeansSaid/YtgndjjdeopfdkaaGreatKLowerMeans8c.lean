import Derived.Test.YtgndjjdeopfdkaaGreatKLowerMeans8b
/- texts LP MG of the proof of LowerMeansSaid -/
set_option maxHeartbeats 16000000
set_option maxRecDepth 20000
set_option linter.unusedVariables false
set_option linter.unusedSimpArgs false
namespace Go.Proofs.YtgndjjdeopfdkaaGreat
open Go.RowKit Go.SX
def pO(g:Nat->Int->Int):Nat->List Int->Int
 |_,[]=>0
 |i,w::r=>g i w+pO g (i+1) r
def Q7(g:Nat->Int->Int):List Sp->Int
 |[]=>0
 |t::r=>g t.2.toNat t.1+Q7 g r
def Br(r:List Int)(t:Sp):List Int:=r.set t.2.toNat t.1
theorem CU(g:Nat->Int->Int):∀(a b:List Int) (i:Nat),pO g i (a++b)=pO g i a+pO g (i+a.length) b
 |[],b,i=>by simp[pO]
 |x::r,b,i=>by
  rw[amJ,pO,pO,CU g r b (i+1),ahN,show i+1+r.length=i+(r.length+1) by omega];omega
theorem aoQ(g:Nat->Int->Int){l:List Int}{j:Nat}(h:j<l.length):pO g 0 (l.take (j+1))=pO g 0 (l.take j)+g j (l.getD j 0):=by
 rw[ajP h,CU,aek,ajY (Nat.le_of_lt h)];have:l.getD j 0=l[j]:=by rw[TR,YL h];rfl
 rw[this];simp[pO]
theorem XX(g:Nat->Int->Int){v:Int}:∀{r:List Int} {i j:Nat},j<r.length->r.getD j 0=0->g (i+j) 0=0->pO g i (r.set j v)=pO g i r+g (i+j) v
 |[],i,j,h,_,_=>by simp at h
 |x::r,i,0,_,h0,hg=>by
  have hx:x=0:=by simpa using h0
  subst hx;rw[List.set_cons_zero,pO,pO];simp only[amr]at hg|-
  omega
 |x::r,i,j+1,h,h0,hg=>by
  rw[List.set_cons_succ,pO,pO,XX g (i:=i+1) wU (by simpa using h0) (by rw[show i+1+j=i+(j+1) by omega];exact hg),show i+1+j=i+(j+1) by omega];omega
theorem Sw(g:Nat->Int->Int)(hg:∀k,g k 0=0):∀(n i:Nat),pO g i (List.replicate n 0)=0
 |0,i=>rfl
 |n+1,i=>by rw[List.replicate_succ,pO,hg,Sw g hg n (i+1)];rfl
theorem Lb(r:List Int)(t:Sp):(Br r t).length=r.length:=by simp[Br]
theorem Iy:∀(T:List Sp) (r:List Int),(T.foldl Br r).length=r.length
 |[],r=>rfl
 |t::T,r=>by rw[ahb,Iy T,Lb]
theorem Qr(g:Nat->Int->Int)(hg:∀k,g k 0=0):∀{T:List Sp} {r:List Int},(∀t∈T,(0<=t.2/\t.2<r.length)/\r.getD t.2.toNat 0=0)->T.Pairwise (λx y=>x.2≠y.2)->pO g 0 (T.foldl Br r)=pO g 0 r+Q7 g T
 |[],r,_,_=>by simp[Q7]
 |t::T,r,h,hp=>by
  obtain⟨hp1,hp2⟩:=aiN.1 hp;obtain⟨⟨h1,h2⟩,h3⟩:=h t YV;rw[ahb,Qr g hg (T:=T) (r:=Br r t) (λu hu=> ?_) hp2]
  ·have e:pO g 0 (Br r t)=pO g 0 r+g t.2.toNat t.1:=by
    have:=XX g (v:=t.1) (r:=r) (i:=0) (j:=t.2.toNat) aa h3 (hg _);rw[aiD]at this;exact this
   rw[e,Q7];omega
  ·obtain⟨g1,g2⟩:=h u (aeg _ hu);refine⟨by rw[Lb];exact g1,?_⟩;have hne:=hp1 u hu;unfold Br;rw[TR,amy aa,<-TR];exact g2
def gLo(a:Sp)(_:Nat)(w:Int):Int:=min (w*a.1) (w*a.2)
def gHi(a:Sp)(_:Nat)(w:Int):Int:=max (w*a.1) (w*a.2)
def Lm(av:List Int)(i:Nat)(w:Int):Int:=w*av.getD i 0
theorem ar8(a:Sp)(k:Nat):gLo a k 0=0:=by unfold gLo;omega
theorem arR(a:Sp)(k:Nat):gHi a k 0=0:=by unfold gHi;omega
theorem adM(av:List Int)(k:Nat):Lm av k 0=0:=by unfold Lm;omega
theorem aqx(a:Sp):∀(T:List Sp) (s:Int),T.foldl (Qt a) s=s+Q7 (gLo a) T
 |[],s=>by simp[Q7]
 |t::T,s=>by
  rw[ahb,aqx a T,Q7];have e1:Qt a s t=s+min (t.1*a.1) (t.1*a.2):=rfl;have e2:gLo a t.2.toNat t.1=min (t.1*a.1) (t.1*a.2):=rfl;omega
theorem aqG(a:Sp):∀(T:List Sp) (s:Int),T.foldl (Qu a) s=s+Q7 (gHi a) T
 |[],s=>by simp[Q7]
 |t::T,s=>by
  rw[ahb,aqG a T,Q7];have e1:Qu a s t=s+max (t.1*a.1) (t.1*a.2):=rfl;have e2:gHi a t.2.toNat t.1=max (t.1*a.1) (t.1*a.2):=rfl;omega
theorem Rq(av:List Int):∀(T:List Sp) (s:Int),T.foldl (FP av) s=s+Q7 (Lm av) T
 |[],s=>by simp[Q7]
 |t::T,s=>by
  rw[ahb,Rq av T,Q7];have e1:FP av s t=s+t.1*av.getD t.2.toNat 0:=rfl;have e2:Lm av t.2.toNat t.1=t.1*av.getD t.2.toNat 0:=rfl;omega
theorem Cw{A B x y m:Int}(hx:0<=x/\x<m)(hy:0<=y/\y<m)(h:A*m+x=B*m+y):A=B/\x=y:=by
 have hm:0<m:=by omega
 have e1:(A*m+x)/m=A:=by rw[Int.add_comm,Int.add_mul_ediv_right _ _ aa,Int.ediv_eq_zero_of_lt hx.1 hx.2];omega
 have e2:(B*m+y)/m=B:=by rw[Int.add_comm,Int.add_mul_ediv_right _ _ aa,Int.ediv_eq_zero_of_lt hy.1 hy.2];omega
 have:A=B:=by rw[<-e1,<-e2,h]
 subst this;exact⟨rfl,by omega⟩
theorem BR{i j m:Int}(_hm:0<m)(h1:i/m=j/m)(h2:i%m=j%m):i=j:=by
 have q1:=amB i m;have q2:=amB j m;rw[h1,h2]at q1;omega
theorem ae9{d:List Int}{k1 k2 k3 i1 i2 o:Int}{i j:Nat}(h2:1<=k2/\k2<=i1)(h3:1<=k3/\k3<=i2)(ho:0<=o)(h:(gY d k1 k2 k3 i1 i2 o i).2=(gY d k1 k2 k3 i1 i2 o j).2):i=j:=by
 have hW:0<i2-k3+1:=by omega
 have hH:0<i1-k2+1:=by omega
 obtain⟨d1,d2,d3,d4⟩:=jI ho hW;obtain⟨d5,d6,d7,d8⟩:=jI d1 hH;have c3:=alL (i:Int) (show k3≠0 by omega);have c4:=akS (i:Int) (show 0<k3 by omega);have e3:=alL (j:Int) (show k3≠0 by omega);have e4:=akS (j:Int) (show 0<k3 by omega);have c7:=alL ((i:Int)/k3) (show k2≠0 by omega);have c8:=akS ((i:Int)/k3) (show 0<k2 by omega);have e7:=alL ((j:Int)/k3) (show k2≠0 by omega);have e8:=akS ((j:Int)/k3) (show 0<k2 by omega);have h':((i:Int)/k3/k2*i1+o/(i2-k3+1)%(i1-k2+1)+(i:Int)/k3%k2)*i2+o%(i2-k3+1)+(i:Int)%k3=((j:Int)/k3/k2*i1+o/(i2-k3+1)%(i1-k2+1)+(j:Int)/k3%k2)*i2+o%(i2-k3+1)+(j:Int)%k3:=h;rw[akw,akw _ _ ((j:Int)%k3)]at h';obtain⟨q1,q2⟩:=Cw ⟨by omega,by omega⟩ ⟨by omega,by omega⟩ h';rw[akw,akw _ _ ((j:Int)/k3%k2)]at q1;obtain⟨q3,q4⟩:=Cw ⟨by omega,by omega⟩ ⟨by omega,by omega⟩ q1;have q5:=BR aa q3 (show(i:Int)/k3%k2=(j:Int)/k3%k2 by omega);have q6:=BR aa q5 (show(i:Int)%k3=(j:Int)%k3 by omega);omega
theorem ag3{z i1 i2 o:Int}{i j:Nat}(hz:1<=z)(h1:z<=i1)(h2:z<=i2)(m1:i1%z=0)(m2:i2%z=0)(ho:0<=o)(hi:(i:Int)<z*z)(hj:(j:Int)<z*z)(h:(iN z i1 i2 o i).2=(iN z i1 i2 o j).2):i=j:=by
 have hW:=uq (x:=i2) (y:=z) aa h2;have hH:=uq (x:=i1) (y:=z) aa h1;have q1:=amB i1 z;have q2:=amB i2 z;obtain⟨d1,d2,d3,d4⟩:=jI (x:=o) (y:=i2/z) ho aa;obtain⟨d5,d6,d7,d8⟩:=jI (x:=o/(i2/z)) (y:=i1/z) d1 aa;obtain⟨c1,c2,c3,c4⟩:=jI (x:=(i:Int)) (y:=z) aa aa;obtain⟨e1,e2,e3,e4⟩:=jI (x:=(j:Int)) (y:=z) aa aa;have hdy:(i:Int)/z<z:=an8 aa hi;have hdj:(j:Int)/z<z:=an8 aa hj;have h':(o/(i2/z)/(i1/z)*i1+o/(i2/z)%(i1/z)*z+(i:Int)/z)*i2+o%(i2/z)*z+(i:Int)%z=(o/(i2/z)/(i1/z)*i1+o/(i2/z)%(i1/z)*z+(j:Int)/z)*i2+o%(i2/z)*z+(j:Int)%z:=h;have y0:0<=o/(i2/z)%(i1/z)*z:=agJ d7 aa;have x0:0<=o%(i2/z)*z:=agJ d3 aa;have y1:o/(i2/z)%(i1/z)*z<=(i1/z-1)*z:=ahi aa aa;have x1:o%(i2/z)*z<=(i2/z-1)*z:=ahi aa aa;have y2:(i1/z-1)*z=z*(i1/z)-z:=by rw[Int.sub_mul,age,ajF]
 have x2:(i2/z-1)*z=z*(i2/z)-z:=by rw[Int.sub_mul,age,ajF]
 rw[akw,akw _ _ ((j:Int)%z)]at h';obtain⟨g1,g2⟩:=Cw ⟨by omega,by omega⟩ ⟨by omega,by omega⟩ h';have q6:=BR aa (show(i:Int)/z=(j:Int)/z by omega) (show(i:Int)%z=(j:Int)%z by omega);omega
section
def qZ(n:ak)(tl:List Int)(o:Nat):List Int:=
 if n.ai=3 then(n.data.xs.drop (o*(au tl).toNat)).take (au tl).toNat else(dZ n tl o).foldl Br (List.replicate (au tl).toNat 0)
def TW(n:ak)(tl:List Int)(cnt:Nat):List (List Int):=(List.range cnt).map (qZ n tl)
def Tx(n:ak)(cnt:Nat):List Int:=(List.range cnt).map (dV n cnt)
theorem wH{f:Nat->Sp}{m:Nat}(h:∀i j,i<m->j<m->(f i).2=(f j).2->i=j):((List.range m).map f).Pairwise (λx y=>x.2≠y.2):=by
 rw[aj3];refine List.Pairwise.imp_of_mem ?_ (List.pairwise_lt_range (n:=m));intro i j hi hj hlt e;have:=h i j (ahe.1 hi) (ahe.1 hj) e;omega
structure ajE(n:ak)(t:List Int):Prop where
 k2:1<=n.az.xs.getD 2 0/\n.az.xs.getD 2 0<=t.getD 1 0
 k3:1<=n.az.xs.getD 3 0/\n.az.xs.getD 3 0<=t.getD 2 0
variable {sh:List (List Int)} {s t:List Int} {cnt:Nat}
theorem Vf{n:ak}(h:gN n sh s t cnt)(hk:n.ai=4):ajE n t:=by
 have hsh:=h.node.az;have QW:=(dJ h.node.form).acS hk;obtain⟨hl4,acD⟩:=uu QW;have dm2:=acD _ (cu (xs:=n.az.xs) (k:=2) aa);have dm3:=acD _ (cu (xs:=n.az.xs) (k:=3) aa);unfold bP at hsh;rw[if_neg aa,if_neg aa,if_pos hk,(h.first (.inr (.inl hk))).1]at hsh;split at hsh
 ·cases hsh
 ·exact⟨by omega,by omega⟩
structure ajA(n:ak)(t:List Int):Prop where
 z:1<=n.size
 z1:n.size<=t.getD 1 0
 z2:n.size<=t.getD 2 0
 m1:t.getD 1 0%n.size=0
 m2:t.getD 2 0%n.size=0
theorem TS{n:ak}(h:gN n sh s t cnt)(hk:n.ai=5):ajA n t:=by
 have hsh:=h.node.az;have hz:=(dJ h.node.form).pool hk;obtain⟨hf,hg⟩:=h.first (.inr (.inr hk))
 unfold bP at hsh;rw[if_neg aa,if_neg aa,if_neg aa,if_pos hk,hf]at hsh;split at hsh
 ·cases hsh
 ·rename_i hbad;have YR:=(g_ hg).2.2;have td1:=YR _ (cu (xs:=t) (k:=1) aa);have td2:=YR _ (cu (xs:=t) (k:=2) aa);have m1:t.getD 1 0%n.size=0:=by omega
  have m2:t.getD 2 0%n.size=0:=by omega
  refine⟨by omega,?_,?_,m1,m2⟩
  ·rcases(by omega:t.getD 1 0<n.size\/n.size<=t.getD 1 0)with hlt|hge
   ·rw[anc aa hlt]at m1;omega
   ·exact hge
  ·rcases(by omega:t.getD 2 0<n.size\/n.size<=t.getD 2 0)with hlt|hge
   ·rw[anc aa hlt]at m2;omega
   ·exact hge
theorem afI{n:ak}(h:gN n sh s t cnt)(hl:eF n)(hk3:n.ai≠3)(o:Nat):(dZ n t o).Pairwise (λx y=>x.2≠y.2):=by
 rcases hl with hk|hk|hk
 ·exact absurd hk hk3
 ·have c:=Vf h hk;have hG:dZ n t o=CS n.data.xs (n.az.xs.getD 1 0) (n.az.xs.getD 2 0) (n.az.xs.getD 3 0) (t.getD 1 0) (t.getD 2 0) o:=by unfold dZ;rw[if_neg aa,if_pos hk]
  rw[hG];exact wH λi j _ _ e=>ae9 c.k2 c.k3 aa e
 ·have c:=TS h hk;have hG:dZ n t o=CQ n.size (t.getD 1 0) (t.getD 2 0) o:=by unfold dZ;rw[if_neg aa,if_neg aa]
  rw[hG];exact wH λi j hi hj e=>ag3 c.z c.z1 c.z2 c.m1 c.m2 aa aa aa e
theorem P8(g:Nat->Int->Int)(f:Nat->Int):∀(m i:Nat),Q7 g ((List.range' i m).map λk=>(f k,(k:Int)))=pO g i ((List.range' i m).map f)
 |0,i=>rfl
 |m+1,i=>by
  rw[List.range'_succ,afY,afY,Q7,pO,P8 g f m (i+1)];simp
theorem ah3{n:ak}(h:gN n sh s t cnt)(hl:eF n){o:Nat}(ho:o<cnt)(g:Nat->Int->Int)(hg:∀k,g k 0=0):pO g 0 (qZ n t o)=Q7 g (dZ n t o):=by
 obtain⟨F,P0,hL⟩:=gN.lin (t:=⟨none,0,t⟩) h hl;by_cases hk:n.ai=3
 ·have hG:dZ n t o=uK n o (au t).toNat:=by unfold dZ;rw[if_pos hk]
  have hR:qZ n t o=(n.data.xs.drop (o*(au t).toNat)).take (au t).toNat:=if_pos hk;rw[hG,hR];unfold uK;have hsh:=h.node.az;have hc:=h.cnt;obtain⟨hf,hgp⟩:=h.first hl
  obtain⟨b1,b2⟩:=(dJ h.node.form).aQ hk;unfold bP at hsh;rw[if_neg aa,if_pos hk,hf]at hsh;split at hsh
  ·rename_i hdl;rw[Option.some.injEq]at hsh;have he1:au [(n.aQ.xs.length:Int)]=n.aQ.xs.length:=by
    unfold au;rw[if_neg aI];simp only[dX];rw[if_neg aa];omega
   rw[<-hsh,he1]at hc;obtain⟨size,hsz⟩:∃size:Nat,au t=size:=⟨(au t).toNat,by omega⟩;have ad8:n.data.xs.length=n.aQ.xs.length*size:=by
    rw[hsz,<-akv]at hdl;exact Int.ofNat.inj hdl
   rw[hsz,ahh];have hle:o*size+size<=n.data.xs.length:=by
    have:(o+1)*size<=n.aQ.xs.length*size:=aj4 _ aa;rw[Nat.add_mul,Nat.one_mul]at this;omega
   have e:=P8 g (λi=>n.data.xs.getD (o*size+i) 0) size 0;rw[<-List.range_eq_range']at e;rw[e]
   congr 1
   apply alQ
   ·simp;omega
   ·intro i h1 h2;rw[List.getElem_take,List.getElem_drop,anm,am3,TR,YL]
    rfl
  ·cases hsh
 ·have hR:qZ n t o=(dZ n t o).foldl Br (List.replicate (au t).toNat 0):=if_neg hk;rw[hR,Qr g hg (λu hu=> ?_) (afI h hl hk o),Sw g hg]
  ·omega
  ·have:0<=u.2/\u.2<au t:=hL.at_ o ho u hu;rw[aiS];refine⟨by omega,?_⟩;rw[TR,amT];split<;>rfl
end
theorem aoC{w w':World}{v:Value}{l:List ax}{T:TypeId}(h:je w w' v 1 T (bA l)):∃base cap,v= .slice base l.length cap/\l.length<=cap/\(f_ base 1 (bA l)).holds (λb=>w.heap.size<=b/\b<w'.heap.size) w':=by
 obtain⟨base,cap,e,h1⟩:=ig h;obtain⟨lc,e2,F,hF,hr,hcap,_⟩:=h;rw[e2]at e;simp only[Value.slice.injEq]at e;obtain⟨e3,_,e4⟩:=e;refine⟨base,cap,?_,?_,h1⟩
 ·rw[e2,e3,e4,acN]
 ·rw[<-e4];simpa[acN]using hcap
structure ahA where
 rows:aY
 aQ:ax
 own:Bool
def ahA.val(x:ahA):Value:= .tuple #[x.rows.val,x.aQ.val]
def aoB(x:ahA):bR where
 holds R w:=(f_ x.rows.base 1 (bA x.rows.l)).holds R w/\(x.own=true->(∀u∈x.rows.l,(bX u).holds R w)/\(bX x.aQ).holds R w)
 stable:=λhR hw h=>⟨(f_ _ _ _).stable hR hw h.1,λe=>⟨λu hu=>(bX u).stable hR hw ((h.2 e).1 u hu),(bX _).stable hR hw (h.2 e).2⟩⟩
structure aa_(n:ak)(tl:List Int)(cnt:Nat)(x:ahA):Prop where
 rows:x.rows.l.map ax.xs=TW n tl cnt
 aQ:x.aQ.xs=Tx n cnt
 bF:∀u∈x.rows.l,u.bF
 al0:x.aQ.bF
 old:x.own=false->x.aQ=n.aQ/\∀w,n.data.ok w->∀u∈x.rows.l,u.ok w
def aog(w:World)(n:ak)(tl:List Int)(cnt:Nat)(e:Ending)(w':World):Prop:=
 ∃x,aa_ n tl cnt x/\e= .returned x.val/\Ext w w'/\(aoB x).holds (λb=>w.heap.size<=b/\b<w'.heap.size) w'
def aqX(u:ax)(a:Addr)(size o:Nat):ax:=⟨some (a.add (o*size)),u.cap-o*size,(u.xs.drop (o*size)).take size⟩
theorem arc{base:Option Addr}{a:Addr}{len cap lo hi:Nat}{z1 z2:Int}{K:SV->Prop}(hb:base=some a)(h1:z1=lo)(h2:z2=hi)(h3:lo<hi)(h4:hi<=len)(h5:len<=cap)(h:K (.c (.slice (some (a.add lo)) (hi-lo) (cap-lo)))):ny base len cap 1 (some z1) (some z2) none K:=by
 subst hb;rw[vU];refine⟨lo,hi,cap,h1,h2,rfl,by omega,by omega,by omega,λh=>bT,?_⟩;rw[if_neg aa];simpa using h
theorem aq_{w:World}{a:Addr}{xs:List (List Value)}(lo m:Nat)(h:bE w (some a) 1 xs):bE w (some (a.add lo)) 1 ((xs.drop lo).take m):=by
 rcases h with h|⟨a',ha,h⟩
 ·subst h;exact .inl aI
 ·obtain rfl:a=a':=by simpa using ha
  refine .inr ⟨_,rfl,λi r hr j v hj=> ?_⟩;rw[al2]at hr;split at hr
  ·rw[anl]at hr;have:=h (lo+i) r hr j v hj;rw[add_add,show lo+(i*1+j)=(lo+i)*1+j by omega];exact this
  ·cases hr
theorem ao8{w:World}{u:ax}{a:Addr}(size o:Nat)(hu:u.ok w)(ha:u.base=some a)(hl:o*size+size<=u.xs.length):(aqX u a size o).ok w:=by
 have hr:=hu.rows;rw[ha]at hr;refine⟨?_,λx hx=>hu.fits x (anW (ams hx)),?_,?_⟩
 ·show bE w (some (a.add (o*size))) 1 (aZ ((u.xs.drop (o*size)).take size));have e:aZ ((u.xs.drop (o*size)).take size)=((aZ u.xs).drop (o*size)).take size:=by simp[aZ,anY,List.map_take]
  rw[e];exact aq_ _ _ hr
 ·show((u.xs.drop (o*size)).take size).length<=u.cap-o*size;have:=hu.room;simp only[aek,aml];omega
 ·show((u.xs.drop (o*size)).take size).length<=_;have:=hu.few;simp only[aek,aml];omega
theorem arp{w:World}{u:ax}{a:Addr}(size o:Nat)(hu:u.ok w)(ha:u.base=some a)(hl:o*size+size<=u.xs.length):(aqX u a size o).bF:=⟨(ao8 size o hu ha hl).fits,(ao8 size o hu ha hl).room,(ao8 size o hu ha hl).few⟩
abbrev atW:DT:=(bS [0,1,2,3,4,5,6,7,8,9,10,11,12,13,14,15,16,17,18,19,20,21,22,23,24,125] .done)
abbrev atD:DT:=(bS [0,1,2,4,103,5] .done)
abbrev atw:DT:=(bS [0,1,2,3,4,5,6,7,8,9,10,11,12,13,14,15,16,17,18,19,20,21,22,23,24,25,26,27,28,29,30,31,32,33,34,35,36,37,38,39,40,41,142] .done)
theorem aqC{B:Base}{H:Heap}{S:bR}{nx i m:Nat}{w:World}{n:ak}{tl:List Int}{cnt:Nat}{us:List ax}(hb:∀R w',S.holds R w'->(aU B.w0).holds R w')(hw0:B.w0=w)(he:(i,b_.rows (bA us) 1 32)∈H)(hm:m=us.length)
 (h1:us.map ax.xs=TW n tl cnt) (h2:n.aQ.xs=Tx n cnt) (h3:∀u∈us,u.bF) (h4:n.aQ.bF) (h5:∀w,n.data.ok w->∀u∈us,u.ok w):jS B (.xg [.os i m,.c n.aQ.val]) H S nx (aog w n tl cnt):=by
 subst hw0 hm;refine dK λρ w' hw=> ?_;have hn:=fI hw hb he;rw[acN]at hn;obtain⟨base,cap,e,hc,hD⟩:=aoC hn;refine⟨⟨⟨base,cap,us⟩,n.aQ,false⟩,⟨h1,h2,h3,h4,λ_=>⟨rfl,h5⟩⟩,?_,bG hw hb,hD,λh=>by cases h⟩;show Ending.returned (.tuple #[(SV.os i us.length).rf ρ,n.aQ.val])=_;rw[e];rfl
theorem ard(w:World)(n:ak)(t:ax)(ht:t.ok w)(hno:n.ok w)(hk:n.ai=3)(size cnt:Nat)(hsz:au t.xs=size)(h1:1<=size/\size<=64)(hb:n.aQ.xs.length=cnt)(hc:1<=cnt/\cnt<=64)(hdl:n.data.xs.length=cnt*size):Calls Tryz.prog 91 #[n.p9,t.val] w (aog w n t.xs cnt):=by
 have hd:=hno.data;have hpos:size<=cnt*size:=Nat.le_mul_of_pos_left _ hc.1;obtain⟨ua,rO⟩:=hd.base aa;refine fH Tryz.func91 [.agg (vo n),.c t.val] ?_;repeat' ((conv=>whnf)<;>first|refine aoD ?_|refine bV ?_|refine ag ?_ ?_<;>intro _)
 refine Wp.loop (σ:=Nat×Nat×List ax) 2 (λ⟨o,m,us⟩=>[(2,.lp 0 0 0 0),(6,aC size),(7,.os 1 m),(33,aC cnt),(34,aC o)]) (λ⟨_,_,us⟩=>[(1,.rows (bA us) 1 32),(0,.box (vo n) 41)]) (λ_=>aU w)
  (λ⟨o,m,us⟩=>o<=cnt/\m=us.length/\us=(List.range o).map (aqX n.data ua size)) (λs=>cnt-s.1) (0,0,[]) [(1,none)] ay (λs=>⟨rfl,rfl⟩) ⟨aae _,rfl,rfl⟩ ⟨rfl,⟨rfl,?_,rfl,?_,rfl,trivial⟩,⟨rfl,aj,trivial⟩,λ_ _ h=>h⟩ ?_
 ·rw[hsz];rfl
 ·rw[hb];rfl
 rintro⟨o,m,us⟩ ⟨ho,hm,iL⟩;have hml:us.length=o:=by rw[iL];simp
 by_cases hlt:o<cnt
 ·have q1:o*size+size<=cnt*size:=by
   have:(o+1)*size<=cnt*size:=aj4 _ aa;rw[Nat.add_mul,Nat.one_mul]at this;exact this
  have q2:cnt*size<=64*64:=alN hc.2 h1.2;have e1:(o:Int)*size=((o*size:Nat):Int):=by rw[akv]
  have e2:((o:Int)+1)*size=((o*size+size:Nat):Int):=by rw[aky,age,anM,akv]
  generalize hP:o*size=P at*;have hroom:=hd.room;repeat' ((conv=>whnf)<;>first|(show ny ..;refine arc rO e1 e2 aa aa aa ?_)|(show Gn ..;(refine mg (by rw[acN,hm];exact Tw _) ?_))|(show jv ..;(refine fU aoz ?_))|refine bV ?_|refine ag ?_ ?_<;>intro _)
  all_goals(conv=>whnf)
  have hval:Value.slice (some (ua.add P)) (P+size-P) (n.data.cap-P)=(aqX n.data ua size o).val:=by
   unfold aqX ax.val;simp only[aek,aml,hP]
   congr 1
   omega
  exact⟨(o+1,m+1,us++[aqX n.data ua size o]),[(1,some 3)],⟨hlt,by rw[hm];simp,by rw[iL,ait,afn];rfl⟩,by simp only;omega,rfl,fE,⟨by
   have:=yA us (aqX n.data ua size o) (i:=3) (T:=32) (H:=[]);rw[<-hval,<-hm]at this;exact abr.2 (.inl (afe.1 this)),aj,trivial⟩,λ_ _ h=>h⟩
 ·obtain rfl:o=cnt:=by omega
  repeat' ((conv=>whnf)<;>first|refine bV ?_|refine ag ?_ ?_<;>intro _)
  all_goals(conv=>whnf)
  have hcl:∀k,k<o->k*size+size<=n.data.xs.length:=λk hk=>by
   have:(k+1)*size<=o*size:=aj4 _ aa;rw[Nat.add_mul,Nat.one_mul]at this;omega
  refine aqC (λ_ _ h=>h) rfl aj hm ?_ ?_ ?_ ⟨hno.aQ.fits,hno.aQ.room,hno.aQ.few⟩ ?_
  ·rw[iL,TW,List.map_map];refine anA λk _=> ?_;unfold qZ;rw[if_pos hk,hsz,ahh];rfl
  ·unfold Tx;apply alQ
   ·simp[hb]
   ·intro k g1 g2;rw[anm,am3];unfold dV;rw[if_pos hk,TR,YL g1];rfl
  ·intro u hu;rw[iL]at hu;obtain⟨k,hk',rfl⟩:=abl.1 hu;exact arp size k hd rO (hcl k (ahe.1 hk'))
  ·intro w' hd' u hu;rw[iL]at hu;obtain⟨k,hk',rfl⟩:=abl.1 hu;exact ao8 size k hd' rO (hcl k (ahe.1 hk'))
section
variable {A x:Int}
theorem mul_add_div{m:Int}(hx:0<=x/\x<m):(A*m+x)/m=A/\(A*m+x)%m=x:=by
 have hm:0<m:=by omega
 constructor
 ·rw[Int.add_comm,Int.add_mul_ediv_right _ _ aa,Int.ediv_eq_zero_of_lt hx.1 hx.2];omega
 ·rw[Int.add_comm,Int.add_mul_emod_self_right,anc hx.1 hx.2]
variable {c y H W o:Int}
theorem akj(ho:o=(c*H+y)*W+x)(hx:0<=x/\x<W)(hy:0<=y/\y<H):o/W/H=c/\o/W%H=y/\o%W=x:=by
 subst ho;rw[(mul_add_div hx).1,(mul_add_div hx).2,(mul_add_div hy).1,(mul_add_div hy).2];exact⟨rfl,rfl,rfl⟩
def rowP(T:List Sp)(size m:Nat):List Int:=(T.take m).foldl Br (List.replicate size 0)
theorem amw(T:List Sp)(size m:Nat):(rowP T size m).length=size:=by unfold rowP;rw[Iy,aiS]
variable {T:List Sp} {size m:Nat}
theorem apZ(h:m<T.length):rowP T size (m+1)=Br (rowP T size m) T[m]:=by
 unfold rowP;rw[ajP h,List.foldl_append];rfl
variable {k:Nat} {v:Int}
theorem aai{r:List Int}{K:List (List Value)->Prop}(hk:k<r.length)(h:K (aZ (r.set k v))):dH (aZ r) k 0 [.int .i64 v] K:=by
 refine jq _ (eO hk) kQ ?_;have e:(aZ r).set k (cB [Value.int .i64 r[k]] 0 [.int .i64 v])=aZ (r.set k v):=by
  have e2:cB [Value.int .i64 r[k]] 0 [.int .i64 v]=[Value.int .i64 v]:=rfl;rw[e2];simp[aZ,alq]
 rw[e];exact h
theorem aqa:∀(T:List Sp) (r:List Int),(∀x∈r,fJ x)->(∀t∈T,fJ t.1)->∀x∈T.foldl Br r,fJ x
 |[],r,h,_=>h
 |t::T,r,h,ht=>by
  rw[ahb];refine aqa T _ (λx hx=> ?_) (λu hu=>ht u (aeg _ hu));rcases anz hx with hx|hx
  ·exact h x hx
  ·rw[hx];exact ht t YV
theorem aq8(hT:∀t∈T,fJ t.1):∀x∈rowP T size m,fJ x:=
 aqa _ _ (λx hx=>by rw[(anB.1 hx).2];exact⟨by decide,by decide⟩) (λt ht=>hT t (ams ht))
variable {j:Nat} {S:bR}
theorem Mg{a:Addr}{xs:List Int}{K:SV->Prop}(hx:∀R w,S.holds R w->bE w (some a) 1 (aZ xs))(hj:j<xs.length)(e:xs.getD j 0=v)(h:K (aC v)):gZ (a.add (j*1)) S K:=by
 subst e;exact dP hx hj h
theorem aoH{a b B:Int}(ha:0<=a/\a<=A)(hb:0<=b/\b<=B):0<=a*b/\a*b<=A*B:=⟨agJ ha.1 hb.1,ag8 ha.2 hb.2 hb.1 aa⟩
structure Jg(n:ak)(tl:List Int)(us:List ax)(o:Nat):Prop where
 rows:us.map ax.xs=(List.range o).map (qZ n tl)
 bF:∀u∈us,u.bF
variable {tl:List Int} {us:List ax}
theorem Jg.len{n:ak}{o:Nat}(h:Jg n tl us o):us.length=o:=by
 have:=congrArg List.length h.rows;simpa using this
theorem Jg.next{n:ak}{o:Nat}{u:ax}(h:Jg n tl us o)(hu:u.bF)(hx:u.xs=qZ n tl o):Jg n tl (us++[u]) (o+1):=by
 refine⟨by rw[afn,h.rows,ait,afn,afY,aiK,afY,aiK,hx],λv hv=> ?_⟩;rcases aeh.1 hv with hv|hv
 ·exact h.bF v hv
 ·rw[afe.1 hv];exact hu
theorem ao0{B:Base}{H:Heap}{nx i m':Nat}{w:World}{n:ak}{cnt:Nat}{bs:List Int}(hb:∀R w',S.holds R w'->(aU B.w0).holds R w')(hE:∀R w',S.holds R w'->(rT B.w0.heap.size us).holds R w')(hw0:B.w0=w)(he:(i,b_.rows (bA us) 1 32)∈H)(hj:(j,b_.rows (aZ bs) 1 3)∈H)(hm:m=us.length)(hm':m'=bs.length)
 (h1:Jg n tl us cnt) (h2:bs=Tx n cnt) (h3:∀x∈bs,i64 x) (h4:bs.length<=1000000):jS B (.xg [.os i m,.os j m']) H S nx (aog w n tl cnt):=by
 subst hw0 hm hm';refine dK λρ w' hw=> ?_;have hn:=fI hw hb he;have hn2:=fI hw hb hj;rw[acN]at hn;rw[aP]at hn2;obtain⟨base,cap,e,hc,hD⟩:=aoC hn;obtain⟨u,f1,f2,f3,f4⟩:=vv hn2 h3 h4;refine⟨⟨⟨base,cap,us⟩,u,true⟩,⟨h1.rows,by rw[<-h2];exact f2,h1.bF,f3,λh=>by cases h⟩,?_,bG hw hb,hD,λ_=>⟨λv hv=>lW hw (D:=bX v) λR w' h=>hE R w' h v hv,f4⟩⟩;show Ending.returned (.tuple #[(SV.os i us.length).rf ρ,(SV.os j bs.length).rf ρ])=_;rw[e,f1];rfl
theorem asj{n:ak}{t:ax}(hk:n.ai=5)(hsz:au t.xs=size)(o:Nat)(hT:T=CQ n.size (t.xs.getD 1 0) (t.xs.getD 2 0) o)(hm:m=T.length):rowP T size m=qZ n t.xs o:=by
 subst hT hm;unfold qZ dZ rowP;rw[if_neg aa,if_neg aa,if_neg aa,aen (Tw _),hsz];rfl
theorem aqc{k m n:Int}(hm:m=(c*H+y)*W+x)(hn:n=k*H*W)(hx:0<=x/\x<W)(hy:0<=y/\y<H)(hc:c<k):m<n:=by
 have u1:(c*H+y)*W+x<(c*H+y+1)*W:=by rw[aky _ 1];omega
 have u2:c*H+y+1<=(c+1)*H:=by rw[aky];omega
 have u3:(c*H+y+1)*W<=(c+1)*H*W:=ahi u2 aa;have u4:(c+1)*H*W<=k*H*W:=ahi (ahi aa aa) aa;omega
variable {z i1 i2 i:Int}
theorem arM{j:Int}{p:Nat}(hT:T=CQ z i1 i2 m)(hWd:i2/z=W)(hHd:i1/z=H)(hmx:(m:Int)=(c*H+y)*W+x)(hx:0<=x/\x<W)(hy:0<=y/\y<H)(hp:p<T.length)(he:(p:Int)=i*z+j)(hj:0<=j/\j<z):T[p]=(1,(c*i1+y*z+i)*i2+x*z+j):=by
 subst hT;have hpos:=akj hmx hx hy;have hq:=mul_add_div (A:=i) (x:=j) (m:=z) hj;simp only[CQ,anm,am3];unfold iN;rw[hWd,hHd,hpos.1,hpos.2.1,hpos.2.2,he,hq.1,hq.2]
theorem aqp(hT:T=CQ z i1 i2 o):∀t∈T,fJ t.1:=λt ht=>by
 subst hT;obtain⟨k,_,rfl⟩:=abl.1 ht;exact⟨(show(-1048576:Int)<=1 by decide),(show(1:Int)<=1048576 by decide)⟩
theorem atJ{p:Nat}{L j:Int}(hL:L=z*z)(hp:(p:Int)=i*z+j)(hi:i<z)(hj:0<=j/\j<z):p<L:=by
 have u1:(i+1)*z<=z*z:=ahi aa aa;rw[aky,age]at u1;omega
theorem atv(hc:0<=c/\c<=64)(h1:0<=i1/\i1<=64)(hy:0<=y/\y<=64)(hz:0<=z/\z<=64)(hi:0<=i/\i<=64)(h2:0<=i2/\i2<=64)(hx:0<=x/\x<=64):(0<=c*i1/\c*i1<=4096)/\(0<=y*z/\y*z<=4096)/\(0<=(c*i1+y*z+i)*i2/\(c*i1+y*z+i)*i2<=576000)/\(0<=x*z/\x*z<=4096):=by
 have e1:=aoH (a:=c) (b:=i1) (A:=64) (B:=64) hc h1;have e2:=aoH (a:=y) (b:=z) (A:=64) (B:=64) hy hz;have e3:=aoH (a:=c*i1+y*z+i) (b:=i2) (A:=9000) (B:=64) aa h2;have e4:=aoH (a:=x) (b:=z) (A:=64) (B:=64) hx hz;omega
theorem apG(us:List ax)(base:Option Addr)(cap:Nat)(xs:List Int)(hm:m=us.length)(hk:k=xs.length){i:Nat}{T:TypeId}{H:Heap}:(i,b_.rows (bA (us++[ax.mk base cap xs])) 1 T)∈(i,b_.rows (List.take m (bA us)++[[.slice base k cap]]) 1 T)::H:=by
 subst hm hk;exact yA us _
theorem aqW(k:Nat):aZ (List.replicate k 0)=List.replicate k [Value.int .i64 0]:=by simp[aZ]
end
end Go.Proofs.YtgndjjdeopfdkaaGreat

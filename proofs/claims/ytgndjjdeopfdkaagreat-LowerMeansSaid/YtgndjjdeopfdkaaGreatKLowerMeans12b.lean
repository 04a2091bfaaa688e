import Derived.DeepKeys
import Derived.Test.YtgndjjdeopfdkaaGreatKLowerMeans12a
/- texts UK PI of the proof of LowerMeansSaid -/
set_option maxHeartbeats 16000000
set_option maxRecDepth 20000
set_option linter.unusedVariables false
set_option linter.unusedSimpArgs false
namespace Go.Proofs.YtgndjjdeopfdkaaGreat
open Go.SX Go.RowKit
def xh(n:Nat):List BZ->List (List Int)->List (List Int)
 |x::a,v::b=>(bU n x.aA λe=>v.getD e 0)::xh n a b
 |_,_=>[]
theorem ab9(n:Nat)(x:BZ)(v:List Int)(B:List BZ)(D:List (List Int)):∀(A:List BZ) (C:List (List Int)),A.length=C.length->(xh n (A++x::B) (C++v::D)).getD A.length []=bU n x.aA λe=>v.getD e 0
 |[],[],_=>rfl
 |[],_::_,h=>by simp at h
 |_::_,[],h=>by simp at h
 |a::A,c::C,h=>ab9 n x v B D A C wU
def Fh:List BZ->List (List Int)->Prop
 |[],[]=>True
 |x::a,v::b=>v.length=x.aA.length/\Fh a b
 |_,_=>False
theorem Fh.snoc{x:BZ}{v:List Int}(h1:v.length=x.aA.length):∀{a:List BZ} {b:List (List Int)},Fh a b->Fh (a++[x]) (b++[v])
 |[],[],_=>⟨h1,trivial⟩
 |_::_,_::_,h=>⟨h.1,h.2.snoc h1⟩
theorem Fh.len:∀{a:List BZ} {b:List (List Int)},Fh a b->a.length=b.length
 |[],[],_=>rfl
 |_::_,_::_,h=>by rw[ahN,ahN,h.2.len]
theorem aks{n:Nat}{ins:List (List Int)}{s:dL}(h:Bv n s){lo hi:Int}{sl q:List Int}(hsl:Sl n sl)(hq:ins.getD s.inputs.length []=q):
 Bv n (kN s lo hi sl).1/\(∃c,(kN s lo hi sl).1.code=s.code++c)/\(kN s lo hi sl).1.aF=s.aF/\(kN s lo hi sl).1.inputs=s.inputs++[⟨lo,hi,sl⟩]/\kR ins (kN s lo hi sl).1 (kN s lo hi sl).2 q:=by
 have h':Bv n ⟨s.inputs++[⟨lo,hi,sl⟩],s.aF,s.code⟩:=⟨λi x hx=>(h.form i x hx).mono (Tw _) aI,h.aF,λx hx=>by
  rcases aeh.1 hx with hx|hx
  ·exact h.inputs x hx
  ·rw[afe.1 hx];exact⟨hsl.bd,hsl.nodup⟩⟩
 have k:=aaP (ins:=ins) h' (op:=1) (a:=0) (b:=0) (k:=s.inputs.length) ⟨rfl,.inl (.inl ⟨rfl,rfl,rfl,aof _,by show(s.inputs.length:Int)<((s.inputs++[_]).length:Nat);rw[adx,ag_];omega⟩)⟩;exact⟨k.ok,k.ext.code,rfl,rfl,k.val.eq hq⟩
theorem iP(s:dL)(r:List Int):(dF s r).1.inputs=s.inputs:=by
 unfold dF;split<;>rfl
theorem abt(s:dL)(op a b k:Int):(bI s op a b k).1.inputs=s.inputs:=rfl
theorem L_(s:dL)(m:Option Int)(v:Int):(iU s m v).1.inputs=s.inputs:=by cases m<;>rfl
theorem aeP(s:dL)(t:Int->Option Int)(x:Int)(i:Nat):(rY s t x i).1.inputs=s.inputs:=by unfold rY;split<;>rfl
theorem adR(n base:Nat)(x:Int)(y:oZ)(i:Nat)(d:List Int):(uX n base x y i d).s.inputs=y.s.inputs:=by
 unfold uX;split
 ·rfl
 ·dsimp only;rw[L_,abt,iP,aeP]
theorem Ou(n base:Nat)(x:Int):∀(l:List (List Int)) (i:Nat) (y:oZ),(sN n base x l i y).s.inputs=y.s.inputs
 |[],_,_=>rfl
 |d::l,i,y=>by
  show(sN n base x l (i+1) _).s.inputs=_;rw[Ou n base x l,adR]
theorem adC(n base:Nat)(x:Int)(y:oZ)(l:List (List Int)):(sV n base x y l).s.inputs=y.s.inputs:=by
 have h:=Ou n base x l 0 ⟨y.s,y.t,none⟩;unfold sV;dsimp only at h|-
 split
 ·exact h
 ·dsimp only;rw[L_];split<;>exact h
theorem Ni(n g:Nat)(x:Int)(all:List (List Int)):∀(f base:Nat) (y:oZ),(p8 n g x all f base y).s.inputs=y.s.inputs
 |0,_,_=>rfl
 |f+1,base,y=>by
  unfold p8;split
  ·rw[Ni n g x all f,adC]
  ·rfl
theorem Yj(n:Nat)(s:dL)(x:Int):(vB n s x).1.inputs=s.inputs:=iP _ _
theorem XO(n:Nat)(b:Bool)(s:dL)(x:Int)(all:List (List Int)):(nG n b s x all).1.inputs=s.inputs:=by
 have h:=Ni n (tT b n) x all n 0 ⟨s,qY x,none⟩;unfold nG;dsimp only at h|-
 split
 ·rw[Yj];exact h
 ·exact h
theorem ad1(n:Nat)(s:dL)(x:Int)(data sl:List Int):(rM n s x data sl).1.inputs=s.inputs:=by
 rw[Z9];have h1:(pw1 n s x (data.getD 2 0) sl).1.inputs=s.inputs:=by
  unfold pw1;split
  ·rfl
  ·split
   ·rfl
   ·exact iP _ _
 generalize pw1 n s x (data.getD 2 0) sl=y at h1;have h2:(pw2 n y x (data.getD 1 0) sl).1.inputs=s.inputs:=by
  unfold pw2;split
  ·exact h1
  ·split
   ·dsimp only;rw[L_];exact h1
   ·dsimp only;rw[L_,abt];exact(iP _ _).trans h1
 generalize pw2 n y x (data.getD 1 0) sl=u at h2;have h3:(pw3 n u x).1.inputs=s.inputs:=by
  unfold pw3;split
  ·rw[Yj];exact h2
  ·exact h2
 unfold pw4;split
 ·exact h3
 ·exact(iP _ _).trans h3
theorem aeC(c:fT)(n:ak)(i:Nat)(s:dL)(vl:List Int):∃a,(d_ c n i s vl).1.inputs=s.inputs++a:=by
 have nil:∀{t:dL},t.inputs=s.inputs->∃a,t.inputs=s.inputs++a:=λh=>⟨[],by rw[h,ajM]⟩;unfold d_;split
 ·exact⟨_,rfl⟩
 split
 ·exact nil (iP _ _)
 split
 ·exact nil rfl
 split
 ·exact nil (iP _ _)
 split
 ·exact nil (ad1 _ _ _ _ _)
 split
 ·exact nil rfl
 ·refine nil ?_;unfold ku;dsimp only;split
  ·exact(iP _ _).trans (XO _ _ _ _ _)
  ·exact XO _ _ _ _ _
theorem Ao(c:fT):∀(r:List ak) (i:Nat) (s:dL) (vl:List Int) {q:dL×List Int},gU c r i s vl=some q->∃a,q.1.inputs=s.inputs++a
 |[],i,s,vl,q,h=>by
  have h:(s,vl)=q:=by simpa[gU]using h
  subst h;exact⟨[],by simp⟩
 |n::r,i,s,vl,q,h=>by
  unfold gU at h;split at h
  ·cases h
  ·obtain⟨a,ha⟩:=Ao c r (i+1) _ _ h;obtain⟨b,hb⟩:=aeC c n i s vl;exact⟨b++a,by rw[ha,hb,ahZ]⟩
theorem Jo{c:fT}{aV:Int}{g:bM}(hck:(check g).1=0)(h:Tu c aV g){ins inp:List (List Int)}{q:dL×List Int}(hins:ins=xh c.aA q.1.inputs inp){vals:List (List Int)}:∀(r:List ak) (i:Nat) (s:dL) (vl:List Int) (known done rest:List (List Int)),r=g.l.drop i->gU c r i s vl=some q->(∃a,q.1.inputs=s.inputs++a)->d9 (check g).2 r known rest=(0,vals)->inp=done++rest->Fh s.inputs done->Bv c.aA s->vl.length=i->known.length=i->s.code.length<=2048->
 (∀j,j<i->kR ins s (vl.getD j 0) (bU c.aA (c.di.l.getD j cK).xs λe=>(known.getD j []).getD e 0))->
 Bv c.aA q.1/\Fh q.1.inputs inp/\q.1.code.length<=2048/\∀j,j<i+r.length->kR ins q.1 (q.2.getD j 0) (bU c.aA (c.di.l.getD j cK).xs λe=>(vals.getD j []).getD e 0)
 |[],i,s,vl,known,done,rest,_,hq,_,hv,ad3,hm,hok,_,_,hcl,hval=>by
  have hq:(s,vl)=q:=by simpa[gU]using hq
  subst hq;unfold d9 at hv;split at hv
  ·simp at hv
  ·rename_i hr;obtain rfl:known=vals:=(Prod.mk.inj hv).2;obtain rfl:rest=[]:=List.length_eq_zero_iff.1 aa;rw[ajM]at ad3;subst ad3;exact⟨hok,hm,hcl,hval⟩
 |n::r,i,s,vl,known,done,rest,hr,hq,hpre,hv,ad3,hm,hok,hvl,hkl,hcl,hval=>by
  have hn:g.l[i]? =some n:=by
   have:(g.l.drop i)[0]? =some n:=by rw[<-hr];rfl
   rwa[anl,amr]at this
  have hr':r=g.l.drop (i+1):=by
   rw[<-List.drop_drop,<-hr];rfl
  unfold gU at hq;split at hq
  ·cases hq
  rename_i hbig;by_cases hk:n.ai=1
  ·unfold d9 at hv;rw[if_neg (λh=>h hk)]at hv;cases rest with
   |nil=>simp at hv
   |cons x xs=>
    dsimp only at hv;split at hv
    ·simp at hv
    rename_i hx;obtain⟨hl,_⟩:=aaZ hck hn;obtain⟨t,u,_,eu,gt_,_,_,tp,tl,te⟩:=h.at_ hck hl;have hxl:x.length=u.xs.length:=by
     have:¬((x.length:Int)≠au ((check g).2.getD known.length [])):=λh=>hx (.inl h);rw[hkl,gt_]at this;omega
    have hN:d_ c n i s vl=kN s n.lo n.hi u.xs:=by unfold d_;rw[if_pos hk,eu]
    rw[hN]at hq hbig;have ai2:∃a,q.1.inputs=(s.inputs++[(⟨n.lo,n.hi,u.xs⟩:BZ)])++a:=Ao c r (i+1) _ _ hq;have hin:ins.getD s.inputs.length []=bU c.aA u.xs λe=>x.getD e 0:=by
     obtain⟨a,ha⟩:=ai2;rw[hins,ha,ad3,ahZ];exact ab9 c.aA ⟨n.lo,n.hi,u.xs⟩ x a xs s.inputs done hm.len
    obtain⟨k1,k2,k3,k4,k5⟩:=aks (lo:=n.lo) (hi:=n.hi) hok (aaV tp) hin;have res:=Jo hck h hins r (i+1) _ _ (known++[x]) (done++[x]) xs hr' hq (by rw[k4];exact ai2) hv (by rw[ad3,ahZ];rfl) (by rw[k4];exact hm.snoc hxl) k1 M3 Pd aa (λj hj=>by
     by_cases e:j=i
     ·subst e;rw[Dp hvl.symm,Dp hkl.symm,eu];exact k5
     ·rw[DD (l:=vl) aa,DD (l:=known) aa];exact(hval j aa).aiE hok k2 ⟨[],by rw[k3,ajM]⟩)
    exact⟨res.1,res.2.1,res.2.2.1,λj hj=>res.2.2.2 j (by rw[ahN]at hj;omega)⟩
  ·unfold d9 at hv;rw[if_pos hk]at hv;have k:=ale hck h hn hk hok hkl hval;have res:=Jo hck h hins r (i+1) _ _ (known++[gy (check g).2 n known]) done rest hr' hq (Ao c r (i+1) _ _ hq) hv ad3 (by rw[k.ext.inputs];exact hm) k.ok M3 Pd aa (λj hj=>by
    by_cases e:j=i
    ·subst e;rw[Dp hvl.symm,Dp hkl.symm];exact k.val
    ·rw[DD (l:=vl) aa,DD (l:=known) aa];exact(hval j aa).mono hok k.ext)
   exact⟨res.1,res.2.1,res.2.2.1,λj hj=>res.2.2.2 j (by rw[ahN]at hj;omega)⟩
structure J9(n:Nat)(p:yx)(inp:List (List Int))(sl v:List Int):Prop where
 aA:p.aA=n
 ok:Bv n p.low
 mat:Fh p.low.inputs inp
 few:p.low.code.length<=2048
 out:p.out=sl
 places:Sl n sl
 len:v.length=sl.length
 val:kR (xh n p.low.inputs inp) p.low p.last (bU n sl λe=>v.getD e 0)
theorem ahQ{c:fT}{aV:Int}{g:bM}(hck:(check g).1=0)(h:Tu c aV g){inp vals:List (List Int)}(hv:d9 (check g).2 g.l [] inp=(0,vals))(hvl:((vals.getD g.out.toNat []).length:Int)=au ((check g).2.getD g.out.toNat []))(hr:(uW c g).2=0):
 J9 c.aA (uW c g).1 inp (c.di.l.getD g.out.toNat cK).xs (vals.getD g.out.toNat []):=by
 obtain⟨_,_,⟨ho,ho1⟩,_,_⟩:=gK hck;unfold uW at hr|-
 cases e:gU c g.l 0 ⟨[],[],[]⟩ []with
 |none=>rw[e]at hr;cases hr
 |some q=>
  have res:=Jo hck h (q:=q) (inp:=inp) rfl g.l 0 ⟨[],[],[]⟩ [] [] [] inp rfl e ⟨q.1.inputs,rfl⟩ hv rfl trivial ⟨λi x hx=>(by cases hx),λp hp=>(by cases hp),λx hx=>(by cases hx)⟩ rfl rfl (aae _) (λj hj=>absurd hj (ahf _));obtain⟨t,u,_,eu,gt_,_,_,tp,tl,te⟩:=h.at_ hck (i:=g.out.toNat) aa;exact⟨rfl,res.1,res.2.1,res.2.2.1,rfl,by rw[eu];exact aaV tp,by rw[eu,tl];rw[gt_]at hvl;omega,res.2.2.2 g.out.toNat aa⟩
section
abbrev alf:DT:=(bS [0,1,2,3,4,5,6,7,8,9,110,11] .done)
abbrev alU:DT:=(bS [0,1,2,3,4,5,6,7,8,9,10,11,12,13,14,15,16,117,18,119] .done)
structure za(w:World)(b:Nat)(v:l7)(t n:Nat)(ins:aY)(kb:Option Addr)(kc:Nat)(us:List ax):Prop where
 at_:r_ v t ins (.slice kb us.length kc) b w
 aA:v.aA=n
 n2:4<=n/\n<=2048
 t2:0<t/\t<=1073741824
 xm:bE w v.aF.base 1 (bA v.aF.l)
 aF:∀u∈v.aF.l,u.ok w/\u.xs.length=n
 tO:bE w v.ib 3 (mq v.inputs)
 inputs:∀x∈v.inputs,x.aA.ok w/\Sl n x.aA.xs
 xh:bE w ins.base 1 (bA ins.l)
 alY:∀u∈ins.l,u.ok w
 mat:Fh (v.inputs.map nN.pl) (ins.l.map ax.xs)
 Ck:bE w kb 1 (bA us)
 known:∀u∈us,bE w u.base 1 (eT u.xs)/\u.xs.length<=u.cap/\u.xs.length=n/\∀x∈u.xs,0<=x/\x<t
def Wm(x:jf):Value:= .agg #[.int .i64 x.op,.int .i64 x.KD,.int .i64 x.a,.int .i64 x.b,.int .i64 x.k]
variable {k:Nat} {u:ax}
theorem oQ{l:List ax}(h:l[k]? =some u):(bA l)[k]? =some [u.val]:=by
 unfold bA;rw[ab5,h];rfl
variable {w:World} {b t kc:Nat} {v:l7} {ins:aY} {kb:Option Addr} {us:List ax}
theorem FQ{n:Nat}(h:za w b v t n ins kb kc us)(x:jf)(hk:x.k=k)(hu:v.aF.l[k]? =some u):
 Calls Tryz.prog 96 #[.pointer (some ⟨b,0,none⟩),Wm x] w (og w ((List.range n).map λk=>u.xs.getD k 0%t)):=by
 have hkl:=(abH.1 hu).1;obtain⟨pa,Gm⟩:∃a,v.aF.base=some a:=aT (j:=k) h.xm AX;obtain⟨Lx,I4⟩:=h.aF u (adu hu);have hn2:=h.n2;refine fH Tryz.func96 [.c (.pointer (some ⟨b,0,none⟩)),.agg [aC x.op,aC x.KD,aC x.a,aC x.b,aC x.k]] ?_;repeat' ((conv=>whnf)<;>first|(show cO _ 1 ..;refine mV [] _ alf ?_)|(show gZ ..;(first|refine rD h.at_ (j:=2) (λR w' h=>h) rfl ?_|refine bN (λR w' hR=>by rw[<-Gm];exact aH hR h.xm) _ _ (j:=k) (oQ hu) rfl ?_))|(show dn ..;refine aM pa k Gm hk hkl ?_)|(show aJ _ 141 ..;refine jy Tryz.call141 1 59 (λ_:Unit=>eT ((List.range n).map λk=>u.xs.getD k 0%t)) (λ_=>True) (λρ w' hw=>((aeG w' b v t n ins _ (ae hw λR hR=>h.at_.later hR) h.aA aa h.t2.1 h.t2.2 u (ae hw λR hR=>Lx.later hR) I4).mono λe w2 he=>⟨(),trivial,he⟩)) (λ_ _=> ?_))|refine bV ?_)
 all_goals(conv=>whnf)
 all_goals exact gT (λ_ _ h=>h) rfl YV rfl
theorem V8(f:Nat->Int):∀(a b:List Int) (e:Nat) (row:List Int),l9 f (a++b) e row=l9 f b (e+a.length) (l9 f a e row)
 |[],b,e,row=>by simp[l9]
 |x::a,b,e,row=>by
  show l9 f (a++b) (e+1) _=_;rw[V8 f a b,ahN,show e+1+a.length=e+(a.length+1) by omega];rfl
theorem ZG(f:Nat->Int){l:List Int}{e:Nat}(he:e<l.length)(row:List Int):l9 f (l.take (e+1)) 0 row=(l9 f (l.take e) 0 row).set (l.getD e 0).toNat (f e):=by
 rw[ajP he,V8,aiD,aek,ajY aa,getD_at he];rfl
theorem Cy{l:List nN}{x:nN}(h:l[k]? =some x):(mq l)[k]? =some x.cells:=by
 unfold mq;rw[ab5,h];rfl
theorem Fh.at_:∀{a:List BZ} {b:List (List Int)} {k:Nat} {x:BZ} {y:List Int},Fh a b->a[k]? =some x->b[k]? =some y->y.length=x.aA.length
 |[],_,_,_,_,_,h,_=>by simp at h
 |_::_,[],_,_,_,h,_,_=>h.elim
 |p::a,q::b,0,x,y,h,h1,h2=>by
  obtain rfl:p=x:=by simpa using h1
  obtain rfl:q=y:=by simpa using h2
  exact h.1
 |p::a,q::b,k+1,x,y,h,h1,h2=>Fh.at_ h.2 (by simpa using h1) (by simpa using h2)
theorem Zb{n:Nat}(h:za w b v t n ins kb kc us)(x:jf)(hk:x.k=k){y:nN}(hy:v.inputs[k]? =some y)(hu:ins.l[k]? =some u):
 Calls Tryz.prog 97 #[.pointer (some ⟨b,0,none⟩),Wm x] w (og w (bU n y.aA.xs λe=>u.xs.getD e 0%t)):=by
 have hkl:=(abH.1 hy).1;have ak8:=(abH.1 hu).1;obtain⟨ia,hia⟩:∃a,v.ib=some a:=aT (j:=k) h.tO (by rw[lJ];exact hkl);obtain⟨na,hna⟩:∃a,ins.base=some a:=aT (j:=k) h.xh (by rw[acN];exact ak8);obtain⟨hys,hyl⟩:=h.inputs y (adu hy);have Lx:=h.alY u (adu hu);have ug:=hys.few;have hlen:u.xs.length=y.aA.xs.length:=h.mat.at_ (k:=k) (x:=y.pl) (by rw[ab5,hy];rfl) (by rw[ab5,hu];rfl);obtain⟨n4,n2⟩:=h.n2;obtain⟨t1,t2⟩:=h.t2;refine fH Tryz.func97 [.c (.pointer (some ⟨b,0,none⟩)),.agg [aC x.op,aC x.KD,aC x.a,aC x.b,aC x.k]] ?_;repeat' ((conv=>whnf)<;>first|(show gZ ..;(first|refine rD h.at_ (j:=0) (λR w' h=>h) rfl ?_|refine rD h.at_ (j:=1) (λR w' h=>h) rfl ?_|refine Us (λR w' hR=>by rw[<-hia];exact aH hR h.tO) _ _ (Cy hy) (f:=2) rfl ?_))|(show dn ..;refine aM ia k hia hk hkl ?_)|(show pg ..;(refine lD n h.aA h.aA AB aa ?_))|refine bV ?_)
 refine Wp.loop (σ:=Nat) 2 (λi=>[(0,.c (.pointer (some ⟨b,0,none⟩))),(3,.lp 0 0 0 0),(5,.os 1 n),(23,.c y.aA.val),(24,aC y.aA.xs.length),(25,aC i)]) (λi=>[(1,.rows (eT (l9 (λe=>u.xs.getD e 0%t) (y.aA.xs.take i) 0 (List.replicate n 0))) 1 59),(0,.box [aC x.op,aC x.KD,aC x.a,aC x.b,aC x.k] 43)]) (λ_=>aU w)
  (λi=>i<=y.aA.xs.length) (λi=>y.aA.xs.length-i) 0 [] ay (λ_=>⟨rfl,rfl⟩) (aae _) ⟨rfl,⟨rfl,rfl,rfl,rfl,rfl,rfl,trivial⟩,⟨by rw[List.take_zero];show _∈_;rw[show l9 (λe=>u.xs.getD e 0%(t:Int)) [] 0 (List.replicate n 0)=List.replicate n 0 from rfl,<-Fs];exact YV,aj,trivial⟩,λR w' h=>h⟩ ?_
 rintro i hi;by_cases hlt:i<y.aA.xs.length
 ·obtain⟨ya,hya⟩:=hys.base aa;obtain⟨ua,rO⟩:=Lx.base aa;have hyr:∀(R:Nat->Prop) w',(aU w).holds R w'->bE w' (some ya) 1 (aZ y.aA.xs):=λR w' hR=>by rw[<-hya];exact aH hR hys.rows
  have hur:∀(R:Nat->Prop) w',(aU w).holds R w'->bE w' (some ua) 1 (aZ u.xs):=λR w' hR=>by rw[<-rO];exact aH hR Lx.rows
  have hfit: -9223372036854775808<=u.xs.getD i 0/\u.xs.getD i 0<=9223372036854775807:=Lx.fits _ (cu aa);have hs:=hyl.bd _ (cu hlt);have hput:=A7 (λe=>u.xs.getD e 0%(t:Int)) (y.aA.xs.take i) 0 (List.replicate n 0);rw[aiS]at hput;repeat' ((conv=>whnf)<;>first|refine bn ?_|(show dn ..;(first|refine aM ya i hya rfl hlt ?_|refine aM na k hna hk ak8 ?_|refine aM ua i rO rfl aa ?_))|(show gZ ..;(first|refine dP hyr (j:=i) hlt ?_|refine dP hur (j:=i) aa ?_|refine rD h.at_ (j:=7) (λR w' h=>h) rfl ?_|refine rD h.at_ (j:=6) (λR w' h=>h) rfl ?_|refine bN (λR w' hR=>by rw[<-hna];exact aH hR h.xh) _ _ (j:=k) (oQ hu) rfl ?_))|(show aJ _ 142 ..;refine aR (f:=142) Tryz.call142 (.int .u64 (u.xs.getD i 0%t)) (λρ w' _=>WZ w' _ t hfit t1 t2) ?_)|(show eP ..;(refine bY (y.aA.xs.getD i 0).toNat aa aa (by rw[eG,hput];exact Tw _) ?_))|(show dH ..;(refine BL (by rw[hput];omega) ?_))|refine nU ?_|(show cO _ 5 ..;refine mV [19] _ alU ?_)|refine bV ?_)
  all_goals(conv=>whnf)
  all_goals exact⟨i+1,[],hlt,by show y.aA.xs.length-(i+1)<y.aA.xs.length-i;omega,rfl,fE,⟨by rw[ZG (λe=>u.xs.getD e 0%(t:Int)) hlt];exact YV,aj,trivial⟩,λ_ _ h=>h⟩
 ·obtain rfl:i=y.aA.xs.length:=by omega
  repeat' ((conv=>whnf)<;>first|refine bn ?_|refine bV ?_)
  all_goals(conv=>whnf)
  all_goals exact gT (λ_ _ h=>h) rfl (show(1,b_.rows (eT (bU n y.aA.xs λe=>u.xs.getD e 0%(t:Int))) 1 59)∈_ by rw[aen (Tw _)];exact YV) (by rw[eG,dA])
end
theorem acR(w:World)(y m:Nat)(hy:y<18446744073709551616)(hm:0<m):Calls Tryz.prog 145 #[.int .u64 0,.int .u64 y,.int .u64 m] w λe w'=>e= .returned (.tuple #[.int .u64 ((y/m:Nat):Int),.int .u64 ((y%m:Nat):Int)])/\Ext w w':=by
 refine fH Tryz.func145 [.c (.int .u64 0),.c (.int .u64 y),.c (.int .u64 m)] ?_;repeat' ((conv=>whnf)<;>first|refine bn ?_|(show yM ..;refine alo ?_)|(show x8 ..;refine Yi ?_)|refine bV ?_)
 all_goals(conv=>whnf)
 all_goals exact bZ (λ_ _ h=>h) (λ_=>rfl) rfl
theorem aeY(w:World)(a b m:Nat)(ha:a<18446744073709551616)(hb:b<18446744073709551616)(hm:0<m)(hm2:m<=4294967296):Calls Tryz.prog 100 #[.int .u64 a,.int .u64 b,.int .u64 m] w λe w'=>e= .returned (.int .u64 ((a*b%m:Nat):Int))/\Ext w w':=by
 have h1:=akx a hm;have h2:=akx b hm;have h3:(a%m)*(b%m)<18446744073709551616:=Nat.lt_of_le_of_lt (alN (show a%m<=4294967295 by omega) (show b%m<=4294967295 by omega)) ay;have e1:(a%m)*(b%m)/18446744073709551616=0:=Nat.div_eq_of_lt h3;have e2:(a%m)*(b%m)%18446744073709551616=(a%m)*(b%m):=akr h3;have hmul:=λw'=>adQ w' (a%m) (b%m) aa aa;rw[e1,e2]at hmul;refine fH Tryz.func100 [.c (.int .u64 a),.c (.int .u64 b),.c (.int .u64 m)] ?_;repeat' ((conv=>whnf)<;>first|refine bn ?_|(show x8 ..;refine Yi ?_)|(show jQ _ 144 ..;refine jo Tryz.call144 (.tuple #[.int .u64 ((0:Nat):Int),.int .u64 (((a%m)*(b%m):Nat):Int)]) (λρ w' _=>hmul w') ?_)|(show aJ _ 145 ..;refine aR (f:=145) Tryz.call145 (.tuple #[.int .u64 (((a%m)*(b%m)/m:Nat):Int),.int .u64 (((a%m)*(b%m)%m:Nat):Int)]) (λρ w' _=>acR w' _ m h3 hm) ?_)|refine bV ?_)
 all_goals(conv=>whnf)
 all_goals exact bZ (λ_ _ h=>h) (λ_=>by rw[<-Nat.mul_mod];rfl) rfl
section
abbrev amf:DT:=(bS [0,1,2,3,4,5,6,7,8,9,10,11,12,13,14,115,16,117] .done)
variable {w:World} {b t kc:Nat} {v:l7} {ins:aY} {kb:Option Addr} {us:List ax} {u:ax}
theorem Vv{n:Nat}(h:za w b v t n ins kb kc us)(x:jf){k:Nat}(hk:x.b=k)(hu:us[k]? =some u):
 Calls Tryz.prog 99 #[.pointer (some ⟨b,0,none⟩),Wm x] w λe w'=>e= .returned u.val/\Ext w w':=by
 have hkl:=(abH.1 hu).1;obtain⟨pa,Gm⟩:∃a,kb=some a:=aT (j:=k) h.Ck AX;refine fH Tryz.func99 [.c (.pointer (some ⟨b,0,none⟩)),.agg [aC x.op,aC x.KD,aC x.a,aC x.b,aC x.k]] ?_;repeat' ((conv=>whnf)<;>first|(show gZ ..;(first|refine rD h.at_ (j:=8) (λR w' h=>h) rfl ?_|refine bN (λR w' hR=>by rw[<-Gm];exact aH hR h.Ck) _ _ (j:=k) (oQ hu) rfl ?_))|(show dn ..;refine aM pa k Gm hk hkl ?_)|refine bV ?_)
 all_goals(conv=>whnf)
 all_goals exact bZ (λ_ _ h=>h) (λ_=>rfl) rfl
structure zL(w:World)(u:ax)(t n:Nat):Prop where
 rows:bE w u.base 1 (eT u.xs)
 room:u.xs.length<=u.cap
 len:u.xs.length=n
 bd:∀x∈u.xs,0<=x/\x<t
theorem zL.later{w':World}{R:Nat->Prop}{n:Nat}(h:zL w u t n)(hb:(aU w).holds R w'):zL w' u t n:=⟨aH hb h.rows,h.room,h.len,h.bd⟩
theorem za.words{n:Nat}(h:za w b v t n ins kb kc us)(hu:u∈us):zL w u t n:=⟨(h.known u hu).1,(h.known u hu).2.1,(h.known u hu).2.2.1,(h.known u hu).2.2.2⟩
variable {xs:List Int}
theorem RQ:∀r∈eT xs,r.length=1/\∀v∈r,v.oneCell'=true:=by
 intro r hr;obtain⟨x,_,rfl⟩:=abl.1 hr;exact⟨rfl,λv hv=>by rw[afe.1 hv];rfl⟩
theorem T9{a:Addr}{j:Nat}{S:bR}{K:SV->Prop}(hx:∀R w,S.holds R w->bE w (some a) 1 (eT xs))(hj:j<xs.length)(h:K (.c (.int .u64 (xs.getD j 0)))):gZ (a.add (j*1)) S K:=
 bN hx _ _ (R6 hj) rfl h
theorem Jy{n:Nat}{kv:Value}(hm:r_ v t ins kv b w)(hn2:0<n/\n<=2048)(F:FuncId)(f:Int->Int->Int)(hF:∀ar w,(callFunc F ar).run Tryz.prog w= .ok (.enter F ar) w)
 (hf:∀(w':World) (x y:Int),(0<=x/\x<t)->(0<=y/\y<t)->Calls Tryz.prog F #[.int .u64 x,.int .u64 y,.int .u64 t] w' λe w''=>e= .returned (.int .u64 (f x y))/\Ext w' w'') (p q:ax) (hp:zL w p t n) (hq:zL w q t n):
 Calls Tryz.prog 101 #[.pointer (some ⟨b,0,none⟩),p.val,q.val,.func (.func F) #[] #[]] w (og w ((List.range n).map λk=>f (p.xs.getD k 0) (q.xs.getD k 0))):=by
 obtain⟨n1,n2⟩:=hn2;have hpl:=hp.len;have Tn:=hq.len;obtain⟨pa,Gm⟩:∃a,p.base=some a:=aT (j:=0) hp.rows AC;obtain⟨qa,hqa⟩:∃a,q.base=some a:=aT (j:=0) hq.rows AC;have hpr:∀(R:Nat->Prop) w',(aU w).holds R w'->bE w' (some pa) 1 (eT p.xs):=λR w' h=>by rw[<-Gm];exact aH h hp.rows
 have hqr:∀(R:Nat->Prop) w',(aU w).holds R w'->bE w' (some qa) 1 (eT q.xs):=λR w' h=>by rw[<-hqa];exact aH h hq.rows
 refine fH Tryz.func101 [.c (.pointer (some ⟨b,0,none⟩)),.c (.slice p.base p.xs.length p.cap),.c (.slice q.base q.xs.length q.cap),.c (.func (.func F) #[] #[])] ?_;repeat' ((conv=>whnf)<;>first|(show pg ..;(refine lD n aa aa AB aa ?_))|refine a_ ?_)
 refine Wp.loop (σ:=Nat) 2 (λi=>[(0,.c (.pointer (some ⟨b,0,none⟩))),(1,.c (.slice p.base p.xs.length p.cap)),(2,.c (.slice q.base q.xs.length q.cap)),(3,.c (.func (.func F) #[] #[])),(9,.os 0 n),(15,aC n),(16,aC i)]) (λi=>[(0,.rows (eT (HZ (λk=>f (p.xs.getD k 0) (q.xs.getD k 0)) n i)) 1 59)]) (λ_=>aU w)
  (λi=>i<=n) (λi=>n-i) 0 [] ay (λ_=>⟨rfl,rfl⟩) (aae _) ⟨rfl,⟨rfl,rfl,rfl,rfl,rfl,rfl,rfl,trivial⟩,⟨by rw[Jw,<-Fs];exact YV,trivial⟩,λR w' h=>h⟩ ?_
 rintro i hi;by_cases hlt:i<n
 ·have hlen:=Bz (λk=>f (p.xs.getD k 0) (q.xs.getD k 0)) n i;have hc:=λw'=>hf w' (p.xs.getD i 0) (q.xs.getD i 0) (hp.bd _ (cu aa)) (hq.bd _ (cu aa));repeat' ((conv=>whnf)<;>first|refine bn ?_|(show dn ..;(first|refine aM pa i Gm rfl aa ?_|refine aM qa i hqa rfl aa ?_))|(show gZ ..;(first|refine T9 hpr (j:=i) aa ?_|refine T9 hqr (j:=i) aa ?_|refine rD hm (j:=6) (λR w' h=>h) rfl ?_))|(show aJ _ F ..;refine aR (f:=F) hF (.int .u64 (f (p.xs.getD i 0) (q.xs.getD i 0))) (λρ w' _=>hc w') ?_)|(show eP ..;(refine bY i rfl hlt PU ?_))|(show dH ..;(refine BL (by rw[hlen];exact hlt) ?_))|refine nU ?_|(show cO _ 5 ..;refine mV [17] _ amf ?_)|refine a_ ?_)
  all_goals(conv=>whnf)
  all_goals exact⟨i+1,[],hlt,by show n-(i+1)<n-i;omega,rfl,fE,⟨by rw[<-Nu (f:=λk=>f (p.xs.getD k 0) (q.xs.getD k 0))];exact YV,trivial⟩,λ_ _ h=>h⟩
 ·obtain rfl:i=n:=by omega
  repeat' ((conv=>whnf)<;>first|refine bn ?_|refine a_ ?_)
  all_goals(conv=>whnf)
  all_goals exact gT (λ_ _ h=>h) rfl (show(0,b_.rows (eT ((List.range i).map λk=>f (p.xs.getD k 0) (q.xs.getD k 0))) 1 59)∈_ by rw[<-Jm];exact YV) Mv
end
end Go.Proofs.YtgndjjdeopfdkaaGreat

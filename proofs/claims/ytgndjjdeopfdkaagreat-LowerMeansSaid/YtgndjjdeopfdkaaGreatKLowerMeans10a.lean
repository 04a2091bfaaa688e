import Derived.Test.YtgndjjdeopfdkaaGreatKLowerMeans9
/- texts WA QTa of the proof of LowerMeansSaid -/
set_option maxHeartbeats 16000000
set_option maxRecDepth 20000
set_option linter.unusedVariables false
set_option linter.unusedSimpArgs false
namespace Go.Proofs.YtgndjjdeopfdkaaGreat
open Go.SX Go.RowKit
section
def w9(k:Nat)(r:List Int):List Int:=r.drop k++r.take k
def Km(a b:List Int):List Int:=List.zipWith (·+·) a b
def mulR(a b:List Int):List Int:=List.zipWith (·*·) a b
def rR(pl ins:List (List Int))(acc:List (List Int))(x:jf):List Int:=
 if x.op=1 then ins.getD x.k.toNat []
 else if x.op=2 then pl.getD x.k.toNat []
 else if x.op=3 then Km (acc.getD x.a.toNat []) (acc.getD x.b.toNat [])
 else if x.op=4 then Km (acc.getD x.a.toNat []) (pl.getD x.k.toNat [])
 else if x.op=5 then mulR (acc.getD x.a.toNat []) (pl.getD x.k.toNat [])
 else if x.op=6 then mulR (acc.getD x.a.toNat []) (acc.getD x.b.toNat [])
 else w9 x.k.toNat (acc.getD x.a.toNat [])
def YX(pl ins:List (List Int)):List jf->List (List Int)->List (List Int)
 |[],acc=>acc
 |x::r,acc=>YX pl ins r (acc++[rR pl ins acc x])
def qM(pl ins:List (List Int))(code:List jf):List (List Int):=YX pl ins code []
theorem FE(pl ins:List (List Int)):∀(a b:List jf) (acc:List (List Int)),YX pl ins (a++b) acc=YX pl ins b (YX pl ins a acc)
 |[],_,_=>rfl
 |x::a,b,acc=>FE pl ins a b _
theorem F3(pl ins:List (List Int)):∀(a:List jf) (acc:List (List Int)),(YX pl ins a acc).length=acc.length+a.length
 |[],_=>rfl
 |x::a,acc=>by
  show(YX pl ins a _).length=_;rw[F3 pl ins a,adx,ag_,ahN];omega
theorem abL(pl ins:List (List Int)):∀(a:List jf) (acc:List (List Int)),∃r,YX pl ins a acc=acc++r
 |[],acc=>⟨[],by simp[YX]⟩
 |x::a,acc=>by
  obtain⟨r,h⟩:=abL pl ins a (acc++[rR pl ins acc x]);exact⟨rR pl ins acc x::r,by show YX pl ins a _=_;rw[h,ahZ];rfl⟩
theorem RN(pl ins:List (List Int))(a:List jf)(x:jf):qM pl ins (a++[x])=qM pl ins a++[rR pl ins (qM pl ins a) x]:=by
 unfold qM;rw[FE];rfl
theorem uw(pl ins:List (List Int))(a:List jf):(qM pl ins a).length=a.length:=by
 unfold qM;rw[F3];simp
variable {i:Nat}
theorem aif(pl ins:List (List Int))(a b:List jf)(hi:i<a.length):(qM pl ins (a++b)).getD i []=(qM pl ins a).getD i []:=by
 unfold qM;rw[FE];obtain⟨r,h⟩:=abL pl ins b (YX pl ins a []);rw[h,TR,TR,ag9 (by rw[F3];simpa using hi)]
def xk(n np ni i:Nat)(x:jf):Prop:=x.KD=i/\
 (((x.op=1/\x.a=0/\x.b=0/\0<=x.k/\x.k<ni)\/(x.op=2/\x.a=0/\x.b=0/\0<=x.k/\x.k<np))\/
  ((x.op=3\/x.op=6)/\(0<=x.a/\x.a<i)/\(0<=x.b/\x.b<i)/\x.k=0)\/
  ((x.op=4\/x.op=5)/\(0<=x.a/\x.a<i)/\x.b=0/\0<=x.k/\x.k<np)\/
  (x.op=8/\(0<=x.a/\x.a<i)/\x.b=0/\0<x.k/\x.k<n))
variable {np ni:Nat} {x:jf}
theorem xk.mono{n:Nat}(h:xk n np ni i x){np' ni':Nat}(hp:np<=np')(hi:ni<=ni'):xk n np' ni' i x:=by
 obtain⟨h0,h⟩:=h;refine⟨h0,?_⟩;rcases h with(⟨a,b,c,d,e⟩|⟨a,b,c,d,e⟩)|h|⟨a,b,c,d,e⟩|h
 ·exact .inl (.inl ⟨a,b,c,d,by omega⟩)
 ·exact .inl (.inr ⟨a,b,c,d,by omega⟩)
 ·exact .inr (.inl h)
 ·exact .inr (.inr (.inl ⟨a,b,c,d,by omega⟩))
 ·exact .inr (.inr (.inr h))
structure Bv(n:Nat)(s:dL):Prop where
 form:∀i x,s.code[i]? =some x->xk n s.aF.length s.inputs.length i x
 aF:∀p∈s.aF,p.length=n
 inputs:∀x∈s.inputs,(∀y∈x.aA,0<=y/\y<n)/\x.aA.Nodup
structure oM(s s':dL):Prop where
 code:∃c,s'.code=s.code++c
 aF:∃c,s'.aF=s.aF++c
 inputs:s'.inputs=s.inputs
theorem oM.refl(s:dL):oM s s:=⟨⟨[],by simp⟩,⟨[],by simp⟩,rfl⟩
theorem oM.trans{a b c:dL}(h:oM a b)(k:oM b c):oM a c:=by
 obtain⟨⟨c1,e1⟩,⟨p1,f1⟩,g1⟩:=h;obtain⟨⟨c2,e2⟩,⟨p2,f2⟩,g2⟩:=k;exact⟨⟨c1++c2,by rw[e2,e1,ahZ]⟩,⟨p1++p2,by rw[f2,f1,ahZ]⟩,g2.trans g1⟩
def kR(ins:List (List Int))(s:dL)(a:Int)(r:List Int):Prop:=0<=a/\a.toNat<s.code.length/\(qM s.aF ins s.code).getD a.toNat []=r
variable {k:Nat}
theorem Sz{α:Type}{l r:List α}{d:α}(h:k<l.length):(l++r).getD k d=l.getD k d:=by
 rw[TR,TR,ag9 h]
variable {pl c:List (List Int)}
theorem agF{n:Nat}(hx:xk n np ni i x)(hp:np=pl.length)(ins acc:List (List Int)):rR (pl++c) ins acc x=rR pl ins acc x:=by
 unfold xk at hx;unfold rR;by_cases h1:x.op=1
 ·rw[if_pos h1,if_pos h1]
 ·rw[if_neg h1,if_neg h1];by_cases h2:x.op=2
  ·rw[if_pos h2,if_pos h2,Sz aa]
  ·rw[if_neg h2,if_neg h2];by_cases h4:x.op=4\/x.op=5
   ·rw[Sz (l:=pl) aa]
   ·rw[if_neg (show¬x.op=4 by omega),if_neg (show¬x.op=5 by omega),if_neg (show¬x.op=4 by omega),if_neg (show¬x.op=5 by omega)]
theorem ab4{n np ni:Nat}{pl c:List (List Int)}(hp:np=pl.length)(ins:List (List Int)):∀(l:List jf) (k:Nat) (acc:List (List Int)),(∀i x,l[i]? =some x->xk n np ni (k+i) x)->YX (pl++c) ins l acc=YX pl ins l acc
 |[],_,_,_=>rfl
 |x::l,k,acc,h=>by
  show YX (pl++c) ins l _=YX pl ins l _;rw[agF (h 0 x rfl) hp,ab4 hp ins l (k+1) _ (λi y hy=>by have:=h (i+1) y hy;rwa[show k+(i+1)=k+1+i by omega]at this)]
variable {s:dL}
theorem agv{n:Nat}(h:Bv n s)(c:List (List Int))(ins:List (List Int)):qM (s.aF++c) ins s.code=qM s.aF ins s.code:=
 ab4 rfl ins s.code 0 [] (λi x hx=>by rw[aiD];exact h.form i x hx)
variable {ins:List (List Int)} {s':dL} {r:List Int}
theorem kR.aiE{n:Nat}{a:Int}(h:kR ins s a r)(hs:Bv n s)(hc:∃c,s'.code=s.code++c)(hp:∃p,s'.aF=s.aF++p):kR ins s' a r:=by
 obtain⟨h0,h1,h2⟩:=h;obtain⟨c,e⟩:=hc;obtain⟨p,f⟩:=hp;refine⟨h0,by rw[e,adx];omega,?_⟩;rw[e,aif _ _ _ _ h1,f,agv hs];exact h2
theorem kR.mono{n:Nat}{a:Int}(h:kR ins s a r)(hs:Bv n s)(he:oM s s'):kR ins s' a r:=h.aiE hs he.code he.aF
theorem kR.lt{a:Int}(h:kR ins s a r):0<=a/\a<s.code.length:=⟨h.1,by have:=h.2.1;have:=h.1;omega⟩
theorem kR.eq{a:Int}{r':List Int}(h:kR ins s a r)(e:r=r'):kR ins s a r':=e▸h
structure nX(n:Nat)(ins:List (List Int))(s s':dL)(a:Int)(r:List Int):Prop where
 ok:Bv n s'
 ext:oM s s'
 val:kR ins s' a r
theorem nX.trans{n:Nat}{ins:List (List Int)}{s t u:dL}{a b:Int}{r q:List Int}(h:nX n ins s t a r)(k:nX n ins t u b q):nX n ins s u b q:=⟨k.ok,h.ext.trans k.ext,k.val⟩
variable {t:dL} {q:List Int}
theorem nX.eq{n:Nat}{a:Int}(h:nX n ins s t a r)(e:r=q):nX n ins s t a q:=e▸h
theorem aaP{n:Nat}(h:Bv n s){op a b k:Int}(hf:xk n s.aF.length s.inputs.length s.code.length ⟨op,s.code.length,a,b,k⟩):
 nX n ins s (bI s op a b k).1 (bI s op a b k).2 (rR s.aF ins (qM s.aF ins s.code) ⟨op,s.code.length,a,b,k⟩):=by
 refine⟨⟨λi x hx=> ?_,h.aF,h.inputs⟩,⟨⟨_,rfl⟩,⟨[],by simp[bI]⟩,rfl⟩,aof _,?_,?_⟩
 ·show xk n s.aF.length s.inputs.length i x;have hx2:(s.code++[(⟨op,s.code.length,a,b,k⟩:jf)])[i]? =some x:=hx;rcases ack i s.code.length with hi|hi
  ·rw[ag9 hi]at hx2;exact h.form i x hx2
  ·rw[ahg hi]at hx2;obtain⟨j,hj⟩:∃j,i-s.code.length=j:=⟨_,rfl⟩;rw[hj]at hx2;cases j with
   |zero=>
    have hx3:(⟨op,s.code.length,a,b,k⟩:jf)=x:=by simpa using hx2
    have hi3:i=s.code.length:=by omega
    rw[hi3,<-hx3];exact hf
   |succ j=>simp at hx2
 ·show s.code.length<(s.code++[_]).length;rw[adx,ag_];omega
 ·show(qM s.aF ins (s.code++[(⟨op,s.code.length,a,b,k⟩:jf)])).getD s.code.length []=_;rw[RN,TR,ahg (by rw[uw];exact Tw _),uw];simp
theorem abd{r:List Int}:∀(l:List (List Int)) (k j:Nat),J5 r l k=some j->k<=j/\j<k+l.length/\l.getD (j-k) []=r
 |[],_,_,h=>by cases h
 |x::l,k,j,h=>by
  unfold J5 at h;split at h
  ·rename_i e;injection h with h
   subst h;exact⟨Tw _,by simp,by simpa using e⟩
  ·obtain⟨h1,h2,h3⟩:=abd l (k+1) j h;refine⟨by omega,by simp only[ahN];omega,?_⟩;rw[show j-k=(j-(k+1))+1 by omega];simpa using h3
theorem Zq{n:Nat}(h:Bv n s)(hr:r.length=n):Bv n (dF s r).1/\oM s (dF s r).1/\(dF s r).1.code=s.code/\(dF s r).1.inputs=s.inputs/\0<=(dF s r).2/\(dF s r).2<(dF s r).1.aF.length/\(dF s r).1.aF.getD (dF s r).2.toNat []=r:=by
 unfold dF;cases e:J5 r s.aF 0 with
 |some k=>
  obtain⟨_,h2,h3⟩:=abd _ _ _ e;exact⟨h,oM.refl s,rfl,rfl,aof _,by show(k:Int)<s.aF.length;omega,by simpa using h3⟩
 |none=>
  refine⟨⟨λi x hx=>(h.form i x hx).mono aI (Tw _),λp hp=> ?_,h.inputs⟩,⟨⟨[],by simp⟩,⟨_,rfl⟩,rfl⟩,rfl,rfl,aof _,?_,?_⟩
  ·rcases aeh.1 hp with hp|hp
   ·exact h.aF p hp
   ·rw[afe.1 hp];exact hr
  ·show(s.aF.length:Int)<((s.aF++[r]).length:Nat);rw[adx,ag_];omega
  ·show(s.aF++[r]).getD s.aF.length []=r;rw[TR,ahg (Tw _)];simp
variable {b:List Int}
theorem Pn{f:Int->Int->Int}(hf:f 0 0=0){a:List Int}(h:a.length=b.length)(s:Nat):(List.zipWith f a b).getD s 0=f (a.getD s 0) (b.getD s 0):=by
 by_cases hs:s<a.length
 ·rw[TR,List.getElem?_zipWith,TR,TR,YL hs,YL aa];rfl
 ·rw[BP (by rw[List.length_zipWith];omega),BP aa,BP aa,hf]
theorem Mm{a:List Int}(h:a.length=b.length)(s:Nat):(Km a b).getD s 0=a.getD s 0+b.getD s 0:=Pn rfl h s
theorem Mi{a:List Int}(h:a.length=b.length)(s:Nat):(mulR a b).getD s 0=a.getD s 0*b.getD s 0:=Pn rfl h s
theorem xu{a:List Int}{n:Nat}(ha:a.length=n)(hb:b.length=n):(Km a b).length=n:=by
 unfold Km;rw[List.length_zipWith,ha,hb];simp
theorem uE{a:List Int}{n:Nat}(ha:a.length=n)(hb:b.length=n):(mulR a b).length=n:=by
 unfold mulR;rw[List.length_zipWith,ha,hb];simp
theorem BF{a:List Int}:(w9 k a).length=a.length:=by
 unfold w9;rw[adx,aml,aek];omega
theorem Uj{a:List Int}{n s:Nat}(ha:a.length=n)(hk:k<n)(hs:s<n):(w9 k a).getD s 0=a.getD ((s+k)%n) 0:=by
 unfold w9;rw[TR,TR];by_cases h:s<n-k
 ·rw[ag9 zW,anl,akr aa,Nat.add_comm]
 ·rw[ahg zW,aml,ha,aop aa];rw[show(s+k)%n=s-(n-k) by
   rw[show s+k=s-(n-k)+n by omega,Nat.add_mod_right,akr aa]]
theorem SE(a:List Int):w9 0 a=a:=by simp[w9]
theorem TT{a:List Int}(h:a.length=b.length)(he:∀s,s<a.length->a.getD s 0=b.getD s 0):a=b:=by
 apply alQ h;intro s h1 h2;have:=he s h1
 rwa[getD_at h1,getD_at h2]at this
end
section
variable {ins:List (List Int)} {s:dL} {b:Int} {q:List Int}
theorem akA{n:Nat}{a:Int}{p:List Int}(h:Bv n s)(ha:kR ins s a p)(hb:kR ins s b q):nX n ins s (bI s 3 a b 0).1 (bI s 3 a b 0).2 (Km p q):=
 (aaP (ins:=ins) h (op:=3) (a:=a) (b:=b) (k:=0) ⟨rfl,.inr (.inl ⟨.inl rfl,ha.lt,hb.lt,rfl⟩)⟩).eq (by
   show Km ((qM s.aF ins s.code).getD a.toNat []) ((qM s.aF ins s.code).getD b.toNat [])=_;rw[ha.2.2,hb.2.2])
theorem amU{n:Nat}{a:Int}{p:List Int}(h:Bv n s)(ha:kR ins s a p)(hb:kR ins s b q):nX n ins s (bI s 6 a b 0).1 (bI s 6 a b 0).2 (mulR p q):=
 (aaP (ins:=ins) h (op:=6) (a:=a) (b:=b) (k:=0) ⟨rfl,.inr (.inl ⟨.inr rfl,ha.lt,hb.lt,rfl⟩)⟩).eq (by
   show mulR ((qM s.aF ins s.code).getD a.toNat []) ((qM s.aF ins s.code).getD b.toNat [])=_;rw[ha.2.2,hb.2.2])
theorem ai7{n:Nat}{a:Int}{k:Nat}{p:List Int}(h:Bv n s)(ha:kR ins s a p)(h0:0<k)(hk:k<n):nX n ins s (bI s 8 a 0 k).1 (bI s 8 a 0 k).2 (w9 k p):=
 (aaP (ins:=ins) h (op:=8) (a:=a) (b:=0) (k:=k) ⟨rfl,.inr (.inr (.inr ⟨rfl,ha.lt,rfl,by show(0:Int)<(k:Int);omega,by show(k:Int)<n;omega⟩))⟩).eq (by
   show w9 (k:Int).toNat ((qM s.aF ins s.code).getD a.toNat [])=_;rw[ha.2.2];rfl)
variable {k:Int}
theorem alZ{n:Nat}{a:Int}{p:List Int}(h:Bv n s)(ha:kR ins s a p)(hk:0<=k/\k<s.aF.length)(hq:s.aF.getD k.toNat []=q):nX n ins s (bI s 4 a 0 k).1 (bI s 4 a 0 k).2 (Km p q):=
 (aaP (ins:=ins) h (op:=4) (a:=a) (b:=0) (k:=k) ⟨rfl,.inr (.inr (.inl ⟨.inl rfl,ha.lt,rfl,hk.1,hk.2⟩))⟩).eq (by
   show Km ((qM s.aF ins s.code).getD a.toNat []) (s.aF.getD k.toNat [])=_;rw[ha.2.2,hq])
theorem alX{n:Nat}{a:Int}{p:List Int}(h:Bv n s)(ha:kR ins s a p)(hk:0<=k/\k<s.aF.length)(hq:s.aF.getD k.toNat []=q):nX n ins s (bI s 5 a 0 k).1 (bI s 5 a 0 k).2 (mulR p q):=
 (aaP (ins:=ins) h (op:=5) (a:=a) (b:=0) (k:=k) ⟨rfl,.inr (.inr (.inl ⟨.inr rfl,ha.lt,rfl,hk.1,hk.2⟩))⟩).eq (by
   show mulR ((qM s.aF ins s.code).getD a.toNat []) (s.aF.getD k.toNat [])=_;rw[ha.2.2,hq])
theorem aj6{n:Nat}(h:Bv n s)(hk:0<=k/\k<s.aF.length)(hq:s.aF.getD k.toNat []=q):nX n ins s (bI s 2 0 0 k).1 (bI s 2 0 0 k).2 q:=
 (aaP (ins:=ins) h (op:=2) (a:=0) (b:=0) (k:=k) ⟨rfl,.inl (.inr ⟨rfl,rfl,rfl,hk.1,hk.2⟩)⟩).eq hq
variable {r:List Int}
theorem XY{n:Nat}{a:Int}{p:List Int}(h:Bv n s)(ha:kR ins s a p)(hr:r.length=n):nX n ins s (bI (dF s r).1 5 a 0 (dF s r).2).1 (bI (dF s r).1 5 a 0 (dF s r).2).2 (mulR p r):=by
 obtain⟨h1,h2,_,_,h5,h6,h7⟩:=Zq h hr;have k:=alX h1 (ha.mono h h2) ⟨h5,h6⟩ h7;exact⟨k.ok,h2.trans k.ext,k.val⟩
theorem ajf{n:Nat}{a:Int}{p:List Int}(h:Bv n s)(ha:kR ins s a p)(hr:r.length=n):nX n ins s (bI (dF s r).1 4 a 0 (dF s r).2).1 (bI (dF s r).1 4 a 0 (dF s r).2).2 (Km p r):=by
 obtain⟨h1,h2,_,_,h5,h6,h7⟩:=Zq h hr;have k:=alZ h1 (ha.mono h h2) ⟨h5,h6⟩ h7;exact⟨k.ok,h2.trans k.ext,k.val⟩
theorem ahD{n:Nat}(h:Bv n s)(hr:r.length=n):nX n ins s (bI (dF s r).1 2 0 0 (dF s r).2).1 (bI (dF s r).1 2 0 0 (dF s r).2).2 r:=by
 obtain⟨h1,h2,_,_,h5,h6,h7⟩:=Zq h hr;have k:=aj6 (ins:=ins) h1 ⟨h5,h6⟩ h7;exact⟨k.ok,h2.trans k.ext,k.val⟩
theorem aiJ{n:Nat}{a:Int}{p:List Int}(h:Bv n s)(ha:kR ins s a p)(hp:p.length=n):nX n ins s (vB n s a).1 (vB n s a).2 (List.replicate n 0):=by
 refine(XY h ha aiS).eq (TT (by rw[uE hp aiS,aiS]) λs _=> ?_);rw[Mi (by rw[hp,aiS]),oL,Int.mul_zero]
def Jd(n:Nat)(ins:List (List Int))(s:dL)(m:Option Int)(E:Nat->Int):Prop:=match m with
 |none=>∀j,j<n->E j=0
 |some a=>∃q,kR ins s a q/\q.length=n/\∀j,j<n->q.getD j 0=E j
theorem Jd.mono{n:Nat}{ins:List (List Int)}{s s':dL}{m:Option Int}{E:Nat->Int}(h:Jd n ins s m E)(hs:Bv n s)(he:oM s s'):Jd n ins s' m E:=by
 cases m with
 |none=>exact h
 |some a=>
  obtain⟨q,h1,h2⟩:=h;exact⟨q,h1.mono hs he,h2⟩
variable {m:Option Int} {E:Nat->Int}
theorem Jd.congr{n:Nat}{E':Nat->Int}(h:Jd n ins s m E)(he:∀j,j<n->E j=E' j):Jd n ins s m E':=by
 cases m with
 |none=>exactλj hj=>by rw[<-he j hj];exact h j hj
 |some a=>
  obtain⟨q,h1,h2,h3⟩:=h;exact⟨q,h1,h2,λj hj=>by rw[<-he j hj];exact h3 j hj⟩
theorem aj0{n:Nat}{v:Int}(h:Bv n s)(hm:Jd n ins s m E)(hv:kR ins s v q)(hq:q.length=n):
 Bv n (iU s m v).1/\oM s (iU s m v).1/\Jd n ins (iU s m v).1 (some (iU s m v).2) λj=>E j+q.getD j 0:=by
 cases m with
 |none=>exact⟨h,oM.refl s,q,hv,hq,λj hj=>by show _=E j+q.getD j 0;rw[hm j hj,Int.zero_add]⟩
 |some a=>
  obtain⟨p,h1,h2,h3⟩:=hm;have k:=akA h h1 hv;exact⟨k.ok,k.ext,_,k.val,xu h2 hq,λj hj=>by rw[Mm (by rw[h2,hq]),h3 j hj]⟩
structure Iz(n:Nat)(ins:List (List Int))(s0:dL)(r:List Int)(y:oZ)(E:Nat->Int):Prop where
 ok:Bv n y.s
 ext:oM s0 y.s
 t0:y.t 0≠none
 turn:∀(z a:Int),y.t z=some a->0<=z->z<n->kR ins y.s a (w9 z.toNat r)
 sum:Jd n ins y.s y.m E
variable {base j:Nat} {d:List Int}
theorem adW{n:Nat}(hd:d.length=n)(hb:base<n)(hj:j<n):(wR n base d).getD j 0=d.getD ((j+n-base)%n) 0:=by
 by_cases h0:base=0
 ·subst h0;unfold wR;rw[am4,am4,List.drop_eq_nil_of_le aa,akg,aen aa,Nat.add_mod_right,akr hj]
 ·have:=Uj (a:=d) (k:=n-base) hd aa hj;rw[show j+n-base=j+(n-base) by omega];exact this
theorem Q5{n:Nat}(hd:d.length=n):(wR n base d).length=n:=by
 unfold wR;rw[adx,aml,aek];omega
variable {s0:dL} {y:oZ} {x:Int} {i:Nat}
theorem aij{n:Nat}(h:Iz n ins s0 r y E)(hx:kR ins y.s x r)(hi:i<n):
 Iz n ins s0 r ⟨(rY y.s y.t x i).1,(rY y.s y.t x i).2.1,y.m⟩ E/\oM y.s (rY y.s y.t x i).1/\kR ins (rY y.s y.t x i).1 (rY y.s y.t x i).2.2 (w9 i r):=by
 unfold rY;cases e:y.t i with
 |some a=>
  have:=h.turn i a e (aof _) aa;exact⟨h,oM.refl _,this⟩
 |none=>
  have hi0:0<i:=by
   rcases amm i with h0|h0
   ·subst h0;exact absurd e h.t0
   ·exact h0
  have k:=ai7 h.ok hx hi0 hi;refine⟨⟨k.ok,h.ext.trans k.ext,?_,λz a hz h0 h1=> ?_,h.sum.mono h.ok k.ext⟩,k.ext,k.val⟩
  ·show(if(0:Int)=(i:Int)then _ else y.t 0)≠none;rw[if_neg aa];exact h.t0
  ·have hz:(if z=(i:Int)then some (bI y.s 8 x 0 i).2 else y.t z)=some a:=hz;by_cases hzi:z=(i:Int)
   ·rw[if_pos hzi]at hz;injection hz with hz
    rw[<-hz,hzi];exact k.val
   ·rw[if_neg hzi]at hz;exact(h.turn z a hz h0 h1).mono h.ok k.ext
theorem ahu{n:Nat}(hb:base<n)(hr:r.length=n)(h:Iz n ins s0 r y E)(hx:kR ins y.s x r)(hi:i<n)(hd:d=[]\/d.length=n):
 Iz n ins s0 r (uX n base x y i d) (λj=>E j+d.getD ((j+n-base)%n) 0*r.getD ((j+i)%n) 0)/\oM y.s (uX n base x y i d).s:=by
 unfold uX;by_cases h0:d=[]
 ·rw[if_pos h0];subst h0;exact⟨⟨h.ok,h.ext,h.t0,h.turn,h.sum.congr λj _=>by rw[BP (aae _),Int.zero_mul,amE]⟩,oM.refl _⟩
 ·rw[if_neg h0];have hd:d.length=n:=hd.resolve_left h0;obtain⟨k1,k2,k3⟩:=aij h hx hi;have hm:=Q5 (base:=base) hd;have l:=XY k1.ok k3 hm;have hl:(w9 i r).length=n:=by rw[BF,hr]
  obtain⟨a1,a2,a3⟩:=aj0 l.ok (k1.sum.mono k1.ok l.ext) l.val (uE hl hm);refine⟨⟨a1,k1.ext.trans (l.ext.trans a2),k1.t0,λz a hz g0 g1=>((k1.turn z a hz g0 g1).mono k1.ok l.ext).mono l.ok a2,a3.congr λj hj=> ?_⟩,k2.trans (l.ext.trans a2)⟩;rw[Mi (by rw[hl,hm]),Uj hr hi hj,adW hd hb hj,ajF]
def inE(n base:Nat)(r:List Int):List (List Int)->Nat->Nat->Int
 |[],_,_=>0
 |d::l,i,j=>d.getD ((j+n-base)%n) 0*r.getD ((j+i)%n) 0+inE n base r l (i+1) j
theorem abP{n base:Nat}(hb:base<n){ins:List (List Int)}{s0:dL}{r:List Int}(hr:r.length=n){x:Int}:∀(l:List (List Int)) (i:Nat) (y:oZ) (E:Nat->Int),Iz n ins s0 r y E->kR ins y.s x r->i+l.length<=n->(∀d∈l,d=[]\/d.length=n)->
 Iz n ins s0 r (sN n base x l i y) (λj=>E j+inE n base r l i j)/\oM y.s (sN n base x l i y).s
 |[],i,y,E,h,_,_,_=>⟨⟨h.ok,h.ext,h.t0,h.turn,h.sum.congr λj _=>by unfold inE;rw[amE]⟩,oM.refl _⟩
 |d::l,i,y,E,h,hx,hi,hd=>by
  rw[ahN]at hi;obtain⟨k1,k2⟩:=ahu hb hr h hx (i:=i) aa (hd d YV);obtain⟨m1,m2⟩:=abP hb hr l (i+1) _ _ k1 (hx.mono h.ok k2) aa (λd hd'=>hd d (aeg _ hd'));refine⟨⟨m1.ok,m1.ext,m1.t0,m1.turn,m1.sum.congr λj _=> ?_⟩,k2.trans m2⟩;rw[show inE n base r (d::l) i j=d.getD ((j+n-base)%n) 0*r.getD ((j+i)%n) 0+inE n base r l (i+1) j from rfl];omega
theorem ah4{n:Nat}(hb:base<n)(hr:r.length=n)(h:Iz n ins s0 r y E)(hx:kR ins y.s x r){l:List (List Int)}(hl:l.length<=n)(hd:∀d∈l,d=[]\/d.length=n):
 Iz n ins s0 r (sV n base x y l) (λj=>E j+inE n base r l 0 ((j+base)%n))/\oM y.s (sV n base x y l).s:=by
 have h0:Iz n ins s0 r ⟨y.s,y.t,none⟩ (λ_=>0):=⟨h.ok,h.ext,h.t0,h.turn,λ_ _=>rfl⟩;obtain⟨k1,k2⟩:=abP hb hr l 0 _ _ h0 hx aa hd;have hsum:=h.sum.mono h.ok k2;unfold sV;generalize sN n base x l 0 ⟨y.s,y.t,none⟩=z at k1 k2 hsum;obtain⟨zs,zt,zm⟩:=z;cases zm with
 |none=>
  refine⟨⟨k1.ok,k1.ext,k1.t0,k1.turn,hsum.congr λj hj=> ?_⟩,k2⟩;have h1:0+inE n base r l 0 ((j+base)%n)=0:=k1.sum ((j+base)%n) (akx _ aa);omega
 |some a=>
  obtain⟨q,q1,q2,q3⟩:=k1.sum;have key:∀u:dL×Int,u=(if 0<base then bI zs 8 a 0 base else(zs,a))->Bv n u.1/\oM zs u.1/\kR ins u.1 u.2 (w9 base q):=λu hu=>by
   rw[hu];by_cases hb0:0<base
   ·rw[if_pos hb0];have k:=ai7 k1.ok q1 hb0 hb;exact⟨k.ok,k.ext,k.val⟩
   ·rw[if_neg hb0,show base=0 by omega,SE];exact⟨k1.ok,oM.refl _,q1⟩
  show Iz n ins s0 r ⟨(iU (if 0<base then bI zs 8 a 0 base else(zs,a)).1 y.m (if 0<base then bI zs 8 a 0 base else(zs,a)).2).1,zt,some (iU (if 0<base then bI zs 8 a 0 base else(zs,a)).1 y.m (if 0<base then bI zs 8 a 0 base else(zs,a)).2).2⟩ _/\oM y.s (iU (if 0<base then bI zs 8 a 0 base else(zs,a)).1 y.m (if 0<base then bI zs 8 a 0 base else(zs,a)).2).1;generalize hu:(if 0<base then bI zs 8 a 0 base else(zs,a))=u;obtain⟨u1,u2,u3⟩:=key u hu.symm;obtain⟨a1,a2,a3⟩:=aj0 u1 (hsum.mono k1.ok u2) u3 (by rw[BF,q2]);refine⟨⟨a1,k1.ext.trans (u2.trans a2),k1.t0,λz b hz g0 g1=>((k1.turn z b hz g0 g1).mono k1.ok u2).mono u1 a2,a3.congr λj hj=> ?_⟩,k2.trans (u2.trans a2)⟩;rw[Uj q2 hb hj,q3 _ (akx _ aa)];show E j+(0+inE n base r l 0 ((j+base)%n))=_;rw[Int.zero_add]
theorem aaT{n base:Nat}(hb:base<n)(all:List (List Int))(r:List Int){j:Nat}(hj:j<n):∀(m i:Nat),base+i+m<=n->all.length=n->inE n base r ((all.drop (base+i)).take m) i ((j+base)%n)=BG all (λk=>r.getD k 0) n (base+i+m) j-BG all (λk=>r.getD k 0) n (base+i) j
 |0,i,_,_=>by rw[List.take_zero];unfold inE;rw[amr,Int.sub_self]
 |m+1,i,hm,hal=>by
  have hdr:all.drop (base+i)=all.getD (base+i) []::all.drop (base+(i+1)):=by
   rw[TR,YL aa];exact ahc aa
  rw[hdr,List.take_succ_cons,show∀(d:List Int) (l:List (List Int)) (q:Nat),inE n base r (d::l) i q=d.getD ((q+n-base)%n) 0*r.getD ((q+i)%n) 0+inE n base r l (i+1) q fromλ_ _ _=>rfl];rw[aaT hb all r hj m (i+1) aa hal,show base+(i+1)+m=base+i+(m+1) by omega,show base+(i+1)=base+i+1 by omega,ac5 all _ n (base+i) j];have e1:((j+base)%n+n-base)%n=j:=by
   rcases ack (j+base) n with h|h
   ·rw[akr h,show j+base+n-base=j+n by omega,Nat.add_mod_right,akr hj]
   ·rw[show j+base=j+base-n+n by omega,Nat.add_mod_right,akr (show j+base-n<n by omega),show j+base-n+n-base=j by omega,akr hj]
  have e2:((j+base)%n+i)%n=(j+(base+i))%n:=by rw[Nat.mod_add_mod,alF]
  rw[e1,e2];unfold DE;omega
theorem abw{n g:Nat}(hg:0<g){ins:List (List Int)}{s0:dL}{r:List Int}(hr:r.length=n){x:Int}(all:List (List Int))(hall:ZC n all):∀(f base:Nat) (y:oZ),Iz n ins s0 r y (BG all (λk=>r.getD k 0) n (min base n))->kR ins y.s x r->n<=base+f->
 Iz n ins s0 r (p8 n g x all f base y) (BG all (λk=>r.getD k 0) n n)/\oM y.s (p8 n g x all f base y).s
 |0,base,y,h,_,hf=>by
  rw[Nat.min_eq_right aa]at h;exact⟨h,oM.refl _⟩
 |f+1,base,y,h,hx,hf=>by
  unfold p8;by_cases hb:base<n
  ·rw[if_pos hb];rw[ajY aa]at h;have hd:∀d∈(all.drop base).take (min n (base+g)-base),d=[]\/d.length=n:=λd hd=>by
    have hd:=List.drop_subset _ _ (List.take_subset _ _ hd);obtain⟨k,hk,rfl⟩:=am0.1 hd;have:=hall.each k
    rwa[TR,YL hk]at this
   obtain⟨k1,k2⟩:=ah4 hb hr h hx (l:=(all.drop base).take (min n (base+g)-base)) (by rw[aek];omega) hd;have k1':Iz n ins s0 r (sV n base x y ((all.drop base).take (min n (base+g)-base))) (BG all (λk=>r.getD k 0) n (min (base+g) n)):=⟨k1.ok,k1.ext,k1.t0,k1.turn,k1.sum.congr λj hj=>by
    have:=aaT hb all r hj (min n (base+g)-base) 0 aa hall.len;rw[amr]at this;rw[this,show base+(min n (base+g)-base)=min (base+g) n by omega];omega⟩
   obtain⟨m1,m2⟩:=abw hg hr all hall f (base+g) _ k1' (hx.mono h.ok k2) aa;exact⟨m1,k2.trans m2⟩
  ·rw[if_neg hb];rw[Nat.min_eq_right aa]at h;exact⟨h,oM.refl _⟩
theorem Np:∀(f n g:Nat),0<g->0<stepG f n g
 |0,_,_,h=>h
 |f+1,n,g,h=>by
  unfold stepG;split
  ·exact Np f n (2*g) aa
  ·exact h
theorem Ui(b:Bool){n:Nat}(h:0<n):0<tT b n:=by
 unfold tT;split
 ·exact Np _ _ _ ay
 ·exact h
theorem al_{n:Nat}(hn:0<n)(giant:Bool)(h:Bv n s)(hx:kR ins s x r)(hr:r.length=n){all:List (List Int)}(hall:ZC n all):
 ∃q,nX n ins s (nG n giant s x all).1 (nG n giant s x all).2 q/\q.length=n/\∀j,j<n->q.getD j 0=BG all (λk=>r.getD k 0) n n j:=by
 have ht:∀(z a:Int),qY x z=some a->0<=z->z<n->kR ins s a (w9 z.toNat r):=by
  intro z a hz g0 g1;have hz:(if z=0 then some x else none)=some a:=hz;by_cases hz0:z=0
  ·rw[if_pos hz0]at hz;injection hz with hz
   rw[<-hz,hz0];show kR ins s x (w9 0 r);rw[SE];exact hx
  ·rw[if_neg hz0]at hz;cases hz
 have h0:Iz n ins s r ⟨s,qY x,none⟩ (BG all (λk=>r.getD k 0) n (min 0 n)):=⟨h,oM.refl s,by unfold qY;simp,ht,λj _=>by rw[Nat.zero_min];rfl⟩;obtain⟨k1,k2⟩:=abw (Ui giant hn) hr all hall n 0 _ h0 hx aa;unfold nG;dsimp only;generalize p8 n (tT giant n) x all n 0 ⟨s,qY x,none⟩=y at k1 k2;obtain⟨ys,yt,ym⟩:=y;cases ym with
 |none=>
  have z:=aiJ k1.ok (hx.mono h k2) hr;exact⟨_,⟨z.ok,k2.trans z.ext,z.val⟩,aiS,λj hj=>by rw[oL,k1.sum j hj]⟩
 |some a=>
  obtain⟨q,q1,q2,q3⟩:=k1.sum;exact⟨q,⟨k1.ok,k2,q1⟩,q2,q3⟩
end
end Go.Proofs.YtgndjjdeopfdkaaGreat

import Derived.Test.YtgndjjdeopfdkaaGreatKLowerMeans10a
/- texts WA QTa of the proof of LowerMeansSaid -/
set_option maxHeartbeats 16000000
set_option maxRecDepth 20000
set_option linter.unusedVariables false
set_option linter.unusedSimpArgs false
namespace Go.Proofs.YtgndjjdeopfdkaaGreat
open Go.SX Go.RowKit
section
def Qv(d b:ax):ak:=⟨3,0,0,cK,0,0,0,d,b⟩
def fwG(nb:Option Addr)(nc:Nat)(t d b:ax):bM:=⟨nb,nc,[inN t 0 1,Qv d b],1⟩
theorem ag0{x:Int}(h:0<x/\x<=64):au [x]=x:=by
 unfold au;rw[if_neg aI];simp[dX];omega
variable {nb:Option Addr} {nc m:Nat} {t d b:ax}
theorem afV{n:Nat}(ht:t.xs=[(n:Int)])(hn:1<=n/\n<=32)(hm:1<=m/\m<=32)(hd:d.xs.length=m*n)(hb:b.xs.length=m)(hdb:∀x∈d.xs,fJ x)(hbb:∀x∈b.xs,fJ x):check (fwG nb nc t d b)=(0,[[(n:Int)],[(m:Int)]]):=by
 have en:au [(n:Int)]=n:=ag0 ⟨by omega,by omega⟩;have f1:cz (inN t 0 1) (([]:List (List Int)).length:Nat)=true:=by
  unfold cz inN;rw[if_pos rfl];unfold gW;simp[ht,en,cK];omega
 have s1:bP (inN t 0 1) []=some [(n:Int)]:=by
  unfold bP inN;rw[if_pos (.inl rfl)];simp[ht]
 have n1:gP (inN t 0 1)=true:=by
  unfold gP inN
  rfl
 have f2:cz (Qv d b) (([]++[[(n:Int)]]:List (List Int)).length:Nat)=true:=by
  unfold cz Qv;repeat(first|rw[if_pos rfl]|rw[if_neg ay])
  unfold gW iI;simp[hb,cK];omega
 have s2:bP (Qv d b) ([]++[[(n:Int)]])=some [(m:Int)]:=by
  unfold bP Qv;repeat(first|rw[if_pos rfl]|rw[if_neg ay])
  show(if(d.xs.length:Int)=b.xs.length*au [(n:Int)]then some [(b.xs.length:Int)]else none)=_;rw[en,hd,hb,if_pos aI]
 have n2:gP (Qv d b)=true:=by
  unfold gP Qv;rw[show nR d.xs=true from abQ hdb,show nR b.xs=true from abQ hbb]
  rfl
 unfold check fwG;rw[if_neg aI];show fq [inN t 0 1,Qv d b] []=_;rw[iE f1 s1 n1,iE f2 s2 n2]
 rfl
theorem TJ:∀(T:List Sp) (s k:Int),(∀x∈T,0<=x.1/\x.1<=9)->0<=s->s<=k->(0<=T.foldl (Qt (0,1)) s/\T.foldl (Qt (0,1)) s<=k+9*T.length)/\(0<=T.foldl (Qu (0,1)) s/\T.foldl (Qu (0,1)) s<=k+9*T.length)
 |[],s,k,_,h0,h1=>⟨⟨h0,by simpa using h1⟩,⟨h0,by simpa using h1⟩⟩
 |x::r,s,k,h,h0,h1=>by
  obtain⟨x0,x1⟩:=h x YV;have e1:Qt (0,1) s x=s:=by unfold Qt;simp only[Int.mul_zero,Int.mul_one];omega
  have e2:Qu (0,1) s x=s+x.1:=by unfold Qu;simp only[Int.mul_zero,Int.mul_one];omega
  rw[ahb,ahb,e1,e2,ahN];have i1:=(TJ r s (k+9) (λy hy=>h y (aeg _ hy)) h0 aa).1;have i2:=(TJ r (s+x.1) (k+9) (λy hy=>h y (aeg _ hy)) aa aa).2
  push_cast
  exact⟨⟨i1.1,by omega⟩,⟨i2.1,by omega⟩⟩
theorem aji{f:Int->Int->Int}{lo hi:Int}(hf:∀a b,f a b=a\/f a b=b)(h00:lo<=0/\0<=hi):∀l:List Int,(∀x∈l,lo<=x/\x<=hi)->lo<=foldI f l/\foldI f l<=hi
 |[],_=>h00
 |x::r,h=>by
  have key:∀(l:List Int) (s:Int),(lo<=s/\s<=hi)->(∀x∈l,lo<=x/\x<=hi)->lo<=l.foldl f s/\l.foldl f s<=hi:=by
   intro l;induction l with
   |nil=>intro s hs _;exact hs
   |cons y q ih=>
    intro s hs hq;rw[ahb];refine ih _ ?_ (λz hz=>hq z (aeg _ hz));rcases hf s y with e|e<;>rw[e]
    ·exact hs
    ·exact hq y YV
  exact key r x (h x YV) (λz hz=>h z (aeg _ hz))
theorem afy{n:Nat}(ht:t.xs=[(n:Int)])(hn:1<=n/\n<=32)(hm:1<=m/\m<=32)(hd:d.xs.length=m*n)(hb:b.xs.length=m)(hdb:∀x∈d.xs,0<=x/\x<=9)(hbb:∀x∈b.xs,x=0):(cZ (fwG nb nc t d b)).1=0:=by
 have hc:=afV (nb:=nb) (nc:=nc) ht hn hm hd hb (λx hx=>by have:=hdb x hx;unfold fJ;omega) (λx hx=>by have:=hbb x hx;unfold fJ;omega);have getD_in:∀{p:Int->Prop} {l:List Int} (k:Nat),(∀x∈l,p x)->p 0->p (l.getD k 0):=λ{p l} k h h0=>by
  by_cases hk:k<l.length
  ·rw[TR,YL hk];exact h _ (aby hk)
  ·rw[TR,aiQ aa];exact h0
 have hmin:∀a b:Int,min a b=a\/min a b=b:=λa b=>by omega
 have hmax:∀a b:Int,max a b=a\/max a b=b:=λa b=>by omega
 unfold cZ;rw[hc];show(if(0:Int)≠0 then _ else iJ [[(n:Int)],[(m:Int)]] [inN t 0 1,Qv d b] []).1=0;rw[if_neg ay];have e1:jm [[(n:Int)],[(m:Int)]] (inN t 0 1) []=[0,1]:=rfl;rw[iJ,e1,if_neg ay];have hT:∀o,∀x∈dZ (Qv d b) [(n:Int)] o,0<=x.1/\x.1<=9:=λo x hx=>by
  have hx:x∈uK (Qv d b) o (au [(n:Int)]).toNat:=hx;obtain⟨i,_,rfl⟩:=abl.1 hx;exact getD_in (p:=λz=>0<=z/\z<=9) _ hdb ⟨by decide,by decide⟩
 have hTl:∀o,(dZ (Qv d b) [(n:Int)] o).length=n:=λo=>by
  show(uK (Qv d b) o (au [(n:Int)]).toNat).length=n;rw[ag0 ⟨by omega,by omega⟩];simp[uK]
 have e2:jm [[(n:Int)],[(m:Int)]] (Qv d b) ([]++[(foldI min [0,1],foldI max [0,1])])=nH (Qv d b) (au [(m:Int)]).toNat (dZ (Qv d b) [(n:Int)]) (0,1):=rfl;have hall:∀x∈nH (Qv d b) (au [(m:Int)]).toNat (dZ (Qv d b) [(n:Int)]) (0,1),-1000<=x/\x<=1000:=λx hx=>by
  obtain⟨o,_,hx⟩:=am5.1 hx;have hB:dV (Qv d b) (au [(m:Int)]).toNat o=0:=by
   show b.xs.getD o 0=0;exact getD_in (p:=λz=>z=0) _ hbb rfl
  have hs:=TJ (dZ (Qv d b) [(n:Int)] o) 0 0 (hT o) ay ay;rw[hTl o]at hs;rw[hB]at hx;rcases abr.1 hx with rfl|hx
  ·omega
  ·rw[afe.1 hx];omega
 have b1:=aji hmin (lo:= -1000) (hi:=1000) ⟨by decide,by decide⟩ _ hall;have b2:=aji hmax (lo:= -1000) (hi:=1000) ⟨by decide,by decide⟩ _ hall;rw[iJ,e2,if_neg aa,iJ]
end
section
abbrev akQ:DT:=(bS [0,3,4,5,6,7,8,9,10,13,14,15,16,17,101,2,111,12,118,19,120,21] .done)
abbrev alj:DT:=(bS [0,1,2,3,4,5,6,7,8,9,10,11,12,13,14,15,16,17,19,20,21,22,118,123,24,125] .done)
structure abY(sv:aY)(x:ak×Bool):Prop where
 good:lZ x.1 (sv.l.map (·.xs))
 akq:x.2=true->x.1.az∈sv.l
abbrev ai4(w:World)(b:Nat)(t:gF)(sv:aY):Ending->World->Prop:=RP w b t (λx:ak×Bool=>x.1.p9) (λx=>y5 x.1 x.2) (abY sv)
variable {sv:aY} {v:SV}
theorem jT{w:World}{b:Nat}{t:gF}{H:Heap}{S:bR}{nx k:Nat}(h0:(0,b_.box (cs (iH t k)) 49)∈H)(hk:k<=t.bs.length)(hS:∀R w',S.holds R w'->(l_ w b).holds R w')
 (h:∀ρ w',dO ⟨w,[(0,mQ b)]⟩ ρ nx H S w'->∃x:ak×Bool,v.rf ρ=x.1.p9/\abY sv x/\(y5 x.1 x.2).holds (λy=>w.heap.size<=y/\y<w'.heap.size) w'):jS ⟨w,[(0,mQ b)]⟩ v H S nx (ai4 w b t sv):=
 dK λρ w' hw=>by
  obtain⟨x,e,hx,hd⟩:=h ρ w' hw;exact⟨(x,k),⟨hx,hk⟩,by rw[e],(qR hw hS h0).1,(qR hw hS h0).2,hd⟩
theorem M7{i:Nat}(h:i<sv.l.length):(sv.l.map (·.xs)).getD i []=sv.l[i].xs:=by simp[List.getD,h]
variable {x:Int}
theorem xw(h: -4<=x/\x<=4):nA [x]:=λy hy=>by simp at hy;subst hy;exact h
theorem abZ{y z:Int}(h1: -4<=x/\x<=4)(h2: -4<=y/\y<=4)(h3: -4<=z/\z<=4):nA [x,y,z]:=λu hu=>by
 simp only[abr,aiF,or_false]at hu;rcases hu with rfl|rfl|rfl<;>assumption
variable {ρ:Nat->SX.Loc} {u:ax} {k b c d:Int} {y:Value}
theorem Sa{a e:Int}{x:Value}(h:v.rf ρ=u.val):(SV.agg [aC k,aC a,aC b,v,aC c,aC d,aC e,.c x,.c y]).rf ρ= .agg #[.int .i64 k,.int .i64 a,.int .i64 b,u.val,.int .i64 c,.int .i64 d,.int .i64 e,x,y]:=by
 simp only[SV.rf,SV.dW]at h|-
 rw[h]
theorem Cc{a e:Int}{x:Value}(h:v.rf ρ=u.val):(SV.agg [aC k,aC a,aC b,.c x,aC c,aC d,aC e,v,.c y]).rf ρ= .agg #[.int .i64 k,.int .i64 a,.int .i64 b,x,.int .i64 c,.int .i64 d,.int .i64 e,u.val,y]:=by
 simp only[SV.rf,SV.dW]at h|-
 rw[h]
theorem afW(w:World)(b:Nat)(t:gF)(k:Nat)(h:u7 w b t k)(sv:aY)(hsv:(jD sv).holds (oth w b) w)(hl:1<=sv.l.length/\sv.l.length<=23)(xz:∀u∈sv.l,u.bF)(hok:∀u∈sv.l,uH u.xs):
 Calls Tryz.prog 41 #[.pointer (some ⟨b,0,none⟩),sv.val] w (ai4 w b t sv):=by
 obtain⟨hs,hby,hd,hk,hb⟩:=h;obtain⟨sb,hsb⟩:∃a,sv.base=some a:=aT (j:=0) (bf hsv.1) nO;have hlm:(sv.l.map (·.xs)).length=sv.l.length:=aas _;refine pq tab bW Tryz.func41 rfl rfl rfl [(0,mQ b)] (λ_=>mQ b) [.lp 0 0 0 0,.c sv.val] _ (l_ w b) 1 oo rfl fO (xn hb) ?_;repeat' ((conv=>whnf)<;>first|refine a_ ?_|refine ag ?_ ?_<;>intro _)
 all_goals
  first
   |refine eY (f:=40) [.int .i64 3] t k _ aO Tryz.call40 hs hby hk (λR w' h=>bC hd dQ) (λw' b' ht=>iB w' b' t k ht 3 ⟨by decide,by decide⟩) (λr k1 hr hk1=> ?_)
   |refine eY (f:=40) [.int .i64 sv.l.length] t k _ aO Tryz.call40 hs hby hk (λR w' h=>bC hd dQ) (λw' b' ht=>iB w' b' t k ht sv.l.length ⟨by omega,by omega⟩) (λr k1 hr hk1=> ?_)
  obtain⟨i,hia,hil⟩:∃i:Nat,(sv.l.length:Int)-1-r=i/\i<sv.l.length:=⟨((sv.l.length:Int)-1-r).toNat,by have:=hr.1;have:=hr.2.1;have:=hr.2.2;omega,by have:=hr.1;have:=hr.2.1;have:=hr.2.2;omega⟩;have hgi:=M7 hil;have IZ:=aby hil;have hrow:=fQ hil;generalize sv.l[i]=u at*;have iL:=xz u IZ;have Lx:=hok u IZ;have hup:=Lx.pos;have huf:=Lx.few;have hi2:i<(sv.l.map (·.xs)).length:=by rw[hlm];exact hil
  have D5:(sv.l.map (·.xs)).length<=24:=by rw[hlm];omega
  have hr0:=hr.1;have hr1:=hr.2.1;have hr2:=hr.2.2;repeat' ((conv=>whnf)<;>first|(show dn ..;refine aM sb i hsb hia hil ?_)|(show gZ ..;(refine bN (λR w' h=>by rw[<-hsb];exact bf (bC hsv h).1) _ _ hrow rfl ?_))|(show aJ _ 42 ..;refine aR (f:=42) Tryz.call42 (.int .i64 (au u.xs)) (λρ w' hw=>kr w' u.base u.cap u.xs (ae hw λR h=>bf ((bC hsv h).2 u IZ))) ?_)|refine a_ ?_)
  refine eY (f:=40) [.int .i64 9] t k1 _ aO Tryz.call40 hs hby hk1 (λR w' h=>bC hd dQ) (λw' b' ht=>iB w' b' t k1 ht 9 ⟨by decide,by decide⟩) (λq k2 hq hk2=> ?_);have hq9:q=0\/q=1\/q=2\/q=3\/q=4\/q=5\/q=6\/q=7\/q=8:=by have:=hq.1;have:=hq.2.1 aa;omega
  rcases hq9 with rfl|rfl|rfl|rfl|rfl|rfl|rfl|rfl|rfl
  ·repeat' ((conv=>whnf)<;>first|refine a_ ?_|refine ag ?_ ?_<;>intro _)
   refine wY (f:=88) [.int .i64 (au u.xs)] t k2 ax.val bX _ aO Tryz.call88 hs hby hk2 (λR w' h=>bC hd dQ) (λR w' b' ht _ _=>Bf w' b' t k2 ht (au u.xs) aa aa) (λd k3 hdd hk3=> ?_);repeat' ((conv=>whnf)<;>first|refine a_ ?_|refine ag ?_ ?_<;>intro _)
   conv=>whnf
   exact jT aO hk3 (λ_ _ h=>h.1) (λρ w' hw=>⟨(⟨2,0,0,u,0,0,0,d,cK⟩,true),rfl,⟨YU iL Lx hdd.2.2 (by rw[hdd.1];omega) hdd.2.1,λ_=>IZ⟩,⟨λe=>(by cases e),lW hw (λ_ _ h=>h.2),dI _ _⟩⟩)
  ·repeat' ((conv=>whnf)<;>first|refine a_ ?_|refine ag ?_ ?_<;>intro _)
   refine eY (f:=40) [.int .i64 4] t k2 _ aO Tryz.call40 hs hby hk2 (λR w' h=>bC hd dQ) (λw' b' ht=>iB w' b' t k2 ht 4 ⟨by omega,by omega⟩) (λo k3 ho hk3=> ?_);have ho0:=ho.1;have ho1:=ho.2.1 aa;have hm:1<=(1+o)*au u.xs/\(1+o)*au u.xs<=72:=by
    have g1:(1+o)*au u.xs<=4*18:=ag8 aa huf aa aa;have g2:1*1<=(1+o)*au u.xs:=ag8 aa hup aa aa;omega
   repeat' ((conv=>whnf)<;>first|refine a_ ?_|refine ag ?_ ?_<;>intro _)
   refine wY (f:=88) [.int .i64 ((1+o)*au u.xs)] t k3 ax.val bX _ aO Tryz.call88 hs hby hk3 (λR w' h=>bC hd dQ) (λR w' b' ht _ _=>Bf w' b' t k3 ht ((1+o)*au u.xs) aa aa) (λd k4 hdd hk4=> ?_);repeat' ((conv=>whnf)<;>first|refine a_ ?_|refine ag ?_ ?_<;>intro _)
   refine wY (f:=88) [.int .i64 (1+o)] t k4 ax.val bX _ aO Tryz.call88 hs hby hk4 (λR w' h=>bC hd dQ) (λR w' b' ht _ _=>Bf w' b' t k4 ht (1+o) aa aa) (λe k5 hee hk5=> ?_);repeat' ((conv=>whnf)<;>first|refine a_ ?_|refine ag ?_ ?_<;>intro _)
   conv=>whnf
   have hel:(e.xs.length:Int)=1+o:=by rw[hee.1];omega
   exact jT aO hk5 (λ_ _ h=>h.1.1) (λρ w' hw=>⟨(⟨3,((sv.l.length:Int)-1-r),0,cK,0,0,0,d,e⟩,false),rfl,⟨by rw[hia];exact MC hi2 hgi Lx hdd.2.2 hee.2.2 ⟨by omega,by omega⟩ (by rw[hel,hdd.1];omega) hdd.2.1 hee.2.1 D5,λh=>bT⟩,⟨λ_=>dI _ _,lW hw (λ_ _ h=>h.1.2),lW hw (λ_ _ h=>h.2)⟩⟩)
  ·repeat' ((conv=>whnf)<;>first|refine a_ ?_|refine ag ?_ ?_<;>intro _)
   refine eY (f:=40) [.int .i64 4] t k2 _ aO Tryz.call40 hs hby hk2 (λR w' h=>bC hd dQ) (λw' b' ht=>iB w' b' t k2 ht 4 ⟨by omega,by omega⟩) (λo k3 ho hk3=> ?_);have ho0:=ho.1;have ho1:=ho.2.1 aa;have hm:1<=(1+o)*au u.xs/\(1+o)*au u.xs<=72:=by
    have g1:(1+o)*au u.xs<=4*18:=ag8 aa huf aa aa;have g2:1*1<=(1+o)*au u.xs:=ag8 aa hup aa aa;omega
   repeat' ((conv=>whnf)<;>first|refine a_ ?_|refine ag ?_ ?_<;>intro _)
   refine wY (f:=88) [.int .i64 ((1+o)*au u.xs)] t k3 ax.val bX _ aO Tryz.call88 hs hby hk3 (λR w' h=>bC hd dQ) (λR w' b' ht _ _=>Bf w' b' t k3 ht ((1+o)*au u.xs) aa aa) (λd k4 hdd hk4=> ?_);repeat' ((conv=>whnf)<;>first|refine a_ ?_|refine ag ?_ ?_<;>intro _)
   refine wY (f:=88) [.int .i64 (1+o)] t k4 ax.val bX _ aO Tryz.call88 hs hby hk4 (λR w' h=>bC hd dQ) (λR w' b' ht _ _=>Bf w' b' t k4 ht (1+o) aa aa) (λe k5 hee hk5=> ?_);repeat' ((conv=>whnf)<;>first|refine a_ ?_|refine ag ?_ ?_<;>intro _)
   conv=>whnf
   have hel:(e.xs.length:Int)=1+o:=by rw[hee.1];omega
   exact jT aO hk5 (λ_ _ h=>h.1.1) (λρ w' hw=>⟨(⟨3,((sv.l.length:Int)-1-r),0,cK,0,0,0,d,e⟩,false),rfl,⟨by rw[hia];exact MC hi2 hgi Lx hdd.2.2 hee.2.2 ⟨by omega,by omega⟩ (by rw[hel,hdd.1];omega) hdd.2.1 hee.2.1 D5,λh=>bT⟩,⟨λ_=>dI _ _,lW hw (λ_ _ h=>h.1.2),lW hw (λ_ _ h=>h.2)⟩⟩)
  ·by_cases h3:u.xs.length=3
   ·obtain⟨_,p0,p00,p1,p2,_,p3,p4⟩:=acd Lx h3;obtain⟨ua,rO⟩:∃a,u.base=some a:=aT (j:=0) (bf (hsv.2 u IZ)) dS;have hur:∀(R:Nat->Prop) w',(l_ w b).holds R w'->bE w' (some ua) 1 (aZ u.xs):=λR w' h=>by rw[<-rO];exact bf ((bC hsv h).2 u IZ)
    repeat' ((conv=>whnf)<;>first|refine sw ?_|refine tC ?_|refine eU ?_|refine oJ ?_|refine nY ?_|refine kZ ?_|refine kX ?_|refine jZ ?_|refine j6 ?_|refine tH ?_|refine sK ?_|refine a_ ?_|refine ag ?_ ?_<;>intro _)
    all_goals
     refine eY (f:=40) [.int .i64 (2)] t k2 _ aO Tryz.call40 hs hby hk2 (λR w' h=>bC hd dQ) (λw' b' ht=>iB w' b' t k2 ht (2) ⟨by omega,by omega⟩) (λc0 k3 hc0 hk3=> ?_);have apU:=hc0.1;have ap6:=hc0.2.1 aa;repeat' ((conv=>whnf)<;>first|refine sw ?_|refine tC ?_|refine eU ?_|refine oJ ?_|refine nY ?_|refine kZ ?_|refine kX ?_|refine jZ ?_|refine j6 ?_|refine tH ?_|refine sK ?_|refine a_ ?_|refine ag ?_ ?_<;>intro _)
     first
      |refine eY (f:=40) [.int .i64 (2)] t k3 _ aO Tryz.call40 hs hby hk3 (λR w' h=>bC hd dQ) (λw' b' ht=>iB w' b' t k3 ht (2) ⟨by omega,by omega⟩) (λc1 k4 hc1 hk4=> ?_)
      |refine eY (f:=40) [.int .i64 (u.xs.getD 1 0)] t k3 _ aO Tryz.call40 hs hby hk3 (λR w' h=>bC hd dQ) (λw' b' ht=>iB w' b' t k3 ht (u.xs.getD 1 0) ⟨by omega,by omega⟩) (λc1 k4 hc1 hk4=> ?_)
     have apn:0<=c1/\c1<2/\c1<u.xs.getD 1 0:=by have:=hc1.1;have:=hc1.2.1;have:=hc1.2.2;omega
     repeat' ((conv=>whnf)<;>first|refine sw ?_|refine tC ?_|refine eU ?_|refine oJ ?_|refine nY ?_|refine kZ ?_|refine kX ?_|refine jZ ?_|refine j6 ?_|refine tH ?_|refine sK ?_|refine a_ ?_|refine ag ?_ ?_<;>intro _)
     first
      |refine eY (f:=40) [.int .i64 (2)] t k4 _ aO Tryz.call40 hs hby hk4 (λR w' h=>bC hd dQ) (λw' b' ht=>iB w' b' t k4 ht (2) ⟨by omega,by omega⟩) (λc2 k5 hc2 hk5=> ?_)
      |refine eY (f:=40) [.int .i64 (u.xs.getD 2 0)] t k4 _ aO Tryz.call40 hs hby hk4 (λR w' h=>bC hd dQ) (λw' b' ht=>iB w' b' t k4 ht (u.xs.getD 2 0) ⟨by omega,by omega⟩) (λc2 k5 hc2 hk5=> ?_)
     have hc22:0<=c2/\c2<2/\c2<u.xs.getD 2 0:=by have:=hc2.1;have:=hc2.2.1;have:=hc2.2.2;omega
     have m1:(1+c0)*u.xs.getD 0 0<=2*2:=ag8 aa aa aa aa;have n1:1*1<=(1+c0)*u.xs.getD 0 0:=ag8 aa aa aa aa;have m2:(1+c0)*u.xs.getD 0 0*(1+c1)<=4*2:=ag8 m1 aa aa aa;have n2:1*1<=(1+c0)*u.xs.getD 0 0*(1+c1):=ag8 n1 aa aa aa;have m3:(1+c0)*u.xs.getD 0 0*(1+c1)*(1+c2)<=8*2:=ag8 m2 aa aa aa;have n3:1*1<=(1+c0)*u.xs.getD 0 0*(1+c1)*(1+c2):=ag8 n2 aa aa aa;repeat' ((conv=>whnf)<;>first|refine sw ?_|refine tC ?_|refine eU ?_|refine oJ ?_|refine nY ?_|refine kZ ?_|refine kX ?_|refine jZ ?_|refine j6 ?_|refine tH ?_|refine sK ?_|refine a_ ?_|refine ag ?_ ?_<;>intro _)
     refine wY (f:=88) [.int .i64 ((1+c0)*u.xs.getD 0 0*(1+c1)*(1+c2))] t k5 ax.val bX _ aO Tryz.call88 hs hby hk5 (λR w' h=>bC hd dQ) (λR w' b' ht _ _=>Bf w' b' t k5 ht ((1+c0)*u.xs.getD 0 0*(1+c1)*(1+c2)) aa aa) (λd k6 hdd hk6=> ?_);repeat' ((conv=>whnf)<;>first|refine sw ?_|refine tC ?_|refine eU ?_|refine oJ ?_|refine nY ?_|refine kZ ?_|refine kX ?_|refine jZ ?_|refine j6 ?_|refine tH ?_|refine sK ?_|refine a_ ?_|refine ag ?_ ?_<;>intro _)
     refine wY (f:=88) [.int .i64 (1+c0)] t k6 ax.val bX _ aO Tryz.call88 hs hby hk6 (λR w' h=>bC hd dQ) (λR w' b' ht _ _=>Bf w' b' t k6 ht (1+c0) aa aa) (λe k7 hee hk7=> ?_);repeat' ((conv=>whnf)<;>first|refine sw ?_|refine tC ?_|refine eU ?_|refine oJ ?_|refine nY ?_|refine kZ ?_|refine kX ?_|refine jZ ?_|refine j6 ?_|refine tH ?_|refine sK ?_|refine a_ ?_|refine ag ?_ ?_<;>intro _)
     conv=>whnf
     exact jT aO hk7 (λ_ _ h=>h.1.1) (λρ w' hw=>by
      obtain⟨v,e1,e2,e3,e4⟩:=xM (xs:=[1+c0,u.xs.getD 0 0,1+c1,1+c2]) hw (λ_ _ h=>h.1.1) aO aO ay rfl (by intro x hx;simp only[abr,aiF,or_false]at hx;rcases hx with rfl|rfl|rfl|rfl<;>exact⟨by omega,by omega⟩) aI;exact⟨(⟨4,((sv.l.length:Int)-1-r),0,v,0,0,0,d,e⟩,false),Sa e1,⟨by rw[hia];exact adq (k0:=1+c0) (k2:=1+c1) (k3:=1+c2) hi2 hgi Lx h3 ⟨by omega,by omega⟩ ⟨by omega,by omega,by omega⟩ ⟨by omega,by omega,by omega⟩ e3 e2 hdd.2.2 hee.2.2 (by rw[hdd.1];omega) (by rw[hee.1];omega) hdd.2.1 hee.2.1 D5,λh=>bT⟩,⟨λ_=>e4,lW hw (λ_ _ h=>h.1.2),lW hw (λ_ _ h=>h.2)⟩⟩)
   ·repeat' ((conv=>whnf)<;>first|refine a_ ?_|refine ag ?_ ?_<;>intro _)
    refine eY (f:=87) [] t k2 _ aO Tryz.call87 hs hby hk2 (λR w' h=>bC hd dQ) (λw' b' ht=>qI w' b' t k2 ht) (λy ky hy hky=> ?_);repeat' ((conv=>whnf)<;>first|refine a_ ?_|refine ag ?_ ?_<;>intro _)
    conv=>whnf
    exact jT aO hky (λ_ _ h=>h) (λρ w' hw=>by
     obtain⟨d,e1,e2,e3,e4⟩:=xM (xs:=[y]) hw (λ_ _ h=>h) aO aO ay rfl (vR (xw hy)) aI;exact⟨(⟨7,((sv.l.length:Int)-1-r),0,cK,0,0,0,d,cK⟩,false),Cc e1,⟨by rw[hia];exact zD hi2 hgi Lx e3 wW (e2▸xw hy) D5,λh=>bT⟩,⟨λ_=>dI _ _,e4,dI _ _⟩⟩)
  ·by_cases h3:u.xs.length=3
   ·obtain⟨_,_,_,p1,p2,_,p3,p4⟩:=acd Lx h3;obtain⟨ua,rO⟩:∃a,u.base=some a:=aT (j:=0) (bf (hsv.2 u IZ)) dS;have hur:∀(R:Nat->Prop) w',(l_ w b).holds R w'->bE w' (some ua) 1 (aZ u.xs):=λR w' h=>by rw[<-rO];exact bf ((bC hsv h).2 u IZ)
    by_cases hev:u.xs.getD 1 0%2=0/\u.xs.getD 2 0%2=0
    ·repeat' ((conv=>whnf)<;>first|refine kZ ?_|refine kX ?_|refine jZ ?_|refine j6 ?_|refine mG ?_|refine a_ ?_|refine ag ?_ ?_<;>intro _)
     conv=>whnf
     exact jT aO hk2 (λ_ _ h=>h) (λρ w' hw=>⟨(⟨5,((sv.l.length:Int)-1-r),0,cK,0,0,2,cK,cK⟩,false),rfl,⟨by rw[hia];exact adN hi2 hgi Lx h3 hev.1 hev.2 D5,λh=>bT⟩,⟨λ_=>dI _ _,dI _ _,dI _ _⟩⟩)
    ·repeat' ((conv=>whnf)<;>first|refine kZ ?_|refine kX ?_|refine jZ ?_|refine j6 ?_|refine mG ?_|refine a_ ?_|refine ag ?_ ?_<;>intro _)
     all_goals
      refine eY (f:=87) [] t k2 _ aO Tryz.call87 hs hby hk2 (λR w' h=>bC hd dQ) (λw' b' ht=>qI w' b' t k2 ht) (λy ky hy hky=> ?_);repeat' ((conv=>whnf)<;>first|refine a_ ?_|refine ag ?_ ?_<;>intro _)
      conv=>whnf
      exact jT aO hky (λ_ _ h=>h) (λρ w' hw=>by
       obtain⟨d,e1,e2,e3,e4⟩:=xM (xs:=[y]) hw (λ_ _ h=>h) aO aO ay rfl (vR (xw hy)) aI;exact⟨(⟨7,((sv.l.length:Int)-1-r),0,cK,0,0,0,d,cK⟩,false),Cc e1,⟨by rw[hia];exact zD hi2 hgi Lx e3 wW (e2▸xw hy) D5,λh=>bT⟩,⟨λ_=>dI _ _,e4,dI _ _⟩⟩)
   ·repeat' ((conv=>whnf)<;>first|refine a_ ?_|refine ag ?_ ?_<;>intro _)
    refine eY (f:=87) [] t k2 _ aO Tryz.call87 hs hby hk2 (λR w' h=>bC hd dQ) (λw' b' ht=>qI w' b' t k2 ht) (λy ky hy hky=> ?_);repeat' ((conv=>whnf)<;>first|refine a_ ?_|refine ag ?_ ?_<;>intro _)
    conv=>whnf
    exact jT aO hky (λ_ _ h=>h) (λρ w' hw=>by
     obtain⟨d,e1,e2,e3,e4⟩:=xM (xs:=[y]) hw (λ_ _ h=>h) aO aO ay rfl (vR (xw hy)) aI;exact⟨(⟨7,((sv.l.length:Int)-1-r),0,cK,0,0,0,d,cK⟩,false),Cc e1,⟨by rw[hia];exact zD hi2 hgi Lx e3 wW (e2▸xw hy) D5,λh=>bT⟩,⟨λ_=>dI _ _,e4,dI _ _⟩⟩)
  ·repeat' ((conv=>whnf)<;>first|refine a_ ?_|refine ag ?_ ?_<;>intro _)
   refine Wp.loop (σ:=Nat×Nat) 2 (λ⟨j,_⟩=>[(126,aC sv.l.length),(127,aC j),(0,.lp 0 0 0 0),(1,.c sv.val),(6,.c u.val),(5,aC ((sv.l.length:Int)-1-r)),(4,.lp 1 0 0 0)]) (λ⟨_,kt⟩=>[(1,.box (cs [.int .i64 0,.int .i64 0,.int .i64 0,.slice none 0 0,.int .i64 0,.int .i64 0,.int .i64 0,.slice none 0 0,.slice none 0 0]) 41),(0,.box (cs (iH t kt)) 49)]) (λ_=>l_ w b)
    (λ⟨j,kt⟩=>j<=sv.l.length/\kt<=t.bs.length) (λs=>sv.l.length-s.1) (0,k2) [] ay (λs=>⟨rfl,rfl⟩) ⟨by simp,hk2⟩ ⟨rfl,⟨rfl,rfl,rfl,rfl,rfl,rfl,rfl,trivial⟩,⟨YV,aeg _ YV,trivial⟩,λ_ _ h=>h⟩ ?_
   rintro⟨j,kt⟩ ⟨hj,hkt⟩;by_cases hlt:j<sv.l.length
   ·have hgj:=M7 hlt;have hvm:=aby hlt;have aba:=fQ hlt;generalize sv.l[j]=v at*;have hj2:j<(sv.l.map (·.xs)).length:=by rw[hlm];exact hlt
    repeat' ((conv=>whnf)<;>first|(show dn ..;refine aM sb j hsb rfl hlt ?_)|(show gZ ..;(refine bN (λR w' h=>by rw[<-hsb];exact bf (bC hsv h).1) _ _ aba rfl ?_))|(show aJ _ 20 ..;((refine jR (f:=20) Tryz.call20 _ (λρ w' hw=>Nv w' v u (ae hw λR h=>dw (xz v hvm) ((bC hsv h).2 v hvm)) (ae hw λR h=>dw iL ((bC hsv h).2 u IZ))) ?_ ?_<;>intro he)))|(show aJ _ 40 ..;(refine eY (f:=40) [.int .i64 2] t kt _ aO Tryz.call40 hs hby hkt (λR w' h=>bC hd dQ) (λw' b' ht=>iB w' b' t kt ht 2 ⟨by decide,by decide⟩) (λz k3 hz hk3=> ?_)))|refine a_ ?_|refine ag ?_ ?_<;>intro _)
    ·conv=>whnf
     exact jT aO hk3 (λ_ _ h=>h) (λρ w' hw=>⟨(⟨6,((sv.l.length:Int)-1-r),j,cK,0,0,0,cK,cK⟩,false),rfl,⟨by rw[hia];exact Vz hi2 hj2 hgi (hgj.trans (of_decide_eq_true he)) Lx D5,λh=>bT⟩,⟨λ_=>dI _ _,dI _ _,dI _ _⟩⟩)
    ·exact⟨(j+1,k3),[],⟨hlt,hk3⟩,by simp only;omega,rfl,fE,⟨YV,aeg _ YV,trivial⟩,λ_ _ h=>h⟩
    ·exact⟨(j+1,kt),[],⟨hlt,hkt⟩,by simp only;omega,rfl,fE,⟨YV,aeg _ YV,trivial⟩,λ_ _ h=>h⟩
   ·repeat' ((conv=>whnf)<;>first|refine a_ ?_|refine ag ?_ ?_<;>intro _)
    conv=>whnf
    exact jT aO hkt (λ_ _ h=>h) (λρ w' hw=>⟨(⟨6,((sv.l.length:Int)-1-r),((sv.l.length:Int)-1-r),cK,0,0,0,cK,cK⟩,false),rfl,⟨by rw[hia];exact Vz hi2 hi2 hgi hgi Lx D5,λh=>bT⟩,⟨λ_=>dI _ _,dI _ _,dI _ _⟩⟩)
  ·repeat' ((conv=>whnf)<;>first|refine a_ ?_|refine ag ?_ ?_<;>intro _)
   refine eY (f:=87) [] t k2 _ aO Tryz.call87 hs hby hk2 (λR w' h=>bC hd dQ) (λw' b' ht=>qI w' b' t k2 ht) (λx k3 hx hk3=> ?_);repeat' ((conv=>whnf)<;>first|refine a_ ?_|refine ag ?_ ?_<;>intro _)
   refine eY (f:=87) [] t k3 _ aO Tryz.call87 hs hby hk3 (λR w' h=>bC hd dQ) (λw' b' ht=>qI w' b' t k3 ht) (λy k4 hy hk4=> ?_);repeat' ((conv=>whnf)<;>first|refine a_ ?_|refine ag ?_ ?_<;>intro _)
   refine eY (f:=40) [.int .i64 3] t k4 _ aO Tryz.call40 hs hby hk4 (λR w' h=>bC hd dQ) (λw' b' ht=>iB w' b' t k4 ht 3 ⟨by omega,by omega⟩) (λz k5 hz hk5=> ?_);have hz0:=hz.1;have hz1:=hz.2.1 aa;have hz2: -4<=z-1/\z-1<=4:=by omega
   repeat' ((conv=>whnf)<;>first|refine a_ ?_|refine ag ?_ ?_<;>intro _)
   conv=>whnf
   exact jT aO hk5 (λ_ _ h=>h) (λρ w' hw=>by
    obtain⟨d,e1,e2,e3,e4⟩:=xM (xs:=[x,y,z-1]) hw (λ_ _ h=>h) aO aO ay rfl (vR (abZ hx hy hz2)) aI;exact⟨(⟨8,((sv.l.length:Int)-1-r),0,cK,0,0,0,d,cK⟩,false),Cc e1,⟨by rw[hia];exact aam hi2 hgi Lx e3 wW (e2▸abZ hx hy hz2) D5,λh=>bT⟩,⟨λ_=>dI _ _,e4,dI _ _⟩⟩)
  ·repeat' ((conv=>whnf)<;>first|refine a_ ?_|refine ag ?_ ?_<;>intro _)
   conv=>whnf
   exact jT aO hk2 (λ_ _ h=>h) (λρ w' hw=>by
    obtain⟨d,e1,e2,e3,e4⟩:=xM (xs:=[au u.xs]) hw (λ_ _ h=>h) aO aO ay rfl (by intro x hx;rw[afe]at hx;subst hx;exact⟨by omega,by omega⟩) aI;exact⟨(⟨9,((sv.l.length:Int)-1-r),0,d,0,0,0,cK,cK⟩,false),Sa e1,⟨by rw[hia];exact acL hi2 hgi Lx e3 e2 D5,λh=>bT⟩,⟨λ_=>e4,dI _ _,dI _ _⟩⟩)
  ·repeat' ((conv=>whnf)<;>first|refine a_ ?_|refine ag ?_ ?_<;>intro _)
   refine eY (f:=87) [] t k2 _ aO Tryz.call87 hs hby hk2 (λR w' h=>bC hd dQ) (λw' b' ht=>qI w' b' t k2 ht) (λy ky hy hky=> ?_);repeat' ((conv=>whnf)<;>first|refine a_ ?_|refine ag ?_ ?_<;>intro _)
   conv=>whnf
   exact jT aO hky (λ_ _ h=>h) (λρ w' hw=>by
    obtain⟨d,e1,e2,e3,e4⟩:=xM (xs:=[y]) hw (λ_ _ h=>h) aO aO ay rfl (vR (xw hy)) aI;exact⟨(⟨7,((sv.l.length:Int)-1-r),0,cK,0,0,0,d,cK⟩,false),Cc e1,⟨by rw[hia];exact zD hi2 hgi Lx e3 wW (e2▸xw hy) D5,λh=>bT⟩,⟨λ_=>dI _ _,e4,dI _ _⟩⟩)
end
end Go.Proofs.YtgndjjdeopfdkaaGreat

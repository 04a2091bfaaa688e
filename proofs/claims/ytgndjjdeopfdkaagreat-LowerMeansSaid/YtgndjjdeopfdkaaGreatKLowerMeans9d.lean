import Derived.Test.YtgndjjdeopfdkaaGreatKLowerMeans9c
/- texts MH MD of the proof of LowerMeansSaid -/
set_option maxHeartbeats 16000000
set_option maxRecDepth 20000
set_option linter.unusedVariables false
set_option linter.unusedSimpArgs false
namespace Go.Proofs.YtgndjjdeopfdkaaGreat
open Go.SX Go.RowKit
theorem aep(w:World)(b:Int):Calls Tryz.prog 67 #[.int .i64 b] w λe w'=>e= .returned (.bool (decide (b≠0)))/\Ext w w':=by
 refine fH Tryz.func67 [aC b] ?_;repeat' ((conv=>whnf)<;>first|(show @iG _ _ _;((refine ag ?_ ?_<;>intro _)))|refine a_ ?_)
 all_goals(conv=>whnf)
 all_goals first|exact bq (λ_ _ h=>h) rfl (decide_eq_true aa)|exact bq (λ_ _ h=>h) rfl (decide_eq_false aa)
def nzs(l:List Int)(i:Nat):Prop:=∀k,k<i->∀h:k<l.length,l[k]=0
theorem Wu(w:World)(u:ax)(hu:u.ok w):Calls Tryz.prog 131 #[u.val,.func (.func 67) #[] #[]] w λe w'=>(∃k:Int,e= .returned (.int .i64 k)/\(0<=k↔u.xs.any (λb=>decide (b≠0))=true))/\Ext w w':=by
 have hf:=hu.few;refine fH Tryz.func131 [.c u.val,.c (.func (.func 67) #[] #[])] ?_;repeat' ((conv=>whnf)<;>first|refine a_ ?_|refine ag ?_ ?_<;>intro _)
 refine Wp.loop (σ:=Nat) 0 (λi=>[(0,.c u.val),(1,.c (.func (.func 67) #[] #[])),(7,aC u.xs.length),(8,aC i)]) (λ_=>[]) (λ_=>aU w)
  (λi=>nzs u.xs i) (λi=>u.xs.length-i) 0 [] ay (λs=>⟨rfl,rfl⟩) (λk hk=>absurd hk (ahf k)) ⟨rfl,⟨rfl,rfl,rfl,rfl,trivial⟩,trivial,λ_ _ h=>h⟩ ?_
 intro i hi;by_cases hlt:i<u.xs.length
 ·obtain⟨ra,hra⟩:∃a,u.base=some a:=aT (j:=i) hu.rows (by rw[aP];exact hlt);have hx:u.xs.getD i 0=u.xs[i]:=by rw[TR,YL hlt];rfl
  by_cases hne:u.xs[i]=0
  ·repeat' ((conv=>whnf)<;>first|(show dn ..;refine aM ra i hra rfl hlt ?_)|(show gZ ..;(refine qQ (λR w' h=>by rw[<-hra];exact aH h hu.rows) (j:=i) hlt (hx.trans hne) ?_))|(show aJ _ 67 ..;refine aR (f:=67) Tryz.call67 (.bool false) (λρ w' hw=>aep w' 0) ?_)|refine a_ ?_|refine ag ?_ ?_<;>intro _)
   all_goals(conv=>whnf)
   all_goals refine⟨i+1,[],λk hk h=> ?_,by omega,rfl,fE,trivial,λ_ _ h=>h⟩
   rcases ack k i with h1|h1
   ·exact hi k h1 h
   ·obtain rfl:k=i:=by omega
    exact hne
  ·repeat' ((conv=>whnf)<;>first|(show dn ..;refine aM ra i hra rfl hlt ?_)|(show gZ ..;(refine qQ (λR w' h=>by rw[<-hra];exact aH h hu.rows) (j:=i) hlt hx ?_))|(show aJ _ 67 ..;(refine aR (f:=67) Tryz.call67 (.bool true) (λρ w' hw=>by have:=aep w' u.xs[i];rw[decide_eq_true hne]at this;exact this) ?_))|refine a_ ?_|refine ag ?_ ?_<;>intro _)
   all_goals(conv=>whnf)
   refine dK λρ w' hw=>⟨⟨i,rfl,λ_=>anK.2 ⟨u.xs[i],aby hlt,by simpa using hne⟩,λ_=>by omega⟩,bG hw (λ_ _ h=>h)⟩
 ·repeat' ((conv=>whnf)<;>first|refine a_ ?_|refine ag ?_ ?_<;>intro _)
  all_goals(conv=>whnf)
  refine dK λρ w' hw=>⟨⟨-1,rfl,λh=>absurd h ay,λh=> ?_⟩,bG hw (λ_ _ h=>h)⟩;obtain⟨b,hb,hx⟩:=anK.1 h;obtain⟨k,hk,rfl⟩:=am0.1 hb;exact absurd (hi k aa hk) (by simpa using hx)
theorem CR(w:World)(u:ax)(hu:u.ok w):Calls Tryz.prog 66 #[u.val,.func (.func 67) #[] #[]] w λe w'=>e= .returned (.bool (u.xs.any λb=>decide (b≠0)))/\Ext w w':=by
 refine fH Tryz.func66 [.c u.val,.c (.func (.func 67) #[] #[])] ?_;repeat' ((conv=>whnf)<;>first|(show aJ _ 131 ..;refine Ry (f:=131) Tryz.call131 (λk:Int=> .int .i64 k) (λk=>0<=k↔u.xs.any (λb=>decide (b≠0))=true) (λρ w' hw=> ?_) (λk hk=> ?_))|refine a_ ?_|refine ag ?_ ?_<;>intro _)
 ·refine(Wu w' u (ae hw λR h=>hu.later h)).mono ?_;rintro e w2 ⟨⟨k,h1,h2⟩,h3⟩;exact⟨k,h2,h1,h3⟩
 all_goals(conv=>whnf)
 all_goals rename_i h0
 ·exact bq (λ_ _ h=>h) rfl (hk.1 h0)
 ·exact bq (λ_ _ h=>h) rfl (Bool.eq_false_iff.2 λh=>h0 (hk.2 h))
theorem Y4(w:World)(b e:Nat)(u:ax)(T:TypeId)(he:e<u.xs.length)(hu:bE w u.base 1 (aZ u.xs))(h:w.heap[b]? =some (.cells [u.val].toArray T (0,0))):Calls Tryz.prog 70 #[.int .i64 e,.pointer (some ⟨b,0,none⟩)] w λen w'=>en= .returned (.int .i64 (u.xs.getD e 0))/\Ext w w':=by
 have hc:w.cell? ⟨b,0,none⟩=some u.val:=by simp[World.cell?,h]
 obtain⟨da,hda⟩:∃a,u.base=some a:=aT (j:=e) hu (by rw[aP];exact he);refine fH Tryz.func70 [aC e,.c (.pointer (some ⟨b,0,none⟩))] ?_;repeat' ((conv=>whnf)<;>first|(show dn ..;refine aM da e hda rfl he ?_)|(show gZ ..;(first|refine A9 (λR w' h=>by rw[jE (h _ (iA hc)).2];exact hc) ?_|refine qQ (λR w' h=>by rw[<-hda];exact aH h hu) (j:=e) he rfl ?_))|refine a_ ?_)
 all_goals(conv=>whnf)
 all_goals exact bZ (λ_ _ h=>h) (λ_=>rfl) rfl
structure dz(k:Nat)(a b:dL):Prop where
 more:a.code.length<=b.code.length
 few:b.code.length<=a.code.length+k
 aF:b.aF.length+a.code.length<=a.aF.length+b.code.length
 inputs:b.inputs.length+a.code.length<=a.inputs.length+b.code.length
theorem dz.refl(a:dL):dz 0 a a:=⟨Tw _,Tw _,Tw _,Tw _⟩
theorem dz.trans{j k:Nat}{a b c:dL}(h1:dz j a b)(h2:dz k b c):dz (j+k) a c:=by
 obtain⟨a1,a2,a3,a4⟩:=h1;obtain⟨b1,b2,b3,b4⟩:=h2;exact⟨by omega,by omega,by omega,by omega⟩
theorem dz.mono{j k:Nat}{a b:dL}(h:dz j a b)(hk:j<=k):dz k a b:=by
 obtain⟨a1,a2,a3,a4⟩:=h;exact⟨by omega,by omega,by omega,by omega⟩
theorem dz.lay(s:dL)(op a b k:Int):dz 1 s (bI s op a b k).1:=by
 have e:(bI s op a b k).1.code.length=s.code.length+1:=by simp[bI]
 exact⟨by omega,by omega,by rw[e];show s.aF.length+_<=_;omega,by rw[e];show s.inputs.length+_<=_;omega⟩
theorem Ue(s:dL)(r:List Int):(dF s r).1.code=s.code/\(dF s r).1.inputs=s.inputs/\(dF s r).1.aF.length<=s.aF.length+1:=by
 unfold dF;split
 ·exact⟨rfl,rfl,amN _⟩
 ·exact⟨rfl,rfl,by simp⟩
theorem dz.plain(s:dL)(r:List Int)(op a b k:Int):dz 1 s (bI (dF s r).1 op a b k).1:=by
 obtain⟨h1,h2,h3⟩:=Ue s r;have e:(bI (dF s r).1 op a b k).1.code.length=s.code.length+1:=by simp[bI,h1]
 exact⟨by omega,by omega,by rw[e];show(dF s r).1.aF.length+_<=_;omega,by rw[e];show(dF s r).1.inputs.length+_<=_;rw[h2];omega⟩
theorem dz.add(s:dL)(m:Option Int)(v:Int):dz 1 s (iU s m v).1:=by
 cases m with
 |none=>exact(dz.refl s).mono (aae _)
 |some a=>exact .lay _ _ _ _ _
theorem dz.turn(s:dL)(t:Int->Option Int)(x:Int)(i:Nat):dz 1 s (rY s t x i).1:=by
 unfold rY;split
 ·exact(dz.refl s).mono (aae _)
 ·exact .lay _ _ _ _ _
theorem dz.inner(n base:Nat)(x:Int)(y:oZ)(i:Nat)(d:List Int):dz 3 y.s (uX n base x y i d).s:=by
 unfold uX;split
 ·exact(dz.refl _).mono (aae _)
 ·exact((dz.turn y.s y.t x i).trans (dz.plain _ _ _ _ _ _)).trans (dz.add _ _ _)
theorem dz.aa9(n base:Nat)(x:Int):∀(l:List (List Int)) (i:Nat) (y:oZ),dz (3*l.length) y.s (sN n base x l i y).s
 |[],_,y=>dz.refl _
 |d::r,i,y=>by
  have h1:=dz.inner n base x y i d;have h2:=dz.aa9 n base x r (i+1) (uX n base x y i d);exact(h1.trans h2).mono EA
theorem dz.giant(n base:Nat)(x:Int)(y:oZ)(ds:List (List Int)):dz (3*ds.length+2) y.s (sV n base x y ds).s:=by
 have h:=dz.aa9 n base x ds 0 ⟨y.s,y.t,none⟩;unfold sV;dsimp only;split
 ·exact h.mono aa
 ·refine h.trans (k:=2) ?_;split
  ·exact(dz.lay _ _ _ _ _).trans (dz.add _ _ _)
  ·exact(dz.add _ _ _).mono aa
theorem dz.aa6(n g:Nat)(x:Int)(all:List (List Int))(hg:1<=g)(hl:all.length<=n):∀(f base:Nat) (y:oZ),dz (5*(n-base)) y.s (p8 n g x all f base y).s
 |0,base,y=>(dz.refl _).mono (aae _)
 |f+1,base,y=>by
  unfold p8;split
  ·rename_i hb;have h1:=dz.giant n base x y ((all.drop base).take (min n (base+g)-base));have h2:=dz.aa6 n g x all hg hl f (base+g) (sV n base x y ((all.drop base).take (min n (base+g)-base)));refine(h1.trans h2).mono ?_;have:((all.drop base).take (min n (base+g)-base)).length<=min n (base+g)-base:=by rw[aek];omega
   omega
  ·exact(dz.refl _).mono (aae _)
theorem Sj:∀(f n g:Nat),1<=g->1<=stepG f n g
 |0,_,_,h=>h
 |f+1,n,g,h=>by
  unfold stepG;split
  ·exact Sj f n (2*g) aa
  ·exact h
theorem aqz(b:Bool)(n:Nat)(hn:1<=n):1<=tT b n:=by
 unfold tT;split
 ·exact Sj _ _ _ (Tw _)
 ·exact hn
theorem dz.rows(n:Nat)(b:Bool)(s:dL)(x:Int)(all:List (List Int))(hn:1<=n)(hl:all.length<=n):dz (5*n+1) s (nG n b s x all).1:=by
 have h:=dz.aa6 n (tT b n) x all (aqz b n hn) hl n 0 ⟨s,qY x,none⟩;unfold nG;dsimp only;split
 ·exact h.trans (dz.plain _ _ _ _ _ _)
 ·exact h.mono aa
def up:Nat->Int->Int->Int
 |0,_,p=>p
 |k+1,size,p=>if p<size then up k size (p*2)else p
def Ta(xs:List Int)(aV:Int):Int:=if aV=1/\xs.length=3 then xs.getD 1 0*xs.getD 2 0 else au xs
def Jz(xs:List Int)(aV:Int):Int:=if aV=1/\xs.length=3 then up 7 (xs.getD 1 0*xs.getD 2 0) 1 else au xs
def kD(size Bh:Int)(i:Nat):Int:=(i:Int)/size*Bh+i%size
def jN(size Bh:Int)(k:Nat):List Int:=(List.range k).map (kD size Bh)
def gM(xs:List Int)(aV aA:Int):List Int×Int:=
 if au xs=0\/aV<0\/1<aV then([],4)
 else if aA<=kD (Ta xs aV) (Jz xs aV) ((au xs).toNat-1)then([],7)
 else(jN (Ta xs aV) (Jz xs aV) (au xs).toNat,0)
theorem fV(size Bh:Int)(k:Nat):(jN size Bh k).length=k:=by simp[jN]
theorem BS(size Bh:Int)(k:Nat):jN size Bh (k+1)=jN size Bh k++[kD size Bh k]:=by simp[jN,ait]
theorem Cq(size Bh:Int){k i:Nat}(h:i<k):(jN size Bh k).getD i 0=kD size Bh i:=by simp[jN,List.getD,h]
theorem aiz:∀(k:Nat) (size p:Int),1<=p->p*2^k=128->size<=64->size<=up k size p/\1<=up k size p/\up k size p<=128
 |0,size,p,h1,h2,h3=>by
  have:p=128:=by simpa using h2
  simp only[up];omega
 |k+1,size,p,h1,h2,h3=>by
  rw[up];split
  ·exact aiz k size (p*2) aa (by rw[ank,<-Int.pow_succ'];exact h2) h3
  ·refine⟨by omega,by omega,?_⟩;have h4:(1:Int)<=2^(k+1):=by have:(0:Int)<2^(k+1):=Int.pow_pos ay;omega
   have:p*1<=p*2^(k+1):=ai6 h4 aa;omega
theorem QY{xs:List Int}(h:au xs≠0)(h3:xs.length=3):au xs=xs.getD 0 0*(xs.getD 1 0*xs.getD 2 0)/\1<=xs.getD 0 0/\1<=xs.getD 1 0/\1<=xs.getD 2 0:=by
 match xs,h3 with
 |[a,b,c],_=>
  have h0:au [a,b,c]=dX 1 [a,b,c]:=by unfold au;rfl
  rw[h0]at h|-
  simp only[dX]at h|-
  split at h
  ·exact absurd rfl h
  split at h
  ·exact absurd rfl h
  split at h
  ·exact absurd rfl h
  rename_i g1 g2 g3;rw[if_neg g1,if_neg g2,if_neg g3];refine⟨?_,?_,?_,?_⟩
  ·show 1*a*b*c=a*(b*c);rw[age,ank]
  all_goals simp only[List.getD_cons_zero,List.getD_cons_succ];omega
theorem Sr{xs:List Int}{aV:Int}(h:au xs≠0):∃c s p:Nat,au xs=(c*s:Nat)/\Ta xs aV=s/\Jz xs aV=p/\1<=c/\1<=s/\s<=p/\p<=128/\c*s<=64/\c<=64/\s<=64/\(¬(aV=1/\xs.length=3)->c=1/\s=p):=by
 have hb:=dN xs;by_cases h1:aV=1/\xs.length=3
 ·obtain⟨e,h2,h3,h4⟩:=QY h h1.2;obtain⟨a,ha⟩:=amo (show 0<=xs.getD 0 0 by omega);obtain⟨b,hb'⟩:=amo (show 0<=xs.getD 1 0 by omega);obtain⟨c,hc⟩:=amo (show 0<=xs.getD 2 0 by omega);rw[Ta,Jz,if_pos h1,if_pos h1];rw[ha,hb',hc]at e;rw[ha]at h2;rw[hb']at h3|-
  rw[hc]at h4|-
  have e2:(b:Int)*(c:Int)=((b*c:Nat):Int):=by simp
  have e3:(a:Int)*((b:Int)*(c:Int))=((a*(b*c):Nat):Int):=by simp
  rw[e3]at e;rw[e2];have hbc:1<=b*c:=Nat.mul_pos aa aa;have hle:a*(b*c)<=64:=by omega
  have hsl:b*c<=a*(b*c):=Nat.le_mul_of_pos_left _ aa;have hal:a<=a*(b*c):=Nat.le_mul_of_pos_right _ hbc;obtain⟨u1,u2,u3⟩:=aiz 7 ((b*c:Nat):Int) 1 ay ay aa;obtain⟨p,hp⟩:=amo (show 0<=up 7 ((b*c:Nat):Int) 1 by omega);exact⟨a,b*c,p,e,rfl,hp,by omega,hbc,by omega,by omega,hle,by omega,by omega,λg=>absurd h1 g⟩
 ·obtain⟨n,hn⟩:=amo hb.1;rw[Ta,Jz,if_neg h1,if_neg h1,hn];rw[hn]at h hb;exact⟨1,n,n,by simp,rfl,rfl,by decide,by omega,by omega,by omega,by omega,by omega,by omega,λ_=>⟨rfl,rfl⟩⟩
theorem Kk{c i s p:Nat}(h:i<s):kD s p (c*s+i)=(c*p+i:Nat):=by
 have hs:0<s:=by omega
 have e1:((c*s+i:Nat):Int)/(s:Int)=(c:Int):=by
  rw[<-am6,Nat.add_comm,Nat.add_mul_div_right _ _ hs,Nat.div_eq_of_lt h,aiD]
 have e2:((c*s+i:Nat):Int)%(s:Int)=(i:Int):=by
  rw[<-Int.natCast_emod,Nat.add_comm,Nat.add_mul_mod_self_right,akr h]
 rw[kD,e1,e2];simp
theorem Aa{s p:Nat}(i:Nat):kD s p i=((i/s*p+i%s:Nat):Int):=by simp[kD]
theorem Rx{s p i:Nat}(hs:1<=s)(hp:s<=p):kD s p i<kD s p (i+1):=by
 rw[Aa,Aa,Int.ofNat_lt];have h1:=Nat.div_add_mod i s;have h2:=akx i (show s>0 by omega);rcases ack (i%s+1) s with h|h
 ·have e1:(i+1)/s=i/s:=by
   have:i+1=i%s+1+(i/s)*s:=by rw[Nat.mul_comm];omega
   rw[this,Nat.add_mul_div_right _ _ aa,Nat.div_eq_of_lt h,aiD]
  have e2:(i+1)%s=i%s+1:=by
   have:i+1=i%s+1+(i/s)*s:=by rw[Nat.mul_comm];omega
   rw[this,Nat.add_mul_mod_self_right,akr h]
  rw[e1,e2];omega
 ·have e3:i+1=(i/s+1)*s:=by rw[aiB,Nat.mul_comm];omega
  have e1:(i+1)/s=i/s+1:=by rw[e3,Nat.mul_div_cancel _ aa]
  have e2:(i+1)%s=0:=by rw[e3,Nat.mul_mod_left]
  rw[e1,e2,aiB];omega
theorem KT{s p:Nat}(hs:1<=s)(hp:s<=p):∀{i j:Nat},i<=j->kD s p i<=kD s p j:=by
 intro i j h;induction h with
 |refl=>exact aem _
 |step _ ih=>exact aha ih (Int.le_of_lt (Rx hs hp))
theorem Dl{s p i n:Nat}(hs:1<=s)(hp:s<=p)(hi:i<n)(hn:n<=64)(hp2:p<=128):0<=kD s p i/\kD s p i<=10000:=by
 rw[Aa];have h1:i/s<=i:=anJ _ _;have h2:=akx i (show s>0 by omega);have h3:i/s*p<=64*128:=alN aa hp2;have h4:=Nat.mod_le i s;omega
section
def Di(w:World)(r:List Int×Int):Ending->World->Prop:=λe w'=>∃x:ax,(x.xs=r.1/\x.bF)/\e= .returned (.tuple #[x.val,.int .i64 r.2])/\Ext w w'/\(bX x).holds (λb=>w.heap.size<=b/\b<w'.heap.size) w'
variable {w:World} {B:Base} {H:Heap} {S:bR} {nx:Nat} {r:List Int×Int}
theorem Av{er:Int}(hb:∀R w',S.holds R w'->(aU B.w0).holds R w')(hw0:B.w0=w)(hr:r=([],er)):jS B (.xg [.c (.slice none 0 0),aC er]) H S nx (Di w r):=by
 subst hw0 hr;refine dK λρ w' hw=>⟨⟨none,0,[]⟩,⟨rfl,⟨λ_ h=>bT,Tw _,by decide⟩⟩,rfl,bG hw hb,⟨λ_ h=>bT,.inl rfl⟩⟩
variable {i m:Nat}
theorem JU{l:List Int}(hb:∀R w',S.holds R w'->(aU B.w0).holds R w')(hw0:B.w0=w)(hm:m=l.length)(hf:∀x∈l,i64 x)(hl:l.length<=1000000)(hi:(i,b_.rows (aZ l) 1 3)∈H)(hr:r=(l,0)):
 jS B (.xg [.os i m,aC 0]) H S nx (Di w r):=by
 subst hw0 hm hr;refine dK λρ w' hw=> ?_;have hn:=fI hw hb hi;rw[aP]at hn;obtain⟨u,e,h1,h2,h3⟩:=vv hn hf hl;refine⟨u,⟨h1,h2⟩,?_,bG hw hb,h3⟩;have:(SV.xg [.os i l.length,aC 0]).rf ρ= .tuple #[(SV.os i l.length).rf ρ,.int .i64 0]:=rfl;rw[this,e]
variable {K:Int->Prop}
theorem yN{z:Int}(y:Int)(h:z=y)(h1: -9223372036854775808<=y)(h2:y<=9223372036854775807)(hk:K y):fF .i64 z K:=by
 subst h;exact wrap_i64 h1 h2 hk
variable {q:Int}
theorem abF{x y:Int}(e:x/y=q)(h0:0<=x)(h1:x<=9223372036854775807)(hy:0<y)(h:K q):yM .i64 x y K:=div_pos rfl h0 h1 hy zM
theorem Gf(xs:List Int)(x:Int)(hm:m=xs.length){T:TypeId}:(i,b_.rows (aZ (xs++[x])) 1 T)∈(i,b_.rows (List.take m (aZ xs)++[[.int .i64 x]]) 1 T)::H:=by
 subst hm;rw[show aZ (xs++[x])=List.take xs.length (aZ xs)++[[.int .i64 x]] by rw[aen oG];simp[aZ]];exact YV
theorem Gl{s p n:Nat}(hs:1<=s)(hp:s<=p)(hn:n<=64)(hp2:p<=128):∀x∈jN s p n,i64 x:=λx hx=>by
 obtain⟨i,hi,rfl⟩:=abl.1 hx;have:=Dl hs hp (ahe.1 hi) hn hp2;exact⟨by omega,by omega⟩
variable {k:Nat} {size:Int}
theorem ahv(h:¬q<size):up k size q=q:=by cases k<;>simp[up,h]
theorem ahx(h:q<size)(h64:size<=64)(e:q*2^k=128):∃k',k=k'+1/\up k size q=up k' size (q*2)/\q*2*2^k'=128:=by
 cases k with
 |zero=>simp at e;omega
 |succ k=>exact⟨k,rfl,by simp[up,h],by rw[ank,<-Int.pow_succ'];exact e⟩
theorem adz(w:World)(u:ax)(hx:bE w u.base 1 (aZ u.xs))(aV aA:Int):Calls Tryz.prog 25 #[u.val,.int .i64 aV,.int .i64 aA] w (Di w (gM u.xs aV aA)):=by
 by_cases hA:au u.xs=0\/aV<0\/1<aV
 ·refine fH Tryz.func25 [.c u.val,aC aV,aC aA] ?_;repeat' ((conv=>whnf)<;>first|(show aJ _ 61 ..;refine aR (f:=61) Tryz.call61 (.int .i64 (au u.xs)) (λρ w' hw=>nS w' u.base u.cap u.xs (ae hw λR h=>aH h hx)) ?_)|refine bV ?_|refine ag ?_ ?_<;>intro _)
  all_goals(conv=>whnf)
  all_goals first|(exfalso;omega)|skip
  all_goals exact Av (λ_ _ h=>h) rfl (by rw[gM,if_pos hA])
 ·obtain⟨c,s,p,hcs,hs,hp,hc1,hs1,hsp,hp2,Zc,ah9,akl,hel⟩:=Sr (xs:=u.xs) (aV:=aV) aa;have hdef:gM u.xs aV aA=if aA<=kD s p (c*s-1)then([],7)else(jN s p (c*s),0):=by
   rw[gM,if_neg hA,hs,hp,hcs,ahh]
  obtain⟨n,hn⟩:∃n,c*s=n:=⟨_,rfl⟩;have hn1:1<=n:=by rw[<-hn];exact Nat.mul_pos hc1 hs1
  rw[hn]at hdef hcs Zc;have hq:((n:Nat):Int)/(s:Int)=c:=by rw[<-hn,<-am6,Nat.mul_div_cancel _ aa]
  rw[hdef];have hent:∀{ρ:Nat->SX.Loc} {w':World} {nx:Nat} {H:Heap},dO ⟨w,[]⟩ ρ nx H (aU w) w'->Calls Tryz.prog 61 #[u.val] w' λe w2=>e= .returned (.int .i64 (n:Nat))/\Ext w' w2:=λhw=>by
   have:=nS _ u.base u.cap u.xs (ae hw λR h=>aH h hx);rw[hcs]at this;exact this
  by_cases h1:aV=1/\u.xs.length=3
  ·obtain⟨ua,rO⟩:∃a,u.base=some a:=aT (j:=0) hx dS;have hur:∀(R:Nat->Prop) w',(aU w).holds R w'->bE w' (some ua) 1 (aZ u.xs):=λR w' h=>by rw[<-rO];exact aH h hx
   rw[Ta,if_pos h1]at hs;rw[Jz,if_pos h1,hs]at hp;refine fH Tryz.func25 [.c u.val,aC aV,aC aA] ?_;repeat' ((conv=>whnf)<;>first|(show aJ _ 61 ..;refine aR (f:=61) Tryz.call61 (.int .i64 (n:Nat)) (λρ w' hw=>hent hw) ?_)|(show dn ..;(first|refine aM ua 1 rO rfl aa ?_|refine aM ua 2 rO rfl aa ?_))|(show gZ ..;(first|refine dP hur (j:=1) aa ?_|refine dP hur (j:=2) aa ?_))|(show fF ..;refine yN (s:Int) hs aa aa ?_)|refine bV ?_|refine ag ?_ ?_<;>intro _)
   all_goals(conv=>whnf)
   refine Wp.loop (σ:=Nat×Nat) 0 (λ⟨q,k⟩=>[(2,aC aA),(8,aC (n:Nat)),(9,aC (s:Nat)),(10,aC q)]) (λ_=>[]) (λ_=>aU w)
    (λ⟨q,k⟩=>(q:Int)*2^k=128/\1<=q/\up k s q=p) (λx=>x.2) (1,7) [] ay (λs=>⟨rfl,rfl⟩) ⟨by decide,by decide,hp⟩ ⟨rfl,⟨rfl,rfl,rfl,rfl,trivial⟩,trivial,λ_ _ h=>h⟩ ?_
   rintro⟨q,k⟩ ⟨hq1,hq2,hq3⟩;by_cases hqs:(q:Int)<s
   ·obtain⟨k',rfl,hk2,hk3⟩:=ahx hqs aa hq1;repeat' ((conv=>whnf)<;>first|(show fF ..;refine yN ((q*2:Nat):Int) aI aa aa ?_)|refine bV ?_|refine ag ?_ ?_<;>intro _)
    all_goals(conv=>whnf)
    exact⟨(q*2,k'),[],⟨by simpa using hk3,by show 1<=q*2;omega,by rw[<-hq3,hk2];simp⟩,amD _,rfl,fE,trivial,λ_ _ h=>h⟩
   ·rw[ahv hqs]at hq3;have hqp:p=q:=by omega
    subst hqp;repeat' ((conv=>whnf)<;>first|(show pg ..;(refine X0 0 n rfl rfl (aae _) mE aa ?_))|(show yM ..;refine abF hq aa aa aa ?_)|refine bV ?_|refine ag ?_ ?_<;>intro _)
    all_goals(conv=>whnf)
    refine Wp.loop (σ:=Nat×Nat) 2 (λx=>[(2,aC aA),(8,aC (n:Nat)),(9,aC (s:Nat)),(10,aC (p:Nat)),(11,.os 1 x.2),(51,aC (c:Nat)),(52,aC x.1)]) (λx=>[(1,.rows (aZ (jN s p x.2)) 1 3)]) (λ_=>aU w)
     (λx=>x.1<=c/\x.2=x.1*s) (λx=>c-x.1) (0,0) [(1,some 0)] ay (λ_=>⟨rfl,rfl⟩) ⟨aae _,(Nat.zero_mul s).symm⟩ ⟨rfl,⟨rfl,rfl,rfl,rfl,rfl,rfl,rfl,trivial⟩,⟨YV,trivial⟩,λ_ _ h=>h⟩ ?_
    rintro⟨cc,m⟩ ⟨hcc,hm⟩;dsimp only at hcc hm;by_cases hlt:cc<c
    ·repeat' ((conv=>whnf)<;>first|refine bV ?_|refine ag ?_ ?_<;>intro _)
     all_goals(conv=>whnf)
     have hcp:cc*p<=64*128:=alN aa hp2;have hms:cc*s+s<=c*s:=by rw[<-aiB];exact aj4 s hlt
     refine Wp.loop (σ:=Nat×Nat) 3 (λx=>[(2,aC aA),(8,aC (n:Nat)),(9,aC (s:Nat)),(10,aC (p:Nat)),(11,.os 2 x.2),(51,aC (c:Nat)),(52,aC cc),(12,aC cc),(55,aC (s:Nat)),(56,aC x.1)]) (λx=>[(2,.rows (aZ (jN s p x.2)) 1 3)]) (λ_=>aU w)
      (λx=>x.1<=s/\x.2=cc*s+x.1) (λx=>s-x.1) (0,m) [(2,some 1)] ay (λ_=>⟨rfl,rfl⟩) ⟨aae _,hm⟩ ⟨rfl,⟨rfl,rfl,rfl,rfl,rfl,rfl,rfl,rfl,rfl,rfl,trivial⟩,⟨YV,trivial⟩,λ_ _ h=>h⟩ ?_
     rintro⟨i,k⟩ ⟨hi,hk⟩;dsimp only at hi hk;by_cases Vt:i<s
     ·have hpl:(((cc*p:Nat):Int)+(i:Int))=kD s p k:=by rw[hk,Kk Vt];simp
      have hrl:=fV s p k;repeat' ((conv=>whnf)<;>first|(show fF ..;(first|refine yN ((cc*p:Nat):Int) (akv cc p).symm aa aa ?_|refine yN (kD s p k) hpl aa aa ?_|refine wrap_i64 aa aa ?_))|refine Ey ?_|refine EF ?_|refine bV ?_|refine ag ?_ ?_<;>intro _)
      all_goals(conv=>whnf)
      exact⟨(i+1,k+1),[(2,some 4)],⟨Vt,by show k+1=cc*s+(i+1);omega⟩,by show s-(i+1)<s-i;omega,rfl,fE,⟨by show(4,b_.rows (aZ (jN s p (k+1))) 1 3)∈_;rw[BS];exact Gf _ _ (fV s p k).symm,trivial⟩,λ_ _ h=>h⟩
     ·repeat' ((conv=>whnf)<;>first|refine bV ?_|refine ag ?_ ?_<;>intro _)
      all_goals(conv=>whnf)
      exact⟨(cc+1,k),[(1,some 2)],⟨hlt,by show k=(cc+1)*s;rw[aiB];omega⟩,by show c-(cc+1)<c-cc;omega,rfl,fE,⟨YV,trivial⟩,λ_ _ h=>h⟩
    ·have aeF:cc=c:=by omega
     rw[aeF,hn]at hm;have hpb:=Dl (i:=n-1) (n:=n) hs1 hsp aa Zc hp2;have hlast:=Cq s p (k:=n) (i:=n-1) aa;have hll:=fV s p n;have hm':=hm.symm;subst hm';repeat' ((conv=>whnf)<;>first|refine F9 ?_|(show rQ ..;refine uV (xs:=jN s p n) (j:=n-1) aa ?_)|refine bV ?_|refine ag ?_ ?_<;>intro _)
     all_goals(conv=>whnf)
     ·exact Av (λ_ _ h=>h) rfl (if_pos aa)
     ·exact JU (i:=1) (λ_ _ h=>h) rfl hll.symm (Gl hs1 hsp Zc hp2) aa aj (if_neg aa)
  ·obtain⟨hc,anV⟩:=hel h1;have hns:n=s:=by rw[<-hn,hc,Nat.one_mul]
   subst anV;subst hns;refine fH Tryz.func25 [.c u.val,aC aV,aC aA] ?_;repeat' ((conv=>whnf)<;>first|(show aJ _ 61 ..;refine aR (f:=61) Tryz.call61 (.int .i64 (n:Nat)) (λρ w' hw=>hent hw) ?_)|(show pg ..;(refine X0 0 n rfl rfl (aae _) mE aa ?_))|(show yM ..;refine abF (q:=(c:Int)) hq aa aa aa ?_)|refine bV ?_|refine ag ?_ ?_<;>intro _)
   all_goals(conv=>whnf)
   ·skip
    refine Wp.loop (σ:=Nat×Nat) 2 (λx=>[(2,aC aA),(8,aC (n:Nat)),(9,aC (n:Nat)),(10,aC (n:Nat)),(11,.os 1 x.2),(51,aC (c:Nat)),(52,aC x.1)]) (λx=>[(1,.rows (aZ (jN n n x.2)) 1 3)]) (λ_=>aU w)
     (λx=>x.1<=c/\x.2=x.1*n) (λx=>c-x.1) (0,0) [(1,some 0)] ay (λ_=>⟨rfl,rfl⟩) ⟨aae _,(Nat.zero_mul n).symm⟩ ⟨rfl,⟨rfl,rfl,rfl,rfl,rfl,rfl,rfl,trivial⟩,⟨YV,trivial⟩,λ_ _ h=>h⟩ ?_
    rintro⟨cc,m⟩ ⟨hcc,hm⟩;dsimp only at hcc hm;by_cases hlt:cc<c
    ·repeat' ((conv=>whnf)<;>first|refine bV ?_|refine ag ?_ ?_<;>intro _)
     all_goals(conv=>whnf)
     have hcp:cc*n<=64*128:=alN aa hp2;have hms:cc*n+n<=c*n:=by rw[<-aiB];exact aj4 n hlt
     refine Wp.loop (σ:=Nat×Nat) 3 (λx=>[(2,aC aA),(8,aC (n:Nat)),(9,aC (n:Nat)),(10,aC (n:Nat)),(11,.os 2 x.2),(51,aC (c:Nat)),(52,aC cc),(12,aC cc),(55,aC (n:Nat)),(56,aC x.1)]) (λx=>[(2,.rows (aZ (jN n n x.2)) 1 3)]) (λ_=>aU w)
      (λx=>x.1<=n/\x.2=cc*n+x.1) (λx=>n-x.1) (0,m) [(2,some 1)] ay (λ_=>⟨rfl,rfl⟩) ⟨aae _,hm⟩ ⟨rfl,⟨rfl,rfl,rfl,rfl,rfl,rfl,rfl,rfl,rfl,rfl,trivial⟩,⟨YV,trivial⟩,λ_ _ h=>h⟩ ?_
     rintro⟨i,k⟩ ⟨hi,hk⟩;dsimp only at hi hk;by_cases Vt:i<n
     ·have hpl:(((cc*n:Nat):Int)+(i:Int))=kD n n k:=by rw[hk,Kk Vt];simp
      have hrl:=fV n n k;repeat' ((conv=>whnf)<;>first|refine MZ ?_|refine Ey ?_|refine EF ?_|refine bV ?_|refine ag ?_ ?_<;>intro _)
      all_goals(conv=>whnf)
      exact⟨(i+1,k+1),[(2,some 4)],⟨Vt,by show k+1=cc*n+(i+1);omega⟩,by show n-(i+1)<n-i;omega,rfl,fE,⟨by show(4,b_.rows (aZ (jN n n (k+1))) 1 3)∈_;rw[BS];exact Gf _ _ (fV n n k).symm,trivial⟩,λ_ _ h=>h⟩
     ·repeat' ((conv=>whnf)<;>first|refine bV ?_|refine ag ?_ ?_<;>intro _)
      all_goals(conv=>whnf)
      exact⟨(cc+1,k),[(1,some 2)],⟨hlt,by show k=(cc+1)*n;rw[aiB];omega⟩,by show c-(cc+1)<c-cc;omega,rfl,fE,⟨YV,trivial⟩,λ_ _ h=>h⟩
    ·have aeF:cc=c:=by omega
     rw[aeF,hn]at hm;have hpb:=Dl (i:=n-1) (n:=n) hs1 hsp aa Zc hp2;have hlast:=Cq n n (k:=n) (i:=n-1) aa;have hll:=fV n n n;have hm':=hm.symm;subst hm';repeat' ((conv=>whnf)<;>first|refine F9 ?_|(show rQ ..;refine uV (xs:=jN n n n) (j:=n-1) aa ?_)|refine bV ?_|refine ag ?_ ?_<;>intro _)
     all_goals(conv=>whnf)
     ·exact Av (λ_ _ h=>h) rfl (if_pos aa)
     ·exact JU (i:=1) (λ_ _ h=>h) rfl hll.symm (Gl hs1 hsp Zc hp2) aa aj (if_neg aa)
   ·skip
    refine Wp.loop (σ:=Nat×Nat) 2 (λx=>[(2,aC aA),(8,aC (n:Nat)),(9,aC (n:Nat)),(10,aC (n:Nat)),(11,.os 1 x.2),(51,aC (c:Nat)),(52,aC x.1)]) (λx=>[(1,.rows (aZ (jN n n x.2)) 1 3)]) (λ_=>aU w)
     (λx=>x.1<=c/\x.2=x.1*n) (λx=>c-x.1) (0,0) [(1,some 0)] ay (λ_=>⟨rfl,rfl⟩) ⟨aae _,(Nat.zero_mul n).symm⟩ ⟨rfl,⟨rfl,rfl,rfl,rfl,rfl,rfl,rfl,trivial⟩,⟨YV,trivial⟩,λ_ _ h=>h⟩ ?_
    rintro⟨cc,m⟩ ⟨hcc,hm⟩;dsimp only at hcc hm;by_cases hlt:cc<c
    ·repeat' ((conv=>whnf)<;>first|refine bV ?_|refine ag ?_ ?_<;>intro _)
     all_goals(conv=>whnf)
     have hcp:cc*n<=64*128:=alN aa hp2;have hms:cc*n+n<=c*n:=by rw[<-aiB];exact aj4 n hlt
     refine Wp.loop (σ:=Nat×Nat) 3 (λx=>[(2,aC aA),(8,aC (n:Nat)),(9,aC (n:Nat)),(10,aC (n:Nat)),(11,.os 2 x.2),(51,aC (c:Nat)),(52,aC cc),(12,aC cc),(55,aC (n:Nat)),(56,aC x.1)]) (λx=>[(2,.rows (aZ (jN n n x.2)) 1 3)]) (λ_=>aU w)
      (λx=>x.1<=n/\x.2=cc*n+x.1) (λx=>n-x.1) (0,m) [(2,some 1)] ay (λ_=>⟨rfl,rfl⟩) ⟨aae _,hm⟩ ⟨rfl,⟨rfl,rfl,rfl,rfl,rfl,rfl,rfl,rfl,rfl,rfl,trivial⟩,⟨YV,trivial⟩,λ_ _ h=>h⟩ ?_
     rintro⟨i,k⟩ ⟨hi,hk⟩;dsimp only at hi hk;by_cases Vt:i<n
     ·have hpl:(((cc*n:Nat):Int)+(i:Int))=kD n n k:=by rw[hk,Kk Vt];simp
      have hrl:=fV n n k;repeat' ((conv=>whnf)<;>first|refine MZ ?_|refine Ey ?_|refine EF ?_|refine bV ?_|refine ag ?_ ?_<;>intro _)
      all_goals(conv=>whnf)
      exact⟨(i+1,k+1),[(2,some 4)],⟨Vt,by show k+1=cc*n+(i+1);omega⟩,by show n-(i+1)<n-i;omega,rfl,fE,⟨by show(4,b_.rows (aZ (jN n n (k+1))) 1 3)∈_;rw[BS];exact Gf _ _ (fV n n k).symm,trivial⟩,λ_ _ h=>h⟩
     ·repeat' ((conv=>whnf)<;>first|refine bV ?_|refine ag ?_ ?_<;>intro _)
      all_goals(conv=>whnf)
      exact⟨(cc+1,k),[(1,some 2)],⟨hlt,by show k=(cc+1)*n;rw[aiB];omega⟩,by show c-(cc+1)<c-cc;omega,rfl,fE,⟨YV,trivial⟩,λ_ _ h=>h⟩
    ·have aeF:cc=c:=by omega
     rw[aeF,hn]at hm;have hpb:=Dl (i:=n-1) (n:=n) hs1 hsp aa Zc hp2;have hlast:=Cq n n (k:=n) (i:=n-1) aa;have hll:=fV n n n;have hm':=hm.symm;subst hm';repeat' ((conv=>whnf)<;>first|refine F9 ?_|(show rQ ..;refine uV (xs:=jN n n n) (j:=n-1) aa ?_)|refine bV ?_|refine ag ?_ ?_<;>intro _)
     all_goals(conv=>whnf)
     ·exact Av (λ_ _ h=>h) rfl (if_pos aa)
     ·exact JU (i:=1) (λ_ _ h=>h) rfl hll.symm (Gl hs1 hsp Zc hp2) aa aj (if_neg aa)
end
theorem afg{x:aY}{D:List (List Int)}{R:Nat->Prop}{w:World}(hx:BO D x)(hl:D.length<=1000000)(h:(wm x).holds R w):x.okB w:=⟨bf h.1,λu hu=>dw (hx.bF u hu) (h.2 u hu),by have:=congrArg List.length hx.rows;rw[aas]at this;omega⟩
theorem ZV{cx:Cx}{f:FuncId}{args:List SV}{H:Heap}{S:bR}{nx:Nat}{K:SV->Heap->bR->Nat->Prop}(r:List Int×Int)(hf:∀ar w,(callFunc f ar).run cx.P w= .ok (.enter f ar) w)
 (hc:∀ρ w,dO cx.B ρ nx H S w->Calls cx.P f (SV.dW ρ args).toArray w (Di w r)) (h:∀x:ax,x.xs=r.1->x.bF->K (.c (.tuple #[x.val,.int .i64 r.2])) H (S.and ((bX x).past cx.B.w0.heap.size)) nx):aJ cx f args H S nx K:=by
 refine jU hf (λx:ax=> .tuple #[x.val,.int .i64 r.2]) bX (λx=>x.xs=r.1/\x.bF) (λρ w' hw=>(hc ρ w' hw).mono ?_) (λx hx=>h x hx.1 hx.2);rintro e w2 ⟨x,h1,h2,h3,h4⟩;exact⟨x,h1,h2,h3,h4⟩
end Go.Proofs.YtgndjjdeopfdkaaGreat

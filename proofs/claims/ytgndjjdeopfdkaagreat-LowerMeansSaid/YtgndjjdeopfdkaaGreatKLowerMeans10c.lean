import Derived.Test.YtgndjjdeopfdkaaGreatKLowerMeans10b
/- texts WA QTa of the proof of LowerMeansSaid -/
set_option maxHeartbeats 16000000
set_option maxRecDepth 20000
set_option linter.unusedVariables false
set_option linter.unusedSimpArgs false
namespace Go.Proofs.YtgndjjdeopfdkaaGreat
open Go.SX Go.RowKit
section
theorem xx:∀{l:List ak} {Q4 sh:List (List Int)} {n:ak} {s:List Int},fq l Q4=(0,sh)->cz n sh.length=true->bP n sh=some s->gP n=true->fq (l++[n]) Q4=(0,sh++[s])
 |[],Q4,sh,n,s,h,h1,h2,h3=>by
  obtain rfl:Q4=sh:=by simpa[fq]using h
  rw[akg,iE h1 h2 h3];rfl
 |m::r,Q4,sh,n,s,h,h1,h2,h3=>by
  by_cases hf:cz m Q4.length=false
  ·rw[tZ hf]at h;simp at h
  have hf:cz m Q4.length=true:=by simpa using hf
  cases hs:bP m Q4 with
  |none=>rw[rz hf hs]at h;simp at h
  |some q=>
   by_cases hn:gP m=false
   ·rw[kL hf hs hn]at h;simp at h
   have hn:gP m=true:=by simpa using hn
   rw[iE hf hs hn]at h;rw[amJ,iE hf hs hn];exact xx h h1 h2 h3
theorem x_:∀(l:List ak) (sh:List (List Int)),(fq l sh).1=0->(fq l sh).2.length=sh.length+l.length
 |[],sh,_=>by simp[fq]
 |n::r,sh,h=>by
  by_cases hf:cz n sh.length=false
  ·rw[tZ hf]at h;simp at h
  have hf:cz n sh.length=true:=by simpa using hf
  cases hs:bP n sh with
  |none=>rw[rz hf hs]at h;simp at h
  |some s=>
   by_cases hn:gP n=false
   ·rw[kL hf hs hn]at h;simp at h
   have hn:gP n=true:=by simpa using hn
   rw[iE hf hs hn]at h|-
   rw[x_ r _ h];simp;omega
structure Bo(l:List ak):Prop where
 one:1<=l.length
 shapes:∃sh,fq l []=(0,sh)/\∀s∈sh,uH s
 each:∀n∈l,Made n
variable {l:List ak} {sh:List (List Int)}
theorem Fz{n:ak}(h:Bo l)(hsh:fq l []=(0,sh))(hn:lZ n sh)(hok:∀s∈sh,uH s):Bo (l++[n]):=by
 obtain⟨s,hs,hso⟩:=hn.az;refine⟨by simp,⟨sh++[s],xx hsh hn.form hs hn.near,?_⟩,?_⟩
 ·intro x hx;rcases aeh.1 hx with hx|hx
  ·exact hok x hx
  ·simp at hx;subst hx;exact hso
 ·intro x hx;rcases aeh.1 hx with hx|hx
  ·exact h.each x hx
  ·simp at hx;subst hx;exact hn.made
theorem adt{n:ak}(hn:lZ n []):Bo [n]:=by
 obtain⟨s,hs,hso⟩:=hn.az;refine⟨by simp,⟨[s],xx (l:=[]) rfl hn.form hs hn.near,?_⟩,?_⟩
 ·intro x hx;simp at hx;subst hx;exact hso
 ·intro x hx;simp at hx;subst hx;exact hn.made
variable {base:Option Addr} {cap:Nat} {out:Int}
theorem Ga(h1:1<=l.length)(D5:l.length<=24)(ho:0<=out/\out<l.length)(h:fq l []=(0,sh)):check ⟨base,cap,l,out⟩=(0,sh):=by
 unfold check;rw[if_neg mJ];exact h
def m_(l:List ak):bR where
 holds R w:=∀n∈l,(y5 n false).holds R w
 stable:=λhR hw h n hn=>(y5 n false).stable hR hw (h n hn)
variable {R:Nat->Prop} {w:World}
theorem aii{n:ak}(hm:Made n)(h:(y5 n false).holds R w):n.ok w:=
 ⟨dw hm.az (h.1 rfl),dw hm.data h.2.1,dw hm.aQ h.2.2,hm.lQ,hm.Cr,hm.yh,hm.nk,hm.ng,hm.lV⟩
theorem WY(hm:∀n∈l,Made n)(hl:l.length<=1000)(hr:bE w base 9 (bO l))(h:(m_ l).holds R w)(ho:i64 out):(⟨base,cap,l,out⟩:bM).ok w:=
 ⟨hr,λn hn=>aii (hm n hn) (h n hn),λn hn=>⟨by have:=(hm n hn).ah5;omega,by have:=(hm n hn).aic;omega⟩,by simp only;omega,ho⟩
def Ki(w:World)(b:Nat)(t:gF)(e:Ending)(w':World):Prop:=
 ∃(l:List ak) (out:Int) (k:Nat) (l0:SX.Loc) (F:Nat->Prop),Bo l/\l.length<=8/\0<=out/\out<l.length/\k<=t.bs.length/\e= .returned (.agg #[.slice l0.base l.length l0.cap,.int .i64 out])/\Step (λy=>y=b) w w'/\
  w'.heap[b]? =some (.cells (iH t k).toArray 49 (0,0))/\(∀x,F x->w.heap.size<=x)/\(b_.rows (bO l) 9 41).holds (λ_=>l0) l0 F w'/\(m_ l).holds (λy=>(w.heap.size<=y/\y<w'.heap.size)/\¬F y) w'
variable {H:Heap}
theorem Qp{b:Nat}{t:gF}{S:bR}{nx j m k:Nat}(h0:(0,b_.box (cs (iH t k)) 49)∈H)(he:(j,b_.rows (bO l) 9 41)∈H)(hj:j≠0)(hm:m=l.length)(hk:k<=t.bs.length)(hml:Bo l)(h8:l.length<=8)(ho:0<=out/\out<l.length)
 (hS:∀R w',S.holds R w'->(l_ w b).holds R w') (hD:∀R w',S.holds R w'->((m_ l).past w.heap.size).holds R w'):jS ⟨w,[(0,mQ b)]⟩ (.agg [.os j m,aC out]) H S nx (Ki w b t):=by
 subst hm;refine dK λρ w' hw=> ?_;have hend:=qR hw hS h0;obtain⟨R,φ,hw⟩:=hw;have hp:=(hw.pin (0,mQ b) YV).2;obtain⟨b',h1,h2,h3⟩:=hw.jA _ h0;simp only at hp h1;rw[hp]at h1;obtain rfl:b=b':=by simpa[mQ]using h1
 refine⟨l,out,k,ρ j,φ j,hml,h8,ho.1,ho.2,hk,rfl,hend.1,hend.2,λx hx=> ?_,hw.jA _ he,(m_ l).mono (hD R w' hw.qL) (λx hx=>⟨⟨hx.2,hw.ro x hx.1⟩,λhF=>hw.apart _ he x hF hx.1⟩)⟩;rcases ack x w.heap.size with hl|hl
 ·exfalso;by_cases hxb:x=b
  ·exact Ap hw.sep he h0 hj x hx ((h2 x).2 hxb)
  ·exact hw.apart _ he x hx (hS R w' hw.qL x ⟨hl,hxb⟩).1
 ·exact hl
variable {N:Nat}
theorem aaB{n:ak}(h:((y5 n false).past N).holds R w):((m_ [n]).past N).holds R w:=λm hm=>by simp at hm;subst hm;exact h
theorem KZ{n:ak}(hl:((m_ l).past N).holds R w)(h:((y5 n false).past N).holds R w):((m_ (l++[n])).past N).holds R w:=λm hm=>by
 rcases aeh.1 hm with hm|hm
 ·exact hl m hm
 ·simp at hm;subst hm;exact h
theorem RX(l:List ak)(n:ak){i:Nat}{T:TypeId}:(i,b_.rows (bO (l++[n])) 9 T)∈(i,b_.rows (List.take l.length (bO l)++[n.cells]) 9 T)::H:=by
 rw[show bO (l++[n])=List.take l.length (bO l)++[n.cells] by rw[aen FK];simp[bO]];exact YV
theorem ahz{sv:aY}{x:ak×Bool}(ha:x.2=true->x.1.az∈sv.l)(hs:((jD sv).past N).holds R w)(hn:((y5 x.1 x.2).past N).holds R w):((y5 x.1 false).past N).holds R w:=
 ⟨λ_=>by
  cases h2:x.2 with
  |true=>exact hs.2 _ (ha h2)
  |false=>exact hn.1 h2,hn.2⟩
theorem afz(w:World)(b:Nat)(t:gF)(k:Nat)(h:u7 w b t k):Calls Tryz.prog 12 #[.pointer (some ⟨b,0,none⟩)] w (Ki w b t):=by
 obtain⟨hs,hby,hd,hk,hb⟩:=h;refine pq tab bW Tryz.func12 rfl rfl rfl [(0,mQ b)] (λ_=>mQ b) [.lp 0 0 0 0] _ (l_ w b) 1 oo rfl Gj (xn hb) ?_;repeat' ((conv=>whnf)<;>first|refine a_ ?_|refine ag ?_ ?_<;>intro _)
 refine wY (f:=39) [] t k ak.p9 (λn=>y5 n false) _ aO Tryz.call39 hs hby hk (λR w' h=>bC hd wP) (λR w' b' ht _ _=>Q_ w' b' t k ht) (λn0 k1 hn0 hk1=> ?_);repeat' ((conv=>whnf)<;>first|refine a_ ?_|refine ag ?_ ?_<;>intro _)
 refine eY (f:=40) [.int .i64 8] t k1 _ aO Tryz.call40 hs hby hk1 (λR w' h=>bC hd wP) (λw' b' ht=>iB w' b' t k1 ht 8 ⟨by decide,by decide⟩) (λq k2 hq hk2=> ?_);have hq0:=hq.1;have hq1:=hq.2.1 aa;repeat' ((conv=>whnf)<;>first|refine a_ ?_|refine ag ?_ ?_<;>intro _)
 refine Wp.loop (σ:=Int×Nat×Nat×Int×List ak) 5 (λ⟨i,_,_,_,_⟩=>[(0,.lp 0 0 0 0),(3,.lp 3 0 0 0),(4,aC i),(2,.lp 1 0 0 0)])
  (λ⟨_,kt,m,out,l⟩=>[(4,.rows (bO l) 9 41),(3,.box [.os 4 m,aC out] 24),(1,.box (cs [.slice none 0 0,.int .i64 0]) 24),(0,.box (cs (iH t kt)) 49)])
  (λ⟨_,_,_,_,l⟩=>(l_ w b).and ((m_ l).past w.heap.size))
  (λ⟨i,kt,m,out,l⟩=>kt<=t.bs.length/\l.length=m/\0<=i/\m+i<=8/\Bo l/\0<=out/\out<m) (λs=>s.1.toNat) (q,k2,1,0,[n0]) [(4,some 2)] ay (λs=>⟨rfl,rfl⟩) ⟨hk2,rfl,hq0,by omega,adt (Nb hn0),by decide,by decide⟩ ⟨rfl,⟨rfl,rfl,rfl,rfl,trivial⟩,⟨aO,aO,aO,aO,trivial⟩,λR w' h=>⟨h.1,aaB h.2⟩⟩ ?_
 rintro⟨i,kt,m,out,l⟩ ⟨hkt,hlm,hi0,hmi,hml,ho0,ho1⟩;subst hlm;obtain⟨sh,hsh,hso⟩:=hml.shapes;have ap8:sh.length=l.length:=by have:=x_ l [] (by rw[hsh]);rw[hsh]at this;simpa using this
 have hl1:=hml.one;by_cases hi:0<i
 ·repeat' ((conv=>whnf)<;>first|refine a_ ?_|refine ag ?_ ?_<;>intro _)
  refine oD (f:=34) (0,sh) Tryz.call34 (λρ w' hw=>by
   have hg:(⟨(ρ 4).base,(ρ 4).cap,l,out⟩:bM).ok w':=ae hw λR h=>WY hml.each aa (eZ hw aO) ((m_ l).mono h.2 (λb hb=>hb.1)) ⟨by omega,by omega⟩;have:=U7 w' _ hg;rw[Ga hml.one aa ⟨ho0,ho1⟩ hsh]at this;exact this) (λh=>absurd rfl h) (λ_ sv hm hs2=> ?_)
  have hm:sv.l.map (·.xs)=sh:=hm;repeat' ((conv=>whnf)<;>first|refine a_ ?_|refine ag ?_ ?_<;>intro _)
  refine wY (f:=39) [] t kt ak.p9 (λn=>y5 n false) _ aO Tryz.call39 hs hby hkt (λR w' h=>bC hd wP) (λR w' b' ht _ _=>Q_ w' b' t kt ht) (λn1 k3 hn1 hk3=> ?_);repeat' ((conv=>whnf)<;>first|refine a_ ?_|refine ag ?_ ?_<;>intro _)
  refine eY (f:=40) [.int .i64 6] t k3 _ aO Tryz.call40 hs hby hk3 (λR w' h=>bC hd wP) (λw' b' ht=>iB w' b' t k3 ht 6 ⟨by decide,by decide⟩) (λz k4 hz hk4=> ?_);repeat' ((conv=>whnf)<;>first|refine wX ?_|(show jv ..;(refine fU Qk ?_))|(show fF ..;(first|refine wrap_i64 aa aa ?_|(show fF .i64 (((l.length+1:Nat):Int)-1) _;refine wrap_i64 aa aa ?_)))|refine a_ ?_|refine ag ?_ ?_<;>intro _)
  ·have hsl:sv.l.length=sh.length:=by rw[<-hm];simp
   refine wY (f:=41) [sv.val] t k4 (λx:ak×Bool=>x.1.p9) (λx=>y5 x.1 x.2) _ aO Tryz.call41 hs hby hk4 (λR w' h=>bC hd wP) (λR w' b' ht hR hRo=>afW w' b' t k4 ht sv ((jD sv).mono hR.1.2 (λx hx=>hRo x hx.1)) ⟨by omega,by omega⟩ hs2 (λu hu=>hso _ (by rw[<-hm];exact abl.2 ⟨u,hu,rfl⟩))) (λx k5 hx hk5=> ?_);have hxg:=hx.good;rw[hm]at hxg;repeat' ((conv=>whnf)<;>first|refine wX ?_|(show jv ..;(refine fU Qk ?_))|(show fF ..;(first|refine wrap_i64 aa aa ?_|(show fF .i64 (((l.length+1:Nat):Int)-1) _;refine wrap_i64 aa aa ?_)))|refine a_ ?_|refine ag ?_ ?_<;>intro _)
   exact⟨(i-1,k5,l.length+1,((l.length+1:Nat):Int)-1,l++[x.1]),[(4,some 7)],⟨by assumption,by simp,by omega,by omega,Fz hml hsh (hxg) hso,by omega,by omega⟩,by simp only;omega,rfl,fE,⟨RX l _,aO,aO,aO,trivial⟩,λR w' h=>⟨h.1.1.1.1,KZ h.1.1.1.2 (ahz hx.akq h.1.1.2 h.2)⟩⟩
  ·exact⟨(i-1,k4,l.length+1,((l.length+1:Nat):Int)-1,l++[n1]),[(4,some 7)],⟨by assumption,by simp,by omega,by omega,Fz hml hsh (Nb hn1) hso,by omega,by omega⟩,by simp only;omega,rfl,fE,⟨RX l _,aO,aO,aO,trivial⟩,λR w' h=>⟨h.1.1.1,KZ h.1.1.2 h.2⟩⟩
 ·repeat' ((conv=>whnf)<;>first|refine a_ ?_|refine ag ?_ ?_<;>intro _)
  refine eY (f:=40) [.int .i64 6] t kt _ aO Tryz.call40 hs hby hkt (λR w' h=>bC hd h.1) (λw' b' ht=>iB w' b' t kt ht 6 ⟨by decide,by decide⟩) (λz k4 hz hk4=> ?_);repeat' ((conv=>whnf)<;>first|refine a_ ?_|refine ag ?_ ?_<;>intro _)
  ·refine eY (f:=40) [.int .i64 l.length] t k4 _ aO Tryz.call40 hs hby hk4 (λR w' h=>bC hd h.1) (λw' b' ht=>iB w' b' t k4 ht l.length ⟨by omega,by omega⟩) (λo k5 ho hk5=> ?_);repeat' ((conv=>whnf)<;>first|refine a_ ?_|refine ag ?_ ?_<;>intro _)
   conv=>whnf
   exact Qp aO aO ay rfl hk5 hml aa (by have:=ho.1;have:=ho.2.1;have:=ho.2.2;omega) (λ_ _ h=>h.1) (λ_ _ h=>h.2)
  ·conv=>whnf
   exact Qp aO aO ay rfl hk4 hml aa ⟨ho0,ho1⟩ (λ_ _ h=>h.1) (λ_ _ h=>h.2)
end
end Go.Proofs.YtgndjjdeopfdkaaGreat

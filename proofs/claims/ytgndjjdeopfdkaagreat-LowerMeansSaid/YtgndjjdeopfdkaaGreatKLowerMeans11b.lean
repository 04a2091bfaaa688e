import Derived.Test.YtgndjjdeopfdkaaGreatKLowerMeans11a
/- texts QT OC of the proof of LowerMeansSaid -/
set_option maxHeartbeats 16000000
set_option maxRecDepth 20000
set_option linter.unusedVariables false
set_option linter.unusedSimpArgs false
namespace Go.Proofs.YtgndjjdeopfdkaaGreat
open Go.SX Go.RowKit
section
abbrev alJ:DT:=(bS [0,1,2,3,4,5,6,7,108,109,110,111,112,13,114] .done)
variable {u1 u2 u3:ax}
theorem ad9{m:ak}(h1:u1.xs=m.az.xs)(h2:u2.xs=m.data.xs)(h3:u3.xs=m.aQ.xs):(yc m u1 u2 u3).pl=m.pl:=by
 show aN.mk _ _ _ u1.xs _ _ _ u2.xs u3.xs=_;rw[h1,h2,h3];rfl
variable {l:List ak}
theorem KH{m:ak}(hl:xZ l)(hm:m.uB)(hs:m.small)(h1:u1.bF)(e2:u2.xs=m.data.xs)(h2:u2.bF)(e3:u3.xs=m.aQ.xs)(h3:u3.bF):xZ (l++[yc m u1 u2 u3]):=λn hn=>by
 rcases aeh.1 hn with hn|hn
 ·exact hl n hn
 ·rw[afe.1 hn];exact⟨⟨h1,h2,h3,hm.lQ,hm.Cr,hm.yh,hm.nk,hm.ng,hm.lV⟩,by show u2.xs.length<=5000;rw[e2];exact hs.data,by show u3.xs.length<=5000;rw[e3];exact hs.aQ⟩
variable {kept:List ak}
theorem abJ{m:ak}(h1:u1.xs=m.az.xs)(h2:u2.xs=m.data.xs)(h3:u3.xs=m.aQ.xs):(kept++[yc m u1 u2 u3]).map ak.pl=kept.map ak.pl++[m.pl]:=by
 rw[afn,afY,aiK,ad9 h1 h2 h3]
variable {u x:ax}
theorem Yq(hu:u.bF)(hx:x.bF):(uR u x).uB:=⟨hu,hx,⟨λy hy=>by simp[uR,cK]at hy,Tw _,aae _⟩,abq,pG,pG,pG,pG,pG⟩
variable {w:World}
theorem ady(hu:u.ok w)(hx:x.ok w):(uR u x).ok w:=⟨hu,hx,Uu w,abq,pG,pG,pG,pG,pG⟩
def aeI(x:ax×ax):bR:=(bX x.1).and (bX x.2)
theorem Xx{R:Nat->Prop}{N:Nat}(hu:u.bF)(hx:x.bF)(h:((aeI (u,x)).past N).holds R w):(uR u x).ok w:=ady (dw hu ((bX u).mono h.1 λb hb=>hb.1)) (dw hx ((bX x).mono h.2 λb hb=>hb.1))
theorem Jh{s d:List Int}(h1:u.xs=s)(h2:x.xs=d):(uR u x).pl=⟨2,0,0,s,0,0,0,d,[]⟩:=by subst h1 h2;rfl
theorem aeB:(λ_=>none)=uZ (λ_=>false):=by funext j;unfold uZ;rw[if_neg aI]
variable {H:Heap} {S:bR} {nx:Nat} {K:SV->Heap->bR->Nat->Prop}
theorem O1(h:∀r,K (.c (.map (some r))) ((nx,.ext (lC r (uZ λ_=>false)))::H) S (nx+1)):xA H S nx K:=⟨λr=>by have:=h r;rwa[<-aeB]at this⟩
variable {f:FuncId}
theorem aaD{P:Program}{v u x:Value}{Q:Ending->World->Prop}{b:Nat}(e:v= .pointer (some ⟨b,0,none⟩))(h:Calls P f #[.pointer (some ⟨b,0,none⟩),u,x] w Q):Calls P f #[v,u,x] w Q:=e▸h
def jd(n:Nat)(p:List Nat):List Nat:=p++List.replicate (n-p.length) 0
theorem Il{n:Nat}{p:List Nat}(h:p.length<=n):(jd n p).length=n:=by unfold jd;simp;omega
theorem acs(n:Nat)(p:List Nat):xU (jd n p)=j_ n (xU p):=by unfold jd xU j_;simp
variable {i:Nat}
theorem Cj{n x:Nat}{p:List Nat}{K:List (List Value)->Prop}(hl:p.length=i)(hi:i<n)(h:K (aZ (xU (jd n (p++[x]))))):dH (aZ (xU (jd n p))) i 0 [.int .i64 (x:Int)] K:=by
 rw[acs]at h|-
 refine K9 (by unfold xU;rw[aas];exact hl) hi ?_;have:xU (p++[x])=xU p++[(x:Int)]:=by unfold xU;simp
 rw[<-this];exact h
theorem YS{n:Nat}{p:List Nat}(h:p.length<n):jd n (p++[0])=jd n p:=by
 unfold jd;obtain⟨k,hk⟩:∃k,n-p.length=k+1:=⟨n-p.length-1,by omega⟩;rw[hk,adx,ag_,show n-(p.length+1)=k by omega,ahZ,List.replicate_succ]
 rfl
variable {k:Nat}
theorem FM{n:Nat}{p:List Nat}(h:k<p.length):(jd n p).getD k 0=p.getD k 0:=by
 unfold jd;rw[TR,TR,ag9 h]
theorem Ww{n:Nat}{p:List Nat}{x:aN}(h:gL x p.length):bu (jd n p) x=bu p x:=by
 unfold bu;by_cases h12:x.ai=1\/x.ai=2
 ·rw[if_pos h12,if_pos h12]
 ·rw[if_neg h12,if_neg h12,FM (h.a1 aa aa)];by_cases h6:x.ai=6
  ·rw[if_pos h6,if_pos h6,FM (h.b1 h6)]
  ·rw[if_neg h6,if_neg h6]
theorem Wj(n:Nat):aZ (xU (jd n []))=List.replicate n [Value.int .i64 0]:=by
 unfold jd xU aZ;simp
variable {m:Nat}
theorem gL.mono{p:aN}(h:gL p k)(hm:k<=m):gL p m:=⟨h.a0,λh1 h2=>ahd (h.a1 h1 h2) hm,h.a2,h.b0,λh6=>ahd (h.b1 h6) hm,h.b2,h.ai⟩
variable {y:Nat}
theorem Ev{p:List Nat}{x:aN}(h:gL x p.length):bu (p++[y]) x=bu p x:=by
 have hg:∀k,k<p.length->(p++[y]).getD k 0=p.getD k 0:=λk hk=>by rw[TR,TR,ag9 hk]
 unfold bu;by_cases h12:x.ai=1\/x.ai=2
 ·rw[if_pos h12,if_pos h12]
 ·rw[if_neg h12,if_neg h12,hg _ (h.a1 aa aa)];by_cases h6:x.ai=6
  ·rw[if_pos h6,if_pos h6,hg _ (h.b1 h6)]
  ·rw[if_neg h6,if_neg h6]
variable {B:Base} {st:List Nat} {T:TypeId}
theorem adg{ρ:Nat->SX.Loc}{d j:Nat}{out:Int}{T1 T2:TypeId}(hw:dO B ρ nx H S w)(hm:st.length=m)(hd:(d,b_.box [.os i kept.length,aC out,.os j m] T)∈H)(hi:(i,b_.rows (bO kept) 9 T1)∈H)(hj:(j,b_.rows (aZ (xU st)) 1 T2)∈H):
 ∃b,(SV.lp d 0 0 0).rf ρ= .pointer (some ⟨b,0,none⟩)/\om w b (ρ i).base (ρ i).cap kept (ρ j).base (ρ j).cap (xU st):=by subst hm;exact Cg hw hd hi hj
theorem SB{need:Nat->Bool}{n:aN}{r:List aN}{x:List aN×List Nat}:ve need (n::r) i x=ve need r (i+1) (if need i=true\/n.ai=1 then(x.1++[bu x.2 n],x.2++[x.1.length])else(x.1,x.2++[0])):=rfl
theorem Xt{n:ak}(h:n.uB)(hs:∀k,st.getD k 0<=1000000):(dR st n).uB:=by
 obtain⟨_,_,ea,ea2,eb,eb2⟩:=lU st n.pl;have ha:i64 (bu st n.pl).a:=by
  by_cases h12:n.pl.ai=1\/n.pl.ai=2
  ·rw[ea2 h12];exact h.Cr
  ·rw[ea aa aa];have:=hs n.pl.a.toNat;unfold i64;omega
 have hb:i64 (bu st n.pl).b:=by
  by_cases h6:n.pl.ai=6
  ·rw[eb h6];have:=hs n.pl.b.toNat;unfold i64;omega
  ·rw[eb2 h6];exact h.yh
 exact⟨h.az,h.data,h.aQ,h.lQ,ha,hb,h.nk,h.ng,h.lV⟩
theorem Ml{p:List Nat}(h:∀k,p.getD k 0<=m)(hy:y<=m):∀k,(p++[y]).getD k 0<=m:=λk=>by
 rcases ack k p.length with hk|hk
 ·rw[TR,ag9 hk,<-TR];exact h k
 ·rw[TR,ahg hk];cases k-p.length with
  |zero=>exact hy
  |succ j=>exact aae _
theorem ag1{n:Nat}{p:List Nat}(h:∀k,p.getD k 0<=m):∀k,(jd n p).getD k 0<=m:=λk=>by
 rcases ack k p.length with hk|hk
 ·rw[FM hk];exact h k
 ·unfold jd;rw[TR,ahg hk,amT];split<;>exact aae _
theorem acW{n:ak}(hl:xZ l)(h1:n.uB)(h2:n.small):xZ (l++[n]):=λm hm=>by
 rcases aeh.1 hm with hm|hm
 ·exact hl m hm
 ·rw[afe.1 hm];exact⟨h1,h2⟩
theorem Zw{n:Nat}{p:List Nat}(hp:p.length<n)(h:(i,b_.rows (aZ (xU (jd n p))) 1 T)∈H):(i,b_.rows (aZ (xU (jd n (p++[0])))) 1 T)∈H:=by rw[YS hp];exact h
def From(kept acc:List ak):Prop:=∀m∈acc,∃k∈kept,m.az=k.az/\m.data=k.data/\m.aQ=k.aQ
variable {acc:List ak}
theorem Rj{x:ak}(h:From kept acc)(hx:x∈kept):From kept (acc++[dR st x]):=λm hm=>by
 rcases aeh.1 hm with hm|hm
 ·exact h m hm
 ·rw[afe.1 hm];exact⟨x,hx,rfl,rfl,rfl⟩
def MB(w:World)(r:Int)(x:List aN×Nat)(e:Ending)(w':World):Prop:=
 (r≠0/\e= .returned (.tuple #[.agg #[.slice none 0 0,.int .i64 0],.int .i64 r])/\Ext w w')\/
 (r=0/\∃(l:List ak) (base:Option Addr) (cap:Nat),l.map ak.pl=x.1/\xZ l/\l.length<=cap/\e= .returned (.tuple #[.agg #[.slice base l.length cap,.int .i64 x.2],.int .i64 0])/\Ext w w'/\
   ∃F G:Nat->Prop,(∀b,F b->w.heap.size<=b/\b<w'.heap.size)/\(∀b,G b->w.heap.size<=b/\b<w'.heap.size)/\(∀b,F b->¬G b)/\(∀n∈l,(Rw n).holds F w')/\(f_ base 9 (bO l)).holds G w')
theorem adv{n:ak}(h:n.ok w)(ha:gL (dR st n).pl k)(hk:k<=1000000):(dR st n).ok w:=by
 have a0:=ha.a0;have b0:=ha.b0;have a1:=ha.a1;have a2:=ha.a2;have b1:=ha.b1;have b2:=ha.b2;refine ZU h ?_ ?_
 ·show i64 (dR st n).pl.a;unfold i64;by_cases h12:(dR st n).pl.ai=1\/(dR st n).pl.ai=2
  ·have:=a2 h12;omega
  ·have:=a1 aa aa;omega
 ·show i64 (dR st n).pl.b;unfold i64;by_cases h6:(dR st n).pl.ai=6
  ·have:=b1 h6;omega
  ·have:=b2 h6;omega
theorem adE{cx:Cx}{args:List SV}(s d:List Int)(hf:∀ar w,(callFunc f ar).run cx.P w= .ok (.enter f ar) w)
 (hc:∀ρ w',dO cx.B ρ nx H S w'->Calls cx.P f (SV.dW ρ args).toArray w' (CP w' s d))
 (h:∀u x:ax,u.xs=s->u.bF->x.xs=d->x.bF->K (.c (uR u x).p9) H (S.and ((aeI (u,x)).past cx.B.w0.heap.size)) nx):aJ cx f args H S nx K:=
 jU hf (λx:ax×ax=>(uR x.1 x.2).p9) aeI (λx=>x.1.xs=s/\x.1.bF/\x.2.xs=d/\x.2.bF) (λρ w' hw=>(hc ρ w' hw).mono λe w'' he=>by
  obtain⟨u,x,h1,h2,h3,h4,h5,h6,h7,h8⟩:=he;exact⟨(u,x),⟨h1,h2,h3,h4⟩,h5,h6,h7,h8⟩) (λx hx=>h x.1 x.2 hx.1 hx.2.1 hx.2.2.1 hx.2.2.2)
theorem ado{o:Nat}{r:Int}{x:List aN×Nat}(hw0:B.w0=w)(hb:∀R w',S.holds R w'->(aU w).holds R w')(hkA:∀R w',S.holds R w'->(Qo w.heap.size kept).holds R w')(hi:(i,b_.rows (bO acc) 9 T)∈H)(hfr:From kept acc)(hao:xZ acc)(hr:r=0)(hx:x=(acc.map ak.pl,o)):
 jS B (.xg [.agg [.os i acc.length,aC o],aC 0]) H S nx (MB w r x):=by
 subst hw0 hr hx;refine dK λρ w' hw=> .inr ⟨rfl,?_⟩;have amQ:=bG hw hb;obtain⟨R,φ,lF⟩:=hw;have hbase:=hb R w' lF.qL;have hkept:=hkA R w' lF.qL;obtain⟨h1,h2,h3⟩:=lF.jA _ hi;simp only at h2 h3;rw[jJ]at h2;refine⟨acc,(ρ i).base,(ρ i).cap,rfl,hao,h2,rfl,amQ,λb=>R b/\B.w0.heap.size<=b,φ i,λb hb=>⟨hb.2,lF.ro b hb.1⟩,λb hb=>⟨?_,b_.size (lF.jA _ hi) hb⟩,λb hb hb'=>lF.apart _ hi b hb' hb.1,λn hn=> ?_,h1,?_⟩
 ·rcases ack b B.w0.heap.size with hl|hl
  ·exact absurd (hbase b hl).1 (lF.apart _ hi b hb)
  ·exact hl
 ·obtain⟨k,hk,e1,e2,e3⟩:=hfr n hn;have:=hkept k hk;unfold Rw at this|-
  rw[e1,e2,e3];exact this
 ·rcases h3 with⟨g1,g2,_⟩|⟨b,off,c,g1,g2,g3,g4,g5⟩
  ·left;have:acc.length=0:=by omega
   have:=ahV this;subst this;rfl
  ·refine .inr ⟨b,off,g1,(g2 b).2 rfl,λm r hm j v hj=> ?_⟩;have:=g5 m r hm j v hj;rw[<-alF];simpa[World.cell?,g3]using this
theorem afN(w:World)(g:bM)(hg:g.ok w):Calls Tryz.prog 23 #[g.val] w (MB w (cZ g).1 (jl (g.l.map ak.pl) (check g).2 g.out.toNat)):=by
 refine fH Tryz.func23 [.agg [.c (.slice g.base g.l.length g.cap),aC g.out]] ?_;repeat' ((conv=>whnf)<;>first|refine bV ?_|refine ag ?_ ?_<;>intro _)
 refine wZ (f:=22) (cZ g) Tryz.call22 (λρ w' hw=>yj w' g (ae hw λR h=>hg.later h)) (λhne=> ?_) (λhsp qb qc=> ?_)
 ·repeat' ((conv=>whnf)<;>first|(show @iG _ _ _;refine gJ hne ?_)|refine bV ?_)
  conv=>whnf
  exact dK λρ w' hw=> .inl ⟨hne,rfl,bG hw (λ_ _ h=>h)⟩
 obtain⟨hck,hsl,hsi⟩:=jC hsp;obtain⟨hl1,Ez,hout,hcl,hin⟩:=gK hck;have hL:=CK hsp;repeat' ((conv=>whnf)<;>first|refine bV ?_|refine ag ?_ ?_<;>intro _)
 refine Wp.loop (σ:=Nat×List ak×List Nat) 5 (λ⟨i,kept,st⟩=>[(6,.lp 2 0 0 0),(1,.lp 0 0 0 0),(2,.lp 1 0 0 0),(28,.c (.slice g.base g.l.length g.cap)),(29,aC g.l.length),(30,aC i)])
  (λ⟨i,kept,st⟩=>[(4,.rows (aZ (xU st)) 1 3),(3,.rows (bO kept) 9 41),(2,.box [.os 3 kept.length,aC 0,.os 4 st.length] 108),(1,.box [.c (.slice none 0 0),aC 0] 24),(0,.box [.c (.slice g.base g.l.length g.cap),aC g.out] 24)])
  (λ⟨_,kept,_⟩=>(aU w).and (Qo w.heap.size kept))
  (λ⟨i,kept,st⟩=>i<=g.l.length/\xZ kept/\zR (g.l.map ak.pl) (check g).2 (cZ g).2 i (kept.map ak.pl) st) (λs=>g.l.length-s.1) (0,[],[]) [(3,none),(4,none)] ay (λs=>⟨rfl,rfl⟩)
  ⟨aae _,λn hn=>by simp at hn,zC _ _ _⟩ ⟨rfl,⟨rfl,rfl,rfl,rfl,rfl,rfl,trivial⟩,⟨rfl,rfl,aj,aj,aj,trivial⟩,λR w' h=>⟨h.1,aed _ R w'⟩⟩ ?_
 rintro⟨i,kept,st⟩ ⟨hi,hko,hT⟩;by_cases hlt:i<g.l.length
 ·obtain⟨a,ha⟩:∃a,g.base=some a:=aT (j:=i) hg.rows ko;have hrow:=fP hlt;have hnm:=aby hlt;have hnp:(g.l.map ak.pl)[i]? =some g.l[i].pl:=by rw[ab5,YL hlt];rfl
  generalize g.l[i]=n at*;have hno:=hg.each n hnm;have hns:=hg.small n hnm;have alb:=hL.ahead hnp;have ah2:=hT.len;have hkl:=hT.few;rw[aas]at hkl;obtain⟨df,dU,hR,hS⟩:=hT.ok;have akV:(g.l.map ak.pl)[st.length]? =some n.pl:=by rw[ah2];exact hnp
  obtain⟨hm,ht⟩:=Qb hL hR hS akV;have ad5:=(hL.span _ _ akV).2;have hT':=hT.step hL hnp;rw[<-ah2]at alb;rw[ah2]at hm ht ad5;have hpl:(dR st n).pl=bu st n.pl:=Tt st n;rw[<-hpl]at hm ht;have ajZ:=kE hm.form;rw[hR.oK,aas]at ajZ;have hmo:∀w',n.ok w'->(dR st n).ok w':=λw' h=>adv h ajZ aa;have hms:(dR st n).small:=⟨hns.data,hns.aQ⟩;have hb1: -1048576<=(jk (dR st n).pl (gD (check g).2 i) df dU).1:=by unfold tight at ht;omega
  have hb2:(jk (dR st n).pl (gD (check g).2 i) df dU).2<=1048576:=by unfold tight at ht;omega
  have aa1:kg (gD (check g).2 i) (kept.map ak.pl) (bu st n.pl)=kg (gD (check g).2 i) (kept.map ak.pl) (dR st n).pl:=by rw[hpl]
  repeat' ((conv=>whnf)<;>first|refine pR ?_|refine A_ ?_|refine bV ?_|refine ag ?_ ?_<;>intro _)
  refine Wp.rounds 3 ?_;by_cases hk:jO (kept.map ak.pl) (dR st n).pl=true
  ·have hstep:o8 (gD (check g).2 i) (kept.map ak.pl,st) n.pl=((Bt (kept.map ak.pl) ⟨2,0,0,gD (check g).2 i,0,0,0,lm (gD (check g).2 i) (kept.map ak.pl) (dR st n).pl,[]⟩).1,st++[(Bt (kept.map ak.pl) ⟨2,0,0,gD (check g).2 i,0,0,0,lm (gD (check g).2 i) (kept.map ak.pl) (dR st n).pl,[]⟩).2]):=by
    unfold o8;simp only;rw[aa1,kg,if_pos hk]
   rw[hstep]at hT';unfold Bt at hT';have hKn:=BV hR hm hk;have anr:=(Qf hR hm hKn).2;have apV:=(dN (gD (check g).2 i)).2;have hfd:∀w' b nb nc sb sc,om w' b nb nc kept sb sc (xU st)->(∀k∈kept,k.ok w'/\k.small)->n.ok w'->Calls Tryz.prog 55 #[.pointer (some ⟨b,0,none⟩),(dR st n).p9] w' (CP w' (gD (check g).2 i) (lm (gD (check g).2 i) (kept.map ak.pl) (dR st n).pl)):=λw' b nb nc sb sc g1 g2 g3=>by
    by_cases h6:(dR st n).ai=6
    ·exact aaO g1 g2 hR _ (hmo w' g3) hms hm hk hb1 hb2 h6
    ·exact Za g1 g2 hR _ (hmo w' g3) hms hm hk hb1 hb2 h6
   cases hf:rU (kept.map ak.pl) ⟨2,0,0,gD (check g).2 i,0,0,0,lm (gD (check g).2 i) (kept.map ak.pl) (dR st n).pl,[]⟩with
   |some k=>
    rw[hf]at hT';repeat' ((conv=>whnf)<;>first|refine zQ ?_|(refine OH ?_;intro u x r1 r2 r3 r4)|(show aJ _ 56 ..;(refine RY (m:=uR u x) (λR w' h=>Xx r2 r4 h.2) (λR w' h y hy=>(Im hko h.1.2 y hy).1) aa aa (by rw[Jh r1 r3];exact hf) (λe8 e7=> ?_)))|refine bV ?_|refine ag ?_ ?_<;>intro _)
    all_goals(conv=>whnf)
    all_goals exact⟨(i+1,kept,st++[k]),[(4,some 9),(3,some 3)],⟨hlt,hko,hT'⟩,by simp only;omega,rfl,fE,fE,λR w' h=>h.1⟩
   |none=>
    rw[hf]at hT';repeat' ((conv=>whnf)<;>first|refine zQ ?_|(refine OH ?_;intro u x r1 r2 r3 r4)|(show aJ _ 56 ..;(refine aaW (m:=uR u x) (λR w' h=>Xx r2 r4 h.2) (λR w' h y hy=>(Im hko h.1.2 y hy).1) aa aa (by rw[Jh r1 r3];exact hf) (λe10 e8 e7 u1 u2 u3 q1 q2 q3 q4 q5 q6=> ?_)))|refine bV ?_|refine ag ?_ ?_<;>intro _)
    all_goals(conv=>whnf)
    all_goals exact⟨(i+1,kept++[yc (uR u x) u1 u2 u3],st++[kept.length]),[(4,some 11),(3,some 9)],⟨hlt,KH hko (Yq r2 r4) ⟨by show x.xs.length<=5000;rw[r3,anr];omega,aae _⟩ q2 q3 q4 q5 q6,by rw[abJ q1 q3 q5,Jh r1 r3];rw[aas]at hT';exact hT'⟩,by simp only;omega,rfl,fE,fE,λR w' h=>⟨h.1.1.1.1.1,O9 h.1.1.1.1.2 ⟨h.1.1.2,h.1.2,h.2⟩⟩⟩
  ·have hstep:o8 (gD (check g).2 i) (kept.map ak.pl,st) n.pl=((Bt (kept.map ak.pl) (dR st n).pl).1,st++[(Bt (kept.map ak.pl) (dR st n).pl).2]):=by
    unfold o8;simp only;rw[aa1,kg,if_neg hk]
   rw[hstep]at hT';unfold Bt at hT';cases hf:rU (kept.map ak.pl) (dR st n).pl with
   |some k=>
    rw[hf]at hT';repeat' ((conv=>whnf)<;>first|refine zQ ?_|refine Oe ?_|(show aJ _ 56 ..;refine RY (m:=dR st n) (λR w' h=>hmo w' (hno.later h.1)) (λR w' h x hx=>(Im hko h.2 x hx).1) aa aa hf (λe8 e7=> ?_))|refine bV ?_|refine ag ?_ ?_<;>intro _)
    all_goals(conv=>whnf)
    all_goals exact⟨(i+1,kept,st++[k]),[(4,some 9),(3,some 3)],⟨hlt,hko,hT'⟩,by simp only;omega,rfl,fE,fE,λR w' h=>h⟩
   |none=>
    rw[hf]at hT';have anv:(dR st n).uB:=(hmo w hno).uB;repeat' ((conv=>whnf)<;>first|refine zQ ?_|refine Oe ?_|(show aJ _ 56 ..;refine aaW (m:=dR st n) (λR w' h=>hmo w' (hno.later h.1)) (λR w' h x hx=>(Im hko h.2 x hx).1) aa aa hf (λe10 e8 e7 u1 u2 u3 q1 q2 q3 q4 q5 q6=> ?_))|refine bV ?_|refine ag ?_ ?_<;>intro _)
    all_goals(conv=>whnf)
    all_goals exact⟨(i+1,kept++[yc (dR st n) u1 u2 u3],st++[kept.length]),[(4,some 11),(3,some 9)],⟨hlt,KH hko anv hms q2 q3 q4 q5 q6,by rw[abJ q1 q3 q5];rw[aas]at hT';exact hT'⟩,by simp only;omega,rfl,fE,fE,λR w' h=>⟨h.1.1.1.1,O9 h.1.1.1.2 ⟨h.1.1.2,h.1.2,h.2⟩⟩⟩
 ·obtain rfl:i=g.l.length:=by omega
  have hdone:rG (g.l.map ak.pl) (check g).2 ([],[])=(kept.map ak.pl,st):=by
   have e:(g.l.map ak.pl).length=g.l.length:=aas _;rw[<-e]at hT;exact hT.done
  have ah2:=hT.len;have hkl:=hT.few;rw[aas]at hkl;obtain⟨df,dU,hR,hS⟩:=hT.ok;have hoL:g.out.toNat<st.length:=by omega
  have hoK:st.getD g.out.toNat 0<kept.length:=by have:=hS.lt _ hoL;rwa[hR.oK,aas]at this
  have hx:jl (g.l.map ak.pl) (check g).2 g.out.toNat=((ve (rC (kept.map ak.pl) (st.getD g.out.toNat 0)) (kept.map ak.pl) 0 ([],[])).1,(ve (rC (kept.map ak.pl) (st.getD g.out.toNat 0)) (kept.map ak.pl) 0 ([],[])).2.getD (st.getD g.out.toNat 0) 0):=by unfold jl;rw[hdone]
  rw[hx];have hoR:(aZ (xU st))[g.out.toNat]? =some [.int .i64 (st.getD g.out.toNat 0)]:=Ih hoL;generalize st.getD g.out.toNat 0=out at*;repeat' ((conv=>whnf)<;>first|(show xA ..;refine O1 (λr=> ?_))|(show eP ..;(refine bY g.out.toNat aa hoL Fj ?_))|(show rQ ..;refine row_of _ _ hoR rfl ?_)|(show aJ _ 57 ..;(refine Ik aj Tryz.call57 (λ_=> .tuple #[]) uZ (nT (kept.map ak.pl) out (λ_=>false)) (λρ w' hw hm'=>by obtain⟨b,e,hd⟩:=Cg hw aj aj aj;exact aaD e (Qn hR (out+1) out (amD _) hoK w' _ hd hm')) (λs hs=> ?_)))|(show pg ..;(refine lD kept.length rfl rfl mE aa ?_))|refine bV ?_|refine ag ?_ ?_<;>intro _)
  have anZ:out<(kept.map ak.pl).length:=by rw[aas];exact hoK
  obtain rfl:=aff hR.BD anZ hs;generalize uF:rC (kept.map ak.pl) out=need at*;generalize hfin:ve need (kept.map ak.pl) 0 ([],[])=fin at*;refine Wp.loop (σ:=Nat×List ak×List Nat) 9 (λ⟨j,acc,p⟩=>[(13,.lp 7 0 0 0),(11,.c (.map (some r))),(12,aC out),(2,.lp 1 0 0 0),(78,.os 3 kept.length),(79,aC kept.length),(80,aC j)])
   (λ⟨j,acc,p⟩=>[(8,.rows (bO acc) 9 41),(7,.box [.os 8 acc.length,aC 0,.os 6 kept.length] 108),(6,.rows (aZ (xU (jd kept.length p))) 1 3),(5,.ext (lC r (uZ need))),(3,.rows (bO kept) 9 41),(1,.box [.c (.slice none 0 0),aC 0] 24)])
   (λ_=>(aU w).and (Qo w.heap.size kept))
   (λ⟨j,acc,p⟩=>j<=kept.length/\p.length=j/\acc.length<=j/\xZ acc/\From kept acc/\ve need ((kept.map ak.pl).drop j) j (acc.map ak.pl,p)=fin/\∀k,p.getD k 0<=1000000) (λs=>kept.length-s.1) (0,[],[]) [(8,none)] ay (λs=>⟨rfl,rfl⟩)
   ⟨aae _,rfl,aae _,λn hn=>by simp at hn,λn hn=>by simp at hn,hfin,λk=>aae _⟩ ⟨rfl,⟨rfl,rfl,rfl,rfl,rfl,rfl,rfl,trivial⟩,⟨rfl,aj,?_,aj,aj,aj,trivial⟩,λR w' h=>h⟩ ?_
  ·show(6,b_.rows (aZ (xU (jd kept.length []))) 1 3)∈_;rw[Wj];exact aj
  rintro⟨j,acc,p⟩ ⟨hj,hpl,hal,hao,hfr,hcut,aht⟩;have hgl:(aZ (xU (jd kept.length p))).length=kept.length:=by rw[PV,Il aa]
  by_cases hlt:j<kept.length
  ·have hrow:=fP hlt;have hxm:=aby hlt;have hjr:j<(kept.map ak.pl).length:=by rw[aas];exact hlt
   have hxr:(kept.map ak.pl)[j]=kept[j].pl:=by simp
   have hxa:=hR.ahead (YL hjr);rw[ahc hjr]at hcut;rw[hxr]at hxa hcut;generalize kept[j]=x at*;have hxo:=hko x hxm;have hkx:x.pl.ai=x.ai:=rfl;rw[SB,hkx]at hcut;have hq:(jd kept.length (p++[acc.length])).length=kept.length:=Il zk;have hxq:gL x.pl (jd kept.length (p++[acc.length])).length:=by rw[hq];exact hxa.mono aa
   have hxv:(dR (jd kept.length (p++[acc.length])) x).pl=bu p x.pl:=by
    rw[Tt,Ww (by rw[adx,ag_,hpl];exact hxa.mono aa),Ev (by rw[hpl];exact hxa)]
   by_cases hin:need j=true\/x.ai=1
   ·rw[if_pos hin]at hcut;have hkeep:xZ (acc++[dR (jd kept.length (p++[acc.length])) x]):=acW hao (Xt hxo.1 (ag1 (Ml aht aa))) ⟨hxo.2.data,hxo.2.aQ⟩;have aiL:ve need ((kept.map ak.pl).drop (j+1)) (j+1) ((acc++[dR (jd kept.length (p++[acc.length])) x]).map ak.pl,p++[acc.length])=fin:=by
     rw[afn,afY,aiK,hxv];simp only[aas]at hcut;exact hcut
    cases hsb:need j with
    |true=>
     repeat' ((conv=>whnf)<;>first|refine Fb ?_|refine Ex ?_|refine wV ?_|(show dH ..;refine Cj hpl hlt ?_)|refine Ew ?_|refine FD ?_|refine Fx ?_|refine wX ?_|refine E9 ?_|refine Gh ?_|(show cO _ 23 ..;refine mV [12] _ aa3 ?_)|refine bV ?_|refine ag ?_ ?_<;>intro _)
     all_goals(conv=>whnf)
     all_goals exact⟨(j+1,acc++[dR (jd kept.length (p++[acc.length])) x],p++[acc.length]),[(8,some 11)],⟨hlt,by rw[adx,ag_,hpl],by rw[adx,ag_];omega,hkeep,Rj hfr hxm,aiL,Ml aht aa⟩,by simp only;omega,rfl,fE,fE,λR w' h=>h⟩
    |false=>
     have hk1:x.ai=1:=by rw[hsb]at hin;simpa using hin
     repeat' ((conv=>whnf)<;>first|refine Fb ?_|refine Ex ?_|refine wV ?_|(show dH ..;refine Cj hpl hlt ?_)|refine Ew ?_|refine FD ?_|refine Fx ?_|refine wX ?_|refine E9 ?_|refine Gh ?_|(show cO _ 23 ..;refine mV [12] _ aa3 ?_)|refine bV ?_|refine ag ?_ ?_<;>intro _)
     all_goals(conv=>whnf)
     all_goals exact⟨(j+1,acc++[dR (jd kept.length (p++[acc.length])) x],p++[acc.length]),[(8,some 11)],⟨hlt,by rw[adx,ag_,hpl],by rw[adx,ag_];omega,hkeep,Rj hfr hxm,aiL,Ml aht aa⟩,by simp only;omega,rfl,fE,fE,λR w' h=>h⟩
   ·rw[if_neg hin]at hcut;have hsb:need j=false:=by simpa usingλh=>hin (.inl h)
    have hk1:¬x.ai=1:=λh=>hin (.inr h);repeat' ((conv=>whnf)<;>first|refine Fb ?_|refine Ex ?_|refine wV ?_|(show dH ..;refine Cj hpl hlt ?_)|refine Ew ?_|refine FD ?_|refine Fx ?_|refine wX ?_|refine E9 ?_|refine Gh ?_|(show cO _ 23 ..;refine mV [12] _ aa3 ?_)|refine bV ?_|refine ag ?_ ?_<;>intro _)
    all_goals(conv=>whnf)
    all_goals exact⟨(j+1,acc,p++[0]),[(8,some 8)],⟨hlt,by rw[adx,ag_,hpl],by omega,hao,hfr,hcut,Ml aht (aae _)⟩,by simp only;omega,rfl,fE,⟨aj,aj,Zw aa aj,aj,aj,aj,trivial⟩,λR w' h=>h⟩
  ·obtain rfl:j=kept.length:=by omega
   rw[amC (by rw[aas];exact Tw _)]at hcut;have hcut:(acc.map ak.pl,p)=fin:=hcut;subst hcut;have hgp:jd kept.length p=p:=by unfold jd;rw[hpl,aiH];simp
   have hop:(aZ (xU (jd kept.length p)))[out]? =some [.int .i64 (p.getD out 0)]:=by rw[hgp];exact Ih aa
   repeat' ((conv=>whnf)<;>first|(show eP ..;refine bY out rfl hoK (amL hgl.symm) ?_)|(show rQ ..;refine row_of _ _ hop rfl ?_)|refine bV ?_|refine ag ?_ ?_<;>intro _)
   all_goals(conv=>whnf)
   all_goals exact ado rfl (λR w' h=>h.1) (λR w' h=>h.2) aj hfr hao hsp rfl
end
end Go.Proofs.YtgndjjdeopfdkaaGreat

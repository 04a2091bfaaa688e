import Derived.Test.YtgndjjdeopfdkaaGreatKLowerMeans8a
/- texts LP MG of the proof of LowerMeansSaid -/
set_option maxHeartbeats 16000000
set_option maxRecDepth 20000
set_option linter.unusedVariables false
set_option linter.unusedSimpArgs false
namespace Go.Proofs.YtgndjjdeopfdkaaGreat
open Go.RowKit Go.SX
section
abbrev abx:DT:=(bS [0,1,2,3,5,6,7,8,4,9,110,111,12] .done)
abbrev xE:DT:=(bS [0,1,2,3,4,5,6,7,8,109,110] .done)
theorem afP:(Tryz.prog.info? 3).map (λi=>i.zero)=some (some (.int .i64 0)):=by kernel_rfl
variable {H:Heap} {S:bR} {i r:Nat} {t:Int->Option Int} {k:Int} {K:SV->Prop} {B:Base} {tb:List (Nat×TI)}
theorem Ve{n:Nat}(hi:(i,b_.ext (lC r (pX t)))∈H){v:Option Int}(hv:t k=v)(h:K (.c (.tuple #[.int .i64 (v.getD 0),.bool v.isSome]))):Ce ⟨Tryz.prog,B,n,tb⟩ 161 (.c (.map (some r))) (aC k) true H S K:=by
 have hz:=afP;cases ht:Tryz.prog.info? 3 with
 |none=>rw[ht]at hz;cases hz
 |some ti=>
  rw[ht]at hz;refine abv (z:= .int .i64 0) Tryz.underlying161 Tryz.underlying3 ht (by simpa using hz) hi ?_;have e:(pX t k).getD (.int .i64 0)= .int .i64 (v.getD 0)/\(pX t k).isSome=v.isSome:=by
   unfold pX;rw[hv];cases v<;>exact⟨rfl,rfl⟩
  rw[if_pos rfl,e.1,e.2];exact h
variable {x:Int}
theorem afG{K:Heap->Prop}{n:Nat}(hi:(i,b_.ext (lC r (λ_=>none)))∈H)(h:Ed i (.ext (lC r (pX (qY x)))) K H):qV ⟨Tryz.prog,B,n,tb⟩ 161 (.c (.map (some r))) (aC 0) (aC x) H S K:=
 Ji Tryz.underlying161 Tryz.underlying3 hi (by rw[Y2];exact h)
theorem aiP{v:Int}{K:Heap->Prop}{n:Nat}(hi:(i,b_.ext (lC r (pX t)))∈H)(h:Ed i (.ext (lC r (pX (λz=>if z=k then some v else t z)))) K H):qV ⟨Tryz.prog,B,n,tb⟩ 161 (.c (.map (some r))) (aC k) (aC v) H S K:=
 Ji Tryz.underlying161 Tryz.underlying3 hi (by rw[afA];exact h)
theorem ahH{y z:Int}{K':Bool->Prop}{Kt:SV->Prop}(hz:z=min x y)(e1:K' true=mmK false .i64 Kt y [])(e2:K' false=mmK false .i64 Kt x [])(h:Kt (aC z)):iG (y<x) K':=by
 refine ag (λhy=> ?_) (λhy=> ?_)
 ·rw[e1];show Kt _;rw[<-show z=y by omega];exact h
 ·rw[e2];show Kt _;rw[<-show z=x by omega];exact h
theorem q9{P:Program}{t:TypeId}{ti:TI}(h:lu P t=some ti)(hk:ti.ai=1){ox oy:Operand}{base:Option Addr}{len cap:Nat}{b:Bool}(hb:base.isNone=b)(hK:K (.c (.bool b))):
 mi P (do eqGuard .eql t ox oy (.slice base len cap) (.slice none 0 0);binOp .eql t (.slice base len cap) (.slice none 0 0)) K:=by
 subst hb;exact ji h hk hK
structure Ch where
 s:fu
 t:Int->Option Int
 m:Option Int
def Ch.pl(y:Ch):oZ:=⟨y.s.pl,y.t,y.m⟩
def jK(m:Option Int):List SV:=[.lp 0 0 0 0,aC (m.getD 0),.c (.bool m.isSome)]
def Bl(s:fu)(t:Int->Option Int)(x:Int)(i:Nat):fu×(Int->Option Int)×Int:=match t i with
 |some a=>(s,t,a)
 |none=>(eH s 8 x 0 i,λz=>if z=i then some (s.code.length:Int)else t z,s.code.length)
def LF(s:fu)(t:Int->Option Int)(m:Option Int)(v:Int):Ch:=match m with
 |none=>⟨s,t,some v⟩
 |some a=>⟨eH s 3 a v 0,t,some s.code.length⟩
def Kb(x:Int)(y:Ch)(i:Nat)(m:ax):Ch:=
 LF (eH (aS (Bl y.s y.t x i).1 m).1 5 (Bl y.s y.t x i).2.2 0 (aS (Bl y.s y.t x i).1 m).2) (Bl y.s y.t x i).2.1 y.m (aS (Bl y.s y.t x i).1 m).1.code.length
def CX(base:Nat)(mo:Option Int)(z:Ch):Ch:=match z.m with
 |none=>⟨z.s,z.t,mo⟩
 |some a=>if 0<base then LF (eH z.s 8 a 0 base) z.t mo z.s.code.length else LF z.s z.t mo a
theorem TY(s:fu)(t:Int->Option Int)(m:Option Int)(v:Int):(LF s t m v).pl=⟨(iU s.pl m v).1,t,some (iU s.pl m v).2⟩:=by
 cases m<;>rfl
variable {base:Nat}
theorem DU{n:Nat}{y:Ch}{m:ax}{dd:List Int}(hm:m.xs=wR n base dd)(hd:dd≠[]):(Kb x y i m).pl=uX n base x y.pl i dd:=by
 have ep:∀s:fu,dF s.pl (wR n base dd)=((aS s m).1.pl,(aS s m).2):=λs=>by rw[<-hm,<-DK]
 unfold Kb uX;rw[if_neg hd,TY];have et:rY y.pl.s y.pl.t x i=((Bl y.s y.t x i).1.pl,(Bl y.s y.t x i).2):=by
  unfold rY Bl;show(match y.t i with|some a=>_|none=>_)=_;cases y.t i<;>rfl
 simp only[et,ep,sU]
 rfl
variable {y:oZ}
theorem adZ{n:Nat}{z:Ch}{ds:List (List Int)}(hz:sN n base x ds 0 ⟨y.s,y.t,none⟩=z.pl):(CX base y.m z).pl=sV n base x y ds:=by
 unfold CX sV;simp only[hz];show _=(match z.m with|none=>_|some a=>_);cases z.m with
 |none=>rfl
 |some a=>
  show(if 0<base then _ else _:Ch).pl=_;by_cases hb:0<base
  ·simp only[if_pos hb,TY];rfl
  ·simp only[if_neg hb,TY];rfl
theorem rE.mono{c:fT}{k k':Nat}{s:fu}(h:rE c k s)(hk:k<=k'):rE c k' s:=⟨h.ok,aiC h.yF hk,aiC h.y9 hk⟩
variable {g f:Nat}
theorem Zt{n:Nat}{all:List (List Int)}(h:¬base<n):p8 n g x all f base y=y:=by
 cases f with
 |zero=>rfl
 |succ f=>rw[p8,if_neg h]
theorem agS{n:Nat}(h:g*g<n)(hf:n<=g+f)(h1:1<=g):∃f',f=f'+1/\stepG f n g=stepG f' n (2*g):=by
 have hg:g<=g*g:=Nat.le_mul_of_pos_right g h1;obtain⟨f',rfl⟩:∃f',f=f'+1:=⟨f-1,by omega⟩;exact⟨f',rfl,by rw[stepG,if_pos h]⟩
theorem stepG_end{n:Nat}(h:¬g*g<n):stepG f n g=g:=by
 cases f with
 |zero=>rfl
 |succ f=>rw[stepG,if_neg h]
theorem agD{n:Nat}(h:g*g<n)(hn:n<=4096):g<64:=by
 rcases ack g 64 with h1|h1
 ·exact h1
 ·have:64*64<=g*g:=alN h1 h1;omega
theorem Fp{cx:Cx}{cc:Operand}{a b:Code}{bb:Bool}{env:Env}{nx:Nat}{K:Exit->Env->Heap->bR->Nat->Prop}(hev:∀k:SV->Prop,xX cx.n env cc k=k (.c (.bool bb)))(h1:bb=true->vcC cx a env H S nx K)(h2:bb=false->vcC cx b env H S nx K):vcC cx (.cond cc a b) env H S nx K:=by
 show xX cx.n env cc _;rw[hev];cases bb
 ·exact h2 rfl
 ·exact h1 rfl
abbrev ak3(w:World)(F:Nat->Prop)(s0:fu)(d:aY)(s:fu):bR:=(((iQ s.aF).and ((Q6 s0.aF s.aF).off (iV w F))).and (wm d)).and (l8 w F)
abbrev al9(c:fT)(vl:List Int)(r:Nat)(y:Ch):Heap:=(6,.box (jK y.m) 129)::(5,.ext (lC r (pX y.t)))::yU c y.s vl 0 1 7 8 9
abbrev ama(c:fT)(vl:List Int)(r:Nat)(m:Option Int)(y:Ch):Heap:=(10,.box (jK y.m) 129)::(6,.box (jK m) 129)::(5,.ext (lC r (pX y.t)))::yU c y.s vl 0 1 11 12 13
theorem afX(c:fT)(s:fu)(vl:List Int)(x:Int)(d:aY)(hN:wT c s vl)(hdl:d.l.length=c.aA)(hdn:abK c.aA d)(hds:∀u∈d.l,u.bF)(hdc:d.l.length<=d.cap)(w:World)(ρ:Nat->SX.Loc)(F:Nat->Prop)(h:qF w ρ F 2 5 (kG c s vl) ((iQ s.aF).and (wm d))):
 Calls Tryz.prog 65 (SV.dW ρ [.lp 0 0 0 0,aC x,.c d.val]).toArray w (pz w ρ F c s vl (nG c.aA c.giant s.pl x (d.l.map ax.xs))):=by
 have hn1:=hN.aA.1;have hn2:=hN.aA.2;refine zzF Tryz.func65 (yZ 2 ρ) ρ [.lp 0 0 0 0,aC x,.c d.val] (kG c s vl) (((iQ s.aF).and (wm d)).and (l8 w F)) 5 h.abs ?_
 (repeat' ((conv=>whnf)<;>first|refine Wp.go bW rfl ?_))
 refine Fp (λ_=>rfl) (λhg=> ?_) (λhg=> ?_)
 focus
  (repeat' ((conv=>whnf)<;>first|refine Wp.go bW rfl ?_))
  refine Wp.loop (σ:=Nat×Nat) 5 (λq=>[(0,.lp 0 0 0 0),(1,aC x),(2,.c d.val),(7,aC c.aA),(8,aC q.2)]) (λ_=>kG c s vl) (λ_=>((iQ s.aF).and (wm d)).and (l8 w F)) (λq=>stepG q.1 c.aA q.2=stepG c.aA c.aA 1/\c.aA<=q.2+q.1/\1<=q.2/\q.2<=128) (λq=>q.1) (c.aA,1) [] ay (λq=>⟨rfl,rfl⟩) ⟨rfl,by omega,Tw _,(by decide:1<=128)⟩ ⟨rfl,⟨rfl,rfl,rfl,rfl,rfl,trivial⟩,fE,λR w' h=>h⟩ ?_;rintro⟨f,g⟩ ⟨hgs,hgf,hg1,hg2⟩;simp only at hgs hgf hg1 hg2;have hgg:g*g<=128*128:=alN hg2 hg2;have hgc:((g*g:Nat):Int)=(g:Int)*g:=by push_cast;rfl
  by_cases hlt:g*g<c.aA
  focus
   obtain⟨f',rfl,e⟩:=agS hlt hgf hg1;have:=agD hlt hn2
   (repeat' ((conv=>whnf)<;>first|(show @iG _ _ _;(refine gJ rZ ?_))|(show fF ..;(first|refine wrap_i64 rZ rZ ?_))|refine Wp.go bW rfl ?_|refine mh ?_))
   all_goals(conv=>whnf)
   exact⟨(f',g*2),[],⟨by rw[<-hgs,e,Nat.mul_comm],by show c.aA<=g*2+f';omega,by show 1<=g*2;omega,by show g*2<=128;omega⟩,amD f',rfl,fE,fE,λR w' h=>h⟩
  rw[stepG_end hlt]at hgs;have hgv:tT c.giant c.aA=g:=by rw[hg];exact hgs.symm
  have hg4:g<=4096:=by omega
  (repeat' ((conv=>whnf)<;>first|(show @iG _ _ _;(refine jc rZ ?_))|(show fF ..;(refine wrap_i64 rZ rZ ?_))|(show xA ..;refine Rm (λr=> ?_))|(show qV ..;(refine afG aj ?_))|refine Wp.go bW rfl ?_))
  clear hgs hgf hgg hgc hg2 hlt hg
 rotate_left
 focus
  let g:Nat:=c.aA
  have hgv:tT c.giant c.aA=g:=by rw[hg];show c.aA=g;rfl
  have hg1:1<=g:=hn1;have hg4:g<=4096:=hn2
  (repeat' ((conv=>whnf)<;>first|(show xA ..;refine Rm (λr=> ?_))|(show qV ..;(refine afG aj ?_))|refine Wp.go bW rfl ?_))
  clear hg
 all_goals
  obtain⟨Y,hY0⟩:∃Y,p8 c.aA g x (d.l.map ax.xs) c.aA 0 ⟨s.pl,qY x,none⟩=Y:=⟨_,rfl⟩;refine Wp.loop (σ:=Nat×Nat×Ch) 10 (λq=>[(0,.lp 0 0 0 0),(1,aC x),(2,.c d.val),(7,aC c.aA),(8,aC g),(9,.c (.map (some r))),(10,.lp 6 0 0 0),(11,aC q.1)]) (λq=>al9 c vl r q.2.2) (λq=>ak3 w F s d q.2.2.s) (λq=>p8 c.aA g x (d.l.map ax.xs) q.2.1 q.1 q.2.2.pl=Y/\c.aA<=q.1+q.2.1/\q.1<=8192/\rE c (500000+6*q.1) q.2.2.s) (λq=>c.aA-q.1) (0,c.aA,⟨s,qY x,none⟩) [(7,some 2),(8,some 3),(9,some 4)] ay (λq=>⟨rfl,rfl⟩) ⟨hY0,by show c.aA<=0+c.aA;omega,aae _,hN.ok,hN.yF,hN.y9⟩ ⟨rfl,⟨rfl,rfl,rfl,rfl,rfl,rfl,rfl,rfl,trivial⟩,fE,λR w' h=>⟨⟨⟨h.1.1,vP _ _ _⟩,h.1.2⟩,h.2⟩⟩ ?_;rintro⟨base,f,ys,yt,ym⟩ ⟨hY,hf,hb8,z0⟩;simp only at hY hf hb8 z0;by_cases hlt:base<c.aA
  focus
   obtain⟨f',rfl⟩:∃f',f=f'+1:=⟨f-1,by omega⟩;rw[p8,if_pos hlt]at hY;obtain⟨hi,hhi⟩:∃hi,hi=min c.aA (base+g):=⟨_,rfl⟩;rw[<-hhi]at hY;have hhi1:base<hi:=by omega
   have hhi2:hi<=c.aA:=by omega
   (repeat' ((conv=>whnf)<;>first|(show @iG _ _ _;(first|refine ahH (z:=(hi:Int)) aa rfl rfl ?_|refine gJ aa ?_))|(show ny ..;refine Z8 (u:=d) (l:=base) (h:=hi) rfl rfl aa aa hdc ?_)|refine Wp.go bW rfl ?_|refine mh ?_))
   have ao6:(Lu d base hi).l.length=hi-base:=La aa;have ajg:∀u∈(Lu d base hi).l,u∈d.l:=λu hu=>anW (ams hu);obtain⟨Z,hZ0⟩:∃Z,sN c.aA base x (((Lu d base hi).l.drop 0).map ax.xs) 0 ⟨ys.pl,yt,none⟩=Z:=⟨_,rfl⟩;have hZg:sN c.aA base x (List.take (hi-base) (List.drop base (d.l.map ax.xs))) 0 ⟨ys.pl,yt,none⟩=Z:=by rw[<-hZ0];simp[Lu,anY,List.map_take]
   have hcr:∀R w',(wm d).holds R w'->bE w' (Lu d base hi).base 1 (bA (Lu d base hi).l):=λR w' h=>acG (bf h.1) hdc;generalize hds':Lu d base hi=ds at*;refine Wp.loop (σ:=Nat×Ch) 14 (λq=>[(0,.lp 0 0 0 0),(1,aC x),(2,.c d.val),(7,aC c.aA),(8,aC g),(9,.c (.map (some r))),(10,.lp 6 0 0 0),(11,aC base),(12,.lp 10 0 0 0),(57,.c ds.val),(58,aC ds.l.length),(59,aC q.1)]) (λq=>ama c vl r ym q.2) (λq=>ak3 w F s d q.2.s) (λq=>q.1<=ds.l.length/\sN c.aA base x ((ds.l.drop q.1).map ax.xs) q.1 q.2.pl=Z/\rE c (500000+6*base+4*q.1) q.2.s) (λq=>ds.l.length-q.1) (0,⟨ys,yt,none⟩) [(11,some 7),(12,some 8),(13,some 9)] ay (λq=>⟨rfl,rfl⟩) ⟨aae _,hZ0,z0⟩ ⟨rfl,⟨rfl,rfl,rfl,rfl,rfl,rfl,rfl,rfl,rfl,rfl,rfl,rfl,trivial⟩,fE,λR w' h=>h⟩ ?_;clear hZ0 z0;rintro⟨k,qs,qt,qm⟩ ⟨hkl,hZ,z0⟩;simp only at hkl hZ z0;by_cases hlt2:k<ds.l.length
   focus
    rw[ahc hlt2,afY,sN]at hZ;have hrow:=fQ hlt2;have IZ:=ajg _ (aby hlt2);generalize ds.l[k]=u at*;have iL:=hds u IZ;refine Wp.know (p:=∃a,ds.base=some a) (λρ w' hw=>ae hw λR h=>aT (j:=k) (hcr _ _ h.1.2) (by rw[acN];exact hlt2)) ?_;rintro⟨da,hda⟩;rcases hdn u IZ with⟨hx0,hb0⟩|hxl
    focus
     rw[uX,if_pos hx0]at hZ
     (repeat' ((conv=>whnf)<;>first|(show dn ..;refine aM da k hda rfl hlt2 ?_)|(show gZ ..;(refine bN (λR w' h=>by rw[<-hda];exact hcr _ _ h.1.2) _ _ hrow rfl ?_))|(show mi ..;(refine q9 (ti 32 rfl) rfl (b:=true) (by rw[hb0];rfl) ?_))|refine Wp.go bW rfl ?_|refine Ib ?_|refine Hz ?_|refine mh ?_|refine ag ?_ ?_<;>intro _))
     all_goals(conv=>whnf)
     all_goals exact⟨(k+1,⟨qs,qt,qm⟩),[],⟨hlt2,hZ,z0.mono vW⟩,by show ds.l.length-(k+1)<ds.l.length-k;omega,rfl,fE,fE,λR w' h=>h⟩
    have ahC:u.xs≠[]:=λh=>by rw[h]at hxl;simp at hxl;omega
    refine Wp.know (p:=∃a,u.base=some a) (λρ w' hw=>ae hw λR h=>aT (j:=0) (bf (h.1.2.2 u IZ)) dS) ?_;rintro⟨ua,rO⟩;have hu1:(cutV u (c.aA-base) c.aA).xs=u.xs.drop (c.aA-base):=by show(u.xs.drop (c.aA-base)).take (c.aA-(c.aA-base))=_;rw[aen zW]
    have hu2:(cutV u 0 (c.aA-base)).xs=u.xs.take (c.aA-base):=by show(u.xs.drop 0).take (c.aA-base-0)=_;rw[List.drop_zero,am4]
    rcases ht:qt k with _|t
    focus
     rcases qm with _|a
     focus
      (repeat' ((conv=>whnf)<;>first|(show dn ..;refine aM da k hda rfl hlt2 ?_)|(show gZ ..;(refine bN (λR w' h=>by rw[<-hda];exact hcr _ _ h.1.2) _ _ hrow rfl ?_))|(show mi ..;(refine q9 (ti 32 rfl) rfl (b:=false) AU ?_))|(show Ce ..;(refine Ve aj ht ?_))|refine Wp.go bW rfl ?_|refine Ib ?_|refine Hz ?_|refine ag ?_ ?_<;>intro _))
      refine dM [(10,.box (jK none) 129),(6,.box (jK ym) 129),(5,.ext (lC r (pX qt)))] 0 1 11 12 13 c (qs) vl iK [.lp 0 0 0 0,aC (8),aC (x),aC (0),aC (k)] _ _ _ _ Tryz.call68 rfl rfl rfl (λR w' h=>trivial) (iV w F) (λR w' h b hb=>((h).2 b hb).1) (λw' ρ' F' h'=>gQ c (qs) vl (8) (x) (0) (k) pW w' ρ' F' h') (λ_ _=> ?_);have z1:=z0.lay (8) (x) (0) (k)
      (repeat' ((conv=>whnf)<;>first|(show qV ..;(refine aiP aj ?_))|(show cO _ 21 ..;refine mV [] _ abx ?_)|(show ny ..;(first|refine kS (u:=u) (l:=c.aA-base) (h:=c.aA) nV hxl.symm aa aa iL.room ?_|refine kS (u:=u) (l:=0) (h:=c.aA-base) rfl nV aa aa iL.room ?_))|(show aJ _ 129 ..;(refine xR rfl (cutV u (c.aA-base) c.aA) (cutV u 0 (c.aA-base)) (iV w F) (λR w' h b hb=>((h.1).2 b hb).1) (λR w' h=>qC (bf ((h.1).1.2.2 u IZ)) iL.room) (λR w' h=>qC (bf ((h.1).1.2.2 u IZ)) iL.room) (qp iL) (qp iL) nP nP (λm hm ms=> ?_)))|refine Wp.go bW rfl ?_|refine mh ?_|refine XD ?_|refine lS ?_))
      have hmv:m.xs=wR c.aA base u.xs:=by rw[hm,hu1,hu2];rfl
      refine dM [(10,.box (jK none) 129),(6,.box (jK ym) 129),(5,.ext (lC r (pX (λz=>if z=(k:Int)then some ((qs).code.length:Int)else qt z))))] 0 1 16 17 18 c (eH (qs) (8) (x) (0) (k)) vl ((iQ (eH (qs) (8) (x) (0) (k)).aF).and (bX m)) [.lp 0 0 0 0,.c m.val] _ _ _ _ Tryz.call130 rfl rfl rfl (λR w' h=>⟨(h.1.1).1.1.1,qX (h).2⟩) (iV w F) (λR w' h b hb=>((h.1.1).2 b hb).1) (λw' ρ' F' h'=>vO c (eH (qs) (8) (x) (0) (k)) vl m ms z1.ok.aF (by have:=z1.yF;omega) w' ρ' F' h') (λ_ _=> ?_);have z2:=z1.plain ms
      (repeat' ((conv=>whnf)<;>first|refine Wp.go bW rfl ?_))
      refine dM [(10,.box (jK none) 129),(6,.box (jK ym) 129),(5,.ext (lC r (pX (λz=>if z=(k:Int)then some ((qs).code.length:Int)else qt z))))] 0 1 23 24 25 c ((aS (eH (qs) (8) (x) (0) (k)) m).1) vl iK [.lp 0 0 0 0,aC (5),aC (((qs).code.length:Int)),aC (0),aC ((aS (eH (qs) (8) (x) (0) (k)) m).2)] _ _ _ _ Tryz.call68 rfl rfl rfl (λR w' h=>trivial) (iV w F) (λR w' h b hb=>((h.1.1.1).2 b hb).1) (λw' ρ' F' h'=>gQ c ((aS (eH (qs) (8) (x) (0) (k)) m).1) vl (5) (((qs).code.length:Int)) (0) ((aS (eH (qs) (8) (x) (0) (k)) m).2) Gb w' ρ' F' h') (λ_ _=> ?_);have z3:=z2.lay (5) (((qs).code.length:Int)) (0) ((aS (eH (qs) (8) (x) (0) (k)) m).2)
      (repeat' ((conv=>whnf)<;>first|(show aJ _ 73 ..;(refine gm bW Tryz.func73 rfl rfl rfl Tryz.call73 rfl fO ?_))|(show cO _ 1 ..;refine mV [9,10] _ xE ?_)|(show nC ..;refine iZ ?_)|refine Wp.go bW rfl ?_|refine mh ?_))
      all_goals(conv=>whnf)
      all_goals exact⟨(k+1,⟨eH ((aS (eH (qs) (8) (x) (0) (k)) m).1) (5) (((qs).code.length:Int)) (0) ((aS (eH (qs) (8) (x) (0) (k)) m).2),(λz=>if z=(k:Int)then some ((qs).code.length:Int)else qt z),some (((aS (eH (qs) (8) (x) (0) (k)) m).1).code.length:Int)⟩),[(11,some 28),(12,some 29),(13,some 30)],⟨hlt2,by rw[<-hZ,<-DU (y:=⟨qs,qt,none⟩) (x:=x) (i:=k) hmv ahC];simp only[Kb,Bl,ht,LF],z3.mono vW⟩,by show ds.l.length-(k+1)<ds.l.length-k;omega,rfl,fE,fE,λR w' h=>⟨⟨⟨(t_ ((h.1.1.1.1).1.1.1) (qX (h.1.1).2)),(lY ((h.1.1.1.1).1.1.2) (h.1.1).2)⟩,(h.1.1.1.1).1.2⟩,(h.1.1.1.1).2⟩⟩
     focus
      (repeat' ((conv=>whnf)<;>first|(show dn ..;refine aM da k hda rfl hlt2 ?_)|(show gZ ..;(refine bN (λR w' h=>by rw[<-hda];exact hcr _ _ h.1.2) _ _ hrow rfl ?_))|(show mi ..;(refine q9 (ti 32 rfl) rfl (b:=false) AU ?_))|(show Ce ..;(refine Ve aj ht ?_))|refine Wp.go bW rfl ?_|refine Ib ?_|refine Hz ?_|refine ag ?_ ?_<;>intro _))
      refine dM [(10,.box (jK (some a)) 129),(6,.box (jK ym) 129),(5,.ext (lC r (pX qt)))] 0 1 11 12 13 c (qs) vl iK [.lp 0 0 0 0,aC (8),aC (x),aC (0),aC (k)] _ _ _ _ Tryz.call68 rfl rfl rfl (λR w' h=>trivial) (iV w F) (λR w' h b hb=>((h).2 b hb).1) (λw' ρ' F' h'=>gQ c (qs) vl (8) (x) (0) (k) pW w' ρ' F' h') (λ_ _=> ?_);have z1:=z0.lay (8) (x) (0) (k)
      (repeat' ((conv=>whnf)<;>first|(show qV ..;(refine aiP aj ?_))|(show cO _ 21 ..;refine mV [] _ abx ?_)|(show ny ..;(first|refine kS (u:=u) (l:=c.aA-base) (h:=c.aA) nV hxl.symm aa aa iL.room ?_|refine kS (u:=u) (l:=0) (h:=c.aA-base) rfl nV aa aa iL.room ?_))|(show aJ _ 129 ..;(refine xR rfl (cutV u (c.aA-base) c.aA) (cutV u 0 (c.aA-base)) (iV w F) (λR w' h b hb=>((h.1).2 b hb).1) (λR w' h=>qC (bf ((h.1).1.2.2 u IZ)) iL.room) (λR w' h=>qC (bf ((h.1).1.2.2 u IZ)) iL.room) (qp iL) (qp iL) nP nP (λm hm ms=> ?_)))|refine Wp.go bW rfl ?_|refine mh ?_|refine XD ?_|refine lS ?_))
      have hmv:m.xs=wR c.aA base u.xs:=by rw[hm,hu1,hu2];rfl
      refine dM [(10,.box (jK (some a)) 129),(6,.box (jK ym) 129),(5,.ext (lC r (pX (λz=>if z=(k:Int)then some ((qs).code.length:Int)else qt z))))] 0 1 16 17 18 c (eH (qs) (8) (x) (0) (k)) vl ((iQ (eH (qs) (8) (x) (0) (k)).aF).and (bX m)) [.lp 0 0 0 0,.c m.val] _ _ _ _ Tryz.call130 rfl rfl rfl (λR w' h=>⟨(h.1.1).1.1.1,qX (h).2⟩) (iV w F) (λR w' h b hb=>((h.1.1).2 b hb).1) (λw' ρ' F' h'=>vO c (eH (qs) (8) (x) (0) (k)) vl m ms z1.ok.aF (by have:=z1.yF;omega) w' ρ' F' h') (λ_ _=> ?_);have z2:=z1.plain ms
      (repeat' ((conv=>whnf)<;>first|refine Wp.go bW rfl ?_))
      refine dM [(10,.box (jK (some a)) 129),(6,.box (jK ym) 129),(5,.ext (lC r (pX (λz=>if z=(k:Int)then some ((qs).code.length:Int)else qt z))))] 0 1 23 24 25 c ((aS (eH (qs) (8) (x) (0) (k)) m).1) vl iK [.lp 0 0 0 0,aC (5),aC (((qs).code.length:Int)),aC (0),aC ((aS (eH (qs) (8) (x) (0) (k)) m).2)] _ _ _ _ Tryz.call68 rfl rfl rfl (λR w' h=>trivial) (iV w F) (λR w' h b hb=>((h.1.1.1).2 b hb).1) (λw' ρ' F' h'=>gQ c ((aS (eH (qs) (8) (x) (0) (k)) m).1) vl (5) (((qs).code.length:Int)) (0) ((aS (eH (qs) (8) (x) (0) (k)) m).2) Gb w' ρ' F' h') (λ_ _=> ?_);have z3:=z2.lay (5) (((qs).code.length:Int)) (0) ((aS (eH (qs) (8) (x) (0) (k)) m).2)
      (repeat' ((conv=>whnf)<;>first|(show aJ _ 73 ..;(refine gm bW Tryz.func73 rfl rfl rfl Tryz.call73 rfl fO ?_))|(show cO _ 1 ..;refine mV [9,10] _ xE ?_)|(show nC ..;refine iZ ?_)|refine Wp.go bW rfl ?_|refine mh ?_))
      refine dM [(10,.box (jK (some a)) 129),(6,.box (jK ym) 129),(5,.ext (lC r (pX (λz=>if z=(k:Int)then some ((qs).code.length:Int)else qt z))))] 0 1 28 29 30 c (eH ((aS (eH (qs) (8) (x) (0) (k)) m).1) (5) (((qs).code.length:Int)) (0) ((aS (eH (qs) (8) (x) (0) (k)) m).2)) vl iK [.lp 0 0 0 0,aC (3),aC (a),aC ((((aS (eH (qs) (8) (x) (0) (k)) m).1).code.length:Int)),aC (0)] _ _ _ _ Tryz.call68 rfl rfl rfl (λR w' h=>trivial) (iV w F) (λR w' h b hb=>((h.1.1.1.1).2 b hb).1) (λw' ρ' F' h'=>gQ c (eH ((aS (eH (qs) (8) (x) (0) (k)) m).1) (5) (((qs).code.length:Int)) (0) ((aS (eH (qs) (8) (x) (0) (k)) m).2)) vl (3) (a) ((((aS (eH (qs) (8) (x) (0) (k)) m).1).code.length:Int)) (0) (by have:=z3.y9;omega) w' ρ' F' h') (λ_ _=> ?_);have z4:=z3.lay (3) (a) ((((aS (eH (qs) (8) (x) (0) (k)) m).1).code.length:Int)) (0)
      (repeat' ((conv=>whnf)<;>first|(show aJ _ 73 ..;(refine gm bW Tryz.func73 rfl rfl rfl Tryz.call73 rfl fO ?_))|(show cO _ 1 ..;refine mV [9,10] _ xE ?_)|(show nC ..;refine iZ ?_)|refine Wp.go bW rfl ?_|refine mh ?_))
      all_goals(conv=>whnf)
      all_goals exact⟨(k+1,⟨eH (eH ((aS (eH (qs) (8) (x) (0) (k)) m).1) (5) (((qs).code.length:Int)) (0) ((aS (eH (qs) (8) (x) (0) (k)) m).2)) (3) (a) ((((aS (eH (qs) (8) (x) (0) (k)) m).1).code.length:Int)) (0),(λz=>if z=(k:Int)then some ((qs).code.length:Int)else qt z),some ((eH ((aS (eH (qs) (8) (x) (0) (k)) m).1) (5) (((qs).code.length:Int)) (0) ((aS (eH (qs) (8) (x) (0) (k)) m).2)).code.length:Int)⟩),[(11,some 33),(12,some 34),(13,some 35)],⟨hlt2,by rw[<-hZ,<-DU (y:=⟨qs,qt,some a⟩) (x:=x) (i:=k) hmv ahC];simp only[Kb,Bl,ht,LF],z4.mono vW⟩,by show ds.l.length-(k+1)<ds.l.length-k;omega,rfl,fE,fE,λR w' h=>⟨⟨⟨(t_ ((h.1.1.1.1.1).1.1.1) (qX (h.1.1.1).2)),(lY ((h.1.1.1.1.1).1.1.2) (h.1.1.1).2)⟩,(h.1.1.1.1.1).1.2⟩,(h.1.1.1.1.1).2⟩⟩
    focus
     rcases qm with _|a
     focus
      (repeat' ((conv=>whnf)<;>first|(show dn ..;refine aM da k hda rfl hlt2 ?_)|(show gZ ..;(refine bN (λR w' h=>by rw[<-hda];exact hcr _ _ h.1.2) _ _ hrow rfl ?_))|(show mi ..;(refine q9 (ti 32 rfl) rfl (b:=false) AU ?_))|(show Ce ..;(refine Ve aj ht ?_))|(show cO _ 21 ..;refine mV [] _ abx ?_)|(show ny ..;(first|refine kS (u:=u) (l:=c.aA-base) (h:=c.aA) nV hxl.symm aa aa iL.room ?_|refine kS (u:=u) (l:=0) (h:=c.aA-base) rfl nV aa aa iL.room ?_))|(show aJ _ 129 ..;(refine xR rfl (cutV u (c.aA-base) c.aA) (cutV u 0 (c.aA-base)) (iV w F) (λR w' h b hb=>((h).2 b hb).1) (λR w' h=>qC (bf ((h).1.2.2 u IZ)) iL.room) (λR w' h=>qC (bf ((h).1.2.2 u IZ)) iL.room) (qp iL) (qp iL) nP nP (λm hm ms=> ?_)))|refine Wp.go bW rfl ?_|refine Ib ?_|refine Hz ?_|refine mh ?_|refine XD ?_|refine lS ?_|refine ag ?_ ?_<;>intro _))
      have hmv:m.xs=wR c.aA base u.xs:=by rw[hm,hu1,hu2];rfl
      refine dM [(10,.box (jK none) 129),(6,.box (jK ym) 129),(5,.ext (lC r (pX qt)))] 0 1 11 12 13 c (qs) vl ((iQ (qs).aF).and (bX m)) [.lp 0 0 0 0,.c m.val] _ _ _ _ Tryz.call130 rfl rfl rfl (λR w' h=>⟨(h.1).1.1.1,qX (h).2⟩) (iV w F) (λR w' h b hb=>((h.1).2 b hb).1) (λw' ρ' F' h'=>vO c (qs) vl m ms z0.ok.aF zn w' ρ' F' h') (λ_ _=> ?_);have z1:=z0.plain ms
      (repeat' ((conv=>whnf)<;>first|refine Wp.go bW rfl ?_))
      refine dM [(10,.box (jK none) 129),(6,.box (jK ym) 129),(5,.ext (lC r (pX qt)))] 0 1 18 19 20 c ((aS (qs) m).1) vl iK [.lp 0 0 0 0,aC (5),aC (t),aC (0),aC ((aS (qs) m).2)] _ _ _ _ Tryz.call68 rfl rfl rfl (λR w' h=>trivial) (iV w F) (λR w' h b hb=>((h.1.1).2 b hb).1) (λw' ρ' F' h'=>gQ c ((aS (qs) m).1) vl (5) (t) (0) ((aS (qs) m).2) EO w' ρ' F' h') (λ_ _=> ?_);have z2:=z1.lay (5) (t) (0) ((aS (qs) m).2)
      (repeat' ((conv=>whnf)<;>first|(show aJ _ 73 ..;(refine gm bW Tryz.func73 rfl rfl rfl Tryz.call73 rfl fO ?_))|(show cO _ 1 ..;refine mV [9,10] _ xE ?_)|(show nC ..;refine iZ ?_)|refine Wp.go bW rfl ?_|refine mh ?_))
      all_goals(conv=>whnf)
      all_goals exact⟨(k+1,⟨eH ((aS (qs) m).1) (5) (t) (0) ((aS (qs) m).2),qt,some (((aS (qs) m).1).code.length:Int)⟩),[(11,some 23),(12,some 24),(13,some 25)],⟨hlt2,by rw[<-hZ,<-DU (y:=⟨qs,qt,none⟩) (x:=x) (i:=k) hmv ahC];simp only[Kb,Bl,ht,LF],z2.mono vW⟩,by show ds.l.length-(k+1)<ds.l.length-k;omega,rfl,fE,fE,λR w' h=>⟨⟨⟨(t_ ((h.1.1.1).1.1.1) (qX (h.1.1).2)),(lY ((h.1.1.1).1.1.2) (h.1.1).2)⟩,(h.1.1.1).1.2⟩,(h.1.1.1).2⟩⟩
     focus
      (repeat' ((conv=>whnf)<;>first|(show dn ..;refine aM da k hda rfl hlt2 ?_)|(show gZ ..;(refine bN (λR w' h=>by rw[<-hda];exact hcr _ _ h.1.2) _ _ hrow rfl ?_))|(show mi ..;(refine q9 (ti 32 rfl) rfl (b:=false) AU ?_))|(show Ce ..;(refine Ve aj ht ?_))|(show cO _ 21 ..;refine mV [] _ abx ?_)|(show ny ..;(first|refine kS (u:=u) (l:=c.aA-base) (h:=c.aA) nV hxl.symm aa aa iL.room ?_|refine kS (u:=u) (l:=0) (h:=c.aA-base) rfl nV aa aa iL.room ?_))|(show aJ _ 129 ..;(refine xR rfl (cutV u (c.aA-base) c.aA) (cutV u 0 (c.aA-base)) (iV w F) (λR w' h b hb=>((h).2 b hb).1) (λR w' h=>qC (bf ((h).1.2.2 u IZ)) iL.room) (λR w' h=>qC (bf ((h).1.2.2 u IZ)) iL.room) (qp iL) (qp iL) nP nP (λm hm ms=> ?_)))|refine Wp.go bW rfl ?_|refine Ib ?_|refine Hz ?_|refine mh ?_|refine XD ?_|refine lS ?_|refine ag ?_ ?_<;>intro _))
      have hmv:m.xs=wR c.aA base u.xs:=by rw[hm,hu1,hu2];rfl
      refine dM [(10,.box (jK (some a)) 129),(6,.box (jK ym) 129),(5,.ext (lC r (pX qt)))] 0 1 11 12 13 c (qs) vl ((iQ (qs).aF).and (bX m)) [.lp 0 0 0 0,.c m.val] _ _ _ _ Tryz.call130 rfl rfl rfl (λR w' h=>⟨(h.1).1.1.1,qX (h).2⟩) (iV w F) (λR w' h b hb=>((h.1).2 b hb).1) (λw' ρ' F' h'=>vO c (qs) vl m ms z0.ok.aF zn w' ρ' F' h') (λ_ _=> ?_);have z1:=z0.plain ms
      (repeat' ((conv=>whnf)<;>first|refine Wp.go bW rfl ?_))
      refine dM [(10,.box (jK (some a)) 129),(6,.box (jK ym) 129),(5,.ext (lC r (pX qt)))] 0 1 18 19 20 c ((aS (qs) m).1) vl iK [.lp 0 0 0 0,aC (5),aC (t),aC (0),aC ((aS (qs) m).2)] _ _ _ _ Tryz.call68 rfl rfl rfl (λR w' h=>trivial) (iV w F) (λR w' h b hb=>((h.1.1).2 b hb).1) (λw' ρ' F' h'=>gQ c ((aS (qs) m).1) vl (5) (t) (0) ((aS (qs) m).2) EO w' ρ' F' h') (λ_ _=> ?_);have z2:=z1.lay (5) (t) (0) ((aS (qs) m).2)
      (repeat' ((conv=>whnf)<;>first|(show aJ _ 73 ..;(refine gm bW Tryz.func73 rfl rfl rfl Tryz.call73 rfl fO ?_))|(show cO _ 1 ..;refine mV [9,10] _ xE ?_)|(show nC ..;refine iZ ?_)|refine Wp.go bW rfl ?_|refine mh ?_))
      refine dM [(10,.box (jK (some a)) 129),(6,.box (jK ym) 129),(5,.ext (lC r (pX qt)))] 0 1 23 24 25 c (eH ((aS (qs) m).1) (5) (t) (0) ((aS (qs) m).2)) vl iK [.lp 0 0 0 0,aC (3),aC (a),aC ((((aS (qs) m).1).code.length:Int)),aC (0)] _ _ _ _ Tryz.call68 rfl rfl rfl (λR w' h=>trivial) (iV w F) (λR w' h b hb=>((h.1.1.1).2 b hb).1) (λw' ρ' F' h'=>gQ c (eH ((aS (qs) m).1) (5) (t) (0) ((aS (qs) m).2)) vl (3) (a) ((((aS (qs) m).1).code.length:Int)) (0) Gb w' ρ' F' h') (λ_ _=> ?_);have z3:=z2.lay (3) (a) ((((aS (qs) m).1).code.length:Int)) (0)
      (repeat' ((conv=>whnf)<;>first|(show aJ _ 73 ..;(refine gm bW Tryz.func73 rfl rfl rfl Tryz.call73 rfl fO ?_))|(show cO _ 1 ..;refine mV [9,10] _ xE ?_)|(show nC ..;refine iZ ?_)|refine Wp.go bW rfl ?_|refine mh ?_))
      all_goals(conv=>whnf)
      all_goals exact⟨(k+1,⟨eH (eH ((aS (qs) m).1) (5) (t) (0) ((aS (qs) m).2)) (3) (a) ((((aS (qs) m).1).code.length:Int)) (0),qt,some ((eH ((aS (qs) m).1) (5) (t) (0) ((aS (qs) m).2)).code.length:Int)⟩),[(11,some 28),(12,some 29),(13,some 30)],⟨hlt2,by rw[<-hZ,<-DU (y:=⟨qs,qt,some a⟩) (x:=x) (i:=k) hmv ahC];simp only[Kb,Bl,ht,LF],z3.mono vW⟩,by show ds.l.length-(k+1)<ds.l.length-k;omega,rfl,fE,fE,λR w' h=>⟨⟨⟨(t_ ((h.1.1.1.1).1.1.1) (qX (h.1.1.1).2)),(lY ((h.1.1.1.1).1.1.2) (h.1.1.1).2)⟩,(h.1.1.1.1).1.2⟩,(h.1.1.1.1).2⟩⟩
   obtain rfl:k=ds.l.length:=by omega
   rw[akY]at hZ;have hZ:(⟨qs,qt,qm⟩:Ch).pl=Z:=hZ;have hS:sV c.aA base x (Ch.pl ⟨ys,yt,ym⟩) (List.take (hi-base) (List.drop base (d.l.map ax.xs)))=(CX base ym ⟨qs,qt,qm⟩).pl:=(adZ (y:=Ch.pl ⟨ys,yt,ym⟩) (hZg.trans hZ.symm)).symm;rw[hS]at hY;clear hS hZ hZg hcr ajg hkl hds';have hkg:ds.l.length<=g:=by omega
   rcases qm with _|a
   focus
    (repeat' ((conv=>whnf)<;>first|(show @iG _ _ _;refine jc aa ?_)|refine Wp.go bW rfl ?_|refine mh ?_))
    all_goals(conv=>whnf)
    all_goals exact⟨(base+g,f',⟨qs,qt,ym⟩),[(7,some 11),(8,some 12),(9,some 13)],⟨by rw[<-hY];simp only[CX],by show c.aA<=base+g+f';omega,by show base+g<=8192;omega,z0.mono vY⟩,by show c.aA-(base+g)<c.aA-base;omega,rfl,fE,fE,λR w' h=>⟨⟨⟨(h).1.1.1,(h).1.1.2⟩,(h).1.2⟩,(h).2⟩⟩
   rcases ack 0 base with hb|hb
   focus
    rcases ym with _|b
    focus
     (repeat' ((conv=>whnf)<;>first|(show @iG _ _ _;refine gJ aa ?_)|refine Wp.go bW rfl ?_|refine Ib ?_|refine Hz ?_|refine ag ?_ ?_<;>intro _))
     refine dM [(10,.box (jK (some a)) 129),(6,.box (jK none) 129),(5,.ext (lC r (pX qt)))] 0 1 11 12 13 c (qs) vl iK [.lp 0 0 0 0,aC (8),aC (a),aC (0),aC (base)] _ _ _ _ Tryz.call68 rfl rfl rfl (λR w' h=>trivial) (iV w F) (λR w' h b hb=>((h).2 b hb).1) (λw' ρ' F' h'=>gQ c (qs) vl (8) (a) (0) (base) pW w' ρ' F' h') (λ_ _=> ?_);have z1:=z0.lay (8) (a) (0) (base)
     (repeat' ((conv=>whnf)<;>first|(show aJ _ 73 ..;(refine gm bW Tryz.func73 rfl rfl rfl Tryz.call73 rfl fO ?_))|(show cO _ 1 ..;refine mV [9,10] _ xE ?_)|(show nC ..;refine iZ ?_)|refine Wp.go bW rfl ?_|refine mh ?_))
     all_goals(conv=>whnf)
     all_goals exact⟨(base+g,f',⟨eH (qs) (8) (a) (0) (base),qt,some ((qs).code.length:Int)⟩),[(7,some 16),(8,some 17),(9,some 18)],⟨by rw[<-hY];simp only[CX,LF,if_pos hb],by show c.aA<=base+g+f';omega,by show base+g<=8192;omega,z1.mono vY⟩,by show c.aA-(base+g)<c.aA-base;omega,rfl,fE,fE,λR w' h=>⟨⟨⟨(h.1).1.1.1,(h.1).1.1.2⟩,(h.1).1.2⟩,(h.1).2⟩⟩
    focus
     (repeat' ((conv=>whnf)<;>first|(show @iG _ _ _;refine gJ aa ?_)|refine Wp.go bW rfl ?_|refine Ib ?_|refine Hz ?_|refine ag ?_ ?_<;>intro _))
     refine dM [(10,.box (jK (some a)) 129),(6,.box (jK (some b)) 129),(5,.ext (lC r (pX qt)))] 0 1 11 12 13 c (qs) vl iK [.lp 0 0 0 0,aC (8),aC (a),aC (0),aC (base)] _ _ _ _ Tryz.call68 rfl rfl rfl (λR w' h=>trivial) (iV w F) (λR w' h b hb=>((h).2 b hb).1) (λw' ρ' F' h'=>gQ c (qs) vl (8) (a) (0) (base) pW w' ρ' F' h') (λ_ _=> ?_);have z1:=z0.lay (8) (a) (0) (base)
     (repeat' ((conv=>whnf)<;>first|(show aJ _ 73 ..;(refine gm bW Tryz.func73 rfl rfl rfl Tryz.call73 rfl fO ?_))|(show cO _ 1 ..;refine mV [9,10] _ xE ?_)|(show nC ..;refine iZ ?_)|refine Wp.go bW rfl ?_|refine mh ?_))
     refine dM [(10,.box (jK (some ((qs).code.length:Int))) 129),(6,.box (jK (some b)) 129),(5,.ext (lC r (pX qt)))] 0 1 16 17 18 c (eH (qs) (8) (a) (0) (base)) vl iK [.lp 0 0 0 0,aC (3),aC (b),aC (((qs).code.length:Int)),aC (0)] _ _ _ _ Tryz.call68 rfl rfl rfl (λR w' h=>trivial) (iV w F) (λR w' h b hb=>((h.1).2 b hb).1) (λw' ρ' F' h'=>gQ c (eH (qs) (8) (a) (0) (base)) vl (3) (b) (((qs).code.length:Int)) (0) EO w' ρ' F' h') (λ_ _=> ?_);have z2:=z1.lay (3) (b) (((qs).code.length:Int)) (0)
     (repeat' ((conv=>whnf)<;>first|(show aJ _ 73 ..;(refine gm bW Tryz.func73 rfl rfl rfl Tryz.call73 rfl fO ?_))|(show cO _ 1 ..;refine mV [9,10] _ xE ?_)|(show nC ..;refine iZ ?_)|refine Wp.go bW rfl ?_|refine mh ?_))
     all_goals(conv=>whnf)
     all_goals exact⟨(base+g,f',⟨eH (eH (qs) (8) (a) (0) (base)) (3) (b) (((qs).code.length:Int)) (0),qt,some ((eH (qs) (8) (a) (0) (base)).code.length:Int)⟩),[(7,some 21),(8,some 22),(9,some 23)],⟨by rw[<-hY];simp only[CX,LF,if_pos hb],by show c.aA<=base+g+f';omega,by show base+g<=8192;omega,z2.mono vY⟩,by show c.aA-(base+g)<c.aA-base;omega,rfl,fE,fE,λR w' h=>⟨⟨⟨(h.1.1).1.1.1,(h.1.1).1.1.2⟩,(h.1.1).1.2⟩,(h.1.1).2⟩⟩
   focus
    have hb:¬0<base:=by omega
    rcases ym with _|b
    focus
     (repeat' ((conv=>whnf)<;>first|(show @iG _ _ _;refine jc aa ?_)|(show aJ _ 73 ..;(refine gm bW Tryz.func73 rfl rfl rfl Tryz.call73 rfl fO ?_))|(show cO _ 1 ..;refine mV [9,10] _ xE ?_)|(show nC ..;refine iZ ?_)|refine Wp.go bW rfl ?_|refine mh ?_))
     all_goals(conv=>whnf)
     all_goals exact⟨(base+g,f',⟨qs,qt,some a⟩),[(7,some 11),(8,some 12),(9,some 13)],⟨by rw[<-hY];simp only[CX,LF,if_neg hb],by show c.aA<=base+g+f';omega,by show base+g<=8192;omega,z0.mono vY⟩,by show c.aA-(base+g)<c.aA-base;omega,rfl,fE,fE,λR w' h=>⟨⟨⟨(h).1.1.1,(h).1.1.2⟩,(h).1.2⟩,(h).2⟩⟩
    focus
     (repeat' ((conv=>whnf)<;>first|(show @iG _ _ _;refine jc aa ?_)|(show aJ _ 73 ..;(refine gm bW Tryz.func73 rfl rfl rfl Tryz.call73 rfl fO ?_))|(show cO _ 1 ..;refine mV [9,10] _ xE ?_)|(show nC ..;refine iZ ?_)|refine Wp.go bW rfl ?_|refine mh ?_))
     refine dM [(10,.box (jK (some a)) 129),(6,.box (jK (some b)) 129),(5,.ext (lC r (pX qt)))] 0 1 11 12 13 c (qs) vl iK [.lp 0 0 0 0,aC (3),aC (b),aC (a),aC (0)] _ _ _ _ Tryz.call68 rfl rfl rfl (λR w' h=>trivial) (iV w F) (λR w' h b hb=>((h).2 b hb).1) (λw' ρ' F' h'=>gQ c (qs) vl (3) (b) (a) (0) pW w' ρ' F' h') (λ_ _=> ?_);have z1:=z0.lay (3) (b) (a) (0)
     (repeat' ((conv=>whnf)<;>first|(show aJ _ 73 ..;(refine gm bW Tryz.func73 rfl rfl rfl Tryz.call73 rfl fO ?_))|(show cO _ 1 ..;refine mV [9,10] _ xE ?_)|(show nC ..;refine iZ ?_)|refine Wp.go bW rfl ?_|refine mh ?_))
     all_goals(conv=>whnf)
     all_goals exact⟨(base+g,f',⟨eH (qs) (3) (b) (a) (0),qt,some ((qs).code.length:Int)⟩),[(7,some 16),(8,some 17),(9,some 18)],⟨by rw[<-hY];simp only[CX,LF,if_neg hb],by show c.aA<=base+g+f';omega,by show base+g<=8192;omega,z1.mono vY⟩,by show c.aA-(base+g)<c.aA-base;omega,rfl,fE,fE,λR w' h=>⟨⟨⟨(h.1).1.1.1,(h.1).1.1.2⟩,(h.1).1.2⟩,(h.1).2⟩⟩
  rw[Zt hlt]at hY;subst hY;rw[<-hgv]at hY0;rcases ym with _|a
  focus
   (repeat' ((conv=>whnf)<;>first|(show @iG _ _ _;refine jc aa ?_)|refine Wp.go bW rfl ?_|refine mh ?_))
   refine dM [(6,.box (jK none) 129),(5,.ext (lC r (pX yt)))] 0 1 7 8 9 c (ys) vl (iQ (ys).aF) [.lp 0 0 0 0,aC (x)] _ _ _ _ Tryz.call74 rfl rfl rfl (λR w' h=>(h).1.1.1) (iV w F) (λR w' h b hb=>((h).2 b hb).1) (λw' ρ' F' h'=>We c (ys) vl (x) hn2 z0.ok.aF zn pW w' ρ' F' h') (λu ⟨hu,hsu⟩=> ?_);have z1:=z0.zero hsu (x)
   (repeat' ((conv=>whnf)<;>first|refine Wp.go bW rfl ?_))
   all_goals(conv=>whnf)
   have e:nG c.aA c.giant s.pl x (d.l.map ax.xs)=((zeroV (ys) u (x)).pl,((ys).code.length:Int)):=by unfold nG;rw[hY0];exact Qg hu
   all_goals exact lH _ _ _ _ (zeroV (ys) u (x),(((ys).code.length:Int):Int)) [(2,some 12),(3,some 13),(4,some 14)] ⟨(congrArg Prod.fst e).symm,(congrArg Prod.snd e).symm,z1.ok⟩ ay rfl rfl rfl rfl fE (λR w' h=>⟨(h.1).2,(lY ((h.1).1.1.2) (h).2)⟩)
  focus
   (repeat' ((conv=>whnf)<;>first|(show @iG _ _ _;refine jc aa ?_)|refine Wp.go bW rfl ?_|refine mh ?_))
   all_goals(conv=>whnf)
   have e:nG c.aA c.giant s.pl x (d.l.map ax.xs)=((ys).pl,a):=by unfold nG;rw[hY0];rfl
   all_goals exact lH _ _ _ _ (ys,(a:Int)) [(2,some 7),(3,some 8),(4,some 9)] ⟨(congrArg Prod.fst e).symm,(congrArg Prod.snd e).symm,z0.ok⟩ ay rfl rfl rfl rfl fE (λR w' h=>⟨(h).2,(h).1.1.2⟩)
end
end Go.Proofs.YtgndjjdeopfdkaaGreat

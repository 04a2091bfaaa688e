import Derived.Test.YtgndjjdeopfdkaaGreatKLowerMakes11
/- texts UI NS of the proof of LowerMakesSaid -/
set_option maxHeartbeats 16000000
set_option maxRecDepth 20000
set_option linter.unusedVariables false
set_option linter.unusedSimpArgs false
namespace Go.Proofs.YtgndjjdeopfdkaaGreat
open Go.SX Go.RowKit
section
def Np(c:dN)(s:dw)(vl:List Int)(d v i2 i3 i4:Nat):Heap:=(v,.rows (aN vl) 1 3)::Fh c s d i2 i3 i4
variable {S:bN} {nx:Nat}
theorem XR{cx:Cx}{f:FuncId}{args:List SV}{K:SV->Heap->bN->Nat->Prop}{α:Type}(rest:Heap)(d v i2 i3 i4:Nat)(c:dN)(s:dw)(vl:List Int)(A:bN)(ol:List SV)(val:α->Value)(s':α->dw)(D:α->bN)(p:α->Prop)
 (hf:∀ar w,(callFunc f ar).run cx.P w= .ok (.enter f ar) w) (hm:vM 0 (Cq d v i2 i3 i4) (vI c s vl)=true) (hl:tN (Cq d v i2 i3 i4) (vI c s vl) (rest++Np c s vl d v i2 i3 i4)=rest)
 (ha:args=SV.t_ (Cq d v i2 i3 i4).app ol) (hA:∀R w,S.holds R w->A.holds R w) (G:Nat->Prop) (hG:∀R w,S.holds R w->∀b,G b->R b)
 (hc:∀w ρ F,iY w ρ F 2 5 (vI c s vl) A->Calls cx.P f (SV.eO ρ ol).toArray w (yl w ρ F 2 5 (λx=> .c (val x)) (λx=>vI c (s' x) vl) D p))
 (h:∀x,p x->K (.c (val x)) (rest++Np c (s' x) vl d v (nx+2) (nx+3) (nx+4)) (S.and ((D x).off G)) (nx+5)):aI cx f args (rest++Np c s vl d v i2 i3 i4) S nx K:=by
 have hin:∀q∈Np c s vl d v i2 i3 i4,q∈rest++Np c s vl d v i2 i3 i4:=λq hq=>List.mem_append.2 (.inr hq)
 refine z8 (Cq d v i2 i3 i4) 2 5 (vI c s vl) A ol (λx=> .c (val x)) (λx=>vI c (s' x) vl) D p hf hm rfl ⟨hin _ aU,hin _ aU,hin _ aU,hin _ aU,hin _ aU,trivial⟩ (λi hi=> ?_) aY ha hA G hG hc (λx hx=> ?_)
 ·have:i=0\/i=1:=by omega
  rcases this with rfl|rfl
  ·exact⟨d,_,rfl,aU⟩
  ·exact⟨v,_,rfl,aU⟩
 ·rw[hl]
  exact h x hx
abbrev adJ(w:World)(g:bG)(c:dN)(s:dw):bN:=(Rh w c s).and (vX λw=>g.ok w)
variable {w:World} {c:dN} {s:dw}
theorem Vt{w':World}{g:bG}{n:ai}{R:Nat->Prop}(hn:n∈g.l)(h:(adJ w g c s).holds R w'):(ru c s n).holds R w':=by
 have p:(((Iu c).and (vE c)).and (dW s.aF)).holds R w':=bN.mono _ h.1.2 (λb hb=>hb.1)
 exact⟨⟨⟨p.2,p.1.2⟩,⟨tZ h.2 (λ_ _ h=>((fV h).each n hn).ay.rows),tZ h.2 (λ_ _ h=>((fV h).each n hn).data.rows),tZ h.2 (λ_ _ h=>((fV h).each n hn).aM.rows)⟩⟩,p.1.1⟩
theorem abZ{B:Base}{H:Heap}{last:Int}{out:au}{i2 i3 i4 n2 n3 n4:Nat}{T2 T3 T4:TypeId}{r:qY×Int}(hw0:B.w0=w)(hS:∀R w',S.holds R w'->(Rh w c s).holds R w')(hs:sJ c s)(hsp:∀u∈c.bO.l,u.bq)(hf:s.code.length<=2048/\s.aF.length<=2048/\s.inputs.length<=2048)(ho:out∈c.bO.l)
 (h2:(i2,bZ.rows (iP s.inputs) 3 T2)∈H) (h3:(i3,bZ.rows (aS s.aF) 1 T3)∈H) (h4:(i4,bZ.rows (iO s.code) 5 T4)∈H) (e2:n2=s.inputs.length) (e3:n3=s.aF.length) (e4:n4=s.code.length) (hr:r=(⟨c.aj,s.pl,last,out.xs⟩,0)):
 jI B (.sN [.agg [ax c.aj,.os i2 n2,.os i3 n3,.os i4 n4,ax last,.c out.val],ax 0]) H S nx (oI w r):=by
 subst hw0 hr e2 e3 e4
 refine dH λρ w' hw=> ?_
 have hb:∀R w',S.holds R w'->(aO B.w0).holds R w':=λR w' h=>(hS R w' h).1
 obtain⟨b2,c2,q2,d2⟩:=fJ (dK hw hb h2)
 obtain⟨b3,c3,q3,d3⟩:=fJ (dK hw hb h3)
 obtain⟨b4,c4,q4,d4⟩:=fJ (dK hw hb h4)
 rw[nO]at q2
 rw[aW]at q3
 rw[nE]at q4
 have dp:=oC (D:=((dW s.aF).and (acB s.inputs)).and (bE out)) hw (λR w' h=>⟨⟨(hS R w' h).2.2,λx hx=>(hS R w' h).2.1.2.2 x.aj (hs.inputs x hx).1⟩,(hS R w' h).2.1.2.2 out ho⟩)
 refine⟨⟨c.aj,b2,c2,s.inputs,⟨b3,c3,s.aF⟩,b4,c4,s.code,last,out⟩,⟨rfl,⟨hs.aF,λx hx=>⟨hsp _ (hs.inputs x hx).1,(hs.inputs x hx).2⟩,hsp out ho,by show s.aF.length<=_;omega,by show s.inputs.length<=_;omega,by show s.code.length<=_;omega⟩⟩,?_,aZ hw hb,⟨⟨⟨d2,dp.1.2⟩,⟨d3,dp.1.1⟩⟩,⟨d4,dp.2⟩⟩⟩
 show Ending.returned (.tuple #[.agg #[.int .i64 c.aj,(SV.os i2 s.inputs.length).rf ρ,(SV.os i3 s.aF.length).rf ρ,(SV.os i4 s.code.length).rf ρ,.int .i64 last,out.val],.int .i64 0])=_
 rw[q2,q3,q4]
 rfl
abbrev aiI(w:World)(r:qY×Int)(k:Nat)(env:Env)(H:Heap)(S:bN)(nx:Nat):Prop:=Wp ⟨Tryz.prog,⟨w,[]⟩,Tryz.f10.ntmps,tab⟩ (Nr k (bodyC Tryz.f10)) env H S nx (TK ⟨Tryz.prog,⟨w,[]⟩,Tryz.f10.ntmps,tab⟩ Tryz.f10.results.toList (oI w r))
theorem ag5(w:World)(g:bG)(o:Aw)(c:dN)(aR:Int)(hS:zR c aR (check g).2 g.l)(hm:c.aj<=2048)(hgi:c.giant=o.giant)(hl1:1<=g.l.length/\g.l.length<=24)(hout:0<=g.out/\g.out<g.l.length):
 aiI w (qd c g) 9 [(2,ax c.aj),(3,.lp 0 0 0 0),(4,.lp 1 0 0 0),(6,.lp 2 0 0 0),(12,.c c.shapes.val),(14,.c c.bO.val)] [(2,.box [ax 0,.c (.slice none 0 0),.c (.slice none 0 0),.c (.slice none 0 0),ax 0,.c (.slice none 0 0)] 34),(1,.box [ax o.aR,.c (.bool o.tidy),.c (.bool o.lazy),.c (.bool o.giant),ax o.rows] 26),(0,.box [.c (.slice g.base g.l.length g.cap),ax g.out] 24)] (adJ w g c ⟨[],[],[]⟩) 4:=by
 obtain⟨hm1,_⟩:=hS.aj
 repeat' ((conv=>whnf)<;>first|refine aX ?_)
 all_goals(conv=>whnf)
 obtain⟨T,hT0⟩:∃T,ig c (g.l.drop 0) 0 ⟨[],[],[]⟩ []=T:=⟨_,rfl⟩
 have hrT:qd c g=lowerT c g T:=by rw[<-hT0];rfl
 rw[hrT]
 refine Wp.loop (σ:=Nat×dw×List Int) 9 (λq=>[(3,.lp 0 0 0 0),(6,.lp 2 0 0 0),(12,.c c.shapes.val),(14,.c c.bO.val),(19,.lp 4 0 0 0),(20,.os 5 q.2.2.length),(97,.c (.slice g.base g.l.length g.cap)),(98,ax g.l.length),(99,ax q.1)])
  (λq=>(2,.box [ax 0,.c (.slice none 0 0),.c (.slice none 0 0),.c (.slice none 0 0),ax 0,.c (.slice none 0 0)] 34)::(0,.box [.c (.slice g.base g.l.length g.cap),ax g.out] 24)::Np c q.2.1 q.2.2 4 5 6 7 8)
  (λq=>adJ w g c q.2.1) (λq=>q.1<=g.l.length/\q.2.2.length=q.1/\sJ c q.2.1/\q.2.1.code.length<=2048/\q.2.1.aF.length<=q.2.1.code.length/\q.2.1.inputs.length<=q.2.1.code.length/\(∀v∈q.2.2,0<=v)/\ig c (g.l.drop q.1) q.1 q.2.1.pl q.2.2=T) (λq=>g.l.length-q.1) (0,⟨[],[],[]⟩,[]) [(5,none),(6,none),(7,none),(8,none)] aY (λq=>⟨rfl,rfl⟩)
  ⟨Nat.zero_le _,rfl,⟨λ_ h=>kP,λ_ h=>kP⟩,Nat.zero_le _,Nat.zero_le _,Nat.zero_le _,λ_ h=>kP,hT0⟩ ⟨rfl,⟨rfl,rfl,rfl,rfl,rfl,rfl,rfl,rfl,rfl,trivial⟩,⟨aU,aU,rfl,by rw[hgi];exact aU,rfl,rfl,rfl,trivial⟩,λR w' h=>h⟩ ?_
 rintro⟨i,qs,vl⟩ ⟨hil,hvl,hqo,hqc,hqp,hqi,hnn,hT⟩
 simp only at hil hvl hqo hqc hqp hqi hnn hT
 by_cases hlt:i<g.l.length
 ·have hgn:g.l[i]? =some g.l[i]:=List.getElem?_eq_getElem hlt
  have hrow:=bU hlt
  have hD:=anj hS hgn
  have hgr:=dD.node c g.l[i] i qs.pl vl aa
  have hnm:=List.getElem_mem hlt
  have hv0:=agE (c:=c) (n:=g.l[i]) (i:=i) (s:=qs.pl) hnn
  rw[List.drop_eq_getElem_cons hlt,ig]at hT
  generalize g.l[i]=n at*
  have hNA:lU c qs vl:=⟨by omega,hqo,by omega,by omega,by omega⟩
  refine Wp.know (p:=∃a,g.base=some a) (λρ w' hw=>ae hw λR h=>aP (j:=i) (fV h.2).rows aey) ?_
  rintro⟨ga,hga⟩
  repeat' ((conv=>whnf)<;>first|(show bV ..;refine aH ga i hga rfl hlt ?_)|(show mF ..;(refine gL (λR w' h=>by rw[<-hga];exact(fV h.2).rows) _ hrow rfl ?_))|(show aI _ 36 ..;refine XR [(9,.box (cs n.cells) 41),(2,.box [ax 0,.c (.slice none 0 0),.c (.slice none 0 0),.c (.slice none 0 0),ax 0,.c (.slice none 0 0)] 34),(0,.box [.c (.slice g.base g.l.length g.cap),ax g.out] 24)] 4 5 6 7 8 c qs vl (ru c qs n) [.lp 0 0 0 0,.agg (jN n),ax i,.c c.shapes.val,.c c.bO.val,.os 1 vl.length] _ _ _ _ Tryz.call36 rfl rfl rfl (λR w' h=>Vt hnm h) (GB w.heap.size) (λR w' h b hb=>(h.1.1 b hb).1) (λw' ρ' F' h'=>hD qs vl w' ρ' F' hNA hvl hnn h') (λq ⟨hq1,hq2,hq3⟩=> ?_))|refine aez ?_|refine ac_ ?_|refine aeG ?_|refine aX ?_|refine ag ?_ ?_<;>intro _)
  all_goals(conv=>whnf)
  all_goals
   rw[<-hq1]at hT hgr
   rw[<-hq2]at hv0
   have hg3:=ZU hgr
   first|exact⟨(i+1,q.1,vl++[q.2]),[(5,some 16),(6,some 12),(7,some 13),(8,some 14)],⟨hlt,by show(vl++[q.2]).length=i+1;rw[List.length_append,hvl];rfl,hq3,by show q.1.code.length<=2048;omega,by show q.1.aF.length<=q.1.code.length;omega,by show q.1.inputs.length<=q.1.code.length;omega,λv hv=>(List.mem_append.1 hv).elim (hnn v) (λhv=>by rw[List.mem_singleton.1 hv];exact hv0),by rw[if_neg ad4,<-hq2]at hT;exact hT⟩,by show g.l.length-(i+1)<g.l.length-i;omega,rfl,bM,bM,λR w' h=>⟨EG h.1.1 h.2,h.1.2⟩⟩|exact nk (λ_ _ h=>h.1.1.1) rfl (by rw[if_pos aiJ]at hT;rw[<-hT];rfl) (λρ=>rfl)
 ·obtain rfl:i=g.l.length:=by omega
  rw[List.drop_length,ig]at hT
  rw[<-hT]
  have hol:g.out.toNat<g.l.length:=by omega
  obtain⟨t2,u,_,_,hu,_,_,eu,_⟩:=hS.at_ hol
  have ho1:=(List.getElem?_eq_some_iff.1 hu).1
  have ho2:g.out.toNat<vl.length:=by omega
  have hrow:(aS c.bO.l)[g.out.toNat]? =some [u.val]:=by unfold aS;rw[List.getElem?_map,hu];rfl
  have vY:=List.mem_of_getElem? hu
  refine Wp.know (p:=∃a,c.bO.base=some a) (λρ w' hw=>ae hw λR h=>aP (j:=g.out.toNat) (aV h.1.2.1.2.1) (by rw[aW];exact ho1)) ?_
  rintro⟨sa,hsa⟩
  repeat' ((conv=>whnf)<;>first|(show bV ..;refine aH sa g.out.toNat hsa aa ho1 ?_)|(show fT ..;(refine bA (λR w' h=>by rw[<-hsa];exact aV h.1.2.1.2.1) _ _ hrow rfl ?_))|(show di ..;(refine bg g.out.toNat aa ho2 N7 ?_))|(show mq ..;refine qZ ho2 ?_)|refine aX ?_|refine ag ?_ ?_<;>intro _)
  all_goals(conv=>whnf)
  all_goals exact abZ (c:=c) (s:=qs) (out:=u) (last:=vl.getD g.out.toNat 0) rfl (λ_ _ h=>h.1) hqo hS.spS ⟨hqc,by omega,by omega⟩ vY aU aU aU rfl rfl rfl (by show(_,_)=(_,_);rw[eu])
end
abbrev ah9(w:World)(g:bG)(sv:a_)(us:List au):bN:=(((aO w).and (vX λw=>g.ok w)).and ((jE sv).past w.heap.size)).and (lZ w.heap.size us)
theorem Y1(w:World)(g:bG)(o:Aw)(m:Nat)(hm:4<=m/\m<=2048)(hsp:(bX g).1=0):
 aiI w (kG g o.aR o.giant m) 6 [(2,ax m),(3,.lp 0 0 0 0),(4,.lp 1 0 0 0),(6,.lp 2 0 0 0)] [(2,.box [ax 0,.c (.slice none 0 0),.c (.slice none 0 0),.c (.slice none 0 0),ax 0,.c (.slice none 0 0)] 34),(1,.box [ax o.aR,.c (.bool o.tidy),.c (.bool o.lazy),.c (.bool o.giant),ax o.rows] 26),(0,.box [.c (.slice g.base g.l.length g.cap),ax g.out] 24)] ((aO w).and (vX λw=>g.ok w)) 3:=by
 obtain⟨hck,_,_⟩:=jw hsp
 obtain⟨hl1,wT,hout,hcl,hin⟩:=iq hck
 refine Wp.know (p:=∃w',g.ok w') (λρ w' hw=>⟨w',ae hw λR h=>fV h.2⟩) ?_
 rintro⟨wg,hg⟩
 repeat' ((conv=>whnf)<;>first|(show aI _ 34 ..;refine vZ (f:=34) (check g) Tryz.call34 (λρ w' hw=>qR w' g (ae hw λR h=>fV h.2)) (λh=>absurd hck h) (λ_ sv hsm hsv hsc=> ?_))|refine aX ?_)
 all_goals(conv=>whnf)
 have hsl:sv.l.length=g.l.length:=by have:=congrArg List.length hsm;rw[List.length_map]at this;omega
 obtain⟨Z,UX⟩:∃Z,gG o.aR m ((sv.l.drop 0).map au.xs) []=Z:=⟨_,rfl⟩
 have RG:gG o.aR m (check g).2 []=Z:=by rw[<-UX,List.drop_zero];exact congrArg (λz=>gG o.aR m z []) hsm.symm
 refine Wp.loop (σ:=Nat×List au) 4 (λq=>[(2,ax m),(3,.lp 0 0 0 0),(4,.lp 1 0 0 0),(6,.lp 2 0 0 0),(12,.c sv.val),(14,.os 3 q.2.length),(67,.c sv.val),(68,ax sv.l.length),(69,ax q.1)])
  (λq=>[(3,.rows (aS q.2) 1 32),(2,.box [ax 0,.c (.slice none 0 0),.c (.slice none 0 0),.c (.slice none 0 0),ax 0,.c (.slice none 0 0)] 34),(1,.box [ax o.aR,.c (.bool o.tidy),.c (.bool o.lazy),.c (.bool o.giant),ax o.rows] 26),(0,.box [.c (.slice g.base g.l.length g.cap),ax g.out] 24)])
  (λq=>ah9 w g sv q.2) (λq=>q.1<=sv.l.length/\q.2.length=q.1/\(∀u∈q.2,u.bq)/\gG o.aR m ((sv.l.drop q.1).map au.xs) (q.2.map au.xs)=Z) (λq=>sv.l.length-q.1) (0,[]) [(3,none)] aY (λq=>⟨rfl,rfl⟩) ⟨Nat.zero_le _,rfl,λ_ h=>kP,UX⟩
  ⟨rfl,⟨rfl,rfl,rfl,rfl,rfl,rfl,rfl,rfl,rfl,trivial⟩,⟨rfl,aU,aU,aU,trivial⟩,λR w' h=>⟨h,λu hu=>by cases hu⟩⟩ ?_
 rintro⟨k,us⟩ ⟨hkl,yJ,fI,hZ⟩
 simp only at hkl yJ fI hZ
 by_cases hlt:k<sv.l.length
 ·rw[List.drop_eq_getElem_cons hlt,List.map_cons]at hZ
  have hrow:=dF hlt
  have vY:=List.getElem_mem hlt
  generalize sv.l[k]=u at*
  refine Wp.know (p:=∃a,sv.base=some a) (λρ w' hw=>ae hw λR h=>aP (j:=k) (aV h.1.2.1) Mw) ?_
  rintro⟨sa,hsa⟩
  by_cases hok:(gz u.xs o.aR m).2=0
  ·rw[Bq hok]at hZ
   repeat' ((conv=>whnf)<;>first|refine Ug ?_|refine T9 ?_|(show @eZ _ _ _;(refine dA (by rw[hok];decide) ?_))|(refine aiD ?_;intro x hx hxs)|(show vO ..;(refine gY J9 ?_))|refine ZY ?_|refine ac4 ?_|refine aX ?_|refine ag ?_ ?_<;>intro _)
   all_goals(conv=>whnf)
   all_goals exact⟨(k+1,us++[x]),[(3,some 5)],⟨hlt,by show(us++[x]).length=k+1;rw[List.length_append,yJ];rfl,λv hv=>(List.mem_append.1 hv).elim (fI v) (λhv=>by rw[List.mem_singleton.1 hv];exact hxs),by show gG o.aR m _ ((us++[x]).map au.xs)=Z;rw[List.map_append,List.map_cons,List.map_nil,hx];exact hZ⟩,by show sv.l.length-(k+1)<sv.l.length-k;omega,rfl,bM,bM,λR w' h=>⟨h.1.1,kX h.1.2 (Fz h.2)⟩⟩
  ·rw[A_ hok]at hZ
   repeat' ((conv=>whnf)<;>first|refine Ug ?_|refine T9 ?_|(show @eZ _ _ _;refine cu hok ?_)|(refine aiD ?_;intro x hx hxs)|refine aX ?_|refine ag ?_ ?_<;>intro _)
   all_goals(conv=>whnf)
   have e2:Z.2=(gz u.xs o.aR m).2:=by rw[<-hZ]
   all_goals exact nk (λ_ _ h=>h.1.1.1.1) rfl agP (λρ=>rfl)
 obtain rfl:k=sv.l.length:=by omega
 rw[List.drop_length]at hZ
 have hZ:(us.map au.xs,(0:Int))=Z:=hZ
 refine Wp.yI 3 w.heap.size (k:=1) (xs:=aS us) (T:=32) aU (λR w' h b hb=>(h.1.1.1 b hb).1) (λfl hfl=> ?_)
 have hz2:(gG o.aR m (check g).2 []).2=0:=by rw[RG,<-hZ]
 obtain⟨c,hc⟩:∃c:dN,c=⟨m,o.giant,sv,⟨fl.base,fl.cap,us⟩⟩:=⟨_,rfl⟩
 have hS:zR c o.aR (check g).2 g.l:=PY hg hck hm hz2 Tx (by rw[hc];exact hsm) (by rw[hc];exact hsv) (by rw[hc,RG,<-hZ]) (by rw[hc];exact fI)
 have hr:kG g o.aR o.giant m=qd c g:=by
  unfold kG
  rw[if_neg (λh=>h hz2)]
  exact Ba ⟨by rw[hc],by rw[hc],by rw[Bh,hc];exact hsm.symm,by rw[Bh,RG,<-hZ,hc]⟩ rfl rfl
 rw[hr]
 have h9:=ag5 w g o c o.aR hS (by rw[hc];exact hm.2) Tx ⟨hl1,wT⟩ hout
 iterate 2
  refine Wp.go bQ rfl ?_
  repeat' ((conv=>whnf)<;>first|refine BD ?_|refine ag ?_ ?_<;>intro _)
 exact Wp.into 4 [] h9 aY ⟨rfl,rfl⟩ ⟨rfl,⟨by rw[hc];rfl,rfl,rfl,rfl,by rw[hc];rfl,by rw[hc];rfl,trivial⟩,bM,λR w' h=>⟨⟨h.1.1.1.1,⟨by rw[hc];exact h.1.1.2,by rw[hc];exact⟨h.2,h.1.2⟩⟩,λ_ h=>kP⟩,h.1.1.1.2⟩⟩
section
abbrev alT:DT:=(eY [0,1,2,3,4,5,6,7,108,109,110,111,112,13,114] .done)
variable {u1 u2 u3:au}
theorem aab{m:ai}(h1:u1.xs=m.ay.xs)(h2:u2.xs=m.data.xs)(h3:u3.xs=m.aM.xs):(wJ m u1 u2 u3).pl=m.pl:=by
 show aT.mk _ _ _ u1.xs _ _ _ u2.xs u3.xs=_
 rw[h1,h2,h3];rfl
variable {l:List ai}
theorem F8{m:ai}(hl:wH l)(hm:m.iJ)(hs:m.small)(h1:u1.bq)(e2:u2.xs=m.data.xs)(h2:u2.bq)(e3:u3.xs=m.aM.xs)(h3:u3.bq):wH (l++[wJ m u1 u2 u3]):=λn hn=>by
 rcases List.mem_append.1 hn with hn|hn
 ·exact hl n hn
 ·rw[List.mem_singleton.1 hn]
  exact⟨⟨h1,h2,h3,hm.jK,hm.qO,hm.oh,hm.kH,hm.kJ,hm.jM⟩,by show u2.xs.length<=5000;rw[e2];exact hs.data,by show u3.xs.length<=5000;rw[e3];exact hs.aM⟩
variable {kept:List ai}
theorem YU{m:ai}(h1:u1.xs=m.ay.xs)(h2:u2.xs=m.data.xs)(h3:u3.xs=m.aM.xs):(kept++[wJ m u1 u2 u3]).map ai.pl=kept.map ai.pl++[m.pl]:=by
 rw[List.map_append,List.map_cons,List.map_nil,aab h1 h2 h3]
variable {u x:au}
theorem Az(hu:u.bq)(hx:x.bq):(fZ u x).iJ:=⟨hu,hx,⟨λy hy=>by simp[fZ,fQ]at hy,Nat.le_refl _,Nat.zero_le _⟩,ZP,oG,oG,oG,oG,oG⟩
variable {w:World}
theorem aac(hu:u.ok w)(hx:x.ok w):(fZ u x).ok w:=⟨hu,hx,ER w,ZP,oG,oG,oG,oG,oG⟩
def afk(x:au×au):bN:=(bE x.1).and (bE x.2)
theorem Uw{R:Nat->Prop}{N:Nat}(hu:u.bq)(hx:x.bq)(h:((afk (u,x)).past N).holds R w):(fZ u x).ok w:=aac (bT hu ((bE u).mono h.1 λb hb=>hb.1)) (bT hx ((bE x).mono h.2 λb hb=>hb.1))
theorem xA{s d:List Int}(h1:u.xs=s)(h2:x.xs=d):(fZ u x).pl=⟨2,0,0,s,0,0,0,d,[]⟩:=by subst h1 h2;rfl
theorem ae0:(λ_=>none)=uo (λ_=>false):=by funext j;unfold uo;rw[if_neg fP]
variable {H:Heap} {S:bN} {nx:Nat} {K:SV->Heap->bN->Nat->Prop}
theorem WJ(h:∀r,K (.c (.map (some r))) ((nx,.ext (lH r (uo λ_=>false)))::H) S (nx+1)):yT H S nx K:=⟨λr=>by have:=h r;rwa[<-ae0]at this⟩
variable {f:FuncId}
theorem Xv{P:Program}{v u x:Value}{Q:Ending->World->Prop}{b:Nat}(e:v= .pointer (some ⟨b,0,none⟩))(h:Calls P f #[.pointer (some ⟨b,0,none⟩),u,x] w Q):Calls P f #[v,u,x] w Q:=e▸h
def eG(n:Nat)(p:List Nat):List Nat:=p++List.replicate (n-p.length) 0
theorem tT{n:Nat}{p:List Nat}(h:p.length<=n):(eG n p).length=n:=by unfold eG;simp;omega
theorem Z7(n:Nat)(p:List Nat):qE (eG n p)=j5 n (qE p):=by unfold eG qE j5;simp
variable {i:Nat}
theorem TT{n x:Nat}{p:List Nat}{K:List (List Value)->Prop}(hl:p.length=i)(hi:i<n)(h:K (aN (qE (eG n (p++[x]))))):cO (aN (qE (eG n p))) i 0 [.int .i64 (x:Int)] K:=by
 rw[Z7]at h|-
 refine Gw (by unfold qE;rw[List.length_map];exact hl) hi ?_
 have:qE (p++[x])=qE p++[(x:Int)]:=by unfold qE;simp
 rw[<-this];exact h
theorem Wm{n:Nat}{p:List Nat}(h:p.length<n):eG n (p++[0])=eG n p:=by
 unfold eG
 obtain⟨k,hk⟩:∃k,n-p.length=k+1:=⟨n-p.length-1,by omega⟩
 rw[hk,List.length_append,List.length_singleton,show n-(p.length+1)=k by omega,List.append_assoc,List.replicate_succ]
 rfl
variable {k:Nat}
theorem CG{n:Nat}{p:List Nat}(h:k<p.length):(eG n p).getD k 0=p.getD k 0:=by
 unfold eG;rw[List.getD_eq_getElem?_getD,List.getD_eq_getElem?_getD,List.getElem?_append_left h]
theorem Gh{n:Nat}{p:List Nat}{x:aT}(h:gZ x p.length):bJ (eG n p) x=bJ p x:=by
 unfold bJ
 by_cases h12:x.ak=1\/x.ak=2
 ·rw[if_pos h12,if_pos h12]
 ·rw[if_neg h12,if_neg h12,CG (h.a1 aa aa)]
  by_cases h6:x.ak=6
  ·rw[if_pos h6,if_pos h6,CG (h.b1 h6)]
  ·rw[if_neg h6,if_neg h6]
theorem He(n:Nat):aN (qE (eG n []))=List.replicate n [Value.int .i64 0]:=by
 unfold eG qE aN;simp
variable {m:Nat}
theorem gZ.mono{p:aT}(h:gZ p k)(hm:k<=m):gZ p m:=⟨h.a0,λh1 h2=>Nat.lt_of_lt_of_le (h.a1 h1 h2) hm,h.a2,h.b0,λh6=>Nat.lt_of_lt_of_le (h.b1 h6) hm,h.b2,h.ak⟩
variable {y:Nat}
theorem CR{p:List Nat}{x:aT}(h:gZ x p.length):bJ (p++[y]) x=bJ p x:=by
 have hg:∀k,k<p.length->(p++[y]).getD k 0=p.getD k 0:=λk hk=>by rw[List.getD_eq_getElem?_getD,List.getD_eq_getElem?_getD,List.getElem?_append_left hk]
 unfold bJ
 by_cases h12:x.ak=1\/x.ak=2
 ·rw[if_pos h12,if_pos h12]
 ·rw[if_neg h12,if_neg h12,hg _ (h.a1 aa aa)]
  by_cases h6:x.ak=6
  ·rw[if_pos h6,if_pos h6,hg _ (h.b1 h6)]
  ·rw[if_neg h6,if_neg h6]
variable {B:Base} {st:List Nat} {T:TypeId}
theorem aaR{ρ:Nat->SX.Loc}{d j:Nat}{out:Int}{T1 T2:TypeId}(hw:eD B ρ nx H S w)(hm:st.length=m)(hd:(d,bZ.box [.os i kept.length,ax out,.os j m] T)∈H)(hi:(i,bZ.rows (bF kept) 9 T1)∈H)(hj:(j,bZ.rows (aN (qE st)) 1 T2)∈H):
 ∃b,(SV.lp d 0 0 0).rf ρ= .pointer (some ⟨b,0,none⟩)/\nA w b (ρ i).base (ρ i).cap kept (ρ j).base (ρ j).cap (qE st):=by subst hm;exact zP hw hd hi hj
theorem EL{need:Nat->Bool}{n:aT}{r:List aT}{x:List aT×List Nat}:oW need (n::r) i x=oW need r (i+1) (if need i=true\/n.ak=1 then(x.1++[bJ x.2 n],x.2++[x.1.length])else(x.1,x.2++[0])):=rfl
theorem Gn{n:ai}(h:n.iJ)(hs:∀k,st.getD k 0<=1000000):(dG st n).iJ:=by
 obtain⟨_,_,ea,ea2,eb,eb2⟩:=qH st n.pl
 have ha:i64 (bJ st n.pl).a:=by
  by_cases h12:n.pl.ak=1\/n.pl.ak=2
  ·rw[ea2 h12];exact h.qO
  ·rw[ea aa aa]
   have:=hs n.pl.a.toNat
   unfold i64;omega
 have hb:i64 (bJ st n.pl).b:=by
  by_cases h6:n.pl.ak=6
  ·rw[eb h6]
   have:=hs n.pl.b.toNat
   unfold i64;omega
  ·rw[eb2 h6];exact h.oh
 exact⟨h.ay,h.data,h.aM,h.jK,ha,hb,h.kH,h.kJ,h.jM⟩
theorem uE{p:List Nat}(h:∀k,p.getD k 0<=m)(hy:y<=m):∀k,(p++[y]).getD k 0<=m:=λk=>by
 rcases Nat.lt_or_ge k p.length with hk|hk
 ·rw[List.getD_eq_getElem?_getD,List.getElem?_append_left hk,<-List.getD_eq_getElem?_getD];exact h k
 ·rw[List.getD_eq_getElem?_getD,List.getElem?_append_right hk]
  cases k-p.length with
  |zero=>exact hy
  |succ j=>exact Nat.zero_le _
theorem Ua{n:Nat}{p:List Nat}(h:∀k,p.getD k 0<=m):∀k,(eG n p).getD k 0<=m:=λk=>by
 rcases Nat.lt_or_ge k p.length with hk|hk
 ·rw[CG hk];exact h k
 ·unfold eG
  rw[List.getD_eq_getElem?_getD,List.getElem?_append_right hk,List.getElem?_replicate]
  split<;>exact Nat.zero_le _
theorem aaD{n:ai}(hl:wH l)(h1:n.iJ)(h2:n.small):wH (l++[n]):=λm hm=>by
 rcases List.mem_append.1 hm with hm|hm
 ·exact hl m hm
 ·rw[List.mem_singleton.1 hm];exact⟨h1,h2⟩
theorem Ml{n:Nat}{p:List Nat}(hp:p.length<n)(h:(i,bZ.rows (aN (qE (eG n p))) 1 T)∈H):(i,bZ.rows (aN (qE (eG n (p++[0])))) 1 T)∈H:=by rw[Wm hp];exact h
def From(kept acc:List ai):Prop:=∀m∈acc,∃k∈kept,m.ay=k.ay/\m.data=k.data/\m.aM=k.aM
variable {acc:List ai}
theorem Fp{x:ai}(h:From kept acc)(hx:x∈kept):From kept (acc++[dG st x]):=λm hm=>by
 rcases List.mem_append.1 hm with hm|hm
 ·exact h m hm
 ·rw[List.mem_singleton.1 hm];exact⟨x,hx,rfl,rfl,rfl⟩
def KE(w:World)(r:Int)(x:List aT×Nat)(e:Ending)(w':World):Prop:=
 (r≠0/\e= .returned (.tuple #[.agg #[.slice none 0 0,.int .i64 0],.int .i64 r])/\Ext w w')\/
 (r=0/\∃(l:List ai) (base:Option Addr) (cap:Nat),l.map ai.pl=x.1/\wH l/\l.length<=cap/\e= .returned (.tuple #[.agg #[.slice base l.length cap,.int .i64 x.2],.int .i64 0])/\Ext w w'/\
   ∃F G:Nat->Prop,(∀b,F b->w.heap.size<=b/\b<w'.heap.size)/\(∀b,G b->w.heap.size<=b/\b<w'.heap.size)/\(∀b,F b->¬G b)/\(∀n∈l,(Ox n).holds F w')/\(fC base 9 (bF l)).holds G w')
theorem abg{n:ai}(h:n.ok w)(ha:gZ (dG st n).pl k)(hk:k<=1000000):(dG st n).ok w:=by
 have a0:=ha.a0
 have b0:=ha.b0
 have a1:=ha.a1
 have a2:=ha.a2
 have b1:=ha.b1
 have b2:=ha.b2
 refine Xw h ?_ ?_
 ·show i64 (dG st n).pl.a
  unfold i64
  by_cases h12:(dG st n).pl.ak=1\/(dG st n).pl.ak=2
  ·have:=a2 h12;omega
  ·have:=a1 aa aa;omega
 ·show i64 (dG st n).pl.b
  unfold i64
  by_cases h6:(dG st n).pl.ak=6
  ·have:=b1 h6;omega
  ·have:=b2 h6;omega
theorem aaW{cx:Cx}{args:List SV}(s d:List Int)(hf:∀ar w,(callFunc f ar).run cx.P w= .ok (.enter f ar) w)
 (hc:∀ρ w',eD cx.B ρ nx H S w'->Calls cx.P f (SV.eO ρ args).toArray w' (Aq w' s d))
 (h:∀u x:au,u.xs=s->u.bq->x.xs=d->x.bq->K (.c (fZ u x).j3) H (S.and ((afk (u,x)).past cx.B.w0.heap.size)) nx):aI cx f args H S nx K:=
 gX hf (λx:au×au=>(fZ x.1 x.2).j3) afk (λx=>x.1.xs=s/\x.1.bq/\x.2.xs=d/\x.2.bq) (λρ w' hw=>(hc ρ w' hw).mono λe w'' he=>by
  obtain⟨u,x,h1,h2,h3,h4,h5,h6,h7,h8⟩:=he
  exact⟨(u,x),⟨h1,h2,h3,h4⟩,h5,h6,h7,h8⟩) (λx hx=>h x.1 x.2 hx.1 hx.2.1 hx.2.2.1 hx.2.2.2)
theorem aak{o:Nat}{r:Int}{x:List aT×Nat}(hw0:B.w0=w)(hb:∀R w',S.holds R w'->(aO w).holds R w')(hkA:∀R w',S.holds R w'->(K5 w.heap.size kept).holds R w')(hi:(i,bZ.rows (bF acc) 9 T)∈H)(hfr:From kept acc)(hao:wH acc)(hr:r=0)(hx:x=(acc.map ai.pl,o)):
 jI B (.sN [.agg [.os i acc.length,ax o],ax 0]) H S nx (KE w r x):=by
 subst hw0 hr hx
 refine dH λρ w' hw=> .inr ⟨rfl,?_⟩
 have ano:=aZ hw hb
 obtain⟨R,φ,oo⟩:=hw
 have hbase:=hb R w' oo.tq
 have hkept:=hkA R w' oo.tq
 obtain⟨h1,h2,h3⟩:=oo.kV _ hi
 simp only at h2 h3
 rw[dS]at h2
 refine⟨acc,(ρ i).base,(ρ i).cap,rfl,hao,h2,rfl,ano,λb=>R b/\B.w0.heap.size<=b,φ i,λb hb=>⟨hb.2,oo.ro b hb.1⟩,λb hb=>⟨?_,bZ.size (oo.kV _ hi) hb⟩,λb hb hb'=>oo.apart _ hi b hb' hb.1,λn hn=> ?_,h1,?_⟩
 ·rcases Nat.lt_or_ge b B.w0.heap.size with hl|hl
  ·exact absurd (hbase b hl).1 (oo.apart _ hi b hb)
  ·exact hl
 ·obtain⟨k,hk,e1,e2,e3⟩:=hfr n hn
  have:=hkept k hk
  unfold Ox at this|-
  rw[e1,e2,e3]
  exact this
 ·rcases h3 with⟨g1,g2,_⟩|⟨b,off,c,g1,g2,g3,g4,g5⟩
  ·left
   have:acc.length=0:=by omega
   have:=List.eq_nil_of_length_eq_zero this
   subst this;rfl
  ·refine .inr ⟨b,off,g1,(g2 b).2 rfl,λm r hm j v hj=> ?_⟩
   have:=g5 m r hm j v hj
   rw[<-Nat.add_assoc]
   simpa[World.cell?,g3]using this
theorem adP(w:World)(g:bG)(hg:g.ok w):Calls Tryz.prog 23 #[g.val] w (KE w (bX g).1 (kD (g.l.map ai.pl) (check g).2 g.out.toNat)):=by
 refine fH Tryz.func23 [.agg [.c (.slice g.base g.l.length g.cap),ax g.out]] ?_
 repeat' ((conv=>whnf)<;>first|refine bn ?_|refine ag ?_ ?_<;>intro _)
 refine nK (f:=22) (bX g) Tryz.call22 (λρ w' hw=>xw w' g (ae hw λR h=>hg.later h)) (λhne=> ?_) (λhsp qb qc=> ?_)
 ·repeat' ((conv=>whnf)<;>first|(show @eZ _ _ _;refine cu hne ?_)|refine bn ?_)
  conv=>whnf
  exact dH λρ w' hw=> .inl ⟨hne,rfl,aZ hw (λ_ _ h=>h)⟩
 obtain⟨hck,hsl,hsi⟩:=jw hsp
 obtain⟨hl1,wT,hout,hcl,hin⟩:=iq hck
 have hL:=zS hsp
 repeat' ((conv=>whnf)<;>first|refine bn ?_|refine ag ?_ ?_<;>intro _)
 refine Wp.loop (σ:=Nat×List ai×List Nat) 5 (λ⟨i,kept,st⟩=>[(6,.lp 2 0 0 0),(1,.lp 0 0 0 0),(2,.lp 1 0 0 0),(28,.c (.slice g.base g.l.length g.cap)),(29,ax g.l.length),(30,ax i)])
  (λ⟨i,kept,st⟩=>[(4,.rows (aN (qE st)) 1 3),(3,.rows (bF kept) 9 41),(2,.box [.os 3 kept.length,ax 0,.os 4 st.length] 108),(1,.box [.c (.slice none 0 0),ax 0] 24),(0,.box [.c (.slice g.base g.l.length g.cap),ax g.out] 24)])
  (λ⟨_,kept,_⟩=>(aO w).and (K5 w.heap.size kept))
  (λ⟨i,kept,st⟩=>i<=g.l.length/\wH kept/\sO (g.l.map ai.pl) (check g).2 (bX g).2 i (kept.map ai.pl) st) (λs=>g.l.length-s.1) (0,[],[]) [(3,none),(4,none)] aY (λs=>⟨rfl,rfl⟩)
  ⟨Nat.zero_le _,λn hn=>by simp at hn,yS _ _ _⟩ ⟨rfl,⟨rfl,rfl,rfl,rfl,rfl,rfl,trivial⟩,⟨rfl,rfl,aU,aU,aU,trivial⟩,λR w' h=>⟨h.1,aam _ R w'⟩⟩ ?_
 rintro⟨i,kept,st⟩ ⟨hi,hko,hT⟩
 by_cases hlt:i<g.l.length
 ·obtain⟨a,ha⟩:∃a,g.base=some a:=aP (j:=i) hg.rows Ca
  have hrow:=bU hlt
  have hnm:=List.getElem_mem hlt
  have VW:(g.l.map ai.pl)[i]? =some g.l[i].pl:=by rw[List.getElem?_map,List.getElem?_eq_getElem hlt];rfl
  generalize g.l[i]=n at*
  have hno:=hg.each n hnm
  have hns:=hg.small n hnm
  have WB:=hL.ahead VW
  have FQ:=hT.len
  have hkl:=hT.few
  rw[List.length_map]at hkl
  obtain⟨dY,fM,hR,hS⟩:=hT.ok
  have adD:(g.l.map ai.pl)[st.length]? =some n.pl:=by rw[FQ];exact VW
  obtain⟨hm,ht⟩:=Mg hL hR hS adD
  have TH:=(hL.span _ _ adD).2
  have hT':=hT.step hL VW
  rw[<-FQ]at WB
  rw[FQ]at hm ht TH
  have hpl:(dG st n).pl=bJ st n.pl:=Ff st n
  rw[<-hpl]at hm ht
  have ajO:=lS hm.form
  rw[hR.wE,List.length_map]at ajO
  have hmo:∀w',n.ok w'->(dG st n).ok w':=λw' h=>abg h ajO aa
  have hms:(dG st n).small:=⟨hns.data,hns.aM⟩
  have hb1: -1048576<=(jB (dG st n).pl (gD (check g).2 i) dY fM).1:=by unfold tight at ht;omega
  have hb2:(jB (dG st n).pl (gD (check g).2 i) dY fM).2<=1048576:=by unfold tight at ht;omega
  have YG:jZ (gD (check g).2 i) (kept.map ai.pl) (bJ st n.pl)=jZ (gD (check g).2 i) (kept.map ai.pl) (dG st n).pl:=by rw[hpl]
  repeat' ((conv=>whnf)<;>first|refine D9 ?_|refine U_ ?_|refine bn ?_|refine ag ?_ ?_<;>intro _)
  refine Wp.rounds 3 ?_
  by_cases hk:gU (kept.map ai.pl) (dG st n).pl=true
  ·have hstep:pg (gD (check g).2 i) (kept.map ai.pl,st) n.pl=((Cy (kept.map ai.pl) ⟨2,0,0,gD (check g).2 i,0,0,0,kR (gD (check g).2 i) (kept.map ai.pl) (dG st n).pl,[]⟩).1,st++[(Cy (kept.map ai.pl) ⟨2,0,0,gD (check g).2 i,0,0,0,kR (gD (check g).2 i) (kept.map ai.pl) (dG st n).pl,[]⟩).2]):=by
    unfold pg;simp only;rw[YG,jZ,if_pos hk]
   rw[hstep]at hT'
   unfold Cy at hT'
   have hKn:=zO hR hm hk
   have anp:=(SY hR hm hKn).2
   have apo:=(dQ (gD (check g).2 i)).2
   have De:∀w' b nb nc sb sc,nA w' b nb nc kept sb sc (qE st)->(∀k∈kept,k.ok w'/\k.small)->n.ok w'->Calls Tryz.prog 55 #[.pointer (some ⟨b,0,none⟩),(dG st n).j3] w' (Aq w' (gD (check g).2 i) (kR (gD (check g).2 i) (kept.map ai.pl) (dG st n).pl)):=λw' b nb nc sb sc g1 g2 g3=>by
    by_cases h6:(dG st n).ak=6
    ·exact XK g1 g2 hR _ (hmo w' g3) hms hm hk hb1 hb2 h6
    ·exact XC g1 g2 hR _ (hmo w' g3) hms hm hk hb1 hb2 h6
   cases hf:kr (kept.map ai.pl) ⟨2,0,0,gD (check g).2 i,0,0,0,kR (gD (check g).2 i) (kept.map ai.pl) (dG st n).pl,[]⟩with
   |some k=>
    rw[hf]at hT'
    repeat' ((conv=>whnf)<;>first|refine acd ?_|(refine aip ?_;intro u x r1 r2 r3 r4)|(show aI _ 56 ..;(refine Pz (m:=fZ u x) (λR w' h=>Uw r2 r4 h.2) (λR w' h y hy=>(D8 hko h.1.2 y hy).1) aa aa (by rw[xA r1 r3];exact hf) (λe8 e7=> ?_)))|refine bn ?_|refine ag ?_ ?_<;>intro _)
    all_goals(conv=>whnf)
    all_goals exact⟨(i+1,kept,st++[k]),[(4,some 9),(3,some 3)],⟨hlt,hko,hT'⟩,by simp only;omega,rfl,bM,bM,λR w' h=>h.1⟩
   |none=>
    rw[hf]at hT'
    repeat' ((conv=>whnf)<;>first|refine acd ?_|(refine aip ?_;intro u x r1 r2 r3 r4)|(show aI _ 56 ..;(refine Yu (m:=fZ u x) (λR w' h=>Uw r2 r4 h.2) (λR w' h y hy=>(D8 hko h.1.2 y hy).1) aa aa (by rw[xA r1 r3];exact hf) (λe10 e8 e7 u1 u2 u3 q1 q2 q3 q4 q5 q6=> ?_)))|refine bn ?_|refine ag ?_ ?_<;>intro _)
    all_goals(conv=>whnf)
    all_goals exact⟨(i+1,kept++[wJ (fZ u x) u1 u2 u3],st++[kept.length]),[(4,some 11),(3,some 9)],⟨hlt,F8 hko (Az r2 r4) ⟨by show x.xs.length<=5000;rw[r3,anp];omega,Nat.zero_le _⟩ q2 q3 q4 q5 q6,by rw[YU q1 q3 q5,xA r1 r3];rw[List.length_map]at hT';exact hT'⟩,by simp only;omega,rfl,bM,bM,λR w' h=>⟨h.1.1.1.1.1,La h.1.1.1.1.2 ⟨h.1.1.2,h.1.2,h.2⟩⟩⟩
  ·have hstep:pg (gD (check g).2 i) (kept.map ai.pl,st) n.pl=((Cy (kept.map ai.pl) (dG st n).pl).1,st++[(Cy (kept.map ai.pl) (dG st n).pl).2]):=by
    unfold pg;simp only;rw[YG,jZ,if_neg hk]
   rw[hstep]at hT'
   unfold Cy at hT'
   cases hf:kr (kept.map ai.pl) (dG st n).pl with
   |some k=>
    rw[hf]at hT'
    repeat' ((conv=>whnf)<;>first|refine acd ?_|refine afZ ?_|(show aI _ 56 ..;refine Pz (m:=dG st n) (λR w' h=>hmo w' (hno.later h.1)) (λR w' h x hx=>(D8 hko h.2 x hx).1) aa aa hf (λe8 e7=> ?_))|refine bn ?_|refine ag ?_ ?_<;>intro _)
    all_goals(conv=>whnf)
    all_goals exact⟨(i+1,kept,st++[k]),[(4,some 9),(3,some 3)],⟨hlt,hko,hT'⟩,by simp only;omega,rfl,bM,bM,λR w' h=>h⟩
   |none=>
    rw[hf]at hT'
    have anu:(dG st n).iJ:=(hmo w hno).iJ
    repeat' ((conv=>whnf)<;>first|refine acd ?_|refine afZ ?_|(show aI _ 56 ..;refine Yu (m:=dG st n) (λR w' h=>hmo w' (hno.later h.1)) (λR w' h x hx=>(D8 hko h.2 x hx).1) aa aa hf (λe10 e8 e7 u1 u2 u3 q1 q2 q3 q4 q5 q6=> ?_))|refine bn ?_|refine ag ?_ ?_<;>intro _)
    all_goals(conv=>whnf)
    all_goals exact⟨(i+1,kept++[wJ (dG st n) u1 u2 u3],st++[kept.length]),[(4,some 11),(3,some 9)],⟨hlt,F8 hko anu hms q2 q3 q4 q5 q6,by rw[YU q1 q3 q5];rw[List.length_map]at hT';exact hT'⟩,by simp only;omega,rfl,bM,bM,λR w' h=>⟨h.1.1.1.1,La h.1.1.1.2 ⟨h.1.1.2,h.1.2,h.2⟩⟩⟩
 ·obtain rfl:i=g.l.length:=by omega
  have hdone:pF (g.l.map ai.pl) (check g).2 ([],[])=(kept.map ai.pl,st):=by
   have e:(g.l.map ai.pl).length=g.l.length:=List.length_map _
   rw[<-e]at hT
   exact hT.done
  have FQ:=hT.len
  have hkl:=hT.few
  rw[List.length_map]at hkl
  obtain⟨dY,fM,hR,hS⟩:=hT.ok
  have hoL:g.out.toNat<st.length:=by omega
  have hoK:st.getD g.out.toNat 0<kept.length:=by have:=hS.lt _ hoL;rwa[hR.wE,List.length_map]at this
  have hx:kD (g.l.map ai.pl) (check g).2 g.out.toNat=((oW (mO (kept.map ai.pl) (st.getD g.out.toNat 0)) (kept.map ai.pl) 0 ([],[])).1,(oW (mO (kept.map ai.pl) (st.getD g.out.toNat 0)) (kept.map ai.pl) 0 ([],[])).2.getD (st.getD g.out.toNat 0) 0):=by unfold kD;rw[hdone]
  rw[hx]
  have hoR:(aN (qE st))[g.out.toNat]? =some [.int .i64 (st.getD g.out.toNat 0)]:=qP hoL
  generalize st.getD g.out.toNat 0=out at*
  repeat' ((conv=>whnf)<;>first|(show yT ..;refine WJ (λr=> ?_))|(show di ..;(refine bg g.out.toNat aa hoL aeo ?_))|(show mq ..;refine row_of _ _ hoR rfl ?_)|(show aI _ 57 ..;(refine DJ aU Tryz.call57 (λ_=> .tuple #[]) uo (ni (kept.map ai.pl) out (λ_=>false)) (λρ w' hw hm'=>by obtain⟨b,e,hd⟩:=zP hw aU aU aU;exact Xv e (Jn hR (out+1) out (Nat.lt_succ_self _) hoK w' _ hd hm')) (λs hs=> ?_)))|(show mJ ..;(refine jC kept.length rfl rfl DI aa ?_))|refine bn ?_|refine ag ?_ ?_<;>intro _)
  have anH:out<(kept.map ai.pl).length:=by rw[List.length_map];exact hoK
  obtain rfl:=acH hR.C8 anH hs
  generalize r_:mO (kept.map ai.pl) out=need at*
  generalize hfin:oW need (kept.map ai.pl) 0 ([],[])=fin at*
  refine Wp.loop (σ:=Nat×List ai×List Nat) 9 (λ⟨j,acc,p⟩=>[(13,.lp 7 0 0 0),(11,.c (.map (some r))),(12,ax out),(2,.lp 1 0 0 0),(78,.os 3 kept.length),(79,ax kept.length),(80,ax j)])
   (λ⟨j,acc,p⟩=>[(8,.rows (bF acc) 9 41),(7,.box [.os 8 acc.length,ax 0,.os 6 kept.length] 108),(6,.rows (aN (qE (eG kept.length p))) 1 3),(5,.ext (lH r (uo need))),(3,.rows (bF kept) 9 41),(1,.box [.c (.slice none 0 0),ax 0] 24)])
   (λ_=>(aO w).and (K5 w.heap.size kept))
   (λ⟨j,acc,p⟩=>j<=kept.length/\p.length=j/\acc.length<=j/\wH acc/\From kept acc/\oW need ((kept.map ai.pl).drop j) j (acc.map ai.pl,p)=fin/\∀k,p.getD k 0<=1000000) (λs=>kept.length-s.1) (0,[],[]) [(8,none)] aY (λs=>⟨rfl,rfl⟩)
   ⟨Nat.zero_le _,rfl,Nat.zero_le _,λn hn=>by simp at hn,λn hn=>by simp at hn,hfin,λk=>Nat.zero_le _⟩ ⟨rfl,⟨rfl,rfl,rfl,rfl,rfl,rfl,rfl,trivial⟩,⟨rfl,aU,?_,aU,aU,aU,trivial⟩,λR w' h=>h⟩ ?_
  ·show(6,bZ.rows (aN (qE (eG kept.length []))) 1 3)∈_
   rw[He]
   exact aU
  rintro⟨j,acc,p⟩ ⟨hj,hpl,hal,hao,hfr,hcut,Ky⟩
  have hgl:(aN (qE (eG kept.length p))).length=kept.length:=by rw[nP,tT aa]
  by_cases hlt:j<kept.length
  ·have hrow:=bU hlt
   have hxm:=List.getElem_mem hlt
   have hjr:j<(kept.map ai.pl).length:=by rw[List.length_map];exact hlt
   have Re:(kept.map ai.pl)[j]=kept[j].pl:=by simp
   have hxa:=hR.ahead (List.getElem?_eq_getElem hjr)
   rw[List.drop_eq_getElem_cons hjr]at hcut
   rw[Re]at hxa hcut
   generalize kept[j]=x at*
   have hxo:=hko x hxm
   have hkx:x.pl.ak=x.ak:=rfl
   rw[EL,hkx]at hcut
   have hq:(eG kept.length (p++[acc.length])).length=kept.length:=tT acf
   have hxq:gZ x.pl (eG kept.length (p++[acc.length])).length:=by rw[hq];exact hxa.mono aa
   have hxv:(dG (eG kept.length (p++[acc.length])) x).pl=bJ p x.pl:=by
    rw[Ff,Gh (by rw[List.length_append,List.length_singleton,hpl];exact hxa.mono aa),CR (by rw[hpl];exact hxa)]
   by_cases hin:need j=true\/x.ak=1
   ·rw[if_pos hin]at hcut
    have hkeep:wH (acc++[dG (eG kept.length (p++[acc.length])) x]):=aaD hao (Gn hxo.1 (Ua (uE Ky aa))) ⟨hxo.2.data,hxo.2.aM⟩
    have Cb:oW need ((kept.map ai.pl).drop (j+1)) (j+1) ((acc++[dG (eG kept.length (p++[acc.length])) x]).map ai.pl,p++[acc.length])=fin:=by
     rw[List.map_append,List.map_cons,List.map_nil,hxv]
     simp only[List.length_map]at hcut
     exact hcut
    cases hsb:need j with
    |true=>
     repeat' ((conv=>whnf)<;>first|refine afc ?_|refine adH ?_|refine YN ?_|refine Ow ?_|refine afa ?_|refine adf ?_|refine ae4 ?_|refine Ou ?_|refine Ph ?_|refine afH ?_|(show b_ _ 23 ..;refine lu [12] _ ZE ?_)|refine bn ?_|refine ag ?_ ?_<;>intro _)
     all_goals(conv=>whnf)
     all_goals exact⟨(j+1,acc++[dG (eG kept.length (p++[acc.length])) x],p++[acc.length]),[(8,some 11)],⟨hlt,by rw[List.length_append,List.length_singleton,hpl],by rw[List.length_append,List.length_singleton];omega,hkeep,Fp hfr hxm,Cb,uE Ky aa⟩,by simp only;omega,rfl,bM,bM,λR w' h=>h⟩
    |false=>
     have hk1:x.ak=1:=by rw[hsb]at hin;simpa using hin
     repeat' ((conv=>whnf)<;>first|refine afc ?_|refine adH ?_|refine YN ?_|refine Ow ?_|refine afa ?_|refine adf ?_|refine ae4 ?_|refine Ou ?_|refine Ph ?_|refine afH ?_|(show b_ _ 23 ..;refine lu [12] _ ZE ?_)|refine bn ?_|refine ag ?_ ?_<;>intro _)
     all_goals(conv=>whnf)
     all_goals exact⟨(j+1,acc++[dG (eG kept.length (p++[acc.length])) x],p++[acc.length]),[(8,some 11)],⟨hlt,by rw[List.length_append,List.length_singleton,hpl],by rw[List.length_append,List.length_singleton];omega,hkeep,Fp hfr hxm,Cb,uE Ky aa⟩,by simp only;omega,rfl,bM,bM,λR w' h=>h⟩
   ·rw[if_neg hin]at hcut
    have hsb:need j=false:=by simpa usingλh=>hin (.inl h)
    have hk1:¬x.ak=1:=λh=>hin (.inr h)
    repeat' ((conv=>whnf)<;>first|refine afc ?_|refine adH ?_|refine YN ?_|refine Ow ?_|refine afa ?_|refine adf ?_|refine ae4 ?_|refine Ou ?_|refine Ph ?_|refine afH ?_|(show b_ _ 23 ..;refine lu [12] _ ZE ?_)|refine bn ?_|refine ag ?_ ?_<;>intro _)
    all_goals(conv=>whnf)
    all_goals exact⟨(j+1,acc,p++[0]),[(8,some 8)],⟨hlt,by rw[List.length_append,List.length_singleton,hpl],by omega,hao,hfr,hcut,uE Ky (Nat.zero_le _)⟩,by simp only;omega,rfl,bM,⟨aU,aU,Ml aa aU,aU,aU,aU,trivial⟩,λR w' h=>h⟩
  ·obtain rfl:j=kept.length:=by omega
   rw[List.drop_of_length_le adL]at hcut
   have hcut:(acc.map ai.pl,p)=fin:=hcut
   subst hcut
   have hgp:eG kept.length p=p:=by unfold eG;rw[hpl,Nat.sub_self];simp
   have hop:(aN (qE (eG kept.length p)))[out]? =some [.int .i64 (p.getD out 0)]:=by rw[hgp];exact qP aa
   repeat' ((conv=>whnf)<;>first|(show di ..;refine bg out rfl hoK (Nat.le_of_eq hgl.symm) ?_)|(show mq ..;refine row_of _ _ hop rfl ?_)|refine bn ?_|refine ag ?_ ?_<;>intro _)
   all_goals(conv=>whnf)
   all_goals exact aak rfl (λR w' h=>h.1) (λR w' h=>h.2) aU hfr hao hsp rfl
end
section
def Bc(w:World)(n:ai)(e:Ending)(w':World):Prop:=∃u:au,(u.xs=df n.pl/\u.bq)/\e= .returned u.val/\Ext w w'/\(bE u).holds (λb=>w.heap.size<=b/\b<w'.heap.size) w'
variable {H:Heap} {S:bN} {nx:Nat}
theorem Nz{B:Base}{i m:Nat}{w:World}{n:ai}{l:List Int}{R:List (List Value)}(hb:∀R w',S.holds R w'->(aO B.w0).holds R w')(hw0:B.w0=w)(he:(i,bZ.rows R 1 3)∈H)(hR:R=aN l)(hm:m=l.length)(hf:∀x∈l,i64 x)(hl:l.length<=1000000)(hx:df n.pl=l):jI B (.os i m) H S nx (Bc w n):=by
 subst hw0 hm hR
 refine dH λρ w' hw=> ?_
 have hn:=dK hw hb he
 rw[aJ]at hn
 obtain⟨u,e1,e2,e3,e4⟩:=uD hn hf hl
 exact⟨u,⟨e2.trans hx.symm,e3⟩,by rw[e1],aZ hw hb,e4⟩
theorem rQ(w:World)(n:ai)(ha:i64 n.a)(hb:i64 n.b):Calls Tryz.prog 75 #[n.j3] w (Bc w n):=by
 by_cases h12:n.ak=1\/n.ak=2
 ·have ht:df n.pl=[]:=by unfold df;rw[if_pos (show n.pl.ak=1\/n.pl.ak=2 from h12)]
  refine fH Tryz.func75 [.agg (jN n)] ?_
  repeat' ((conv=>whnf)<;>first|refine aX ?_|refine ag ?_ ?_<;>intro _)
  all_goals(conv=>whnf)
  all_goals exact dH λρ w' hw=>⟨fQ,⟨ht.symm,λx hx=>by simp[fQ]at hx,Nat.le_refl _,Nat.zero_le _⟩,rfl,aZ hw (λ_ _ h=>h),⟨λr hr=>by simp[fQ,aN]at hr,.inl rfl⟩⟩
 ·by_cases h6:n.ak=6
  ·have ht:df n.pl=[n.a,n.b]:=by unfold df;rw[if_neg (show¬(n.pl.ak=1\/n.pl.ak=2)from h12),if_pos (show n.pl.ak=6 from h6)];rfl
   refine fH Tryz.func75 [.agg (jN n)] ?_
   repeat' ((conv=>whnf)<;>first|refine aX ?_|refine ag ?_ ?_<;>intro _)
   all_goals(conv=>whnf)
   all_goals exact Nz (l:=[n.a,n.b]) (λ_ _ h=>h) rfl aU rfl rfl (λx hx=>by
    simp only[List.mem_cons,List.not_mem_nil,or_false]at hx
    rcases hx with rfl|rfl
    ·exact ha
    ·exact hb) (show 2<=1000000 by decide) ht
  ·have ht:df n.pl=[n.a]:=by unfold df;rw[if_neg (show¬(n.pl.ak=1\/n.pl.ak=2)from h12),if_neg (show¬n.pl.ak=6 from h6)];rfl
   refine fH Tryz.func75 [.agg (jN n)] ?_
   repeat' ((conv=>whnf)<;>first|refine aX ?_|refine ag ?_ ?_<;>intro _)
   all_goals(conv=>whnf)
   all_goals exact Nz (l:=[n.a]) (λ_ _ h=>h) rfl aU rfl rfl (λx hx=>by
    rw[List.mem_singleton.1 hx]
    exact ha) (show 1<=1000000 by decide) ht
theorem LF{cx:Cx}{f:FuncId}{args:List SV}{K:SV->Heap->bN->Nat->Prop}(n:ai)(hf:∀ar w,(callFunc f ar).run cx.P w= .ok (.enter f ar) w)
 (hc:∀ρ w',eD cx.B ρ nx H S w'->Calls cx.P f (SV.eO ρ args).toArray w' (Bc w' n))
 (h:∀u:au,u.xs=df n.pl->u.bq->K (.c u.val) H (S.and ((bE u).past cx.B.w0.heap.size)) nx):aI cx f args H S nx K:=
 gX hf au.val bE (λu=>u.xs=df n.pl/\u.bq) hc (λu hu=>h u hu.1 hu.2)
def vF(l:List Bool):List (List Value):=l.map λb=>[.bool b]
theorem uB(l:List Bool):(vF l).length=l.length:=by simp[vF]
variable {l:List Bool} {k:Nat}
theorem EE{b:Bool}(h:k<l.length)(hb:l.getD k false=b):(vF l)[k]? =some [.bool b]:=by
 subst hb
 unfold vF
 rw[List.getElem?_map,List.getElem?_eq_getElem h,List.getD_eq_getElem?_getD,List.getElem?_eq_getElem h];rfl
theorem Ga{K:List (List Value)->Prop}(hk:k<l.length)(h:K (vF (l.set k true))):cO (vF l) k 0 [.bool true] K:=by
 refine iW _ (EE hk rfl) FW ?_
 have e:(vF l).set k (bW [.bool (l.getD k false)] 0 [.bool true])=vF (l.set k true):=by
  have e2:bW [Value.bool (l.getD k false)] 0 [.bool true]=[Value.bool true]:=rfl
  rw[e2]
  unfold vF
  rw[List.map_set]
 rw[e];exact h
end
section
def PV(w:World)(l:List ai)(x:List aT×List Nat)(out:Nat)(e:Ending)(w':World):Prop:=
 ∃(l':List ai) (base:Option Addr) (cap:Nat),l'.map ai.pl=x.1/\From l l'/\(∀n∈l',n.iJ)/\l'.length<=l.length/\e= .returned (.agg #[.slice base l'.length cap,.int .i64 (x.2.getD out 0:Nat)])/\Ext w w'/\(fC base 9 (bF l')).holds (λb=>w.heap.size<=b/\b<w'.heap.size) w'
variable {H:Heap} {S:bN} {nx:Nat}
theorem agK{B:Base}{i m:Nat}{w:World}{l l':List ai}{x:List aT×List Nat}{out o:Nat}{T:TypeId}(hb:∀R w',S.holds R w'->(aO B.w0).holds R w')(hw0:B.w0=w)(he:(i,bZ.rows (bF l') 9 T)∈H)(hm:m=l'.length)(h1:l'.map ai.pl=x.1)(h2:From l l')(h3:∀n∈l',n.iJ)(h4:l'.length<=l.length)(ho:o=x.2.getD out 0):jI B (.agg [.os i m,ax (o:Nat)]) H S nx (PV w l x out):=by
 subst hw0 hm ho
 refine dH λρ w' hw=> ?_
 have hn:=dK hw hb he
 rw[dS]at hn
 obtain⟨base,cap,e1,hD⟩:=fJ hn
 rw[dS]at e1
 refine⟨l',base,cap,h1,h2,h3,h4,?_,aZ hw hb,hD⟩
 show Ending.returned (.agg #[(SV.os i l'.length).rf ρ,.int .i64 _])=_
 rw[e1]
theorem pM{cx:Cx}{f:FuncId}{args:List SV}{K:SV->Heap->bN->Nat->Prop}(n:ai)(k:Nat){ts:List Int}(hk:ts.length=k)(ht:df n.pl=ts)(hf:∀ar w,(callFunc f ar).run cx.P w= .ok (.enter f ar) w)
 (hc:∀ρ w',eD cx.B ρ nx H S w'->Calls cx.P f (SV.eO ρ args).toArray w' (Bc w' n))
 (h:∀u:au,u.xs=ts->u.xs.length=k->u.bq->K (.c u.val) H (S.and ((bE u).past cx.B.w0.heap.size)) nx):aI cx f args H S nx K:=
 LF n hf hc (λu hu hs=>h u (hu.trans ht) (by rw[hu,ht];exact hk) hs)
theorem adN{p:aT}{k:Nat}(h:gZ p k):∀t∈df p,0<=t/\t.toNat<k:=by
 intro t ht
 unfold df at ht
 split at ht
 ·simp at ht
 ·rename_i h12
  split at ht
  ·rename_i h6
   simp only[List.mem_cons,List.not_mem_nil,or_false]at ht
   rcases ht with rfl|rfl
   ·exact⟨h.a0,h.a1 aa aa⟩
   ·exact⟨h.b0,h.b1 h6⟩
  ·simp only[List.mem_singleton]at ht
   subst ht
   exact⟨h.a0,h.a1 aa aa⟩
theorem abO(p:aT):(df p).length<=2:=by
 unfold df
 split
 ·simp
 ·split<;>simp
theorem ZC{z y:Int}{K:Int->Prop}(h:K y)(e:z=y)(h1: -9223372036854775808<=y)(h2:y<=9223372036854775807):iL .i64 z K:=by subst e;exact wrap_i64 h1 h2 h
theorem Ww(t:Int)(r:List Int)(nd:List Bool):marks (t::r) nd=marks r (nd.set t.toNat true):=rfl
theorem agM(w:World)(rb:Option Addr)(rc:Nat)(l:List ai)(hr:bu w rb 9 (bF l))(hs:∀n∈l,n.iJ){dY:List (List Int)}{fM:List Sp}(hR:d9 (l.map ai.pl) dY fM)(h24:l.length<=24)(out:Nat)(ho:out<l.length):Calls Tryz.prog 78 #[.slice rb l.length rc,.int .i64 out] w (PV w l (oW (mO (l.map ai.pl) out) (l.map ai.pl) 0 ([],[])) out):=by
 have hlr:(l.map ai.pl).length=l.length:=List.length_map _
 obtain⟨ra,hra⟩:∃a,rb=some a:=aP (j:=out) hr Ca
 refine fH Tryz.func78 [.c (.slice rb l.length rc),ax out] ?_
 repeat' ((conv=>whnf)<;>first|(show mJ ..;(refine jC l.length rfl rfl (by show 1*l.length<=_;omega) aa ?_))|(show jT _ ((_,.rows (List.replicate _ [.bool _]) _ _)::_) _ _ _;refine jY (ys:=vF (List.replicate l.length false)) (m:=l.length) ?_ (by simp[vF]) rfl)|(show di ..;refine bg out rfl ho (Nat.le_of_eq (by rw[uB,List.length_replicate])) ?_)|(show cO ..;(refine Ga (by rw[List.length_replicate];exact ho) ?_))|refine aX ?_)
 refine Wp.loop (σ:=Nat×List Bool) 2 (λ⟨i,nd⟩=>[(0,.c (.slice rb l.length rc)),(1,ax out),(5,.os 1 l.length),(4,.lp 0 0 0 0),(6,ax ((i:Int)-1))]) (λ⟨i,nd⟩=>[(1,.rows (vF nd) 1 4),(0,.box [.c (.slice none 0 0),ax 0] 24)]) (λ_=>aO w)
  (λ⟨i,nd⟩=>i<=l.length/\nd.length=l.length/\OT (l.map ai.pl) i nd=Sk (l.map ai.pl) out) (λs=>s.1) (l.length,(List.replicate l.length false).set out true) [] aY (λs=>⟨rfl,rfl⟩)
  ⟨Nat.le_refl _,by simp,by unfold Sk;rw[hlr]⟩ ⟨rfl,⟨rfl,rfl,rfl,rfl,rfl,trivial⟩,bM,λ_ _ h=>h⟩ ?_
 rintro⟨i,nd⟩ ⟨hi,hnl,hsw⟩
 have hbl:=uB nd
 cases i with
 |succ i=>
  have hlt:i<l.length:=by omega
  have hrow:=bU hlt
  have hnm:=hs _ (List.getElem_mem hlt)
  have hir:i<(l.map ai.pl).length:=by omega
  have VW:(l.map ai.pl).getD i dB=l[i].pl:=zU hlt
  have hna:=hR.ahead (getD_some hir)
  rw[VW]at hna
  unfold OT at hsw
  rw[VW]at hsw
  generalize l[i]=n at*
  have hti:=adN hna
  have htf:=abO n.pl
  cases hb:nd.getD i false with
  |false=>
   rw[if_neg (by rw[hb];decide)]at hsw
   repeat' ((conv=>whnf)<;>first|(show iL ..;refine ZC (y:=(i:Int)-1) ?_ aa aa aa)|(show di ..;refine bg i aa hlt aa ?_)|(show mq ..;refine row_of _ _ (EE aa hb) rfl ?_)|refine aX ?_|refine ag ?_ ?_<;>intro _)
   all_goals(conv=>whnf)
   all_goals exact⟨(i,nd),[],⟨by omega,hnl,hsw⟩,Nat.lt_succ_self i,rfl,bM,bM,λ_ _ h=>h⟩
  |true=>
   rw[if_pos hb]at hsw
   repeat' ((conv=>whnf)<;>first|(show di ..;refine bg i aa hlt aa ?_)|(show mq ..;refine row_of _ _ (EE aa hb) rfl ?_)|(show bV ..;refine aH ra i hra aa hlt ?_)|refine Pw ?_|(show aI _ 75 ..;refine LF n Tryz.call75 (λρ w' hw=>rQ w' n hnm.qO hnm.oh) (λu hu fI=> ?_))|refine aX ?_|refine ag ?_ ?_<;>intro _)
   have yJ:u.xs.length<=2:=by rw[hu];exact htf
   refine Wp.loop (σ:=Nat×List Bool) 2 (λ⟨j,nd⟩=>[(0,.c (.slice rb l.length rc)),(1,ax out),(5,.os 1 l.length),(4,.lp 0 0 0 0),(6,ax (((i+1:Nat):Int)-1)),(34,.c u.val),(35,ax u.xs.length),(36,ax j)]) (λ⟨j,nd⟩=>[(1,.rows (vF nd) 1 4),(0,.box [.c (.slice none 0 0),ax 0] 24)]) (λ_=>(aO w).and ((bE u).past w.heap.size))
    (λ⟨j,nd2⟩=>j<=u.xs.length/\nd2.length=l.length/\marks (u.xs.drop j) nd2=marks u.xs nd) (λs=>u.xs.length-s.1) (0,nd) [] aY (λs=>⟨rfl,rfl⟩) ⟨Nat.zero_le _,hnl,rfl⟩ ⟨rfl,⟨rfl,rfl,rfl,rfl,rfl,rfl,rfl,rfl,trivial⟩,bM,λ_ _ h=>h⟩ ?_
   rintro⟨j,nd2⟩ ⟨hj,alo,hmk⟩
   have Xo:=uB nd2
   by_cases hlt2:j<u.xs.length
   ·refine Wp.know (p:=∃a,u.base=some a) (λρ w' hw=>ae hw λR h=>aP (j:=j) (aV ((bE u).mono h.2 (λb hb=>hb.1))) (by rw[aJ];exact hlt2)) ?_
    rintro⟨ua,jD⟩
    have ht:=hti u.xs[j] (by rw[<-hu];exact List.getElem_mem hlt2)
    have hge:=eH hlt2
    rw[List.drop_eq_getElem_cons hlt2,Ww]at hmk
    generalize u.xs[j]=t at*
    refine Wp.go bQ rfl ?_
    repeat' ((conv=>whnf)<;>first|(show bV ..;refine aH ua j jD rfl hlt2 ?_)|(show fT ..;(refine bA (λR w' h=>by rw[<-jD];exact aV ((bE u).mono h.2 (λb hb=>hb.1))) _ _ hge rfl ?_))|(show di ..;refine bg t.toNat aa aa aa ?_)|(show cO ..;refine Ga aa ?_)|refine aX ?_|refine ag ?_ ?_<;>intro _)
    all_goals(conv=>whnf)
    all_goals exact⟨(j+1,nd2.set t.toNat true),[],⟨hlt2,by rw[List.length_set];exact alo,hmk⟩,by simp only;omega,rfl,bM,bM,λ_ _ h=>h⟩
   ·rw[List.drop_of_length_le aa]at hmk
    have hmk:nd2=marks u.xs nd:=hmk
    repeat' ((conv=>whnf)<;>first|(show iL ..;refine ZC (y:=(i:Int)-1) ?_ aa aa aa)|refine aX ?_|refine ag ?_ ?_<;>intro _)
    all_goals(conv=>whnf)
    all_goals exact⟨(i,nd2),[],⟨by omega,alo,by rw[hmk,hu];exact hsw⟩,Nat.lt_succ_self i,rfl,bM,bM,λ_ _ h=>h.1⟩
 |zero=>
  have hsw:nd=Sk (l.map ai.pl) out:=hsw
  repeat' ((conv=>whnf)<;>first|(show mJ ..;(refine jC l.length rfl rfl (by show 8*l.length<=_;omega) aa ?_))|refine aX ?_|refine ag ?_ ?_<;>intro _)
  have hbl:(vF nd).length=l.length:=by rw[uB];exact hnl
  generalize hfin:oW (mO (l.map ai.pl) out) (l.map ai.pl) 0 ([],[])=fin at*
  have hnd:∀j,mO (l.map ai.pl) out j=nd.getD j false:=λj=>by unfold mO;rw[<-hsw]
  refine Wp.loop (σ:=Nat×List ai×List Nat) 5 (λ⟨j,acc,p⟩=>[(1,ax out),(5,.os 1 l.length),(4,.lp 0 0 0 0),(9,.os 2 l.length),(10,.lp 3 0 0 0),(47,.c (.slice rb l.length rc)),(48,ax l.length),(49,ax j)]) (λ⟨j,acc,p⟩=>[(4,.rows (bF acc) 9 41),(3,.box [.os 4 acc.length,ax 0] 24),(2,.rows (aN (qE (eG l.length p))) 1 3),(1,.rows (vF nd) 1 4),(0,.box [.c (.slice none 0 0),ax 0] 24)]) (λ_=>aO w)
   (λ⟨j,acc,p⟩=>j<=l.length/\p.length=j/\acc.length<=j/\(∀n∈acc,n.iJ)/\From l acc/\oW (mO (l.map ai.pl) out) ((l.map ai.pl).drop j) j (acc.map ai.pl,p)=fin/\∀k,p.getD k 0<=1000000) (λs=>l.length-s.1) (0,[],[]) [(4,none)] aY (λs=>⟨rfl,rfl⟩)
   ⟨Nat.zero_le _,rfl,Nat.zero_le _,λn hn=>by simp at hn,λn hn=>by simp at hn,hfin,λk=>Nat.zero_le _⟩ ⟨rfl,⟨rfl,rfl,rfl,rfl,rfl,rfl,rfl,rfl,trivial⟩,⟨rfl,aU,?_,aU,aU,trivial⟩,λ_ _ h=>h⟩ ?_
  ·show(2,bZ.rows (aN (qE (eG l.length []))) 1 3)∈_
   rw[He]
   exact aU
  rintro⟨j,acc,p⟩ ⟨hj,hpl,hal,hao,hfr,hcut,Ky⟩
  have hgl:(aN (qE (eG l.length p))).length=l.length:=by rw[nP,tT aa]
  have hgN:(eG l.length p).length=l.length:=tT aa
  by_cases hlt:j<l.length
  ·have hrow:=bU hlt
   have hxm:=List.getElem_mem hlt
   have hjr:j<(l.map ai.pl).length:=by rw[List.length_map];exact hlt
   have Re:(l.map ai.pl)[j]=l[j].pl:=by simp
   have hxa:=hR.ahead (List.getElem?_eq_getElem hjr)
   rw[List.drop_eq_getElem_cons hjr]at hcut
   rw[Re]at hxa hcut
   generalize l[j]=x at*
   have hxs:=hs x hxm
   have hkx:x.pl.ak=x.ak:=rfl
   rw[EL,hkx,hnd j]at hcut
   have anT:=hxa.a0
   have ak0:=hxa.a1
   have an3:=hxa.b0
   have al8:=hxa.b1
   rw[hkx]at ak0 al8
   rw[show x.pl.a=x.a from rfl]at anT ak0
   rw[show x.pl.b=x.b from rfl]at an3 al8
   by_cases hin:nd.getD j false=true\/x.ak=1
   ·rw[if_pos hin]at hcut
    have hms:∀n∈acc++[dG (eG l.length p) x],n.iJ:=λn hn=>by
     rcases List.mem_append.1 hn with hn|hn
     ·exact hao n hn
     ·rw[List.mem_singleton.1 hn]
      exact Gn hxs (Ua Ky)
    have hmf:From l (acc++[dG (eG l.length p) x]):=Fp hfr hxm
    have Cb:oW (mO (l.map ai.pl) out) ((l.map ai.pl).drop (j+1)) (j+1) ((acc++[dG (eG l.length p) x]).map ai.pl,p++[acc.length])=fin:=by
     rw[List.map_append,List.map_cons,List.map_nil,Ff,Gh (by rw[hpl];exact hxa)]
     simp only[List.length_map]at hcut
     exact hcut
    have hbb:(nd.getD j false=true)\/(nd.getD j false=false/\x.ak=1):=by
     cases h:nd.getD j false with
     |true=>exact .inl rfl
     |false=>exact .inr ⟨rfl,by rw[h]at hin;simpa using hin⟩
    by_cases h12:x.ak=1\/x.ak=2
    ·have e:dG (eG l.length p) x=x:=by unfold dG bJ;rw[if_pos (show x.pl.ak=1\/x.pl.ak=2 from h12)];rfl
     have ht:df x.pl=[]:=by unfold df;rw[if_pos (show x.pl.ak=1\/x.pl.ak=2 from h12)]
     rw[e]at hms hmf Cb
     rcases hbb with hb|⟨hb,hk1⟩
     ·repeat' ((conv=>whnf)<;>first|refine YK ?_|refine Pw ?_|refine Zt ?_|refine ZQ ?_|refine Ow ?_|(show aI _ 75 ..;refine pM x 0 rfl ht Tryz.call75 (λρ w' hw=>rQ w' x hxs.qO hxs.oh) (λu hu yJ fI=> ?_))|refine ah8 ?_|refine Ou ?_|refine Ph ?_|refine aX ?_|refine ag ?_ ?_<;>intro _)
      all_goals(conv=>whnf)
      all_goals exact⟨(j+1,acc++[x],p++[acc.length]),[(4,some 7)],⟨hlt,by rw[List.length_append,List.length_singleton,hpl],by rw[List.length_append,List.length_singleton];omega,hms,hmf,Cb,uE Ky aa⟩,by simp only;omega,rfl,bM,bM,λ_ _ h=>h.1⟩
     ·repeat' ((conv=>whnf)<;>first|refine YK ?_|refine Pw ?_|refine Zt ?_|refine ZQ ?_|refine Ow ?_|(show aI _ 75 ..;refine pM x 0 rfl ht Tryz.call75 (λρ w' hw=>rQ w' x hxs.qO hxs.oh) (λu hu yJ fI=> ?_))|refine ah8 ?_|refine Ou ?_|refine Ph ?_|refine aX ?_|refine ag ?_ ?_<;>intro _)
      all_goals(conv=>whnf)
      all_goals exact⟨(j+1,acc++[x],p++[acc.length]),[(4,some 7)],⟨hlt,by rw[List.length_append,List.length_singleton,hpl],by rw[List.length_append,List.length_singleton];omega,hms,hmf,Cb,uE Ky aa⟩,by simp only;omega,rfl,bM,bM,λ_ _ h=>h.1⟩
    ·have hb:nd.getD j false=true:=hbb.resolve_right (λh=>h12 (.inl h.2))
     by_cases h6:x.ak=6
     ·have e:dG (eG l.length p) x=jJ x ((eG l.length p).getD x.a.toNat 0) ((eG l.length p).getD x.b.toNat 0):=by unfold dG bJ;rw[if_neg (show¬(x.pl.ak=1\/x.pl.ak=2)from h12),if_pos (show x.pl.ak=6 from h6)];rfl
      have ht:df x.pl=[x.a,x.b]:=by unfold df;rw[if_neg (show¬(x.pl.ak=1\/x.pl.ak=2)from h12),if_pos (show x.pl.ak=6 from h6)];rfl
      rw[e]at hms hmf Cb
      repeat' ((conv=>whnf)<;>first|refine YK ?_|refine Pw ?_|refine Zt ?_|refine ZQ ?_|refine Ow ?_|(show aI _ 75 ..;refine pM x 2 rfl ht Tryz.call75 (λρ w' hw=>rQ w' x hxs.qO hxs.oh) (λu hu yJ fI=> ?_))|(show jT _ ((_,.rows (List.take acc.length _++_) _ _)::_) _ _ _;refine jY (ys:=bF (acc++[jJ x ((eG l.length p).getD x.a.toNat 0) ((eG l.length p).getD x.b.toNat 0)])) (m:=(acc++[jJ x ((eG l.length p).getD x.a.toNat 0) ((eG l.length p).getD x.b.toNat 0)]).length) ?_ (mg acc (jJ x ((eG l.length p).getD x.a.toNat 0) ((eG l.length p).getD x.b.toNat 0))) ah3)|refine Ou ?_|refine Ph ?_|refine aX ?_|refine ag ?_ ?_<;>intro _)
      all_goals(conv=>whnf)
      all_goals exact⟨(j+1,acc++[jJ x ((eG l.length p).getD x.a.toNat 0) ((eG l.length p).getD x.b.toNat 0)],p++[acc.length]),[(4,some 7)],⟨hlt,by rw[List.length_append,List.length_singleton,hpl],by rw[List.length_append,List.length_singleton];omega,hms,hmf,Cb,uE Ky aa⟩,by simp only;omega,rfl,bM,bM,λ_ _ h=>h.1⟩
     ·have e:dG (eG l.length p) x=jJ x ((eG l.length p).getD x.a.toNat 0) x.b:=by unfold dG bJ;rw[if_neg (show¬(x.pl.ak=1\/x.pl.ak=2)from h12),if_neg (show¬x.pl.ak=6 from h6)];rfl
      have ht:df x.pl=[x.a]:=by unfold df;rw[if_neg (show¬(x.pl.ak=1\/x.pl.ak=2)from h12),if_neg (show¬x.pl.ak=6 from h6)];rfl
      rw[e]at hms hmf Cb
      repeat' ((conv=>whnf)<;>first|refine YK ?_|refine Pw ?_|refine Zt ?_|refine ZQ ?_|refine Ow ?_|(show aI _ 75 ..;refine pM x 1 rfl ht Tryz.call75 (λρ w' hw=>rQ w' x hxs.qO hxs.oh) (λu hu yJ fI=> ?_))|(show jT _ ((_,.rows (List.take acc.length _++_) _ _)::_) _ _ _;refine jY (ys:=bF (acc++[jJ x ((eG l.length p).getD x.a.toNat 0) x.b])) (m:=(acc++[jJ x ((eG l.length p).getD x.a.toNat 0) x.b]).length) ?_ (mg acc (jJ x ((eG l.length p).getD x.a.toNat 0) x.b)) ah3)|refine Ou ?_|refine Ph ?_|refine aX ?_|refine ag ?_ ?_<;>intro _)
      all_goals(conv=>whnf)
      all_goals exact⟨(j+1,acc++[jJ x ((eG l.length p).getD x.a.toNat 0) x.b],p++[acc.length]),[(4,some 7)],⟨hlt,by rw[List.length_append,List.length_singleton,hpl],by rw[List.length_append,List.length_singleton];omega,hms,hmf,Cb,uE Ky aa⟩,by simp only;omega,rfl,bM,bM,λ_ _ h=>h.1⟩
   ·rw[if_neg hin]at hcut
    have hb:nd.getD j false=false:=by simpa usingλh=>hin (.inl h)
    have hk1:¬x.ak=1:=λh=>hin (.inr h)
    repeat' ((conv=>whnf)<;>first|refine YK ?_|refine Pw ?_|refine Zt ?_|(show mq ..;refine row_of _ _ (EE aa hb) rfl ?_)|refine aX ?_|refine ag ?_ ?_<;>intro _)
    all_goals(conv=>whnf)
    all_goals exact⟨(j+1,acc,p++[0]),[(4,some 4)],⟨hlt,by rw[List.length_append,List.length_singleton,hpl],by omega,hao,hfr,hcut,uE Ky (Nat.zero_le _)⟩,by simp only;omega,rfl,bM,⟨aU,aU,Ml aa aU,aU,aU,trivial⟩,λ_ _ h=>h⟩
  ·obtain rfl:j=l.length:=by omega
   rw[List.drop_of_length_le aa]at hcut
   have hcut:(acc.map ai.pl,p)=fin:=hcut
   have hgp:eG l.length p=p:=by unfold eG;rw[hpl,Nat.sub_self];simp
   have hop:(aN (qE (eG l.length p)))[out]? =some [.int .i64 (p.getD out 0)]:=by rw[hgp];exact qP aa
   repeat' ((conv=>whnf)<;>first|(show di ..;refine bg out rfl ho (Nat.le_of_eq hgl.symm) ?_)|(show mq ..;refine row_of _ _ hop rfl ?_)|refine aX ?_|refine ag ?_ ?_<;>intro _)
   all_goals(conv=>whnf)
   all_goals exact agK (o:=p.getD out 0) (λ_ _ h=>h) rfl aU rfl (by rw[<-hcut]) hfr hao hal (by rw[<-hcut])
end
abbrev aiv:DT:=(eY [0,1,2,3,4,5,106,7,8,9,10,11] .done)
abbrev amy:DT:=(eY [0,1,2,3,4,5,6,7,8,9,10,11,12,13,114,115,116] .done)
abbrev ahK:DT:=(eY [0,1,2,3,4,6,7,8,9,10,105,111,112,13] .done)
theorem pR{l:List Sp}{k:Nat}(h:k<l.length):(d_ l)[k]? =some [.int .i64 (l.getD k (0,0)).1,.int .i64 (l.getD k (0,0)).2]:=by
 rw[yK h,List.getD_eq_getElem?_getD,List.getElem?_eq_getElem h];rfl
theorem adu(w:World)(n:ai)(sh:List (List Int))(s:List Int)(sv:a_)(hs:sv.ok w)(t:au)(cnt:Nat)(h:fu n sh s t.xs cnt)(hl:dX n)(hno:n.ok w)(ht:sv.l[n.a.toNat]? =some t)(ha0:0<=n.a)(b2:Option Addr)(c2:Nat)(acc:List Sp)(hacc:bu w b2 2 (d_ acc))(hlt:n.a.toNat<acc.length)(hbd:cK (acc.getD n.a.toNat (0,0)).1/\cK (acc.getD n.a.toNat (0,0)).2):Calls Tryz.prog 44 #[n.j3,sv.val,.slice b2 acc.length c2] w λe w'=>e= .returned (jy (jg (lC n cnt (bS n t.xs) (acc.getD n.a.toNat (0,0)))))/\Ext w w':=by
 obtain⟨htl,hte⟩:=List.getElem?_eq_some_iff.1 ht
 have htm:t∈sv.l:=hte▸List.getElem_mem htl
 have hto:=hs.each t htm
 obtain⟨a2,ha2⟩:∃a,b2=some a:=aP (j:=n.a.toNat) hacc YL
 obtain⟨sa,hsa⟩:∃a,sv.base=some a:=aP (j:=n.a.toNat) hs.rows (by rw[aW];exact htl)
 have Cc:=pR hlt
 have aeV:(aS sv.l)[n.a.toNat]? =some [t.val]:=by rw[dF htl,hte]
 have hna:n.a=(n.a.toNat:Int):=(Int.toNat_of_nonneg ha0).symm
 have oz:=h.few
 have Sa:∀o,o<cnt->∀g:Nat->Int->Int,(∀k,g k 0=0)->l_ g 0 (iI n t.xs o)=zl g (bS n t.xs o):=λo ho g hg=>Za h hl ho g hg
 have hrl:∀o,o<cnt->(iI n t.xs o).length=(az t.xs).toNat:=λo ho=>YQ h ho
 have hrb:∀o,∀x∈iI n t.xs o,cK x:=λo=>afl h hl o
 obtain⟨nd,nb,_,_,_⟩:=r9 h.node.near
 have hsz:=(dQ t.xs).2
 have ak2:∀w',n.ok w'->t.ok w'->Calls Tryz.prog 91 #[n.j3,t.val] w' (tY w' n t.xs cnt):=λw' h1 h2=>PR w' n sh s t cnt h hl h1 h2
 have hpos:1<=(az t.xs).toNat:=by have:=(h.first hl).2;omega
 have hkind:n.ak=3\/n.ak=4\/n.ak=5:=hl
 have acT:(∀o,o<cnt->(bS n t.xs o).length<=64)/\∀o,o<cnt->∀s∈bS n t.xs o,cK s.1:=by
  obtain⟨F,P0,hL⟩:=h.lin hl
  exact⟨(hL.terms w hto hno).few,(hL.terms w hto hno).bd⟩
 generalize acc.getD n.a.toNat (0,0)=a at*
 obtain⟨ha1,hah⟩:=hbd
 clear hl
 have J4:∀w',Calls Tryz.prog 90 #[.int .i64 n.ak] w' λe w''=>e= .returned (.bool true)/\Ext w' w'':=λw'=>by
  have:=Cs w' n.ak
  rw[decide_eq_true hkind]at this
  exact this
 refine fH Tryz.func44 [.agg (jN n),.c sv.val,.c (.slice b2 acc.length c2)] ?_
 repeat' ((conv=>whnf)<;>first|(show aI _ 90 ..;refine aQ (f:=90) Tryz.call90 (.bool true) (λρ w' hw=>J4 w') ?_)|(show bV ..;(first|refine aH a2 n.a.toNat ha2 hna hlt ?_|refine aH sa n.a.toNat hsa hna htl ?_))|refine X9 ?_|(show fT ..;(refine bA (λR w' h=>by rw[<-hsa];exact aA h hs.rows) _ _ aeV rfl ?_))|(refine age ?_;intro x hx)|(show b_ _ 8 ..;refine lu [] _ aiv ?_)|refine bn ?_|refine ag ?_ ?_<;>intro _)
 all_goals(conv=>whnf)
 have hxc:=hx.count
 refine Wp.know (p:=∃a,x.rows.base=some a) (λρ w' hw=>ae hw λR h=>aP (j:=0) (aV h.2.1) J9) ?_
 rintro⟨xa,hxa⟩
 refine Wp.know (p:=∃a,x.aM.base=some a) (λρ w' hw=>ae hw λR h=>(hx.P7 (w:=w) (hno.later h.1) h.2).base (by rw[hx.aM];simp[uz];omega)) ?_
 rintro⟨ba,hba⟩
 have Re:∀(R:Nat->Prop) w',((aO w).and ((vH x).past w.heap.size)).holds R w'->bu w' (some xa) 1 (aS x.rows.l):=λR w' h=>by rw[<-hxa];exact aV h.2.1
 have hxb:∀(R:Nat->Prop) w',((aO w).and ((vH x).past w.heap.size)).holds R w'->bu w' (some ba) 1 (aN x.aM.xs):=λR w' h=>by rw[<-hba];exact(hx.P7 (w:=w) (hno.later h.1) h.2).rows
 refine Wp.loop (σ:=Nat×Nat) 4 (λ⟨o,m⟩=>[(6,.lp 1 0 0 0),(7,.lp 2 0 0 0),(9,.c x.aM.val),(10,.os 3 m),(56,.c x.rows.val),(57,ax cnt),(58,ax o)]) (λ⟨o,m⟩=>[(3,.rows (aN (nu n cnt o (bS n t.xs) a)) 1 3),(2,.box [ax a.1,ax a.2] 58),(1,.box [ax 0,ax 0] 58)]) (λ_=>(aO w).and ((vH x).past w.heap.size))
  (λ⟨o,m⟩=>o<=cnt/\m=2*o) (λs=>cnt-s.1) (0,0) [(3,none)] aY (λs=>⟨rfl,rfl⟩) ⟨Nat.zero_le _,rfl⟩ ⟨rfl,⟨rfl,rfl,rfl,rfl,rfl,?_,rfl,trivial⟩,⟨rfl,aU,aU,trivial⟩,λ_ _ h=>h⟩ ?_
 ·rw[<-hxc];rfl
 rintro⟨o,m⟩ ⟨ho,hm⟩
 have hml:=yg n cnt (bS n t.xs) a o
 by_cases hlo:o<cnt
 ·have hlx:o<x.rows.l.length:=by omega
  obtain⟨_,hu,hbl,hbv⟩:=hx.row hlx
  have hsn:=AB n cnt o (bS n t.xs) a
  have hbd:=I6 nb cnt o
  have hrow:=dF hlx
  have vY:=List.getElem_mem hlx
  have yJ:=hrl o hlo
  have hub:=hrb o
  have hsu:=Sa o hlo
  generalize x.rows.l[o]=u at*
  rw[<-hu]at yJ hub hsu
  refine Wp.know (p:=∃a,u.base=some a) (λρ w' hw=>ae hw λR h=>(hx.PL (w:=w) (hno.later h.1) h.2 u vY).base aa) ?_
  rintro⟨ua,jD⟩
  have hur:∀(R:Nat->Prop) w',((aO w).and ((vH x).past w.heap.size)).holds R w'->bu w' (some ua) 1 (aN u.xs):=λR w' h=>by rw[<-jD];exact(hx.PL (w:=w) (hno.later h.1) h.2 u vY).rows
  have amz:u.xs.length<=64:=by omega
  repeat' ((conv=>whnf)<;>first|(show bV ..;(first|refine aH xa o hxa rfl hlx ?_|refine aH ba o hba rfl aa ?_))|(show fT ..;(first|refine bA Re _ _ hrow rfl ?_|refine jc hxb (j:=o) aa hbv ?_))|refine bn ?_|refine ag ?_ ?_<;>intro _)
  all_goals(conv=>whnf)
  refine Wp.loop (σ:=Nat×Int×Int) 4 (λ⟨j,lo,hi⟩=>[(6,.lp 1 0 0 0),(7,.lp 2 0 0 0),(9,.c x.aM.val),(10,.os 3 m),(56,.c x.rows.val),(57,ax cnt),(58,ax o),(13,ax lo),(14,ax hi),(71,.c u.val),(72,ax u.xs.length),(73,ax j)]) (λ_=>[(3,.rows (aN (nu n cnt o (bS n t.xs) a)) 1 3),(2,.box [ax a.1,ax a.2] 58),(1,.box [ax 0,ax 0] 58)]) (λ_=>(aO w).and ((vH x).past w.heap.size))
   (λ⟨j,lo,hi⟩=>j<=u.xs.length/\lo=dI n cnt o+l_ (gLo a) 0 (u.xs.take j)/\hi=dI n cnt o+l_ (gHi a) 0 (u.xs.take j)) (λs=>u.xs.length-s.1) (0,dI n cnt o,dI n cnt o) [] aY (λs=>⟨rfl,rfl⟩) ⟨Nat.zero_le _,by simp[l_],by simp[l_]⟩ ⟨rfl,⟨rfl,rfl,rfl,rfl,rfl,rfl,rfl,rfl,rfl,rfl,rfl,rfl,trivial⟩,bM,λ_ _ h=>h⟩ ?_
  rintro⟨j,lo,hi⟩ ⟨hj,hlv,hhv⟩
  by_cases hjl:j<u.xs.length
  ·have s1:=Fw (gLo a) hjl
   have s2:=Fw (gHi a) hjl
   have hG1:∀k v,v∈u.xs-> -1099511627776<=gLo a k v/\gLo a k v<=1099511627776:=λk v hv=>by
    have q1:=gH (A:=1048576) (B:=1048576) (hub v hv) ha1
    have q2:=gH (A:=1048576) (B:=1048576) (hub v hv) hah
    unfold gLo;omega
   have hG2:∀k v,v∈u.xs-> -1099511627776<=gHi a k v/\gHi a k v<=1099511627776:=λk v hv=>by
    have q1:=gH (A:=1048576) (B:=1048576) (hub v hv) ha1
    have q2:=gH (A:=1048576) (B:=1048576) (hub v hv) hah
    unfold gHi;omega
   have b1:=EK (gLo a) (l:=u.xs) (j:=j) aa hG1
   have b2:=EK (gHi a) (l:=u.xs) (j:=j) aa hG2
   have hv:cK (u.xs.getD j 0):=dO hub j
   have q1:=gH (A:=1048576) (B:=1048576) hv ha1
   have q2:=gH (A:=1048576) (B:=1048576) hv hah
   have e1:gLo a j (u.xs.getD j 0)=min (u.xs.getD j 0*a.1) (u.xs.getD j 0*a.2):=rfl
   have e2:gHi a j (u.xs.getD j 0)=max (u.xs.getD j 0*a.1) (u.xs.getD j 0*a.2):=rfl
   clear hG1 hG2 hsu hrl Sa hsn
   unfold cK at hbd
   repeat' ((conv=>whnf)<;>first|(show bV ..;refine aH ua j jD rfl hjl ?_)|(show fT ..;refine bY hur (j:=j) hjl ?_)|refine bn ?_|refine ag ?_ ?_<;>intro _)
   all_goals(conv=>whnf)
   all_goals exact⟨(j+1,_,_),[],⟨hjl,by rw[s1];omega,by rw[s2];omega⟩,by simp only;omega,rfl,⟨rfl,rfl,rfl,rfl,rfl,rfl,rfl,rfl,rfl,rfl,rfl,rfl,trivial⟩,bM,λ_ _ h=>h⟩
  ·have hjz:j=u.xs.length:=Nat.le_antisymm hj (Nat.not_lt.1 hjl)
   subst hjz
   rw[List.take_of_length_le (Nat.le_refl _),hsu _ (afO a),<-Uk]at hlv
   rw[List.take_of_length_le (Nat.le_refl _),hsu _ (aej a),<-Tf]at hhv
   repeat' ((conv=>whnf)<;>first|(show vO ..;(refine gY agd ?_))|(show gP ..;(refine dP ahZ ?_))|refine bn ?_|refine ag ?_ ?_<;>intro _)
   all_goals(conv=>whnf)
   exact⟨(o+1,m+2),[(3,some 5)],⟨hlo,by omega⟩,by simp only;omega,rfl,bM,⟨by
    show(5,bZ.rows (aN (nu n cnt (o+1) (bS n t.xs) a)) 1 3)∈_
    rw[hsn,<-hlv,<-hhv];exact U2 _ _ _ (by rw[hml,hm]),aU,aU,trivial⟩,λ_ _ h=>h⟩
 ·have hoz:o=cnt:=Nat.le_antisymm ho (Nat.not_lt.1 hlo)
  subst hoz
  have hfit:∀x∈nu n o o (bS n t.xs) a,i64 x:=λx hx=>by
   obtain⟨q,hq,hx⟩:=List.mem_flatMap.1 hx
   rw[List.mem_range]at hq
   have g:=Jp ⟨ha1,hah⟩ (l:=bS n t.xs q) (s:=dI n o q) (acT.2 q hq)
   have gf:=acT.1 q hq
   have gb:=I6 nb o q
   unfold cK at gb
   simp only[List.mem_cons,List.not_mem_nil,or_false]at hx
   unfold i64
   rcases hx with rfl|rfl<;>omega
  have hmL:m=(nu n o o (bS n t.xs) a).length:=by omega
  subst hmL
  refine Wp.yI 3 w.heap.size (k:=1) (xs:=aN (nu n o o (bS n t.xs) a)) (T:=3) aU (λR w' h b hb=>(h.1 b hb).1) (λl1 hl1=> ?_)
  rw[aJ]at hl1
  repeat' ((conv=>whnf)<;>first|(show aI _ 89 ..;(refine aQ (f:=89) Tryz.call89 (jy (jg (nu n o o (bS n t.xs) a))) (λρ w' hw=>wY w' ⟨l1.base,l1.cap,nu n o o (bS n t.xs) a⟩ (ae hw λR h=>⟨aV h.2,hfit,hl1,by simp only;omega⟩) (by simp only;omega)) ?_))|refine bn ?_|refine ag ?_ ?_<;>intro _)
  all_goals(conv=>whnf)
  all_goals exact cz (λ_ _ h=>h.1.1) (λ_=>rfl) rfl
theorem ES{x y:Int}(h:x<=y):jg [x,y]=(x,y):=by
 have e1:foldI min [x,y]=min x y:=rfl
 have e2:foldI max [x,y]=max x y:=rfl
 unfold jg
 rw[e1,e2,Int.min_eq_left h,Int.max_eq_right h]
theorem EI{l:List Sp}{k:Nat}(h:k<l.length):l.getD k (0,0)∈l:=by
 rw[List.getD_eq_getElem?_getD,List.getElem?_eq_getElem h];exact List.getElem_mem h
theorem XH(w:World){k:Int}(h:¬(k=3\/k=4\/k=5)):Calls Tryz.prog 90 #[.int .i64 k] w λe w'=>e= .returned (.bool false)/\Ext w w':=by
 have:=Cs w k
 rw[decide_eq_false h]at this
 exact this
theorem Xt(w:World)(n:ai)(sv:a_)(b2:Option Addr)(c2:Nat)(acc:List Sp)(hk:n.ak=1\/n.ak=2\/n.ak=6\/n.ak=7\/n.ak=9)(hno:n.ok w)(nd:∀x∈n.data.xs,cK x)(nle:n.lo<=n.hi)(h2:n.ak=2->1<=n.data.xs.length)(h7:n.ak=7->n.data.xs.length=1)(ha0:0<=n.a)(hb0:0<=n.b)(hacc:bu w b2 2 (d_ acc))(hA:n.ak≠1->n.ak≠2->n.a.toNat<acc.length)(hB:n.ak=6->n.b.toNat<acc.length)(hbd:∀s∈acc,cK s.1/\cK s.2/\s.1<=s.2):Calls Tryz.prog 44 #[n.j3,sv.val,.slice b2 acc.length c2] w λe w'=>e= .returned (jy (jg (fo n (acc.getD n.a.toNat (0,0)) (acc.getD n.b.toNat (0,0)))))/\Ext w w':=by
 have J4:∀w',Calls Tryz.prog 90 #[.int .i64 n.ak] w' λe w''=>e= .returned (.bool false)/\Ext w' w'':=λw'=>XH w' aa
 have hna:n.a=(n.a.toNat:Int):=(Int.toNat_of_nonneg ha0).symm
 have hnb:n.b=(n.b.toNat:Int):=(Int.toNat_of_nonneg hb0).symm
 unfold fo
 rcases hk with hk|hk|hk|hk|hk
 ·rw[if_pos hk,ES nle]
  refine fH Tryz.func44 [.agg (jN n),.c sv.val,.c (.slice b2 acc.length c2)] ?_
  repeat' ((conv=>whnf)<;>first|refine bn ?_|refine ag ?_ ?_<;>intro _)
  all_goals(conv=>whnf)
  all_goals exact cz (λ_ _ h=>h) (λ_=>rfl) rfl
 ·rw[if_neg aa,if_pos hk]
  refine fH Tryz.func44 [.agg (jN n),.c sv.val,.c (.slice b2 acc.length c2)] ?_
  repeat' ((conv=>whnf)<;>first|(show aI _ 89 ..;refine aQ (f:=89) Tryz.call89 (jy (jg n.data.xs)) (λρ w' hw=>wY w' n.data (ae hw λR h=>hno.data.later h) (h2 hk)) ?_)|refine bn ?_|refine ag ?_ ?_<;>intro _)
  all_goals(conv=>whnf)
  all_goals exact cz (λ_ _ h=>h) (λ_=>rfl) rfl
 ·rw[if_neg aa,if_neg aa,if_pos hk]
  have hlt:=hA aa aa
  have ajx:=hB hk
  obtain⟨a2,ha2⟩:∃a,b2=some a:=aP (j:=n.a.toNat) hacc YL
  have Cc:=pR hlt
  have KQ:=pR ajx
  have hmA:=hbd _ (EI hlt)
  have hmB:=hbd _ (EI ajx)
  generalize acc.getD n.a.toNat (0,0)=a at*
  generalize acc.getD n.b.toNat (0,0)=b at*
  obtain⟨p1,p2,p3⟩:=hmA
  obtain⟨q1,q2,q3⟩:=hmB
  rw[ES aa]
  unfold cK at p1 p2 q1 q2
  refine fH Tryz.func44 [.agg (jN n),.c sv.val,.c (.slice b2 acc.length c2)] ?_
  repeat' ((conv=>whnf)<;>first|refine Xe ?_|(show bV ..;(first|refine aH a2 n.a.toNat ha2 hna hlt ?_|refine aH a2 n.b.toNat ha2 hnb ajx ?_))|(show mF ..;(first|refine gL (λR w' h=>by rw[<-ha2];exact aA h hacc) _ Cc rfl ?_|refine gL (λR w' h=>by rw[<-ha2];exact aA h hacc) _ KQ rfl ?_))|refine bn ?_|refine ag ?_ ?_<;>intro _)
  all_goals(conv=>whnf)
  all_goals exact cz (λ_ _ h=>h) (λ_=>rfl) rfl
 ·rw[if_neg aa,if_neg aa,if_neg aa,if_pos hk]
  have hlt:=hA aa aa
  have hd7:=h7 hk
  have hd:=hno.data
  obtain⟨a2,ha2⟩:∃a,b2=some a:=aP (j:=n.a.toNat) hacc YL
  obtain⟨ua,jD⟩:=hd.base aa
  have hur:∀(R:Nat->Prop) w',(aO w).holds R w'->bu w' (some ua) 1 (aN n.data.xs):=λR w' h=>by rw[<-jD];exact aA h hd.rows
  have Cc:=pR hlt
  have hmA:=hbd _ (EI hlt)
  generalize acc.getD n.a.toNat (0,0)=a at*
  obtain⟨p1,p2,p3⟩:=hmA
  have g0:=dO nd 0
  have m1:=gH (A:=1048576) (B:=1048576) g0 p1
  have m2:=gH (A:=1048576) (B:=1048576) g0 p2
  generalize hd0:n.data.xs.getD 0 0=d0 at*
  have hfit:∀x∈[d0*a.1,d0*a.2],i64 x:=λx hx=>by
   simp only[List.mem_cons,List.not_mem_nil,or_false]at hx
   unfold i64
   rcases hx with rfl|rfl<;>omega
  refine fH Tryz.func44 [.agg (jN n),.c sv.val,.c (.slice b2 acc.length c2)] ?_
  repeat' ((conv=>whnf)<;>first|refine Xe ?_|(show bV ..;(first|refine aH a2 n.a.toNat ha2 hna hlt ?_|refine aH ua 0 jD rfl aa ?_))|refine X9 ?_|(show fT ..;refine jc hur (j:=0) aa hd0 ?_)|(show jT ..;refine nV (w0:=w) [d0*a.1,d0*a.2] (λR w' h=>h) rfl rfl hfit fP (λu hu fI=> ?_))|(show aI _ 89 ..;(refine aQ (f:=89) Tryz.call89 (jy (jg [d0*a.1,d0*a.2])) (λρ w' hw=>hu▸wY w' u (ae hw λR h=>bT fI ((bE u).mono h.2 (λb hb=>hb.1))) (by rw[hu];simp)) ?_))|(show b_ _ 28 ..;refine lu [16] _ amy ?_)|refine bn ?_|refine ag ?_ ?_<;>intro _)
  all_goals(conv=>whnf)
  all_goals exact cz (λ_ _ h=>h.1) (λ_=>rfl) rfl
 ·rw[if_neg aa,if_neg aa,if_neg aa,if_neg aa,if_neg aa]
  have hlt:=hA aa aa
  obtain⟨a2,ha2⟩:∃a,b2=some a:=aP (j:=n.a.toNat) hacc YL
  have Cc:=pR hlt
  have hmA:=hbd _ (EI hlt)
  generalize acc.getD n.a.toNat (0,0)=a at*
  rw[ES hmA.2.2]
  refine fH Tryz.func44 [.agg (jN n),.c sv.val,.c (.slice b2 acc.length c2)] ?_
  repeat' ((conv=>whnf)<;>first|refine Xe ?_|(show bV ..;refine aH a2 n.a.toNat ha2 hna hlt ?_)|refine X9 ?_|refine bn ?_|refine ag ?_ ?_<;>intro _)
  all_goals(conv=>whnf)
  all_goals exact cz (λ_ _ h=>h) (λ_=>rfl) rfl
theorem agt{av:List Int}{r:List Int}{j:Nat}:MS av j (r.getD j 0)=r.getD j 0*av.getD j 0:=rfl
theorem XT(w:World)(n:ai)(sh:List (List Int))(s:List Int)(sv:a_)(hs:sv.ok w)(t:au)(cnt:Nat)(h:fu n sh s t.xs cnt)(hl:dX n)(hno:n.ok w)(ht:sv.l[n.a.toNat]? =some t)(ha0:0<=n.a)(kb:Option Addr)(kc:Nat)(kn:List au)(hkr:bu w kb 1 (aS kn))(a:au)(hka:kn[n.a.toNat]? =some a)(hao:a.ok w)(hab:∀x∈a.xs,cK x)(hal:(a.xs.length:Int)=az t.xs):Calls Tryz.prog 76 #[n.j3,sv.val,.slice kb kn.length kc] w (qQ w n (gF n cnt cnt (bS n t.xs) a.xs)):=by
 obtain⟨htl,hte⟩:=List.getElem?_eq_some_iff.1 ht
 obtain⟨hkl,hke⟩:=List.getElem?_eq_some_iff.1 hka
 have htm:t∈sv.l:=hte▸List.getElem_mem htl
 have hto:=hs.each t htm
 obtain⟨ka,hkb⟩:∃a,kb=some a:=aP (j:=n.a.toNat) hkr (by rw[aW];exact hkl)
 obtain⟨sa,hsa⟩:∃a,sv.base=some a:=aP (j:=n.a.toNat) hs.rows (by rw[aW];exact htl)
 have af6:(aS kn)[n.a.toNat]? =some [a.val]:=by rw[dF hkl,hke]
 have aeV:(aS sv.l)[n.a.toNat]? =some [t.val]:=by rw[dF htl,hte]
 have hna:n.a=(n.a.toNat:Int):=(Int.toNat_of_nonneg ha0).symm
 have oz:=h.few
 have Sa:∀o,o<cnt->∀g:Nat->Int->Int,(∀k,g k 0=0)->l_ g 0 (iI n t.xs o)=zl g (bS n t.xs o):=λo ho g hg=>Za h hl ho g hg
 have hrl:∀o,o<cnt->(iI n t.xs o).length=(az t.xs).toNat:=λo ho=>YQ h ho
 have hrb:∀o,∀x∈iI n t.xs o,cK x:=λo=>afl h hl o
 obtain⟨nd,nb,_,_,_⟩:=r9 h.node.near
 have hsz:=(dQ t.xs).2
 have ak2:∀w',n.ok w'->t.ok w'->Calls Tryz.prog 91 #[n.j3,t.val] w' (tY w' n t.xs cnt):=λw' h1 h2=>PR w' n sh s t cnt h hl h1 h2
 have hpos:1<=(az t.xs).toNat:=by have:=(h.first hl).2;omega
 have hkind:n.ak=3\/n.ak=4\/n.ak=5:=hl
 have acT:(∀o,o<cnt->(bS n t.xs o).length<=64)/\∀o,o<cnt->∀s∈bS n t.xs o,cK s.1:=by
  obtain⟨F,P0,hL⟩:=h.lin hl
  exact⟨(hL.terms w hto hno).few,(hL.terms w hto hno).bd⟩
 obtain⟨va,hva⟩:=hao.base aa
 have Yi:∀(R:Nat->Prop) w',(aO w).holds R w'->bu w' (some va) 1 (aN a.xs):=λR w' h=>by rw[<-hva];exact aA h hao.rows
 clear hl
 have J4:∀w',Calls Tryz.prog 90 #[.int .i64 n.ak] w' λe w''=>e= .returned (.bool true)/\Ext w' w'':=λw'=>by
  have:=Cs w' n.ak
  rw[decide_eq_true hkind]at this
  exact this
 refine fH Tryz.func76 [.agg (jN n),.c sv.val,.c (.slice kb kn.length kc)] ?_
 repeat' ((conv=>whnf)<;>first|(show aI _ 90 ..;refine aQ (f:=90) Tryz.call90 (.bool true) (λρ w' hw=>J4 w') ?_)|(show bV ..;(first|refine aH ka n.a.toNat hkb hna hkl ?_|refine aH sa n.a.toNat hsa hna htl ?_))|(show fT ..;(first|refine bA (λR w' h=>by rw[<-hkb];exact aA h hkr) _ _ af6 rfl ?_|refine bA (λR w' h=>by rw[<-hsa];exact aA h hs.rows) _ _ aeV rfl ?_))|(refine age ?_;intro x hx)|(show b_ _ 7 ..;refine lu [] _ aiv ?_)|refine bn ?_|refine ag ?_ ?_<;>intro _)
 all_goals(conv=>whnf)
 have hxc:=hx.count
 refine Wp.know (p:=∃a,x.rows.base=some a) (λρ w' hw=>ae hw λR h=>aP (j:=0) (aV h.2.1) J9) ?_
 rintro⟨xa,hxa⟩
 refine Wp.know (p:=∃a,x.aM.base=some a) (λρ w' hw=>ae hw λR h=>(hx.P7 (w:=w) (hno.later h.1) h.2).base (by rw[hx.aM];simp[uz];omega)) ?_
 rintro⟨ba,hba⟩
 have Re:∀(R:Nat->Prop) w',((aO w).and ((vH x).past w.heap.size)).holds R w'->bu w' (some xa) 1 (aS x.rows.l):=λR w' h=>by rw[<-hxa];exact aV h.2.1
 have hxb:∀(R:Nat->Prop) w',((aO w).and ((vH x).past w.heap.size)).holds R w'->bu w' (some ba) 1 (aN x.aM.xs):=λR w' h=>by rw[<-hba];exact(hx.P7 (w:=w) (hno.later h.1) h.2).rows
 refine Wp.loop (σ:=Nat) 2 (λo=>[(7,.c a.val),(8,.os 1 o),(10,.c x.aM.val),(42,.c x.rows.val),(43,ax cnt),(44,ax o)]) (λo=>[(1,.rows (aN (gF n cnt o (bS n t.xs) a.xs)) 1 3)]) (λ_=>(aO w).and ((vH x).past w.heap.size))
  (λo=>o<=cnt) (λo=>cnt-o) 0 [(1,none)] aY (λs=>⟨rfl,rfl⟩) (Nat.zero_le _) ⟨rfl,⟨rfl,rfl,rfl,rfl,?_,rfl,trivial⟩,⟨rfl,trivial⟩,λ_ _ h=>h⟩ ?_
 ·rw[<-hxc];rfl
 rintro o ho
 have hlen:(gF n cnt o (bS n t.xs) a.xs).length=o:=by simp[gF]
 by_cases hlo:o<cnt
 ·have hlx:o<x.rows.l.length:=by omega
  obtain⟨_,hu,hbl,hbv⟩:=hx.row hlx
  have hsn:gF n cnt (o+1) (bS n t.xs) a.xs=gF n cnt o (bS n t.xs) a.xs++[(bS n t.xs o).foldl (CV a.xs) (dI n cnt o)]:=by unfold gF;rw[List.range_succ,List.map_append];rfl
  have hbd:=I6 nb cnt o
  have hrow:=dF hlx
  have vY:=List.getElem_mem hlx
  have yJ:=hrl o hlo
  have hub:=hrb o
  have hsu:=Sa o hlo
  generalize x.rows.l[o]=u at*
  rw[<-hu]at yJ hub hsu
  refine Wp.know (p:=∃a,u.base=some a) (λρ w' hw=>ae hw λR h=>(hx.PL (w:=w) (hno.later h.1) h.2 u vY).base aa) ?_
  rintro⟨ua,jD⟩
  have hur:∀(R:Nat->Prop) w',((aO w).and ((vH x).past w.heap.size)).holds R w'->bu w' (some ua) 1 (aN u.xs):=λR w' h=>by rw[<-jD];exact(hx.PL (w:=w) (hno.later h.1) h.2 u vY).rows
  have amz:u.xs.length<=64:=by omega
  have aeh:u.xs.length=a.xs.length:=by omega
  repeat' ((conv=>whnf)<;>first|(show bV ..;(first|refine aH xa o hxa rfl hlx ?_|refine aH ba o hba rfl aa ?_))|(show fT ..;(first|refine bA Re _ _ hrow rfl ?_|refine jc hxb (j:=o) aa hbv ?_))|refine bn ?_|refine ag ?_ ?_<;>intro _)
  all_goals(conv=>whnf)
  refine Wp.loop (σ:=Nat×Int) 2 (λ⟨j,v⟩=>[(7,.c a.val),(8,.os 1 o),(10,.c x.aM.val),(42,.c x.rows.val),(43,ax cnt),(44,ax o),(13,ax v),(53,.c u.val),(54,ax u.xs.length),(55,ax j)]) (λ_=>[(1,.rows (aN (gF n cnt o (bS n t.xs) a.xs)) 1 3)]) (λ_=>(aO w).and ((vH x).past w.heap.size))
   (λ⟨j,v⟩=>j<=u.xs.length/\v=dI n cnt o+l_ (MS a.xs) 0 (u.xs.take j)) (λs=>u.xs.length-s.1) (0,dI n cnt o) [] aY (λs=>⟨rfl,rfl⟩) ⟨Nat.zero_le _,by simp[l_]⟩ ⟨rfl,⟨rfl,rfl,rfl,rfl,rfl,rfl,rfl,rfl,rfl,rfl,trivial⟩,⟨aU,trivial⟩,λ_ _ h=>h⟩ ?_
  rintro⟨j,v⟩ ⟨hj,hvv⟩
  by_cases hjl:j<u.xs.length
  ·have s1:=Fw (MS a.xs) hjl
   have hG1:∀k z,z∈u.xs-> -1099511627776<=MS a.xs k z/\MS a.xs k z<=1099511627776:=λk z hz=>gH (A:=1048576) (B:=1048576) (hub z hz) (dO hab k)
   have b1:=EK (MS a.xs) (l:=u.xs) (j:=j) aa hG1
   have hv:cK (u.xs.getD j 0):=dO hub j
   have hv2:cK (a.xs.getD j 0):=dO hab j
   have q1:=gH (A:=1048576) (B:=1048576) hv hv2
   have e1:=agt (av:=a.xs) (r:=u.xs) (j:=j)
   clear hG1 hsu hrl Sa hsn
   unfold cK at hbd
   repeat' ((conv=>whnf)<;>first|(show bV ..;(first|refine aH ua j jD rfl hjl ?_|refine aH va j hva rfl aa ?_))|(show fT ..;(first|refine bY hur (j:=j) hjl ?_|refine bY (λR w' h=>Yi R w' h.1) (j:=j) aa ?_))|refine bn ?_|refine ag ?_ ?_<;>intro _)
   all_goals(conv=>whnf)
   all_goals exact⟨(j+1,_),[],⟨hjl,by rw[s1];omega⟩,by simp only;omega,rfl,⟨rfl,rfl,rfl,rfl,rfl,rfl,rfl,rfl,rfl,rfl,trivial⟩,⟨aU,trivial⟩,λ_ _ h=>h⟩
  ·have hjz:j=u.xs.length:=Nat.le_antisymm hj (Nat.not_lt.1 hjl)
   subst hjz
   rw[List.take_of_length_le (Nat.le_refl _),hsu _ (aat a.xs),<-N8]at hvv
   repeat' ((conv=>whnf)<;>first|refine Zg ?_|(show gP ..;(refine dP (by show(o+1)*8<=140737488355328;omega) ?_))|refine bn ?_|refine ag ?_ ?_<;>intro _)
   all_goals(conv=>whnf)
   exact⟨o+1,[(1,some 3)],hlo,by omega,rfl,bM,⟨by
    show(3,bZ.rows (aN (gF n cnt (o+1) (bS n t.xs) a.xs)) 1 3)∈_
    rw[hsn,<-hvv];exact oO _ _ hlen.symm,trivial⟩,λ_ _ h=>h⟩
 ·have hoz:o=cnt:=Nat.le_antisymm ho (Nat.not_lt.1 hlo)
  subst hoz
  repeat' ((conv=>whnf)<;>first|refine bn ?_|refine ag ?_ ?_<;>intro _)
  all_goals(conv=>whnf)
  refine nW (B:=⟨w,[]⟩) (S:=(aO w).and ((vH x).past w.heap.size)) (λ_ _ h=>h.1) rfl aU hlen.symm (λz hz=> ?_) aa
  obtain⟨q,hq,rfl⟩:=List.mem_map.1 hz
  rw[List.mem_range]at hq
  have g:=P5 hab (l:=bS n t.xs q) (s:=dI n o q) (acT.2 q hq)
  have gf:=acT.1 q hq
  have gb:=I6 nb o q
  unfold cK at gb
  unfold i64
  omega
section
def DZ(d:List Int)(a:Sp):Nat->List Int
 |0=>[]
 |k+1=>DZ d a k++(if a.1<=iR d+((k:Int)-2)/\iR d+((k:Int)-2)<=a.2 then [fA d (iR d+((k:Int)-2))]else [])
theorem D_{d:List Int}{a:Sp}{x:Int}:∀{m:Nat},x∈DZ d a m↔∃k,k<m/\(a.1<=iR d+((k:Int)-2)/\iR d+((k:Int)-2)<=a.2)/\x=fA d (iR d+((k:Int)-2))
 |0=>by simp[DZ]
 |m+1=>by
  unfold DZ
  rw[List.mem_append,D_]
  constructor
  ·rintro(⟨k,h1,h2⟩|h)
   ·exact⟨k,by omega,h2⟩
   ·split at h
    ·rename_i hc
     exact⟨m,by omega,hc,by simpa using h⟩
    ·simp at h
  ·rintro⟨k,h1,h2,h3⟩
   rcases Nat.lt_or_ge k m with hk|hk
   ·exact .inl ⟨k,hk,h2,h3⟩
   ·obtain rfl:k=m:=by omega
    right
    rw[if_pos h2,h3]
    simp
theorem TZ(d:List Int)(a:Sp):∀m,(DZ d a m).length<=m
 |0=>by simp[DZ]
 |m+1=>by
  have:=TZ d a m
  unfold DZ
  rw[List.length_append]
  split<;>simp<;>omega
def wy(d:List Int)(a:Sp):List Int:=[fA d a.1,fA d a.2]++DZ d a 5
variable {d:List Int} {x:Int}
theorem YX{a:Sp}(hz:d.getD 2 0≠0)(h:x∈jd d a):x∈wy d a:=by
 unfold jd at h
 rw[if_neg hz]at h
 unfold wy
 rcases List.mem_append.1 h with h|h
 ·exact List.mem_append_left _ h
 ·refine List.mem_append_right _ (D_.2 ?_)
  obtain⟨v,hv,rfl⟩:=List.mem_map.1 h
  rw[Ec]at hv
  unfold hiI Wd at hv
  refine⟨(v-iR d+2).toNat,by omega,?_⟩
  have e:iR d+(((v-iR d+2).toNat:Int)-2)=v:=by omega
  rw[e]
  exact⟨⟨by omega,by omega⟩,rfl⟩
theorem acY{a:Sp}(hz:d.getD 2 0≠0):jg (wy d a)=jg (jd d a):=by
 have hl1:1<=(wy d a).length:=by simp[wy]
 have hl2:1<=(jd d a).length:=List.length_pos_of_mem j6
 have key:∀x∈wy d a,foldI min (jd d a)<=x/\x<=foldI max (jd d a):=λx hx=>by
  unfold wy at hx
  rcases List.mem_append.1 hx with hx|hx
  ·simp only[List.mem_cons,List.not_mem_nil,or_false]at hx
   rcases hx with rfl|rfl
   ·exact⟨iT j6,iQ j6⟩
   ·exact⟨iT kZ,iQ kZ⟩
  ·obtain⟨k,_,h2,rfl⟩:=D_.1 hx
   exact Kz h2.1 h2.2
 unfold jg
 rw[Prod.mk.injEq]
 exact⟨Int.le_antisymm (iT (YX hz (rV hl2))) (key _ (rV hl1)).1,Int.le_antisymm (key _ (rZ hl1)).2 (iQ (YX hz (rZ hl2)))⟩
theorem aaa{n:ai}(hk:n.ak=8)(a b:Sp):fo n a b=jd n.data.xs a:=by
 unfold fo jd
 rw[if_neg aa,if_neg aa,if_neg aa,if_neg aa,if_pos hk]
theorem adK(hd:∀x∈d,cK x){v:Int}(hv:cK v):i64 (fA d v):=by
 have h:=Rf (dO hd 2) (dO hd 1) (dO hd 0) hv
 have h0:=dO hd 0
 unfold cK at h0
 unfold fA i64
 omega
theorem akT{y q:Int}{K:Int->Prop}(e:x.tdiv y=q)(hy:y≠0)(hx: -4611686018427387904<=x/\x<=4611686018427387904)(h:K q):wK .i64 x y K:=by
 subst e;exact YT hy hx h
theorem afo(w:World)(n:ai)(sv:a_)(b2:Option Addr)(c2:Nat)(acc:List Sp)(b:Sp)(hk:n.ak=8)(hno:n.ok w)(nd:∀x∈n.data.xs,cK x)(h8:n.data.xs.length=3)(ha0:0<=n.a)(hacc:bu w b2 2 (d_ acc))(hlt:n.a.toNat<acc.length)(hbd:cK (acc.getD n.a.toNat (0,0)).1/\cK (acc.getD n.a.toNat (0,0)).2):Calls Tryz.prog 44 #[n.j3,sv.val,.slice b2 acc.length c2] w λe w'=>e= .returned (jy (jg (fo n (acc.getD n.a.toNat (0,0)) b)))/\Ext w w':=by
 have J4:∀w',Calls Tryz.prog 90 #[.int .i64 n.ak] w' λe w''=>e= .returned (.bool false)/\Ext w' w'':=λw'=>XH w' aa
 have hna:n.a=(n.a.toNat:Int):=(Int.toNat_of_nonneg ha0).symm
 have hd:=hno.data
 obtain⟨a2,ha2⟩:∃a,b2=some a:=aP (j:=n.a.toNat) hacc YL
 obtain⟨ua,jD⟩:=hd.base aa
 have hur:∀(R:Nat->Prop) w',(aO w).holds R w'->bu w' (some ua) 1 (aN n.data.xs):=λR w' h=>by rw[<-jD];exact aA h hd.rows
 have Cc:=pR hlt
 rw[aaa hk]
 generalize acc.getD n.a.toNat (0,0)=a at*
 obtain⟨p1,p2⟩:=hbd
 have g0:=dO nd 0
 have g1:=dO nd 1
 have g2:=dO nd 2
 have hpw:∀v,fA n.data.xs v=n.data.xs.getD 2 0*v*v+n.data.xs.getD 1 0*v+n.data.xs.getD 0 0:=λ_=>rfl
 have hfit:∀v,cK v->i64 (fA n.data.xs v):=λv hv=>adK nd hv
 have hps:=acY (d:=n.data.xs) (a:=a)
 have hrl:=TZ n.data.xs a
 have hT:iR n.data.xs=(0-n.data.xs.getD 1 0).tdiv (2*n.data.xs.getD 2 0):=rfl
 have hTb: -1048576<=iR n.data.xs/\iR n.data.xs<=1048576:=by
  have h1:((0-n.data.xs.getD 1 0).tdiv (2*n.data.xs.getD 2 0)).natAbs<=(0-n.data.xs.getD 1 0).natAbs:=by rw[Int.natAbs_tdiv];exact Nat.div_le_self _ _
  rw[hT]
  unfold cK at g1
  omega
 generalize hd0:n.data.xs.getD 0 0=d0 at*
 generalize hd1:n.data.xs.getD 1 0=d1 at*
 generalize hd2:n.data.xs.getD 2 0=d2 at*
 have hpc:∀v w',cK v->Calls Tryz.prog 92 #[.int .i64 d0,.int .i64 d1,.int .i64 d2,.int .i64 v] w' λe w''=>e= .returned (.int .i64 (fA n.data.xs v))/\Ext w' w'':=λv w' hv=>by rw[hpw];exact Ms w' d0 d1 d2 v g0 g1 g2 hv
 have hpe:∀hz:d2=0,jd n.data.xs a=[fA n.data.xs a.1,fA n.data.xs a.2]:=λhz=>by unfold jd;rw[hd2,if_pos hz]
 clear hpw
 refine fH Tryz.func44 [.agg (jN n),.c sv.val,.c (.slice b2 acc.length c2)] ?_
 by_cases hz:d2=0
 ·rw[hpe hz]
  repeat' ((conv=>whnf)<;>first|refine Xe ?_|refine ahx ?_|refine X9 ?_|refine agq ?_|refine ah0 ?_|refine ah5 ?_|(show jT ..;(refine nV (w0:=w) [fA n.data.xs a.1,fA n.data.xs a.2] (λR w' h=>h) rfl rfl (λx hx=>by simp only[List.mem_cons,List.not_mem_nil,or_false]at hx;rcases hx with rfl|rfl;exact hfit _ p1;exact hfit _ p2) fP (λu hu fI=> ?_)))|(show aI _ 89 ..;(refine aQ (f:=89) Tryz.call89 (jy (jg [fA n.data.xs a.1,fA n.data.xs a.2])) (λρ w' hw=>hu▸wY w' u (ae hw λR h=>bT fI ((bE u).mono h.2 (λb hb=>hb.1))) (by rw[hu];simp)) ?_))|(show b_ _ 31 ..;refine lu [] _ ahK ?_)|refine bn ?_|refine ag ?_ ?_<;>intro _)
  all_goals(conv=>whnf)
  all_goals exact cz (λ_ _ h=>h.1) (λ_=>rfl) rfl
 ·rw[<-hps hz]
  repeat' ((conv=>whnf)<;>first|refine Xe ?_|refine ahx ?_|refine X9 ?_|refine agq ?_|refine ah0 ?_|refine ah5 ?_|(show b_ _ 31 ..;refine lu [] _ ahK ?_)|refine bn ?_|refine ag ?_ ?_<;>intro _)
  all_goals(conv=>whnf)
  have p1':=p1
  have p2':=p2
  unfold cK at p1' p2' g1 g2
  refine Wp.loop (σ:=Nat×Int×Nat) 5 (λ⟨k,d,m⟩=>[(6,.lp 1 0 0 0),(7,.lp 2 0 0 0),(18,ax d0),(19,ax d1),(20,ax d2),(21,.os 4 m),(22,ax d)]) (λ⟨k,d,m⟩=>[(4,.rows (aN ([fA n.data.xs a.1,fA n.data.xs a.2]++DZ n.data.xs a k)) 1 3),(2,.box [ax a.1,ax a.2] 58),(1,.box [ax 0,ax 0] 58)]) (λ_=>aO w)
   (λ⟨k,d,m⟩=>k<=5/\d=(k:Int)-2/\m=([fA n.data.xs a.1,fA n.data.xs a.2]++DZ n.data.xs a k).length) (λs=>5-s.1) (0,-2,2) [(4,some 3)] aY (λs=>⟨rfl,rfl⟩) ⟨by decide,rfl,rfl⟩ ⟨rfl,⟨rfl,rfl,rfl,rfl,rfl,rfl,rfl,trivial⟩,bM,λ_ _ h=>h⟩ ?_
  rintro⟨k,d,m⟩ ⟨hk5,hdk,hm⟩
  have hrl2:=hrl k
  by_cases hkl:k<5
  ·have hrs:DZ n.data.xs a (k+1)=DZ n.data.xs a k++(if a.1<=iR n.data.xs+d/\iR n.data.xs+d<=a.2 then [fA n.data.xs (iR n.data.xs+d)]else []):=by rw[hdk];rfl
   have hm7:m<=7:=by rw[hm];simp;omega
   repeat' ((conv=>whnf)<;>first|(show wK ..;refine akT hT.symm aa aa ?_)|(show aI _ 92 ..;refine aQ (f:=92) Tryz.call92 (.int .i64 (fA n.data.xs (iR n.data.xs+d))) (λρ w' hw=>hpc (iR n.data.xs+d) w' ⟨by omega,by omega⟩) ?_)|(show vO ..;(refine gY (by rw[aJ,hm];exact Nat.le_refl _) ?_))|refine ZK ?_|refine bn ?_|refine ag ?_ ?_<;>intro _)
   all_goals(conv=>whnf)
   all_goals first|exact⟨(k+1,_,m+1),[(4,some 6)],⟨hkl,by omega,by rw[hrs,if_pos ⟨by omega,by omega⟩,<-List.append_assoc,List.length_append,<-hm];rfl⟩,by simp only;omega,rfl,⟨rfl,rfl,rfl,rfl,rfl,rfl,rfl,trivial⟩,⟨by
    show(6,bZ.rows (aN ([fA n.data.xs a.1,fA n.data.xs a.2]++DZ n.data.xs a (k+1))) 1 3)∈_
    rw[hrs,if_pos ⟨by omega,by omega⟩,<-List.append_assoc];exact oO _ _ hm,aU,aU,trivial⟩,λ_ _ h=>h⟩|exact⟨(k+1,_,m),[(4,some 4)],⟨hkl,by omega,by rw[hrs,if_neg aa,List.append_nil];exact hm⟩,by simp only;omega,rfl,⟨rfl,rfl,rfl,rfl,rfl,rfl,rfl,trivial⟩,⟨by
    show(4,bZ.rows (aN ([fA n.data.xs a.1,fA n.data.xs a.2]++DZ n.data.xs a (k+1))) 1 3)∈_
    rw[hrs,if_neg aa,List.append_nil];exact aU,aU,aU,trivial⟩,λ_ _ h=>h⟩
  ·have hkz:k=5:=by omega
   subst hkz
   subst hm
   refine Wp.yI 4 w.heap.size (k:=1) (xs:=aN (wy n.data.xs a)) (T:=3) aU (λR w' h b hb=>(h b hb).1) (λl1 hl1=> ?_)
   rw[aJ]at hl1
   have hfits:∀x∈wy n.data.xs a,i64 x:=λx hx=>by
    unfold wy at hx
    rcases List.mem_append.1 hx with hx|hx
    ·simp only[List.mem_cons,List.not_mem_nil,or_false]at hx
     rcases hx with rfl|rfl
     ·exact hfit _ p1
     ·exact hfit _ p2
    ·obtain⟨k,_,h2,rfl⟩:=D_.1 hx
     exact hfit _ ⟨by omega,by omega⟩
   repeat' ((conv=>whnf)<;>first|(show aI _ 89 ..;(refine aQ (f:=89) Tryz.call89 (jy (jg (wy n.data.xs a))) (λρ w' hw=>wY w' ⟨l1.base,l1.cap,wy n.data.xs a⟩ (ae hw λR h=>⟨aV h.2,hfits,hl1,by simp only[wy];simp;omega⟩) (by simp[wy])) ?_))|refine bn ?_|refine ag ?_ ?_<;>intro _)
   all_goals(conv=>whnf)
   all_goals exact cz (λ_ _ h=>h.1) (λ_=>rfl) rfl
end
theorem Qc(w:World)(n:ai)(sv:a_)(kb:Option Addr)(kc:Nat)(kn:List au)(hkr:bu w kb 1 (aS kn))(a b:au)(cnt:Nat)(h:XF w n cnt a b)(hno:n.ok w)(ha0:0<=n.a)(hb0:0<=n.b)(h1:1<=cnt)(hka:n.ak≠2->kn[n.a.toNat]? =some a)(hkb:n.ak=6->kn[n.b.toNat]? =some b):Calls Tryz.prog 76 #[n.j3,sv.val,.slice kb kn.length kc] w (qQ w n (mM n cnt a.xs b.xs)):=by
 have hbd:=Uu h
 obtain⟨hk,oz,hd,hdb,hco,hsc,hpo,ha,hb,hal,hbl,hab,hbb⟩:=h
 have J4:∀w',Calls Tryz.prog 90 #[.int .i64 n.ak] w' λe w''=>e= .returned (.bool false)/\Ext w' w'':=λw'=>XH w' aa
 have hna:n.a=(n.a.toNat:Int):=(Int.toNat_of_nonneg ha0).symm
 have hnb:n.b=(n.b.toNat:Int):=(Int.toNat_of_nonneg hb0).symm
 by_cases hk2:n.ak=2
 ·have hL:mM n cnt a.xs b.xs=n.data.xs:=by
   have hl:=hco hk2
   unfold mM
   apply List.ext_getElem
   ·simp[hl]
   ·intro i g1 g2
    rw[List.getElem_map,List.getElem_range]
    unfold fG
    rw[if_pos hk2,List.getD_eq_getElem?_getD,List.getElem?_eq_getElem g2];rfl
  refine fH Tryz.func76 [.agg (jN n),.c sv.val,.c (.slice kb kn.length kc)] ?_
  repeat' ((conv=>whnf)<;>first|refine bn ?_|refine ag ?_ ?_<;>intro _)
  all_goals(conv=>whnf)
  all_goals exact OP (λ_ _ h=>h) rfl hd.bq hL.symm
 ·have hka:=hka hk2
  have hal:=hal hk2
  obtain⟨hkl,hke⟩:=List.getElem?_eq_some_iff.1 hka
  obtain⟨ka,ahe⟩:∃a,kb=some a:=aP (j:=n.a.toNat) hkr (by rw[aW];exact hkl)
  have af6:(aS kn)[n.a.toNat]? =some [a.val]:=by rw[dF hkl,hke]
  obtain⟨va,hva⟩:=ha.base aa
  have Yi:∀(R:Nat->Prop) w',(aO w).holds R w'->bu w' (some va) 1 (aN a.xs):=λR w' h=>by rw[<-hva];exact aA h ha.rows
  refine fH Tryz.func76 [.agg (jN n),.c sv.val,.c (.slice kb kn.length kc)] ?_
  repeat' ((conv=>whnf)<;>first|refine Xe ?_|(show bV ..;refine aH ka n.a.toNat ahe hna hkl ?_)|(show fT ..;(refine bA (λR w' h=>by rw[<-ahe];exact aA h hkr) _ _ af6 rfl ?_))|refine bn ?_|refine ag ?_ ?_<;>intro _)
  all_goals(conv=>whnf)
  refine Wp.loop (σ:=Nat) 2 (λi=>[(2,.c (.slice kb kn.length kc)),(3,.lp 0 0 0 0),(7,.c a.val),(8,.os 1 i),(75,.c a.val),(76,ax cnt),(77,ax i)]) (λi=>[(1,.rows (aN ((List.range i).map (fG n a.xs b.xs))) 1 3),(0,.box (jN n) 41)]) (λ_=>aO w)
   (λi=>i<=cnt) (λi=>cnt-i) 0 [(1,none)] aY (λs=>⟨rfl,rfl⟩) (Nat.zero_le _) ⟨rfl,⟨rfl,rfl,rfl,rfl,rfl,?_,rfl,trivial⟩,⟨rfl,aU,trivial⟩,λ_ _ h=>h⟩ ?_
  ·rw[<-hal];rfl
  rintro i hi
  have hlen:((List.range i).map (fG n a.xs b.xs)).length=i:=by simp
  by_cases hlt:i<cnt
  ·have hv:cK (a.xs.getD i 0):=dO hab i
   have hsn:(List.range (i+1)).map (fG n a.xs b.xs)=(List.range i).map (fG n a.xs b.xs)++[fG n a.xs b.xs i]:=by rw[List.range_succ,List.map_append];rfl
   have hkk:n.ak=6\/n.ak=7\/n.ak=8\/n.ak=9:=by omega
   rcases hkk with hk6|hk7|hk8|hk9
   ·have hN:fG n a.xs b.xs i=a.xs.getD i 0+b.xs.getD i 0:=by unfold fG;rw[if_neg aa,if_pos hk6]
    have hkb:=hkb hk6
    have hbl:=hbl hk6
    obtain⟨al9,hke2⟩:=List.getElem?_eq_some_iff.1 hkb
    have KQ:(aS kn)[n.b.toNat]? =some [b.val]:=by rw[dF al9,hke2]
    obtain⟨vb,hvb⟩:=hb.base aa
    have hbr:∀(R:Nat->Prop) w',(aO w).holds R w'->bu w' (some vb) 1 (aN b.xs):=λR w' h=>by rw[<-hvb];exact aA h hb.rows
    have hv2:cK (b.xs.getD i 0):=dO hbb i
    unfold cK at hv hv2
    repeat' ((conv=>whnf)<;>first|(show bV ..;(first|refine aH va i hva rfl aa ?_|refine aH ka n.b.toNat ahe hnb al9 ?_|refine aH vb i hvb rfl aa ?_))|(show fT ..;(first|refine bY Yi (j:=i) aa ?_|refine bA (λR w' h=>by rw[<-ahe];exact aA h hkr) _ _ KQ rfl ?_|refine bY hbr (j:=i) aa ?_))|refine Zg ?_|refine aaH ?_|refine bn ?_|refine ag ?_ ?_<;>intro _)
    all_goals(conv=>whnf)
    exact⟨i+1,[(1,some 3)],hlt,by omega,rfl,bM,⟨by
     show(3,bZ.rows (aN ((List.range (i+1)).map (fG n a.xs b.xs))) 1 3)∈_
     rw[hsn,hN];exact oO _ _ hlen.symm,aU,trivial⟩,λ_ _ h=>h⟩
   ·have hN:fG n a.xs b.xs i=a.xs.getD i 0*n.data.xs.getD 0 0:=by unfold fG;rw[if_neg aa,if_neg aa,if_pos hk7]
    have hs7:=hsc hk7
    obtain⟨ud,hud⟩:=hd.base aa
    have hdr:∀(R:Nat->Prop) w',(aO w).holds R w'->bu w' (some ud) 1 (aN n.data.xs):=λR w' h=>by rw[<-hud];exact aA h hd.rows
    have q1:=gH (A:=1048576) (B:=1048576) hv (dO hdb 0)
    repeat' ((conv=>whnf)<;>first|(show bV ..;(first|refine aH va i hva rfl aa ?_|refine aH ud 0 hud rfl aa ?_))|(show fT ..;(first|refine bY Yi (j:=i) aa ?_|refine bY hdr (j:=0) aa ?_))|refine Zg ?_|refine aaH ?_|refine bn ?_|refine ag ?_ ?_<;>intro _)
    all_goals(conv=>whnf)
    exact⟨i+1,[(1,some 3)],hlt,by omega,rfl,bM,⟨by
     show(3,bZ.rows (aN ((List.range (i+1)).map (fG n a.xs b.xs))) 1 3)∈_
     rw[hsn,hN];exact oO _ _ hlen.symm,aU,trivial⟩,λ_ _ h=>h⟩
   ·have hN:fG n a.xs b.xs i=fA n.data.xs (a.xs.getD i 0):=by unfold fG;rw[if_neg aa,if_neg aa,if_neg aa,if_pos hk8]
    have hs8:=hpo hk8
    obtain⟨ud,hud⟩:=hd.base aa
    have hdr:∀(R:Nat->Prop) w',(aO w).holds R w'->bu w' (some ud) 1 (aN n.data.xs):=λR w' h=>by rw[<-hud];exact aA h hd.rows
    have hpc:∀w',Calls Tryz.prog 92 #[.int .i64 (n.data.xs.getD 0 0),.int .i64 (n.data.xs.getD 1 0),.int .i64 (n.data.xs.getD 2 0),.int .i64 (a.xs.getD i 0)] w' λe w''=>e= .returned (.int .i64 (fA n.data.xs (a.xs.getD i 0)))/\Ext w' w'':=λw'=>Ms w' _ _ _ _ (dO hdb 0) (dO hdb 1) (dO hdb 2) hv
    repeat' ((conv=>whnf)<;>first|(show bV ..;(first|refine aH va i hva rfl aa ?_|refine aH ud 0 hud rfl aa ?_|refine aH ud 1 hud rfl aa ?_|refine aH ud 2 hud rfl aa ?_))|(show fT ..;(first|refine bY Yi (j:=i) aa ?_|refine bY hdr (j:=0) aa ?_|refine bY hdr (j:=1) aa ?_|refine bY hdr (j:=2) aa ?_))|(show kE _ 92 ..;refine iU (f:=92) Tryz.call92 (.int .i64 (fA n.data.xs (a.xs.getD i 0))) (λρ w' hw=>hpc w') ?_)|refine Zg ?_|refine aaH ?_|refine bn ?_|refine ag ?_ ?_<;>intro _)
    all_goals(conv=>whnf)
    exact⟨i+1,[(1,some 3)],hlt,by omega,rfl,bM,⟨by
     show(3,bZ.rows (aN ((List.range (i+1)).map (fG n a.xs b.xs))) 1 3)∈_
     rw[hsn,hN];exact oO _ _ hlen.symm,aU,trivial⟩,λ_ _ h=>h⟩
   ·have hN:fG n a.xs b.xs i=a.xs.getD i 0:=by unfold fG;rw[if_neg aa,if_neg aa,if_neg aa,if_neg aa]
    repeat' ((conv=>whnf)<;>first|(show bV ..;refine aH va i hva rfl aa ?_)|(show fT ..;refine bY Yi (j:=i) aa ?_)|refine Zg ?_|refine aaH ?_|refine bn ?_|refine ag ?_ ?_<;>intro _)
    all_goals(conv=>whnf)
    exact⟨i+1,[(1,some 3)],hlt,by omega,rfl,bM,⟨by
     show(3,bZ.rows (aN ((List.range (i+1)).map (fG n a.xs b.xs))) 1 3)∈_
     rw[hsn,hN];exact oO _ _ hlen.symm,aU,trivial⟩,λ_ _ h=>h⟩
  ·have hiz:i=cnt:=Nat.le_antisymm hi (Nat.not_lt.1 hlt)
   subst hiz
   repeat' ((conv=>whnf)<;>first|refine bn ?_|refine ag ?_ ?_<;>intro _)
   all_goals(conv=>whnf)
   exact nW (B:=⟨w,[]⟩) (λ_ _ h=>h) rfl aU hlen.symm (λz hz=>by
    obtain⟨q,hq,rfl⟩:=List.mem_map.1 hz
    have:=hbd q
    unfold i64
    omega) (by simp only[mM,List.length_map,List.length_range];omega)
theorem ac6(w:World)(n:ai)(sh:List (List Int))(s:List Int)(sv:a_)(hs:sv.ok w)(t:au)(cnt:Nat)(h:fu n sh s t.xs cnt)(hno:n.ok w)(ht:sv.l[n.a.toNat]? =some t)(ha0:0<=n.a)(hb0:0<=n.b)(b2:Option Addr)(c2:Nat)(acc:List Sp)(hacc:bu w b2 2 (d_ acc))(hA:n.ak≠1->n.ak≠2->n.a.toNat<acc.length)(hB:n.ak=6->n.b.toNat<acc.length)(hbd:∀s∈acc,cK s.1/\cK s.2/\s.1<=s.2):Calls Tryz.prog 44 #[n.j3,sv.val,.slice b2 acc.length c2] w λe w'=>e= .returned (jy (jg (iE n cnt t.xs (acc.getD n.a.toNat (0,0)) (acc.getD n.b.toNat (0,0)))))/\Ext w w':=by
 obtain⟨nd,nb,nlo,nhi,nle⟩:=r9 h.node.near
 obtain⟨_,_,h7,h8,h2⟩:=nG h.node.form
 have hfo:=dM h.node.form
 have hkind:=hfo.ak
 by_cases hl:dX n
 ·have e3:iE n cnt t.xs (acc.getD n.a.toNat (0,0)) (acc.getD n.b.toNat (0,0))=lC n cnt (bS n t.xs) (acc.getD n.a.toNat (0,0)):=if_pos hl
  rw[e3]
  have hk:n.ak≠1/\n.ak≠2:=by unfold dX at hl;omega
  have hlt:=hA hk.1 hk.2
  have hm:=hbd _ (EI hlt)
  exact adu w n sh s sv hs t cnt h hl hno ht ha0 b2 c2 acc hacc hlt ⟨hm.1,hm.2.1⟩
 ·have e3:iE n cnt t.xs (acc.getD n.a.toNat (0,0)) (acc.getD n.b.toNat (0,0))=fo n (acc.getD n.a.toNat (0,0)) (acc.getD n.b.toNat (0,0)):=if_neg hl
  rw[e3]
  unfold dX at hl
  by_cases hk8:n.ak=8
  ·have hlt:=hA aa aa
   have hm:=hbd _ (EI hlt)
   exact afo w n sv b2 c2 acc _ hk8 hno nd (h8 hk8) ha0 hacc hlt ⟨hm.1,hm.2.1⟩
  ·refine Xt w n sv b2 c2 acc aa hno nd nle (λhk=> ?_) h7 ha0 hb0 hacc hA hB hbd
   have:=h2 hk
   have:=hfo.own (.inr (.inl hk))
   omega
theorem Sr(l:List Sp)(s:Sp){i m:Nat}{T:TypeId}{H:Heap}(hm:m=l.length):(i,bZ.rows (d_ (l++[s])) 2 T)∈(i,bZ.rows (List.take m (d_ l)++[[.int .i64 s.1,.int .i64 s.2]]) 2 T)::H:=by
 subst hm
 rw[show d_ (l++[s])=List.take l.length (d_ l)++[[.int .i64 s.1,.int .i64 s.2]] by rw[List.take_of_length_le acy];simp[d_]]
 exact List.mem_cons_self
theorem yE(w:World)(g:bG)(hg:g.ok w):Calls Tryz.prog 16 #[g.val] w (xH w (bX g)):=by
 refine fH Tryz.func16 [.agg [.c (.slice g.base g.l.length g.cap),ax g.out]] ?_
 repeat' ((conv=>whnf)<;>first|refine aX ?_|refine ag ?_ ?_<;>intro _)
 refine oV (f:=34) (check g) Tryz.call34 (λρ w' hw=>qR w' g (ae hw λR h=>hg.later h)) (λhne=> ?_) (λhe sv hm hsv=> ?_)
 ·have hq:bX g=((check g).1,[]):=if_pos hne
  rw[hq]
  repeat' ((conv=>whnf)<;>first|(show @eZ _ _ _;refine cu hne ?_)|refine aX ?_)
  conv=>whnf
  exact AJ (λ_ _ h=>h) rfl hne (λ_=>rfl)
 have hq:bX g=f_ (check g).2 g.l []:=if_neg (λh=>h he)
 rw[hq]
 obtain⟨hl1,wT,hout,hcl,hin⟩:=iq he
 have hsl:sv.l.length=g.l.length:=by rw[<-hcl,<-hm];simp
 repeat' ((conv=>whnf)<;>first|refine aX ?_|refine ag ?_ ?_<;>intro _)
 refine Wp.loop (σ:=Nat×List Sp) 2 (λ⟨i,acc⟩=>[(4,.c sv.val),(6,.os 1 i),(19,.c (.slice g.base g.l.length g.cap)),(20,ax g.l.length),(21,ax i)]) (λ⟨i,acc⟩=>[(1,.rows (d_ acc) 2 58)]) (λ_=>(aO w).and ((jE sv).past w.heap.size))
  (λ⟨i,acc⟩=>i<=g.l.length/\acc.length=i/\f_ (check g).2 (g.l.drop i) acc=f_ (check g).2 g.l []/\(∀s∈acc,cK s.1/\cK s.2/\s.1<=s.2)) (λs=>g.l.length-s.1) (0,[]) [(1,none)] aY (λs=>⟨rfl,rfl⟩) ⟨Nat.zero_le _,rfl,rfl,λs hs=>by simp at hs⟩ ⟨rfl,⟨rfl,rfl,rfl,rfl,rfl,trivial⟩,⟨rfl,trivial⟩,λ_ _ h=>h⟩ ?_
 rintro⟨i,acc⟩ ⟨hi,hal,hsp,hab⟩
 by_cases hlt:i<g.l.length
 ·obtain⟨a,ha⟩:∃a,g.base=some a:=aP (j:=i) hg.rows Ca
  have hnm:=List.getElem_mem hlt
  obtain⟨s,hs,hni⟩:=hin i g.l[i] (List.getElem?_eq_getElem hlt)
  have hdrop:g.l.drop i=g.l[i]::g.l.drop (i+1):=List.drop_eq_getElem_cons hlt
  rw[hdrop]at hsp
  have hrow:=bU hlt
  have hpi:=xZ he (List.getElem?_eq_getElem hlt)
  generalize g.l[i]=n at*
  have hn:=hg.each n hnm
  obtain⟨⟨ha0,aj7,hai⟩,⟨hb0,Xo,hbi⟩,cnt,hcnt,hpl⟩:=hpi
  have e1:(check g).2.getD i []=s:=by rw[List.getD_eq_getElem?_getD,hs];rfl
  rw[e1]at hcnt hpl
  obtain⟨t,ht,hts⟩:∃t,sv.l[n.a.toNat]? =some t/\t.xs=(check g).2.getD n.a.toNat []:=by
   have hlt2:n.a.toNat<sv.l.length:=by omega
   refine⟨sv.l[n.a.toNat],List.getElem?_eq_getElem hlt2,?_⟩
   rw[<-hm,List.getD_eq_getElem?_getD,List.getElem?_map,List.getElem?_eq_getElem hlt2];rfl
  rw[<-hts]at hpl
  have hfo:=dM hni.form
  have hti:((check g).2.take i).length=i:=by rw[List.length_take,hcl];omega
  have hEq:jb (check g).2 n acc=iE n cnt t.xs (acc.getD n.a.toNat (0,0)) (acc.getD n.b.toNat (0,0)):=by
   unfold jb
   rw[hal,e1,hcnt,hts];rfl
  have hEL:=AU hpl (acc.getD n.a.toNat (0,0)) (acc.getD n.b.toNat (0,0))
  have amv:∀w',sv.ok w'->n.ok w'->∀b2 c2,bu w' b2 2 (d_ acc)->Calls Tryz.prog 44 #[n.j3,sv.val,.slice b2 i c2] w' λe w''=>e= .returned (jy (jg (iE n cnt t.xs (acc.getD n.a.toNat (0,0)) (acc.getD n.b.toNat (0,0)))))/\Ext w' w'':=λw' h1 h2 b2 c2 h3=>by
   rw[<-hal]
   exact ac6 w' n _ s sv h1 t cnt hpl h2 ht ha0 hb0 b2 c2 acc h3 (λk1 k2=>by have:=hfo.a k1 k2;omega) (λk6=>by have:=hfo.b k6;omega) hab
  generalize iE n cnt t.xs (acc.getD n.a.toNat (0,0)) (acc.getD n.b.toNat (0,0))=E at*
  have z1:(jg E).1=foldI min E:=rfl
  have z2:(jg E).2=foldI max E:=rfl
  by_cases hr:foldI min E< -1048576\/1048576<foldI max E
  ·have hq2:f_ (check g).2 (n::g.l.drop (i+1)) acc=(5,[]):=by simp only[f_];rw[hEq,if_pos hr]
   rw[hq2]at hsp
   rw[<-hsp]
   repeat' ((conv=>whnf)<;>first|refine D9 ?_|refine U_ ?_|refine ahJ ?_|refine aX ?_|refine ag ?_ ?_<;>intro _)
   all_goals(conv=>whnf)
   all_goals first|(exfalso;omega)|exact AJ (λ_ _ h=>h.1) rfl aY (λ_=>rfl)
  ·have hq2:f_ (check g).2 (n::g.l.drop (i+1)) acc=f_ (check g).2 (g.l.drop (i+1)) (acc++[(foldI min E,foldI max E)]):=by
    conv=>lhs;unfold f_
    rw[hEq,if_neg hr]
   rw[hq2]at hsp
   have hle:=Lb hEL
   repeat' ((conv=>whnf)<;>first|refine D9 ?_|refine U_ ?_|refine ahJ ?_|(show vO ..;(refine gY (by rw[h_,hal];exact Nat.le_refl _) ?_))|(show gP ..;(refine dP (by show(i+1)*16<=140737488355328;omega) ?_))|refine aX ?_|refine ag ?_ ?_<;>intro _)
   all_goals(conv=>whnf)
   all_goals first|(exfalso;omega)|exact⟨(i+1,acc++[(foldI min E,foldI max E)]),[(1,some 5)],⟨hlt,by rw[List.length_append,hal];rfl,hsp,λs hs=>by
    rcases List.mem_append.1 hs with h|h
    ·exact hab s h
    ·simp at h;subst h;unfold cK;omega⟩,by simp only;omega,rfl,⟨rfl,rfl,rfl,rfl,rfl,trivial⟩,⟨Sr acc (foldI min E,foldI max E) hal.symm,trivial⟩,λ_ _ h=>h⟩
 ·have hiz:i=g.l.length:=by omega
  subst hiz
  rw[List.drop_length]at hsp
  repeat' ((conv=>whnf)<;>first|refine aX ?_|refine ag ?_ ?_<;>intro _)
  conv=>whnf
  exact Ka (l:=acc) (λ_ _ h=>h.1) rfl aU hal.symm (by rw[<-hsp];rfl)
theorem Kc(w:World)(n:ai)(sh:List (List Int))(s:List Int)(sv:a_)(hs:sv.ok w)(t:au)(cnt:Nat)(h:fu n sh s t.xs cnt)(hk1:n.ak≠1)(hno:n.ok w)(ht:sv.l[n.a.toNat]? =some t)(ha0:0<=n.a)(hb0:0<=n.b)(kb:Option Addr)(kc:Nat)(kn:List au)(hkr:bu w kb 1 (aS kn))(a b:au)(hka:n.ak≠2->kn[n.a.toNat]? =some a)(hkb:n.ak=6->kn[n.b.toNat]? =some b)(hao:a.ok w)(hbo:b.ok w)(hab:∀x∈a.xs,cK x)(hbb:∀x∈b.xs,cK x)(hn:NumIn n sh a.xs b.xs):Calls Tryz.prog 76 #[n.j3,sv.val,.slice kb kn.length kc] w (qQ w n (kN n cnt t.xs a.xs b.xs)):=by
 by_cases hl:dX n
 ·have e3:kN n cnt t.xs a.xs b.xs=gF n cnt cnt (bS n t.xs) a.xs:=if_pos hl
  rw[e3]
  have hk2:n.ak≠2:=by unfold dX at hl;omega
  have hal:=hn.KX hk1 hk2
  rw[(h.first hl).1]at hal
  exact XT w n sh s sv hs t cnt h hl hno ht ha0 kb kc kn hkr a (hka hk2) hao hab hal
 ·have e3:kN n cnt t.xs a.xs b.xs=mM n cnt a.xs b.xs:=if_neg hl
  rw[e3]
  obtain⟨_,_,h7,h8,h2⟩:=nG h.node.form
  obtain⟨nd,nb,nlo,nhi,nle⟩:=r9 h.node.near
  obtain⟨q1,q2,q3,q4⟩:=C9 h hl hk1 hn
  exact Qc w n sv kb kc kn hkr a b cnt ⟨q1,h.few.2,hno.data,nd,q2,h7,h8,hao,hbo,q3,q4,hab,hbb⟩ hno ha0 hb0 h.few.1 hka hkb
abbrev Mix:=au×Bool
def an5(N:Nat)(l:List Mix):bN where
 holds R w:=∀p∈l,p.2=false->(Jg N p.1).holds R w
 stable:=λhR hw h p hp e=>(Jg N p.1).stable hR hw (h p hp e)
structure Tm(src:List au)(l:List Mix):Prop where
 bq:∀p∈l,p.1.bq
 old:∀p∈l,p.2=true->p.1∈src
theorem Tm.ok{src:List au}{w w':World}{R:Nat->Prop}{N:Nat}{l:List Mix}(h:Tm src l)(hs:∀u∈src,u.ok w)(hb:(aO w).holds R w')(hm:(an5 N l).holds R w'):∀u∈l.map Prod.fst,u.ok w':=λu hu=>by
 obtain⟨p,hp,rfl⟩:=List.mem_map.1 hu
 cases e:p.2 with
 |true=>exact(hs _ (h.old p hp e)).later hb
 |false=>exact bT (h.bq p hp) ((bE p.1).mono (hm p hp e) (λb hb=>hb.1))
theorem Tm.snoc{src:List au}{l:List Mix}{p:Mix}(h:Tm src l)(hs:p.1.bq)(ho:p.2=true->p.1∈src):Tm src (l++[p]):=by
 refine⟨λq hq=> ?_,λq hq=> ?_⟩
 ·rcases List.mem_append.1 hq with hq|hq
  ·exact h.bq q hq
  ·rw[List.mem_singleton.1 hq];exact hs
 ·rcases List.mem_append.1 hq with hq|hq
  ·exact h.old q hq
  ·rw[List.mem_singleton.1 hq];exact ho
theorem nY(w:World)(m n:ai)(hm:m.ok w)(hn:n.ok w):Calls Tryz.prog 77 #[m.j3,n.j3] w λe w'=>e= .returned (.bool (n_ m.pl n.pl))/\Ext w w':=by
 refine fH Tryz.func77 [.agg [ax m.ak,ax m.a,ax m.b,.c m.ay.val,ax m.lo,ax m.hi,ax m.size,.c m.data.val,.c m.aM.val],.agg (jN n)] ?_
 repeat' ((conv=>whnf)<;>first|(show aI _ 20 [.c m.ay.val,.c n.ay.val] ..;((refine fK (f:=20) Tryz.call20 (decide (m.ay.xs=n.ay.xs)) (λρ w' hw=>qK w' m.ay n.ay (ae hw λR h=>hm.ay.later h) (ae hw λR h=>hn.ay.later h)) ?_ ?_<;>intro _)))|(show aI _ 20 [.c m.data.val,.c n.data.val] ..;((refine fK (f:=20) Tryz.call20 (decide (m.data.xs=n.data.xs)) (λρ w' hw=>qK w' m.data n.data (ae hw λR h=>hm.data.later h) (ae hw λR h=>hn.data.later h)) ?_ ?_<;>intro _)))|(show aI _ 20 [.c m.aM.val,.c n.aM.val] ..;((refine fK (f:=20) Tryz.call20 (decide (m.aM.xs=n.aM.xs)) (λρ w' hw=>qK w' m.aM n.aM (ae hw λR h=>hm.aM.later h) (ae hw λR h=>hn.aM.later h)) ?_ ?_<;>intro _)))|refine aX ?_|refine ag ?_ ?_<;>intro _)
 all_goals(conv=>whnf)
 all_goals exact bf (λ_ _ h=>h) rfl (by simp_all [n_,ai.pl])
section
def qp(g:bG)(u:au):Prop:=u=fQ\/∃n∈g.l,u=n.ay\/u=n.data\/u=n.aM
variable {w:World} {g:bG}
theorem ZV(hg:∀n∈g.l,n.ok w)(u:au)(h:qp g u):u.ok w:=by
 rcases h with rfl|⟨n,hn,rfl|rfl|rfl⟩
 ·exact ER w
 ·exact(hg n hn).ay
 ·exact(hg n hn).data
 ·exact(hg n hn).aM
theorem aju{n:ai}(h:n∈g.l):qp g n.ay/\qp g n.data/\qp g n.aM:=⟨.inr ⟨n,h,.inl rfl⟩,.inr ⟨n,h,.inr (.inl rfl)⟩,.inr ⟨n,h,.inr (.inr rfl)⟩⟩
def KP(P:au->Prop)(N:Nat)(u:au):bN where
 holds R w:=P u\/((bE u).past N).holds R w
 stable:=λhR hw h=>h.imp id (λh=>((bE u).past N).stable hR hw h)
def vT(P:au->Prop)(N:Nat)(n:ai):bN:=(KP P N n.ay).and ((KP P N n.data).and (KP P N n.aM))
def xI(P:au->Prop)(N:Nat)(l:List ai):bN where
 holds R w:=∀n∈l,(vT P N n).holds R w
 stable:=λhR hw h n hn=>(vT P N n).stable hR hw (h n hn)
section
variable {P:au->Prop} {N:Nat}
theorem afW(P:au->Prop)(N:Nat)(R:Nat->Prop)(w:World):(xI P N []).holds R w:=λn hn=>by simp at hn
variable {l:List ai} {R:Nat->Prop}
theorem uF{n:ai}(h:(xI P N l).holds R w)(hn:(vT P N n).holds R w):(xI P N (l++[n])).holds R w:=λm hm=>by
 rcases List.mem_append.1 hm with hm|hm
 ·exact h m hm
 ·rw[List.mem_singleton.1 hm];exact hn
variable {w0 w':World} {u:au}
theorem Qz(hP:∀u,P u->u.ok w0)(hs:u.bq)(hb:(aO w0).holds R w')(h:(KP P N u).holds R w'):u.ok w':=by
 rcases h with h|h
 ·exact(hP u h).later hb
 ·exact bT hs ((bE u).mono h (λb hb=>hb.1))
theorem uC{n:ai}(hP:∀u,P u->u.ok w0)(hs:n.iJ)(hb:(aO w0).holds R w')(h:(vT P N n).holds R w'):n.ok w':=
 ⟨Qz hP hs.ay hb h.1,Qz hP hs.data hb h.2.1,Qz hP hs.aM hb h.2.2,hs.jK,hs.qO,hs.oh,hs.kH,hs.kJ,hs.jM⟩
theorem yf(hP:∀u,P u->u.ok w0)(hs:∀n∈l,n.iJ)(hb:(aO w0).holds R w')(h:(xI P N l).holds R w'):∀n∈l,n.ok w':=λn hn=>uC hP (hs n hn) hb (h n hn)
theorem xU{n m:ai}(h:P n.ay/\P n.data/\P n.aM)(e1:m.ay=n.ay)(e2:m.data=n.data)(e3:m.aM=n.aM)(R:Nat->Prop)(w:World):(vT P N m).holds R w:=by
 refine⟨?_,?_,?_⟩
 ·rw[e1];exact .inl h.1
 ·rw[e2];exact .inl h.2.1
 ·rw[e3];exact .inl h.2.2
theorem J_{n:ai}{sv:a_}{x:au×Bool}(hn:P n.data)(h0:P fQ)(hu:u∈sv.l)(hx:x.2=true->x.1=n.data)(h1:((jE sv).past N).holds R w)(h2:((abH x).past N).holds R w):(vT P N (fZ u x.1)).holds R w:=by
 refine⟨.inr (h1.2 u hu),?_,.inl h0⟩
 show(KP P N x.1).holds R w
 cases hb:x.2 with
 |true=>rw[hx hb];exact .inl hn
 |false=>exact .inr (h2 hb)
end
theorem NZ{n x:aT}:∀{l:List aT} {k:Nat},xm n (l++[x]) k=match xm n l k with|some i=>some i|none=>if n_ x n=true then some (k+l.length)else none
 |[],k=>by simp[xm]
 |y::r,k=>by
  rw[List.cons_append,EF,EF]
  split
  ·rfl
  ·rw[NZ]
   have:k+1+r.length=k+(y::r).length:=by simp only[List.length_cons];omega
   rw[this]
def uQ(n:aT)(row:List aT)(j:Nat):Int:=if n.ak=1 then-1 else M5 n (row.take j)
theorem x_(n:aT)(row:List aT):uQ n row 0= -1:=by
 unfold uQ
 split
 ·rfl
 ·rfl
variable {x:aT} {row:List aT} {j:Nat}
theorem UQ{n:aT}(hx:row[j]? =some x):uQ n row (j+1)=if 0<=uQ n row j then uQ n row j else if n.ak=1 then-1 else if n_ x n=true then(j:Int)else-1:=by
 unfold uQ
 by_cases h1:n.ak=1
 ·rw[if_pos h1,if_neg aa,if_pos h1]
 ·rw[if_neg h1,if_neg h1,if_neg h1]
  obtain⟨hj,he⟩:=List.getElem?_eq_some_iff.1 hx
  have e:row.take (j+1)=row.take j++[x]:=by rw[List.take_add_one,hx];rfl
  rw[e]
  unfold M5
  rw[NZ]
  have hl:(row.take j).length=j:=by rw[List.length_take];omega
  cases xm n (row.take j) 0 with
  |some k=>simp
  |none=>
   by_cases hs:n_ x n=true<;>simp[hs,hl]
theorem ajf(n:aT)(row:List aT)(j:Nat): -1<=uQ n row j/\uQ n row j<0\/0<=uQ n row j/\uQ n row j<j/\n.ak≠1:=by
 unfold uQ
 split
 ·left;omega
 ·rename_i h1
  unfold M5
  cases h:xm n (row.take j) 0 with
  |none=>left;simp
  |some k=>
   right
   obtain⟨_,h2⟩:=FB h
   have:=(List.getElem?_eq_some_iff.1 h2).1
   rw[Nat.sub_zero,List.length_take]at this
   show(0:Int)<=(k:Int)/\(k:Int)<(j:Int)/\_
   exact⟨by omega,by omega,h1⟩
theorem AC{n:aT}(hj:j=row.length):uQ n row j=match kr row n with|some k=>(k:Int)|none=> -1:=by
 subst hj
 unfold uQ kr
 split
 ·rfl
 ·rw[List.take_length];rfl
variable {sh:List (List Int)} {s:List Int}
theorem acN{n:ai}{t:List Int}{cnt:Nat}(h:fu n.pl.jh sh s t cnt):fu n sh s t cnt:=
 ⟨⟨by rw[<-ZA];exact h.node.form,h.node.ay,by rw[<-YP];exact h.node.near⟩,h.cnt,h.pos,h.first⟩
theorem ae3{n:ai}{a b:List Int}(h:NumIn n.pl.jh sh a b):NumIn n sh a b:=⟨h.KX,h.abd⟩
variable {w':World} {nS:List au}
theorem Ei{row:List ai}{fM:List Sp}{M:ai}(hR:d9 (row.map ai.pl) (nS.map au.xs) fM)(hm:ja M.pl.jh (nS.map au.xs) s)(hk:gU (row.map ai.pl) M.pl=true)(sv':a_)(hl:sv'.l=nS)(hs:sv'.ok w')(hM:M.ok w')(hrow:∀z∈row,z.ok w')(kb:Option Addr)(kc:Nat)(hkr:bu w' kb 1 (aS (row.map ai.data))):Calls Tryz.prog 76 #[M.j3,sv'.val,.slice kb row.length kc] w' (qQ w' M (kR s (row.map ai.pl) M.pl)):=by
 have hKn:=zO hR hm hk
 have hah:=lS hm.form
 have hla:M.a.toNat<row.length:=by have:=hKn.H_;rwa[List.length_map]at this
 have eA:(row.map ai.pl).getD M.pl.a.toNat dB=row[M.a.toNat].pl:=zU hla
 have hsl:nS.length=row.length:=by have:=hR.wE;simpa using this
 have hls:M.a.toNat<nS.length:=by omega
 have htx:gD (nS.map au.xs) M.pl.a.toNat=nS[M.a.toNat].xs:=by
  unfold gD
  rw[List.getD_eq_getElem?_getD,List.getElem?_map]
  show(Option.map au.xs nS[M.a.toNat]?).getD []=_
  rw[List.getElem?_eq_getElem hls];rfl
 have hpl:=Lg hm hR.pos
 rw[htx]at hpl
 have hpl:=acN (n:=M) hpl
 have ht:sv'.l[M.a.toNat]? =some nS[M.a.toNat]:=by rw[hl];exact List.getElem?_eq_getElem hls
 have hkl:(row.map ai.data).length=row.length:=List.length_map _
 have gt:∀k (h:k<row.length),(row.map ai.data)[k]? =some row[k].data:=λk h=>by rw[List.getElem?_map,List.getElem?_eq_getElem h];rfl
 have hn:=ae3 (n:=M) (Uc hR hKn)
 have cA:=DW hR hKn.H_ hKn.aK
 rw[eA]at hn cA
 have hab:∀x∈row[M.a.toNat].data.xs,cK x:=cA.2.2.2.1
 by_cases h6:M.ak=6
 ·have hlb:M.b.toNat<row.length:=by have:=hKn.Zh h6;rwa[List.length_map]at this
  have eB:(row.map ai.pl).getD M.pl.b.toNat dB=row[M.b.toNat].pl:=zU hlb
  have cB:=DW hR (hKn.Zh h6) (hKn.bK h6)
  have eb:Js (row.map ai.pl) M.pl=row[M.b.toNat].data.xs:=by
   unfold Js
   rw[if_pos (show M.pl.ak=6 from h6),eB];rfl
  rw[eB]at cB
  rw[eb]at hn
  have:=Kc w' M _ s sv' hs nS[M.a.toNat] _ hpl hKn.ak.1 hM ht hah.a0 hah.b0 kb kc (row.map ai.data) hkr row[M.a.toNat].data row[M.b.toNat].data (λ_=>gt _ hla) (λ_=>gt _ hlb) (hrow _ (List.getElem_mem hla)).data (hrow _ (List.getElem_mem hlb)).data hab cB.2.2.2.1 hn
  rw[hkl]at this
  have e:kR s (row.map ai.pl) M.pl=kN M (az s).toNat nS[M.a.toNat].xs row[M.a.toNat].data.xs row[M.b.toNat].data.xs:=by
   unfold kR
   rw[YJ,if_pos (show M.pl.ak=6 from h6),eA,eB,<-htx,cA.1];rfl
  rw[e];exact this
 ·have hnil:NumIn M (nS.map au.xs) row[M.a.toNat].data.xs fQ.xs:=⟨hn.KX,λh=>absurd h h6⟩
  have:=Kc w' M _ s sv' hs nS[M.a.toNat] _ hpl hKn.ak.1 hM ht hah.a0 hah.b0 kb kc (row.map ai.data) hkr row[M.a.toNat].data fQ (λ_=>gt _ hla) (λh=>absurd h h6) (hrow _ (List.getElem_mem hla)).data (ER w') hab (λx hx=>by simp[fQ]at hx) hnil
  rw[hkl]at this
  have e:kR s (row.map ai.pl) M.pl=kN M (az s).toNat nS[M.a.toNat].xs row[M.a.toNat].data.xs fQ.xs:=by
   unfold kR
   rw[YJ,if_neg (show¬M.pl.ak=6 from h6),eA,<-htx,cA.1];rfl
  rw[e];exact this
theorem Tw(l:List au)(u:au):List.take l.length (aS l)++[[u.val]]=aS (l++[u]):=by
 rw[Gq,List.take_of_length_le Su]
variable {l:List ai}
theorem uK{x:ai}(h:∀n∈l,n.iJ)(hx:x.iJ):∀n∈l++[x],n.iJ:=λn hn=>by
 rcases List.mem_append.1 hn with hn|hn
 ·exact h n hn
 ·rw[List.mem_singleton.1 hn];exact hx
theorem Bd{l m:List au}{x:au}(h:∀n∈l,n∈m)(hx:x∈m):∀n∈l++[x],n∈m:=λn hn=>by
 rcases List.mem_append.1 hn with hn|hn
 ·exact h n hn
 ·rw[List.mem_singleton.1 hn];exact hx
variable {u:au}
theorem xu{l:List aT}{sp:List Sp}{i:Nat}{row:List ai}{st:List Nat}{n:aT}{X:ai}(hL:d9 l sh sp)(hT:sO l sh sp i (row.map ai.pl) st)(hn:l[i]? =some n)(hcr:eX ((row.map ai.pl).map aT.jh) []=(0,nS.map au.xs))(hX:jZ (gD sh i) (row.map ai.pl) (bJ st n)=X.pl)(hu:u.xs=gD sh i):
 (∀k,kr (row.map ai.pl) X.pl=some k->sO l sh sp (i+1) (row.map ai.pl) (st++[k]))/\(kr (row.map ai.pl) X.pl=none->sO l sh sp (i+1) ((row++[X]).map ai.pl) (st++[row.length])/\eX (((row++[X]).map ai.pl).map aT.jh) []=(0,(nS++[u]).map au.xs)):=by
 have hT':=hT.step hL hn
 unfold pg Cy at hT'
 simp only at hT'
 rw[hX]at hT'
 refine⟨λk hf=> ?_,λhf=> ?_⟩
 ·rw[hf]at hT'
  exact hT'
 ·rw[hf]at hT'
  obtain⟨dY,fM,hR,hS⟩:=hT.ok
  obtain rfl:dY=nS.map au.xs:=by have:=hR.eX;rw[hcr,Prod.mk.injEq]at this;exact this.2.symm
  have FQ:=hT.len
  have hn':l[st.length]? =some n:=by rw[FQ];exact hn
  obtain⟨hm,ht⟩:=P9 hL hR hS hn'
  have TH:=(hL.span _ _ hn').2
  rw[FQ]at hm ht TH
  rw[hX]at hm ht
  have hR':=hR.snoc hm Wj Wj
  have e1:(row++[X]).map ai.pl=row.map ai.pl++[X.pl]:=by simp
  have e2:(nS++[u]).map au.xs=nS.map au.xs++[gD sh i]:=by simp[hu]
  rw[e1,e2]
  refine⟨?_,hR'.eX⟩
  simp only[List.length_map]at hT'
  exact hT'
def AX(g:bG)(w:World)(r:Int)(x:List aT×Nat)(e:Ending)(w':World):Prop:=
 (r≠0/\e= .returned (.tuple #[.agg #[.slice none 0 0,.int .i64 0],.int .i64 r])/\Ext w w')\/
 (r=0/\∃(l:List ai) (base:Option Addr) (cap:Nat),l.map ai.pl=x.1/\(∀n∈l,n.iJ)/\l.length<=24/\e= .returned (.tuple #[.agg #[.slice base l.length cap,.int .i64 x.2],.int .i64 0])/\Ext w w'/\
   (fC base 9 (bF l)).holds (λb=>w.heap.size<=b/\b<w'.heap.size) w'/\(xI (qp g) w.heap.size l).holds (λb=>b<w'.heap.size) w')
end
end Go.Proofs.YtgndjjdeopfdkaaGreat

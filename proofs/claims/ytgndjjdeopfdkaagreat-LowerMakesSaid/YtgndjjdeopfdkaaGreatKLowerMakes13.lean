import Derived.DeepKeys
import Derived.Test.YtgndjjdeopfdkaaGreatKLowerMakes12
/- texts NT UN of the proof of LowerMakesSaid -/
set_option maxHeartbeats 16000000
set_option maxRecDepth 20000
set_option linter.unusedVariables false
set_option linter.unusedSimpArgs false
namespace Go.Proofs.YtgndjjdeopfdkaaGreat
open Go.SX Go.RowKit
section
abbrev ail:DT:=(eY [0,1,2,3,5,6,104,107,8,109] .done)
theorem Rw{k:Nat}(h:k<=1000000):i64 (k:Int):=by unfold i64;omega
variable {X:ai} {x:aT} {row:List aT} {j:Nat} {f:Int}
theorem xJ(hx:row[j]? =some x)(hf:f=uQ X.pl row j)(h:0<=f\/X.ak=1\/n_ x X.pl=false):f=uQ X.pl row (j+1):=by
 have hl:=ajf X.pl row j
 rw[UQ hx,<-hf]
 rw[<-hf]at hl
 by_cases h0:0<=f
 ·rw[if_pos h0]
 ·rw[if_neg h0]
  by_cases h1:X.pl.ak=1
  ·rw[if_pos h1];omega
  ·have h2:=(h.resolve_left h0).resolve_left h1
   rw[if_neg h1,if_neg (by rw[h2];decide)];omega
theorem xW(hx:row[j]? =some x)(hf:f=uQ X.pl row j)(h0:f<0)(h1:X.ak≠1)(h2:n_ x X.pl=true):(j:Int)=uQ X.pl row (j+1):=by
 rw[UQ hx,<-hf,if_neg aa,if_neg (show¬X.pl.ak=1 from h1),if_pos h2]
variable {H:Heap} {S:bN} {nx:Nat}
theorem Wq{cx:Cx}{f:FuncId}{args:List SV}{K:SV->Heap->bN->Nat->Prop}{row:List ai}{x:List aT×List Nat}{out:Nat}(hf:∀ar w,(callFunc f ar).run cx.P w= .ok (.enter f ar) w)
 (hc:∀ρ w',eD cx.B ρ nx H S w'->Calls cx.P f (SV.eO ρ args).toArray w' (PV w' row x out))
 (h:∀(l:List ai) base cap,l.map ai.pl=x.1->From row l->(∀n∈l,n.iJ)->l.length<=row.length->K (.c (.agg #[.slice base l.length cap,.int .i64 (x.2.getD out 0:Nat)])) H (S.and ((fC base 9 (bF l)).past cx.B.w0.heap.size)) nx):aI cx f args H S nx K:=
 gX hf (λy:List ai×Option Addr×Nat=> .agg #[.slice y.2.1 y.1.length y.2.2,.int .i64 (x.2.getD out 0:Nat)]) (λy=>fC y.2.1 9 (bF y.1)) (λy=>y.1.map ai.pl=x.1/\From row y.1/\(∀n∈y.1,n.iJ)/\y.1.length<=row.length) (λρ w' hw=>(hc ρ w' hw).mono λe w'' he=>by
  obtain⟨l,base,cap,h1,h2,h3,h4,h5,h6,h7⟩:=he
  exact⟨(l,base,cap),⟨h1,h2,h3,h4⟩,h5,h6,h7⟩) (λy hy=>h y.1 y.2.1 y.2.2 hy.1 hy.2.1 hy.2.2.1 hy.2.2.2)
theorem aaO{B:Base}{w:World}{g:bG}{l row:List ai}{base:Option Addr}{cap o:Nat}{r:Int}{x:List aT×Nat}(hw0:B.w0=w)(hb:∀R w',S.holds R w'->(aO w).holds R w')(hrw:∀R w',S.holds R w'->(xI (qp g) w.heap.size row).holds R w')(hD:∀R w',S.holds R w'->((fC base 9 (bF l)).past w.heap.size).holds R w')(hfr:From row l)(hs:∀n∈l,n.iJ)(h24:l.length<=24)(hr:r=0)(hx:x=(l.map ai.pl,o)):
 jI B (.sN [.agg [.c (.slice base l.length cap),ax o],ax 0]) H S nx (AX g w r x):=by
 subst hw0 hr hx
 refine dH λρ w' hw=> .inr ⟨rfl,l,base,cap,rfl,hs,h24,rfl,aZ hw hb,oC hw hD,λn hn=> ?_⟩
 obtain⟨R,φ,oo⟩:=hw
 have hk:=hrw R w' oo.tq
 obtain⟨k,hkm,e1,e2,e3⟩:=hfr n hn
 have hm:=(vT (qp g) B.w0.heap.size k).stable (R':=λb=>b<w'.heap.size) (w':=w') (λb hb=>oo.ro b hb) (λ_ _=>rfl) (hk k hkm)
 unfold vT at hm|-
 rw[e1,e2,e3]
 exact hm
theorem TJ(w:World)(g:bG)(hg:g.ok w):Calls Tryz.prog 33 #[g.val] w (AX g w (bX g).1 (kD (g.l.map ai.pl) (check g).2 g.out.toNat)):=by
 refine fH Tryz.func33 [.agg [.c (.slice g.base g.l.length g.cap),ax g.out]] ?_
 repeat' ((conv=>whnf)<;>first|refine aX ?_|refine ag ?_ ?_<;>intro _)
 refine nK (f:=16) (bX g) Tryz.call16 (λρ w' hw=>yE w' g (ae hw λR h=>hg.later h)) (λhne=> ?_) (λhsp qb qc=> ?_)
 ·repeat' ((conv=>whnf)<;>first|(show @eZ _ _ _;refine cu hne ?_)|refine aX ?_)
  conv=>whnf
  exact dH λρ w' hw=> .inl ⟨hne,rfl,aZ hw (λ_ _ h=>h)⟩
 obtain⟨hck,hsl,hsi⟩:=jw hsp
 obtain⟨hl1,wT,hout,hcl,hin⟩:=iq hck
 have hL:=zS hsp
 have hP:=ZV hg.each
 repeat' ((conv=>whnf)<;>first|refine aX ?_|refine ag ?_ ?_<;>intro _)
 refine oV (f:=34) (check g) Tryz.call34 (λρ w' hw=>qR w' g (ae hw λR h=>hg.later h.1)) (λhne=>absurd hck hne) (λ_ sv hm hsv=> ?_)
 have an0:sv.l.length=g.l.length:=by rw[<-hcl,<-hm];simp
 repeat' ((conv=>whnf)<;>first|refine aX ?_|refine ag ?_ ?_<;>intro _)
 refine Wp.loop (σ:=Nat×List ai×List au×List Nat) 5 (λ⟨i,row,nS,st⟩=>[(1,.lp 0 0 0 0),(2,.lp 1 0 0 0),(6,.c sv.val),(8,.os 2 row.length),(9,.os 3 nS.length),(10,.os 4 st.length),(37,.c (.slice g.base g.l.length g.cap)),(38,ax g.l.length),(39,ax i)])
  (λ⟨i,row,nS,st⟩=>[(4,.rows (aN (qE st)) 1 3),(3,.rows (aS nS) 1 32),(2,.rows (bF row) 9 41),(1,.box [.c (.slice none 0 0),ax 0] 24),(0,.box [.c (.slice g.base g.l.length g.cap),ax g.out] 24)])
  (λ⟨_,row,_,_⟩=>((aO w).and ((jE sv).past w.heap.size)).and (xI (qp g) w.heap.size row))
  (λ⟨i,row,nS,st⟩=>i<=g.l.length/\(∀x∈row,x.iJ)/\(∀u∈nS,u∈sv.l)/\sO (g.l.map ai.pl) (check g).2 (bX g).2 i (row.map ai.pl) st/\eX ((row.map ai.pl).map aT.jh) []=(0,nS.map au.xs)) (λs=>g.l.length-s.1) (0,[],[],[]) [(2,none),(3,none),(4,none)] aY (λs=>⟨rfl,rfl⟩)
  ⟨Nat.zero_le _,λn hn=>by simp at hn,λn hn=>by simp at hn,yS _ _ _,rfl⟩ ⟨rfl,⟨rfl,rfl,rfl,rfl,rfl,rfl,rfl,rfl,rfl,trivial⟩,⟨rfl,rfl,rfl,aU,aU,trivial⟩,λR w' h=>⟨⟨h.1.1,h.2⟩,afW _ _ R w'⟩⟩ ?_
 rintro⟨i,row,nS,st⟩ ⟨hi,hsn,zk,hT,hcr⟩
 by_cases hlt:i<g.l.length
 ·obtain⟨a,ha⟩:∃a,g.base=some a:=aP (j:=i) hg.rows Ca
  have hrow:=bU hlt
  have hnm:=List.getElem_mem hlt
  have VW:(g.l.map ai.pl)[i]? =some g.l[i].pl:=by rw[List.getElem?_map,List.getElem?_eq_getElem hlt];rfl
  generalize g.l[i]=n at*
  have hno:=hg.each n hnm
  have hPn:=aju hnm
  have WB:=hL.ahead VW
  have FQ:=hT.len
  have hkl:=hT.few
  rw[List.length_map]at hkl
  obtain⟨dY,fM,hR,hS⟩:=hT.ok
  obtain rfl:dY=nS.map au.xs:=by have:=hR.eX;rw[hcr,Prod.mk.injEq]at this;exact this.2.symm
  have adD:(g.l.map ai.pl)[st.length]? =some n.pl:=by rw[FQ];exact VW
  obtain⟨hmv,X5⟩:=Mg hL hR hS adD
  have TH:=(hL.span _ _ adD).2
  have hT':=hT.step hL VW
  rw[FQ]at hmv X5 TH
  have ali:nS.length=row.length:=by have:=hR.wE;simpa using this
  have aeh:i<sv.l.length:=by omega
  have af5:=dF aeh
  have vY:=List.getElem_mem aeh
  have fI:sv.l[i].xs=gD (check g).2 i:=by
   unfold gD
   rw[<-hm,List.getD_eq_getElem?_getD,List.getElem?_map,List.getElem?_eq_getElem aeh];rfl
  generalize sv.l[i]=u at*
  have haa:n.ak≠1->n.ak≠2->n.a.toNat<st.length:=λh1 h2=>by rw[FQ];exact WB.a1 h1 h2
  have hbb:n.ak=6->n.b.toNat<st.length:=λh6=>by rw[FQ];exact WB.b1 h6
  have hst:∀j,j<st.length->st.getD j 0<row.length:=λj hj=>by have:=hS.lt j hj;rwa[List.length_map,ali]at this
  have ha0:0<=n.a:=WB.a0
  have hb0:0<=n.b:=WB.b0
  refine Wp.know (p:=∃a,sv.base=some a) (λρ w' hw=>ae hw λR h=>aP (j:=i) (aV h.1.2.1) J9) ?_
  rintro⟨sa,hsa⟩
  by_cases h12:n.ak=1\/n.ak=2
  ·have ht:df n.pl=[]:=by unfold df;rw[if_pos (show n.pl.ak=1\/n.pl.ak=2 from h12)]
   have hMp:n.pl=bJ st n.pl:=by unfold bJ;rw[if_pos (show n.pl.ak=1\/n.pl.ak=2 from h12)]
   have hMs:n.iJ:=hno.iJ
   have hkM:gU (row.map ai.pl) n.pl=false:=by
    unfold gU
    rw[decide_eq_true (show n.pl.ak=1\/n.pl.ak=2 from h12)];rfl
   have h6:¬n.ak=6:=by omega
   repeat' ((conv=>whnf)<;>first|refine D9 ?_|refine Gz ?_|(show aI _ 75 ..;refine pM n 0 rfl ht Tryz.call75 (λρ w' hw=>rQ w' n hno.qO hno.oh) (λu1 hu1 HZ Mr=> ?_))|refine aX ?_|refine ag ?_ ?_<;>intro _)
   refine Wp.rounds 1 ?_
   repeat' ((conv=>whnf)<;>first|(show aI _ 75 ..;refine pM n 0 rfl ht Tryz.call75 (λρ w' hw=>rQ w' n hno.qO hno.oh) (λu1 hu1 HZ Mr=> ?_))|refine aX ?_|refine ag ?_ ?_<;>intro _)
   have VO:=hMs
   have hXp:jZ (gD (check g).2 i) (row.map ai.pl) (bJ st n.pl)=n.pl:=by rw[<-hMp,jZ,if_neg acV]
   have hstep:=xu hL hT VW hcr hXp fI
   refine Wp.loop (σ:=Nat×Int) 7 (λ⟨j,f⟩=>[(1,.lp 0 0 0 0),(2,.lp 1 0 0 0),(6,.c sv.val),(8,.os 2 row.length),(9,.os 3 nS.length),(10,.os 4 st.length),(11,ax i),(12,.lp 5 0 0 0),(37,.c (.slice g.base g.l.length g.cap)),(38,ax g.l.length),(39,ax i),(19,ax f),(113,.os 2 row.length),(114,ax row.length),(115,ax j)]) (λ_=>[(5,.box (cs n.cells) 41),(4,.rows (aN (qE st)) 1 3),(3,.rows (aS nS) 1 32),(2,.rows (bF row) 9 41),(1,.box [.c (.slice none 0 0),ax 0] 24),(0,.box [.c (.slice g.base g.l.length g.cap),ax g.out] 24)]) (λ_=>(((aO w).and ((jE sv).past w.heap.size)).and (xI (qp g) w.heap.size row)).and (vT (qp g) w.heap.size n))
    (λ⟨j,f⟩=>j<=row.length/\f=uQ n.pl (row.map ai.pl) j) (λs=>row.length-s.1) (0,-1) [] aY (λs=>⟨rfl,rfl⟩) ⟨Nat.zero_le _,(x_ _ _).symm⟩ ⟨rfl,⟨rfl,rfl,rfl,rfl,rfl,rfl,rfl,rfl,rfl,rfl,rfl,rfl,rfl,rfl,rfl,trivial⟩,bM,λR w' h=>⟨h.1.1.1,xU hPn rfl rfl rfl R w'⟩⟩ ?_
   rintro⟨j,f⟩ ⟨hj,hf⟩
   by_cases hjl:j<row.length
   ·have G9:=bU hjl
    have hxm:=List.getElem_mem hjl
    have hxp:(row.map ai.pl)[j]? =some row[j].pl:=by rw[List.getElem?_map,List.getElem?_eq_getElem hjl];rfl
    generalize row[j]=y at*
    repeat' ((conv=>whnf)<;>first|refine S9 ?_|refine KF ?_|(show aI _ 77 ..;((refine fK (f:=77) Tryz.call77 (n_ y.pl n.pl) (λρ w' hw=>nY w' y n (ae hw λR h=>yf hP hsn h.1.1.1 h.1.2 y hxm) (ae hw λR h=>uC hP VO h.1.1.1 h.2)) ?_ ?_<;>intro hsm)))|refine aX ?_|refine ag ?_ ?_<;>intro _)
    all_goals(conv=>whnf)
    all_goals first|exact⟨(j+1,f),[],⟨hjl,xJ hxp hf Tp⟩,by simp only;omega,rfl,bM,bM,λR w' h=>h⟩|exact⟨(j+1,(j:Int)),[],⟨hjl,xW hxp hf aa aa vJ⟩,by simp only;omega,rfl,bM,bM,λR w' h=>h⟩
   ·obtain rfl:j=row.length:=by omega
    rw[AC TM]at hf
    obtain⟨q,hq⟩:∃q,(match kr (row.map ai.pl) n.pl with|some k=>k|none=>row.length)=q:=⟨_,rfl⟩
    cases De:kr (row.map ai.pl) n.pl
    all_goals(rw[De]at hf hq;dsimp only at hf hq;have hq:=hq.symm;subst hf hq)
    all_goals
     repeat' ((conv=>whnf)<;>first|refine KS ?_|refine TR ?_|refine Pn ?_|refine SH ?_|(show jT _ ((_,.rows (List.take row.length _++_) _ _)::_) _ _ _;refine jY (ys:=bF (row++[n])) (m:=(row++[n]).length) ?_ (mg row n) agI)|refine Uo ?_|refine Tc ?_|refine aX ?_|refine ag ?_ ?_<;>intro _)
    all_goals(conv=>whnf)
    all_goals first|exact⟨(i+1,row,nS,st++[q]),[(4,some 8)],⟨hlt,hsn,zk,hstep.1 q De,hcr⟩,by simp only;omega,rfl,bM,bM,λR w' h=>h.1⟩|exact⟨(i+1,row++[n],nS++[u],st++[row.length]),[(2,some 8),(3,some 10),(4,some 12)],⟨hlt,uK hsn VO,Bd zk vY,(hstep.2 De).1,(hstep.2 De).2⟩,by simp only;omega,rfl,bM,bM,λR w' h=>⟨h.1.1,uF h.1.2 h.2⟩⟩
  ·have haL:=haa aa aa
   have agW:=hst _ haL
   have Cc:=bU agW
   have akm:=qP haL
   have agF:((row.map ai.pl).getD (st.getD n.a.toNat 0) dB).ak=row[st.getD n.a.toNat 0].ak:=by rw[zU agW];rfl
   by_cases h6:n.ak=6
   ·have ht:df n.pl=[n.a,n.b]:=by unfold df;rw[if_neg (show¬(n.pl.ak=1\/n.pl.ak=2)from h12),if_pos (show n.pl.ak=6 from h6)];rfl
    have hbL:=hbb h6
    have ajo:=hst _ hbL
    have KQ:=bU ajo
    have aon:=qP hbL
    have alU:((row.map ai.pl).getD (st.getD n.b.toNat 0) dB).ak=row[st.getD n.b.toNat 0].ak:=by rw[zU ajo];rfl
    have hMp:(jJ n (st.getD n.a.toNat 0) (st.getD n.b.toNat 0)).pl=bJ st n.pl:=by unfold bJ;rw[if_neg (show¬(n.pl.ak=1\/n.pl.ak=2)from h12),if_pos (show n.pl.ak=6 from h6)];rfl
    have hmM:ja (jJ n (st.getD n.a.toNat 0) (st.getD n.b.toNat 0)).pl.jh (nS.map au.xs) (gD (check g).2 i):=by rw[hMp];exact hmv
    have hMs:(jJ n (st.getD n.a.toNat 0) (st.getD n.b.toNat 0)).iJ:=⟨hno.ay.bq,hno.data.bq,hno.aM.bq,hno.jK,Rw aa,Rw aa,hno.kH,hno.kJ,hno.jM⟩
    by_cases hkA:row[st.getD n.a.toNat 0].ak=2
    ·by_cases hkB:row[st.getD n.b.toNat 0].ak=2
     ·have hkM:gU (row.map ai.pl) (jJ n (st.getD n.a.toNat 0) (st.getD n.b.toNat 0)).pl=true:=by
       unfold gU oL
       show(!decide (n.ak=1\/n.ak=2)&&decide (((row.map ai.pl).getD (st.getD n.a.toNat 0) dB).ak=2)&&(_||decide (((row.map ai.pl).getD (st.getD n.b.toNat 0) dB).ak=2)))=true
       rw[agF,alU,decide_eq_false h12,decide_eq_true hkA,decide_eq_true hkB,Bool.or_true];rfl
      repeat' ((conv=>whnf)<;>first|refine D9 ?_|refine Gz ?_|(refine Tt ?_;intro u1 hu1 HZ Mr)|refine aX ?_|refine ag ?_ ?_<;>intro _)
      refine Wp.know (p:=∃a,u1.base=some a) (λρ w' hw=>ae hw λR h=>aP (j:=0) (aV ((bE u1).mono h.2 (λb hb=>hb.1))) Yh) ?_
      rintro⟨ua,jD⟩
      have hu0:(aN u1.xs)[0]? =some [.int .i64 n.a]:=by rw[hu1];rfl
      have ajC:(aN u1.xs)[1]? =some [.int .i64 n.b]:=by rw[hu1];rfl
      refine Wp.rounds 4 ?_
      repeat' ((conv=>whnf)<;>first|refine Zf ?_|refine ac1 ?_|refine aeD ?_|refine adV ?_|refine afy ?_|(refine Tt ?_;intro u1 hu1 HZ Mr)|refine Zj ?_|refine XV ?_|refine aX ?_|refine ag ?_ ?_<;>intro _)
      refine Wp.loop (σ:=Nat) 7 (λj=>[(1,.lp 0 0 0 0),(2,.lp 1 0 0 0),(6,.c sv.val),(8,.os 2 row.length),(9,.os 3 nS.length),(10,.os 4 st.length),(11,ax i),(12,.lp 5 0 0 0),(37,.c (.slice g.base g.l.length g.cap)),(38,ax g.l.length),(39,ax i),(16,.os 6 row.length),(91,.os 2 row.length),(92,ax row.length),(93,ax j)]) (λj=>[(6,.rows (aS (og row.length ((row.map ai.data).take j))) 1 32),(5,.box (cs (jJ n (st.getD n.a.toNat 0) (st.getD n.b.toNat 0)).cells) 41),(4,.rows (aN (qE st)) 1 3),(3,.rows (aS nS) 1 32),(2,.rows (bF row) 9 41),(1,.box [.c (.slice none 0 0),ax 0] 24),(0,.box [.c (.slice g.base g.l.length g.cap),ax g.out] 24)]) (λ_=>((aO w).and ((jE sv).past w.heap.size)).and (xI (qp g) w.heap.size row))
       (λj=>j<=row.length) (λj=>row.length-j) 0 [] aY (λs=>⟨rfl,rfl⟩) (Nat.zero_le _) ⟨rfl,⟨rfl,rfl,rfl,rfl,rfl,rfl,rfl,rfl,rfl,rfl,rfl,rfl,rfl,rfl,rfl,trivial⟩,bM,λR w' h=>h.1.1.1⟩ ?_
      rintro j hj
      by_cases hjl:j<row.length
      ·have G9:=bU hjl
       have hdj:(row.map ai.data).take (j+1)=(row.map ai.data).take j++[row[j].data]:=by
        rw[List.take_add_one,List.getElem?_map,List.getElem?_eq_getElem hjl];rfl
       have hdl:((row.map ai.data).take j).length=j:=by rw[List.length_take,List.length_map];omega
       generalize row[j]=y at*
       repeat' ((conv=>whnf)<;>first|refine ahf ?_|refine KF ?_|(show cO ..;refine vV hdl hjl ?_)|refine aX ?_|refine ag ?_ ?_<;>intro _)
       all_goals(conv=>whnf)
       all_goals exact⟨j+1,[],hjl,by omega,rfl,bM,⟨by rw[hdj];exact aU,aU,aU,aU,aU,aU,aU,trivial⟩,λR w' h=>h⟩
      obtain rfl:j=row.length:=by omega
      have hgk:og row.length ((row.map ai.data).take row.length)=row.map ai.data:=by
       rw[List.take_of_length_le adL]
       unfold og
       rw[List.length_map,Nat.sub_self];simp
      repeat' ((conv=>whnf)<;>first|(show b_ _ 28 ..;refine lu [] [] ail ?_ (h6:=List.nil_sublist _))|refine aij ?_|refine KS ?_|(show fT ..;(refine bA (λR w' h=>by rw[<-hsa];exact aV h.1.2.1) _ _ af5 rfl ?_))|(show aI _ 76 ..;(refine gX Tryz.call76 (λx:au×Bool=>x.1.val) abH (λx=>x.1.xs=kR (gD (check g).2 i) (row.map ai.pl) (jJ n (st.getD n.a.toNat 0) (st.getD n.b.toNat 0)).pl/\x.1.bq/\(x.2=true->x.1=(jJ n (st.getD n.a.toNat 0) (st.getD n.b.toNat 0)).data)) (λρ w' hw=>Ei hR hmM hkM ⟨(ρ 3).base,(ρ 3).cap,nS⟩ rfl ⟨eT hw aU,λz hz=>ae hw λR h=>(oQ hsv aa h.1.2).each z (zk z hz),by show nS.length<=24;omega⟩ (ae hw λR h=>uC (N:=0) hP hMs h.1.1 (xU hPn rfl rfl rfl R w')) (ae hw λR h=>yf hP hsn h.1.1 h.2) (ρ 6).base (ρ 6).cap aht) (λx hx=> ?_)))|refine aX ?_|refine ag ?_ ?_<;>intro _)
      have VO:(fZ u x.1).iJ:=Az (hsv u vY) hx.2.1
      have hXp:jZ (gD (check g).2 i) (row.map ai.pl) (bJ st n.pl)=(fZ u x.1).pl:=by rw[<-hMp,jZ,if_pos hkM,xA fI hx.1]
      have hstep:=xu hL hT VW hcr hXp fI
      refine Wp.loop (σ:=Nat×Int) 7 (λ⟨j,f⟩=>[(1,.lp 0 0 0 0),(2,.lp 1 0 0 0),(6,.c sv.val),(8,.os 2 row.length),(9,.os 3 nS.length),(10,.os 4 st.length),(11,ax i),(12,.lp 5 0 0 0),(37,.c (.slice g.base g.l.length g.cap)),(38,ax g.l.length),(39,ax i),(19,ax f),(113,.os 2 row.length),(114,ax row.length),(115,ax j)]) (λ_=>[(5,.box (cs (fZ u x.1).cells) 41),(4,.rows (aN (qE st)) 1 3),(3,.rows (aS nS) 1 32),(2,.rows (bF row) 9 41),(1,.box [.c (.slice none 0 0),ax 0] 24),(0,.box [.c (.slice g.base g.l.length g.cap),ax g.out] 24)]) (λ_=>(((aO w).and ((jE sv).past w.heap.size)).and (xI (qp g) w.heap.size row)).and (vT (qp g) w.heap.size (fZ u x.1)))
       (λ⟨j,f⟩=>j<=row.length/\f=uQ (fZ u x.1).pl (row.map ai.pl) j) (λs=>row.length-s.1) (0,-1) [] aY (λs=>⟨rfl,rfl⟩) ⟨Nat.zero_le _,(x_ _ _).symm⟩ ⟨rfl,⟨rfl,rfl,rfl,rfl,rfl,rfl,rfl,rfl,rfl,rfl,rfl,rfl,rfl,rfl,rfl,trivial⟩,bM,λR w' h=>⟨h.1,J_ hPn.2.1 (.inl rfl) vY hx.2.2 h.1.1.2 h.2⟩⟩ ?_
      rintro⟨j,f⟩ ⟨hj,hf⟩
      by_cases hjl:j<row.length
      ·have G9:=bU hjl
       have hxm:=List.getElem_mem hjl
       have hxp:(row.map ai.pl)[j]? =some row[j].pl:=by rw[List.getElem?_map,List.getElem?_eq_getElem hjl];rfl
       generalize row[j]=y at*
       have h1:¬(fZ u x.1).ak=1:=λh=>absurd (show(2:Int)=1 from h) aY
       repeat' ((conv=>whnf)<;>first|refine S9 ?_|refine KF ?_|(show aI _ 77 ..;((refine fK (f:=77) Tryz.call77 (n_ y.pl (fZ u x.1).pl) (λρ w' hw=>nY w' y (fZ u x.1) (ae hw λR h=>yf hP hsn h.1.1.1 h.1.2 y hxm) (ae hw λR h=>uC hP VO h.1.1.1 h.2)) ?_ ?_<;>intro hsm)))|refine aX ?_|refine ag ?_ ?_<;>intro _)
       all_goals(conv=>whnf)
       all_goals first|exact⟨(j+1,f),[],⟨hjl,xJ hxp hf Tp⟩,by simp only;omega,rfl,bM,bM,λR w' h=>h⟩|exact⟨(j+1,(j:Int)),[],⟨hjl,xW hxp hf aa aa vJ⟩,by simp only;omega,rfl,bM,bM,λR w' h=>h⟩
      ·obtain rfl:j=row.length:=by omega
       rw[AC TM]at hf
       obtain⟨q,hq⟩:∃q,(match kr (row.map ai.pl) (fZ u x.1).pl with|some k=>k|none=>row.length)=q:=⟨_,rfl⟩
       cases De:kr (row.map ai.pl) (fZ u x.1).pl
       all_goals(rw[De]at hf hq;dsimp only at hf hq;have hq:=hq.symm;subst hf hq)
       all_goals
        repeat' ((conv=>whnf)<;>first|refine KS ?_|refine TR ?_|refine Pn ?_|refine SH ?_|refine ah6 ?_|refine Uo ?_|refine Tc ?_|refine aX ?_|refine ag ?_ ?_<;>intro _)
       all_goals(conv=>whnf)
       all_goals first|exact⟨(i+1,row,nS,st++[q]),[(4,some 8)],⟨hlt,hsn,zk,hstep.1 q De,hcr⟩,by simp only;omega,rfl,bM,bM,λR w' h=>h.1⟩|exact⟨(i+1,row++[(fZ u x.1)],nS++[u],st++[row.length]),[(2,some 8),(3,some 10),(4,some 12)],⟨hlt,uK hsn VO,Bd zk vY,(hstep.2 De).1,(hstep.2 De).2⟩,by simp only;omega,rfl,bM,bM,λR w' h=>⟨h.1.1,uF h.1.2 h.2⟩⟩
     ·have hkM:gU (row.map ai.pl) (jJ n (st.getD n.a.toNat 0) (st.getD n.b.toNat 0)).pl=false:=by
       unfold gU oL
       show(!decide (n.ak=1\/n.ak=2)&&decide (((row.map ai.pl).getD (st.getD n.a.toNat 0) dB).ak=2)&&(decide (n.ak≠6)||decide (((row.map ai.pl).getD (st.getD n.b.toNat 0) dB).ak=2)))=false
       rw[alU,decide_eq_false hkB,decide_eq_false (show¬(n.ak≠6)fromλh=>h h6),Bool.or_false,Bool.and_false]
      repeat' ((conv=>whnf)<;>first|refine D9 ?_|refine Gz ?_|(refine Tt ?_;intro u1 hu1 HZ Mr)|refine aX ?_|refine ag ?_ ?_<;>intro _)
      refine Wp.know (p:=∃a,u1.base=some a) (λρ w' hw=>ae hw λR h=>aP (j:=0) (aV ((bE u1).mono h.2 (λb hb=>hb.1))) Yh) ?_
      rintro⟨ua,jD⟩
      have hu0:(aN u1.xs)[0]? =some [.int .i64 n.a]:=by rw[hu1];rfl
      have ajC:(aN u1.xs)[1]? =some [.int .i64 n.b]:=by rw[hu1];rfl
      refine Wp.rounds 4 ?_
      repeat' ((conv=>whnf)<;>first|refine Zf ?_|refine ac1 ?_|refine aeD ?_|refine adV ?_|refine afy ?_|(refine Tt ?_;intro u1 hu1 HZ Mr)|refine Zj ?_|refine XV ?_|refine aX ?_|refine ag ?_ ?_<;>intro _)
      have VO:=hMs
      have hXp:jZ (gD (check g).2 i) (row.map ai.pl) (bJ st n.pl)=(jJ n (st.getD n.a.toNat 0) (st.getD n.b.toNat 0)).pl:=by rw[<-hMp,jZ,if_neg acV]
      have hstep:=xu hL hT VW hcr hXp fI
      refine Wp.loop (σ:=Nat×Int) 7 (λ⟨j,f⟩=>[(1,.lp 0 0 0 0),(2,.lp 1 0 0 0),(6,.c sv.val),(8,.os 2 row.length),(9,.os 3 nS.length),(10,.os 4 st.length),(11,ax i),(12,.lp 5 0 0 0),(37,.c (.slice g.base g.l.length g.cap)),(38,ax g.l.length),(39,ax i),(19,ax f),(113,.os 2 row.length),(114,ax row.length),(115,ax j)]) (λ_=>[(5,.box (cs (jJ n (st.getD n.a.toNat 0) (st.getD n.b.toNat 0)).cells) 41),(4,.rows (aN (qE st)) 1 3),(3,.rows (aS nS) 1 32),(2,.rows (bF row) 9 41),(1,.box [.c (.slice none 0 0),ax 0] 24),(0,.box [.c (.slice g.base g.l.length g.cap),ax g.out] 24)]) (λ_=>(((aO w).and ((jE sv).past w.heap.size)).and (xI (qp g) w.heap.size row)).and (vT (qp g) w.heap.size (jJ n (st.getD n.a.toNat 0) (st.getD n.b.toNat 0))))
       (λ⟨j,f⟩=>j<=row.length/\f=uQ (jJ n (st.getD n.a.toNat 0) (st.getD n.b.toNat 0)).pl (row.map ai.pl) j) (λs=>row.length-s.1) (0,-1) [] aY (λs=>⟨rfl,rfl⟩) ⟨Nat.zero_le _,(x_ _ _).symm⟩ ⟨rfl,⟨rfl,rfl,rfl,rfl,rfl,rfl,rfl,rfl,rfl,rfl,rfl,rfl,rfl,rfl,rfl,trivial⟩,bM,λR w' h=>⟨h.1.1.1,xU hPn rfl rfl rfl R w'⟩⟩ ?_
      rintro⟨j,f⟩ ⟨hj,hf⟩
      by_cases hjl:j<row.length
      ·have G9:=bU hjl
       have hxm:=List.getElem_mem hjl
       have hxp:(row.map ai.pl)[j]? =some row[j].pl:=by rw[List.getElem?_map,List.getElem?_eq_getElem hjl];rfl
       generalize row[j]=y at*
       repeat' ((conv=>whnf)<;>first|refine S9 ?_|refine KF ?_|(show aI _ 77 ..;((refine fK (f:=77) Tryz.call77 (n_ y.pl (jJ n (st.getD n.a.toNat 0) (st.getD n.b.toNat 0)).pl) (λρ w' hw=>nY w' y (jJ n (st.getD n.a.toNat 0) (st.getD n.b.toNat 0)) (ae hw λR h=>yf hP hsn h.1.1.1 h.1.2 y hxm) (ae hw λR h=>uC hP VO h.1.1.1 h.2)) ?_ ?_<;>intro hsm)))|refine aX ?_|refine ag ?_ ?_<;>intro _)
       all_goals(conv=>whnf)
       all_goals first|exact⟨(j+1,f),[],⟨hjl,xJ hxp hf Tp⟩,by simp only;omega,rfl,bM,bM,λR w' h=>h⟩|exact⟨(j+1,(j:Int)),[],⟨hjl,xW hxp hf aa aa vJ⟩,by simp only;omega,rfl,bM,bM,λR w' h=>h⟩
      ·obtain rfl:j=row.length:=by omega
       rw[AC TM]at hf
       obtain⟨q,hq⟩:∃q,(match kr (row.map ai.pl) (jJ n (st.getD n.a.toNat 0) (st.getD n.b.toNat 0)).pl with|some k=>k|none=>row.length)=q:=⟨_,rfl⟩
       cases De:kr (row.map ai.pl) (jJ n (st.getD n.a.toNat 0) (st.getD n.b.toNat 0)).pl
       all_goals(rw[De]at hf hq;dsimp only at hf hq;have hq:=hq.symm;subst hf hq)
       all_goals
        repeat' ((conv=>whnf)<;>first|refine KS ?_|refine TR ?_|refine Pn ?_|refine SH ?_|refine ahX ?_|refine Uo ?_|refine Tc ?_|refine aX ?_|refine ag ?_ ?_<;>intro _)
       all_goals(conv=>whnf)
       all_goals first|exact⟨(i+1,row,nS,st++[q]),[(4,some 8)],⟨hlt,hsn,zk,hstep.1 q De,hcr⟩,by simp only;omega,rfl,bM,bM,λR w' h=>h.1⟩|exact⟨(i+1,row++[(jJ n (st.getD n.a.toNat 0) (st.getD n.b.toNat 0))],nS++[u],st++[row.length]),[(2,some 8),(3,some 10),(4,some 12)],⟨hlt,uK hsn VO,Bd zk vY,(hstep.2 De).1,(hstep.2 De).2⟩,by simp only;omega,rfl,bM,bM,λR w' h=>⟨h.1.1,uF h.1.2 h.2⟩⟩
    ·have hkM:gU (row.map ai.pl) (jJ n (st.getD n.a.toNat 0) (st.getD n.b.toNat 0)).pl=false:=by
      unfold gU oL
      show(!decide (n.ak=1\/n.ak=2)&&decide (((row.map ai.pl).getD (st.getD n.a.toNat 0) dB).ak=2)&&_)=false
      rw[agF,decide_eq_false hkA,Bool.and_false,Bool.false_and]
     repeat' ((conv=>whnf)<;>first|refine D9 ?_|refine Gz ?_|(refine Tt ?_;intro u1 hu1 HZ Mr)|refine aX ?_|refine ag ?_ ?_<;>intro _)
     refine Wp.know (p:=∃a,u1.base=some a) (λρ w' hw=>ae hw λR h=>aP (j:=0) (aV ((bE u1).mono h.2 (λb hb=>hb.1))) Yh) ?_
     rintro⟨ua,jD⟩
     have hu0:(aN u1.xs)[0]? =some [.int .i64 n.a]:=by rw[hu1];rfl
     have ajC:(aN u1.xs)[1]? =some [.int .i64 n.b]:=by rw[hu1];rfl
     refine Wp.rounds 4 ?_
     repeat' ((conv=>whnf)<;>first|refine Zf ?_|refine ac1 ?_|refine aeD ?_|refine adV ?_|refine afy ?_|(refine Tt ?_;intro u1 hu1 HZ Mr)|refine Zj ?_|refine XV ?_|refine aX ?_|refine ag ?_ ?_<;>intro _)
     have VO:=hMs
     have hXp:jZ (gD (check g).2 i) (row.map ai.pl) (bJ st n.pl)=(jJ n (st.getD n.a.toNat 0) (st.getD n.b.toNat 0)).pl:=by rw[<-hMp,jZ,if_neg acV]
     have hstep:=xu hL hT VW hcr hXp fI
     refine Wp.loop (σ:=Nat×Int) 7 (λ⟨j,f⟩=>[(1,.lp 0 0 0 0),(2,.lp 1 0 0 0),(6,.c sv.val),(8,.os 2 row.length),(9,.os 3 nS.length),(10,.os 4 st.length),(11,ax i),(12,.lp 5 0 0 0),(37,.c (.slice g.base g.l.length g.cap)),(38,ax g.l.length),(39,ax i),(19,ax f),(113,.os 2 row.length),(114,ax row.length),(115,ax j)]) (λ_=>[(5,.box (cs (jJ n (st.getD n.a.toNat 0) (st.getD n.b.toNat 0)).cells) 41),(4,.rows (aN (qE st)) 1 3),(3,.rows (aS nS) 1 32),(2,.rows (bF row) 9 41),(1,.box [.c (.slice none 0 0),ax 0] 24),(0,.box [.c (.slice g.base g.l.length g.cap),ax g.out] 24)]) (λ_=>(((aO w).and ((jE sv).past w.heap.size)).and (xI (qp g) w.heap.size row)).and (vT (qp g) w.heap.size (jJ n (st.getD n.a.toNat 0) (st.getD n.b.toNat 0))))
      (λ⟨j,f⟩=>j<=row.length/\f=uQ (jJ n (st.getD n.a.toNat 0) (st.getD n.b.toNat 0)).pl (row.map ai.pl) j) (λs=>row.length-s.1) (0,-1) [] aY (λs=>⟨rfl,rfl⟩) ⟨Nat.zero_le _,(x_ _ _).symm⟩ ⟨rfl,⟨rfl,rfl,rfl,rfl,rfl,rfl,rfl,rfl,rfl,rfl,rfl,rfl,rfl,rfl,rfl,trivial⟩,bM,λR w' h=>⟨h.1.1.1,xU hPn rfl rfl rfl R w'⟩⟩ ?_
     rintro⟨j,f⟩ ⟨hj,hf⟩
     by_cases hjl:j<row.length
     ·have G9:=bU hjl
      have hxm:=List.getElem_mem hjl
      have hxp:(row.map ai.pl)[j]? =some row[j].pl:=by rw[List.getElem?_map,List.getElem?_eq_getElem hjl];rfl
      generalize row[j]=y at*
      repeat' ((conv=>whnf)<;>first|refine S9 ?_|refine KF ?_|(show aI _ 77 ..;((refine fK (f:=77) Tryz.call77 (n_ y.pl (jJ n (st.getD n.a.toNat 0) (st.getD n.b.toNat 0)).pl) (λρ w' hw=>nY w' y (jJ n (st.getD n.a.toNat 0) (st.getD n.b.toNat 0)) (ae hw λR h=>yf hP hsn h.1.1.1 h.1.2 y hxm) (ae hw λR h=>uC hP VO h.1.1.1 h.2)) ?_ ?_<;>intro hsm)))|refine aX ?_|refine ag ?_ ?_<;>intro _)
      all_goals(conv=>whnf)
      all_goals first|exact⟨(j+1,f),[],⟨hjl,xJ hxp hf Tp⟩,by simp only;omega,rfl,bM,bM,λR w' h=>h⟩|exact⟨(j+1,(j:Int)),[],⟨hjl,xW hxp hf aa aa vJ⟩,by simp only;omega,rfl,bM,bM,λR w' h=>h⟩
     ·obtain rfl:j=row.length:=by omega
      rw[AC TM]at hf
      obtain⟨q,hq⟩:∃q,(match kr (row.map ai.pl) (jJ n (st.getD n.a.toNat 0) (st.getD n.b.toNat 0)).pl with|some k=>k|none=>row.length)=q:=⟨_,rfl⟩
      cases De:kr (row.map ai.pl) (jJ n (st.getD n.a.toNat 0) (st.getD n.b.toNat 0)).pl
      all_goals(rw[De]at hf hq;dsimp only at hf hq;have hq:=hq.symm;subst hf hq)
      all_goals
       repeat' ((conv=>whnf)<;>first|refine KS ?_|refine TR ?_|refine Pn ?_|refine SH ?_|refine ahX ?_|refine Uo ?_|refine Tc ?_|refine aX ?_|refine ag ?_ ?_<;>intro _)
      all_goals(conv=>whnf)
      all_goals first|exact⟨(i+1,row,nS,st++[q]),[(4,some 8)],⟨hlt,hsn,zk,hstep.1 q De,hcr⟩,by simp only;omega,rfl,bM,bM,λR w' h=>h.1⟩|exact⟨(i+1,row++[(jJ n (st.getD n.a.toNat 0) (st.getD n.b.toNat 0))],nS++[u],st++[row.length]),[(2,some 8),(3,some 10),(4,some 12)],⟨hlt,uK hsn VO,Bd zk vY,(hstep.2 De).1,(hstep.2 De).2⟩,by simp only;omega,rfl,bM,bM,λR w' h=>⟨h.1.1,uF h.1.2 h.2⟩⟩
   ·have ht:df n.pl=[n.a]:=by unfold df;rw[if_neg (show¬(n.pl.ak=1\/n.pl.ak=2)from h12),if_neg (show¬n.pl.ak=6 from h6)];rfl
    have hMp:(jJ n (st.getD n.a.toNat 0) n.b).pl=bJ st n.pl:=by unfold bJ;rw[if_neg (show¬(n.pl.ak=1\/n.pl.ak=2)from h12),if_neg (show¬n.pl.ak=6 from h6)];rfl
    have hmM:ja (jJ n (st.getD n.a.toNat 0) n.b).pl.jh (nS.map au.xs) (gD (check g).2 i):=by rw[hMp];exact hmv
    have hMs:(jJ n (st.getD n.a.toNat 0) n.b).iJ:=⟨hno.ay.bq,hno.data.bq,hno.aM.bq,hno.jK,Rw aa,hno.oh,hno.kH,hno.kJ,hno.jM⟩
    by_cases hkA:row[st.getD n.a.toNat 0].ak=2
    ·have hkM:gU (row.map ai.pl) (jJ n (st.getD n.a.toNat 0) n.b).pl=true:=by
      unfold gU oL
      show(!decide (n.ak=1\/n.ak=2)&&decide (((row.map ai.pl).getD (st.getD n.a.toNat 0) dB).ak=2)&&(decide (n.ak≠6)||_))=true
      rw[agF,decide_eq_false h12,decide_eq_true hkA,decide_eq_true h6];rfl
     repeat' ((conv=>whnf)<;>first|refine D9 ?_|refine Gz ?_|(refine acL ?_;intro u1 hu1 HZ Mr)|refine aX ?_|refine ag ?_ ?_<;>intro _)
     refine Wp.know (p:=∃a,u1.base=some a) (λρ w' hw=>ae hw λR h=>aP (j:=0) (aV ((bE u1).mono h.2 (λb hb=>hb.1))) Yh) ?_
     rintro⟨ua,jD⟩
     have hu0:(aN u1.xs)[0]? =some [.int .i64 n.a]:=by rw[hu1];rfl
     refine Wp.rounds 4 ?_
     repeat' ((conv=>whnf)<;>first|refine Zf ?_|(show bV ..;refine aH ua 0 jD rfl aa ?_)|refine ahH ?_|refine ahQ ?_|(show mq ..;(first|refine row_of _ _ akm rfl ?_|refine row_of _ _ Cc rfl ?_))|(refine acL ?_;intro u1 hu1 HZ Mr)|refine Zj ?_|refine XV ?_|refine aX ?_|refine ag ?_ ?_<;>intro _)
     refine Wp.loop (σ:=Nat) 7 (λj=>[(1,.lp 0 0 0 0),(2,.lp 1 0 0 0),(6,.c sv.val),(8,.os 2 row.length),(9,.os 3 nS.length),(10,.os 4 st.length),(11,ax i),(12,.lp 5 0 0 0),(37,.c (.slice g.base g.l.length g.cap)),(38,ax g.l.length),(39,ax i),(16,.os 6 row.length),(91,.os 2 row.length),(92,ax row.length),(93,ax j)]) (λj=>[(6,.rows (aS (og row.length ((row.map ai.data).take j))) 1 32),(5,.box (cs (jJ n (st.getD n.a.toNat 0) n.b).cells) 41),(4,.rows (aN (qE st)) 1 3),(3,.rows (aS nS) 1 32),(2,.rows (bF row) 9 41),(1,.box [.c (.slice none 0 0),ax 0] 24),(0,.box [.c (.slice g.base g.l.length g.cap),ax g.out] 24)]) (λ_=>((aO w).and ((jE sv).past w.heap.size)).and (xI (qp g) w.heap.size row))
      (λj=>j<=row.length) (λj=>row.length-j) 0 [] aY (λs=>⟨rfl,rfl⟩) (Nat.zero_le _) ⟨rfl,⟨rfl,rfl,rfl,rfl,rfl,rfl,rfl,rfl,rfl,rfl,rfl,rfl,rfl,rfl,rfl,trivial⟩,bM,λR w' h=>h.1.1.1⟩ ?_
     rintro j hj
     by_cases hjl:j<row.length
     ·have G9:=bU hjl
      have hdj:(row.map ai.data).take (j+1)=(row.map ai.data).take j++[row[j].data]:=by
       rw[List.take_add_one,List.getElem?_map,List.getElem?_eq_getElem hjl];rfl
      have hdl:((row.map ai.data).take j).length=j:=by rw[List.length_take,List.length_map];omega
      generalize row[j]=y at*
      repeat' ((conv=>whnf)<;>first|refine ahf ?_|refine KF ?_|(show cO ..;refine vV hdl hjl ?_)|refine aX ?_|refine ag ?_ ?_<;>intro _)
      all_goals(conv=>whnf)
      all_goals exact⟨j+1,[],hjl,by omega,rfl,bM,⟨by rw[hdj];exact aU,aU,aU,aU,aU,aU,aU,trivial⟩,λR w' h=>h⟩
     obtain rfl:j=row.length:=by omega
     have hgk:og row.length ((row.map ai.data).take row.length)=row.map ai.data:=by
      rw[List.take_of_length_le adL]
      unfold og
      rw[List.length_map,Nat.sub_self];simp
     repeat' ((conv=>whnf)<;>first|(show b_ _ 28 ..;refine lu [] [] ail ?_ (h6:=List.nil_sublist _))|refine aij ?_|refine KS ?_|(show fT ..;(refine bA (λR w' h=>by rw[<-hsa];exact aV h.1.2.1) _ _ af5 rfl ?_))|(show aI _ 76 ..;(refine gX Tryz.call76 (λx:au×Bool=>x.1.val) abH (λx=>x.1.xs=kR (gD (check g).2 i) (row.map ai.pl) (jJ n (st.getD n.a.toNat 0) n.b).pl/\x.1.bq/\(x.2=true->x.1=(jJ n (st.getD n.a.toNat 0) n.b).data)) (λρ w' hw=>Ei hR hmM hkM ⟨(ρ 3).base,(ρ 3).cap,nS⟩ rfl ⟨eT hw aU,λz hz=>ae hw λR h=>(oQ hsv aa h.1.2).each z (zk z hz),by show nS.length<=24;omega⟩ (ae hw λR h=>uC (N:=0) hP hMs h.1.1 (xU hPn rfl rfl rfl R w')) (ae hw λR h=>yf hP hsn h.1.1 h.2) (ρ 6).base (ρ 6).cap aht) (λx hx=> ?_)))|refine aX ?_|refine ag ?_ ?_<;>intro _)
     have VO:(fZ u x.1).iJ:=Az (hsv u vY) hx.2.1
     have hXp:jZ (gD (check g).2 i) (row.map ai.pl) (bJ st n.pl)=(fZ u x.1).pl:=by rw[<-hMp,jZ,if_pos hkM,xA fI hx.1]
     have hstep:=xu hL hT VW hcr hXp fI
     refine Wp.loop (σ:=Nat×Int) 7 (λ⟨j,f⟩=>[(1,.lp 0 0 0 0),(2,.lp 1 0 0 0),(6,.c sv.val),(8,.os 2 row.length),(9,.os 3 nS.length),(10,.os 4 st.length),(11,ax i),(12,.lp 5 0 0 0),(37,.c (.slice g.base g.l.length g.cap)),(38,ax g.l.length),(39,ax i),(19,ax f),(113,.os 2 row.length),(114,ax row.length),(115,ax j)]) (λ_=>[(5,.box (cs (fZ u x.1).cells) 41),(4,.rows (aN (qE st)) 1 3),(3,.rows (aS nS) 1 32),(2,.rows (bF row) 9 41),(1,.box [.c (.slice none 0 0),ax 0] 24),(0,.box [.c (.slice g.base g.l.length g.cap),ax g.out] 24)]) (λ_=>(((aO w).and ((jE sv).past w.heap.size)).and (xI (qp g) w.heap.size row)).and (vT (qp g) w.heap.size (fZ u x.1)))
      (λ⟨j,f⟩=>j<=row.length/\f=uQ (fZ u x.1).pl (row.map ai.pl) j) (λs=>row.length-s.1) (0,-1) [] aY (λs=>⟨rfl,rfl⟩) ⟨Nat.zero_le _,(x_ _ _).symm⟩ ⟨rfl,⟨rfl,rfl,rfl,rfl,rfl,rfl,rfl,rfl,rfl,rfl,rfl,rfl,rfl,rfl,rfl,trivial⟩,bM,λR w' h=>⟨h.1,J_ hPn.2.1 (.inl rfl) vY hx.2.2 h.1.1.2 h.2⟩⟩ ?_
     rintro⟨j,f⟩ ⟨hj,hf⟩
     by_cases hjl:j<row.length
     ·have G9:=bU hjl
      have hxm:=List.getElem_mem hjl
      have hxp:(row.map ai.pl)[j]? =some row[j].pl:=by rw[List.getElem?_map,List.getElem?_eq_getElem hjl];rfl
      generalize row[j]=y at*
      have h1:¬(fZ u x.1).ak=1:=λh=>absurd (show(2:Int)=1 from h) aY
      repeat' ((conv=>whnf)<;>first|refine S9 ?_|refine KF ?_|(show aI _ 77 ..;((refine fK (f:=77) Tryz.call77 (n_ y.pl (fZ u x.1).pl) (λρ w' hw=>nY w' y (fZ u x.1) (ae hw λR h=>yf hP hsn h.1.1.1 h.1.2 y hxm) (ae hw λR h=>uC hP VO h.1.1.1 h.2)) ?_ ?_<;>intro hsm)))|refine aX ?_|refine ag ?_ ?_<;>intro _)
      all_goals(conv=>whnf)
      all_goals first|exact⟨(j+1,f),[],⟨hjl,xJ hxp hf Tp⟩,by simp only;omega,rfl,bM,bM,λR w' h=>h⟩|exact⟨(j+1,(j:Int)),[],⟨hjl,xW hxp hf aa aa vJ⟩,by simp only;omega,rfl,bM,bM,λR w' h=>h⟩
     ·obtain rfl:j=row.length:=by omega
      rw[AC TM]at hf
      obtain⟨q,hq⟩:∃q,(match kr (row.map ai.pl) (fZ u x.1).pl with|some k=>k|none=>row.length)=q:=⟨_,rfl⟩
      cases De:kr (row.map ai.pl) (fZ u x.1).pl
      all_goals(rw[De]at hf hq;dsimp only at hf hq;have hq:=hq.symm;subst hf hq)
      all_goals
       repeat' ((conv=>whnf)<;>first|refine KS ?_|refine TR ?_|refine Pn ?_|refine SH ?_|refine ah6 ?_|refine Uo ?_|refine Tc ?_|refine aX ?_|refine ag ?_ ?_<;>intro _)
      all_goals(conv=>whnf)
      all_goals first|exact⟨(i+1,row,nS,st++[q]),[(4,some 8)],⟨hlt,hsn,zk,hstep.1 q De,hcr⟩,by simp only;omega,rfl,bM,bM,λR w' h=>h.1⟩|exact⟨(i+1,row++[(fZ u x.1)],nS++[u],st++[row.length]),[(2,some 8),(3,some 10),(4,some 12)],⟨hlt,uK hsn VO,Bd zk vY,(hstep.2 De).1,(hstep.2 De).2⟩,by simp only;omega,rfl,bM,bM,λR w' h=>⟨h.1.1,uF h.1.2 h.2⟩⟩
    ·have hkM:gU (row.map ai.pl) (jJ n (st.getD n.a.toNat 0) n.b).pl=false:=by
      unfold gU oL
      show(!decide (n.ak=1\/n.ak=2)&&decide (((row.map ai.pl).getD (st.getD n.a.toNat 0) dB).ak=2)&&_)=false
      rw[agF,decide_eq_false hkA,Bool.and_false,Bool.false_and]
     repeat' ((conv=>whnf)<;>first|refine D9 ?_|refine Gz ?_|(refine acL ?_;intro u1 hu1 HZ Mr)|refine aX ?_|refine ag ?_ ?_<;>intro _)
     refine Wp.know (p:=∃a,u1.base=some a) (λρ w' hw=>ae hw λR h=>aP (j:=0) (aV ((bE u1).mono h.2 (λb hb=>hb.1))) Yh) ?_
     rintro⟨ua,jD⟩
     have hu0:(aN u1.xs)[0]? =some [.int .i64 n.a]:=by rw[hu1];rfl
     refine Wp.rounds 4 ?_
     repeat' ((conv=>whnf)<;>first|refine Zf ?_|(show bV ..;refine aH ua 0 jD rfl aa ?_)|refine ahH ?_|refine ahQ ?_|(show mq ..;(first|refine row_of _ _ akm rfl ?_|refine row_of _ _ Cc rfl ?_))|(refine acL ?_;intro u1 hu1 HZ Mr)|refine Zj ?_|refine XV ?_|refine aX ?_|refine ag ?_ ?_<;>intro _)
     have VO:=hMs
     have hXp:jZ (gD (check g).2 i) (row.map ai.pl) (bJ st n.pl)=(jJ n (st.getD n.a.toNat 0) n.b).pl:=by rw[<-hMp,jZ,if_neg acV]
     have hstep:=xu hL hT VW hcr hXp fI
     refine Wp.loop (σ:=Nat×Int) 7 (λ⟨j,f⟩=>[(1,.lp 0 0 0 0),(2,.lp 1 0 0 0),(6,.c sv.val),(8,.os 2 row.length),(9,.os 3 nS.length),(10,.os 4 st.length),(11,ax i),(12,.lp 5 0 0 0),(37,.c (.slice g.base g.l.length g.cap)),(38,ax g.l.length),(39,ax i),(19,ax f),(113,.os 2 row.length),(114,ax row.length),(115,ax j)]) (λ_=>[(5,.box (cs (jJ n (st.getD n.a.toNat 0) n.b).cells) 41),(4,.rows (aN (qE st)) 1 3),(3,.rows (aS nS) 1 32),(2,.rows (bF row) 9 41),(1,.box [.c (.slice none 0 0),ax 0] 24),(0,.box [.c (.slice g.base g.l.length g.cap),ax g.out] 24)]) (λ_=>(((aO w).and ((jE sv).past w.heap.size)).and (xI (qp g) w.heap.size row)).and (vT (qp g) w.heap.size (jJ n (st.getD n.a.toNat 0) n.b)))
      (λ⟨j,f⟩=>j<=row.length/\f=uQ (jJ n (st.getD n.a.toNat 0) n.b).pl (row.map ai.pl) j) (λs=>row.length-s.1) (0,-1) [] aY (λs=>⟨rfl,rfl⟩) ⟨Nat.zero_le _,(x_ _ _).symm⟩ ⟨rfl,⟨rfl,rfl,rfl,rfl,rfl,rfl,rfl,rfl,rfl,rfl,rfl,rfl,rfl,rfl,rfl,trivial⟩,bM,λR w' h=>⟨h.1.1.1,xU hPn rfl rfl rfl R w'⟩⟩ ?_
     rintro⟨j,f⟩ ⟨hj,hf⟩
     by_cases hjl:j<row.length
     ·have G9:=bU hjl
      have hxm:=List.getElem_mem hjl
      have hxp:(row.map ai.pl)[j]? =some row[j].pl:=by rw[List.getElem?_map,List.getElem?_eq_getElem hjl];rfl
      generalize row[j]=y at*
      repeat' ((conv=>whnf)<;>first|refine S9 ?_|refine KF ?_|(show aI _ 77 ..;((refine fK (f:=77) Tryz.call77 (n_ y.pl (jJ n (st.getD n.a.toNat 0) n.b).pl) (λρ w' hw=>nY w' y (jJ n (st.getD n.a.toNat 0) n.b) (ae hw λR h=>yf hP hsn h.1.1.1 h.1.2 y hxm) (ae hw λR h=>uC hP VO h.1.1.1 h.2)) ?_ ?_<;>intro hsm)))|refine aX ?_|refine ag ?_ ?_<;>intro _)
      all_goals(conv=>whnf)
      all_goals first|exact⟨(j+1,f),[],⟨hjl,xJ hxp hf Tp⟩,by simp only;omega,rfl,bM,bM,λR w' h=>h⟩|exact⟨(j+1,(j:Int)),[],⟨hjl,xW hxp hf aa aa vJ⟩,by simp only;omega,rfl,bM,bM,λR w' h=>h⟩
     ·obtain rfl:j=row.length:=by omega
      rw[AC TM]at hf
      obtain⟨q,hq⟩:∃q,(match kr (row.map ai.pl) (jJ n (st.getD n.a.toNat 0) n.b).pl with|some k=>k|none=>row.length)=q:=⟨_,rfl⟩
      cases De:kr (row.map ai.pl) (jJ n (st.getD n.a.toNat 0) n.b).pl
      all_goals(rw[De]at hf hq;dsimp only at hf hq;have hq:=hq.symm;subst hf hq)
      all_goals
       repeat' ((conv=>whnf)<;>first|refine KS ?_|refine TR ?_|refine Pn ?_|refine SH ?_|(show jT _ ((_,.rows (List.take row.length _++_) _ _)::_) _ _ _;refine jY (ys:=bF (row++[(jJ n (st.getD n.a.toNat 0) n.b)])) (m:=(row++[(jJ n (st.getD n.a.toNat 0) n.b)]).length) ?_ (mg row (jJ n (st.getD n.a.toNat 0) n.b)) agI)|refine Uo ?_|refine Tc ?_|refine aX ?_|refine ag ?_ ?_<;>intro _)
      all_goals(conv=>whnf)
      all_goals first|exact⟨(i+1,row,nS,st++[q]),[(4,some 8)],⟨hlt,hsn,zk,hstep.1 q De,hcr⟩,by simp only;omega,rfl,bM,bM,λR w' h=>h.1⟩|exact⟨(i+1,row++[(jJ n (st.getD n.a.toNat 0) n.b)],nS++[u],st++[row.length]),[(2,some 8),(3,some 10),(4,some 12)],⟨hlt,uK hsn VO,Bd zk vY,(hstep.2 De).1,(hstep.2 De).2⟩,by simp only;omega,rfl,bM,bM,λR w' h=>⟨h.1.1,uF h.1.2 h.2⟩⟩
 ·obtain rfl:i=g.l.length:=by omega
  have hdone:pF (g.l.map ai.pl) (check g).2 ([],[])=(row.map ai.pl,st):=by
   have e:(g.l.map ai.pl).length=g.l.length:=List.length_map _
   rw[<-e]at hT
   exact hT.done
  have FQ:=hT.len
  have hkl:=hT.few
  rw[List.length_map]at hkl
  obtain⟨dY,fM,hR,hS⟩:=hT.ok
  have hoL:g.out.toNat<st.length:=by omega
  have hoK:st.getD g.out.toNat 0<row.length:=by have:=hS.lt _ hoL;rwa[hR.wE,List.length_map]at this
  have hx:kD (g.l.map ai.pl) (check g).2 g.out.toNat=((oW (mO (row.map ai.pl) (st.getD g.out.toNat 0)) (row.map ai.pl) 0 ([],[])).1,(oW (mO (row.map ai.pl) (st.getD g.out.toNat 0)) (row.map ai.pl) 0 ([],[])).2.getD (st.getD g.out.toNat 0) 0):=by unfold kD;rw[hdone]
  have hoR:(aN (qE st))[g.out.toNat]? =some [.int .i64 (st.getD g.out.toNat 0)]:=qP hoL
  generalize st.getD g.out.toNat 0=out at*
  generalize hfin:oW (mO (row.map ai.pl) out) (row.map ai.pl) 0 ([],[])=fin at*
  repeat' ((conv=>whnf)<;>first|(show di ..;refine bg g.out.toNat aa hoL (Nat.le_of_eq (nP st).symm) ?_)|(show mq ..;refine row_of _ _ hoR rfl ?_)|(show aI _ 78 ..;(refine Wq (row:=row) (x:=fin) (out:=out) Tryz.call78 (λρ w' hw=>by have:=agM w' (ρ 2).base (ρ 2).cap row (eT hw aU) hsn hR aa out hoK;rw[hfin]at this;exact this) (λl base cap q1 q2 q3 q4=> ?_)))|refine aX ?_|refine ag ?_ ?_<;>intro _)
  all_goals(conv=>whnf)
  all_goals exact aaO rfl (λR w' h=>h.1.1.1) (λR w' h=>h.1.2) (λR w' h=>h.2) q2 q3 aa hsp (by rw[hx,<-q1])
end
section
structure Mm(row:List aT):Prop where
 known:∀(k:Nat) p,row[k]? =some p->gU row p=false
 once:∀(j k:Nat) p,j<k->row[j]? =some p->row[k]? =some p->p.ak=1
variable {row:List aT}
theorem G5{row':List aT}{p:aT}(hA:p.ak≠1->p.ak≠2->(row.getD p.a.toNat dB).ak=(row'.getD p.a.toNat dB).ak)(hB:p.ak=6->(row.getD p.b.toNat dB).ak=(row'.getD p.b.toNat dB).ak):gU row p=gU row' p:=by
 unfold gU oL
 by_cases h12:p.ak=1\/p.ak=2
 ·rw[decide_eq_true h12];rfl
 ·rw[hA aa aa]
  by_cases h6:p.ak=6
  ·rw[hB h6]
  ·rw[decide_eq_true (show p.ak≠6 from h6),Bool.true_or,Bool.true_or]
variable {m:aT} {k:Nat}
theorem T_(h:k<row.length):(row++[m]).getD k dB=row.getD k dB:=by
 rw[List.getD_eq_getElem?_getD,List.getD_eq_getElem?_getD,List.getElem?_append_left h]
theorem Pt{p:aT}(h:gZ p row.length):gU (row++[m]) p=gU row p:=
 G5 (λh1 h2=>by rw[T_ (h.a1 h1 h2)]) (λh6=>by rw[T_ (h.b1 h6)])
theorem gZ.up{p:aT}{m:Nat}(h:gZ p k)(hm:k<=m):gZ p m:=⟨h.a0,λh1 h2=>Nat.lt_of_lt_of_le (h.a1 h1 h2) hm,h.a2,h.b0,λh6=>Nat.lt_of_lt_of_le (h.b1 h6) hm,h.b2,h.ak⟩
theorem Nj{n:aT}:∀{row:List aT} {k:Nat},xm n row k=none->∀j:Nat,row[j]?≠some n
 |[],_,_,j=>by simp
 |x::r,k,h,j=>by
  unfold xm at h
  split at h
  ·cases h
  ·rename_i hs
   cases j with
   |zero=>
    simp only[List.getElem?_cons_zero,ne_eq,Option.some.injEq]
    exactλe=>hs (OV.2 e)
   |succ j=>rw[List.getElem?_cons_succ];exact Nj h j
theorem af4:Mm []:=⟨λk p h=>by simp at h,λj k p _ h=>by simp at h⟩
theorem Mm.snoc(h:Mm row)(ha:∀(k:Nat) p,row[k]? =some p->gZ p k)(hm:gZ m row.length)(hk:gU row m=false)(hf:kr row m=none):Mm (row++[m]):=by
 refine⟨λk p hp=> ?_,λj k p hjk hj hk2=> ?_⟩
 ·rcases Nat.lt_or_ge k row.length with hlt|hge
  ·rw[List.getElem?_append_left hlt]at hp
   rw[Pt ((ha k p hp).up (Nat.le_of_lt hlt))]
   exact h.known k p hp
  ·rw[List.getElem?_append_right hge]at hp
   have:m=p:=by
    cases hq:k-row.length with
    |zero=>rw[hq]at hp;simpa using hp
    |succ q=>rw[hq]at hp;simp at hp
   subst this
   rw[Pt hm];exact hk
 ·rcases Nat.lt_or_ge k row.length with hlt|hge
  ·rw[List.getElem?_append_left hlt]at hk2
   rw[List.getElem?_append_left aa]at hj
   exact h.once j k p hjk hj hk2
  ·rw[List.getElem?_append_right hge]at hk2
   have hkq:k=row.length:=by
    have:=(List.getElem?_eq_some_iff.1 hk2).1
    simp at this;omega
   subst hkq
   have:m=p:=by simpa using hk2
   subst this
   rw[List.getElem?_append_left hjk]at hj
   unfold kr at hf
   split at hf
   ·assumption
   ·exact absurd hj (Nj hf j)
theorem WM{s:List Int}{n:aT}:gU row (jZ s row n)=false:=by
 unfold jZ
 by_cases h:gU row n=true
 ·rw[if_pos h];rfl
 ·rw[if_neg h];simpa using h
theorem Pe{l:List aT}{sh:List (List Int)}{sp:List Sp}(hL:d9 l sh sp):∀i,i<=l.length->∃row st,sO l sh sp i row st/\Mm row
 |0,_=>⟨[],[],yS l sh sp,af4⟩
 |i+1,hi=>by
  obtain⟨row,st,hT,hN⟩:=Pe hL i aa
  have hn:l[i]? =some l[i]:=List.getElem?_eq_getElem aa
  refine⟨_,_,hT.step hL hn,?_⟩
  obtain⟨dY,fM,hR,hS⟩:=hT.ok
  have hlen:=hT.len
  have hn':l[st.length]? =some l[i]:=by rw[hlen];exact hn
  obtain⟨hm,_⟩:=P9 hL hR hS hn'
  rw[hlen]at hm
  unfold pg Cy
  simp only
  cases hf:kr row (jZ (gD sh i) row (bJ st l[i]))with
  |some k=>exact hN
  |none=>
   have hah:=lS hm.form
   rw[hR.wE]at hah
   exact hN.snoc (λk p hp=>hR.ahead hp) hah WM hf
def Xp(n:Nat):List Nat:=List.range n
theorem Ej{n:Nat}(h:k<n):(Xp n).getD k 0=k:=by
 unfold Xp
 rw[List.getD_eq_getElem?_getD,List.getElem?_range h];rfl
theorem R4{p:aT}{n:Nat}(h:gZ p n):bJ (Xp n) p=p:=by
 have a0:=h.a0
 have b0:=h.b0
 unfold bJ
 by_cases h12:p.ak=1\/p.ak=2
 ·rw[if_pos h12]
 ·rw[if_neg h12,Ej (h.a1 aa aa)]
  have ea:((p.a.toNat:Nat):Int)=p.a:=by omega
  by_cases h6:p.ak=6
  ·rw[if_pos h6,Ej (h.b1 h6),ea]
   have eb:((p.b.toNat:Nat):Int)=p.b:=by omega
   rw[eb]
  ·rw[if_neg h6,ea]
theorem VL(n:Nat):Xp (n+1)=Xp n++[n]:=by unfold Xp;exact List.range_succ
variable {dY:List (List Int)} {fM:List Sp}
theorem aav(hR:d9 row dY fM)(hN:Mm row){i:Nat}{p:aT}(hp:row[i]? =some p)(s:List Int):pg s (row.take i,Xp i) p=(row.take (i+1),Xp (i+1)):=by
 have hah:=hR.ahead hp
 have hil:=(List.getElem?_eq_some_iff.1 hp).1
 have hgt:∀k,k<i->(row.take i).getD k dB=row.getD k dB:=λk hk=>by
  rw[List.getD_eq_getElem?_getD,List.getD_eq_getElem?_getD,List.getElem?_take_of_lt hk]
 have hkn:gU (row.take i) p=false:=by
  rw[G5 (row':=row) (λh1 h2=>by rw[hgt _ (hah.a1 h1 h2)]) (λh6=>by rw[hgt _ (hah.b1 h6)])]
  exact hN.known i p hp
 have YG:jZ s (row.take i) (bJ (Xp i) p)=p:=by
  rw[R4 hah]
  unfold jZ
  rw[if_neg (by rw[hkn];decide)]
 have hfind:kr (row.take i) p=none:=by
  cases hf:kr (row.take i) p with
  |none=>rfl
  |some k=>
   obtain⟨h1,h2⟩:=CO hf
   have hk:=(List.getElem?_eq_some_iff.1 h2).1
   rw[List.length_take]at hk
   have hki:k<i:=by omega
   rw[List.getElem?_take_of_lt hki]at h2
   exact absurd (hN.once k i p hki h2 hp) h1
 unfold pg Cy
 simp only
 rw[YG,hfind]
 simp only
 rw[List.length_take,Nat.min_eq_left aa,VL,List.take_add_one,hp]
 rfl
theorem JZ{row:List aT}{dY:List (List Int)}{fM:List Sp}(hR:d9 row dY fM)(hN:Mm row):∀i,i<=row.length->pF (row.drop (row.length-i)) (dY.drop (row.length-i)) (row.take (row.length-i),Xp (row.length-i))=(row,Xp row.length)
 |0,_=>by
  rw[Nat.sub_zero,List.drop_length,List.take_length];rfl
 |i+1,hi=>by
  have hlt:row.length-(i+1)<row.length:=by omega
  have hl2:row.length-(i+1)<dY.length:=by rw[hR.wE];exact hlt
  rw[List.drop_eq_getElem_cons hlt,List.drop_eq_getElem_cons hl2]
  show pF _ _ (pg _ _ _)=_
  rw[aav hR hN (List.getElem?_eq_getElem hlt)]
  have e:row.length-(i+1)+1=row.length-i:=by omega
  rw[e]
  exact JZ hR hN i aa
theorem acC(hR:d9 row dY fM)(hN:Mm row):pF row dY ([],[])=(row,Xp row.length):=by
 have:=JZ hR hN row.length (Nat.le_refl _)
 rw[Nat.sub_self]at this
 exact this
theorem Zm{row:List aT}{need:Nat->Bool}(ha:∀(k:Nat) p,row[k]? =some p->gZ p k)(hn:∀(k:Nat) p,row[k]? =some p->need k=true\/p.ak=1):∀i,i<=row.length->oW need (row.drop (row.length-i)) (row.length-i) (row.take (row.length-i),Xp (row.length-i))=(row,Xp row.length)
 |0,_=>by
  rw[Nat.sub_zero,List.drop_length,List.take_length];rfl
 |i+1,hi=>by
  have hlt:row.length-(i+1)<row.length:=by omega
  have hp:=List.getElem?_eq_getElem hlt
  rw[List.drop_eq_getElem_cons hlt]
  unfold oW
  rw[if_pos (hn _ _ hp)]
  simp only
  rw[R4 (ha _ _ hp),List.length_take,Nat.min_eq_left aa,<-VL]
  have e:row.length-(i+1)+1=row.length-i:=by omega
  have e2:row.take (row.length-(i+1))++[row[row.length-(i+1)]]=row.take (row.length-i):=by
   rw[<-e,List.take_add_one,hp];rfl
  rw[e2,e]
  exact Zm ha hn i aa
variable {need:Nat->Bool}
theorem aaP(ha:∀(k:Nat) p,row[k]? =some p->gZ p k)(hn:∀(k:Nat) p,row[k]? =some p->need k=true\/p.ak=1):oW need row 0 ([],[])=(row,Xp row.length):=by
 have:=Zm ha hn row.length (Nat.le_refl _)
 rw[Nat.sub_self]at this
 exact this
theorem V6{out:Nat}(hR:d9 row dY fM)(hN:Mm row)(ho:out<row.length)(hn:∀(k:Nat) p,row[k]? =some p->mO row out k=true\/p.ak=1):kD row dY out=(row,out):=by
 unfold kD
 rw[acC hR hN]
 simp only
 rw[Ej ho,aaP (λk p hp=>hR.ahead hp) hn]
 simp only
 rw[Ej ho]
end
section
section
variable {l:List aT} {sh:List (List Int)} {sp:List Sp} {row:List aT} {dY:List (List Int)} {fM:List Sp} {st:List Nat} {n:aT} {i:Nat}
theorem aeW(hL:d9 l sh sp)(hR:d9 row dY fM)(hn:l[i]? =some n)
 (hSA:n.ak≠1->n.ak≠2->st.getD n.a.toNat 0<dY.length/\gD dY (st.getD n.a.toNat 0)=gD sh n.a.toNat/\tight (gS fM (st.getD n.a.toNat 0)) (gS sp n.a.toNat))
 (hSB:n.ak=6->st.getD n.b.toNat 0<dY.length/\gD dY (st.getD n.b.toNat 0)=gD sh n.b.toNat/\tight (gS fM (st.getD n.b.toNat 0)) (gS sp n.b.toNat)):
 ja (bJ st n).jh dY (gD sh i)/\tight (jB (bJ st n) (gD sh i) dY fM) (gS sp i):=by
 obtain⟨e0,ek,ea,ea2,eb,eb2⟩:=qH st n
 have hni:=hL.node _ _ hn
 have hah:=hL.ahead hn
 have hti:=(hL.akw hn).2
 have hf:=hni.form
 rw[hti]at hf
 have kk:n.jh.ak=n.ak:=rfl
 have hA:n.ak≠1->n.ak≠2->(bJ st n).a.toNat=st.getD n.a.toNat 0:=λh1 h2=>by rw[ea h1 h2];omega
 have hB:n.ak=6->(bJ st n).b.toNat=st.getD n.b.toNat 0:=λh=>by rw[eb h];omega
 refine⟨⟨?_,?_,?_⟩,?_⟩
 ·rw[e0]
  refine xV hf (λh1 h2=> ?_) (λh=> ?_) (λh=> ?_) (λh=> ?_)
  ·have:=(hSA h1 h2).1
   rw[ea h1 h2];omega
  ·exact ea2 h
  ·have:=(hSB h).1
   rw[eb h];omega
  ·exact eb2 h
 ·rw[e0,uV (sh:=sh.take i) (λh1 h2=> ?_) (λh=> ?_)]
  ·exact hni.ay
  ·show gD dY (bJ st n).a.toNat=gD (sh.take i) n.a.toNat
   rw[hA h1 h2,(hSA h1 h2).2.1,rY (hah.a1 h1 h2)]
  ·show gD dY (bJ st n).b.toNat=gD (sh.take i) n.b.toNat
   rw[hB h,(hSB h).2.1,rY (hah.b1 h)]
 ·rw[e0,A7];exact hni.near
 ·obtain⟨q1,q2,q3⟩:=hL.span _ _ hn
  rw[q1,yX hah]
  unfold jB
  rw[e0,NU]
  by_cases h12:n.ak=1\/n.ak=2
  ·rw[uJ (n:=n.jh) h12 _ (az (gD sh i)).toNat _ (gD sh n.a.toNat) _ _ (gS (sp.take i) n.a.toNat) (gS (sp.take i) n.b.toNat)]
   exact LW _
  ·have ha1:=hah.a1 aa aa
   have hp:=hL.place hn
   rw[rY ha1]at hp
   have sA:=hSA aa aa
   rw[hA aa aa,sA.2.1,Bb ha1]
   have lo:∀j,j<dY.length->(gS fM j).1<=(gS fM j).2:=λj hj=>by
    rw[hR.wE]at hj
    have hk':=List.getElem?_eq_getElem hj
    rw[(hR.span _ _ hk').1]
    unfold jB
    by_cases g12:(row[j]).ak=1\/(row[j]).ak=2
    ·rw[uJ (n:=(row[j]).jh) g12 _ _ _ _ _ _ (0,0) (0,0)]
     exact En (hR.place hk') (0,0) (0,0)
    ·have:=(hR.ahead hk').a1 aa aa
     have hp2:=hR.place hk'
     rw[rY this]at hp2
     exact En hp2 _ _
   refine Mt hp (λh1 h2=>⟨sA.2.2,lo _ sA.1⟩) (λh6=> ?_)
   have h6':n.ak=6:=h6
   have hb1:=hah.b1 h6'
   have sB:=hSB h6'
   rw[hB h6',Bb hb1]
   exact⟨sB.2.2,lo _ sB.1⟩
end
abbrev qM(row:List aT)(need:Nat->Bool)(k:Nat):Prop:=need k=true\/(row.getD k dB).ak=1
structure tL(row:List aT)(dY:List (List Int))(fM:List Sp)(need:Nat->Bool)(i:Nat)(r:List aT)(p:List Nat):Prop where
 rest:oW need (row.drop i) i (r,p)=oW need row 0 ([],[])
 len:p.length=i
 few:r.length<=i
 at_:∀k,k<i->qM row need k->r[p.getD k 0]? =some (bJ p (row.getD k dB))
 inv:∀j,j<r.length->∃k,k<i/\qM row need k/\p.getD k 0=j
 mono:∀j k,j<k->k<i->qM row need j->qM row need k->p.getD j 0<p.getD k 0
 ok:∃K_ KY,d9 r K_ KY/\∀k,k<i->qM row need k->gD K_ (p.getD k 0)=gD dY k/\tight (gS KY (p.getD k 0)) (gS fM k)
theorem nI{p:List Nat}{y k:Nat}(h:k<p.length):(p++[y]).getD k 0=p.getD k 0:=by
 rw[List.getD_eq_getElem?_getD,List.getD_eq_getElem?_getD,List.getElem?_append_left h]
theorem Dp{p:List Nat}{y k:Nat}(h:k=p.length):(p++[y]).getD k 0=y:=by
 subst h
 rw[List.getD_eq_getElem?_getD,List.getElem?_append_right (Nat.le_refl _),Nat.sub_self];rfl
section
variable {row:List aT} {dY:List (List Int)} {fM:List Sp} {need:Nat->Bool}
theorem BA{n:aT}(h1:n.ak≠1)(h2:n.ak≠2):n.a∈df n:=by
 unfold df
 rw[if_neg aa]
 split<;>simp
theorem Ip{n:aT}(h6:n.ak=6):n.b∈df n:=by
 unfold df
 rw[if_neg aa,if_pos h6];simp
theorem tL.steps(hR:d9 row dY fM)(hcl:∀k,k<row.length->need k=true->∀t∈df (row.getD k dB),need t.toNat=true){i:Nat}{r:List aT}{p:List Nat}(h:tL row dY fM need i r p)(hi:i<row.length):(qM row need i->tL row dY fM need (i+1) (r++[bJ p (row.getD i dB)]) (p++[r.length]))/\(¬qM row need i->tL row dY fM need (i+1) r (p++[0])):=by
 obtain⟨h1,rfl,h3,h4,h5,h6,K_,KY,hR',h7⟩:=h
 have hp:=getD_some hi
 have hah:∀k,k<row.length->gZ (row.getD k dB) k:=λk hk=>hR.ahead (getD_some hk)
 have hrest:=h1
 have hdr:row.drop p.length=row.getD p.length dB::row.drop (p.length+1):=by
  rw[List.drop_eq_getElem_cons hi,List.getD_eq_getElem?_getD,List.getElem?_eq_getElem hi];rfl
 rw[hdr,EL]at hrest
 have hms:∀k y,k<p.length->bJ (p++[y]) (row.getD k dB)=bJ p (row.getD k dB):=λk y hk=>CR ((hah k aa).up (Nat.le_of_lt hk))
 refine⟨λhk=> ?_,λhk=> ?_⟩
 ·rw[if_pos hk]at hrest
  simp only at hrest
  have hlt:∀k,k<p.length->qM row need k->p.getD k 0<r.length:=λk hk hq=>(List.getElem?_eq_some_iff.1 (h4 k hk hq)).1
  have hkt:(row.getD p.length dB).ak≠1->∀t∈df (row.getD p.length dB),qM row need t.toNat:=λhne t ht=> .inl (hcl _ hi (hk.resolve_right hne) t ht)
  have hai:=hah _ hi
  have hl2:=hR'.wE
  obtain⟨hm,ht⟩:=aeW (st:=p) hR hR' hp
   (λg1 g2=>by
     have ha:=hai.a1 g1 g2
     have hq:=hkt g1 _ (BA g1 g2)
     exact⟨by rw[hl2];exact hlt _ ha hq,(h7 _ ha hq).1,(h7 _ ha hq).2⟩)
   (λg6=>by
     have hb:=hai.b1 g6
     have hq:=hkt aa _ (Ip g6)
     exact⟨by rw[hl2];exact hlt _ hb hq,(h7 _ hb hq).1,(h7 _ hb hq).2⟩)
  have TH:=(hR.span _ _ hp).2
  have hR2:=hR'.snoc hm Wj Wj
  have hl3:=hR'.ahq
  refine⟨hrest,by simp,by simp;omega,λk hk1 hk2=> ?_,λj hj=> ?_,λj k hjk hk1 hj2 hk2=> ?_,_,_,hR2,λk hk1 hk2=> ?_⟩
  ·rcases Nat.lt_or_ge k p.length with hlk|hge
   ·rw[nI hlk,hms k _ hlk,List.getElem?_append_left (hlt k hlk hk2)]
    exact h4 k hlk hk2
   ·obtain rfl:k=p.length:=by omega
    rw[Dp rfl,List.getElem?_append_right (Nat.le_refl _),Nat.sub_self,CR hai];rfl
  ·rw[List.length_append,List.length_singleton]at hj
   rcases Nat.lt_or_ge j r.length with hlj|hge
   ·obtain⟨k,q1,q2,q3⟩:=h5 j hlj
    exact⟨k,by omega,q2,by rw[nI q1];exact q3⟩
   ·exact⟨p.length,by omega,hk,by rw[Dp rfl];omega⟩
  ·rcases Nat.lt_or_ge k p.length with hlk|hge
   ·rw[nI hlk,nI aa]
    exact h6 j k hjk hlk hj2 hk2
   ·obtain rfl:k=p.length:=by omega
    rw[Dp rfl,nI hjk]
    exact hlt j hjk hj2
  ·rcases Nat.lt_or_ge k p.length with hlk|hge
   ·have hlr:=hlt k hlk hk2
    rw[nI hlk,Dx aa,Ep aa]
    exact h7 k hlk hk2
   ·obtain rfl:k=p.length:=by omega
    rw[Dp rfl,I7 aa,PG aa]
    exact⟨rfl,ht⟩
 ·rw[if_neg hk]at hrest
  simp only at hrest
  have hne:∀k,k<p.length+1->qM row need k->k<p.length:=λk h1 h2=>by
   rcases Nat.lt_or_ge k p.length with h|h
   ·exact h
   ·obtain rfl:k=p.length:=by omega
    exact absurd h2 hk
  refine⟨hrest,by simp,by omega,λk hk1 hk2=> ?_,λj hj=> ?_,λj k hjk hk1 hj2 hk2=> ?_,K_,KY,hR',λk hk1 hk2=> ?_⟩
  ·have hlk:=hne k hk1 hk2
   rw[nI hlk,hms k _ hlk]
   exact h4 k hlk hk2
  ·obtain⟨k,q1,q2,q3⟩:=h5 j hj
   exact⟨k,by omega,q2,by rw[nI q1];exact q3⟩
  ·have hlk:=hne k hk1 hk2
   rw[nI hlk,nI aa]
   exact h6 j k hjk hlk hj2 hk2
  ·have hlk:=hne k hk1 hk2
   rw[nI hlk]
   exact h7 k hlk hk2
theorem tL.step(hR:d9 row dY fM)(hcl:∀k,k<row.length->need k=true->∀t∈df (row.getD k dB),need t.toNat=true){i:Nat}{r:List aT}{p:List Nat}(h:tL row dY fM need i r p)(hi:i<row.length):∃r' p',tL row dY fM need (i+1) r' p':=by
 by_cases hk:qM row need i
 ·exact⟨_,_,(h.steps hR hcl hi).1 hk⟩
 ·exact⟨_,_,(h.steps hR hcl hi).2 hk⟩
theorem ad1(hR:d9 row dY fM)(hcl:∀k,k<row.length->need k=true->∀t∈df (row.getD k dB),need t.toNat=true):∀i,i<=row.length->∃r p,tL row dY fM need i r p
 |0,_=>⟨[],[],rfl,rfl,Nat.le_refl _,λk hk=>absurd hk (Nat.not_lt_zero _),λj hj=>absurd hj (Nat.not_lt_zero _),λj k _ hk=>absurd hk (Nat.not_lt_zero _),[],[],d9.nil,λk hk=>absurd hk (Nat.not_lt_zero _)⟩
 |i+1,hi=>by
  obtain⟨r,p,h⟩:=ad1 hR hcl i aa
  exact h.step hR hcl aa
theorem ajQ(hR:d9 row dY fM)(hcl:∀k,k<row.length->need k=true->∀t∈df (row.getD k dB),need t.toNat=true):tL row dY fM need row.length (oW need row 0 ([],[])).1 (oW need row 0 ([],[])).2:=by
 obtain⟨r,p,h⟩:=ad1 hR hcl row.length (Nat.le_refl _)
 have e:=h.rest
 rw[List.drop_length]at e
 have e:(r,p)=oW need row 0 ([],[]):=e
 rw[<-e];exact h
end
end
section
section
variable {row:List aT} {dY:List (List Int)} {fM:List Sp} {need:Nat->Bool} {r:List aT} {p:List Nat}
theorem tL.get(h:tL row dY fM need row.length r p){k:Nat}(hk:k<row.length)(hq:qM row need k):p.getD k 0<r.length/\r.getD (p.getD k 0) dB=bJ p (row.getD k dB):=by
 have:=h.at_ k hk hq
 refine⟨(List.getElem?_eq_some_iff.1 this).1,?_⟩
 rw[List.getD_eq_getElem?_getD,this];rfl
theorem tL.back(h:tL row dY fM need row.length r p){j:Nat}{m:aT}(hm:r[j]? =some m):∃k,k<row.length/\qM row need k/\p.getD k 0=j/\m=bJ p (row.getD k dB):=by
 obtain⟨k,h1,h2,h3⟩:=h.inv j (List.getElem?_eq_some_iff.1 hm).1
 have:=h.at_ k h1 h2
 rw[h3,hm]at this
 exact⟨k,h1,h2,h3,by simpa using this⟩
theorem tL.inj(h:tL row dY fM need row.length r p){j k:Nat}(hj:j<row.length)(hk:k<row.length)(hqj:qM row need j)(hqk:qM row need k)(e:p.getD j 0=p.getD k 0):j=k:=by
 rcases Nat.lt_trichotomy j k with hlt|he|hgt
 ·have:=h.mono j k hlt hk hqj hqk;omega
 ·exact he
 ·have:=h.mono k j hgt hj hqk hqj;omega
theorem Da(hcl:∀k,k<row.length->need k=true->∀t∈df (row.getD k dB),need t.toNat=true){k:Nat}(hk:k<row.length)(hq:qM row need k)(h1:(row.getD k dB).ak≠1){t:Int}(ht:t∈df (row.getD k dB)):qM row need t.toNat:= .inl (hcl k hk (hq.resolve_right h1) t ht)
theorem afR(hR:d9 row dY fM)(hN:Mm row)(hcl:∀k,k<row.length->need k=true->∀t∈df (row.getD k dB),need t.toNat=true)(h:tL row dY fM need row.length r p):Mm r:=by
 have hah:∀k,k<row.length->gZ (row.getD k dB) k:=λk hk=>hR.ahead (getD_some hk)
 refine⟨λj m hm=> ?_,λj1 j2 m hj h1 h2=> ?_⟩
 ·obtain⟨k,hk,hq,hpk,rfl⟩:=h.back hm
  have hn:=hN.known k _ (getD_some hk)
  have hai:=hah k hk
  have hkt:=λt ht h1=>Da (t:=t) hcl hk hq h1 ht
  generalize row.getD k dB=q at*
  obtain⟨_,ek,ea,_,eb,_⟩:=qH p q
  unfold gU oL at hn|-
  rw[ek]
  by_cases h12:q.ak=1\/q.ak=2
  ·rw[decide_eq_true h12];rfl
  ·have key:∀t,t.toNat<k->t∈df q->(r.getD (p.getD t.toNat 0) dB).ak=(row.getD t.toNat dB).ak:=λt h1 h2=>by
    rw[(h.get aa (hkt t h2 aa)).2]
    exact(qH p _).2.1
   have eA:(r.getD (bJ p q).a.toNat dB).ak=(row.getD q.a.toNat dB).ak:=by
    rw[ea aa aa,Int.toNat_natCast]
    exact key q.a (hai.a1 aa aa) (BA aa aa)
   rw[eA]
   by_cases h6:q.ak=6
   ·have eB:(r.getD (bJ p q).b.toNat dB).ak=(row.getD q.b.toNat dB).ak:=by
     rw[eb h6,Int.toNat_natCast]
     exact key q.b (hai.b1 h6) (Ip h6)
    rw[eB];exact hn
   ·rw[decide_eq_true (show q.ak≠6 from h6),Bool.true_or]at hn|-
    exact hn
 ·obtain⟨k1,hk1,hq1,hp1,e1⟩:=h.back h1
  obtain⟨k2,hk2,hq2,hp2,e2⟩:=h.back h2
  have hne:k1≠k2:=λe=>by subst e;omega
  have hsame:row.getD k1 dB=row.getD k2 dB:=by
   have hai1:=hah k1 hk1
   have hai2:=hah k2 hk2
   have anA:=λt ht h1=>Da (t:=t) hcl hk1 hq1 h1 ht
   have afM:=λt ht h1=>Da (t:=t) hcl hk2 hq2 h1 ht
   have e:bJ p (row.getD k1 dB)=bJ p (row.getD k2 dB):=by rw[<-e1,e2]
   generalize row.getD k1 dB=q1 at*
   generalize row.getD k2 dB=q2 at*
   have hkk:q1.ak=q2.ak:=by rw[<-(qH p q1).2.1,<-(qH p q2).2.1,e]
   have a1:=hai1.a0
   have a2:=hai2.a0
   have b1:=hai1.b0
   have b2:=hai2.b0
   have hinj:∀t1 t2:Int,0<=t1->0<=t2->t1.toNat<k1->t2.toNat<k2->t1∈df q1->t2∈df q2->q1.ak≠1->p.getD t1.toNat 0=p.getD t2.toNat 0->t1=t2:=λt1 t2 g1 g2 g3 g4 g5 g6 g7 g8=>by
    have:=h.inj aa aa (anA t1 g5 g7) (afM t2 g6 aa) g8
    omega
   have ee:=e
   unfold bJ at ee
   by_cases h12:q1.ak=1\/q1.ak=2
   ·rw[if_pos h12,if_pos (show q2.ak=1\/q2.ak=2 by omega)]at ee;exact ee
   ·rw[if_neg h12,if_neg (show¬(q2.ak=1\/q2.ak=2) by omega)]at ee
    by_cases h6:q1.ak=6
    ·rw[if_pos h6,if_pos (show q2.ak=6 by omega)]at ee
     simp only[aT.mk.injEq]at ee
     obtain⟨c1,c2,c3,c4,c5,c6,c7,c8,c9⟩:=ee
     have ga:=hinj q1.a q2.a a1 a2 (hai1.a1 aa aa) (hai2.a1 aa aa) (BA aa aa) (BA aa aa) aa aa
     have gb:=hinj q1.b q2.b b1 b2 (hai1.b1 h6) (hai2.b1 aa) (Ip h6) (Ip aa) aa aa
     cases q1;cases q2;simp only at*;subst_vars;rfl
    ·rw[if_neg h6,if_neg (show¬q2.ak=6 by omega)]at ee
     simp only[aT.mk.injEq]at ee
     obtain⟨c1,c2,c3,c4,c5,c6,c7,c8,c9⟩:=ee
     have ga:=hinj q1.a q2.a a1 a2 (hai1.a1 aa aa) (hai2.a1 aa aa) (BA aa aa) (BA aa aa) aa aa
     cases q1;cases q2;simp only at*;subst_vars;rfl
  have g1:=getD_some hk1
  have g2:=getD_some hk2
  rw[<-hsame]at g2
  have hkind:(row.getD k1 dB).ak=1:=by
   rcases Nat.lt_or_gt_of_ne hne with hlt|hgt
   ·exact hN.once k1 k2 _ hlt g1 g2
   ·exact hN.once k2 k1 _ hgt g2 g1
  rw[e1,(qH p _).2.1];exact hkind
theorem Tu{q:aT}{t:Int}(ht:t∈df q):((p.getD t.toNat 0:Nat):Int)∈df (bJ p q):=by
 unfold df at ht
 split at ht
 ·simp at ht
 ·rename_i h12
  split at ht
  ·rename_i h6
   have e:bJ p q={q with a:=p.getD q.a.toNat 0,b:=p.getD q.b.toNat 0}:=by unfold bJ;rw[if_neg h12,if_pos h6]
   rw[e]
   unfold df
   rw[if_neg h12,if_pos h6]
   simp only[List.mem_cons,List.not_mem_nil,or_false]at ht|-
   rcases ht with rfl|rfl
   ·exact .inl rfl
   ·exact .inr rfl
  ·rename_i h6
   have e:bJ p q={q with a:=p.getD q.a.toNat 0}:=by unfold bJ;rw[if_neg h12,if_neg h6]
   rw[e]
   unfold df
   rw[if_neg h12,if_neg h6]
   simp only[List.mem_singleton]at ht|-
   rw[ht]
end
theorem R7{row:List aT}{dY:List (List Int)}{fM:List Sp}{out:Nat}(hR:d9 row dY fM)(ho:out<row.length):∀k,k<row.length->mO row out k=true->∀t∈df (row.getD k dB),mO row out t.toNat=true:=λk _ hk t ht=>
 (o5 hR.C8 ho _).2 (.step ((o5 hR.C8 ho k).1 hk) ht)
theorem ae8{row:List aT}{dY:List (List Int)}{fM:List Sp}{out k:Nat}(hR:d9 row dY fM)(ho:out<row.length)(h:Reach row out k):k<row.length:=by
 induction h with
 |refl=>exact ho
 |step _ ht ih=>
  have:=SG (hR.ahead (getD_some ih)) _ ht
  omega
theorem Vu{l:List aT}{sh:List (List Int)}{sp:List Sp}(hL:d9 l sh sp){out:Nat}(ho:out<l.length):∃dY fM,d9 (kD l sh out).1 dY fM/\(kD l sh out).2<(kD l sh out).1.length/\(kD l sh out).1.length<=l.length/\kD (kD l sh out).1 dY (kD l sh out).2=kD l sh out:=by
 obtain⟨row,st,hT,hN⟩:=Pe hL l.length (Nat.le_refl _)
 have hd:=hT.done
 have oz:=hT.few
 have hlen:=hT.len
 obtain⟨dY,fM,hR,hS⟩:=hT.ok
 have hout:st.getD out 0<row.length:=by have:=hS.lt out aa;rwa[hR.wE]at this
 have hcl:=R7 hR hout
 have hC:=ajQ (dY:=dY) (fM:=fM) hR hcl
 have hno:qM row (mO row (st.getD out 0)) (st.getD out 0):= .inl ((o5 hR.C8 hout _).2 (.refl _))
 have e:kD l sh out=((oW (mO row (st.getD out 0)) row 0 ([],[])).1,(oW (mO row (st.getD out 0)) row 0 ([],[])).2.getD (st.getD out 0) 0):=by unfold kD;rw[hd]
 rw[e]
 simp only
 generalize hx:oW (mO row (st.getD out 0)) row 0 ([],[])=x at*
 obtain⟨r,p⟩:=x
 simp only at hC|-
 generalize st.getD out 0=o at*
 have hNr:=afR hR hN hcl hC
 obtain⟨K_,KY,hR',h7⟩:=hC.ok
 obtain⟨hpo,_⟩:=hC.get hout hno
 refine⟨K_,KY,hR',hpo,Nat.le_trans hC.few oz,V6 hR' hNr hpo λj m hm=> ?_⟩
 obtain⟨k,hk,hq,hpk,hmk⟩:=hC.back hm
 rcases hq with hq|hq
 ·left
  rw[o5 hR'.C8 hpo,<-hpk]
  have hr:=(o5 hR.C8 hout k).1 hq
  clear hq hpk hk hmk hm
  induction hr with
  |refl=>exact .refl _
  |step hrj ht ih=>
   rename_i j' t'
   have hj:=ae8 hR hout hrj
   have hkj:qM row (mO row o) j':= .inl ((o5 hR.C8 hout _).2 hrj)
   have hg:=(hC.get hj hkj).2
   have:=Reach.step ih (t:=((p.getD t'.toNat 0:Nat):Int)) (by rw[hg];exact Tu ht)
   rw[Int.toNat_natCast]at this
   exact this
 ·right
  rw[hmk,(qH p _).2.1];exact hq
end
def mr(p:aT):Prop:=p.data.length<=5000/\p.aM.length<=5000
theorem abY(s:List Int)(row:List aT)(n:aT):(kR s row n).length<=5000:=by
 have hb:=dQ s
 have e:(kR s row n).length=(az s).toNat:=by
  unfold kR kN gF mM
  split<;>simp
 omega
theorem G8{st:List Nat}{n:aT}(h:mr n):mr (bJ st n):=by
 unfold bJ
 split
 ·exact h
 ·split<;>exact h
theorem WY{s:List Int}{row:List aT}{n:aT}(h:mr n):mr (jZ s row n):=by
 unfold jZ
 split
 ·exact⟨abY _ _ _,Nat.zero_le _⟩
 ·exact h
theorem LD{row:List aT}{n:aT}(h:∀p∈row,mr p)(hn:mr n):∀p∈row++[n],mr p:=λp hp=>by
 rcases List.mem_append.1 hp with hp|hp
 ·exact h p hp
 ·rw[List.mem_singleton.1 hp];exact hn
theorem WO{s:List Int}{x:List aT×List Nat}{n:aT}(h:∀p∈x.1,mr p)(hn:mr n):∀p∈(pg s x n).1,mr p:=by
 show∀p∈(Cy x.1 (jZ s x.1 (bJ x.2 n))).1,mr p
 unfold Cy
 split
 ·exact h
 ·exact LD h (WY (G8 hn))
theorem Gu:∀(l:List aT) (sh:List (List Int)) (x:List aT×List Nat),(∀p∈l,mr p)->(∀p∈x.1,mr p)->∀p∈(pF l sh x).1,mr p
 |[],_,x,_,h=>by unfold pF;exact h
 |n::r,[],x,_,h=>by unfold pF;exact h
 |n::r,s::ss,x,hl,h=>by
  unfold pF
  exact Gu r ss _ (λp hp=>hl p (List.mem_cons_of_mem _ hp)) (WO h (hl n List.mem_cons_self))
theorem Pf{need:Nat->Bool}:∀(l:List aT) (i:Nat) (x:List aT×List Nat),(∀p∈l,mr p)->(∀p∈x.1,mr p)->∀p∈(oW need l i x).1,mr p
 |[],_,x,_,h=>by unfold oW;exact h
 |n::r,i,x,hl,h=>by
  unfold oW
  refine Pf r (i+1) _ (λp hp=>hl p (List.mem_cons_of_mem _ hp)) ?_
  split
  ·exact LD h (G8 (hl n List.mem_cons_self))
  ·exact h
theorem Uz{l:List aT}{sh:List (List Int)}{out:Nat}(hl:∀p∈l,mr p):∀p∈(kD l sh out).1,mr p:=
 Pf _ _ _ (Gu _ _ _ hl (λ_ h=>by cases h)) (λ_ h=>by cases h)
def YD(g:bG):bG:=⟨none,0,(kD (g.l.map ai.pl) (check g).2 g.out.toNat).1.map aT.jh,(kD (g.l.map ai.pl) (check g).2 g.out.toNat).2⟩
theorem ajS(l:List aT):(l.map aT.jh).map ai.pl=l:=by
 rw[List.map_map]
 exact(List.map_congr_left (λ_ _=>rfl)).trans (List.map_id l)
structure uW(g t:bG):Prop where
 l:t.l.map ai.pl=(kD (g.l.map ai.pl) (check g).2 g.out.toNat).1
 out:t.out=(kD (g.l.map ai.pl) (check g).2 g.out.toNat).2
 bq:∀n∈t.l,n.iJ
theorem uW.spans{g t:bG}(h:uW g t)(hsp:(bX g).1=0):(bX t).1=0:=by
 have hR:=zS hsp
 obtain⟨hck,_,_⟩:=jw hsp
 obtain⟨hl1,wT,hout,hcl,_⟩:=iq hck
 obtain⟨dY,fM,h1,h2,h3,_⟩:=Vu hR (out:=g.out.toNat) aaw
 rw[List.length_map]at h3
 have:=h1.spans aa h.l (by rw[h.out];exact Int.natCast_nonneg _) (by rw[h.out];omega)
 rw[this]
theorem uW.lower{g t:bG}(h:uW g t)(aR:Int)(giant:Bool)(m:Nat):kG t aR giant m=kG (YD g) aR giant m:=
 Nk (by rw[h.l];exact(ajS _).symm) h.out aR giant m
theorem uW.ok{g t:bG}(h:uW g t)(hg:∀n∈g.l,n.small)(hl:g.l.length<=24){w:World}(hr:bu w t.base 9 (bF t.l))(he:∀n∈t.l,n.ok w)(hsp:(bX g).1=0):t.ok w:=by
 obtain⟨hck,_,_⟩:=jw (h.spans hsp)
 obtain⟨hl1,wT,hout,_,_⟩:=iq hck
 refine⟨hr,he,λn hn=> ?_,by omega,by unfold i64;omega⟩
 have hm:n.pl∈(kD (g.l.map ai.pl) (check g).2 g.out.toNat).1:=by rw[<-h.l];exact List.mem_map.2 ⟨n,hn,rfl⟩
 have:=Uz (λp hp=>by obtain⟨m,hm,rfl⟩:=List.mem_map.1 hp;exact⟨(hg m hm).data,(hg m hm).aM⟩) n.pl hm
 exact⟨this.1,this.2⟩
def ajD(l:List ai):bN where
 holds R w:=∀n∈l,(bE n.ay).holds R w/\(bE n.data).holds R w/\(bE n.aM).holds R w
 stable:=λhR hw h n hn=>⟨(bE n.ay).stable hR hw (h n hn).1,(bE n.data).stable hR hw (h n hn).2.1,(bE n.aM).stable hR hw (h n hn).2.2⟩
theorem V7{cx:Cx}{f:FuncId}{args:List SV}{H:Heap}{S:bN}{nx:Nat}{K:SV->Heap->bN->Nat->Prop}(g:bG)(hsp:(bX g).1=0)(hsm:∀n∈g.l,n.small)(hl:g.l.length<=24)(hf:∀ar w,(callFunc f ar).run cx.P w= .ok (.enter f ar) w)
 (hc:∀ρ w',eD cx.B ρ nx H S w'->Calls cx.P f (SV.eO ρ args).toArray w' (KE w' (bX g).1 (kD (g.l.map ai.pl) (check g).2 g.out.toNat)))
 (h:∀t:bG,uW g t->K (.c (.tuple #[t.val,.int .i64 0])) H (S.and ((vX λw=>t.ok w).past cx.B.w0.heap.size)) nx):aI cx f args H S nx K:=by
 refine gX hf (λt:bG=> .tuple #[t.val,.int .i64 0]) (λt=>vX λw=>t.ok w) (λt=>uW g t) (λρ w' hw=>(hc ρ w' hw).mono ?_) (λt ht=>h t ht)
 rintro e w2 (⟨hr,_⟩|⟨_,l,base,cap,hx,hko,hcap,rfl,he,F,G,hF,hG,hFG,hn,hrow⟩)
 ·exact absurd hsp hr
 ·have hT:uW g ⟨base,cap,l,(kD (g.l.map ai.pl) (check g).2 g.out.toNat).2⟩:=⟨hx,rfl,λn hn=>(hko n hn).1⟩
  refine⟨⟨base,cap,l,(kD (g.l.map ai.pl) (check g).2 g.out.toNat).2⟩,hT,rfl,he,(fC base 9 (bF l)).and (ajD l),⟨(fC base 9 (bF l)).mono hrow hG,λn hn2=>⟨AZ ((vN n.ay).mono (hn n hn2).1 hF),AZ ((vN n.data).mono (hn n hn2).2.1 hF),AZ ((vN n.aM).mono (hn n hn2).2.2 hF)⟩⟩,λR w h=>hT.ok hsm hl (aV h.1) (λn hn2=>Vx (hko n hn2).1 ⟨uH (h.2 n hn2).1,uH (h.2 n hn2).2.1,uH (h.2 n hn2).2.2⟩) hsp⟩
section
def ow(g:bG)(o:Aw)(aj:Int):qY×Int:=if mD o aj then(if(bX g).1≠0 then(uZ,(bX g).1)else kG (if o.tidy=true then YD g else g) o.aR o.giant aj.toNat)else(uZ,1)
def zw(z:Int)(k:Nat):Bool:=(List.range k).any λj=>decide (z=((4*2^j:Nat):Int))
theorem Sw(z:Int)(k:Nat):zw z (k+1)=(zw z k||decide (z=((4*2^k:Nat):Int))):=by
 unfold zw;rw[List.range_succ,List.any_append];simp
theorem abQ:((List.range 2049).all λn=>decide (n<4)||((decide (bitsOf .and .i64 (n:Int) ((n:Int)-1)=0))==zw (n:Int) 10))=true:=by kernel_rfl
theorem acU{z:Int}:zw z 10=true↔(4<=z/\z<=2048/\bitsOf .and .i64 z (z-1)=0):=by
 have key:∀n:Nat,4<=n->n<=2048->((bitsOf .and .i64 (n:Int) ((n:Int)-1)=0)↔zw (n:Int) 10=true):=λn h1 h2=>by
  have h:=List.all_eq_true.1 abQ n (List.mem_range.2 aa)
  rw[decide_eq_false aa,Bool.false_or]at h
  rw[<-(beq_iff_eq.1 h)]
  exact decide_eq_true_iff.symm
 constructor
 ·intro h
  have hz:4<=z/\z<=2048:=by
   obtain⟨j,hj,he⟩:=List.any_eq_true.1 h
   have hj:=List.mem_range.1 hj
   have he:=of_decide_eq_true he
   have h1:2^j<=2^9:=Nat.pow_le_pow_right aY aa
   have h2:1<=2^j:=Nat.one_le_two_pow
   have h3:4*2^j<=2048:=by omega
   omega
  obtain⟨n,rfl⟩:∃n:Nat,z=n:=⟨z.toNat,by omega⟩
  exact⟨hz.1,hz.2,(key n aa aa).2 h⟩
 ·rintro⟨h1,h2,h3⟩
  obtain⟨n,rfl⟩:∃n:Nat,z=n:=⟨z.toNat,by omega⟩
  exact(key n aa aa).1 h3
variable {cx:Cx} {f:FuncId} {args:List SV} {H:Heap} {S:bN} {nx:Nat} {K:SV->Heap->bN->Nat->Prop}
theorem Yc{g:bG}(r:Int)(x:List aT×Nat)(hf:∀ar w,(callFunc f ar).run cx.P w= .ok (.enter f ar) w)
 (hc:∀ρ w',eD cx.B ρ nx H S w'->Calls cx.P f (SV.eO ρ args).toArray w' (AX g w' r x))
 (h0:r≠0->K (.c (.tuple #[.agg #[.slice none 0 0,.int .i64 0],.int .i64 r])) H S nx)
 (h1:r=0->∀(l:List ai) (base:Option Addr) (cap:Nat),l.map ai.pl=x.1->(∀n∈l,n.iJ)->l.length<=24->K (.c (.tuple #[.agg #[.slice base l.length cap,.int .i64 x.2],.int .i64 0])) H (S.and (((fC base 9 (bF l)).and (xI (qp g) 0 l)).past cx.B.w0.heap.size)) nx):aI cx f args H S nx K:=by
 rw[gN]
 refine⟨hf,λρ w hw=>(hc ρ w hw).mono ?_⟩
 rintro e w' (⟨hr,rfl,he⟩|⟨hr,l,base,cap,hx,hs,hl,rfl,he,hrow,amb⟩)
 ·exact⟨.c (.tuple #[.agg #[.slice none 0 0,.int .i64 0],.int .i64 r]),ρ,H,S,nx,rfl,λ_ _=>rfl,Nat.le_refl _,SV.jk _,hw.ext he,h0 hr⟩
 ·refine⟨.c (.tuple #[.agg #[.slice base l.length cap,.int .i64 x.2],.int .i64 0]),ρ,H,_,nx,rfl,λ_ _=>rfl,Nat.le_refl _,SV.jk _,hw.grow (D:=(fC base 9 (bF l)).and (xI (qp g) 0 l)) he ⟨hrow,λn hn=> ?_⟩,h1 hr l base cap hx hs hl⟩
  have h:=amb n hn
  have key:∀u,(KP (qp g) w.heap.size u).holds (λb=>b<w'.heap.size) w'->(KP (qp g) 0 u).holds (λb=>w.heap.size<=b/\b<w'.heap.size) w':=λu hu=>hu.imp id λhu=>(bE u).stable (λb hb=>⟨⟨hb.2,hb.1⟩,Nat.zero_le _⟩) (λ_ _=>rfl) hu
  exact⟨key _ h.1,key _ h.2.1,key _ h.2.2⟩
theorem Tn(g:bG)(hsp:(bX g).1=0)(hgk:∀n∈g.l,n.small)(hl:g.l.length<=24)(hgs:g.ok cx.B.w0)(hS:∀R w,S.holds R w->(aO cx.B.w0).holds R w)(hf:∀ar w,(callFunc f ar).run cx.P w= .ok (.enter f ar) w)
 (hc:∀ρ w',eD cx.B ρ nx H S w'->Calls cx.P f (SV.eO ρ args).toArray w' (AX g w' (bX g).1 (kD (g.l.map ai.pl) (check g).2 g.out.toNat)))
 (h:∀t:bG,uW g t->(∀{R:Nat->Prop} {w:World},(S.and (((fC t.base 9 (bF t.l)).and (xI (qp g) 0 t.l)).past cx.B.w0.heap.size)).holds R w->t.ok w)->K (.c (.tuple #[t.val,.int .i64 0])) H (S.and (((fC t.base 9 (bF t.l)).and (xI (qp g) 0 t.l)).past cx.B.w0.heap.size)) nx):aI cx f args H S nx K:=by
 refine Yc (g:=g) _ _ hf hc (λh=>absurd hsp h) (λ_ l base cap hx hs _=> ?_)
 have hT:uW g ⟨base,cap,l,(kD (g.l.map ai.pl) (check g).2 g.out.toNat).2⟩:=⟨hx,rfl,hs⟩
 exact h ⟨base,cap,l,(kD (g.l.map ai.pl) (check g).2 g.out.toNat).2⟩ hT (λh=>hT.ok hgk hl (aV h.2.1) (yf (N:=0) (ZV hgs.each) hs (hS _ _ h.1) ((xI (qp g) 0 l).stable (λb hb=>hb.1) (λ_ _=>rfl) h.2.2)) hsp)
theorem Qs(w:World)(g:bG)(o:Aw)(aj:Int)(hg:g.ok w)(h64:i64 aj):Calls Tryz.prog 10 #[g.val,o.val,.int .i64 aj] w (oI w (ow g o aj)):=by
 refine fH Tryz.func10 [.agg [.c (.slice g.base g.l.length g.cap),ax g.out],.agg [ax o.aR,.c (.bool o.tidy),.c (.bool o.lazy),.c (.bool o.giant),ax o.rows],ax aj] ?_
 repeat' ((conv=>whnf)<;>first|refine aX ?_)
 refine Wp.loop (σ:=Nat×Nat×Bool) 3 (λq=>[(2,ax aj),(3,.lp 0 0 0 0),(4,.lp 1 0 0 0),(6,.lp 2 0 0 0),(8,.c (.bool q.2.2)),(9,ax q.2.1)]) (λ_=>[(2,.box [ax 0,.c (.slice none 0 0),.c (.slice none 0 0),.c (.slice none 0 0),ax 0,.c (.slice none 0 0)] 34),(1,.box [ax o.aR,.c (.bool o.tidy),.c (.bool o.lazy),.c (.bool o.giant),ax o.rows] 26),(0,.box [.c (.slice g.base g.l.length g.cap),ax g.out] 24)]) (λ_=>aO w)
  (λq=>q.1<=10/\q.2.1=4*2^q.1/\q.2.2=zw aj q.1) (λq=>10-q.1) (0,4,false) [] aY (λ_=>⟨rfl,rfl⟩) ⟨Nat.zero_le _,rfl,rfl⟩ ⟨rfl,⟨rfl,rfl,rfl,rfl,rfl,rfl,trivial⟩,bM,λR w' h=>h⟩ ?_
 rintro⟨k,p,b⟩ ⟨hk,hp,hb⟩
 simp only at hk hp hb
 by_cases hlt:k<10
 ·have hp1:p<=2048:=by
   have h1:2^k<=2^9:=Nat.pow_le_pow_right aY aa
   omega
  have h2p:2*(p:Int)=((2*p:Nat):Int):=by push_cast;rfl
  have hp2:2*p=4*2^(k+1):=by rw[hp,Nat.pow_succ];omega
  have hs:=Sw aj k
  rw[<-hb,<-hp]at hs
  obtain⟨b2,hb2⟩:∃b2,(b||decide (aj=(p:Int)))=b2:=⟨_,rfl⟩
  have hcase:(b=true/\b2=true)\/(b=false/\(p:Int)=aj/\b2=true)\/(b=false/\¬(p:Int)=aj/\b2=false):=by
   cases b with
   |true=>exact .inl ⟨rfl,by rw[<-hb2];rfl⟩
   |false=>
    by_cases hv:(p:Int)=aj
    ·exact .inr (.inl ⟨rfl,hv,by rw[<-hb2];simp[hv]⟩)
    ·exact .inr (.inr ⟨rfl,hv,by rw[<-hb2,Bool.false_or];exact decide_eq_false (λh=>hv h.symm)⟩)
  rcases hcase with⟨e1,e2⟩|⟨e1,hv,e2⟩|⟨e1,hv,e2⟩
  all_goals
   subst e1 e2
   repeat' ((conv=>whnf)<;>first|(show iL ..;refine je ((2*p:Nat):Int) h2p aa aa ?_)|(show @eZ _ _ _;(first|refine cu (show(p:Int)<=2048 by omega) ?_|refine cu hv ?_|refine dA hv ?_))|refine aX ?_)
   all_goals(conv=>whnf)
   all_goals exact⟨(k+1,2*p,_),[],⟨hlt,hp2,by show _=zw aj (k+1);rw[hs,hb2]⟩,by show 10-(k+1)<10-k;omega,rfl,⟨rfl,rfl,rfl,rfl,rfl,rfl,trivial⟩,bM,λ_ _ h=>h⟩
 obtain rfl:k=10:=by omega
 have hp1:p=4096:=hp
 have hri:=acU (z:=aj)
 rw[<-hb]at hri
 clear hb
 by_cases hs:mD o aj
 ·obtain⟨s1,s2,s3,s4,s5⟩:=id hs
  obtain rfl:b=true:=hri.2 ⟨s3,s4,s5⟩
  obtain⟨m,rfl⟩:∃m:Nat,aj=m:=⟨aj.toNat,by omega⟩
  have hF:ow g o m=(if(bX g).1≠0 then(uZ,(bX g).1)else kG (if o.tidy=true then YD g else g) o.aR o.giant m):=by unfold ow;rw[if_pos hs,Int.toNat_natCast]
  by_cases hsp:(bX g).1=0
  ·rw[hF,if_neg (λh=>h hsp)]
   obtain⟨hck,_,_⟩:=jw hsp
   obtain⟨hl1,wT,_⟩:=iq hck
   repeat' ((conv=>whnf)<;>first|refine adE ?_|(show aI _ 16 ..;refine nK (f:=16) (bX g) Tryz.call16 (λρ w' hw=>yE w' g (ae hw λR h=>hg.later h)) (λh=>absurd hsp h) (λ_ qb qc=> ?_))|refine aX ?_|refine ag ?_ ?_<;>intro _)
   all_goals refine uU (λ_=>rfl) (λht=> ?_) (λht=> ?_)
   any_goals
    rw[if_neg (by rw[ht];decide)]
    repeat' ((conv=>whnf)<;>first|fail)
    exact Wp.into 3 [] (Y1 w g o m ⟨by omega,by omega⟩ hsp) aY ⟨rfl,rfl⟩ ⟨rfl,⟨rfl,rfl,rfl,rfl,trivial⟩,bM,λR w' h=>⟨h.1,tZ h.1 (λ_ _ h=>hg.later h)⟩⟩
   all_goals
    rw[if_pos ht]
    repeat' ((conv=>whnf)<;>first|(show aI _ 33 ..;refine Tn g hsp hg.small wT hg (λR w h=>h.1) Tryz.call33 (λρ w' hw=>TJ w' g (ae hw λR h=>hg.later h.1)) (λt hT htk=> ?_)))
    rw[<-hT.lower]
    exact Wp.into 3 [] (Y1 w t o m ⟨by omega,by omega⟩ (hT.spans hsp)) aY ⟨rfl,rfl⟩ ⟨rfl,⟨rfl,rfl,rfl,rfl,trivial⟩,bM,λR w' h=>⟨h.1.1,tZ h (λ_ _ h=>htk h)⟩⟩
  ·rw[hF,if_pos hsp]
   repeat' ((conv=>whnf)<;>first|(show @eZ _ _ _;(first|refine dA (show¬(p:Int)<=2048 by omega) ?_|refine cu hsp ?_|refine dA aa ?_|refine cu aa ?_))|(show aI _ 16 ..;refine nK (f:=16) (bX g) Tryz.call16 (λρ w' hw=>yE w' g (ae hw λR h=>hg.later h)) (λ_=> ?_) (λh=>absurd h hsp))|refine aX ?_|refine ag ?_ ?_<;>intro _)
   all_goals(conv=>whnf)
   all_goals exact nk (λ_ _ h=>h) rfl rfl (λρ=>rfl)
 ·have hF:ow g o aj=(uZ,1):=by unfold ow;rw[if_neg hs]
  rw[hF]
  cases b with
  |false=>
   repeat' ((conv=>whnf)<;>first|refine adE ?_|refine aX ?_)
   all_goals(conv=>whnf)
   all_goals exact nk (λ_ _ h=>h) rfl rfl (λρ=>rfl)
  |true=>
   have hr:=hri.1 rfl
   have anF:o.aR≠0/\o.aR≠1:=by
    refine⟨λh=>hs ⟨by omega,by omega,hr⟩,λh=>hs ⟨by omega,by omega,hr⟩⟩
   obtain⟨hy0,hy1⟩:=anF
   repeat' ((conv=>whnf)<;>first|refine adE ?_|refine aX ?_)
   all_goals(conv=>whnf)
   all_goals exact nk (λ_ _ h=>h) rfl rfl (λρ=>rfl)
end
section
def Mv(d b:au):ai:=⟨3,0,0,fQ,0,0,0,d,b⟩
def fwG(nb:Option Addr)(nc:Nat)(t d b:au):bG:=⟨nb,nc,[inN t 0 1,Mv d b],1⟩
theorem adX{x:Int}(h:0<x/\x<=64):az [x]=x:=by
 unfold az
 rw[if_neg fP]
 simp[fF]
 omega
variable {nb:Option Addr} {nc m:Nat} {t d b:au}
theorem adr{n:Nat}(ht:t.xs=[(n:Int)])(hn:1<=n/\n<=32)(hm:1<=m/\m<=32)(hd:d.xs.length=m*n)(hb:b.xs.length=m)(hdb:∀x∈d.xs,cK x)(hbb:∀x∈b.xs,cK x):check (fwG nb nc t d b)=(0,[[(n:Int)],[(m:Int)]]):=by
 have en:az [(n:Int)]=n:=adX ⟨by omega,by omega⟩
 have f1:cZ (inN t 0 1) (([]:List (List Int)).length:Nat)=true:=by
  unfold cZ inN
  rw[if_pos rfl]
  unfold kg
  simp[ht,en,fQ]
  omega
 have s1:bR (inN t 0 1) []=some [(n:Int)]:=by
  unfold bR inN
  rw[if_pos (.inl rfl)]
  simp[ht]
 have n1:g_ (inN t 0 1)=true:=by
  unfold g_ inN
  rfl
 have f2:cZ (Mv d b) (([]++[[(n:Int)]]:List (List Int)).length:Nat)=true:=by
  unfold cZ Mv
  repeat(first|rw[if_pos rfl]|rw[if_neg aY])
  unfold kg jX
  simp[hb,fQ]
  omega
 have s2:bR (Mv d b) ([]++[[(n:Int)]])=some [(m:Int)]:=by
  unfold bR Mv
  repeat(first|rw[if_pos rfl]|rw[if_neg aY])
  show(if(d.xs.length:Int)=b.xs.length*az [(n:Int)]then some [(b.xs.length:Int)]else none)=_
  rw[en,hd,hb,if_pos fP]
 have n2:g_ (Mv d b)=true:=by
  unfold g_ Mv
  rw[show qz d.xs=true from Zp hdb,show qz b.xs=true from Zp hbb]
  rfl
 unfold check fwG
 rw[if_neg fP]
 show eX [inN t 0 1,Mv d b] []=_
 rw[iG f1 s1 n1,iG f2 s2 n2]
 rfl
theorem Rb:∀(T:List Sp) (s k:Int),(∀x∈T,0<=x.1/\x.1<=9)->0<=s->s<=k->(0<=T.foldl (Iq (0,1)) s/\T.foldl (Iq (0,1)) s<=k+9*T.length)/\(0<=T.foldl (Ii (0,1)) s/\T.foldl (Ii (0,1)) s<=k+9*T.length)
 |[],s,k,_,h0,h1=>⟨⟨h0,by simpa using h1⟩,⟨h0,by simpa using h1⟩⟩
 |x::r,s,k,h,h0,h1=>by
  obtain⟨x0,x1⟩:=h x List.mem_cons_self
  have e1:Iq (0,1) s x=s:=by unfold Iq;simp only[Int.mul_zero,Int.mul_one];omega
  have e2:Ii (0,1) s x=s+x.1:=by unfold Ii;simp only[Int.mul_zero,Int.mul_one];omega
  rw[List.foldl_cons,List.foldl_cons,e1,e2,List.length_cons]
  have i1:=(Rb r s (k+9) (λy hy=>h y (List.mem_cons_of_mem _ hy)) h0 aa).1
  have i2:=(Rb r (s+x.1) (k+9) (λy hy=>h y (List.mem_cons_of_mem _ hy)) aa aa).2
  push_cast
  exact⟨⟨i1.1,by omega⟩,⟨i2.1,by omega⟩⟩
theorem aiE{f:Int->Int->Int}{lo hi:Int}(hf:∀a b,f a b=a\/f a b=b)(h00:lo<=0/\0<=hi):∀l:List Int,(∀x∈l,lo<=x/\x<=hi)->lo<=foldI f l/\foldI f l<=hi
 |[],_=>h00
 |x::r,h=>by
  have key:∀(l:List Int) (s:Int),(lo<=s/\s<=hi)->(∀x∈l,lo<=x/\x<=hi)->lo<=l.foldl f s/\l.foldl f s<=hi:=by
   intro l
   induction l with
   |nil=>intro s hs _;exact hs
   |cons y q ih=>
    intro s hs hq
    rw[List.foldl_cons]
    refine ih _ ?_ (λz hz=>hq z (List.mem_cons_of_mem _ hz))
    rcases hf s y with e|e<;>rw[e]
    ·exact hs
    ·exact hq y List.mem_cons_self
  exact key r x (h x List.mem_cons_self) (λz hz=>h z (List.mem_cons_of_mem _ hz))
theorem afF{n:Nat}(ht:t.xs=[(n:Int)])(hn:1<=n/\n<=32)(hm:1<=m/\m<=32)(hd:d.xs.length=m*n)(hb:b.xs.length=m)(hdb:∀x∈d.xs,0<=x/\x<=9)(hbb:∀x∈b.xs,x=0):(bX (fwG nb nc t d b)).1=0:=by
 have hc:=adr (nb:=nb) (nc:=nc) ht hn hm hd hb (λx hx=>by have:=hdb x hx;unfold cK;omega) (λx hx=>by have:=hbb x hx;unfold cK;omega)
 have getD_in:∀{p:Int->Prop} {l:List Int} (k:Nat),(∀x∈l,p x)->p 0->p (l.getD k 0):=λ{p l} k h h0=>by
  by_cases hk:k<l.length
  ·rw[List.getD_eq_getElem?_getD,List.getElem?_eq_getElem hk];exact h _ (List.getElem_mem hk)
  ·rw[List.getD_eq_getElem?_getD,List.getElem?_eq_none aa];exact h0
 have hmin:∀a b:Int,min a b=a\/min a b=b:=λa b=>by omega
 have hmax:∀a b:Int,max a b=a\/max a b=b:=λa b=>by omega
 unfold bX
 rw[hc]
 show(if(0:Int)≠0 then _ else f_ [[(n:Int)],[(m:Int)]] [inN t 0 1,Mv d b] []).1=0
 rw[if_neg aY]
 have e1:jb [[(n:Int)],[(m:Int)]] (inN t 0 1) []=[0,1]:=rfl
 rw[f_,e1,if_neg aY]
 have hT:∀o,∀x∈bS (Mv d b) [(n:Int)] o,0<=x.1/\x.1<=9:=λo x hx=>by
  have hx:x∈tJ (Mv d b) o (az [(n:Int)]).toNat:=hx
  obtain⟨i,_,rfl⟩:=List.mem_map.1 hx
  exact getD_in (p:=λz=>0<=z/\z<=9) _ hdb ⟨by decide,by decide⟩
 have hTl:∀o,(bS (Mv d b) [(n:Int)] o).length=n:=λo=>by
  show(tJ (Mv d b) o (az [(n:Int)]).toNat).length=n
  rw[adX ⟨by omega,by omega⟩];simp[tJ]
 have e2:jb [[(n:Int)],[(m:Int)]] (Mv d b) ([]++[(foldI min [0,1],foldI max [0,1])])=lC (Mv d b) (az [(m:Int)]).toNat (bS (Mv d b) [(n:Int)]) (0,1):=rfl
 have hall:∀x∈lC (Mv d b) (az [(m:Int)]).toNat (bS (Mv d b) [(n:Int)]) (0,1),-1000<=x/\x<=1000:=λx hx=>by
  obtain⟨o,_,hx⟩:=List.mem_flatMap.1 hx
  have hB:dI (Mv d b) (az [(m:Int)]).toNat o=0:=by
   show b.xs.getD o 0=0
   exact getD_in (p:=λz=>z=0) _ hbb rfl
  have hs:=Rb (bS (Mv d b) [(n:Int)] o) 0 0 (hT o) aY aY
  rw[hTl o]at hs
  rw[hB]at hx
  rcases List.mem_cons.1 hx with rfl|hx
  ·omega
  ·rw[List.mem_singleton.1 hx];omega
 have b1:=aiE hmin (lo:= -1000) (hi:=1000) ⟨by decide,by decide⟩ _ hall
 have b2:=aiE hmax (lo:= -1000) (hi:=1000) ⟨by decide,by decide⟩ _ hall
 rw[f_,e2,if_neg aa,f_]
end
section
theorem ZT:Tryz.prog.cellsOf 43=5:=by kernel_rfl
def kY(x:qX):Value:= .agg (u_ x).toArray
def oq(x:qX):Prop:=i64 x.op/\i64 x.to_/\i64 x.a/\i64 x.b/\i64 x.k
theorem ahk(x y:qX):x=y↔(x.op=y.op/\x.to_=y.to_/\x.a=y.a/\x.b=y.b/\x.k=y.k):=by
 obtain⟨a,b,c,d,e⟩:=x
 obtain⟨a',b',c',d',e'⟩:=y
 simp
instance:DecidableEq qX:=λx y=>decidable_of_iff _ (ahk x y).symm
variable {k:Nat}
theorem Gy{l:List qX}(h:k<l.length):(iO l)[k]? =some (u_ l[k]):=by simp[iO,h]
def Bl(x:qX):List Lit:=[.int .i64 x.op,.int .i64 x.to_,.int .i64 x.a,.int .i64 x.b,.int .i64 x.k]
theorem Ku(x:qX)(hx:oq x):Tryz.prog.keyLits 2 43 (u_ x)=some (Bl x):=by
 obtain⟨h1,h2,h3,h4,h5⟩:=hx
 simp[Program.keyLits,Tryz.underlying43,ZT,u_,List.mapM_cons,Tryz.underlying3,adg,Cw h1,Cw h2,Cw h3,Cw h4,Cw h5]
 rfl
theorem PE(x y:qX)(hx:oq x)(hy:oq y)(w:World):(Op.equal 43 (kY x) (kY y)).run Tryz.prog w= .ok (decide (x=y)) w:=by
 obtain⟨r,h1,h2⟩:=run_equalIn_deep (P:=Tryz.prog) 9998 2 43 ji w 2 2 (kY x) (kY y) (Bl x) (Bl y) ahp ahp (Ku x hx) (Ku y hy)
 have e:r=decide (x=y):=by
  have:Bl x=Bl y↔x=y:=by
   obtain⟨a,b,c,d,e⟩:=x
   obtain⟨a',b',c',d',e'⟩:=y
   simp[Bl]
  rw[this]at h2
  cases r with
  |true=>exact(decide_eq_true (h2.1 rfl)).symm
  |false=>exact(decide_eq_false (λh=>by have:=h2.2 h;cases this)).symm
 rw[<-e];exact h1
theorem agZ:Tryz.prog.eqGuardType Tryz.prog.depth 43=false:=by kernel_rfl
variable {x y:qX} {ox oy:Operand} {K:SV->Prop}
theorem Od(hx:oq x)(hy:oq y)(h:K (.c (.bool (!decide (x=y))))):lY Tryz.prog (do eqGuard .neq 43 ox oy (kY x) (kY y);binOp .neq 43 (kY x) (kY y)) K:=by
 rw[xY]
 refine⟨_,λw=> ?_,h⟩
 have h1:(eqGuard .neq 43 ox oy (kY x) (kY y)).run Tryz.prog w= .ok () w:=by
  simp[eqGuard,kY,agZ]
 have h2:=PE x y hx hy w
 simp only[Sem.run_bind,h1,Result.andThen_ok]
 simp[kY,binOp]at h2|-
 rw[h2];rfl
theorem XI(hx:oq x)(hy:oq y)(he:x=y)(h:K (.c (.bool false))):lY Tryz.prog (do eqGuard .neq 43 ox oy (kY x) (kY y);binOp .neq 43 (kY x) (kY y)) K:=Od hx hy (by rw[decide_eq_true he];exact h)
theorem SE(hx:oq x)(hy:oq y)(he:x≠y)(h:K (.c (.bool true))):lY Tryz.prog (do eqGuard .neq 43 ox oy (kY x) (kY y);binOp .neq 43 (kY x) (kY y)) K:=Od hx hy (by rw[decide_eq_false he];exact h)
theorem Ws{α:Type}{xs ys:List α}(hx:k<xs.length)(hy:k<ys.length)(h:xs.take k=ys.take k)(he:xs[k]=ys[k]):xs.take (k+1)=ys.take (k+1):=by
 rw[List.take_succ_eq_append_getElem hx,List.take_succ_eq_append_getElem hy,h,he]
theorem Eh(w:World)(ub:Option Addr)(uc:Nat)(ul:List qX)(vb:Option Addr)(vc:Nat)(vl:List qX)(hu:bu w ub 5 (iO ul))(hv:bu w vb 5 (iO vl))(oz:ul.length<=1000000)(hfu:∀x∈ul,oq x)(VX:∀x∈vl,oq x):Calls Tryz.prog 21 #[.slice ub ul.length uc,.slice vb vl.length vc] w λe w'=>e= .returned (.bool (decide (ul=vl)))/\Ext w w':=by
 refine fH Tryz.func21 [.c (.slice ub ul.length uc),.c (.slice vb vl.length vc)] ?_
 repeat' ((conv=>whnf)<;>first|refine bn ?_|refine ag ?_ ?_<;>intro _)
 ·exact bf (λ_ _ h=>h) rfl (decide_eq_false (λh=>by rename_i hne;rw[h]at hne;exact hne rfl))
 rename_i hne
 refine Wp.loop (σ:=Nat) 0 (λk=>[(0,.c (.slice ub ul.length uc)),(1,.c (.slice vb vl.length vc)),(12,ax ul.length),(13,ax k)]) (λ_=>[]) (λ_=>aO w)
  (λk=>k<=ul.length/\ul.take k=vl.take k) (λk=>ul.length-k) 0 [] (Nat.le_refl _) (λs=>⟨rfl,rfl⟩) ⟨by simp,by simp⟩ ⟨rfl,⟨rfl,rfl,rfl,rfl,trivial⟩,trivial,λ_ _ h=>h⟩ ?_
 rintro k ⟨hk,he⟩
 by_cases hlt:k<ul.length
 ·have hlt2:k<vl.length:=by omega
  obtain⟨a,ha⟩:=aP (j:=k) hu (by rw[nE];exact hlt)
  obtain⟨b,hb⟩:=aP (j:=k) hv (by rw[nE];exact hlt2)
  have hur:∀R w',(aO w).holds R w'->bu w' (some a) 5 (iO ul):=λR w' h=>ha▸aA h hu
  have Yi:∀R w',(aO w).holds R w'->bu w' (some b) 5 (iO vl):=λR w' h=>hb▸aA h hv
  rw[ha,hb]
  have YF:=hfu _ (List.getElem_mem hlt)
  have hvx:=VX _ (List.getElem_mem hlt2)
  by_cases hxy:ul[k]=vl[k]
  ·repeat' ((conv=>whnf)<;>first|(show bV ..;(first|refine aH a k rfl rfl hlt ?_|refine aH b k rfl rfl hlt2 ?_))|(show mF ..;(first|refine gL hur _ (Gy hlt) rfl ?_|refine gL Yi _ (Gy hlt2) rfl ?_))|(show lY ..;refine XI YF hvx hxy ?_)|refine bn ?_|refine ag ?_ ?_<;>intro _)
   conv=>whnf
   exact⟨k+1,[],⟨hlt,Ws hlt hlt2 he hxy⟩,by omega,rfl,bM,trivial,λ_ _ h=>h⟩
  ·repeat' ((conv=>whnf)<;>first|(show bV ..;(first|refine aH a k rfl rfl hlt ?_|refine aH b k rfl rfl hlt2 ?_))|(show mF ..;(first|refine gL hur _ (Gy hlt) rfl ?_|refine gL Yi _ (Gy hlt2) rfl ?_))|(show lY ..;refine SE YF hvx hxy ?_)|refine bn ?_|refine ag ?_ ?_<;>intro _)
   exact bf (λ_ _ h=>h) rfl (decide_eq_false (λh=>hxy (by simp only[h])))
 ·have hkl:ul=vl:=by rw[List.take_of_length_le aa,List.take_of_length_le aa]at he;exact he
  repeat' ((conv=>whnf)<;>first|refine bn ?_|refine ag ?_ ?_<;>intro _)
  exact bf (λ_ _ h=>h) rfl (decide_eq_true hkl)
end
def OX(p:qY):Prop:=mZ p.low p.low/\rE p.low p.last/\0<=p.aj/\p.aj<=2048
theorem DN:OX uZ:=⟨⟨λx hx=>(by cases hx),Nat.le_refl _⟩,rE.small (Int.le_refl 0) aY,Int.le_refl 0,by decide⟩
theorem VV{c:dN}(g:bG)(hn:c.aj<=2048):OX (qd c g).1:=by
 unfold qd
 cases e:ig c g.l 0 ⟨[],[],[]⟩ []with
 |none=>exact DN
 |some q=>
  have h:=Pj (c:=c) aa g.l 0 ⟨[],[],[]⟩ [] q ⟨λx hx=>(by cases hx),Nat.le_refl _⟩ (λv hv=>by cases hv) e
  refine⟨h.1,?_,Int.natCast_nonneg _,by show(c.aj:Int)<=_;omega⟩
  show rE q.1 (q.2.getD g.out.toNat 0)
  by_cases hk:g.out.toNat<q.2.length
  ·rw[List.getD_eq_getElem?_getD,List.getElem?_eq_getElem hk];exact h.2 _ (List.getElem_mem hk)
  ·rw[List.getD_eq_getElem?_getD,List.getElem?_eq_none aa];exact rE.small (Int.le_refl 0) aY
theorem Tk(g:bG)(aR:Int)(giant:Bool)(m:Nat)(hm:m<=2048):OX (kG g aR giant m).1:=by
 unfold kG
 split
 ·exact DN
 ·exact VV (c:=⟨m,giant,aek (check g).2,aek (gG aR m (check g).2 []).1⟩) g hm
theorem Vm(g:bG)(o:Aw)(aj:Int):OX (ow g o aj).1:=by
 unfold ow
 by_cases hs:mD o aj
 ·rw[if_pos hs]
  obtain⟨_,_,h4,h8,_⟩:=hs
  by_cases h:(bX g).1≠0
  ·rw[if_pos h];exact DN
  ·rw[if_neg h];exact Tk _ _ _ _ aa
 ·rw[if_neg hs];exact DN
theorem acI{v:zn}{p:qY}(h:OX p)(hv:v.pl=p)(hs:v.bq):(∀x∈v.code,oq x)/\i64 v.last/\i64 v.aj:=by
 subst hv
 obtain⟨h1,h2,h3,h4⟩:=h
 have ht:nN v.pl.low<=3010000:=by
  have a:=hs.qW
  have b:=hs.Hr
  have c:=hs.lW
  unfold nN
  show v.code.length+(v.aF.l.map au.xs).length+(v.inputs.map qo.pl).length+4096<=_
  rw[List.length_map,List.length_map];omega
 refine⟨λx hx=> ?_,?_,?_⟩
 ·obtain⟨⟨a,b⟩,⟨c,d⟩,⟨e,f⟩,⟨i,j⟩,k,l⟩:=h1.fit x hx
  unfold oq i64;omega
 ·obtain⟨a,b⟩:=h2
  have a:0<=v.last:=a
  have b:v.last<=nN v.pl.low:=b
  unfold i64;omega
 ·have a:0<=v.aj:=h3
  have b:v.aj<=2048:=h4
  unfold i64;omega
section
variable {w:World} {nb:Option Addr} {nc:Nat} {t d b:au}
theorem amk(hr:bu w nb 9 (bF [inN t 0 1,Mv d b]))(ht:t.ok w)(hd:d.ok w)(hb:b.ok w)(h2:d.xs.length<=5000)(h3:b.xs.length<=5000):(fwG nb nc t d b).ok w:=by
 refine⟨hr,λn hn=> ?_,λn hn=> ?_,(show 2<=1000000 by decide),(show i64 1 from⟨by decide,by decide⟩)⟩
 ·rcases List.mem_cons.1 hn with rfl|hn
  ·exact⟨ht,ER w,ER w,Sc,oG,oG,oG,Sc,oG⟩
  ·rw[List.mem_singleton.1 hn]
   exact⟨ER w,hd,hb,(show i64 3 from⟨by decide,by decide⟩),oG,oG,oG,oG,oG⟩
 ·rcases List.mem_cons.1 hn with rfl|hn
  ·exact⟨Nat.zero_le _,Nat.zero_le _⟩
  ·rw[List.mem_singleton.1 hn];exact⟨h2,h3⟩
theorem adI{c:dN}{aR:Int}{sh:List (List Int)}(h:zR c aR sh (fwG nb nc t d b).l):∀(i:Nat) (n:ai),(fwG nb nc t d b).l[i]? =some n->Dq c n i (vw n.ak):=by
 intro i n hi
 have hm:=List.mem_of_getElem? hi
 rcases List.mem_cons.1 hm with e|hm
 ·exact Hl h hi (by rw[e];rfl)
 ·exact BR h hi (.inl (by rw[List.mem_singleton.1 hm];exact .inl rfl))
def fxV:qY:=⟨4,⟨[⟨0,1,[0,1]⟩],[[5,0,0,0],[7,0,0,0]],[⟨1,0,0,0,0⟩,⟨5,1,0,0,0⟩,⟨8,2,0,0,1⟩,⟨5,3,2,0,1⟩,⟨3,4,1,3,0⟩]⟩,4,[0]⟩
theorem akf:kG (fwG none 0 ⟨none,0,[2]⟩ ⟨none,0,[5,7]⟩ ⟨none,0,[0]⟩) 0 false 4=(fxV,0):=by kernel_rfl
theorem akO(ht:t.xs=[2])(hd:d.xs=[5,7])(hb:b.xs=[0]):kG (fwG nb nc t d b) 0 false 4=(fxV,0):=by
 rw[<-akf]
 refine Nk (g:=fwG nb nc t d b) (g':=fwG none 0 ⟨none,0,[2]⟩ ⟨none,0,[5,7]⟩ ⟨none,0,[0]⟩) ?_ rfl _ _ _
 show [aT.mk 1 0 0 t.xs 0 1 0 [] [],aT.mk 3 0 0 [] 0 0 0 d.xs b.xs]=_
 rw[ht,hd,hb];rfl
def fxC:List qX:=[⟨1,0,0,0,0⟩,⟨5,1,0,0,0⟩,⟨8,2,0,0,1⟩,⟨5,3,2,0,1⟩,⟨3,4,1,3,0⟩]
theorem YW:∀x∈fxC,oq x:=by
 intro x hx
 have:(fxC.all λx=>decide (-1000<=x.op/\x.op<=1000/\ -1000<=x.to_/\x.to_<=1000/\ -1000<=x.a/\x.a<=1000/\ -1000<=x.b/\x.b<=1000/\ -1000<=x.k/\x.k<=1000))=true:=by decide
 have:=of_decide_eq_true (List.all_eq_true.1 this x hx)
 unfold oq i64
 omega
theorem Ty{w0:World}{i n:Nat}(l:List qX){R0:List (List Value)}{T:TypeId}{H:Heap}{S:bN}{nx:Nat}{K:SV->Heap->bN->Nat->Prop}(hN:∀R w,S.holds R w->(aO w0).holds R w)(he:R0=iO l)(hn:n=l.length)(h:∀base cap,K (.c (.slice base l.length cap)) H (S.and ((fC base 5 (iO l)).past w0.heap.size)) nx):jT (.os i n) ((i,.rows R0 5 T)::H) S nx K:=by
 subst he hn
 exact lm w0.heap.size (λR w hS b hb=>(hN R w hS b hb).1) (λlc _=>h lc.base lc.cap)
theorem Jz{v:zn}{N:Nat}{R:Nat->Prop}(h:((VZ v).past N).holds R w):bu w v.aF.base 1 (aS v.aF.l)/\(∀u∈v.aF.l,bu w u.base 1 (aN u.xs))/\bu w v.cb 5 (iO v.code)/\bu w v.out.base 1 (aN v.out.xs)/\bu w v.ib 3 (iP v.inputs)/\∀x∈v.inputs,bu w x.aj.base 1 (aN x.aj.xs):=by
 have h:(VZ v).holds R w:=(VZ v).mono h (λb hb=>hb.1)
 exact⟨aV h.1.2.1,λu hu=>aV (h.1.2.2 u hu),aV h.2.1,aV h.2.2,aV h.1.1.1,λx hx=>aV (h.1.1.2 x hx)⟩
theorem Te(w:World):Calls Tryz.prog 7 #[] w λe w'=>e= .returned (.bool true)/\Ext w w':=by
 refine fH Tryz.func7 [] ?_
 repeat' ((conv=>whnf)<;>first|refine uT ?_)
 refine nV (w0:=w) [2] (λR w' h=>h) rfl rfl (Ia rfl) aY (λt ht hts=> ?_)
 repeat' ((conv=>whnf)<;>first|refine uT ?_)
 refine nV (w0:=w) [5,7] (λR w' h=>h.1) rfl rfl (Ia rfl) aY (λd hd hds=> ?_)
 repeat' ((conv=>whnf)<;>first|refine uT ?_)
 refine nV (w0:=w) [0] (λR w' h=>h.1.1) rfl rfl (Ia rfl) aY (λb hb hbs=> ?_)
 repeat' ((conv=>whnf)<;>first|refine uT ?_)
 refine Na (w0:=w) [inN t 0 1,Mv d b] (λR w' h=>h.1.1.1) rfl rfl (λnb nc=> ?_)
 repeat' ((conv=>whnf)<;>first|refine uT ?_)
 refine Dc (fxV,0) Tryz.call9 (λρ w' hw=>by
  have hg:(fwG nb nc t d b).ok w':=ae hw λR h=>amk (aV h.2) (bT hts h.1.1.1.2) (bT hds h.1.1.2) (bT hbs h.1.2) (by rw[hd];decide) (by rw[hb];decide)
  have:=Xc w' (fwG nb nc t d b) ⟨0,false,false,false,0⟩ 4 hg aY (afF (n:=2) (m:=1) ht aY aY (by rw[hd];rfl) (by rw[hb];rfl) (by rw[hd];decide) (by rw[hb];decide)) rfl (λc hS=>adI hS)
  rw[akO ht hd hb]at this
  exact this) (λv hv hvs=> ?_)
 obtain⟨sl,ib,ic,inp,⟨pb,pc,pl⟩,cb,cc,code,last,out⟩:=v
 have hcode:code=fxC:=congrArg (λx:qY=>x.low.code) hv
 have hlast:last=4:=congrArg (λx:qY=>x.last) hv
 have hpl:pl.map au.xs=[[5,0,0,0],[7,0,0,0]]:=congrArg (λx:qY=>x.low.aF) hv
 obtain⟨p0,p1,rfl⟩:∃p0 p1,pl=[p0,p1]:=by
  have:pl.length=2:=by simpa using congrArg List.length hpl
  match pl,this with
  |[p0,p1],_=>exact⟨p0,p1,rfl⟩
 have hp1:p1.xs=[7,0,0,0]:=by simp only[List.map_cons,List.map_nil,List.cons.injEq]at hpl;exact hpl.2.1
 have ajd:p1.bq:=hvs.aF p1 fP
 subst hcode hlast
 clear hv
 repeat' ((conv=>whnf)<;>first|refine uT ?_)
 refine Ty (w0:=w) fxC (λR w' h=>h.1.1.1.1.1) rfl rfl (λsb sc=> ?_)
 refine Wp.know (p:=∃a,pb=some a) (λρ w' hw=>ae hw λR h=>aP (j:=1) (Jz h.1.2).1 (show 1<2 by decide)) ?_
 rintro⟨pa,rfl⟩
 repeat' ((conv=>whnf)<;>first|(show @eZ _ _ _;refine cu rfl ?_)|(show bV ..;refine aH pa 1 rfl rfl (show 1<2 by decide) ?_)|(show fT ..;refine bA (λR w' h=>(Jz h.1.2).1) [p1.val] p1.val rfl rfl ?_)|(show aI _ 21 ..;(refine aQ (f:=21) Tryz.call21 (.bool true) (λρ w' hw=>by have:=Eh w' cb cc fxC sb sc fxC (ae hw λR h=>(Jz h.1.2).2.2.1) (ae hw λR h=>aV h.2) aY YW YW;rw[decide_eq_true rfl]at this;exact this) ?_))|refine uT ?_)
 refine nV (w0:=w) [7,0,0,0] (λR w' h=>h.1.1.1.1.1.1) rfl rfl (Ia rfl) aY (λq hq hqs=> ?_)
 repeat' ((conv=>whnf)<;>first|(show @eZ _ _ _;refine cu rfl ?_)|(show aI _ 20 ..;(refine aQ (f:=20) Tryz.call20 (.bool true) (λρ w' hw=>by have:=qK w' p1 q (ae hw λR h=>⟨(Jz h.1.1.2).2.1 p1 fP,ajd.fits,ajd.room,ajd.few⟩) (ae hw λR h=>bT hqs h.2);rw[decide_eq_true (hp1.trans hq.symm)]at this;exact this) ?_))|refine aX ?_)
 conv=>whnf
 exact bf (λR w' h=>h.1.1.1.1.1.1.1) rfl rfl
end
structure zn.lies(w:World)(v:zn):Prop where
 aF:v.aF.lies w
 rows:bu w v.ib 3 (iP v.inputs)
 each:∀e∈v.inputs,e.aj.lies w
 Hr:v.inputs.length<=1000000
 code:bu w v.cb 5 (iO v.code)
 lW:v.code.length<=1000000
 fit:∀x∈v.code,oq x
 out:v.out.lies w
 fits:i64 v.aj/\i64 v.last
theorem Ub{v:zn}{p:qY}{N:Nat}{R:Nat->Prop}{w:World}(h:((VZ v).past N).holds R w)(hp:OX p)(hv:v.pl=p)(hs:v.bq):v.lies w:=by
 obtain⟨h1,h2,h3,h4,h5,h6⟩:=Jz h
 obtain⟨f1,f2,f3⟩:=acI hp hv hs
 exact⟨⟨h1,λu hu=>⟨h2 u hu,hs.aF u hu⟩,hs.qW⟩,h5,λe he=>⟨h6 e he,(hs.inputs e he).1⟩,hs.Hr,h3,hs.lW,f1,⟨h4,hs.out⟩,f3,f2⟩
theorem zn.lies.later{w w':World}{R:Nat->Prop}{v:zn}(h:v.lies w)(hb:(aO w).holds R w'):v.lies w':=⟨h.aF.later hb,aA hb h.rows,λe he=>(h.each e he).later hb,h.Hr,aA hb h.code,h.lW,h.fit,h.out.later hb,h.fits⟩
theorem ajL(w:World)(a b:zn)(ha:a.lies w)(hb:b.lies w)(he:a.pl=b.pl):Calls Tryz.prog 11 #[a.val,b.val] w λe w'=>e= .returned (.bool true)/\Ext w w':=by
 obtain⟨s1,ib1,ic1,in1,p1,cb1,cc1,c,l1,o1⟩:=a
 obtain⟨s2,ib2,ic2,in2,p2,cb2,cc2,c2,l2,o2⟩:=b
 have e1:s1=s2:=congrArg qY.aj he
 have e2:l1=l2:=congrArg qY.last he
 have e3:o1.xs=o2.xs:=congrArg qY.out he
 have e4:in1.map qo.pl=in2.map qo.pl:=congrArg (λp:qY=>p.low.inputs) he
 have e5:p1.l.map au.xs=p2.l.map au.xs:=congrArg (λp:qY=>p.low.aF) he
 have e6:c=c2:=congrArg (λp:qY=>p.low.code) he
 subst e1 e2 e6
 clear he
 refine fH Tryz.func11 [.agg [ax s1,.c (.slice ib1 in1.length ic1),.c p1.val,.c (.slice cb1 c.length cc1),ax l1,.c o1.val],.agg [ax s1,.c (.slice ib2 in2.length ic2),.c p2.val,.c (.slice cb2 c.length cc2),ax l1,.c o2.val]] ?_
 repeat' ((conv=>whnf)<;>first|(show jT ..;(first|refine lM (w0:=w) [o1] (λR w' h=>h) rfl rfl (λb1 c1 _=> ?_)|refine lM (w0:=w) [o2] (λR w' h=>h.1) rfl rfl (λb2 c2 _=> ?_)))|(show @eZ _ _ _;refine cu rfl ?_)|(show aI _ 37 ..;refine aQ (f:=37) Tryz.call37 (.bool true) (λρ w' hw=>Qq w' ib1 ic1 in1 ib2 ic2 in2 (ae hw λR h=>aA h ha.rows) (ae hw λR h=>aA h hb.rows) (ae hw λR h=>λe he=>(ha.each e he).later h) (ae hw λR h=>λe he=>(hb.each e he).later h) ha.Hr e4) ?_)|(show aI _ 38 [.c p1.val,_] ..;refine aQ (f:=38) Tryz.call38 (.bool true) (λρ w' hw=>yH w' p1 p2 (ae hw λR h=>ha.aF.later h) (ae hw λR h=>hb.aF.later h) e5) ?_)|(show aI _ 38 [.c (.slice b1 _ _),_] ..;refine aQ (f:=38) Tryz.call38 (.bool true) (λρ w' hw=>yH w' ⟨b1,c1,[o1]⟩ ⟨b2,c2,[o2]⟩ (ae hw λR h=>xE h.1.2 (ha.out.later h.1.1)) (ae hw λR h=>xE h.2 (hb.out.later h.1.1)) (congrArg (λz=>[z]) e3)) ?_)|(show aI _ 21 ..;(refine aQ (f:=21) Tryz.call21 (.bool true) (λρ w' hw=>by have:=Eh w' cb1 cc1 c cb2 cc2 c (ae hw λR h=>aA h ha.code) (ae hw λR h=>aA h hb.code) ha.lW ha.fit ha.fit;rw[decide_eq_true rfl]at this;exact this) ?_))|refine aX ?_)
 all_goals(conv=>whnf)
 all_goals exact bf (λR w' h=>h.1.1) rfl rfl
theorem acQ(w:World)(g:bG)(c:dN)(aR:Int)(hS:zR c aR (check g).2 g.l)(hm:c.aj<=2048)(hpos:∀u∈c.bO.l,0<u.xs.length)(wT:g.l.length<=24)(hout:0<=g.out/\g.out<g.l.length)(hC:∀(i:Nat) (n:ai),g.l[i]? =some n->Dq c n i (vw n.ak)):
 LoW w (qd c g) 7 [(3,.lp 0 0 0 0),(6,.lp 2 0 0 0),(10,.lp 3 0 0 0)] [(3,.box [ax c.aj,.c (.slice none 0 0),.c (.slice none 0 0),.c (.slice none 0 0),ax 0,.c (.slice none 0 0),.c (.bool c.giant),.c c.shapes.val,.c c.bO.val,.c (.slice none 0 0)] 71),(2,.box [ax 0,.c (.slice none 0 0),.c (.slice none 0 0),.c (.slice none 0 0),ax 0,.c (.slice none 0 0)] 34),(0,.box [.c (.slice g.base g.l.length g.cap),ax g.out] 24)] (adJ w g c ⟨[],[],[]⟩) 5:=by
 obtain⟨hm1,_⟩:=hS.aj
 repeat' ((conv=>whnf)<;>first|refine aX ?_)
 all_goals(conv=>whnf)
 obtain⟨T,hT0⟩:∃T,ig c (g.l.drop 0) 0 ⟨[],[],[]⟩ []=T:=⟨_,rfl⟩
 have hrT:lowerT c g T=qd c g:=by rw[<-hT0];rfl
 refine Wp.loop (σ:=Nat×dw×List Int) 9 (λq=>[(3,.lp 0 0 0 0),(6,.lp 2 0 0 0),(10,.lp 3 0 0 0),(105,.c (.slice g.base g.l.length g.cap)),(106,ax g.l.length),(107,ax q.1)])
  (λq=>(2,.box [ax 0,.c (.slice none 0 0),.c (.slice none 0 0),.c (.slice none 0 0),ax 0,.c (.slice none 0 0)] 34)::(0,.box [.c (.slice g.base g.l.length g.cap),ax g.out] 24)::wV c q.2.1 q.2.2 3 5 6 7 8)
  (λq=>adJ w g c q.2.1) (λq=>q.1<=g.l.length/\q.2.2.length=q.1/\sJ c q.2.1/\q.2.1.code.length<=2048/\q.2.1.aF.length<=q.2.1.code.length/\q.2.1.inputs.length<=q.2.1.code.length/\ig c (g.l.drop q.1) q.1 q.2.1.pl q.2.2=T) (λq=>g.l.length-q.1) (0,⟨[],[],[]⟩,[]) [(5,none),(6,none),(7,none),(8,none)] aY (λq=>⟨rfl,rfl⟩)
  ⟨Nat.zero_le _,rfl,⟨λ_ h=>kP,λ_ h=>kP⟩,Nat.zero_le _,Nat.zero_le _,Nat.zero_le _,hT0⟩ ⟨rfl,⟨rfl,rfl,rfl,rfl,rfl,rfl,trivial⟩,⟨aU,aU,aU,rfl,rfl,rfl,rfl,trivial⟩,λR w' h=>h⟩ ?_
 rintro⟨i,qs,vl⟩ ⟨hil,hvl,hqo,hqc,hqp,hqi,hT⟩
 simp only at hil hvl hqo hqc hqp hqi hT
 by_cases hlt:i<g.l.length
 ·have hgi:g.l[i]? =some g.l[i]:=List.getElem?_eq_getElem hlt
  have hrow:=bU hlt
  have hNC:=hC i _ hgi
  have hgr:=dD.node c g.l[i] i qs.pl vl aa
  have hnm:=List.getElem_mem hlt
  rw[List.drop_eq_getElem_cons hlt,ig]at hT
  generalize g.l[i]=n at*
  have hNA:lU c qs vl:=⟨by omega,hqo,by omega,by omega,by omega⟩
  clear hC hT0 hgi
  refine Wp.know (p:=∃a,g.base=some a) (λρ w' hw=>ae hw λR h=>aP (j:=i) ((fV h.2).rows) aey) ?_
  rintro⟨ga,hga⟩
  rcases Zu n.ak with⟨hk,hf⟩|⟨hk,hf⟩|⟨hk,hf⟩|⟨hk,hf⟩|⟨hk,hf⟩|⟨⟨hk1,hk2,hk3,hk4,hk5⟩,hf⟩
  all_goals as_aux_lemma=>
   rw[hf]at hNC
   repeat' ((conv=>whnf)<;>first|(show b_ _ 33 ..;refine lu [] [(9,.box (cs n.cells) 41)] alu ?_ (h6:=List.Sublist.cons_cons _ (List.nil_sublist _)))|refine BF ?_|(show bV ..;refine aH ga i hga rfl hlt ?_)|(show mF ..;(refine gL (λR w' h=>by rw[<-hga];exact(fV h.2).rows) _ hrow rfl ?_))|refine OQ ?_|(show aI _ _ [.lp 3 0 0 0,_,_] ..;refine dV [(9,.box (cs n.cells) 41),(2,.box [ax 0,.c (.slice none 0 0),.c (.slice none 0 0),.c (.slice none 0 0),ax 0,.c (.slice none 0 0)] 34),(0,.box [.c (.slice g.base g.l.length g.cap),ax g.out] 24)] 3 5 6 7 8 c qs vl (ru c qs n) [.lp 0 0 0 0,.agg (jN n),ax i] _ _ _ _ ahv rfl rfl rfl (λR w' h=>Vt hnm h) (GB w.heap.size) (λR w' h b hb=>(h.1.1 b hb).1) (λw' ρ' F' h'=>hNC qs vl w' ρ' F' hNA hvl h') (λq ⟨hq1,hq2,hq3⟩=> ?_))|refine aez ?_|refine ac_ ?_|refine aeG ?_|refine aX ?_|refine ag ?_ ?_<;>intro _|refine And.intro ?_ ?_)
   all_goals(conv=>whnf)
   all_goals
    rw[<-hq1]at hT hgr
    have hg3:=ZU hgr
    first|exact⟨(i+1,q.1,vl++[q.2]),[(5,some 16),(6,some 12),(7,some 13),(8,some 14)],⟨hlt,by show(vl++[q.2]).length=i+1;rw[List.length_append,hvl];rfl,hq3,by show q.1.code.length<=2048;omega,by show q.1.aF.length<=q.1.code.length;omega,by show q.1.inputs.length<=q.1.code.length;omega,by rw[if_neg ad4,<-hq2]at hT;exact hT⟩,by show g.l.length-(i+1)<g.l.length-i;omega,rfl,bM,bM,λR w' h=>⟨EG h.1.1 h.2,h.1.2⟩⟩|exact nk (λ_ _ h=>h.1.1.1) rfl ahU (λρ=>rfl)
 ·obtain rfl:i=g.l.length:=by omega
  rw[List.drop_length,ig]at hT
  rw[<-hT]at hrT
  have ho1:g.out.toNat<c.bO.l.length:=by have:=congrArg List.length hS.bO;rw[List.length_map,List.length_map,hS.len]at this;omega
  have ho2:g.out.toNat<vl.length:=by omega
  refine Wp.go bQ rfl ?_
  repeat' ((conv=>whnf)<;>first|refine BD ?_|refine ag ?_ ?_<;>intro _)
  refine Wp.go bQ rfl ?_
  repeat' ((conv=>whnf)<;>first|refine BD ?_|refine ag ?_ ?_<;>intro _)
  exact Wp.into 9 [] (JU w g c qs vl (qd c g) hout.1 ho1 ho2 hqo ⟨hqc,by omega,by omega⟩ (λu hu=>⟨hS.spS u hu,hpos u hu⟩) hrT) aY ⟨rfl,rfl⟩ ⟨rfl,⟨rfl,rfl,rfl,trivial⟩,bM,λ_ _ h=>h.1⟩
theorem Tv(w:World)(g:bG)(o:Aw)(m:Nat)(hmm:4<=m/\m<=2048)(hsp:(bX g).1=0)(hC:∀c:dN,zR c o.aR (check g).2 g.l->∀(i:Nat) (n:ai),g.l[i]? =some n->Dq c n i (vw n.ak)):
 LoW w (kG g o.aR o.giant m) 4 [(2,ax m),(3,.lp 0 0 0 0),(4,.lp 1 0 0 0),(6,.lp 2 0 0 0)] [(2,.box [ax 0,.c (.slice none 0 0),.c (.slice none 0 0),.c (.slice none 0 0),ax 0,.c (.slice none 0 0)] 34),(1,.box [ax o.aR,.c (.bool o.tidy),.c (.bool o.lazy),.c (.bool o.giant),ax o.rows] 26),(0,.box [.c (.slice g.base g.l.length g.cap),ax g.out] 24)] ((aO w).and (vX λw=>g.ok w)) 3:=by
 obtain⟨hck,_,_⟩:=jw hsp
 obtain⟨hl1,wT,hout,hcl,hin⟩:=iq hck
 refine Wp.know (p:=∃w',g.ok w') (λρ w' hw=>⟨w',ae hw λR h=>fV h.2⟩) ?_
 rintro⟨wg,hg⟩
 repeat' ((conv=>whnf)<;>first|(show aI _ 24 ..;refine vZ (f:=24) (check g) Tryz.call24 (λρ w' hw=>pV w' g (ae hw λR h=>fV h.2)) (λh=>absurd hck h) (λ_ sv hm hsv hsc=> ?_))|refine aX ?_)
 have hsl:sv.l.length=g.l.length:=by have:=congrArg List.length hm;rw[List.length_map]at this;omega
 obtain⟨Z,UX⟩:∃Z,gG o.aR m ((sv.l.drop 0).map au.xs) []=Z:=⟨_,rfl⟩
 have RG:gG o.aR m (check g).2 []=Z:=by rw[<-UX,List.drop_zero];exact congrArg (λz=>gG o.aR m z []) hm.symm
 refine Wp.loop (σ:=Nat×List au) 5 (λq=>[(2,ax m),(3,.lp 0 0 0 0),(4,.lp 1 0 0 0),(6,.lp 2 0 0 0),(10,.lp 3 0 0 0),(75,.c sv.val),(76,ax sv.l.length),(77,ax q.1)])
  (λq=>[(4,.rows (aS q.2) 1 32),(3,.box [ax m,.c (.slice none 0 0),.c (.slice none 0 0),.c (.slice none 0 0),ax 0,.c (.slice none 0 0),.c (.bool o.giant),.c sv.val,.os 4 q.2.length,.c (.slice none 0 0)] 71),(2,.box [ax 0,.c (.slice none 0 0),.c (.slice none 0 0),.c (.slice none 0 0),ax 0,.c (.slice none 0 0)] 34),(1,.box [ax o.aR,.c (.bool o.tidy),.c (.bool o.lazy),.c (.bool o.giant),ax o.rows] 26),(0,.box [.c (.slice g.base g.l.length g.cap),ax g.out] 24)])
  (λq=>ah9 w g sv q.2) (λq=>q.1<=sv.l.length/\q.2.length=q.1/\(∀u∈q.2,u.bq/\0<u.xs.length)/\gG o.aR m ((sv.l.drop q.1).map au.xs) (q.2.map au.xs)=Z) (λq=>sv.l.length-q.1) (0,[]) [(4,none)] aY (λq=>⟨rfl,rfl⟩) ⟨Nat.zero_le _,rfl,λ_ h=>kP,UX⟩
  ⟨rfl,⟨rfl,rfl,rfl,rfl,rfl,rfl,rfl,rfl,trivial⟩,⟨rfl,aU,aU,aU,aU,trivial⟩,λR w' h=>⟨h,λu hu=>by cases hu⟩⟩ ?_
 rintro⟨k,us⟩ ⟨hkl,yJ,fI,hZ⟩
 simp only at hkl yJ fI hZ
 by_cases hlt:k<sv.l.length
 ·rw[List.drop_eq_getElem_cons hlt,List.map_cons]at hZ
  have hrow:=dF hlt
  have vY:=List.getElem_mem hlt
  generalize sv.l[k]=u at*
  refine Wp.know (p:=∃a,sv.base=some a) (λρ w' hw=>ae hw λR h=>aP (j:=k) (aV h.1.2.1) Mw) ?_
  rintro⟨sa,hsa⟩
  by_cases hok:(gz u.xs o.aR m).2=0
  ·rw[Bq hok]at hZ
   repeat' ((conv=>whnf)<;>first|refine Ug ?_|refine T9 ?_|(show @eZ _ _ _;(refine dA (by rw[hok];decide) ?_))|(refine abb ?_;intro x hx hxs)|(show vO ..;(refine gY J9 ?_))|refine ZY ?_|refine ac4 ?_|refine aX ?_|refine ag ?_ ?_<;>intro _)
   all_goals(conv=>whnf)
   all_goals exact⟨(k+1,us++[x]),[(4,some 6)],⟨hlt,by show(us++[x]).length=k+1;rw[List.length_append,yJ];rfl,λv hv=>(List.mem_append.1 hv).elim (fI v) (λhv=>by rw[List.mem_singleton.1 hv];exact⟨hxs,by rw[hx];exact Lh hok⟩),by show gG o.aR m _ ((us++[x]).map au.xs)=Z;rw[List.map_append,List.map_cons,List.map_nil,hx];exact hZ⟩,by show sv.l.length-(k+1)<sv.l.length-k;omega,rfl,⟨rfl,rfl,rfl,rfl,rfl,rfl,rfl,rfl,trivial⟩,bM,λR w' h=>⟨h.1.1,kX h.1.2 (Fz h.2)⟩⟩
  ·rw[A_ hok]at hZ
   repeat' ((conv=>whnf)<;>first|refine Ug ?_|refine T9 ?_|(show @eZ _ _ _;refine cu hok ?_)|(refine abb ?_;intro x hx hxs)|refine aX ?_|refine ag ?_ ?_<;>intro _)
   all_goals(conv=>whnf)
   have e2:Z.2=(gz u.xs o.aR m).2:=by rw[<-hZ]
   all_goals exact nk (λ_ _ h=>h.1.1.1.1) rfl agP (λρ=>rfl)
 obtain rfl:k=sv.l.length:=by omega
 rw[List.drop_length]at hZ
 have hZ:(us.map au.xs,(0:Int))=Z:=hZ
 refine Wp.yI 4 w.heap.size (k:=1) (xs:=aS us) (T:=32) aU (λR w' h b hb=>(h.1.1.1 b hb).1) (λfl hfl=> ?_)
 have hz2:(gG o.aR m (check g).2 []).2=0:=by rw[RG,<-hZ]
 obtain⟨c,hc⟩:∃c:dN,c=⟨m,o.giant,sv,⟨fl.base,fl.cap,us⟩⟩:=⟨_,rfl⟩
 have hS:zR c o.aR (check g).2 g.l:=PY hg hck hmm hz2 Tx (by rw[hc];exact hm) (by rw[hc];exact hsv) (by rw[hc,RG,<-hZ]) (by rw[hc];exactλu hu=>(fI u hu).1)
 have hr:kG g o.aR o.giant m=qd c g:=by
  unfold kG
  rw[if_neg (λh=>h hz2)]
  exact Ba ⟨by rw[hc],by rw[hc],by rw[Bh,hc];exact hm.symm,by rw[Bh,RG,<-hZ,hc]⟩ rfl rfl
 rw[hr]
 have h7:=acQ w g c o.aR hS (by rw[hc];exact hmm.2) (by rw[hc];exactλu hu=>(fI u hu).2) wT hout (hC c hS)
 iterate 2
  refine Wp.go bQ rfl ?_
  repeat' ((conv=>whnf)<;>first|refine BD ?_|refine ag ?_ ?_<;>intro _)
 exact Wp.into 5 [] h7 aY ⟨rfl,rfl⟩ ⟨rfl,⟨rfl,rfl,rfl,trivial⟩,⟨by rw[hc];exact aU,aU,aU,trivial⟩,λR w' h=>⟨⟨h.1.1.1.1,⟨by rw[hc];exact h.1.1.2,by rw[hc];exact⟨h.2,h.1.2⟩⟩,λ_ h=>kP⟩,h.1.1.1.2⟩⟩
theorem aaz(w:World)(g:bG)(o:Aw)(aj:Int)(hg:g.ok w)(h64:i64 aj)(hC:∀(t:bG) (c:dN),zR c o.aR (check t).2 t.l->∀(i:Nat) (n:ai),t.l[i]? =some n->Dq c n i (vw n.ak)):Calls Tryz.prog 9 #[g.val,o.val,.int .i64 aj] w (oI w (ow g o aj)):=by
 by_cases hbad:¬mD o aj\/(bX g).1≠0
 ·have h:=abG w g o aj hg h64 hbad
  have e:ow g o aj=(uZ,if mD o aj then(bX g).1 else 1):=by
   unfold ow
   by_cases hs:mD o aj
   ·rw[if_pos hs,if_pos hs,if_pos (hbad.resolve_left (λh=>h hs))]
   ·rw[if_neg hs,if_neg hs]
  rw[e];exact h
 have hs:mD o aj:=Decidable.byContradiction λh=>hbad (.inl h)
 have hsp:(bX g).1=0:=Decidable.byContradiction λh=>hbad (.inr h)
 obtain⟨s1,s2,s3,s4,s5⟩:=id hs
 obtain⟨m,rfl⟩:∃m:Nat,aj=m:=⟨aj.toNat,by omega⟩
 have hF:ow g o m=kG (if o.tidy=true then YD g else g) o.aR o.giant m:=by unfold ow;rw[if_pos hs,if_neg (λh=>h hsp),Int.toNat_natCast]
 rw[hF]
 obtain⟨hck,_,_⟩:=jw hsp
 obtain⟨hl1,wT,_⟩:=iq hck
 refine fH Tryz.func9 [.agg [.c (.slice g.base g.l.length g.cap),ax g.out],.agg [ax o.aR,.c (.bool o.tidy),.c (.bool o.lazy),.c (.bool o.giant),ax o.rows],ax m] ?_
 repeat' ((conv=>whnf)<;>first|(show Jl ..;refine IK ?_)|(show @eZ _ _ _;(first|refine dA aa ?_))|(show aI _ 22 ..;refine nK (f:=22) (bX g) Tryz.call22 (λρ w' hw=>xw w' g (ae hw λR h=>hg.later h)) (λh=>absurd hsp h) (λ_ qb qc=> ?_))|refine aX ?_)
 refine uU (λ_=>rfl) (λht=> ?_) (λht=> ?_)
 ·rw[if_pos ht]
  repeat' ((conv=>whnf)<;>first|(show aI _ 23 ..;refine V7 g hsp hg.small wT Tryz.call23 (λρ w' hw=>adP w' g (ae hw λR h=>hg.later h.1)) (λt hT=> ?_)))
  rw[<-hT.lower]
  exact Wp.into 3 [] (Tv w t o m ⟨by omega,by omega⟩ (hT.spans hsp) (λc hc=>hC t c hc)) aY ⟨rfl,rfl⟩ ⟨rfl,⟨rfl,rfl,rfl,rfl,trivial⟩,bM,λR w' h=>⟨h.1.1,(vX λw=>t.ok w).mono h.2 (λb hb=>hb.1)⟩⟩
 ·rw[if_neg (by rw[ht];decide)]
  repeat' ((conv=>whnf)<;>first|refine BD ?_|refine ag ?_ ?_<;>intro _)
  exact Wp.into 3 [] (Tv w g o m ⟨by omega,by omega⟩ hsp (λc hc=>hC g c hc)) aY ⟨rfl,rfl⟩ ⟨rfl,⟨rfl,rfl,rfl,rfl,trivial⟩,bM,λR w' h=>⟨h.1,tZ h.1 (λ_ _ h=>hg.later h)⟩⟩
end Go.Proofs.YtgndjjdeopfdkaaGreat

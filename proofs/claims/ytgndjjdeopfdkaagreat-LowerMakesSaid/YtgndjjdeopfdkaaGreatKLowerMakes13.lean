import Derived.DeepKeys
import Derived.Test.YtgndjjdeopfdkaaGreatKLowerMakes12
/- texts NT UN of the proof of LowerMakesSaid -/
set_option maxHeartbeats 16000000
set_option maxRecDepth 20000
namespace Go.Proofs.YtgndjjdeopfdkaaGreat
abbrev aiI:Go.SX.DT:=(eF [0,1,2,3,5,6,104,107,8,109] .done)
open Go.SX Go.RowKit
section
variable {X:ai} {x:aP} {row:List aP} {j nx:Nat} {f:Int} {H:Heap} {S:bJ}
theorem Rj{k:Nat}(h:k<=1000000):i64 (k:Int):=by unfold i64;omega
theorem xV(hx:row[j]? =some x)(hf:f=vz X.pl row j)(h:0<=f\/X.kind=1\/nS x X.pl=false):f=vz X.pl row (j+1):=by
 have hl:=akg X.pl row j
 rw[Vb hx,<-hf]
 rw[<-hf]at hl
 by_cases h0:0<=f
 ·rw[if_pos h0]
 ·rw[if_neg h0]
  by_cases h1:X.pl.kind=1
  ·rw[if_pos h1];omega
  ·have h2:=(h.resolve_left h0).resolve_left h1
   rw[if_neg h1,if_neg (by rw[h2];decide)];omega
theorem xW(hx:row[j]? =some x)(hf:f=vz X.pl row j)(h0:f<0)(h1:X.kind≠1)(h2:nS x X.pl=true):(j:Int)=vz X.pl row (j+1):=by
 rw[Vb hx,<-hf,if_neg aa,if_neg (show¬X.pl.kind=1 from h1),if_pos h2]
theorem XJ{cx:Cx}{f:FuncId}{args:List SV}{K:SV->Heap->bJ->Nat->Prop}{row:List ai}{x:List aP×List Nat}{out:Nat}(hf:∀ar w,(callFunc f ar).run cx.P w= .ok (.enter f ar) w)
 (hc:∀ρ w',dY cx.B ρ nx H S w'->Calls cx.P f (SV.d_ ρ args).toArray w' (Rf w' row x out))
 (h:∀(l:List ai) base cap,l.map ai.pl=x.1->From row l->(∀n∈l,n.iI)->l.length<=row.length->K (.c (.agg #[.slice base l.length cap,.int .i64 (x.2.getD out 0:Nat)])) H (S.and ((eY base 9 (bq l)).past cx.B.w0.heap.size)) nx):aC cx f args H S nx K:=
 gP hf (λy:List ai×Option Addr×Nat=> .agg #[.slice y.2.1 y.1.length y.2.2,.int .i64 (x.2.getD out 0:Nat)]) (λy=>eY y.2.1 9 (bq y.1)) (λy=>y.1.map ai.pl=x.1/\From row y.1/\(∀n∈y.1,n.iI)/\y.1.length<=row.length) (λρ w' hw=>(hc ρ w' hw).mono λe w'' he=>by
  obtain⟨l,base,cap,h1,h2,h3,h4,h5,h6,h7⟩:=he
  exact⟨(l,base,cap),⟨h1,h2,h3,h4⟩,h5,h6,h7⟩) (λy hy=>h y.1 y.2.1 y.2.2 hy.1 hy.2.1 hy.2.2.1 hy.2.2.2)
theorem aby{B:Base}{w:World}{g:bE}{l row:List ai}{base:Option Addr}{cap o:Nat}{r:Int}{x:List aP×Nat}(hw0:B.w0=w)(hb:∀R w',S.holds R w'->(aH w).holds R w')(hrw:∀R w',S.holds R w'->(xQ (qK g) w.heap.size row).holds R w')(hD:∀R w',S.holds R w'->((eY base 9 (bq l)).past w.heap.size).holds R w')(hfr:From row l)(hs:∀n∈l,n.iI)(h24:l.length<=24)(hr:r=0)(hx:x=(l.map ai.pl,o)):
 jE B (.sI [.agg [.c (.slice base l.length cap),ak o],ak 0]) H S nx (Bq g w r x):=by
 subst hw0 hr hx
 refine dz λρ w' hw=> .inr ⟨rfl,l,base,cap,rfl,hs,h24,rfl,aV hw hb,oh hw hD,λn hn=> ?_⟩
 obtain⟨R,φ,nW⟩:=hw
 have hk:=hrw R w' nW.sJ
 obtain⟨k,hkm,e1,e2,e3⟩:=hfr n hn
 have hm:=(wu (qK g) B.w0.heap.size k).stable (R':=λb=>b<w'.heap.size) (w':=w') (λb hb=>nW.ro b hb) (λ_ _=>rfl) (hk k hkm)
 unfold wu at hm|-
 rw[e1,e2,e3]
 exact hm
theorem Vd(w:World)(g:bE)(hg:g.ok w):Calls Tryz.prog 33 #[g.val] w (Bq g w (bT g).1 (kz (g.l.map ai.pl) (check g).2 g.out.toNat)):=by
 refine fq Tryz.func33 [.agg [.c (.slice g.base g.l.length g.cap),ak g.out]] ?_
 (repeat' ((conv=>whnf)<;>first|refine aN ?_|refine ag ?_ ?_<;>intro _))
 refine mY (f:=16) (bT g) Tryz.call16 (λρ w' hw=>yU w' g (ae hw λR h=>hg.later h)) (λhne=> ?_) (λhsp qb qc=> ?_)
 ·(repeat' ((conv=>whnf)<;>first|(show @dR _ _ _;refine bA hne ?_)|refine aN ?_))
  conv=>whnf
  exact dz λρ w' hw=> .inl ⟨hne,rfl,aV hw (λ_ _ h=>h)⟩
 obtain⟨hck,hsl,hsi⟩:=jA hsp
 obtain⟨hl1,xn,hout,hcl,hin⟩:=gX hck
 have hL:=zQ hsp
 have hP:=ZB hg.each
 (repeat' ((conv=>whnf)<;>first|refine aN ?_|refine ag ?_ ?_<;>intro _))
 refine oL (f:=34) (check g) Tryz.call34 (λρ w' hw=>nJ w' g (ae hw λR h=>hg.later h.1)) (λhne=>absurd hck hne) (λ_ sv hm hsv=> ?_)
 have anw:sv.l.length=g.l.length:=by rw[<-hcl,<-hm];simp
 (repeat' ((conv=>whnf)<;>first|refine aN ?_|refine ag ?_ ?_<;>intro _))
 refine Wp.loop (σ:=Nat×List ai×List aj×List Nat) 5 (λ⟨i,row,nE,st⟩=>[(1,.lp 0 0 0 0),(2,.lp 1 0 0 0),(6,.c sv.val),(8,.os 2 row.length),(9,.os 3 nE.length),(10,.os 4 st.length),(37,.c (.slice g.base g.l.length g.cap)),(38,ak g.l.length),(39,ak i)])
  (λ⟨i,row,nE,st⟩=>[(4,.rows (ints (p_ st)) 1 3),(3,.rows (aM nE) 1 32),(2,.rows (bq row) 9 41),(1,.box [.c (.slice none 0 0),ak 0] 24),(0,.box [.c (.slice g.base g.l.length g.cap),ak g.out] 24)])
  (λ⟨_,row,_,_⟩=>((aH w).and ((jy sv).past w.heap.size)).and (xQ (qK g) w.heap.size row))
  (λ⟨i,row,nE,st⟩=>i<=g.l.length/\(∀x∈row,x.iI)/\(∀u∈nE,u∈sv.l)/\tq (g.l.map ai.pl) (check g).2 (bT g).2 i (row.map ai.pl) st/\eG ((row.map ai.pl).map aP.jg) []=(0,nE.map aj.xs)) (λs=>g.l.length-s.1) (0,[],[],[]) [(2,none),(3,none),(4,none)] aS (λs=>⟨rfl,rfl⟩)
  ⟨Nat.zero_le _,λn hn=>by simp at hn,λn hn=>by simp at hn,yF _ _ _,rfl⟩ ⟨rfl,aU,⟨rfl,rfl,rfl,aQ,aQ,trivial⟩,λR w' h=>⟨⟨h.1.1,h.2⟩,afm _ _ R w'⟩⟩ ?_
 rintro⟨i,row,nE,st⟩ ⟨hi,hsn,zh,hT,hcr⟩
 by_cases hlt:i<g.l.length
 ·obtain⟨a,ha⟩:∃a,g.base=some a:=aI (j:=i) hg.rows Db
  have hrow:=bQ hlt
  have hnm:=List.getElem_mem hlt
  have Vy:(g.l.map ai.pl)[i]? =some g.l[i].pl:=by rw[List.getElem?_map,List.getElem?_eq_getElem hlt];rfl
  generalize g.l[i]=n at*
  have hno:=hg.each n hnm
  have hPn:=akf hnm
  have VK:=hL.ahead Vy
  have FL:=hT.len
  have hkl:=hT.few
  rw[List.length_map]at hkl
  obtain⟨dX,fJ,hR,hS⟩:=hT.ok
  obtain rfl:dX=nE.map aj.xs:=by have:=hR.eG;rw[hcr,Prod.mk.injEq]at this;exact this.2.symm
  have afc:(g.l.map ai.pl)[st.length]? =some n.pl:=by rw[FL];exact Vy
  obtain⟨hmv,WS⟩:=Kz hL hR hS afc
  have Ti:=(hL.span _ _ afc).2
  have hT':=hT.step hL Vy
  rw[FL]at hmv WS Ti
  have amF:nE.length=row.length:=by have:=hR.wz;simpa using this
  have aci:i<sv.l.length:=by omega
  have acj:=dh aci
  have wN:=List.getElem_mem aci
  have fP:sv.l[i].xs=gD (check g).2 i:=by
   unfold gD
   rw[<-hm,List.getD_eq_getElem?_getD,List.getElem?_map,List.getElem?_eq_getElem aci];rfl
  generalize sv.l[i]=u at*
  have haa:n.kind≠1->n.kind≠2->n.a.toNat<st.length:=λh1 h2=>by rw[FL];exact VK.a1 h1 h2
  have hbb:n.kind=6->n.b.toNat<st.length:=λh6=>by rw[FL];exact VK.b1 h6
  have hst:∀j,j<st.length->st.getD j 0<row.length:=λj hj=>by have:=hS.lt j hj;rwa[List.length_map,amF]at this
  have ha0:0<=n.a:=VK.a0
  have hb0:0<=n.b:=VK.b0
  refine Wp.know (p:=∃a,sv.base=some a) (λρ w' hw=>ae hw λR h=>aI (j:=i) (aO h.1.2.1) Pq) ?_
  rintro⟨sa,hsa⟩
  by_cases h12:n.kind=1\/n.kind=2
  ·have ht:bZ n.pl=[]:=by unfold bZ;rw[if_pos (show n.pl.kind=1\/n.pl.kind=2 from h12)]
   have hMp:n.pl=bG st n.pl:=by unfold bG;rw[if_pos (show n.pl.kind=1\/n.pl.kind=2 from h12)]
   have hMs:n.iI:=hno.iI
   have hkM:gM (row.map ai.pl) n.pl=false:=by
    unfold gM
    rw[decide_eq_true (show n.pl.kind=1\/n.pl.kind=2 from h12)];rfl
   have h6:¬n.kind=6:=by omega
   (repeat' ((conv=>whnf)<;>first|refine M6 ?_|refine M7 ?_|(refine ahj ?_;intro u1 hu1 Hf L_)|refine aN ?_|refine ag ?_ ?_<;>intro _))
   refine Wp.rounds 1 ?_
   (repeat' ((conv=>whnf)<;>first|(refine ahj ?_;intro u1 hu1 Hf L_)|refine aN ?_|refine ag ?_ ?_<;>intro _))
   have Ve:=hMs
   have hXp:j3 (gD (check g).2 i) (row.map ai.pl) (bG st n.pl)=n.pl:=by rw[<-hMp,j3,if_neg Yt]
   have hstep:=xU hL hT Vy hcr hXp fP
   refine Wp.loop (σ:=Nat×Int) 7 (λ⟨j,f⟩=>[(1,.lp 0 0 0 0),(2,.lp 1 0 0 0),(6,.c sv.val),(8,.os 2 row.length),(9,.os 3 nE.length),(10,.os 4 st.length),(11,ak i),(12,.lp 5 0 0 0),(37,.c (.slice g.base g.l.length g.cap)),(38,ak g.l.length),(39,ak i),(19,ak f),(113,.os 2 row.length),(114,ak row.length),(115,ak j)]) (λ_=>[(5,.box (cs n.cells) 41),(4,.rows (ints (p_ st)) 1 3),(3,.rows (aM nE) 1 32),(2,.rows (bq row) 9 41),(1,.box [.c (.slice none 0 0),ak 0] 24),(0,.box [.c (.slice g.base g.l.length g.cap),ak g.out] 24)]) (λ_=>(((aH w).and ((jy sv).past w.heap.size)).and (xQ (qK g) w.heap.size row)).and (wu (qK g) w.heap.size n))
    (λ⟨j,f⟩=>j<=row.length/\f=vz n.pl (row.map ai.pl) j) (λs=>row.length-s.1) (0,-1) [] aS (λs=>⟨rfl,rfl⟩) ⟨Nat.zero_le _,(xS _ _).symm⟩ ⟨rfl,aU,aU,λR w' h=>⟨h.1.1.1,xR hPn rfl rfl rfl R w'⟩⟩ ?_
   rintro⟨j,f⟩ ⟨hj,hf⟩
   by_cases hjl:j<row.length
   ·have FT:=bQ hjl
    have hxm:=List.getElem_mem hjl
    have hxp:(row.map ai.pl)[j]? =some row[j].pl:=by rw[List.getElem?_map,List.getElem?_eq_getElem hjl];rfl
    generalize row[j]=y at*
    (repeat' ((conv=>whnf)<;>first|refine M8 ?_|refine FR ?_|(show aC _ 77 ..;((refine fE (f:=77) Tryz.call77 (nS y.pl n.pl) (λρ w' hw=>nP w' y n (ae hw λR h=>yV hP hsn h.1.1.1 h.1.2 y hxm) (ae hw λR h=>uA hP Ve h.1.1.1 h.2)) ?_ ?_<;>intro hsm)))|refine aN ?_|refine ag ?_ ?_<;>intro _))
    all_goals(conv=>whnf)
    all_goals first|exact⟨(j+1,f),[],⟨hjl,xV hxp hf ZM⟩,by simp only;omega,rfl,aU,aU,λR w' h=>h⟩|exact⟨(j+1,(j:Int)),[],⟨hjl,xW hxp hf aa aa vE⟩,by simp only;omega,rfl,aU,aU,λR w' h=>h⟩
   ·obtain rfl:j=row.length:=by omega
    rw[Bo ZQ]at hf
    obtain⟨q,hq⟩:∃q,(match j4 (row.map ai.pl) n.pl with|some k=>k|none=>row.length)=q:=⟨_,rfl⟩
    cases Ca:j4 (row.map ai.pl) n.pl
    all_goals(rw[Ca]at hf hq;dsimp only at hf hq;have hq:=hq.symm;subst hf hq)
    all_goals
     (repeat' ((conv=>whnf)<;>first|refine FU ?_|refine M9 ?_|refine M_ ?_|refine Na ?_|(show jd _ ((_,.rows (List.take row.length _++_) _ _)::_) _ _ _;refine iG (ys:=bq (row++[n])) (m:=(row++[n]).length) ?_ (lT row n) ahI)|refine Nb ?_|refine Nc ?_|refine aN ?_|refine ag ?_ ?_<;>intro _))
    all_goals(conv=>whnf)
    all_goals first|exact⟨(i+1,row,nE,st++[q]),[(4,some 8)],⟨hlt,hsn,zh,hstep.1 q Ca,hcr⟩,by simp only;omega,rfl,aU,aU,λR w' h=>h.1⟩|exact⟨(i+1,row++[n],nE++[u],st++[row.length]),[(2,some 8),(3,some 10),(4,some 12)],⟨hlt,uM hsn Ve,Bp zh wN,(hstep.2 Ca).1,(hstep.2 Ca).2⟩,by simp only;omega,rfl,aU,aU,λR w' h=>⟨h.1.1,uL h.1.2 h.2⟩⟩
  ·have haL:=haa aa aa
   have afY:=hst _ haL
   have vK:=bQ afY
   have ai5:=p8 haL
   have agY:((row.map ai.pl).getD (st.getD n.a.toNat 0) di).kind=row[st.getD n.a.toNat 0].kind:=by rw[zT afY];rfl
   by_cases h6:n.kind=6
   ·have ht:bZ n.pl=[n.a,n.b]:=by unfold bZ;rw[if_neg (show¬(n.pl.kind=1\/n.pl.kind=2)from h12),if_pos (show n.pl.kind=6 from h6)];rfl
    have hbL:=hbb h6
    have ai4:=hst _ hbL
    have I9:=bQ ai4
    have am9:=p8 hbL
    have amG:((row.map ai.pl).getD (st.getD n.b.toNat 0) di).kind=row[st.getD n.b.toNat 0].kind:=by rw[zT ai4];rfl
    have hMp:(jI n (st.getD n.a.toNat 0) (st.getD n.b.toNat 0)).pl=bG st n.pl:=by unfold bG;rw[if_neg (show¬(n.pl.kind=1\/n.pl.kind=2)from h12),if_pos (show n.pl.kind=6 from h6)];rfl
    have hmM:iY (jI n (st.getD n.a.toNat 0) (st.getD n.b.toNat 0)).pl.jg (nE.map aj.xs) (gD (check g).2 i):=by rw[hMp];exact hmv
    have hMs:(jI n (st.getD n.a.toNat 0) (st.getD n.b.toNat 0)).iI:=⟨hno.shape.a_,hno.data.a_,hno.aG.a_,hno.jJ,Rj aa,Rj aa,hno.kE,hno.kF,hno.jK⟩
    by_cases hkA:row[st.getD n.a.toNat 0].kind=2
    ·by_cases hkB:row[st.getD n.b.toNat 0].kind=2
     ·have hkM:gM (row.map ai.pl) (jI n (st.getD n.a.toNat 0) (st.getD n.b.toNat 0)).pl=true:=by
       unfold gM oz
       show(!decide (n.kind=1\/n.kind=2)&&decide (((row.map ai.pl).getD (st.getD n.a.toNat 0) di).kind=2)&&(_||decide (((row.map ai.pl).getD (st.getD n.b.toNat 0) di).kind=2)))=true
       rw[agY,amG,decide_eq_false h12,decide_eq_true hkA,decide_eq_true hkB,Bool.or_true];rfl
      (repeat' ((conv=>whnf)<;>first|refine M6 ?_|refine M7 ?_|(refine Nf ?_;intro u1 hu1 Hf L_)|refine aN ?_|refine ag ?_ ?_<;>intro _))
      refine Wp.know (p:=∃a,u1.base=some a) (λρ w' hw=>ae hw λR h=>aI (j:=0) (aO ((bn u1).mono h.2 (λb hb=>hb.1))) acB) ?_
      rintro⟨ua,jr⟩
      have hu0:(ints u1.xs)[0]? =some [.int .i64 n.a]:=by rw[hu1];rfl
      have ai3:(ints u1.xs)[1]? =some [.int .i64 n.b]:=by rw[hu1];rfl
      refine Wp.rounds 4 ?_
      (repeat' ((conv=>whnf)<;>first|refine RD ?_|refine ack ?_|refine acm ?_|refine acn ?_|refine aco ?_|(refine Nf ?_;intro u1 hu1 Hf L_)|refine RF ?_|refine RG ?_|refine aN ?_|refine ag ?_ ?_<;>intro _))
      refine Wp.loop (σ:=Nat) 7 (λj=>[(1,.lp 0 0 0 0),(2,.lp 1 0 0 0),(6,.c sv.val),(8,.os 2 row.length),(9,.os 3 nE.length),(10,.os 4 st.length),(11,ak i),(12,.lp 5 0 0 0),(37,.c (.slice g.base g.l.length g.cap)),(38,ak g.l.length),(39,ak i),(16,.os 6 row.length),(91,.os 2 row.length),(92,ak row.length),(93,ak j)]) (λj=>[(6,.rows (aM (nR row.length ((row.map ai.data).take j))) 1 32),(5,.box (cs (jI n (st.getD n.a.toNat 0) (st.getD n.b.toNat 0)).cells) 41),(4,.rows (ints (p_ st)) 1 3),(3,.rows (aM nE) 1 32),(2,.rows (bq row) 9 41),(1,.box [.c (.slice none 0 0),ak 0] 24),(0,.box [.c (.slice g.base g.l.length g.cap),ak g.out] 24)]) (λ_=>((aH w).and ((jy sv).past w.heap.size)).and (xQ (qK g) w.heap.size row))
       (λj=>j<=row.length) (λj=>row.length-j) 0 [] aS (λs=>⟨rfl,rfl⟩) (Nat.zero_le _) ⟨rfl,aU,aU,λR w' h=>h.1.1.1⟩ ?_
      rintro j hj
      by_cases hjl:j<row.length
      ·have FT:=bQ hjl
       have hdj:(row.map ai.data).take (j+1)=(row.map ai.data).take j++[row[j].data]:=by
        rw[List.take_add_one,List.getElem?_map,List.getElem?_eq_getElem hjl];rfl
       have hdl:((row.map ai.data).take j).length=j:=by rw[List.length_take,List.length_map];omega
       generalize row[j]=y at*
       (repeat' ((conv=>whnf)<;>first|refine ahk ?_|refine FR ?_|(show bS ..;refine vV hdl hjl ?_)|refine aN ?_|refine ag ?_ ?_<;>intro _))
       all_goals(conv=>whnf)
       all_goals exact⟨j+1,[],hjl,by omega,rfl,aU,⟨by rw[hdj];exact aQ,aQ,aQ,aQ,aQ,aQ,aQ,trivial⟩,λR w' h=>h⟩
      obtain rfl:j=row.length:=by omega
      have hgk:nR row.length ((row.map ai.data).take row.length)=row.map ai.data:=by
       rw[List.take_of_length_le acE]
       unfold nR
       rw[List.length_map,Nat.sub_self];simp
      (repeat' ((conv=>whnf)<;>first|(show cO _ 28 ..;refine mE [] [] aiI ?_ (h6:=List.nil_sublist _))|refine ahl ?_|refine FU ?_|(show fu ..;(refine aW (λR w' h=>by rw[<-hsa];exact aO h.1.2.1) _ _ acj rfl ?_))|(show aC _ 76 ..;(refine gP Tryz.call76 (λx:aj×Bool=>x.1.val) aaf (λx=>x.1.xs=kI (gD (check g).2 i) (row.map ai.pl) (jI n (st.getD n.a.toNat 0) (st.getD n.b.toNat 0)).pl/\x.1.a_/\(x.2=true->x.1=(jI n (st.getD n.a.toNat 0) (st.getD n.b.toNat 0)).data)) (λρ w' hw=>El hR hmM hkM ⟨(ρ 3).base,(ρ 3).cap,nE⟩ rfl ⟨ed hw aQ,λz hz=>ae hw λR h=>(oF hsv aa h.1.2).each z (zh z hz),by show nE.length<=24;omega⟩ (ae hw λR h=>uA (N:=0) hP hMs h.1.1 (xR hPn rfl rfl rfl R w')) (ae hw λR h=>yV hP hsn h.1.1 h.2) (ρ 6).base (ρ 6).cap ak6) (λx hx=> ?_)))|refine aN ?_|refine ag ?_ ?_<;>intro _))
      have Ve:(fU u x.1).iI:=Ar (hsv u wN) hx.2.1
      have hXp:j3 (gD (check g).2 i) (row.map ai.pl) (bG st n.pl)=(fU u x.1).pl:=by rw[<-hMp,j3,if_pos hkM,xP fP hx.1]
      have hstep:=xU hL hT Vy hcr hXp fP
      refine Wp.loop (σ:=Nat×Int) 7 (λ⟨j,f⟩=>[(1,.lp 0 0 0 0),(2,.lp 1 0 0 0),(6,.c sv.val),(8,.os 2 row.length),(9,.os 3 nE.length),(10,.os 4 st.length),(11,ak i),(12,.lp 5 0 0 0),(37,.c (.slice g.base g.l.length g.cap)),(38,ak g.l.length),(39,ak i),(19,ak f),(113,.os 2 row.length),(114,ak row.length),(115,ak j)]) (λ_=>[(5,.box (cs (fU u x.1).cells) 41),(4,.rows (ints (p_ st)) 1 3),(3,.rows (aM nE) 1 32),(2,.rows (bq row) 9 41),(1,.box [.c (.slice none 0 0),ak 0] 24),(0,.box [.c (.slice g.base g.l.length g.cap),ak g.out] 24)]) (λ_=>(((aH w).and ((jy sv).past w.heap.size)).and (xQ (qK g) w.heap.size row)).and (wu (qK g) w.heap.size (fU u x.1)))
       (λ⟨j,f⟩=>j<=row.length/\f=vz (fU u x.1).pl (row.map ai.pl) j) (λs=>row.length-s.1) (0,-1) [] aS (λs=>⟨rfl,rfl⟩) ⟨Nat.zero_le _,(xS _ _).symm⟩ ⟨rfl,aU,aU,λR w' h=>⟨h.1,L9 hPn.2.1 (.inl rfl) wN hx.2.2 h.1.1.2 h.2⟩⟩ ?_
      rintro⟨j,f⟩ ⟨hj,hf⟩
      by_cases hjl:j<row.length
      ·have FT:=bQ hjl
       have hxm:=List.getElem_mem hjl
       have hxp:(row.map ai.pl)[j]? =some row[j].pl:=by rw[List.getElem?_map,List.getElem?_eq_getElem hjl];rfl
       generalize row[j]=y at*
       have h1:¬(fU u x.1).kind=1:=λh=>absurd (show(2:Int)=1 from h) aS
       (repeat' ((conv=>whnf)<;>first|refine M8 ?_|refine FR ?_|(show aC _ 77 ..;((refine fE (f:=77) Tryz.call77 (nS y.pl (fU u x.1).pl) (λρ w' hw=>nP w' y (fU u x.1) (ae hw λR h=>yV hP hsn h.1.1.1 h.1.2 y hxm) (ae hw λR h=>uA hP Ve h.1.1.1 h.2)) ?_ ?_<;>intro hsm)))|refine aN ?_|refine ag ?_ ?_<;>intro _))
       all_goals(conv=>whnf)
       all_goals first|exact⟨(j+1,f),[],⟨hjl,xV hxp hf ZM⟩,by simp only;omega,rfl,aU,aU,λR w' h=>h⟩|exact⟨(j+1,(j:Int)),[],⟨hjl,xW hxp hf aa aa vE⟩,by simp only;omega,rfl,aU,aU,λR w' h=>h⟩
      ·obtain rfl:j=row.length:=by omega
       rw[Bo ZQ]at hf
       obtain⟨q,hq⟩:∃q,(match j4 (row.map ai.pl) (fU u x.1).pl with|some k=>k|none=>row.length)=q:=⟨_,rfl⟩
       cases Ca:j4 (row.map ai.pl) (fU u x.1).pl
       all_goals(rw[Ca]at hf hq;dsimp only at hf hq;have hq:=hq.symm;subst hf hq)
       all_goals
        (repeat' ((conv=>whnf)<;>first|refine FU ?_|refine M9 ?_|refine M_ ?_|refine Na ?_|refine ahm ?_|refine Nb ?_|refine Nc ?_|refine aN ?_|refine ag ?_ ?_<;>intro _))
       all_goals(conv=>whnf)
       all_goals first|exact⟨(i+1,row,nE,st++[q]),[(4,some 8)],⟨hlt,hsn,zh,hstep.1 q Ca,hcr⟩,by simp only;omega,rfl,aU,aU,λR w' h=>h.1⟩|exact⟨(i+1,row++[(fU u x.1)],nE++[u],st++[row.length]),[(2,some 8),(3,some 10),(4,some 12)],⟨hlt,uM hsn Ve,Bp zh wN,(hstep.2 Ca).1,(hstep.2 Ca).2⟩,by simp only;omega,rfl,aU,aU,λR w' h=>⟨h.1.1,uL h.1.2 h.2⟩⟩
     ·have hkM:gM (row.map ai.pl) (jI n (st.getD n.a.toNat 0) (st.getD n.b.toNat 0)).pl=false:=by
       unfold gM oz
       show(!decide (n.kind=1\/n.kind=2)&&decide (((row.map ai.pl).getD (st.getD n.a.toNat 0) di).kind=2)&&(decide (n.kind≠6)||decide (((row.map ai.pl).getD (st.getD n.b.toNat 0) di).kind=2)))=false
       rw[amG,decide_eq_false hkB,decide_eq_false (show¬(n.kind≠6)fromλh=>h h6),Bool.or_false,Bool.and_false]
      (repeat' ((conv=>whnf)<;>first|refine M6 ?_|refine M7 ?_|(refine Nf ?_;intro u1 hu1 Hf L_)|refine aN ?_|refine ag ?_ ?_<;>intro _))
      refine Wp.know (p:=∃a,u1.base=some a) (λρ w' hw=>ae hw λR h=>aI (j:=0) (aO ((bn u1).mono h.2 (λb hb=>hb.1))) acB) ?_
      rintro⟨ua,jr⟩
      have hu0:(ints u1.xs)[0]? =some [.int .i64 n.a]:=by rw[hu1];rfl
      have ai3:(ints u1.xs)[1]? =some [.int .i64 n.b]:=by rw[hu1];rfl
      refine Wp.rounds 4 ?_
      (repeat' ((conv=>whnf)<;>first|refine RD ?_|refine ack ?_|refine acm ?_|refine acn ?_|refine aco ?_|(refine Nf ?_;intro u1 hu1 Hf L_)|refine RF ?_|refine RG ?_|refine aN ?_|refine ag ?_ ?_<;>intro _))
      have Ve:=hMs
      have hXp:j3 (gD (check g).2 i) (row.map ai.pl) (bG st n.pl)=(jI n (st.getD n.a.toNat 0) (st.getD n.b.toNat 0)).pl:=by rw[<-hMp,j3,if_neg Yt]
      have hstep:=xU hL hT Vy hcr hXp fP
      refine Wp.loop (σ:=Nat×Int) 7 (λ⟨j,f⟩=>[(1,.lp 0 0 0 0),(2,.lp 1 0 0 0),(6,.c sv.val),(8,.os 2 row.length),(9,.os 3 nE.length),(10,.os 4 st.length),(11,ak i),(12,.lp 5 0 0 0),(37,.c (.slice g.base g.l.length g.cap)),(38,ak g.l.length),(39,ak i),(19,ak f),(113,.os 2 row.length),(114,ak row.length),(115,ak j)]) (λ_=>[(5,.box (cs (jI n (st.getD n.a.toNat 0) (st.getD n.b.toNat 0)).cells) 41),(4,.rows (ints (p_ st)) 1 3),(3,.rows (aM nE) 1 32),(2,.rows (bq row) 9 41),(1,.box [.c (.slice none 0 0),ak 0] 24),(0,.box [.c (.slice g.base g.l.length g.cap),ak g.out] 24)]) (λ_=>(((aH w).and ((jy sv).past w.heap.size)).and (xQ (qK g) w.heap.size row)).and (wu (qK g) w.heap.size (jI n (st.getD n.a.toNat 0) (st.getD n.b.toNat 0))))
       (λ⟨j,f⟩=>j<=row.length/\f=vz (jI n (st.getD n.a.toNat 0) (st.getD n.b.toNat 0)).pl (row.map ai.pl) j) (λs=>row.length-s.1) (0,-1) [] aS (λs=>⟨rfl,rfl⟩) ⟨Nat.zero_le _,(xS _ _).symm⟩ ⟨rfl,aU,aU,λR w' h=>⟨h.1.1.1,xR hPn rfl rfl rfl R w'⟩⟩ ?_
      rintro⟨j,f⟩ ⟨hj,hf⟩
      by_cases hjl:j<row.length
      ·have FT:=bQ hjl
       have hxm:=List.getElem_mem hjl
       have hxp:(row.map ai.pl)[j]? =some row[j].pl:=by rw[List.getElem?_map,List.getElem?_eq_getElem hjl];rfl
       generalize row[j]=y at*
       (repeat' ((conv=>whnf)<;>first|refine M8 ?_|refine FR ?_|(show aC _ 77 ..;((refine fE (f:=77) Tryz.call77 (nS y.pl (jI n (st.getD n.a.toNat 0) (st.getD n.b.toNat 0)).pl) (λρ w' hw=>nP w' y (jI n (st.getD n.a.toNat 0) (st.getD n.b.toNat 0)) (ae hw λR h=>yV hP hsn h.1.1.1 h.1.2 y hxm) (ae hw λR h=>uA hP Ve h.1.1.1 h.2)) ?_ ?_<;>intro hsm)))|refine aN ?_|refine ag ?_ ?_<;>intro _))
       all_goals(conv=>whnf)
       all_goals first|exact⟨(j+1,f),[],⟨hjl,xV hxp hf ZM⟩,by simp only;omega,rfl,aU,aU,λR w' h=>h⟩|exact⟨(j+1,(j:Int)),[],⟨hjl,xW hxp hf aa aa vE⟩,by simp only;omega,rfl,aU,aU,λR w' h=>h⟩
      ·obtain rfl:j=row.length:=by omega
       rw[Bo ZQ]at hf
       obtain⟨q,hq⟩:∃q,(match j4 (row.map ai.pl) (jI n (st.getD n.a.toNat 0) (st.getD n.b.toNat 0)).pl with|some k=>k|none=>row.length)=q:=⟨_,rfl⟩
       cases Ca:j4 (row.map ai.pl) (jI n (st.getD n.a.toNat 0) (st.getD n.b.toNat 0)).pl
       all_goals(rw[Ca]at hf hq;dsimp only at hf hq;have hq:=hq.symm;subst hf hq)
       all_goals
        (repeat' ((conv=>whnf)<;>first|refine FU ?_|refine M9 ?_|refine M_ ?_|refine Na ?_|refine ahn ?_|refine Nb ?_|refine Nc ?_|refine aN ?_|refine ag ?_ ?_<;>intro _))
       all_goals(conv=>whnf)
       all_goals first|exact⟨(i+1,row,nE,st++[q]),[(4,some 8)],⟨hlt,hsn,zh,hstep.1 q Ca,hcr⟩,by simp only;omega,rfl,aU,aU,λR w' h=>h.1⟩|exact⟨(i+1,row++[(jI n (st.getD n.a.toNat 0) (st.getD n.b.toNat 0))],nE++[u],st++[row.length]),[(2,some 8),(3,some 10),(4,some 12)],⟨hlt,uM hsn Ve,Bp zh wN,(hstep.2 Ca).1,(hstep.2 Ca).2⟩,by simp only;omega,rfl,aU,aU,λR w' h=>⟨h.1.1,uL h.1.2 h.2⟩⟩
    ·have hkM:gM (row.map ai.pl) (jI n (st.getD n.a.toNat 0) (st.getD n.b.toNat 0)).pl=false:=by
      unfold gM oz
      show(!decide (n.kind=1\/n.kind=2)&&decide (((row.map ai.pl).getD (st.getD n.a.toNat 0) di).kind=2)&&_)=false
      rw[agY,decide_eq_false hkA,Bool.and_false,Bool.false_and]
     (repeat' ((conv=>whnf)<;>first|refine M6 ?_|refine M7 ?_|(refine Nf ?_;intro u1 hu1 Hf L_)|refine aN ?_|refine ag ?_ ?_<;>intro _))
     refine Wp.know (p:=∃a,u1.base=some a) (λρ w' hw=>ae hw λR h=>aI (j:=0) (aO ((bn u1).mono h.2 (λb hb=>hb.1))) acB) ?_
     rintro⟨ua,jr⟩
     have hu0:(ints u1.xs)[0]? =some [.int .i64 n.a]:=by rw[hu1];rfl
     have ai3:(ints u1.xs)[1]? =some [.int .i64 n.b]:=by rw[hu1];rfl
     refine Wp.rounds 4 ?_
     (repeat' ((conv=>whnf)<;>first|refine RD ?_|refine ack ?_|refine acm ?_|refine acn ?_|refine aco ?_|(refine Nf ?_;intro u1 hu1 Hf L_)|refine RF ?_|refine RG ?_|refine aN ?_|refine ag ?_ ?_<;>intro _))
     have Ve:=hMs
     have hXp:j3 (gD (check g).2 i) (row.map ai.pl) (bG st n.pl)=(jI n (st.getD n.a.toNat 0) (st.getD n.b.toNat 0)).pl:=by rw[<-hMp,j3,if_neg Yt]
     have hstep:=xU hL hT Vy hcr hXp fP
     refine Wp.loop (σ:=Nat×Int) 7 (λ⟨j,f⟩=>[(1,.lp 0 0 0 0),(2,.lp 1 0 0 0),(6,.c sv.val),(8,.os 2 row.length),(9,.os 3 nE.length),(10,.os 4 st.length),(11,ak i),(12,.lp 5 0 0 0),(37,.c (.slice g.base g.l.length g.cap)),(38,ak g.l.length),(39,ak i),(19,ak f),(113,.os 2 row.length),(114,ak row.length),(115,ak j)]) (λ_=>[(5,.box (cs (jI n (st.getD n.a.toNat 0) (st.getD n.b.toNat 0)).cells) 41),(4,.rows (ints (p_ st)) 1 3),(3,.rows (aM nE) 1 32),(2,.rows (bq row) 9 41),(1,.box [.c (.slice none 0 0),ak 0] 24),(0,.box [.c (.slice g.base g.l.length g.cap),ak g.out] 24)]) (λ_=>(((aH w).and ((jy sv).past w.heap.size)).and (xQ (qK g) w.heap.size row)).and (wu (qK g) w.heap.size (jI n (st.getD n.a.toNat 0) (st.getD n.b.toNat 0))))
      (λ⟨j,f⟩=>j<=row.length/\f=vz (jI n (st.getD n.a.toNat 0) (st.getD n.b.toNat 0)).pl (row.map ai.pl) j) (λs=>row.length-s.1) (0,-1) [] aS (λs=>⟨rfl,rfl⟩) ⟨Nat.zero_le _,(xS _ _).symm⟩ ⟨rfl,aU,aU,λR w' h=>⟨h.1.1.1,xR hPn rfl rfl rfl R w'⟩⟩ ?_
     rintro⟨j,f⟩ ⟨hj,hf⟩
     by_cases hjl:j<row.length
     ·have FT:=bQ hjl
      have hxm:=List.getElem_mem hjl
      have hxp:(row.map ai.pl)[j]? =some row[j].pl:=by rw[List.getElem?_map,List.getElem?_eq_getElem hjl];rfl
      generalize row[j]=y at*
      (repeat' ((conv=>whnf)<;>first|refine M8 ?_|refine FR ?_|(show aC _ 77 ..;((refine fE (f:=77) Tryz.call77 (nS y.pl (jI n (st.getD n.a.toNat 0) (st.getD n.b.toNat 0)).pl) (λρ w' hw=>nP w' y (jI n (st.getD n.a.toNat 0) (st.getD n.b.toNat 0)) (ae hw λR h=>yV hP hsn h.1.1.1 h.1.2 y hxm) (ae hw λR h=>uA hP Ve h.1.1.1 h.2)) ?_ ?_<;>intro hsm)))|refine aN ?_|refine ag ?_ ?_<;>intro _))
      all_goals(conv=>whnf)
      all_goals first|exact⟨(j+1,f),[],⟨hjl,xV hxp hf ZM⟩,by simp only;omega,rfl,aU,aU,λR w' h=>h⟩|exact⟨(j+1,(j:Int)),[],⟨hjl,xW hxp hf aa aa vE⟩,by simp only;omega,rfl,aU,aU,λR w' h=>h⟩
     ·obtain rfl:j=row.length:=by omega
      rw[Bo ZQ]at hf
      obtain⟨q,hq⟩:∃q,(match j4 (row.map ai.pl) (jI n (st.getD n.a.toNat 0) (st.getD n.b.toNat 0)).pl with|some k=>k|none=>row.length)=q:=⟨_,rfl⟩
      cases Ca:j4 (row.map ai.pl) (jI n (st.getD n.a.toNat 0) (st.getD n.b.toNat 0)).pl
      all_goals(rw[Ca]at hf hq;dsimp only at hf hq;have hq:=hq.symm;subst hf hq)
      all_goals
       (repeat' ((conv=>whnf)<;>first|refine FU ?_|refine M9 ?_|refine M_ ?_|refine Na ?_|refine ahn ?_|refine Nb ?_|refine Nc ?_|refine aN ?_|refine ag ?_ ?_<;>intro _))
      all_goals(conv=>whnf)
      all_goals first|exact⟨(i+1,row,nE,st++[q]),[(4,some 8)],⟨hlt,hsn,zh,hstep.1 q Ca,hcr⟩,by simp only;omega,rfl,aU,aU,λR w' h=>h.1⟩|exact⟨(i+1,row++[(jI n (st.getD n.a.toNat 0) (st.getD n.b.toNat 0))],nE++[u],st++[row.length]),[(2,some 8),(3,some 10),(4,some 12)],⟨hlt,uM hsn Ve,Bp zh wN,(hstep.2 Ca).1,(hstep.2 Ca).2⟩,by simp only;omega,rfl,aU,aU,λR w' h=>⟨h.1.1,uL h.1.2 h.2⟩⟩
   ·have ht:bZ n.pl=[n.a]:=by unfold bZ;rw[if_neg (show¬(n.pl.kind=1\/n.pl.kind=2)from h12),if_neg (show¬n.pl.kind=6 from h6)];rfl
    have hMp:(jI n (st.getD n.a.toNat 0) n.b).pl=bG st n.pl:=by unfold bG;rw[if_neg (show¬(n.pl.kind=1\/n.pl.kind=2)from h12),if_neg (show¬n.pl.kind=6 from h6)];rfl
    have hmM:iY (jI n (st.getD n.a.toNat 0) n.b).pl.jg (nE.map aj.xs) (gD (check g).2 i):=by rw[hMp];exact hmv
    have hMs:(jI n (st.getD n.a.toNat 0) n.b).iI:=⟨hno.shape.a_,hno.data.a_,hno.aG.a_,hno.jJ,Rj aa,hno.nQ,hno.kE,hno.kF,hno.jK⟩
    by_cases hkA:row[st.getD n.a.toNat 0].kind=2
    ·have hkM:gM (row.map ai.pl) (jI n (st.getD n.a.toNat 0) n.b).pl=true:=by
      unfold gM oz
      show(!decide (n.kind=1\/n.kind=2)&&decide (((row.map ai.pl).getD (st.getD n.a.toNat 0) di).kind=2)&&(decide (n.kind≠6)||_))=true
      rw[agY,decide_eq_false h12,decide_eq_true hkA,decide_eq_true h6];rfl
     (repeat' ((conv=>whnf)<;>first|refine M6 ?_|refine M7 ?_|(refine Yd ?_;intro u1 hu1 Hf L_)|refine aN ?_|refine ag ?_ ?_<;>intro _))
     refine Wp.know (p:=∃a,u1.base=some a) (λρ w' hw=>ae hw λR h=>aI (j:=0) (aO ((bn u1).mono h.2 (λb hb=>hb.1))) acB) ?_
     rintro⟨ua,jr⟩
     have hu0:(ints u1.xs)[0]? =some [.int .i64 n.a]:=by rw[hu1];rfl
     refine Wp.rounds 4 ?_
     (repeat' ((conv=>whnf)<;>first|refine RD ?_|(show bC ..;refine ax ua 0 jr rfl aa ?_)|refine aho ?_|refine ahp ?_|(show kC ..;(first|refine row_of _ _ ai5 rfl ?_|refine row_of _ _ vK rfl ?_))|(refine Yd ?_;intro u1 hu1 Hf L_)|refine RF ?_|refine RG ?_|refine aN ?_|refine ag ?_ ?_<;>intro _))
     refine Wp.loop (σ:=Nat) 7 (λj=>[(1,.lp 0 0 0 0),(2,.lp 1 0 0 0),(6,.c sv.val),(8,.os 2 row.length),(9,.os 3 nE.length),(10,.os 4 st.length),(11,ak i),(12,.lp 5 0 0 0),(37,.c (.slice g.base g.l.length g.cap)),(38,ak g.l.length),(39,ak i),(16,.os 6 row.length),(91,.os 2 row.length),(92,ak row.length),(93,ak j)]) (λj=>[(6,.rows (aM (nR row.length ((row.map ai.data).take j))) 1 32),(5,.box (cs (jI n (st.getD n.a.toNat 0) n.b).cells) 41),(4,.rows (ints (p_ st)) 1 3),(3,.rows (aM nE) 1 32),(2,.rows (bq row) 9 41),(1,.box [.c (.slice none 0 0),ak 0] 24),(0,.box [.c (.slice g.base g.l.length g.cap),ak g.out] 24)]) (λ_=>((aH w).and ((jy sv).past w.heap.size)).and (xQ (qK g) w.heap.size row))
      (λj=>j<=row.length) (λj=>row.length-j) 0 [] aS (λs=>⟨rfl,rfl⟩) (Nat.zero_le _) ⟨rfl,aU,aU,λR w' h=>h.1.1.1⟩ ?_
     rintro j hj
     by_cases hjl:j<row.length
     ·have FT:=bQ hjl
      have hdj:(row.map ai.data).take (j+1)=(row.map ai.data).take j++[row[j].data]:=by
       rw[List.take_add_one,List.getElem?_map,List.getElem?_eq_getElem hjl];rfl
      have hdl:((row.map ai.data).take j).length=j:=by rw[List.length_take,List.length_map];omega
      generalize row[j]=y at*
      (repeat' ((conv=>whnf)<;>first|refine ahk ?_|refine FR ?_|(show bS ..;refine vV hdl hjl ?_)|refine aN ?_|refine ag ?_ ?_<;>intro _))
      all_goals(conv=>whnf)
      all_goals exact⟨j+1,[],hjl,by omega,rfl,aU,⟨by rw[hdj];exact aQ,aQ,aQ,aQ,aQ,aQ,aQ,trivial⟩,λR w' h=>h⟩
     obtain rfl:j=row.length:=by omega
     have hgk:nR row.length ((row.map ai.data).take row.length)=row.map ai.data:=by
      rw[List.take_of_length_le acE]
      unfold nR
      rw[List.length_map,Nat.sub_self];simp
     (repeat' ((conv=>whnf)<;>first|(show cO _ 28 ..;refine mE [] [] aiI ?_ (h6:=List.nil_sublist _))|refine ahl ?_|refine FU ?_|(show fu ..;(refine aW (λR w' h=>by rw[<-hsa];exact aO h.1.2.1) _ _ acj rfl ?_))|(show aC _ 76 ..;(refine gP Tryz.call76 (λx:aj×Bool=>x.1.val) aaf (λx=>x.1.xs=kI (gD (check g).2 i) (row.map ai.pl) (jI n (st.getD n.a.toNat 0) n.b).pl/\x.1.a_/\(x.2=true->x.1=(jI n (st.getD n.a.toNat 0) n.b).data)) (λρ w' hw=>El hR hmM hkM ⟨(ρ 3).base,(ρ 3).cap,nE⟩ rfl ⟨ed hw aQ,λz hz=>ae hw λR h=>(oF hsv aa h.1.2).each z (zh z hz),by show nE.length<=24;omega⟩ (ae hw λR h=>uA (N:=0) hP hMs h.1.1 (xR hPn rfl rfl rfl R w')) (ae hw λR h=>yV hP hsn h.1.1 h.2) (ρ 6).base (ρ 6).cap ak6) (λx hx=> ?_)))|refine aN ?_|refine ag ?_ ?_<;>intro _))
     have Ve:(fU u x.1).iI:=Ar (hsv u wN) hx.2.1
     have hXp:j3 (gD (check g).2 i) (row.map ai.pl) (bG st n.pl)=(fU u x.1).pl:=by rw[<-hMp,j3,if_pos hkM,xP fP hx.1]
     have hstep:=xU hL hT Vy hcr hXp fP
     refine Wp.loop (σ:=Nat×Int) 7 (λ⟨j,f⟩=>[(1,.lp 0 0 0 0),(2,.lp 1 0 0 0),(6,.c sv.val),(8,.os 2 row.length),(9,.os 3 nE.length),(10,.os 4 st.length),(11,ak i),(12,.lp 5 0 0 0),(37,.c (.slice g.base g.l.length g.cap)),(38,ak g.l.length),(39,ak i),(19,ak f),(113,.os 2 row.length),(114,ak row.length),(115,ak j)]) (λ_=>[(5,.box (cs (fU u x.1).cells) 41),(4,.rows (ints (p_ st)) 1 3),(3,.rows (aM nE) 1 32),(2,.rows (bq row) 9 41),(1,.box [.c (.slice none 0 0),ak 0] 24),(0,.box [.c (.slice g.base g.l.length g.cap),ak g.out] 24)]) (λ_=>(((aH w).and ((jy sv).past w.heap.size)).and (xQ (qK g) w.heap.size row)).and (wu (qK g) w.heap.size (fU u x.1)))
      (λ⟨j,f⟩=>j<=row.length/\f=vz (fU u x.1).pl (row.map ai.pl) j) (λs=>row.length-s.1) (0,-1) [] aS (λs=>⟨rfl,rfl⟩) ⟨Nat.zero_le _,(xS _ _).symm⟩ ⟨rfl,aU,aU,λR w' h=>⟨h.1,L9 hPn.2.1 (.inl rfl) wN hx.2.2 h.1.1.2 h.2⟩⟩ ?_
     rintro⟨j,f⟩ ⟨hj,hf⟩
     by_cases hjl:j<row.length
     ·have FT:=bQ hjl
      have hxm:=List.getElem_mem hjl
      have hxp:(row.map ai.pl)[j]? =some row[j].pl:=by rw[List.getElem?_map,List.getElem?_eq_getElem hjl];rfl
      generalize row[j]=y at*
      have h1:¬(fU u x.1).kind=1:=λh=>absurd (show(2:Int)=1 from h) aS
      (repeat' ((conv=>whnf)<;>first|refine M8 ?_|refine FR ?_|(show aC _ 77 ..;((refine fE (f:=77) Tryz.call77 (nS y.pl (fU u x.1).pl) (λρ w' hw=>nP w' y (fU u x.1) (ae hw λR h=>yV hP hsn h.1.1.1 h.1.2 y hxm) (ae hw λR h=>uA hP Ve h.1.1.1 h.2)) ?_ ?_<;>intro hsm)))|refine aN ?_|refine ag ?_ ?_<;>intro _))
      all_goals(conv=>whnf)
      all_goals first|exact⟨(j+1,f),[],⟨hjl,xV hxp hf ZM⟩,by simp only;omega,rfl,aU,aU,λR w' h=>h⟩|exact⟨(j+1,(j:Int)),[],⟨hjl,xW hxp hf aa aa vE⟩,by simp only;omega,rfl,aU,aU,λR w' h=>h⟩
     ·obtain rfl:j=row.length:=by omega
      rw[Bo ZQ]at hf
      obtain⟨q,hq⟩:∃q,(match j4 (row.map ai.pl) (fU u x.1).pl with|some k=>k|none=>row.length)=q:=⟨_,rfl⟩
      cases Ca:j4 (row.map ai.pl) (fU u x.1).pl
      all_goals(rw[Ca]at hf hq;dsimp only at hf hq;have hq:=hq.symm;subst hf hq)
      all_goals
       (repeat' ((conv=>whnf)<;>first|refine FU ?_|refine M9 ?_|refine M_ ?_|refine Na ?_|refine ahm ?_|refine Nb ?_|refine Nc ?_|refine aN ?_|refine ag ?_ ?_<;>intro _))
      all_goals(conv=>whnf)
      all_goals first|exact⟨(i+1,row,nE,st++[q]),[(4,some 8)],⟨hlt,hsn,zh,hstep.1 q Ca,hcr⟩,by simp only;omega,rfl,aU,aU,λR w' h=>h.1⟩|exact⟨(i+1,row++[(fU u x.1)],nE++[u],st++[row.length]),[(2,some 8),(3,some 10),(4,some 12)],⟨hlt,uM hsn Ve,Bp zh wN,(hstep.2 Ca).1,(hstep.2 Ca).2⟩,by simp only;omega,rfl,aU,aU,λR w' h=>⟨h.1.1,uL h.1.2 h.2⟩⟩
    ·have hkM:gM (row.map ai.pl) (jI n (st.getD n.a.toNat 0) n.b).pl=false:=by
      unfold gM oz
      show(!decide (n.kind=1\/n.kind=2)&&decide (((row.map ai.pl).getD (st.getD n.a.toNat 0) di).kind=2)&&_)=false
      rw[agY,decide_eq_false hkA,Bool.and_false,Bool.false_and]
     (repeat' ((conv=>whnf)<;>first|refine M6 ?_|refine M7 ?_|(refine Yd ?_;intro u1 hu1 Hf L_)|refine aN ?_|refine ag ?_ ?_<;>intro _))
     refine Wp.know (p:=∃a,u1.base=some a) (λρ w' hw=>ae hw λR h=>aI (j:=0) (aO ((bn u1).mono h.2 (λb hb=>hb.1))) acB) ?_
     rintro⟨ua,jr⟩
     have hu0:(ints u1.xs)[0]? =some [.int .i64 n.a]:=by rw[hu1];rfl
     refine Wp.rounds 4 ?_
     (repeat' ((conv=>whnf)<;>first|refine RD ?_|(show bC ..;refine ax ua 0 jr rfl aa ?_)|refine aho ?_|refine ahp ?_|(show kC ..;(first|refine row_of _ _ ai5 rfl ?_|refine row_of _ _ vK rfl ?_))|(refine Yd ?_;intro u1 hu1 Hf L_)|refine RF ?_|refine RG ?_|refine aN ?_|refine ag ?_ ?_<;>intro _))
     have Ve:=hMs
     have hXp:j3 (gD (check g).2 i) (row.map ai.pl) (bG st n.pl)=(jI n (st.getD n.a.toNat 0) n.b).pl:=by rw[<-hMp,j3,if_neg Yt]
     have hstep:=xU hL hT Vy hcr hXp fP
     refine Wp.loop (σ:=Nat×Int) 7 (λ⟨j,f⟩=>[(1,.lp 0 0 0 0),(2,.lp 1 0 0 0),(6,.c sv.val),(8,.os 2 row.length),(9,.os 3 nE.length),(10,.os 4 st.length),(11,ak i),(12,.lp 5 0 0 0),(37,.c (.slice g.base g.l.length g.cap)),(38,ak g.l.length),(39,ak i),(19,ak f),(113,.os 2 row.length),(114,ak row.length),(115,ak j)]) (λ_=>[(5,.box (cs (jI n (st.getD n.a.toNat 0) n.b).cells) 41),(4,.rows (ints (p_ st)) 1 3),(3,.rows (aM nE) 1 32),(2,.rows (bq row) 9 41),(1,.box [.c (.slice none 0 0),ak 0] 24),(0,.box [.c (.slice g.base g.l.length g.cap),ak g.out] 24)]) (λ_=>(((aH w).and ((jy sv).past w.heap.size)).and (xQ (qK g) w.heap.size row)).and (wu (qK g) w.heap.size (jI n (st.getD n.a.toNat 0) n.b)))
      (λ⟨j,f⟩=>j<=row.length/\f=vz (jI n (st.getD n.a.toNat 0) n.b).pl (row.map ai.pl) j) (λs=>row.length-s.1) (0,-1) [] aS (λs=>⟨rfl,rfl⟩) ⟨Nat.zero_le _,(xS _ _).symm⟩ ⟨rfl,aU,aU,λR w' h=>⟨h.1.1.1,xR hPn rfl rfl rfl R w'⟩⟩ ?_
     rintro⟨j,f⟩ ⟨hj,hf⟩
     by_cases hjl:j<row.length
     ·have FT:=bQ hjl
      have hxm:=List.getElem_mem hjl
      have hxp:(row.map ai.pl)[j]? =some row[j].pl:=by rw[List.getElem?_map,List.getElem?_eq_getElem hjl];rfl
      generalize row[j]=y at*
      (repeat' ((conv=>whnf)<;>first|refine M8 ?_|refine FR ?_|(show aC _ 77 ..;((refine fE (f:=77) Tryz.call77 (nS y.pl (jI n (st.getD n.a.toNat 0) n.b).pl) (λρ w' hw=>nP w' y (jI n (st.getD n.a.toNat 0) n.b) (ae hw λR h=>yV hP hsn h.1.1.1 h.1.2 y hxm) (ae hw λR h=>uA hP Ve h.1.1.1 h.2)) ?_ ?_<;>intro hsm)))|refine aN ?_|refine ag ?_ ?_<;>intro _))
      all_goals(conv=>whnf)
      all_goals first|exact⟨(j+1,f),[],⟨hjl,xV hxp hf ZM⟩,by simp only;omega,rfl,aU,aU,λR w' h=>h⟩|exact⟨(j+1,(j:Int)),[],⟨hjl,xW hxp hf aa aa vE⟩,by simp only;omega,rfl,aU,aU,λR w' h=>h⟩
     ·obtain rfl:j=row.length:=by omega
      rw[Bo ZQ]at hf
      obtain⟨q,hq⟩:∃q,(match j4 (row.map ai.pl) (jI n (st.getD n.a.toNat 0) n.b).pl with|some k=>k|none=>row.length)=q:=⟨_,rfl⟩
      cases Ca:j4 (row.map ai.pl) (jI n (st.getD n.a.toNat 0) n.b).pl
      all_goals(rw[Ca]at hf hq;dsimp only at hf hq;have hq:=hq.symm;subst hf hq)
      all_goals
       (repeat' ((conv=>whnf)<;>first|refine FU ?_|refine M9 ?_|refine M_ ?_|refine Na ?_|(show jd _ ((_,.rows (List.take row.length _++_) _ _)::_) _ _ _;refine iG (ys:=bq (row++[(jI n (st.getD n.a.toNat 0) n.b)])) (m:=(row++[(jI n (st.getD n.a.toNat 0) n.b)]).length) ?_ (lT row (jI n (st.getD n.a.toNat 0) n.b)) ahI)|refine Nb ?_|refine Nc ?_|refine aN ?_|refine ag ?_ ?_<;>intro _))
      all_goals(conv=>whnf)
      all_goals first|exact⟨(i+1,row,nE,st++[q]),[(4,some 8)],⟨hlt,hsn,zh,hstep.1 q Ca,hcr⟩,by simp only;omega,rfl,aU,aU,λR w' h=>h.1⟩|exact⟨(i+1,row++[(jI n (st.getD n.a.toNat 0) n.b)],nE++[u],st++[row.length]),[(2,some 8),(3,some 10),(4,some 12)],⟨hlt,uM hsn Ve,Bp zh wN,(hstep.2 Ca).1,(hstep.2 Ca).2⟩,by simp only;omega,rfl,aU,aU,λR w' h=>⟨h.1.1,uL h.1.2 h.2⟩⟩
 ·obtain rfl:i=g.l.length:=by omega
  have hdone:pJ (g.l.map ai.pl) (check g).2 ([],[])=(row.map ai.pl,st):=by
   have e:(g.l.map ai.pl).length=g.l.length:=List.length_map _
   rw[<-e]at hT
   exact hT.done
  have FL:=hT.len
  have hkl:=hT.few
  rw[List.length_map]at hkl
  obtain⟨dX,fJ,hR,hS⟩:=hT.ok
  have hoL:g.out.toNat<st.length:=by omega
  have hoK:st.getD g.out.toNat 0<row.length:=by have:=hS.lt _ hoL;rwa[hR.wz,List.length_map]at this
  have hx:kz (g.l.map ai.pl) (check g).2 g.out.toNat=((oP (mi (row.map ai.pl) (st.getD g.out.toNat 0)) (row.map ai.pl) 0 ([],[])).1,(oP (mi (row.map ai.pl) (st.getD g.out.toNat 0)) (row.map ai.pl) 0 ([],[])).2.getD (st.getD g.out.toNat 0) 0):=by unfold kz;rw[hdone]
  have hoR:(ints (p_ st))[g.out.toNat]? =some [.int .i64 (st.getD g.out.toNat 0)]:=p8 hoL
  generalize st.getD g.out.toNat 0=out at*
  generalize hfin:oP (mi (row.map ai.pl) out) (row.map ai.pl) 0 ([],[])=fin at*
  (repeat' ((conv=>whnf)<;>first|(show bV ..;refine aT g.out.toNat aa hoL (Nat.le_of_eq (mO st).symm) ?_)|(show kC ..;refine row_of _ _ hoR rfl ?_)|(show aC _ 78 ..;(refine XJ (row:=row) (x:=fin) (out:=out) Tryz.call78 (λρ w' hw=>by have:=agV w' (ρ 2).base (ρ 2).cap row (ed hw aQ) hsn hR aa out hoK;rw[hfin]at this;exact this) (λl base cap q1 q2 q3 q4=> ?_)))|refine aN ?_|refine ag ?_ ?_<;>intro _))
  all_goals(conv=>whnf)
  all_goals exact aby rfl (λR w' h=>h.1.1.1) (λR w' h=>h.1.2) (λR w' h=>h.2) q2 q3 aa hsp (by rw[hx,<-q1])
end
section
variable {row:List aP} {m:aP} {k:Nat} {dX:List (List Int)} {fJ:List Sp} {need:Nat->Bool}
structure Ma(row:List aP):Prop where
 known:∀(k:Nat) p,row[k]? =some p->gM row p=false
 once:∀(j k:Nat) p,j<k->row[j]? =some p->row[k]? =some p->p.kind=1
theorem Gz{row':List aP}{p:aP}(hA:p.kind≠1->p.kind≠2->(row.getD p.a.toNat di).kind=(row'.getD p.a.toNat di).kind)(hB:p.kind=6->(row.getD p.b.toNat di).kind=(row'.getD p.b.toNat di).kind):gM row p=gM row' p:=by
 unfold gM oz
 by_cases h12:p.kind=1\/p.kind=2
 ·rw[decide_eq_true h12];rfl
 ·rw[hA aa aa]
  by_cases h6:p.kind=6
  ·rw[hB h6]
  ·rw[decide_eq_true (show p.kind≠6 from h6),Bool.true_or,Bool.true_or]
theorem Vf(h:k<row.length):(row++[m]).getD k di=row.getD k di:=by
 rw[List.getD_eq_getElem?_getD,List.getD_eq_getElem?_getD,List.getElem?_append_left h]
theorem Pb{p:aP}(h:gY p row.length):gM (row++[m]) p=gM row p:=
 Gz (λh1 h2=>by rw[Vf (h.a1 h1 h2)]) (λh6=>by rw[Vf (h.b1 h6)])
theorem gY.up{p:aP}{m:Nat}(h:gY p k)(hm:k<=m):gY p m:=⟨h.a0,λh1 h2=>Nat.lt_of_lt_of_le (h.a1 h1 h2) hm,h.a2,h.b0,λh6=>Nat.lt_of_lt_of_le (h.b1 h6) hm,h.b2,h.kind⟩
theorem Pd{n:aP}:∀{row:List aP} {k:Nat},xu n row k=none->∀j:Nat,row[j]?≠some n
 |[],_,_,j=>by simp
 |x::r,k,h,j=>by
  unfold xu at h
  split at h
  ·cases h
  ·rename_i hs
   cases j with
   |zero=>
    simp only[List.getElem?_cons_zero,ne_eq,Option.some.injEq]
    exactλe=>hs (Oc.2 e)
   |succ j=>rw[List.getElem?_cons_succ];exact Pd h j
theorem afq:Ma []:=⟨λk p h=>by simp at h,λj k p _ h=>by simp at h⟩
theorem Ma.snoc(h:Ma row)(ha:∀(k:Nat) p,row[k]? =some p->gY p k)(hm:gY m row.length)(hk:gM row m=false)(hf:j4 row m=none):Ma (row++[m]):=by
 refine⟨λk p hp=> ?_,λj k p hjk hj hk2=> ?_⟩
 ·rcases Nat.lt_or_ge k row.length with hlt|hge
  ·rw[List.getElem?_append_left hlt]at hp
   rw[Pb ((ha k p hp).up (Nat.le_of_lt hlt))]
   exact h.known k p hp
  ·rw[List.getElem?_append_right hge]at hp
   have:m=p:=by
    cases hq:k-row.length with
    |zero=>rw[hq]at hp;simpa using hp
    |succ q=>rw[hq]at hp;simp at hp
   subst this
   rw[Pb hm];exact hk
 ·rcases Nat.lt_or_ge k row.length with hlt|hge
  ·rw[List.getElem?_append_left hlt]at hk2
   rw[List.getElem?_append_left aa]at hj
   exact h.once j k p hjk hj hk2
  ·rw[List.getElem?_append_right hge]at hk2
   have hkq:k=row.length:=by
    have:=(List.getElem?_eq_some_iff.1 hk2).1
    simp at this;omega
   subst hkq
   have:m=p:=by simpa using hk2
   subst this
   rw[List.getElem?_append_left hjk]at hj
   unfold j4 at hf
   split at hf
   ·assumption
   ·exact absurd hj (Pd hf j)
theorem XK{s:List Int}{n:aP}:gM row (j3 s row n)=false:=by
 unfold j3
 by_cases h:gM row n=true
 ·rw[if_pos h];rfl
 ·rw[if_neg h];simpa using h
theorem Pe{l:List aP}{sh:List (List Int)}{sp:List Sp}(hL:dS l sh sp):∀i,i<=l.length->∃row st,tq l sh sp i row st/\Ma row
 |0,_=>⟨[],[],yF l sh sp,afq⟩
 |i+1,hi=>by
  obtain⟨row,st,hT,hN⟩:=Pe hL i aa
  have hn:l[i]? =some l[i]:=List.getElem?_eq_getElem aa
  refine⟨_,_,hT.step hL hn,?_⟩
  obtain⟨dX,fJ,hR,hS⟩:=hT.ok
  have hlen:=hT.len
  have hn':l[st.length]? =some l[i]:=by rw[hlen];exact hn
  obtain⟨hm,_⟩:=Qh hL hR hS hn'
  rw[hlen]at hm
  unfold pI Cu
  simp only
  cases hf:j4 row (j3 (gD sh i) row (bG st l[i]))with
  |some k=>exact hN
  |none=>
   have hah:=lC hm.form
   rw[hR.wz]at hah
   exact hN.snoc (λk p hp=>hR.ahead hp) hah XK hf
def XL(n:Nat):List Nat:=List.range n
theorem Em{n:Nat}(h:k<n):(XL n).getD k 0=k:=by
 unfold XL
 rw[List.getD_eq_getElem?_getD,List.getElem?_range h];rfl
theorem Vg{p:aP}{n:Nat}(h:gY p n):bG (XL n) p=p:=by
 have a0:=h.a0
 have b0:=h.b0
 unfold bG
 by_cases h12:p.kind=1\/p.kind=2
 ·rw[if_pos h12]
 ·rw[if_neg h12,Em (h.a1 aa aa)]
  have ea:((p.a.toNat:Nat):Int)=p.a:=by omega
  by_cases h6:p.kind=6
  ·rw[if_pos h6,Em (h.b1 h6),ea]
   have eb:((p.b.toNat:Nat):Int)=p.b:=by omega
   rw[eb]
  ·rw[if_neg h6,ea]
theorem Vh(n:Nat):XL (n+1)=XL n++[n]:=by unfold XL;exact List.range_succ
theorem abz(hR:dS row dX fJ)(hN:Ma row){i:Nat}{p:aP}(hp:row[i]? =some p)(s:List Int):pI s (row.take i,XL i) p=(row.take (i+1),XL (i+1)):=by
 have hah:=hR.ahead hp
 have hil:=(List.getElem?_eq_some_iff.1 hp).1
 have hgt:∀k,k<i->(row.take i).getD k di=row.getD k di:=λk hk=>by
  rw[List.getD_eq_getElem?_getD,List.getD_eq_getElem?_getD,List.getElem?_take_of_lt hk]
 have hkn:gM (row.take i) p=false:=by
  rw[Gz (row':=row) (λh1 h2=>by rw[hgt _ (hah.a1 h1 h2)]) (λh6=>by rw[hgt _ (hah.b1 h6)])]
  exact hN.known i p hp
 have Zy:j3 s (row.take i) (bG (XL i) p)=p:=by
  rw[Vg hah]
  unfold j3
  rw[if_neg (by rw[hkn];decide)]
 have hfind:j4 (row.take i) p=none:=by
  cases hf:j4 (row.take i) p with
  |none=>rfl
  |some k=>
   obtain⟨h1,h2⟩:=Cv hf
   have hk:=(List.getElem?_eq_some_iff.1 h2).1
   rw[List.length_take]at hk
   have hki:k<i:=by omega
   rw[List.getElem?_take_of_lt hki]at h2
   exact absurd (hN.once k i p hki h2 hp) h1
 unfold pI Cu
 simp only
 rw[Zy,hfind]
 simp only
 rw[List.length_take,Nat.min_eq_left aa,Vh,List.take_add_one,hp]
 rfl
theorem Mc(hR:dS row dX fJ)(hN:Ma row):∀i,i<=row.length->pJ (row.drop (row.length-i)) (dX.drop (row.length-i)) (row.take (row.length-i),XL (row.length-i))=(row,XL row.length)
 |0,_=>by
  rw[Nat.sub_zero,List.drop_length,List.take_length];rfl
 |i+1,hi=>by
  have hlt:row.length-(i+1)<row.length:=by omega
  have hl2:row.length-(i+1)<dX.length:=by rw[hR.wz];exact hlt
  rw[List.drop_eq_getElem_cons hlt,List.drop_eq_getElem_cons hl2]
  show pJ _ _ (pI _ _ _)=_
  rw[abz hR hN (List.getElem?_eq_getElem hlt)]
  have e:row.length-(i+1)+1=row.length-i:=by omega
  rw[e]
  exact Mc hR hN i aa
theorem afr(hR:dS row dX fJ)(hN:Ma row):pJ row dX ([],[])=(row,XL row.length):=by
 have:=Mc hR hN row.length (Nat.le_refl _)
 rw[Nat.sub_self]at this
 exact this
theorem ZC(ha:∀(k:Nat) p,row[k]? =some p->gY p k)(hn:∀(k:Nat) p,row[k]? =some p->need k=true\/p.kind=1):∀i,i<=row.length->oP need (row.drop (row.length-i)) (row.length-i) (row.take (row.length-i),XL (row.length-i))=(row,XL row.length)
 |0,_=>by
  rw[Nat.sub_zero,List.drop_length,List.take_length];rfl
 |i+1,hi=>by
  have hlt:row.length-(i+1)<row.length:=by omega
  have hp:=List.getElem?_eq_getElem hlt
  rw[List.drop_eq_getElem_cons hlt]
  unfold oP
  rw[if_pos (hn _ _ hp)]
  simp only
  rw[Vg (ha _ _ hp),List.length_take,Nat.min_eq_left aa,<-Vh]
  have e:row.length-(i+1)+1=row.length-i:=by omega
  have e2:row.take (row.length-(i+1))++[row[row.length-(i+1)]]=row.take (row.length-i):=by
   rw[<-e,List.take_add_one,hp];rfl
  rw[e2,e]
  exact ZC ha hn i aa
theorem abA(ha:∀(k:Nat) p,row[k]? =some p->gY p k)(hn:∀(k:Nat) p,row[k]? =some p->need k=true\/p.kind=1):oP need row 0 ([],[])=(row,XL row.length):=by
 have:=ZC ha hn row.length (Nat.le_refl _)
 rw[Nat.sub_self]at this
 exact this
theorem XM{out:Nat}(hR:dS row dX fJ)(hN:Ma row)(ho:out<row.length)(hn:∀(k:Nat) p,row[k]? =some p->mi row out k=true\/p.kind=1):kz row dX out=(row,out):=by
 unfold kz
 rw[afr hR hN]
 simp only
 rw[Em ho,abA (λk p hp=>hR.ahead hp) hn]
 simp only
 rw[Em ho]
end
section
variable {l:List aP} {sh:List (List Int)} {sp:List Sp} {row:List aP} {dX:List (List Int)} {fJ:List Sp} {st:List Nat} {n:aP} {i:Nat}
theorem afs(hL:dS l sh sp)(hR:dS row dX fJ)(hn:l[i]? =some n)
 (hSA:n.kind≠1->n.kind≠2->st.getD n.a.toNat 0<dX.length/\gD dX (st.getD n.a.toNat 0)=gD sh n.a.toNat/\tight (gS fJ (st.getD n.a.toNat 0)) (gS sp n.a.toNat))
 (hSB:n.kind=6->st.getD n.b.toNat 0<dX.length/\gD dX (st.getD n.b.toNat 0)=gD sh n.b.toNat/\tight (gS fJ (st.getD n.b.toNat 0)) (gS sp n.b.toNat)):
 iY (bG st n).jg dX (gD sh i)/\tight (jB (bG st n) (gD sh i) dX fJ) (gS sp i):=by
 obtain⟨e0,ek,ea,ea2,eb,eb2⟩:=qz st n
 have hni:=hL.node _ _ hn
 have hah:=hL.ahead hn
 have hti:=(hL.ajL hn).2
 have hf:=hni.form
 rw[hti]at hf
 have kk:n.jg.kind=n.kind:=rfl
 have hA:n.kind≠1->n.kind≠2->(bG st n).a.toNat=st.getD n.a.toNat 0:=λh1 h2=>by rw[ea h1 h2];omega
 have hB:n.kind=6->(bG st n).b.toNat=st.getD n.b.toNat 0:=λh=>by rw[eb h];omega
 refine⟨⟨?_,?_,?_⟩,?_⟩
 ·rw[e0]
  refine xw hf (λh1 h2=> ?_) (λh=> ?_) (λh=> ?_) (λh=> ?_)
  ·have:=(hSA h1 h2).1
   rw[ea h1 h2];omega
  ·exact ea2 h
  ·have:=(hSB h).1
   rw[eb h];omega
  ·exact eb2 h
 ·rw[e0,uZ (sh:=sh.take i) (λh1 h2=> ?_) (λh=> ?_)]
  ·exact hni.shape
  ·show gD dX (bG st n).a.toNat=gD (sh.take i) n.a.toNat
   rw[hA h1 h2,(hSA h1 h2).2.1,rW (hah.a1 h1 h2)]
  ·show gD dX (bG st n).b.toNat=gD (sh.take i) n.b.toNat
   rw[hB h,(hSB h).2.1,rW (hah.b1 h)]
 ·rw[e0,AZ];exact hni.near
 ·obtain⟨q1,q2,q3⟩:=hL.span _ _ hn
  rw[q1,yD hah]
  unfold jB
  rw[e0,Od]
  by_cases h12:n.kind=1\/n.kind=2
  ·rw[uF (n:=n.jg) h12 _ (entries (gD sh i)).toNat _ (gD sh n.a.toNat) _ _ (gS (sp.take i) n.a.toNat) (gS (sp.take i) n.b.toNat)]
   exact Kr _
  ·have ha1:=hah.a1 aa aa
   have hp:=hL.place hn
   rw[rW ha1]at hp
   have sA:=hSA aa aa
   rw[hA aa aa,sA.2.1,A7 ha1]
   have lo:∀j,j<dX.length->(gS fJ j).1<=(gS fJ j).2:=λj hj=>by
    rw[hR.wz]at hj
    have hk':=List.getElem?_eq_getElem hj
    rw[(hR.span _ _ hk').1]
    unfold jB
    by_cases g12:(row[j]).kind=1\/(row[j]).kind=2
    ·rw[uF (n:=(row[j]).jg) g12 _ _ _ _ _ _ (0,0) (0,0)]
     exact DI (hR.place hk') (0,0) (0,0)
    ·have:=(hR.ahead hk').a1 aa aa
     have hp2:=hR.place hk'
     rw[rW this]at hp2
     exact DI hp2 _ _
   refine Kv hp (λh1 h2=>⟨sA.2.2,lo _ sA.1⟩) (λh6=> ?_)
   have h6':n.kind=6:=h6
   have hb1:=hah.b1 h6'
   have sB:=hSB h6'
   rw[hB h6',A7 hb1]
   exact⟨sB.2.2,lo _ sB.1⟩
end
abbrev qL(row:List aP)(need:Nat->Bool)(k:Nat):Prop:=need k=true\/(row.getD k di).kind=1
structure tK(row:List aP)(dX:List (List Int))(fJ:List Sp)(need:Nat->Bool)(i:Nat)(r:List aP)(p:List Nat):Prop where
 rest:oP need (row.drop i) i (r,p)=oP need row 0 ([],[])
 len:p.length=i
 few:r.length<=i
 at_:∀k,k<i->qL row need k->r[p.getD k 0]? =some (bG p (row.getD k di))
 inv:∀j,j<r.length->∃k,k<i/\qL row need k/\p.getD k 0=j
 mono:∀j k,j<k->k<i->qL row need j->qL row need k->p.getD j 0<p.getD k 0
 ok:∃KD KE,dS r KD KE/\∀k,k<i->qL row need k->gD KD (p.getD k 0)=gD dX k/\tight (gS KE (p.getD k 0)) (gS fJ k)
theorem nD{p:List Nat}{y k:Nat}(h:k<p.length):(p++[y]).getD k 0=p.getD k 0:=by
 rw[List.getD_eq_getElem?_getD,List.getD_eq_getElem?_getD,List.getElem?_append_left h]
theorem En{p:List Nat}{y k:Nat}(h:k=p.length):(p++[y]).getD k 0=y:=by
 subst h
 rw[List.getD_eq_getElem?_getD,List.getElem?_append_right (Nat.le_refl _),Nat.sub_self];rfl
section
variable {row:List aP} {dX:List (List Int)} {fJ:List Sp} {need:Nat->Bool}
theorem Br{n:aP}(h1:n.kind≠1)(h2:n.kind≠2):n.a∈bZ n:=by
 unfold bZ
 rw[if_neg aa]
 split<;>simp
theorem IM{n:aP}(h6:n.kind=6):n.b∈bZ n:=by
 unfold bZ
 rw[if_neg aa,if_pos h6];simp
theorem tK.steps(hR:dS row dX fJ)(hcl:∀k,k<row.length->need k=true->∀t∈bZ (row.getD k di),need t.toNat=true){i:Nat}{r:List aP}{p:List Nat}(h:tK row dX fJ need i r p)(hi:i<row.length):(qL row need i->tK row dX fJ need (i+1) (r++[bG p (row.getD i di)]) (p++[r.length]))/\(¬qL row need i->tK row dX fJ need (i+1) r (p++[0])):=by
 obtain⟨h1,rfl,h3,h4,h5,h6,KD,KE,hR',h7⟩:=h
 have hp:=getD_some hi
 have hah:∀k,k<row.length->gY (row.getD k di) k:=λk hk=>hR.ahead (getD_some hk)
 have hrest:=h1
 have hdr:row.drop p.length=row.getD p.length di::row.drop (p.length+1):=by
  rw[List.drop_eq_getElem_cons hi,List.getD_eq_getElem?_getD,List.getElem?_eq_getElem hi];rfl
 rw[hdr,FJ]at hrest
 have hms:∀k y,k<p.length->bG (p++[y]) (row.getD k di)=bG p (row.getD k di):=λk y hk=>CX ((hah k aa).up (Nat.le_of_lt hk))
 refine⟨λhk=> ?_,λhk=> ?_⟩
 ·rw[if_pos hk]at hrest
  simp only at hrest
  have hlt:∀k,k<p.length->qL row need k->p.getD k 0<r.length:=λk hk hq=>(List.getElem?_eq_some_iff.1 (h4 k hk hq)).1
  have hkt:(row.getD p.length di).kind≠1->∀t∈bZ (row.getD p.length di),qL row need t.toNat:=λhne t ht=> .inl (hcl _ hi (hk.resolve_right hne) t ht)
  have hai:=hah _ hi
  have hl2:=hR'.wz
  obtain⟨hm,ht⟩:=afs (st:=p) hR hR' hp
   (λg1 g2=>by
     have ha:=hai.a1 g1 g2
     have hq:=hkt g1 _ (Br g1 g2)
     exact⟨by rw[hl2];exact hlt _ ha hq,(h7 _ ha hq).1,(h7 _ ha hq).2⟩)
   (λg6=>by
     have hb:=hai.b1 g6
     have hq:=hkt aa _ (IM g6)
     exact⟨by rw[hl2];exact hlt _ hb hq,(h7 _ hb hq).1,(h7 _ hb hq).2⟩)
  have Ti:=(hR.span _ _ hp).2
  have hR2:=hR'.snoc hm ZO ZO
  have hl3:=hR'.agl
  refine⟨hrest,by simp,by simp;omega,λk hk1 hk2=> ?_,λj hj=> ?_,λj k hjk hk1 hj2 hk2=> ?_,_,_,hR2,λk hk1 hk2=> ?_⟩
  ·rcases Nat.lt_or_ge k p.length with hlk|hge
   ·rw[nD hlk,hms k _ hlk,List.getElem?_append_left (hlt k hlk hk2)]
    exact h4 k hlk hk2
   ·obtain rfl:k=p.length:=by omega
    rw[En rfl,List.getElem?_append_right (Nat.le_refl _),Nat.sub_self,CX hai];rfl
  ·rw[List.length_append,List.length_singleton]at hj
   rcases Nat.lt_or_ge j r.length with hlj|hge
   ·obtain⟨k,q1,q2,q3⟩:=h5 j hlj
    exact⟨k,by omega,q2,by rw[nD q1];exact q3⟩
   ·exact⟨p.length,by omega,hk,by rw[En rfl];omega⟩
  ·rcases Nat.lt_or_ge k p.length with hlk|hge
   ·rw[nD hlk,nD aa]
    exact h6 j k hjk hlk hj2 hk2
   ·obtain rfl:k=p.length:=by omega
    rw[En rfl,nD hjk]
    exact hlt j hjk hj2
  ·rcases Nat.lt_or_ge k p.length with hlk|hge
   ·have hlr:=hlt k hlk hk2
    rw[nD hlk,DJ aa,DK aa]
    exact h7 k hlk hk2
   ·obtain rfl:k=p.length:=by omega
    rw[En rfl,Ib aa,Qg aa]
    exact⟨rfl,ht⟩
 ·rw[if_neg hk]at hrest
  simp only at hrest
  have hne:∀k,k<p.length+1->qL row need k->k<p.length:=λk h1 h2=>by
   rcases Nat.lt_or_ge k p.length with h|h
   ·exact h
   ·obtain rfl:k=p.length:=by omega
    exact absurd h2 hk
  refine⟨hrest,by simp,by omega,λk hk1 hk2=> ?_,λj hj=> ?_,λj k hjk hk1 hj2 hk2=> ?_,KD,KE,hR',λk hk1 hk2=> ?_⟩
  ·have hlk:=hne k hk1 hk2
   rw[nD hlk,hms k _ hlk]
   exact h4 k hlk hk2
  ·obtain⟨k,q1,q2,q3⟩:=h5 j hj
   exact⟨k,by omega,q2,by rw[nD q1];exact q3⟩
  ·have hlk:=hne k hk1 hk2
   rw[nD hlk,nD aa]
   exact h6 j k hjk hlk hj2 hk2
  ·have hlk:=hne k hk1 hk2
   rw[nD hlk]
   exact h7 k hlk hk2
theorem tK.step(hR:dS row dX fJ)(hcl:∀k,k<row.length->need k=true->∀t∈bZ (row.getD k di),need t.toNat=true){i:Nat}{r:List aP}{p:List Nat}(h:tK row dX fJ need i r p)(hi:i<row.length):∃r' p',tK row dX fJ need (i+1) r' p':=by
 by_cases hk:qL row need i
 ·exact⟨_,_,(h.steps hR hcl hi).1 hk⟩
 ·exact⟨_,_,(h.steps hR hcl hi).2 hk⟩
theorem aft(hR:dS row dX fJ)(hcl:∀k,k<row.length->need k=true->∀t∈bZ (row.getD k di),need t.toNat=true):∀i,i<=row.length->∃r p,tK row dX fJ need i r p
 |0,_=>⟨[],[],rfl,rfl,Nat.le_refl _,λk hk=>absurd hk (Nat.not_lt_zero _),λj hj=>absurd hj (Nat.not_lt_zero _),λj k _ hk=>absurd hk (Nat.not_lt_zero _),[],[],dS.nil,λk hk=>absurd hk (Nat.not_lt_zero _)⟩
 |i+1,hi=>by
  obtain⟨r,p,h⟩:=aft hR hcl i aa
  exact h.step hR hcl aa
theorem akh(hR:dS row dX fJ)(hcl:∀k,k<row.length->need k=true->∀t∈bZ (row.getD k di),need t.toNat=true):tK row dX fJ need row.length (oP need row 0 ([],[])).1 (oP need row 0 ([],[])).2:=by
 obtain⟨r,p,h⟩:=aft hR hcl row.length (Nat.le_refl _)
 have e:=h.rest
 rw[List.drop_length]at e
 have e:(r,p)=oP need row 0 ([],[]):=e
 rw[<-e];exact h
end
section
variable {k j out:Nat} {t:Int}
section
variable {row:List aP} {dX:List (List Int)} {fJ:List Sp} {need:Nat->Bool} {r:List aP} {p:List Nat}
theorem tK.get(h:tK row dX fJ need row.length r p)(hk:k<row.length)(hq:qL row need k):p.getD k 0<r.length/\r.getD (p.getD k 0) di=bG p (row.getD k di):=by
 have:=h.at_ k hk hq
 refine⟨(List.getElem?_eq_some_iff.1 this).1,?_⟩
 rw[List.getD_eq_getElem?_getD,this];rfl
theorem tK.back(h:tK row dX fJ need row.length r p){m:aP}(hm:r[j]? =some m):∃k,k<row.length/\qL row need k/\p.getD k 0=j/\m=bG p (row.getD k di):=by
 obtain⟨k,h1,h2,h3⟩:=h.inv j (List.getElem?_eq_some_iff.1 hm).1
 have:=h.at_ k h1 h2
 rw[h3,hm]at this
 exact⟨k,h1,h2,h3,by simpa using this⟩
theorem tK.inj(h:tK row dX fJ need row.length r p)(hj:j<row.length)(hk:k<row.length)(hqj:qL row need j)(hqk:qL row need k)(e:p.getD j 0=p.getD k 0):j=k:=by
 rcases Nat.lt_trichotomy j k with hlt|he|hgt
 ·have:=h.mono j k hlt hk hqj hqk;omega
 ·exact he
 ·have:=h.mono k j hgt hj hqk hqj;omega
theorem CY(hcl:∀k,k<row.length->need k=true->∀t∈bZ (row.getD k di),need t.toNat=true)(hk:k<row.length)(hq:qL row need k)(h1:(row.getD k di).kind≠1)(ht:t∈bZ (row.getD k di)):qL row need t.toNat:= .inl (hcl k hk (hq.resolve_right h1) t ht)
theorem afu(hR:dS row dX fJ)(hN:Ma row)(hcl:∀k,k<row.length->need k=true->∀t∈bZ (row.getD k di),need t.toNat=true)(h:tK row dX fJ need row.length r p):Ma r:=by
 have hah:∀k,k<row.length->gY (row.getD k di) k:=λk hk=>hR.ahead (getD_some hk)
 refine⟨λj m hm=> ?_,λj1 j2 m hj h1 h2=> ?_⟩
 ·obtain⟨k,hk,hq,hpk,rfl⟩:=h.back hm
  have hn:=hN.known k _ (getD_some hk)
  have hai:=hah k hk
  have hkt:=λt ht h1=>CY (t:=t) hcl hk hq h1 ht
  generalize row.getD k di=q at*
  obtain⟨_,ek,ea,_,eb,_⟩:=qz p q
  unfold gM oz at hn|-
  rw[ek]
  by_cases h12:q.kind=1\/q.kind=2
  ·rw[decide_eq_true h12];rfl
  ·have key:∀t,t.toNat<k->t∈bZ q->(r.getD (p.getD t.toNat 0) di).kind=(row.getD t.toNat di).kind:=λt h1 h2=>by
    rw[(h.get aa (hkt t h2 aa)).2]
    exact(qz p _).2.1
   have eA:(r.getD (bG p q).a.toNat di).kind=(row.getD q.a.toNat di).kind:=by
    rw[ea aa aa,Int.toNat_natCast]
    exact key q.a (hai.a1 aa aa) (Br aa aa)
   rw[eA]
   by_cases h6:q.kind=6
   ·have eB:(r.getD (bG p q).b.toNat di).kind=(row.getD q.b.toNat di).kind:=by
     rw[eb h6,Int.toNat_natCast]
     exact key q.b (hai.b1 h6) (IM h6)
    rw[eB];exact hn
   ·rw[decide_eq_true (show q.kind≠6 from h6),Bool.true_or]at hn|-
    exact hn
 ·obtain⟨k1,hk1,hq1,hp1,e1⟩:=h.back h1
  obtain⟨k2,hk2,hq2,hp2,e2⟩:=h.back h2
  have hne:k1≠k2:=λe=>by subst e;omega
  have hsame:row.getD k1 di=row.getD k2 di:=by
   have hai1:=hah k1 hk1
   have hai2:=hah k2 hk2
   have aon:=λt ht h1=>CY (t:=t) hcl hk1 hq1 h1 ht
   have ae3:=λt ht h1=>CY (t:=t) hcl hk2 hq2 h1 ht
   have e:bG p (row.getD k1 di)=bG p (row.getD k2 di):=by rw[<-e1,e2]
   generalize row.getD k1 di=q1 at*
   generalize row.getD k2 di=q2 at*
   have hkk:q1.kind=q2.kind:=by rw[<-(qz p q1).2.1,<-(qz p q2).2.1,e]
   have a1:=hai1.a0
   have a2:=hai2.a0
   have b1:=hai1.b0
   have b2:=hai2.b0
   have hinj:∀t1 t2:Int,0<=t1->0<=t2->t1.toNat<k1->t2.toNat<k2->t1∈bZ q1->t2∈bZ q2->q1.kind≠1->p.getD t1.toNat 0=p.getD t2.toNat 0->t1=t2:=λt1 t2 g1 g2 g3 g4 g5 g6 g7 g8=>by
    have:=h.inj aa aa (aon t1 g5 g7) (ae3 t2 g6 aa) g8
    omega
   have ee:=e
   unfold bG at ee
   by_cases h12:q1.kind=1\/q1.kind=2
   ·rw[if_pos h12,if_pos (show q2.kind=1\/q2.kind=2 by omega)]at ee;exact ee
   ·rw[if_neg h12,if_neg (show¬(q2.kind=1\/q2.kind=2) by omega)]at ee
    by_cases h6:q1.kind=6
    ·rw[if_pos h6,if_pos (show q2.kind=6 by omega)]at ee
     simp only[aP.mk.injEq]at ee
     obtain⟨c1,c2,c3,c4,c5,c6,c7,c8,c9⟩:=ee
     have ga:=hinj q1.a q2.a a1 a2 (hai1.a1 aa aa) (hai2.a1 aa aa) (Br aa aa) (Br aa aa) aa aa
     have gb:=hinj q1.b q2.b b1 b2 (hai1.b1 h6) (hai2.b1 aa) (IM h6) (IM aa) aa aa
     cases q1;cases q2;simp only at*;subst_vars;rfl
    ·rw[if_neg h6,if_neg (show¬q2.kind=6 by omega)]at ee
     simp only[aP.mk.injEq]at ee
     obtain⟨c1,c2,c3,c4,c5,c6,c7,c8,c9⟩:=ee
     have ga:=hinj q1.a q2.a a1 a2 (hai1.a1 aa aa) (hai2.a1 aa aa) (Br aa aa) (Br aa aa) aa aa
     cases q1;cases q2;simp only at*;subst_vars;rfl
  have g1:=getD_some hk1
  have g2:=getD_some hk2
  rw[<-hsame]at g2
  have hkind:(row.getD k1 di).kind=1:=by
   rcases Nat.lt_or_gt_of_ne hne with hlt|hgt
   ·exact hN.once k1 k2 _ hlt g1 g2
   ·exact hN.once k2 k1 _ hgt g2 g1
  rw[e1,(qz p _).2.1];exact hkind
theorem Vi{q:aP}(ht:t∈bZ q):((p.getD t.toNat 0:Nat):Int)∈bZ (bG p q):=by
 unfold bZ at ht
 split at ht
 ·simp at ht
 ·rename_i h12
  split at ht
  ·rename_i h6
   have e:bG p q={q with a:=p.getD q.a.toNat 0,b:=p.getD q.b.toNat 0}:=by unfold bG;rw[if_neg h12,if_pos h6]
   rw[e]
   unfold bZ
   rw[if_neg h12,if_pos h6]
   simp only[List.mem_cons,List.not_mem_nil,or_false]at ht|-
   rcases ht with rfl|rfl
   ·exact .inl rfl
   ·exact .inr rfl
  ·rename_i h6
   have e:bG p q={q with a:=p.getD q.a.toNat 0}:=by unfold bG;rw[if_neg h12,if_neg h6]
   rw[e]
   unfold bZ
   rw[if_neg h12,if_neg h6]
   simp only[List.mem_singleton]at ht|-
   rw[ht]
end
theorem Vj{row:List aP}{dX:List (List Int)}{fJ:List Sp}(hR:dS row dX fJ)(ho:out<row.length):∀k,k<row.length->mi row out k=true->∀t∈bZ (row.getD k di),mi row out t.toNat=true:=λk _ hk t ht=>
 (oO hR.CG ho _).2 (.step ((oO hR.CG ho k).1 hk) ht)
theorem afv{row:List aP}{dX:List (List Int)}{fJ:List Sp}(hR:dS row dX fJ)(ho:out<row.length)(h:Reach row out k):k<row.length:=by
 induction h with
 |refl=>exact ho
 |step _ ht ih=>
  have:=Tn (hR.ahead (getD_some ih)) _ ht
  omega
theorem Vk{l:List aP}{sh:List (List Int)}{sp:List Sp}(hL:dS l sh sp)(ho:out<l.length):∃dX fJ,dS (kz l sh out).1 dX fJ/\(kz l sh out).2<(kz l sh out).1.length/\(kz l sh out).1.length<=l.length/\kz (kz l sh out).1 dX (kz l sh out).2=kz l sh out:=by
 obtain⟨row,st,hT,hN⟩:=Pe hL l.length (Nat.le_refl _)
 have hd:=hT.done
 have nX:=hT.few
 have hlen:=hT.len
 obtain⟨dX,fJ,hR,hS⟩:=hT.ok
 have hout:st.getD out 0<row.length:=by have:=hS.lt out aa;rwa[hR.wz]at this
 have hcl:=Vj hR hout
 have hC:=akh (dX:=dX) (fJ:=fJ) hR hcl
 have hno:qL row (mi row (st.getD out 0)) (st.getD out 0):= .inl ((oO hR.CG hout _).2 (.refl _))
 have e:kz l sh out=((oP (mi row (st.getD out 0)) row 0 ([],[])).1,(oP (mi row (st.getD out 0)) row 0 ([],[])).2.getD (st.getD out 0) 0):=by unfold kz;rw[hd]
 rw[e]
 simp only
 generalize hx:oP (mi row (st.getD out 0)) row 0 ([],[])=x at*
 obtain⟨r,p⟩:=x
 simp only at hC|-
 generalize st.getD out 0=o at*
 have hNr:=afu hR hN hcl hC
 obtain⟨KD,KE,hR',h7⟩:=hC.ok
 obtain⟨hpo,_⟩:=hC.get hout hno
 refine⟨KD,KE,hR',hpo,Nat.le_trans hC.few nX,XM hR' hNr hpo λj m hm=> ?_⟩
 obtain⟨k,hk,hq,hpk,hmk⟩:=hC.back hm
 rcases hq with hq|hq
 ·left
  rw[oO hR'.CG hpo,<-hpk]
  have hr:=(oO hR.CG hout k).1 hq
  clear hq hpk hk hmk hm
  induction hr with
  |refl=>exact .refl _
  |step hrj ht ih=>
   rename_i j' t'
   have hj:=afv hR hout hrj
   have hkj:qL row (mi row o) j':= .inl ((oO hR.CG hout _).2 hrj)
   have hg:=(hC.get hj hkj).2
   have:=Reach.step ih (t:=((p.getD t'.toNat 0:Nat):Int)) (by rw[hg];exact Vi ht)
   rw[Int.toNat_natCast]at this
   exact this
 ·right
  rw[hmk,(qz p _).2.1];exact hq
end
section
variable {s:List Int} {row:List aP} {g t:bE}
def l9(p:aP):Prop:=p.data.length<=5000/\p.aG.length<=5000
theorem abB(s:List Int)(row:List aP)(n:aP):(kI s row n).length<=5000:=by
 have hb:=dL s
 have e:(kI s row n).length=(entries s).toNat:=by
  unfold kI kQ gu numsL
  split<;>simp
 omega
theorem G5{st:List Nat}{n:aP}(h:l9 n):l9 (bG st n):=by
 unfold bG
 split
 ·exact h
 ·split<;>exact h
theorem XN{n:aP}(h:l9 n):l9 (j3 s row n):=by
 unfold j3
 split
 ·exact⟨abB _ _ _,Nat.zero_le _⟩
 ·exact h
theorem Md{n:aP}(h:∀p∈row,l9 p)(hn:l9 n):∀p∈row++[n],l9 p:=λp hp=>by
 rcases List.mem_append.1 hp with hp|hp
 ·exact h p hp
 ·rw[List.mem_singleton.1 hp];exact hn
theorem XO{x:List aP×List Nat}{n:aP}(h:∀p∈x.1,l9 p)(hn:l9 n):∀p∈(pI s x n).1,l9 p:=by
 show∀p∈(Cu x.1 (j3 s x.1 (bG x.2 n))).1,l9 p
 unfold Cu
 split
 ·exact h
 ·exact Md h (XN (G5 hn))
theorem G6:∀(l:List aP) (sh:List (List Int)) (x:List aP×List Nat),(∀p∈l,l9 p)->(∀p∈x.1,l9 p)->∀p∈(pJ l sh x).1,l9 p
 |[],_,x,_,h=>by unfold pJ;exact h
 |n::r,[],x,_,h=>by unfold pJ;exact h
 |n::r,s::ss,x,hl,h=>by
  unfold pJ
  exact G6 r ss _ (λp hp=>hl p (List.mem_cons_of_mem _ hp)) (XO h (hl n List.mem_cons_self))
theorem Pf{need:Nat->Bool}:∀(l:List aP) (i:Nat) (x:List aP×List Nat),(∀p∈l,l9 p)->(∀p∈x.1,l9 p)->∀p∈(oP need l i x).1,l9 p
 |[],_,x,_,h=>by unfold oP;exact h
 |n::r,i,x,hl,h=>by
  unfold oP
  refine Pf r (i+1) _ (λp hp=>hl p (List.mem_cons_of_mem _ hp)) ?_
  split
  ·exact Md h (G5 (hl n List.mem_cons_self))
  ·exact h
theorem Vl{l:List aP}{sh:List (List Int)}{out:Nat}(hl:∀p∈l,l9 p):∀p∈(kz l sh out).1,l9 p:=
 Pf _ _ _ (G6 _ _ _ hl (λ_ h=>by cases h)) (λ_ h=>by cases h)
def ZE(g:bE):bE:=⟨none,0,(kz (g.l.map ai.pl) (check g).2 g.out.toNat).1.map aP.jg,(kz (g.l.map ai.pl) (check g).2 g.out.toNat).2⟩
theorem aki(l:List aP):(l.map aP.jg).map ai.pl=l:=by
 rw[List.map_map]
 exact(List.map_congr_left (λ_ _=>rfl)).trans (List.map_id l)
structure vB(g t:bE):Prop where
 l:t.l.map ai.pl=(kz (g.l.map ai.pl) (check g).2 g.out.toNat).1
 out:t.out=(kz (g.l.map ai.pl) (check g).2 g.out.toNat).2
 a_:∀n∈t.l,n.iI
theorem vB.spans(h:vB g t)(hsp:(bT g).1=0):(bT t).1=0:=by
 have hR:=zQ hsp
 obtain⟨hck,_,_⟩:=jA hsp
 obtain⟨hl1,xn,hout,hcl,_⟩:=gX hck
 obtain⟨dX,fJ,h1,h2,h3,_⟩:=Vk hR (out:=g.out.toNat) Yk
 rw[List.length_map]at h3
 have:=h1.spans aa h.l (by rw[h.out];exact Int.natCast_nonneg _) (by rw[h.out];omega)
 rw[this]
theorem vB.lower(h:vB g t)(layout:Int)(giant:Bool)(m:Nat):kD t layout giant m=kD (ZE g) layout giant m:=
 OY (by rw[h.l];exact(aki _).symm) h.out layout giant m
theorem vB.ok(h:vB g t)(hg:∀n∈g.l,n.small)(hl:g.l.length<=24){w:World}(hr:bf w t.base 9 (bq t.l))(he:∀n∈t.l,n.ok w)(hsp:(bT g).1=0):t.ok w:=by
 obtain⟨hck,_,_⟩:=jA (h.spans hsp)
 obtain⟨hl1,xn,hout,_,_⟩:=gX hck
 refine⟨hr,he,λn hn=> ?_,by omega,by unfold i64;omega⟩
 have hm:n.pl∈(kz (g.l.map ai.pl) (check g).2 g.out.toNat).1:=by rw[<-h.l];exact List.mem_map.2 ⟨n,hn,rfl⟩
 have:=Vl (λp hp=>by obtain⟨m,hm,rfl⟩:=List.mem_map.1 hp;exact⟨(hg m hm).data,(hg m hm).aG⟩) n.pl hm
 exact⟨this.1,this.2⟩
def akj(l:List ai):bJ where
 holds R w:=∀n∈l,(bn n.shape).holds R w/\(bn n.data).holds R w/\(bn n.aG).holds R w
 stable:=λhR hw h n hn=>⟨(bn n.shape).stable hR hw (h n hn).1,(bn n.data).stable hR hw (h n hn).2.1,(bn n.aG).stable hR hw (h n hn).2.2⟩
theorem XP{cx:Cx}{f:FuncId}{args:List SV}{H:Heap}{S:bJ}{nx:Nat}{K:SV->Heap->bJ->Nat->Prop}(g:bE)(hsp:(bT g).1=0)(hsm:∀n∈g.l,n.small)(hl:g.l.length<=24)(hf:∀ar w,(callFunc f ar).run cx.P w= .ok (.enter f ar) w)
 (hc:∀ρ w',dY cx.B ρ nx H S w'->Calls cx.P f (SV.d_ ρ args).toArray w' (LH w' (bT g).1 (kz (g.l.map ai.pl) (check g).2 g.out.toNat)))
 (h:∀t:bE,vB g t->K (.c (.tuple #[t.val,.int .i64 0])) H (S.and ((vZ λw=>t.ok w).past cx.B.w0.heap.size)) nx):aC cx f args H S nx K:=by
 refine gP hf (λt:bE=> .tuple #[t.val,.int .i64 0]) (λt=>vZ λw=>t.ok w) (λt=>vB g t) (λρ w' hw=>(hc ρ w' hw).mono ?_) (λt ht=>h t ht)
 rintro e w2 (⟨hr,_⟩|⟨_,l,base,cap,hx,hko,hcap,rfl,he,F,G,hF,hG,hFG,hn,hrow⟩)
 ·exact absurd hsp hr
 ·have hT:vB g ⟨base,cap,l,(kz (g.l.map ai.pl) (check g).2 g.out.toNat).2⟩:=⟨hx,rfl,λn hn=>(hko n hn).1⟩
  refine⟨⟨base,cap,l,(kz (g.l.map ai.pl) (check g).2 g.out.toNat).2⟩,hT,rfl,he,(eY base 9 (bq l)).and (akj l),⟨(eY base 9 (bq l)).mono hrow hG,λn hn2=>⟨A9 ((vY n.shape).mono (hn n hn2).1 hF),A9 ((vY n.data).mono (hn n hn2).2.1 hF),A9 ((vY n.aG).mono (hn n hn2).2.2 hF)⟩⟩,λR w h=>hT.ok hsm hl (aO h.1) (λn hn2=>Ur (hko n hn2).1 ⟨uK (h.2 n hn2).1,uK (h.2 n hn2).2.1,uK (h.2 n hn2).2.2⟩) hsp⟩
end
section
variable {cx:Cx} {f:FuncId} {args:List SV} {H:Heap} {S:bJ} {nx:Nat} {K:SV->Heap->bJ->Nat->Prop}
def nZ(g:bE)(o:Am)(slots:Int):qO×Int:=if l7 o slots then(if(bT g).1≠0 then(vo,(bT g).1)else kD (if o.tidy=true then ZE g else g) o.layout o.giant slots.toNat)else(vo,1)
def Au(z:Int)(k:Nat):Bool:=(List.range k).any λj=>decide (z=((4*2^j:Nat):Int))
theorem Vm(z:Int)(k:Nat):Au z (k+1)=(Au z k||decide (z=((4*2^k:Nat):Int))):=by
 unfold Au;rw[List.range_succ,List.any_append];simp
theorem abC:((List.range 2049).all λn=>decide (n<4)||((decide (bitsOf .and .i64 (n:Int) ((n:Int)-1)=0))==Au (n:Int) 10))=true:=by kernel_rfl
theorem afw{z:Int}:Au z 10=true↔(4<=z/\z<=2048/\bitsOf .and .i64 z (z-1)=0):=by
 have key:∀n:Nat,4<=n->n<=2048->((bitsOf .and .i64 (n:Int) ((n:Int)-1)=0)↔Au (n:Int) 10=true):=λn h1 h2=>by
  have h:=List.all_eq_true.1 abC n (List.mem_range.2 aa)
  rw[decide_eq_false aa,Bool.false_or]at h
  rw[<-(beq_iff_eq.1 h)]
  exact decide_eq_true_iff.symm
 constructor
 ·intro h
  have hz:4<=z/\z<=2048:=by
   obtain⟨j,hj,he⟩:=List.any_eq_true.1 h
   have hj:=List.mem_range.1 hj
   have he:=of_decide_eq_true he
   have h1:2^j<=2^9:=Nat.pow_le_pow_right aS aa
   have h2:1<=2^j:=Nat.one_le_two_pow
   have h3:4*2^j<=2048:=by omega
   omega
  obtain⟨n,rfl⟩:∃n:Nat,z=n:=⟨z.toNat,by omega⟩
  exact⟨hz.1,hz.2,(key n aa aa).2 h⟩
 ·rintro⟨h1,h2,h3⟩
  obtain⟨n,rfl⟩:∃n:Nat,z=n:=⟨z.toNat,by omega⟩
  exact(key n aa aa).1 h3
theorem XQ{g:bE}(r:Int)(x:List aP×Nat)(hf:∀ar w,(callFunc f ar).run cx.P w= .ok (.enter f ar) w)
 (hc:∀ρ w',dY cx.B ρ nx H S w'->Calls cx.P f (SV.d_ ρ args).toArray w' (Bq g w' r x))
 (h0:r≠0->K (.c (.tuple #[.agg #[.slice none 0 0,.int .i64 0],.int .i64 r])) H S nx)
 (h1:r=0->∀(l:List ai) (base:Option Addr) (cap:Nat),l.map ai.pl=x.1->(∀n∈l,n.iI)->l.length<=24->K (.c (.tuple #[.agg #[.slice base l.length cap,.int .i64 x.2],.int .i64 0])) H (S.and (((eY base 9 (bq l)).and (xQ (qK g) 0 l)).past cx.B.w0.heap.size)) nx):aC cx f args H S nx K:=by
 rw[gI]
 refine⟨hf,λρ w hw=>(hc ρ w hw).mono ?_⟩
 rintro e w' (⟨hr,rfl,he⟩|⟨hr,l,base,cap,hx,hs,hl,rfl,he,hrow,amH⟩)
 ·exact⟨.c (.tuple #[.agg #[.slice none 0 0,.int .i64 0],.int .i64 r]),ρ,H,S,nx,rfl,λ_ _=>rfl,Nat.le_refl _,SV.ji _,hw.ext he,h0 hr⟩
 ·refine⟨.c (.tuple #[.agg #[.slice base l.length cap,.int .i64 x.2],.int .i64 0]),ρ,H,_,nx,rfl,λ_ _=>rfl,Nat.le_refl _,SV.ji _,hw.grow (D:=(eY base 9 (bq l)).and (xQ (qK g) 0 l)) he ⟨hrow,λn hn=> ?_⟩,h1 hr l base cap hx hs hl⟩
  have h:=amH n hn
  have key:∀u,(L8 (qK g) w.heap.size u).holds (λb=>b<w'.heap.size) w'->(L8 (qK g) 0 u).holds (λb=>w.heap.size<=b/\b<w'.heap.size) w':=λu hu=>hu.imp id λhu=>(bn u).stable (λb hb=>⟨⟨hb.2,hb.1⟩,Nat.zero_le _⟩) (λ_ _=>rfl) hu
  exact⟨key _ h.1,key _ h.2.1,key _ h.2.2⟩
theorem Vn(g:bE)(hsp:(bT g).1=0)(hgk:∀n∈g.l,n.small)(hl:g.l.length<=24)(hgs:g.ok cx.B.w0)(hS:∀R w,S.holds R w->(aH cx.B.w0).holds R w)(hf:∀ar w,(callFunc f ar).run cx.P w= .ok (.enter f ar) w)
 (hc:∀ρ w',dY cx.B ρ nx H S w'->Calls cx.P f (SV.d_ ρ args).toArray w' (Bq g w' (bT g).1 (kz (g.l.map ai.pl) (check g).2 g.out.toNat)))
 (h:∀t:bE,vB g t->(∀{R:Nat->Prop} {w:World},(S.and (((eY t.base 9 (bq t.l)).and (xQ (qK g) 0 t.l)).past cx.B.w0.heap.size)).holds R w->t.ok w)->K (.c (.tuple #[t.val,.int .i64 0])) H (S.and (((eY t.base 9 (bq t.l)).and (xQ (qK g) 0 t.l)).past cx.B.w0.heap.size)) nx):aC cx f args H S nx K:=by
 refine XQ (g:=g) _ _ hf hc (λh=>absurd hsp h) (λ_ l base cap hx hs _=> ?_)
 have hT:vB g ⟨base,cap,l,(kz (g.l.map ai.pl) (check g).2 g.out.toNat).2⟩:=⟨hx,rfl,hs⟩
 exact h ⟨base,cap,l,(kz (g.l.map ai.pl) (check g).2 g.out.toNat).2⟩ hT (λh=>hT.ok hgk hl (aO h.2.1) (yV (N:=0) (ZB hgs.each) hs (hS _ _ h.1) ((xQ (qK g) 0 l).stable (λb hb=>hb.1) (λ_ _=>rfl) h.2.2)) hsp)
theorem Rk(w:World)(g:bE)(o:Am)(slots:Int)(hg:g.ok w)(h64:i64 slots):Calls Tryz.prog 10 #[g.val,o.val,.int .i64 slots] w (oD w (nZ g o slots)):=by
 refine fq Tryz.func10 [.agg [.c (.slice g.base g.l.length g.cap),ak g.out],.agg [ak o.layout,.c (.bool o.tidy),.c (.bool o.lazy),.c (.bool o.giant),ak o.rows],ak slots] ?_
 (repeat' ((conv=>whnf)<;>first|refine aN ?_))
 refine Wp.loop (σ:=Nat×Nat×Bool) 3 (λq=>[(2,ak slots),(3,.lp 0 0 0 0),(4,.lp 1 0 0 0),(6,.lp 2 0 0 0),(8,.c (.bool q.2.2)),(9,ak q.2.1)]) (λ_=>[(2,.box [ak 0,.c (.slice none 0 0),.c (.slice none 0 0),.c (.slice none 0 0),ak 0,.c (.slice none 0 0)] 34),(1,.box [ak o.layout,.c (.bool o.tidy),.c (.bool o.lazy),.c (.bool o.giant),ak o.rows] 26),(0,.box [.c (.slice g.base g.l.length g.cap),ak g.out] 24)]) (λ_=>aH w)
  (λq=>q.1<=10/\q.2.1=4*2^q.1/\q.2.2=Au slots q.1) (λq=>10-q.1) (0,4,false) [] aS (λ_=>⟨rfl,rfl⟩) ⟨Nat.zero_le _,rfl,rfl⟩ ⟨rfl,aU,aU,λR w' h=>h⟩ ?_
 rintro⟨k,p,b⟩ ⟨hk,hp,hb⟩
 simp only at hk hp hb
 by_cases hlt:k<10
 ·have hp1:p<=2048:=by
   have h1:2^k<=2^9:=Nat.pow_le_pow_right aS aa
   omega
  have h2p:2*(p:Int)=((2*p:Nat):Int):=by push_cast;rfl
  have hp2:2*p=4*2^(k+1):=by rw[hp,Nat.pow_succ];omega
  have hs:=Vm slots k
  rw[<-hb,<-hp]at hs
  obtain⟨b2,hb2⟩:∃b2,(b||decide (slots=(p:Int)))=b2:=⟨_,rfl⟩
  have hcase:(b=true/\b2=true)\/(b=false/\(p:Int)=slots/\b2=true)\/(b=false/\¬(p:Int)=slots/\b2=false):=by
   cases b with
   |true=>exact .inl ⟨rfl,by rw[<-hb2];rfl⟩
   |false=>
    by_cases hv:(p:Int)=slots
    ·exact .inr (.inl ⟨rfl,hv,by rw[<-hb2];simp[hv]⟩)
    ·exact .inr (.inr ⟨rfl,hv,by rw[<-hb2,Bool.false_or];exact decide_eq_false (λh=>hv h.symm)⟩)
  rcases hcase with⟨e1,e2⟩|⟨e1,hv,e2⟩|⟨e1,hv,e2⟩
  all_goals
   subst e1 e2
   (repeat' ((conv=>whnf)<;>first|(show iw ..;refine jc ((2*p:Nat):Int) h2p aa aa ?_)|(show @dR _ _ _;(first|refine bA (show(p:Int)<=2048 by omega) ?_|refine bA hv ?_|refine cK hv ?_))|refine aN ?_))
   all_goals(conv=>whnf)
   all_goals exact⟨(k+1,2*p,_),[],⟨hlt,hp2,by show _=Au slots (k+1);rw[hs,hb2]⟩,by show 10-(k+1)<10-k;omega,rfl,aU,aU,λ_ _ h=>h⟩
 obtain rfl:k=10:=by omega
 have hp1:p=4096:=hp
 have hri:=afw (z:=slots)
 rw[<-hb]at hri
 clear hb
 by_cases hs:l7 o slots
 ·obtain⟨s1,s2,s3,s4,s5⟩:=id hs
  obtain rfl:b=true:=hri.2 ⟨s3,s4,s5⟩
  obtain⟨m,rfl⟩:∃m:Nat,slots=m:=⟨slots.toNat,by omega⟩
  have hF:nZ g o m=(if(bT g).1≠0 then(vo,(bT g).1)else kD (if o.tidy=true then ZE g else g) o.layout o.giant m):=by unfold nZ;rw[if_pos hs,Int.toNat_natCast]
  by_cases hsp:(bT g).1=0
  ·rw[hF,if_neg (λh=>h hsp)]
   obtain⟨hck,_,_⟩:=jA hsp
   obtain⟨hl1,xn,_⟩:=gX hck
   (repeat' ((conv=>whnf)<;>first|refine acp ?_|(show aC _ 16 ..;refine mY (f:=16) (bT g) Tryz.call16 (λρ w' hw=>yU w' g (ae hw λR h=>hg.later h)) (λh=>absurd hsp h) (λ_ qb qc=> ?_))|refine aN ?_|refine ag ?_ ?_<;>intro _))
   all_goals refine vg (λ_=>rfl) (λht=> ?_) (λht=> ?_)
   any_goals
    rw[if_neg (by rw[ht];decide)]
    (repeat' ((conv=>whnf)<;>first|fail))
    exact Wp.into 3 [] (Zw w g o m ⟨by omega,by omega⟩ hsp) aS ⟨rfl,rfl⟩ ⟨rfl,aU,aU,λR w' h=>⟨h.1,uu h.1 (λ_ _ h=>hg.later h)⟩⟩
   all_goals
    rw[if_pos ht]
    (repeat' ((conv=>whnf)<;>first|(show aC _ 33 ..;refine Vn g hsp hg.small xn hg (λR w h=>h.1) Tryz.call33 (λρ w' hw=>Vd w' g (ae hw λR h=>hg.later h.1)) (λt hT htk=> ?_))))
    rw[<-hT.lower]
    exact Wp.into 3 [] (Zw w t o m ⟨by omega,by omega⟩ (hT.spans hsp)) aS ⟨rfl,rfl⟩ ⟨rfl,aU,aU,λR w' h=>⟨h.1.1,uu h (λ_ _ h=>htk h)⟩⟩
  ·rw[hF,if_pos hsp]
   (repeat' ((conv=>whnf)<;>first|(show @dR _ _ _;(first|refine cK (show¬(p:Int)<=2048 by omega) ?_|refine bA hsp ?_|refine cK aa ?_|refine bA aa ?_))|(show aC _ 16 ..;refine mY (f:=16) (bT g) Tryz.call16 (λρ w' hw=>yU w' g (ae hw λR h=>hg.later h)) (λ_=> ?_) (λh=>absurd h hsp))|refine aN ?_|refine ag ?_ ?_<;>intro _))
   all_goals(conv=>whnf)
   all_goals exact nA (λ_ _ h=>h) rfl rfl (λρ=>rfl)
 ·have hF:nZ g o slots=(vo,1):=by unfold nZ;rw[if_neg hs]
  rw[hF]
  cases b with
  |false=>
   (repeat' ((conv=>whnf)<;>first|refine acp ?_|refine aN ?_))
   all_goals(conv=>whnf)
   all_goals exact nA (λ_ _ h=>h) rfl rfl (λρ=>rfl)
  |true=>
   have hr:=hri.1 rfl
   have aoo:o.layout≠0/\o.layout≠1:=by
    refine⟨λh=>hs ⟨by omega,by omega,hr⟩,λh=>hs ⟨by omega,by omega,hr⟩⟩
   obtain⟨hy0,hy1⟩:=aoo
   (repeat' ((conv=>whnf)<;>first|refine acp ?_|refine aN ?_))
   all_goals(conv=>whnf)
   all_goals exact nA (λ_ _ h=>h) rfl rfl (λρ=>rfl)
end
section
variable {nb:Option Addr} {nc m:Nat} {t d b:aj}
def Mh(d b:aj):ai:=⟨3,0,0,fI,0,0,0,d,b⟩
def fwG(nb:Option Addr)(nc:Nat)(t d b:aj):bE:=⟨nb,nc,[inN t 0 1,Mh d b],1⟩
theorem afx{x:Int}(h:0<x/\x<=64):entries [x]=x:=by
 unfold entries
 rw[if_neg fC]
 simp[eZ]
 omega
theorem afy{n:Nat}(ht:t.xs=[(n:Int)])(hn:1<=n/\n<=32)(hm:1<=m/\m<=32)(hd:d.xs.length=m*n)(hb:b.xs.length=m)(hdb:∀x∈d.xs,bX x)(hbb:∀x∈b.xs,bX x):check (fwG nb nc t d b)=(0,[[(n:Int)],[(m:Int)]]):=by
 have en:entries [(n:Int)]=n:=afx ⟨by omega,by omega⟩
 have f1:bY (inN t 0 1) (([]:List (List Int)).length:Nat)=true:=by
  unfold bY inN
  rw[if_pos rfl]
  unfold jT
  simp[ht,en,fI]
  omega
 have s1:bM (inN t 0 1) []=some [(n:Int)]:=by
  unfold bM inN
  rw[if_pos (.inl rfl)]
  simp[ht]
 have n1:gW (inN t 0 1)=true:=by
  unfold gW inN
  rfl
 have f2:bY (Mh d b) (([]++[[(n:Int)]]:List (List Int)).length:Nat)=true:=by
  unfold bY Mh
  repeat(first|rw[if_pos rfl]|rw[if_neg aS])
  unfold jT jW
  simp[hb,fI]
  omega
 have s2:bM (Mh d b) ([]++[[(n:Int)]])=some [(m:Int)]:=by
  unfold bM Mh
  repeat(first|rw[if_pos rfl]|rw[if_neg aS])
  show(if(d.xs.length:Int)=b.xs.length*entries [(n:Int)]then some [(b.xs.length:Int)]else none)=_
  rw[en,hd,hb,if_pos fC]
 have n2:gW (Mh d b)=true:=by
  unfold gW Mh
  rw[show qa d.xs=true from Y0 hdb,show qa b.xs=true from Y0 hbb]
  rfl
 unfold check fwG
 rw[if_neg fC]
 show eG [inN t 0 1,Mh d b] []=_
 rw[iA f1 s1 n1,iA f2 s2 n2]
 rfl
theorem Rl:∀(T:List Sp) (s k:Int),(∀x∈T,0<=x.1/\x.1<=9)->0<=s->s<=k->(0<=T.foldl (H9 (0,1)) s/\T.foldl (H9 (0,1)) s<=k+9*T.length)/\(0<=T.foldl (H_ (0,1)) s/\T.foldl (H_ (0,1)) s<=k+9*T.length)
 |[],s,k,_,h0,h1=>⟨⟨h0,by simpa using h1⟩,⟨h0,by simpa using h1⟩⟩
 |x::r,s,k,h,h0,h1=>by
  obtain⟨x0,x1⟩:=h x List.mem_cons_self
  have e1:H9 (0,1) s x=s:=by unfold H9;simp only[Int.mul_zero,Int.mul_one];omega
  have e2:H_ (0,1) s x=s+x.1:=by unfold H_;simp only[Int.mul_zero,Int.mul_one];omega
  rw[List.foldl_cons,List.foldl_cons,e1,e2,List.length_cons]
  have i1:=(Rl r s (k+9) (λy hy=>h y (List.mem_cons_of_mem _ hy)) h0 aa).1
  have i2:=(Rl r (s+x.1) (k+9) (λy hy=>h y (List.mem_cons_of_mem _ hy)) aa aa).2
  push_cast
  exact⟨⟨i1.1,by omega⟩,⟨i2.1,by omega⟩⟩
theorem aiK{f:Int->Int->Int}{lo hi:Int}(hf:∀a b,f a b=a\/f a b=b)(h00:lo<=0/\0<=hi):∀l:List Int,(∀x∈l,lo<=x/\x<=hi)->lo<=foldI f l/\foldI f l<=hi
 |[],_=>h00
 |x::r,h=>by
  have key:∀(l:List Int) (s:Int),(lo<=s/\s<=hi)->(∀x∈l,lo<=x/\x<=hi)->lo<=l.foldl f s/\l.foldl f s<=hi:=by
   intro l
   induction l with
   |nil=>intro s hs _;exact hs
   |cons y q ih=>
    intro s hs hq
    rw[List.foldl_cons]
    refine ih _ ?_ (λz hz=>hq z (List.mem_cons_of_mem _ hz))
    rcases hf s y with e|e<;>rw[e]
    ·exact hs
    ·exact hq y List.mem_cons_self
  exact key r x (h x List.mem_cons_self) (λz hz=>h z (List.mem_cons_of_mem _ hz))
theorem afz{n:Nat}(ht:t.xs=[(n:Int)])(hn:1<=n/\n<=32)(hm:1<=m/\m<=32)(hd:d.xs.length=m*n)(hb:b.xs.length=m)(hdb:∀x∈d.xs,0<=x/\x<=9)(hbb:∀x∈b.xs,x=0):(bT (fwG nb nc t d b)).1=0:=by
 have hc:=afy (nb:=nb) (nc:=nc) ht hn hm hd hb (λx hx=>by have:=hdb x hx;unfold bX;omega) (λx hx=>by have:=hbb x hx;unfold bX;omega)
 have getD_in:∀{p:Int->Prop} {l:List Int} (k:Nat),(∀x∈l,p x)->p 0->p (l.getD k 0):=λ{p l} k h h0=>by
  by_cases hk:k<l.length
  ·rw[List.getD_eq_getElem?_getD,List.getElem?_eq_getElem hk];exact h _ (List.getElem_mem hk)
  ·rw[List.getD_eq_getElem?_getD,List.getElem?_eq_none aa];exact h0
 have hmin:∀a b:Int,min a b=a\/min a b=b:=λa b=>by omega
 have hmax:∀a b:Int,max a b=a\/max a b=b:=λa b=>by omega
 unfold bT
 rw[hc]
 show(if(0:Int)≠0 then _ else fV [[(n:Int)],[(m:Int)]] [inN t 0 1,Mh d b] []).1=0
 rw[if_neg aS]
 have e1:iZ [[(n:Int)],[(m:Int)]] (inN t 0 1) []=[0,1]:=rfl
 rw[fV,e1,if_neg aS]
 have hT:∀o,∀x∈bN (Mh d b) [(n:Int)] o,0<=x.1/\x.1<=9:=λo x hx=>by
  have hx:x∈sW (Mh d b) o (entries [(n:Int)]).toNat:=hx
  obtain⟨i,_,rfl⟩:=List.mem_map.1 hx
  exact getD_in (p:=λz=>0<=z/\z<=9) _ hdb ⟨by decide,by decide⟩
 have hTl:∀o,(bN (Mh d b) [(n:Int)] o).length=n:=λo=>by
  show(sW (Mh d b) o (entries [(n:Int)]).toNat).length=n
  rw[afx ⟨by omega,by omega⟩];simp[sW]
 have e2:iZ [[(n:Int)],[(m:Int)]] (Mh d b) ([]++[(foldI min [0,1],foldI max [0,1])])=kZ (Mh d b) (entries [(m:Int)]).toNat (bN (Mh d b) [(n:Int)]) (0,1):=rfl
 have hall:∀x∈kZ (Mh d b) (entries [(m:Int)]).toNat (bN (Mh d b) [(n:Int)]) (0,1),-1000<=x/\x<=1000:=λx hx=>by
  obtain⟨o,_,hx⟩:=List.mem_flatMap.1 hx
  have hB:dA (Mh d b) (entries [(m:Int)]).toNat o=0:=by
   show b.xs.getD o 0=0
   exact getD_in (p:=λz=>z=0) _ hbb rfl
  have hs:=Rl (bN (Mh d b) [(n:Int)] o) 0 0 (hT o) aS aS
  rw[hTl o]at hs
  rw[hB]at hx
  rcases List.mem_cons.1 hx with rfl|hx
  ·omega
  ·rw[List.mem_singleton.1 hx];omega
 have b1:=aiK hmin (lo:= -1000) (hi:=1000) ⟨by decide,by decide⟩ _ hall
 have b2:=aiK hmax (lo:= -1000) (hi:=1000) ⟨by decide,by decide⟩ _ hall
 rw[fV,e2,if_neg aa,fV]
end
section
variable {k:Nat} {x y:oN} {ox oy:Operand} {K:SV->Prop}
theorem Yh:Tryz.prog.cellsOf 43=5:=by kernel_rfl
def kT(x:oN):Value:= .agg (uP x).toArray
def n_(x:oN):Prop:=i64 x.op/\i64 x.to_/\i64 x.a/\i64 x.b/\i64 x.k
theorem agZ(x y:oN):x=y↔(x.op=y.op/\x.to_=y.to_/\x.a=y.a/\x.b=y.b/\x.k=y.k):=by
 obtain⟨a,b,c,d,e⟩:=x
 obtain⟨a',b',c',d',e'⟩:=y
 simp
instance:DecidableEq oN:=λx y=>decidable_of_iff _ (agZ x y).symm
theorem FV{l:List oN}(h:k<l.length):(iE l)[k]? =some (uP l[k]):=by simp[iE,h]
def Bt(x:oN):List Lit:=[.int .i64 x.op,.int .i64 x.to_,.int .i64 x.a,.int .i64 x.b,.int .i64 x.k]
theorem Me(x:oN)(hx:n_ x):Tryz.prog.keyLits 2 43 (uP x)=some (Bt x):=by
 obtain⟨h1,h2,h3,h4,h5⟩:=hx
 simp[Program.keyLits,Tryz.underlying43,Yh,uP,List.mapM_cons,Tryz.underlying3,adG,CE h1,CE h2,CE h3,CE h4,CE h5]
 rfl
theorem Rm(x y:oN)(hx:n_ x)(hy:n_ y)(w:World):(Op.equal 43 (kT x) (kT y)).run Tryz.prog w= .ok (decide (x=y)) w:=by
 obtain⟨r,h1,h2⟩:=run_equalIn_deep (P:=Tryz.prog) 9998 2 43 jf w 2 2 (kT x) (kT y) (Bt x) (Bt y) ahw ahw (Me x hx) (Me y hy)
 have e:r=decide (x=y):=by
  have:Bt x=Bt y↔x=y:=by
   obtain⟨a,b,c,d,e⟩:=x
   obtain⟨a',b',c',d',e'⟩:=y
   simp[Bt]
  rw[this]at h2
  cases r with
  |true=>exact(decide_eq_true (h2.1 rfl)).symm
  |false=>exact(decide_eq_false (λh=>by have:=h2.2 h;cases this)).symm
 rw[<-e];exact h1
theorem ag0:Tryz.prog.eqGuardType Tryz.prog.depth 43=false:=by kernel_rfl
theorem Pg(hx:n_ x)(hy:n_ y)(h:K (.c (.bool (!decide (x=y))))):l_ Tryz.prog (do eqGuard .neq 43 ox oy (kT x) (kT y);binOp .neq 43 (kT x) (kT y)) K:=by
 rw[wR]
 refine⟨_,λw=> ?_,h⟩
 have h1:(eqGuard .neq 43 ox oy (kT x) (kT y)).run Tryz.prog w= .ok () w:=by
  simp[eqGuard,kT,ag0]
 have h2:=Rm x y hx hy w
 simp only[Sem.run_bind,h1,Result.andThen_ok]
 simp[kT,binOp]at h2|-
 rw[h2];rfl
theorem XR(hx:n_ x)(hy:n_ y)(he:x=y)(h:K (.c (.bool false))):l_ Tryz.prog (do eqGuard .neq 43 ox oy (kT x) (kT y);binOp .neq 43 (kT x) (kT y)) K:=Pg hx hy (by rw[decide_eq_true he];exact h)
theorem Vo(hx:n_ x)(hy:n_ y)(he:x≠y)(h:K (.c (.bool true))):l_ Tryz.prog (do eqGuard .neq 43 ox oy (kT x) (kT y);binOp .neq 43 (kT x) (kT y)) K:=Pg hx hy (by rw[decide_eq_false he];exact h)
theorem XT{α:Type}{xs ys:List α}(hx:k<xs.length)(hy:k<ys.length)(h:xs.take k=ys.take k)(he:xs[k]=ys[k]):xs.take (k+1)=ys.take (k+1):=by
 rw[List.take_succ_eq_append_getElem hx,List.take_succ_eq_append_getElem hy,h,he]
theorem Eo(w:World)(ub:Option Addr)(uc:Nat)(ul:List oN)(vb:Option Addr)(vc:Nat)(vl:List oN)(hu:bf w ub 5 (iE ul))(hv:bf w vb 5 (iE vl))(nX:ul.length<=1000000)(hfu:∀x∈ul,n_ x)(Vw:∀x∈vl,n_ x):Calls Tryz.prog 21 #[.slice ub ul.length uc,.slice vb vl.length vc] w λe w'=>e= .returned (.bool (decide (ul=vl)))/\Ext w w':=by
 refine fq Tryz.func21 [.c (.slice ub ul.length uc),.c (.slice vb vl.length vc)] ?_
 (repeat' ((conv=>whnf)<;>first|refine aZ ?_|refine ag ?_ ?_<;>intro _))
 ·exact aX (λ_ _ h=>h) rfl (decide_eq_false (λh=>by rename_i hne;rw[h]at hne;exact hne rfl))
 rename_i hne
 refine Wp.loop (σ:=Nat) 0 (λk=>[(0,.c (.slice ub ul.length uc)),(1,.c (.slice vb vl.length vc)),(12,ak ul.length),(13,ak k)]) (λ_=>[]) (λ_=>aH w)
  (λk=>k<=ul.length/\ul.take k=vl.take k) (λk=>ul.length-k) 0 [] (Nat.le_refl _) (λs=>⟨rfl,rfl⟩) ⟨by simp,by simp⟩ ⟨rfl,aU,trivial,λ_ _ h=>h⟩ ?_
 rintro k ⟨hk,he⟩
 by_cases hlt:k<ul.length
 ·have hlt2:k<vl.length:=by omega
  obtain⟨a,ha⟩:=aI (j:=k) hu (by rw[mP];exact hlt)
  obtain⟨b,hb⟩:=aI (j:=k) hv (by rw[mP];exact hlt2)
  have hur:∀R w',(aH w).holds R w'->bf w' (some a) 5 (iE ul):=λR w' h=>ha▸au h hu
  have Ye:∀R w',(aH w).holds R w'->bf w' (some b) 5 (iE vl):=λR w' h=>hb▸au h hv
  rw[ha,hb]
  have Y9:=hfu _ (List.getElem_mem hlt)
  have hvx:=Vw _ (List.getElem_mem hlt2)
  by_cases hxy:ul[k]=vl[k]
  ·(repeat' ((conv=>whnf)<;>first|(show bC ..;(first|refine ax a k rfl rfl hlt ?_|refine ax b k rfl rfl hlt2 ?_))|refine ahq ?_|(show l_ ..;refine XR Y9 hvx hxy ?_)|refine aZ ?_|refine ag ?_ ?_<;>intro _))
   conv=>whnf
   exact⟨k+1,[],⟨hlt,XT hlt hlt2 he hxy⟩,by omega,rfl,aU,trivial,λ_ _ h=>h⟩
  ·(repeat' ((conv=>whnf)<;>first|(show bC ..;(first|refine ax a k rfl rfl hlt ?_|refine ax b k rfl rfl hlt2 ?_))|refine ahq ?_|(show l_ ..;refine Vo Y9 hvx hxy ?_)|refine aZ ?_|refine ag ?_ ?_<;>intro _))
   exact aX (λ_ _ h=>h) rfl (decide_eq_false (λh=>hxy (by simp only[h])))
 ·have hkl:ul=vl:=by rw[List.take_of_length_le aa,List.take_of_length_le aa]at he;exact he
  (repeat' ((conv=>whnf)<;>first|refine aZ ?_|refine ag ?_ ?_<;>intro _))
  exact aX (λ_ _ h=>h) rfl (decide_eq_true hkl)
end
def Ph(p:qO):Prop:=mM p.low p.low/\rJ p.low p.last/\0<=p.slots/\p.slots<=2048
theorem Ep:Ph vo:=⟨⟨λx hx=>(by cases hx),Nat.le_refl _⟩,rJ.small (Int.le_refl 0) aS,Int.le_refl 0,by decide⟩
theorem Vp{c:dM}(g:bE)(hn:c.slots<=2048):Ph (qJ c g).1:=by
 unfold qJ
 cases e:gZ c g.l 0 ⟨[],[],[]⟩ []with
 |none=>exact Ep
 |some q=>
  have h:=O4 (c:=c) aa g.l 0 ⟨[],[],[]⟩ [] q ⟨λx hx=>(by cases hx),Nat.le_refl _⟩ (λv hv=>by cases hv) e
  refine⟨h.1,?_,Int.natCast_nonneg _,by show(c.slots:Int)<=_;omega⟩
  show rJ q.1 (q.2.getD g.out.toNat 0)
  by_cases hk:g.out.toNat<q.2.length
  ·rw[List.getD_eq_getElem?_getD,List.getElem?_eq_getElem hk];exact h.2 _ (List.getElem_mem hk)
  ·rw[List.getD_eq_getElem?_getD,List.getElem?_eq_none aa];exact rJ.small (Int.le_refl 0) aS
theorem Vq(g:bE)(layout:Int)(giant:Bool)(m:Nat)(hm:m<=2048):Ph (kD g layout giant m).1:=by
 unfold kD
 split
 ·exact Ep
 ·exact Vp (c:=⟨m,giant,aeT (check g).2,aeT (gy layout m (check g).2 []).1⟩) g hm
theorem Vr(g:bE)(o:Am)(slots:Int):Ph (nZ g o slots).1:=by
 unfold nZ
 by_cases hs:l7 o slots
 ·rw[if_pos hs]
  obtain⟨_,_,h4,h8,_⟩:=hs
  by_cases h:(bT g).1≠0
  ·rw[if_pos h];exact Ep
  ·rw[if_neg h];exact Vq _ _ _ _ aa
 ·rw[if_neg hs];exact Ep
theorem afA{v:Al}{p:qO}(h:Ph p)(hv:v.pl=p)(hs:v.a_):(∀x∈v.code,n_ x)/\i64 v.last/\i64 v.slots:=by
 subst hv
 obtain⟨h1,h2,h3,h4⟩:=h
 have ht:nC v.pl.low<=3010000:=by
  have a:=hs.qM
  have b:=hs.Ho
  have c:=hs.lM
  unfold nC
  show v.code.length+(v.ay.l.map aj.xs).length+(v.inputs.map oq.pl).length+4096<=_
  rw[List.length_map,List.length_map];omega
 refine⟨λx hx=> ?_,?_,?_⟩
 ·obtain⟨⟨a,b⟩,⟨c,d⟩,⟨e,f⟩,⟨i,j⟩,k,l⟩:=h1.fit x hx
  unfold n_ i64;omega
 ·obtain⟨a,b⟩:=h2
  have a:0<=v.last:=a
  have b:v.last<=nC v.pl.low:=b
  unfold i64;omega
 ·have a:0<=v.slots:=h3
  have b:v.slots<=2048:=h4
  unfold i64;omega
section
variable {w:World} {nb:Option Addr} {nc:Nat} {t d b:aj}
theorem amI(hr:bf w nb 9 (bq [inN t 0 1,Mh d b]))(ht:t.ok w)(hd:d.ok w)(hb:b.ok w)(h2:d.xs.length<=5000)(h3:b.xs.length<=5000):(fwG nb nc t d b).ok w:=by
 refine⟨hr,λn hn=> ?_,λn hn=> ?_,(show 2<=1000000 by decide),(show i64 1 from⟨by decide,by decide⟩)⟩
 ·rcases List.mem_cons.1 hn with rfl|hn
  ·exact⟨ht,EY w,EY w,SG,ol,ol,ol,SG,ol⟩
  ·rw[List.mem_singleton.1 hn]
   exact⟨EY w,hd,hb,(show i64 3 from⟨by decide,by decide⟩),ol,ol,ol,ol,ol⟩
 ·rcases List.mem_cons.1 hn with rfl|hn
  ·exact⟨Nat.zero_le _,Nat.zero_le _⟩
  ·rw[List.mem_singleton.1 hn];exact⟨h2,h3⟩
theorem afB{c:dM}{layout:Int}{sh:List (List Int)}(h:Ap c layout sh (fwG nb nc t d b).l):∀(i:Nat) (n:ai),(fwG nb nc t d b).l[i]? =some n->Eb c n i (vv n.kind):=by
 intro i n hi
 have hm:=List.mem_of_getElem? hi
 rcases List.mem_cons.1 hm with e|hm
 ·exact Gq h hi (by rw[e];rfl)
 ·exact BX h hi (.inl (by rw[List.mem_singleton.1 hm];exact .inl rfl))
def fxV:qO:=⟨4,⟨[⟨0,1,[0,1]⟩],[[5,0,0,0],[7,0,0,0]],[⟨1,0,0,0,0⟩,⟨5,1,0,0,0⟩,⟨8,2,0,0,1⟩,⟨5,3,2,0,1⟩,⟨3,4,1,3,0⟩]⟩,4,[0]⟩
theorem akk:kD (fwG none 0 ⟨none,0,[2]⟩ ⟨none,0,[5,7]⟩ ⟨none,0,[0]⟩) 0 false 4=(fxV,0):=by kernel_rfl
theorem amJ(ht:t.xs=[2])(hd:d.xs=[5,7])(hb:b.xs=[0]):kD (fwG nb nc t d b) 0 false 4=(fxV,0):=by
 rw[<-akk]
 refine OY (g:=fwG nb nc t d b) (g':=fwG none 0 ⟨none,0,[2]⟩ ⟨none,0,[5,7]⟩ ⟨none,0,[0]⟩) ?_ rfl _ _ _
 show [aP.mk 1 0 0 t.xs 0 1 0 [] [],aP.mk 3 0 0 [] 0 0 0 d.xs b.xs]=_
 rw[ht,hd,hb];rfl
def fxC:List oN:=[⟨1,0,0,0,0⟩,⟨5,1,0,0,0⟩,⟨8,2,0,0,1⟩,⟨5,3,2,0,1⟩,⟨3,4,1,3,0⟩]
theorem ZF:∀x∈fxC,n_ x:=by
 intro x hx
 have:(fxC.all λx=>decide (-1000<=x.op/\x.op<=1000/\ -1000<=x.to_/\x.to_<=1000/\ -1000<=x.a/\x.a<=1000/\ -1000<=x.b/\x.b<=1000/\ -1000<=x.k/\x.k<=1000))=true:=by decide
 have:=of_decide_eq_true (List.all_eq_true.1 this x hx)
 unfold n_ i64
 omega
theorem Vs{w0:World}{i n:Nat}(l:List oN){R0:List (List Value)}{T:TypeId}{H:Heap}{S:bJ}{nx:Nat}{K:SV->Heap->bJ->Nat->Prop}(hN:∀R w,S.holds R w->(aH w0).holds R w)(he:R0=iE l)(hn:n=l.length)(h:∀base cap,K (.c (.slice base l.length cap)) H (S.and ((eY base 5 (iE l)).past w0.heap.size)) nx):jd (.os i n) ((i,.rows R0 5 T)::H) S nx K:=by
 subst he hn
 exact kU w0.heap.size (λR w hS b hb=>(hN R w hS b hb).1) (λlc _=>h lc.base lc.cap)
theorem Mf{v:Al}{N:Nat}{R:Nat->Prop}(h:((Xg v).past N).holds R w):bf w v.ay.base 1 (aM v.ay.l)/\(∀u∈v.ay.l,bf w u.base 1 (ints u.xs))/\bf w v.cb 5 (iE v.code)/\bf w v.out.base 1 (ints v.out.xs)/\bf w v.ib 3 (iF v.inputs)/\∀x∈v.inputs,bf w x.slots.base 1 (ints x.slots.xs):=by
 have h:(Xg v).holds R w:=(Xg v).mono h (λb hb=>hb.1)
 exact⟨aO h.1.2.1,λu hu=>aO (h.1.2.2 u hu),aO h.2.1,aO h.2.2,aO h.1.1.1,λx hx=>aO (h.1.1.2 x hx)⟩
theorem RJ(w:World):Calls Tryz.prog 7 #[] w λe w'=>e= .returned (.bool true)/\Ext w w':=by
 refine fq Tryz.func7 [] ?_
 (repeat' ((conv=>whnf)<;>first|refine qP ?_))
 refine nM (w0:=w) [2] (λR w' h=>h) rfl rfl (Ih rfl) aS (λt ht hts=> ?_)
 (repeat' ((conv=>whnf)<;>first|refine qP ?_))
 refine nM (w0:=w) [5,7] (λR w' h=>h.1) rfl rfl (Ih rfl) aS (λd hd hds=> ?_)
 (repeat' ((conv=>whnf)<;>first|refine qP ?_))
 refine nM (w0:=w) [0] (λR w' h=>h.1.1) rfl rfl (Ih rfl) aS (λb hb hbs=> ?_)
 (repeat' ((conv=>whnf)<;>first|refine qP ?_))
 refine Mx (w0:=w) [inN t 0 1,Mh d b] (λR w' h=>h.1.1.1) rfl rfl (λnb nc=> ?_)
 (repeat' ((conv=>whnf)<;>first|refine qP ?_))
 refine CS (fxV,0) Tryz.call9 (λρ w' hw=>by
  have hg:(fwG nb nc t d b).ok w':=ae hw λR h=>amI (aO h.2) (bP hts h.1.1.1.2) (bP hds h.1.1.2) (bP hbs h.1.2) (by rw[hd];decide) (by rw[hb];decide)
  have:=Xr w' (fwG nb nc t d b) ⟨0,false,false,false,0⟩ 4 hg aS (afz (n:=2) (m:=1) ht aS aS (by rw[hd];rfl) (by rw[hb];rfl) (by rw[hd];decide) (by rw[hb];decide)) rfl (λc hS=>afB hS)
  rw[amJ ht hd hb]at this
  exact this) (λv hv hvs=> ?_)
 obtain⟨sl,ib,ic,inp,⟨pb,pc,pl⟩,cb,cc,code,last,out⟩:=v
 have hcode:code=fxC:=congrArg (λx:qO=>x.low.code) hv
 have hlast:last=4:=congrArg (λx:qO=>x.last) hv
 have hpl:pl.map aj.xs=[[5,0,0,0],[7,0,0,0]]:=congrArg (λx:qO=>x.low.ay) hv
 obtain⟨p0,p1,rfl⟩:∃p0 p1,pl=[p0,p1]:=by
  have:pl.length=2:=by simpa using congrArg List.length hpl
  match pl,this with
  |[p0,p1],_=>exact⟨p0,p1,rfl⟩
 have hp1:p1.xs=[7,0,0,0]:=by simp only[List.map_cons,List.map_nil,List.cons.injEq]at hpl;exact hpl.2.1
 have akl:p1.a_:=hvs.ay p1 fC
 subst hcode hlast
 clear hv
 (repeat' ((conv=>whnf)<;>first|refine qP ?_))
 refine Vs (w0:=w) fxC (λR w' h=>h.1.1.1.1.1) rfl rfl (λsb sc=> ?_)
 refine Wp.know (p:=∃a,pb=some a) (λρ w' hw=>ae hw λR h=>aI (j:=1) (Mf h.1.2).1 (show 1<2 by decide)) ?_
 rintro⟨pa,rfl⟩
 (repeat' ((conv=>whnf)<;>first|(show @dR _ _ _;refine bA rfl ?_)|(show bC ..;refine ax pa 1 rfl rfl (show 1<2 by decide) ?_)|(show fu ..;refine aW (λR w' h=>(Mf h.1.2).1) [p1.val] p1.val rfl rfl ?_)|(show aC _ 21 ..;(refine aJ (f:=21) Tryz.call21 (.bool true) (λρ w' hw=>by have:=Eo w' cb cc fxC sb sc fxC (ae hw λR h=>(Mf h.1.2).2.2.1) (ae hw λR h=>aO h.2) aS ZF ZF;rw[decide_eq_true rfl]at this;exact this) ?_))|refine qP ?_))
 refine nM (w0:=w) [7,0,0,0] (λR w' h=>h.1.1.1.1.1.1) rfl rfl (Ih rfl) aS (λq hq hqs=> ?_)
 (repeat' ((conv=>whnf)<;>first|(show @dR _ _ _;refine bA rfl ?_)|(show aC _ 20 ..;(refine aJ (f:=20) Tryz.call20 (.bool true) (λρ w' hw=>by have:=qg w' p1 q (ae hw λR h=>⟨(Mf h.1.1.2).2.1 p1 fC,akl.fits,akl.room,akl.few⟩) (ae hw λR h=>bP hqs h.2);rw[decide_eq_true (hp1.trans hq.symm)]at this;exact this) ?_))|refine aN ?_))
 conv=>whnf
 exact aX (λR w' h=>h.1.1.1.1.1.1.1) rfl rfl
end
section
variable {v:Al} {R:Nat->Prop} {w:World}
structure Al.lies(w:World)(v:Al):Prop where
 ay:v.ay.lies w
 rows:bf w v.ib 3 (iF v.inputs)
 each:∀e∈v.inputs,e.slots.lies w
 Ho:v.inputs.length<=1000000
 code:bf w v.cb 5 (iE v.code)
 lM:v.code.length<=1000000
 fit:∀x∈v.code,n_ x
 out:v.out.lies w
 fits:i64 v.slots/\i64 v.last
theorem Vt{p:qO}{N:Nat}(h:((Xg v).past N).holds R w)(hp:Ph p)(hv:v.pl=p)(hs:v.a_):v.lies w:=by
 obtain⟨h1,h2,h3,h4,h5,h6⟩:=Mf h
 obtain⟨f1,f2,f3⟩:=afA hp hv hs
 exact⟨⟨h1,λu hu=>⟨h2 u hu,hs.ay u hu⟩,hs.qM⟩,h5,λe he=>⟨h6 e he,(hs.inputs e he).1⟩,hs.Ho,h3,hs.lM,f1,⟨h4,hs.out⟩,f3,f2⟩
theorem Al.lies.later{w':World}(h:v.lies w)(hb:(aH w).holds R w'):v.lies w':=⟨h.ay.later hb,au hb h.rows,λe he=>(h.each e he).later hb,h.Ho,au hb h.code,h.lM,h.fit,h.out.later hb,h.fits⟩
theorem akm(w:World)(a b:Al)(ha:a.lies w)(hb:b.lies w)(he:a.pl=b.pl):Calls Tryz.prog 11 #[a.val,b.val] w λe w'=>e= .returned (.bool true)/\Ext w w':=by
 obtain⟨s1,ib1,ic1,in1,p1,cb1,cc1,c,l1,o1⟩:=a
 obtain⟨s2,ib2,ic2,in2,p2,cb2,cc2,c2,l2,o2⟩:=b
 have e1:s1=s2:=congrArg qO.slots he
 have e2:l1=l2:=congrArg qO.last he
 have e3:o1.xs=o2.xs:=congrArg qO.out he
 have e4:in1.map oq.pl=in2.map oq.pl:=congrArg (λp:qO=>p.low.inputs) he
 have e5:p1.l.map aj.xs=p2.l.map aj.xs:=congrArg (λp:qO=>p.low.ay) he
 have e6:c=c2:=congrArg (λp:qO=>p.low.code) he
 subst e1 e2 e6
 clear he
 refine fq Tryz.func11 [.agg [ak s1,.c (.slice ib1 in1.length ic1),.c p1.val,.c (.slice cb1 c.length cc1),ak l1,.c o1.val],.agg [ak s1,.c (.slice ib2 in2.length ic2),.c p2.val,.c (.slice cb2 c.length cc2),ak l1,.c o2.val]] ?_
 (repeat' ((conv=>whnf)<;>first|(show jd ..;(first|refine lD (w0:=w) [o1] (λR w' h=>h) rfl rfl (λb1 c1 _=> ?_)|refine lD (w0:=w) [o2] (λR w' h=>h.1) rfl rfl (λb2 c2 _=> ?_)))|(show @dR _ _ _;refine bA rfl ?_)|(show aC _ 37 ..;refine aJ (f:=37) Tryz.call37 (.bool true) (λρ w' hw=>Q_ w' ib1 ic1 in1 ib2 ic2 in2 (ae hw λR h=>au h ha.rows) (ae hw λR h=>au h hb.rows) (ae hw λR h=>λe he=>(ha.each e he).later h) (ae hw λR h=>λe he=>(hb.each e he).later h) ha.Ho e4) ?_)|(show aC _ 38 [.c p1.val,_] ..;refine aJ (f:=38) Tryz.call38 (.bool true) (λρ w' hw=>yT w' p1 p2 (ae hw λR h=>ha.ay.later h) (ae hw λR h=>hb.ay.later h) e5) ?_)|(show aC _ 38 [.c (.slice b1 _ _),_] ..;refine aJ (f:=38) Tryz.call38 (.bool true) (λρ w' hw=>yT w' ⟨b1,c1,[o1]⟩ ⟨b2,c2,[o2]⟩ (ae hw λR h=>xN h.1.2 (ha.out.later h.1.1)) (ae hw λR h=>xN h.2 (hb.out.later h.1.1)) (congrArg (λz=>[z]) e3)) ?_)|(show aC _ 21 ..;(refine aJ (f:=21) Tryz.call21 (.bool true) (λρ w' hw=>by have:=Eo w' cb1 cc1 c cb2 cc2 c (ae hw λR h=>au h ha.code) (ae hw λR h=>au h hb.code) ha.lM ha.fit ha.fit;rw[decide_eq_true rfl]at this;exact this) ?_))|refine aN ?_))
 all_goals(conv=>whnf)
 all_goals exact aX (λR w' h=>h.1.1) rfl rfl
end
theorem afC(w:World)(g:bE)(c:dM)(layout:Int)(hS:Ap c layout (check g).2 g.l)(hm:c.slots<=2048)(hpos:∀u∈c.bH.l,0<u.xs.length)(xn:g.l.length<=24)(hout:0<=g.out/\g.out<g.l.length)(hC:∀(i:Nat) (n:ai),g.l[i]? =some n->Eb c n i (vv n.kind)):
 LoW w (qJ c g) 7 [(3,.lp 0 0 0 0),(6,.lp 2 0 0 0),(10,.lp 3 0 0 0)] [(3,.box [ak c.slots,.c (.slice none 0 0),.c (.slice none 0 0),.c (.slice none 0 0),ak 0,.c (.slice none 0 0),.c (.bool c.giant),.c c.shapes.val,.c c.bH.val,.c (.slice none 0 0)] 71),(2,.box [ak 0,.c (.slice none 0 0),.c (.slice none 0 0),.c (.slice none 0 0),ak 0,.c (.slice none 0 0)] 34),(0,.box [.c (.slice g.base g.l.length g.cap),ak g.out] 24)] (ae9 w g c ⟨[],[],[]⟩) 5:=by
 obtain⟨hm1,_⟩:=hS.slots
 (repeat' ((conv=>whnf)<;>first|refine aN ?_))
 all_goals(conv=>whnf)
 obtain⟨T,hT0⟩:∃T,gZ c (g.l.drop 0) 0 ⟨[],[],[]⟩ []=T:=⟨_,rfl⟩
 have hrT:lowerT c g T=qJ c g:=by rw[<-hT0];rfl
 refine Wp.loop (σ:=Nat×cZ×List Int) 9 (λq=>[(3,.lp 0 0 0 0),(6,.lp 2 0 0 0),(10,.lp 3 0 0 0),(105,.c (.slice g.base g.l.length g.cap)),(106,ak g.l.length),(107,ak q.1)])
  (λq=>(2,.box [ak 0,.c (.slice none 0 0),.c (.slice none 0 0),.c (.slice none 0 0),ak 0,.c (.slice none 0 0)] 34)::(0,.box [.c (.slice g.base g.l.length g.cap),ak g.out] 24)::xG c q.2.1 q.2.2 3 5 6 7 8)
  (λq=>ae9 w g c q.2.1) (λq=>q.1<=g.l.length/\q.2.2.length=q.1/\sw c q.2.1/\q.2.1.code.length<=2048/\q.2.1.ay.length<=q.2.1.code.length/\q.2.1.inputs.length<=q.2.1.code.length/\gZ c (g.l.drop q.1) q.1 q.2.1.pl q.2.2=T) (λq=>g.l.length-q.1) (0,⟨[],[],[]⟩,[]) [(5,none),(6,none),(7,none),(8,none)] aS (λq=>⟨rfl,rfl⟩)
  ⟨Nat.zero_le _,rfl,⟨λ_ h=>kJ,λ_ h=>kJ⟩,Nat.zero_le _,Nat.zero_le _,Nat.zero_le _,hT0⟩ ⟨rfl,aU,⟨aQ,aQ,aQ,rfl,rfl,rfl,rfl,trivial⟩,λR w' h=>h⟩ ?_
 rintro⟨i,qs,vl⟩ ⟨hil,hvl,hqo,hqc,hqp,hqi,hT⟩
 simp only at hil hvl hqo hqc hqp hqi hT
 by_cases hlt:i<g.l.length
 ·have hgi:g.l[i]? =some g.l[i]:=List.getElem?_eq_getElem hlt
  have hrow:=bQ hlt
  have hNC:=hC i _ hgi
  have hgr:=dn.node c g.l[i] i qs.pl vl aa
  have hnm:=List.getElem_mem hlt
  rw[List.drop_eq_getElem_cons hlt,gZ]at hT
  generalize g.l[i]=n at*
  have hNA:lH c qs vl:=⟨by omega,hqo,by omega,by omega,by omega⟩
  clear hC hT0 hgi
  refine Wp.know (p:=∃a,g.base=some a) (λρ w' hw=>ae hw λR h=>aI (j:=i) ((fK h.2).rows) acM) ?_
  rintro⟨ga,hga⟩
  rcases Zn n.kind with⟨hk,hf⟩|⟨hk,hf⟩|⟨hk,hf⟩|⟨hk,hf⟩|⟨hk,hf⟩|⟨⟨hk1,hk2,hk3,hk4,hk5⟩,hf⟩
  all_goals Q3=>
   rw[hf]at hNC
   (repeat' ((conv=>whnf)<;>first|(show cO _ 33 ..;refine mE [] [(9,.box (cs n.cells) 41)] aix ?_ (h6:=List.Sublist.cons_cons _ (List.nil_sublist _)))|(show iK ..;refine og ?_)|(show bC ..;refine ax ga i hga rfl hlt ?_)|(show iM ..;(refine dO (λR w' h=>by rw[<-hga];exact(fK h.2).rows) _ hrow rfl ?_))|(show @dR _ _ _;(first|refine bA aa ?_|refine cK aa ?_))|(show aC _ _ [.lp 3 0 0 0,_,_] ..;refine dN [(9,.box (cs n.cells) 41),(2,.box [ak 0,.c (.slice none 0 0),.c (.slice none 0 0),.c (.slice none 0 0),ak 0,.c (.slice none 0 0)] 34),(0,.box [.c (.slice g.base g.l.length g.cap),ak g.out] 24)] 3 5 6 7 8 c qs vl (rH c qs n) [.lp 0 0 0 0,.agg (jM n),ak i] _ _ _ _ ak7 rfl rfl rfl (λR w' h=>U5 hnm h) (GB w.heap.size) (λR w' h b hb=>(h.1.1 b hb).1) (λw' ρ' F' h'=>hNC qs vl w' ρ' F' hNA hvl h') (λq ⟨hq1,hq2,hq3⟩=> ?_))|(show sH ..;(refine fO zf ?_))|(show fG ..;(refine b_ aja ?_))|(show jd _ ((_,.rows (List.take vl.length _++_) _ _)::_) _ _ _;refine iG (ys:=ints (vl++[q.2])) (m:=(vl++[q.2]).length) ?_ (CP vl q.2) ai_)|refine aN ?_|refine ag ?_ ?_<;>intro _|refine And.intro ?_ ?_))
   all_goals(conv=>whnf)
   all_goals
    rw[<-hq1]at hT hgr
    have hg3:=Zo hgr
    first|exact⟨(i+1,q.1,vl++[q.2]),[(5,some 16),(6,some 12),(7,some 13),(8,some 14)],⟨hlt,by show(vl++[q.2]).length=i+1;rw[List.length_append,hvl];rfl,hq3,by show q.1.code.length<=2048;omega,by show q.1.ay.length<=q.1.code.length;omega,by show q.1.inputs.length<=q.1.code.length;omega,by rw[if_neg acH,<-hq2]at hT;exact hT⟩,by show g.l.length-(i+1)<g.l.length-i;omega,rfl,aU,aU,λR w' h=>⟨Fz h.1.1 h.2,h.1.2⟩⟩|exact nA (λ_ _ h=>h.1.1.1) rfl ak_ (λρ=>rfl)
 ·obtain rfl:i=g.l.length:=by omega
  rw[List.drop_length,gZ]at hT
  rw[<-hT]at hrT
  have ho1:g.out.toNat<c.bH.l.length:=by have:=congrArg List.length hS.bH;rw[List.length_map,List.length_map,hS.len]at this;omega
  have ho2:g.out.toNat<vl.length:=by omega
  refine Wp.go fA rfl ?_
  (repeat' ((conv=>whnf)<;>first|refine Bu ?_|refine ag ?_ ?_<;>intro _))
  refine Wp.go fA rfl ?_
  (repeat' ((conv=>whnf)<;>first|refine Bu ?_|refine ag ?_ ?_<;>intro _))
  exact Wp.into 9 [] (La w g c qs vl (qJ c g) hout.1 ho1 ho2 hqo ⟨hqc,by omega,by omega⟩ (λu hu=>⟨hS.spS u hu,hpos u hu⟩) hrT) aS ⟨rfl,rfl⟩ ⟨rfl,aU,aU,λ_ _ h=>h.1⟩
theorem Vu(w:World)(g:bE)(o:Am)(m:Nat)(hmm:4<=m/\m<=2048)(hsp:(bT g).1=0)(hC:∀c:dM,Ap c o.layout (check g).2 g.l->∀(i:Nat) (n:ai),g.l[i]? =some n->Eb c n i (vv n.kind)):
 LoW w (kD g o.layout o.giant m) 4 [(2,ak m),(3,.lp 0 0 0 0),(4,.lp 1 0 0 0),(6,.lp 2 0 0 0)] [(2,.box [ak 0,.c (.slice none 0 0),.c (.slice none 0 0),.c (.slice none 0 0),ak 0,.c (.slice none 0 0)] 34),(1,.box [ak o.layout,.c (.bool o.tidy),.c (.bool o.lazy),.c (.bool o.giant),ak o.rows] 26),(0,.box [.c (.slice g.base g.l.length g.cap),ak g.out] 24)] ((aH w).and (vZ λw=>g.ok w)) 3:=by
 obtain⟨hck,_,_⟩:=jA hsp
 obtain⟨hl1,xn,hout,hcl,hin⟩:=gX hck
 refine Wp.know (p:=∃w',g.ok w') (λρ w' hw=>⟨w',ae hw λR h=>fK h.2⟩) ?_
 rintro⟨wg,hg⟩
 (repeat' ((conv=>whnf)<;>first|(show aC _ 24 ..;refine vU (f:=24) (check g) Tryz.call24 (λρ w' hw=>pu w' g (ae hw λR h=>fK h.2)) (λh=>absurd hck h) (λ_ sv hm hsv hsc=> ?_))|refine aN ?_))
 have hsl:sv.l.length=g.l.length:=by have:=congrArg List.length hm;rw[List.length_map]at this;omega
 obtain⟨Z,TZ⟩:∃Z,gy o.layout m ((sv.l.drop 0).map aj.xs) []=Z:=⟨_,rfl⟩
 have Rn:gy o.layout m (check g).2 []=Z:=by rw[<-TZ,List.drop_zero];exact congrArg (λz=>gy o.layout m z []) hm.symm
 refine Wp.loop (σ:=Nat×List aj) 5 (λq=>[(2,ak m),(3,.lp 0 0 0 0),(4,.lp 1 0 0 0),(6,.lp 2 0 0 0),(10,.lp 3 0 0 0),(75,.c sv.val),(76,ak sv.l.length),(77,ak q.1)])
  (λq=>[(4,.rows (aM q.2) 1 32),(3,.box [ak m,.c (.slice none 0 0),.c (.slice none 0 0),.c (.slice none 0 0),ak 0,.c (.slice none 0 0),.c (.bool o.giant),.c sv.val,.os 4 q.2.length,.c (.slice none 0 0)] 71),(2,.box [ak 0,.c (.slice none 0 0),.c (.slice none 0 0),.c (.slice none 0 0),ak 0,.c (.slice none 0 0)] 34),(1,.box [ak o.layout,.c (.bool o.tidy),.c (.bool o.lazy),.c (.bool o.giant),ak o.rows] 26),(0,.box [.c (.slice g.base g.l.length g.cap),ak g.out] 24)])
  (λq=>aiF w g sv q.2) (λq=>q.1<=sv.l.length/\q.2.length=q.1/\(∀u∈q.2,u.a_/\0<u.xs.length)/\gy o.layout m ((sv.l.drop q.1).map aj.xs) (q.2.map aj.xs)=Z) (λq=>sv.l.length-q.1) (0,[]) [(4,none)] aS (λq=>⟨rfl,rfl⟩) ⟨Nat.zero_le _,rfl,λ_ h=>kJ,TZ⟩
  ⟨rfl,aU,⟨rfl,aQ,aQ,aQ,aQ,trivial⟩,λR w' h=>⟨h,λu hu=>by cases hu⟩⟩ ?_
 rintro⟨k,us⟩ ⟨hkl,yf,fP,hZ⟩
 simp only at hkl yf fP hZ
 by_cases hlt:k<sv.l.length
 ·rw[List.drop_eq_getElem_cons hlt,List.map_cons]at hZ
  have hrow:=dh hlt
  have wN:=List.getElem_mem hlt
  generalize sv.l[k]=u at*
  refine Wp.know (p:=∃a,sv.base=some a) (λρ w' hw=>ae hw λR h=>aI (j:=k) (aO h.1.2.1) RN) ?_
  rintro⟨sa,hsa⟩
  by_cases hok:(fT u.xs o.layout m).2=0
  ·rw[Bf hok]at hZ
   (repeat' ((conv=>whnf)<;>first|(show bC ..;refine ax sa k hsa rfl hlt ?_)|(show fu ..;(refine aW (λR w' h=>by rw[<-hsa];exact aO h.1.2.1) _ _ hrow rfl ?_))|(show @dR _ _ _;(refine cK (by rw[hok];decide) ?_))|(refine ahr ?_;intro x hx hxs)|(show sH ..;(refine fO Pq ?_))|(show fG ..;(refine b_ af2 ?_))|(show jd _ ((_,.rows (List.take us.length _++_) _ _)::_) _ _ _;refine iG (ys:=aM (us++[x])) (m:=(us++[x]).length) ?_ (D5 us x) ai9)|refine aN ?_|refine ag ?_ ?_<;>intro _))
   all_goals(conv=>whnf)
   all_goals exact⟨(k+1,us++[x]),[(4,some 6)],⟨hlt,by show(us++[x]).length=k+1;rw[List.length_append,yf];rfl,λv hv=>(List.mem_append.1 hv).elim (fP v) (λhv=>by rw[List.mem_singleton.1 hv];exact⟨hxs,by rw[hx];exact K_ hok⟩),by show gy o.layout m _ ((us++[x]).map aj.xs)=Z;rw[List.map_append,List.map_cons,List.map_nil,hx];exact hZ⟩,by show sv.l.length-(k+1)<sv.l.length-k;omega,rfl,aU,aU,λR w' h=>⟨h.1.1,kW h.1.2 (Fy h.2)⟩⟩
  ·rw[Bg hok]at hZ
   (repeat' ((conv=>whnf)<;>first|(show bC ..;refine ax sa k hsa rfl hlt ?_)|(show fu ..;(refine aW (λR w' h=>by rw[<-hsa];exact aO h.1.2.1) _ _ hrow rfl ?_))|(show @dR _ _ _;refine bA hok ?_)|(refine ahr ?_;intro x hx hxs)|refine aN ?_|refine ag ?_ ?_<;>intro _))
   all_goals(conv=>whnf)
   have e2:Z.2=(fT u.xs o.layout m).2:=by rw[<-hZ]
   all_goals exact nA (λ_ _ h=>h.1.1.1.1) rfl ahx (λρ=>rfl)
 obtain rfl:k=sv.l.length:=by omega
 rw[List.drop_length]at hZ
 have hZ:(us.map aj.xs,(0:Int))=Z:=hZ
 refine Wp.yE 4 w.heap.size (k:=1) (xs:=aM us) (T:=32) aQ (λR w' h b hb=>(h.1.1.1 b hb).1) (λfl hfl=> ?_)
 have hz2:(gy o.layout m (check g).2 []).2=0:=by rw[Rn,<-hZ]
 obtain⟨c,hc⟩:∃c:dM,c=⟨m,o.giant,sv,⟨fl.base,fl.cap,us⟩⟩:=⟨_,rfl⟩
 have hS:Ap c o.layout (check g).2 g.l:=Q6 hg hck hmm hz2 Ni (by rw[hc];exact hm) (by rw[hc];exact hsv) (by rw[hc,Rn,<-hZ]) (by rw[hc];exactλu hu=>(fP u hu).1)
 have hr:kD g o.layout o.giant m=qJ c g:=by
  unfold kD
  rw[if_neg (λh=>h hz2)]
  exact Bh ⟨by rw[hc],by rw[hc],by rw[Bi,hc];exact hm.symm,by rw[Bi,Rn,<-hZ,hc]⟩ rfl rfl
 rw[hr]
 have h7:=afC w g c o.layout hS (by rw[hc];exact hmm.2) (by rw[hc];exactλu hu=>(fP u hu).2) xn hout (hC c hS)
 iterate 2
  refine Wp.go fA rfl ?_
  (repeat' ((conv=>whnf)<;>first|refine Bu ?_|refine ag ?_ ?_<;>intro _))
 exact Wp.into 5 [] h7 aS ⟨rfl,rfl⟩ ⟨rfl,aU,⟨by rw[hc];exact aQ,aQ,aQ,trivial⟩,λR w' h=>⟨⟨h.1.1.1.1,⟨by rw[hc];exact h.1.1.2,by rw[hc];exact⟨h.2,h.1.2⟩⟩,λ_ h=>kJ⟩,h.1.1.1.2⟩⟩
theorem abD(w:World)(g:bE)(o:Am)(slots:Int)(hg:g.ok w)(h64:i64 slots)(hC:∀(t:bE) (c:dM),Ap c o.layout (check t).2 t.l->∀(i:Nat) (n:ai),t.l[i]? =some n->Eb c n i (vv n.kind)):Calls Tryz.prog 9 #[g.val,o.val,.int .i64 slots] w (oD w (nZ g o slots)):=by
 by_cases hbad:¬l7 o slots\/(bT g).1≠0
 ·have h:=aaX w g o slots hg h64 hbad
  have e:nZ g o slots=(vo,if l7 o slots then(bT g).1 else 1):=by
   unfold nZ
   by_cases hs:l7 o slots
   ·rw[if_pos hs,if_pos hs,if_pos (hbad.resolve_left (λh=>h hs))]
   ·rw[if_neg hs,if_neg hs]
  rw[e];exact h
 have hs:l7 o slots:=Decidable.byContradiction λh=>hbad (.inl h)
 have hsp:(bT g).1=0:=Decidable.byContradiction λh=>hbad (.inr h)
 obtain⟨s1,s2,s3,s4,s5⟩:=id hs
 obtain⟨m,rfl⟩:∃m:Nat,slots=m:=⟨slots.toNat,by omega⟩
 have hF:nZ g o m=kD (if o.tidy=true then ZE g else g) o.layout o.giant m:=by unfold nZ;rw[if_pos hs,if_neg (λh=>h hsp),Int.toNat_natCast]
 rw[hF]
 obtain⟨hck,_,_⟩:=jA hsp
 obtain⟨hl1,xn,_⟩:=gX hck
 refine fq Tryz.func9 [.agg [.c (.slice g.base g.l.length g.cap),ak g.out],.agg [ak o.layout,.c (.bool o.tidy),.c (.bool o.lazy),.c (.bool o.giant),ak o.rows],ak m] ?_
 (repeat' ((conv=>whnf)<;>first|(show Jh ..;refine Iu ?_)|(show @dR _ _ _;(first|refine cK aa ?_))|(show aC _ 22 ..;refine mY (f:=22) (bT g) Tryz.call22 (λρ w' hw=>xq w' g (ae hw λR h=>hg.later h)) (λh=>absurd hsp h) (λ_ qb qc=> ?_))|refine aN ?_))
 refine vg (λ_=>rfl) (λht=> ?_) (λht=> ?_)
 ·rw[if_pos ht]
  (repeat' ((conv=>whnf)<;>first|(show aC _ 23 ..;refine XP g hsp hg.small xn Tryz.call23 (λρ w' hw=>afb w' g (ae hw λR h=>hg.later h.1)) (λt hT=> ?_))))
  rw[<-hT.lower]
  exact Wp.into 3 [] (Vu w t o m ⟨by omega,by omega⟩ (hT.spans hsp) (λc hc=>hC t c hc)) aS ⟨rfl,rfl⟩ ⟨rfl,aU,aU,λR w' h=>⟨h.1.1,(vZ λw=>t.ok w).mono h.2 (λb hb=>hb.1)⟩⟩
 ·rw[if_neg (by rw[ht];decide)]
  (repeat' ((conv=>whnf)<;>first|refine Bu ?_|refine ag ?_ ?_<;>intro _))
  exact Wp.into 3 [] (Vu w g o m ⟨by omega,by omega⟩ hsp (λc hc=>hC g c hc)) aS ⟨rfl,rfl⟩ ⟨rfl,aU,aU,λR w' h=>⟨h.1,uu h.1 (λ_ _ h=>hg.later h)⟩⟩
end Go.Proofs.YtgndjjdeopfdkaaGreat

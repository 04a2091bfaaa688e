import Derived.RangeFuncGives
import Derived.RangeFuncBox
import Derived.RangeFuncLeaves
import Derived.Maps.AppendAt
import Derived.Shelf.Abstract
import Derived.WalkKit
import Derived.OwnWalkIn
import Derived.TacticsInMore
import Derived.LoopNIn
import Derived.LoopIn
import Derived.RegionIn
import Derived.Test.YtgndjjdeopfdkaaGreatProg
import Derived.Shelf.Sort.Plain
import Derived.Shelf.Slices.CompactI
import Derived.Shelf.Slices.In.SortNone
import Derived.Shelf.Spec.SlicesGrow
import Derived.Test.YtgndjjdeopfdkaaGreatKLowerMakes6
/- texts NH LO of the proof of LowerMakesSaid -/
set_option maxHeartbeats 16000000
set_option maxRecDepth 20000
namespace Go.Proofs.YtgndjjdeopfdkaaGreat
open Go.SX Go.RowKit
section
variable {k nx:Nat} {H:Heap} {S:bJ}
theorem iG{i n m:Nat}{xs ys:List (List Value)}{T:TypeId}{K:SV->Heap->bJ->Nat->Prop}(h:K (.os i m) ((i,.rows ys k T)::H) S nx)(e:xs=ys)(en:n=m):jd (.os i n) ((i,.rows xs k T)::H) S nx K:=by subst e en;exact uN h
theorem Y5:i64 2:=⟨by decide,by decide⟩
def fU(u x:aj):ai:=⟨2,0,0,u,0,0,0,x,fI⟩
def zS(w:World)(s d:List Int)(e:Ending)(w':World):Prop:=
 ∃u x:aj,u.xs=s/\u.a_/\x.xs=d/\x.a_/\e= .returned (fU u x).jS/\Ext w w'/\(bn u).holds (λb=>w.heap.size<=b/\b<w'.heap.size) w'/\(bn x).holds (λb=>w.heap.size<=b/\b<w'.heap.size) w'
theorem Ou{B:Base}{v:SV}{w:World}{s d:List Int}{u x:aj}(hb:∀R w',S.holds R w'->(aH B.w0).holds R w')(hw0:B.w0=w)(hu:u.xs=s)(fP:u.a_)(hx:x.xs=d)(hxs:x.a_)(hv:∀ρ,v.rf ρ=(fU u x).jS)(h1:∀R w',S.holds R w'->((bn u).past B.w0.heap.size).holds R w')(h2:∀R w',S.holds R w'->((bn x).past B.w0.heap.size).holds R w'):jE B v H S nx (zS w s d):=by
 subst hw0
 exact dz λρ w' hw=>⟨u,x,hu,fP,hx,hxs,by rw[hv],aV hw hb,oh hw h1,oh hw h2⟩
section
variable {w:World} {b:Nat} {nb sb:Option Addr} {nc sc:Nat} {kept:List ai} {st:List Int} {dX:List (List Int)} {fJ:List Sp} {s:List Int}
theorem zT{kept:List ai}(h:k<kept.length):(kept.map ai.pl).getD k di=kept[k].pl:=by
 rw[List.getD_eq_getElem?_getD,List.getElem?_map,List.getElem?_eq_getElem h];rfl
theorem Wy{w:World}{n:ai}{a b:Int}(h:n.ok w)(ha:i64 a)(hb:i64 b):(jI n a b).ok w:=⟨h.shape,h.data,h.aG,h.jJ,ha,hb,h.kE,h.kF,h.jK⟩
theorem Wz(hd:m_ w b nb nc kept sb sc st)(hko:∀k∈kept,k.ok w/\k.small)(hR:dS (kept.map ai.pl) dX fJ)(n:ai)(hno:n.ok w)(hns:n.small)(hm:iY n.pl.jg dX s)(hk:gM (kept.map ai.pl) n.pl=true)(h1: -1048576<=(jB n.pl s dX fJ).1)(h2:(jB n.pl s dX fJ).2<=1048576)(h6:n.kind≠6):
 Calls Tryz.prog 55 #[.pointer (some ⟨b,0,none⟩),n.jS] w (zS w s (kI s (kept.map ai.pl) n.pl)):=by
 have hK:=zR hR hm hk
 have hlen:=hR.wz
 have nX:kept.length<=1000000\/1000000<kept.length:=by omega
 have kk:n.pl.kind=n.kind:=rfl
 have ka:n.pl.a=n.a:=rfl
 have hah:=lC hm.form
 have ha0:=hah.a0
 have h12:=hK.kind
 have Hz:=hK.Hz
 rw[ka]at ha0 Hz
 rw[kk]at h12
 rw[List.length_map]at Hz
 have hkA:u6 kept n.a=true:=by
  have:=hK.aK
  rw[ka,zT Hz]at this
  rw[<-A_ Hz]
  exact decide_eq_true this
 obtain⟨na,hna⟩:∃a,nb=some a:=aI (j:=n.a.toNat) hd.nodes Db
 have hrow:=bQ Hz
 have hAo:=hko _ (List.getElem_mem Hz)
 have hAp:=zT Hz
 generalize hAe:kept[n.a.toNat]=A at*
 have hb0:n.b=0:=hah.b2 h6
 have hLo:∀m∈[A,jI n 0 n.b],m.ok w/\m.small:=λm hm=>by
  simp only[List.mem_cons,List.not_mem_nil,or_false]at hm
  rcases hm with rfl|rfl
  ·exact hAo
  ·exact⟨Wy hno ol hno.nQ,hns.data,hns.aG⟩
 obtain⟨hG1,hG2,hG3⟩:=YZ hR hm hK h1 h2 (g:=(bE.mk none 0 [A,jI n 0 n.b] 1)) (by unfold Tj;rw[if_neg (show¬n.pl.kind=6 from h6),ka,hAp];rfl) (by unfold DN;rw[if_neg (show¬n.pl.kind=6 from h6)])
 have hG2:gD (check (bE.mk none 0 [A,jI n 0 n.b] 1)).2 1=s:=hG2
 have hG4:(check (bE.mk none 0 [A,jI n 0 n.b] 1)).2.length=2:=(gX hG1).2.2.2.1
 refine fq Tryz.func55 [.c (.pointer (some ⟨b,0,none⟩)),.agg (jM n)] ?_
 (repeat' ((conv=>whnf)<;>first|refine akR ?_|refine akS ?_|(show bC ..;refine ax na n.a.toNat hna aa Hz ?_)|(show iM ..;(refine dO (λR w' h=>by rw[<-hna];exact au h hd.nodes) _ hrow rfl ?_))|(show fG ..;refine b_ (show(2:Nat)*120<=140737488355328 by decide) ?_)|(show cO _ 3 ..;refine mE [12] _ ail ?_)|refine aN ?_|refine ag ?_ ?_<;>intro _|refine And.intro ?_ ?_))
 all_goals(conv=>whnf)
 all_goals refine oL (f:=24) (check (bE.mk none 0 [A,jI n 0 n.b] 1)) Tryz.call24 (λρ w' hw=>pu w' ⟨(ρ 5).base,(ρ 5).cap,[A,jI n 0 n.b],1⟩ ⟨ed hw List.mem_cons_self,λm hm=>ae hw λR h=>(hLo m hm).1.later h,λm hm=>(hLo m hm).2,show 2<=1000000 by decide,SG⟩) (λhne=>absurd hG1 hne) (λ_ sv hmv hsv=> ?_)
 all_goals
  have hsl:sv.l.length=2:=by rw[<-List.length_map (f:=λu:aj=>u.xs),hmv];exact hG4
  have hs1:1<sv.l.length:=by omega
  have hsx:sv.l[1].xs=s:=by
   rw[<-hG2,<-hmv]
   unfold gD
   rw[List.getD_eq_getElem?_getD,List.getElem?_map,List.getElem?_eq_getElem hs1];rfl
  (repeat' ((conv=>whnf)<;>first|fail))
 all_goals refine Wp.know (p:=∃a,sv.base=some a) (λρ w' hw=>ae hw λR h=>aI (j:=1) (aO h.2.1) Pq) ?_
 all_goals
  rintro⟨sa,hsa⟩
  refine Wp.go fA rfl ?_
  (repeat' ((conv=>whnf)<;>first|(show aC _ 110 ..;refine Tq (f:=110) (Mv (bE.mk none 0 [A,jI n 0 n.b] 1) []) Tryz.call110 (λρ w' hw=>YT w' ⟨(ρ 5).base,(ρ 5).cap,[A,jI n 0 n.b],1⟩ ⟨ed hw List.mem_cons_self,λm hm=>ae hw λR h=>(hLo m hm).1.later h.1,λm hm=>(hLo m hm).2,show 2<=1000000 by decide,SG⟩ ⟨none,0,[]⟩ ⟨.inl rfl,λu hu=>by simp at hu,Nat.le_refl _,Nat.zero_le _⟩) (λhne=>absurd (by rw[hG3]) hne) (λ_ x hx hxs=> ?_))|(show bC ..;refine ax sa 1 hsa rfl hs1 ?_)|refine akT ?_|refine aN ?_))
 all_goals(conv=>whnf)
 all_goals exact Ou (λR w' h=>h.1.1) rfl hsx (hsv _ (List.getElem_mem hs1)) (by rw[hx,hG3]) hxs (λ_=>rfl) (λR w' h=>h.1.2.2 _ (List.getElem_mem hs1)) (λR w' h=>h.2)
theorem WA(hd:m_ w b nb nc kept sb sc st)(hko:∀k∈kept,k.ok w/\k.small)(hR:dS (kept.map ai.pl) dX fJ)(n:ai)(hno:n.ok w)(hns:n.small)(hm:iY n.pl.jg dX s)(hk:gM (kept.map ai.pl) n.pl=true)(h1: -1048576<=(jB n.pl s dX fJ).1)(h2:(jB n.pl s dX fJ).2<=1048576)(h6:n.kind=6):
 Calls Tryz.prog 55 #[.pointer (some ⟨b,0,none⟩),n.jS] w (zS w s (kI s (kept.map ai.pl) n.pl)):=by
 have hK:=zR hR hm hk
 have hlen:=hR.wz
 have nX:kept.length<=1000000\/1000000<kept.length:=by omega
 have kk:n.pl.kind=n.kind:=rfl
 have ka:n.pl.a=n.a:=rfl
 have hah:=lC hm.form
 have ha0:=hah.a0
 have h12:=hK.kind
 have Hz:=hK.Hz
 rw[ka]at ha0 Hz
 rw[kk]at h12
 rw[List.length_map]at Hz
 have hkA:u6 kept n.a=true:=by
  have:=hK.aK
  rw[ka,zT Hz]at this
  rw[<-A_ Hz]
  exact decide_eq_true this
 obtain⟨na,hna⟩:∃a,nb=some a:=aI (j:=n.a.toNat) hd.nodes Db
 have hrow:=bQ Hz
 have hAo:=hko _ (List.getElem_mem Hz)
 have hAp:=zT Hz
 generalize hAe:kept[n.a.toNat]=A at*
 have kb:n.pl.b=n.b:=rfl
 have hb0:=hah.b0
 have YX:=hK.YX h6
 rw[kb]at hb0 YX
 rw[List.length_map]at YX
 have hkB:u6 kept n.b=true:=by
  have:=hK.bK h6
  rw[kb,zT YX]at this
  rw[<-A_ YX]
  exact decide_eq_true this
 have I9:=bQ YX
 have hBo:=hko _ (List.getElem_mem YX)
 have hBp:=zT YX
 generalize hBe:kept[n.b.toNat]=Bn at*
 have hLo:∀m∈[A,Bn,jI n 0 1],m.ok w/\m.small:=λm hm=>by
  simp only[List.mem_cons,List.not_mem_nil,or_false]at hm
  rcases hm with rfl|rfl|rfl
  ·exact hAo
  ·exact hBo
  ·exact⟨Wy hno ol SG,hns.data,hns.aG⟩
 obtain⟨hG1,hG2,hG3⟩:=YZ hR hm hK h1 h2 (g:=(bE.mk none 0 [A,Bn,jI n 0 1] 2)) (by unfold Tj;rw[if_pos (show n.pl.kind=6 from h6),ka,hAp,kb,hBp];rfl) (by unfold DN;rw[if_pos (show n.pl.kind=6 from h6)])
 have hG2:gD (check (bE.mk none 0 [A,Bn,jI n 0 1] 2)).2 2=s:=hG2
 have hG4:(check (bE.mk none 0 [A,Bn,jI n 0 1] 2)).2.length=3:=(gX hG1).2.2.2.1
 refine fq Tryz.func55 [.c (.pointer (some ⟨b,0,none⟩)),.agg (jM n)] ?_
 (repeat' ((conv=>whnf)<;>first|refine akR ?_|(show aC _ 109 [_,ak n.b] ..;refine aJ (f:=109) Tryz.call109 (.bool true) (λρ w' hw=>pY (ae hw λR h=>hd.later h) hb0 YX hkB) ?_)|(show jd _ ((_,.rows (List.take 1 _++_) _ _)::_) _ _ _;refine iG (ys:=bq [A,Bn]) (m:=2) ?_ rfl rfl)|(show jd _ ((_,.rows (List.take 2 _++_) _ _)::_) _ _ _;refine iG (ys:=bq [A,Bn,jI n 0 1]) (m:=3) ?_ rfl rfl)|(show sH ..;refine fO (of_decide_eq_true rfl) ?_)|(show iK ..;(first|refine gm (List.Sublist.cons _ (List.Sublist.cons _ (List.Sublist.refl _))) (λ_ _ h=>h) ?_|refine gm (List.Sublist.cons _ (List.Sublist.cons_cons _ (List.Sublist.cons _ (List.Sublist.refl _)))) (λ_ _ h=>h) ?_|refine gm (List.Sublist.cons _ (List.Sublist.refl _)) (λ_ _ h=>h) ?_))|(show cO _ 6 ..;(first|(show cO _ 6 _ _ ((_,.rows _ _ _)::_) _ _ _;refine uD fA mixed [14,15,16] _ aim jf jf jf (List.Sublist.cons _ (List.Sublist.refl _)) ?_)|(show cO _ 6 _ _ ((_,.box _ _)::_) _ _ _;refine uD fA mixed [14,15,16] _ aim jf jf jf (List.Sublist.cons_cons _ (List.Sublist.cons _ (List.Sublist.refl _))) ?_)))|refine akS ?_|(show bC ..;(first|refine ax na n.a.toNat hna aa Hz ?_|refine ax na n.b.toNat hna aa YX ?_))|(show iM ..;(first|refine dO (λR w' h=>by rw[<-hna];exact au h hd.nodes) _ hrow rfl ?_|refine dO (λR w' h=>by rw[<-hna];exact au h hd.nodes) _ I9 rfl ?_))|(show fG ..;refine b_ (of_decide_eq_true rfl) ?_)|(show cO _ 3 ..;refine mE [12] _ ail ?_)|refine aN ?_|refine ag ?_ ?_<;>intro _|refine And.intro ?_ ?_))
 all_goals(conv=>whnf)
 all_goals refine oL (f:=24) (check (bE.mk none 0 [A,Bn,jI n 0 1] 2)) Tryz.call24 (λρ w' hw=>pu w' ⟨(ρ 7).base,(ρ 7).cap,[A,Bn,jI n 0 1],2⟩ ⟨ed hw List.mem_cons_self,λm hm=>ae hw λR h=>(hLo m hm).1.later h,λm hm=>(hLo m hm).2,show 3<=1000000 by decide,Y5⟩) (λhne=>absurd hG1 hne) (λ_ sv hmv hsv=> ?_)
 all_goals
  have hsl:sv.l.length=3:=by rw[<-List.length_map (f:=λu:aj=>u.xs),hmv];exact hG4
  have hs1:2<sv.l.length:=by omega
  have hsx:sv.l[2].xs=s:=by
   rw[<-hG2,<-hmv]
   unfold gD
   rw[List.getD_eq_getElem?_getD,List.getElem?_map,List.getElem?_eq_getElem hs1];rfl
  (repeat' ((conv=>whnf)<;>first|fail))
 all_goals refine Wp.know (p:=∃a,sv.base=some a) (λρ w' hw=>ae hw λR h=>aI (j:=2) (aO h.2.1) Pq) ?_
 all_goals
  rintro⟨sa,hsa⟩
  refine Wp.go fA rfl ?_
  (repeat' ((conv=>whnf)<;>first|(show aC _ 110 ..;refine Tq (f:=110) (Mv (bE.mk none 0 [A,Bn,jI n 0 1] 2) []) Tryz.call110 (λρ w' hw=>YT w' ⟨(ρ 7).base,(ρ 7).cap,[A,Bn,jI n 0 1],2⟩ ⟨ed hw List.mem_cons_self,λm hm=>ae hw λR h=>(hLo m hm).1.later h.1,λm hm=>(hLo m hm).2,show 3<=1000000 by decide,Y5⟩ ⟨none,0,[]⟩ ⟨.inl rfl,λu hu=>by simp at hu,Nat.le_refl _,Nat.zero_le _⟩) (λhne=>absurd (by rw[hG3]) hne) (λ_ x hx hxs=> ?_))|(show bC ..;refine ax sa 2 hsa rfl hs1 ?_)|refine akT ?_|refine aN ?_))
 all_goals(conv=>whnf)
 all_goals exact Ou (λR w' h=>h.1.1) rfl hsx (hsv _ (List.getElem_mem hs1)) (by rw[hx,hG3]) hxs (λ_=>rfl) (λR w' h=>h.1.2.2 _ (List.getElem_mem hs1)) (λR w' h=>h.2)
end
end
abbrev alL:Go.SX.DT:=(eF [0,1,3,4,6,7,102,9,105,108,110,111,112,113,114] .done)
abbrev ain:Go.SX.DT:=(eF [0,1,2,3,4,5,6,107,108,109,110,11,112] .done)
section
variable {N nx d k n0:Nat} {l kept:List ai} {R:Nat->Prop} {w:World} {f:FuncId} {H:Heap} {S:bJ} {K:SV->Heap->bJ->Nat->Prop} {B:Base} {ρ:Nat->SX.Loc} {st:List Nat} {T:TypeId} {v u:Value} {row:List aP} {e6 e5 e1 e0:bU} {m:ai}
def Ov(n:ai):bJ:=(vY n.shape).and ((vY n.data).and (vY n.aG))
def KL(N:Nat)(l:List ai):bJ where
 holds R w:=∀n∈l,((Ov n).past N).holds R w
 stable:=λhR hw h n hn=>((Ov n).past N).stable hR hw (h n hn)
theorem aav(N:Nat)(R:Nat->Prop)(w:World):(KL N []).holds R w:=λn hn=>by simp at hn
theorem KM{n:ai}(h:(KL N l).holds R w)(hn:((Ov n).past N).holds R w):(KL N (l++[n])).holds R w:=λm hm=>by
 rcases List.mem_append.1 hm with hm|hm
 ·exact h m hm
 ·rw[List.mem_singleton.1 hm];exact hn
structure ai.iI(n:ai):Prop where
 shape:n.shape.a_
 data:n.data.a_
 aG:n.aG.a_
 jJ:i64 n.kind
 p9:i64 n.a
 nQ:i64 n.b
 kE:i64 n.lo
 kF:i64 n.hi
 jK:i64 n.size
theorem ai.ok.iI{n:ai}(h:n.ok w):n.iI:=⟨h.shape.a_,h.data.a_,h.aG.a_,h.jJ,h.p9,h.nQ,h.kE,h.kF,h.jK⟩
def wD(l:List ai):Prop:=∀n∈l,n.iI/\n.small
theorem adN{n:ai}(hs:n.iI)(h:((Ov n).past N).holds R w):n.ok w:=
 ⟨bP hs.shape (A9 h.1),bP hs.data (A9 h.2.1),bP hs.aG (A9 h.2.2),hs.jJ,hs.p9,hs.nQ,hs.kE,hs.kF,hs.jK⟩
theorem C_(hk:wD l)(h:(KL N l).holds R w):∀n∈l,n.ok w/\n.small:=λn hn=>⟨adN (hk n hn).1 (h n hn),(hk n hn).2⟩
theorem zU{cx:Cx}{args:List SV}(xs:List Int)(hf:∀ar w,(callFunc f ar).run cx.P w= .ok (.enter f ar) w)
 (hc:∀ρ w',dY cx.B ρ nx H S w'->Calls cx.P f (SV.d_ ρ args).toArray w' (Om w' xs))
 (h:∀u:aj,u.xs=xs->u.a_->K (.c u.val) H (S.and ((vY u).past cx.B.w0.heap.size)) nx):aC cx f args H S nx K:=
 gP hf aj.val vY (λu=>u.xs=xs/\u.a_) hc (λu hu=>h u hu.1 hu.2)
theorem zk{i j:Nat}{out:Int}{T1 T2:TypeId}(hw:dY B ρ nx H S w)(hd:(d,bU.box [.os i kept.length,ak out,.os j st.length] T)∈H)(hi:(i,bU.rows (bq kept) 9 T1)∈H)(hj:(j,bU.rows (ints (p_ st)) 1 T2)∈H):
 ∃b,(SV.lp d 0 0 0).rf ρ= .pointer (some ⟨b,0,none⟩)/\m_ w b (ρ i).base (ρ i).cap kept (ρ j).base (ρ j).cap (p_ st):=by
 have hn:=ed hw hi
 have hs:=ed hw hj
 obtain⟨R,φ,nW⟩:=hw
 obtain⟨b,h1,h2,h3⟩:=nW.kS _ hd
 simp only at h1
 refine⟨b,by simp[SV.rf,h1,fQ],?_,?_,hn,hs⟩
 ·simp[World.cell?,h3,SV.d_,SV.rf]
 ·simp[World.cell?,h3,SV.d_,SV.rf,p_]
theorem Ay{P:Program}{Q:Ending->World->Prop}{b:Nat}(e:v= .pointer (some ⟨b,0,none⟩))(h:Calls P f #[.pointer (some ⟨b,0,none⟩),u] w Q):Calls P f #[v,u] w Q:=e▸h
theorem Y6{n:ai}(hw:dY B ρ nx H S w)(hd:(d,bU.box (cs n.cells) T)∈H):∃c,(SV.lp d 0 0 0).rf ρ= .pointer (some ⟨c,0,none⟩)/\bf w (some ⟨c,0,none⟩) 9 (bq [n]):=by
 obtain⟨R,φ,nW⟩:=hw
 obtain⟨b,h1,h2,h3⟩:=nW.kS _ hd
 simp only at h1
 rw[uO]at h3
 refine⟨b,by simp[SV.rf,h1,fQ],.inr ⟨_,rfl,λi r hi j v hj=> ?_⟩⟩
 cases i with
 |zero=>
  obtain rfl:n.cells=r:=by simpa[bq]using hi
  rw[fQ]
  simp[World.cell?,h3,hj]
 |succ i=>simp[bq]at hi
theorem yG{P:Program}{g:FuncId}{Q:Ending->World->Prop}{c:Nat}(e:v= .pointer (some ⟨c,0,none⟩))(h:Calls P f #[u,.func (.func g) #[] #[.pointer (some ⟨c,0,none⟩)]] w Q):Calls P f #[u,.func (.func g) #[] #[v]] w Q:=e▸h
theorem aaw{n:aP}(h:xu n row 0=some k):Mw n row=k:=by unfold Mw;rw[h]
theorem aax{n:aP}(h:xu n row 0=none):Mw n row= -1:=by unfold Mw;rw[h]
theorem Da(st:List Nat)(k:Nat):List.take st.length (ints (p_ st))++[[.int .i64 (k:Int)]]=ints (p_ (st++[k])):=by
 rw[List.take_of_length_le (by rw[aF];simp[p_])]
 simp[p_,ints]
theorem mO(st:List Nat):(ints (p_ st)).length=st.length:=by rw[aF];simp[p_]
theorem Ow(hmo:∀R w',S.holds R w'->m.ok w')(hko:∀R w',S.holds R w'->∀k∈kept,k.ok w')(h1:kept.length<=24)(h2:st.length<=24)(hf:j4 (kept.map ai.pl) m.pl=some k)
 (h:∀e8 e7,K (.sI []) [(9,.rows (ints (p_ (st++[k]))) 1 3),(8,e8),(7,e7),(6,e6),(5,e5),(3,.rows (bq kept) 9 41),(2,.box [.os 3 kept.length,ak 0,.os 9 (st++[k]).length] 108),(1,e1),(0,e0)] S 10):aC ⟨Tryz.prog,⟨w,[]⟩,n0,tab⟩ 56 [.lp 2 0 0 0,.agg [ak m.kind,ak m.a,ak m.b,.c m.shape.val,ak m.lo,ak m.hi,ak m.size,.c m.data.val,.c m.aG.val]] [(6,e6),(5,e5),(4,.rows (ints (p_ st)) 1 3),(3,.rows (bq kept) 9 41),(2,.box [.os 3 kept.length,ak 0,.os 4 st.length] 108),(1,e1),(0,e0)] S 7 K:=by
 obtain⟨hk1,hk⟩:=Cv hf
 have hkl:k<kept.length:=by have:=(List.getElem?_eq_some_iff.1 hk).1;rwa[List.length_map]at this
 have apL:m.kind≠1:=hk1
 have hi:xu m.pl (kept.map ai.pl) 0=some k:=by unfold j4 at hf;rw[if_neg hk1]at hf;exact hf
 refine o5 fA Tryz.func56 rfl rfl rfl Tryz.call56 rfl (by show 2<=_;decide) ?_
 (repeat' ((conv=>whnf)<;>first|(show aC _ 111 ..;(refine aJ (f:=111) Tryz.call111 (.int .i64 k) (λρ w' hw=>by obtain⟨c,e,hc⟩:=Y6 (n:=m) (d:=7) hw aQ;have:=BN w' m c (ae hw λR h=>hmo R w' h) hc (ρ 3).base (ρ 3).cap kept (ed hw aQ) (ae hw λR h=>hko R w' h) aa;rw[aaw hi]at this;exact yG e this) ?_))|(show jd _ ((_,.rows (List.take st.length _++_) _ _)::_) _ _ _;refine iG (ys:=ints (p_ (st++[k]))) (m:=(st++[k]).length) ?_ (Da st k) ahJ)|(show sH ..;(refine fO acI ?_))|(show fG ..;(refine b_ ahM ?_))|refine aN ?_|refine ag ?_ ?_<;>intro _))
 all_goals(conv=>whnf)
 all_goals exact C9 (h _ _)
def wE(m:ai)(u1 u2 u3:aj):ai:=⟨m.kind,m.a,m.b,u1,m.lo,m.hi,m.size,u2,u3⟩
theorem lT(l:List ai)(n:ai):List.take l.length (bq l)++[n.cells]=bq (l++[n]):=by
 rw[List.take_of_length_le (by rw[dB];exact Nat.le_refl _)]
 simp[bq]
theorem Y7(hmo:∀R w',S.holds R w'->m.ok w')(hko:∀R w',S.holds R w'->∀k∈kept,k.ok w')(h1:kept.length<=24)(h2:st.length<=24)(hf:j4 (kept.map ai.pl) m.pl=none)
 (h:∀e10 e8 e7 u1 u2 u3,u1.xs=m.shape.xs->u1.a_->u2.xs=m.data.xs->u2.a_->u3.xs=m.aG.xs->u3.a_->K (.sI []) [(11,.rows (ints (p_ (st++[kept.length]))) 1 3),(10,e10),(9,.rows (bq (kept++[wE m u1 u2 u3])) 9 41),(8,e8),(7,e7),(6,e6),(5,e5),(2,.box [.os 9 (kept++[wE m u1 u2 u3]).length,ak 0,.os 11 (st++[kept.length]).length] 108),(1,e1),(0,e0)] (((S.and ((vY u1).past w.heap.size)).and ((vY u2).past w.heap.size)).and ((vY u3).past w.heap.size)) 12):aC ⟨Tryz.prog,⟨w,[]⟩,n0,tab⟩ 56 [.lp 2 0 0 0,.agg [ak m.kind,ak m.a,ak m.b,.c m.shape.val,ak m.lo,ak m.hi,ak m.size,.c m.data.val,.c m.aG.val]] [(6,e6),(5,e5),(4,.rows (ints (p_ st)) 1 3),(3,.rows (bq kept) 9 41),(2,.box [.os 3 kept.length,ak 0,.os 4 st.length] 108),(1,e1),(0,e0)] S 7 K:=by
 have hi:m.kind≠1->xu m.pl (kept.map ai.pl) 0=none:=λhk1=>by unfold j4 at hf;rw[if_neg (show¬m.pl.kind=1 from hk1)]at hf;exact hf
 by_cases hk1:m.kind=1
 all_goals
  refine o5 fA Tryz.func56 rfl rfl rfl Tryz.call56 rfl (by show 2<=_;decide) ?_
  (repeat' ((conv=>whnf)<;>first|(show aC _ 111 ..;(refine aJ (f:=111) Tryz.call111 (.int .i64 (-1)) (λρ w' hw=>by obtain⟨c,e,hc⟩:=Y6 (n:=m) (d:=7) hw aQ;have:=BN w' m c (ae hw λR h=>hmo R w' h) hc (ρ 3).base (ρ 3).cap kept (ed hw aQ) (ae hw λR h=>hko R w' h) aa;rw[aax (hi hk1)]at this;exact yG e this) ?_))|(show cO _ 6 ..;refine mE [10,11,12,13,14] _ alL ?_)|(show iK ..;(first|refine gm (List.Sublist.refl _) (λ_ _ h=>h.1) ?_|refine gm (List.Sublist.refl _) (λ_ _ h=>h.1.1) ?_|refine gm (List.Sublist.refl _) (λ_ _ h=>h.1.1.1) ?_|refine gm (List.Sublist.refl _) (λ_ _ h=>h) ?_))|(show aC _ 32 [.c m.shape.val] ..;refine zU m.shape.xs Tryz.call32 (λρ w' hw=>CF w' m.shape (ae hw λR h=>(hmo R w' h).shape)) (λu1 hu1 hs1=> ?_))|(show aC _ 32 [.c m.data.val] ..;refine zU m.data.xs Tryz.call32 (λρ w' hw=>CF w' m.data (ae hw λR h=>(hmo R w' h.1).data)) (λu2 hu2 hs2=> ?_))|(show aC _ 32 [.c m.aG.val] ..;refine zU m.aG.xs Tryz.call32 (λρ w' hw=>CF w' m.aG (ae hw λR h=>(hmo R w' h.1.1).aG)) (λu3 hu3 hs3=> ?_))|refine aN ?_|refine ag ?_ ?_<;>intro _))
 all_goals(conv=>whnf)
 all_goals refine uD fA mixed [12] _ ain jf jf jf (List.Sublist.cons_cons _ (List.Sublist.cons_cons _ (List.Sublist.cons_cons _ (List.Sublist.cons_cons _ (List.Sublist.cons _ (List.Sublist.refl _)))))) ?_
 all_goals
  (repeat' ((conv=>whnf)<;>first|(show jd _ ((_,.rows (List.take kept.length _++_) _ _)::_) _ _ _;refine iG (ys:=bq (kept++[wE m u1 u2 u3])) (m:=(kept++[wE m u1 u2 u3]).length) ?_ (lT kept (wE m u1 u2 u3)) (by show kept.length+1=_;rw[List.length_append];rfl))|(show jd _ ((_,.rows (List.take st.length _++_) _ _)::_) _ _ _;refine iG (ys:=ints (p_ (st++[kept.length]))) (m:=(st++[kept.length]).length) ?_ (Da st kept.length) ahJ)|(show sH ..;(first|refine fO (by rw[dB];exact Nat.le_refl _) ?_|refine fO acI ?_))|(show fG ..;(first|refine b_ (by show(kept.length+1)*120<=140737488355328;omega) ?_|refine b_ ahM ?_))|(show iK ..;(first|refine gm (List.Sublist.cons _ (List.Sublist.cons _ (List.Sublist.refl _))) (λ_ _ h=>h) ?_|refine gm (List.Sublist.cons _ (List.Sublist.cons_cons _ (List.Sublist.cons_cons _ (List.Sublist.cons_cons _ (List.Sublist.cons_cons _ (List.Sublist.cons _ (List.Sublist.refl _))))))) (λ_ _ h=>h) ?_))|refine aN ?_))
 all_goals(conv=>whnf)
 all_goals exact C9 (h _ _ _ u1 u2 u3 hu1 hs1 hu2 hs2 hu3 hs3)
end
theorem j6{a:Addr}{j:Nat}{S:bJ}{xs:List Int}{v:Int}{K:SV->Prop}(hx:∀R w,S.holds R w->bf w (some a) 1 (ints xs))(hj:j<xs.length)(e:xs.getD j 0=v)(h:K (ak v)):fu (a.add (j*1)) S K:=by
 subst e;exact bO hx hj h
structure oq where
 lo:Int
 hi:Int
 slots:aj
def oq.cells(x:oq):List Value:=[.int .i64 x.lo,.int .i64 x.hi,x.slots.val]
def oq.pl(x:oq):aap:=⟨x.lo,x.hi,x.slots.xs⟩
structure cZ where
 inputs:List oq
 ay:List aj
 code:List oN
def cZ.pl(s:cZ):fF:=⟨s.inputs.map oq.pl,s.ay.map aj.xs,s.code⟩
def uP(x:oN):List Value:=[.int .i64 x.op,.int .i64 x.to_,.int .i64 x.a,.int .i64 x.b,.int .i64 x.k]
def iE(l:List oN):List (List Value):=l.map uP
def iF(l:List oq):List (List Value):=l.map oq.cells
theorem mP(l:List oN):(iE l).length=l.length:=by simp[iE]
theorem mQ(l:List oq):(iF l).length=l.length:=by simp[iF]
theorem Tu(l:List oN)(x:oN):List.take l.length (iE l)++[uP x]=iE (l++[x]):=by
 rw[List.take_of_length_le acF];simp[iE]
theorem Tv(l:List oq)(x:oq):List.take l.length (iF l)++[x.cells]=iF (l++[x]):=by
 rw[List.take_of_length_le acG];simp[iF]
theorem D5(l:List aj)(x:aj):List.take l.length (aM l)++[[x.val]]=aM (l++[x]):=by
 rw[List.take_of_length_le Pp];simp[aM]
structure dM where
 slots:Nat
 giant:Bool
 shapes:aY
 bH:aY
def WC(c:dM)(s:cZ)(nv:Nat):List SV:=[ak c.slots,.os 2 s.inputs.length,.os 3 s.ay.length,.os 4 s.code.length,ak 0,.c (.slice none 0 0),.c (.bool c.giant),.c c.shapes.val,.c c.bH.val,.os 1 nv]
abbrev kR(c:dM)(s:cZ)(val:List Int):Heap:=[(0,.box (WC c s val.length) 71),(1,.rows (ints val) 1 3),(2,.rows (iF s.inputs) 3 92),(3,.rows (aM s.ay) 1 32),(4,.rows (iE s.code) 5 43)]
def cu(s:cZ)(op a b k:Int):cZ:=⟨s.inputs,s.ay,s.code++[oN.mk op s.code.length a b k]⟩
def dP(l:List aj):bJ where
 holds R w:=∀u∈l,(bn u).holds R w
 stable:=λhR hw h u hu=>(bn u).stable hR hw (h u hu)
theorem WE{l:List aj}{u:aj}{R:Nat->Prop}{w:World}(h:(dP l).holds R w)(hu:(bn u).holds R w):(dP (l++[u])).holds R w:=λv hv=>by
 rcases List.mem_append.1 hv with hv|hv
 ·exact h v hv
 ·rw[List.mem_singleton.1 hv];exact hu
abbrev Ba{α:Type}(w:World)(ρ:Nat->SX.Loc)(F:Nat->Prop)(val:α->SV)(H1:α->Heap)(D:α->bJ)(p:α->Prop):=yH w ρ F 2 5 val H1 D p
theorem gN(c:dM)(s:cZ)(vl:List Int)(op a b k:Int)(hl:s.code.length<=1000000)(w:World)(ρ:Nat->SX.Loc)(F:Nat->Prop)(h:iW w ρ F 2 5 (kR c s vl) dW):
 Calls Tryz.prog 68 (SV.d_ ρ [.lp 0 0 0 0,ak op,ak a,ak b,ak k]).toArray w (Ba w ρ F (λ_:Unit=>ak s.code.length) (λ_=>kR c (cu s op a b k) vl) (λ_=>dW) (λ_=>True)):=by
 refine Es Tryz.func68 (mq 2 ρ) ρ [.lp 0 0 0 0,ak op,ak a,ak b,ak k] (kR c s vl) (dW.and (f_ w F)) 5 h.abs ?_
 (repeat' ((conv=>whnf)<;>first|(show sH ..;(refine fO acF ?_))|(show fG ..;(refine b_ ahD ?_))|(show jd _ ((_,.rows (List.take s.code.length _++_) _ _)::_) _ _ _;refine iG (ys:=iE (s.code++[oN.mk op s.code.length a b k])) (m:=(s.code++[oN.mk op s.code.length a b k]).length) ?_ (Tu s.code (oN.mk op s.code.length a b k)) ahE)|refine aN ?_))
 all_goals(conv=>whnf)
 all_goals exact eU _ _ _ _ () [(4,some 6)] trivial aS rfl rfl rfl rfl aU (λR w' h=>⟨h.2,trivial⟩)
theorem Gg(w:World)(p row:aj)(c:Nat)(hp:p.ok w)(hr:row.ok w)(hc:w.cell? ⟨c,0,none⟩=some row.val):Calls Tryz.prog 156 #[p.val,.pointer (some ⟨c,0,none⟩)] w λe w'=>e= .returned (.bool (decide (p.xs=row.xs)))/\Ext w w':=by
 refine fq Tryz.func156 [.c p.val,.c (.pointer (some ⟨c,0,none⟩))] ?_
 (repeat' ((conv=>whnf)<;>first|(show fu ..;(refine pX (λR w' h=>by rw[jw (h _ (iN hc)).2];exact hc) ?_))|(show aC _ 62 ..;refine aJ (f:=62) Tryz.call62 (.bool (decide (p.xs=row.xs))) (λρ w' hw=>qY w' p row (ae hw λR h=>hp.later h) (ae hw λR h=>hr.later h)) ?_)|refine aN ?_))
 all_goals(conv=>whnf)
 all_goals exact aX (λ_ _ h=>h) rfl rfl
def Tw(r:List Int)(l:List (List Int)):Int:=match Cw r l 0 with|some k=>k|none=> -1
theorem Ox{r x:List Int}{l:List (List Int)}{k:Nat}:Cw r (x::l) k=if x=r then some k else Cw r l (k+1):=rfl
theorem Qp(w:World)(row:aj)(c:Nat)(hr:row.ok w)(hc:w.cell? ⟨c,0,none⟩=some row.val)(nb:Option Addr)(nc:Nat)(l:List aj)(hl:bf w nb 1 (aM l))(ho:∀u∈l,u.ok w)(nX:l.length<=1000000):
 Calls Tryz.prog 154 #[.slice nb l.length nc,.func (.func 156) #[] #[.pointer (some ⟨c,0,none⟩)]] w λe w'=>e= .returned (.int .i64 (Tw row.xs (l.map aj.xs)))/\Ext w w':=by
 refine fq Tryz.func154 [.c (.slice nb l.length nc),.c (.func (.func 156) #[] #[.pointer (some ⟨c,0,none⟩)])] ?_
 (repeat' ((conv=>whnf)<;>first|refine aN ?_|refine ag ?_ ?_<;>intro _))
 refine Wp.loop (σ:=Nat) 0 (λk=>[(0,.c (.slice nb l.length nc)),(1,.c (.func (.func 156) #[] #[.pointer (some ⟨c,0,none⟩)])),(7,ak l.length),(8,ak k)]) (λ_=>[]) (λ_=>aH w)
  (λk=>k<=l.length/\Cw row.xs ((l.drop k).map aj.xs) k=Cw row.xs (l.map aj.xs) 0) (λk=>l.length-k) 0 [] aS (λs=>⟨rfl,rfl⟩) ⟨by simp,rfl⟩ ⟨rfl,aU,trivial,λR w' h=>h⟩ ?_
 rintro k ⟨hkl,he⟩
 by_cases hlt:k<l.length
 ·obtain⟨a,ha⟩:∃a,nb=some a:=aI (j:=k) hl Pq
  rw[List.drop_eq_getElem_cons hlt,List.map_cons,Ox]at he
  have hrow:=dh hlt
  have hxo:=ho _ (List.getElem_mem hlt)
  generalize l[k]=x at*
  by_cases hs:x.xs=row.xs
  ·rw[if_pos hs]at he
   (repeat' ((conv=>whnf)<;>first|(show bC ..;refine ax a k ha rfl hlt ?_)|(show fu ..;(refine aW (λR w' h=>by rw[<-ha];exact au h hl) _ _ hrow rfl ?_))|(show aC _ 156 ..;(refine aJ (f:=156) Tryz.call156 (.bool true) (λρ w' hw=>by have:=Gg w' x row c (ae hw λR h=>hxo.later h) (ae hw λR h=>hr.later h) (ae hw λR h=>by rw[jw (h _ (iN hc)).2];exact hc);rw[decide_eq_true hs]at this;exact this) ?_))|refine aN ?_|refine ag ?_ ?_<;>intro _))
   all_goals(conv=>whnf)
   all_goals exact bW (λ_ _ h=>h) (λ_=>by unfold Tw;rw[<-he];rfl) rfl
  ·rw[if_neg hs]at he
   (repeat' ((conv=>whnf)<;>first|(show bC ..;refine ax a k ha rfl hlt ?_)|(show fu ..;(refine aW (λR w' h=>by rw[<-ha];exact au h hl) _ _ hrow rfl ?_))|(show aC _ 156 ..;(refine aJ (f:=156) Tryz.call156 (.bool false) (λρ w' hw=>by have:=Gg w' x row c (ae hw λR h=>hxo.later h) (ae hw λR h=>hr.later h) (ae hw λR h=>by rw[jw (h _ (iN hc)).2];exact hc);rw[decide_eq_false hs]at this;exact this) ?_))|refine aN ?_|refine ag ?_ ?_<;>intro _))
   all_goals(conv=>whnf)
   all_goals exact⟨k+1,[],⟨hlt,he⟩,by omega,rfl,aU,trivial,λR w' h=>h⟩
 ·rw[List.drop_of_length_le aa]at he
  (repeat' ((conv=>whnf)<;>first|refine aN ?_|refine ag ?_ ?_<;>intro _))
  conv=>whnf
  exact bW (λ_ _ h=>h) (λ_=>by unfold Tw;rw[<-he];rfl) rfl
def az(s:cZ)(u:aj):cZ×Int:=match Cw u.xs (s.ay.map aj.xs) 0 with
 |some k=>(s,k)
 |none=>(⟨s.inputs,s.ay++[u],s.code⟩,s.ay.length)
theorem Bb(s:cZ)(u:aj):((az s u).1.pl,(az s u).2)=fZ s.pl u.xs:=by
 unfold az fZ
 have e:s.pl.ay=s.ay.map aj.xs:=rfl
 rw[e]
 cases Cw u.xs (s.ay.map aj.xs) 0 with
 |some k=>rfl
 |none=>
  show((⟨_,_,_⟩:fF),_)=((⟨_,_,_⟩:fF),_)
  rw[List.map_append,List.length_map];rfl
theorem Tx{B:Base}{ρ:Nat->SX.Loc}{nx:Nat}{H:Heap}{S:bJ}{w:World}{d:Nat}{v:Value}{T:TypeId}(hw:dY B ρ nx H S w)(hd:(d,bU.box [.c v] T)∈H):∃c,(SV.lp d 0 0 0).rf ρ= .pointer (some ⟨c,0,none⟩)/\w.cell? ⟨c,0,none⟩=some v:=by
 obtain⟨R,φ,nW⟩:=hw
 obtain⟨b,h1,h2,h3⟩:=nW.kS _ hd
 simp only at h1
 exact⟨b,by simp[SV.rf,h1,fQ],by simp[World.cell?,h3,SV.d_,SV.rf]⟩
theorem uG(c:dM)(s:cZ)(vl:List Int)(u:aj)(hu:u.a_)(hs:∀p∈s.ay,p.a_)(hl:s.ay.length<=1000000)(w:World)(ρ:Nat->SX.Loc)(F:Nat->Prop)(h:iW w ρ F 2 5 (kR c s vl) ((dP s.ay).and (bn u))):
 Calls Tryz.prog 130 (SV.d_ ρ [.lp 0 0 0 0,.c u.val]).toArray w (Ba w ρ F (λ_:Unit=>ak (az s u).2) (λ_=>kR c (az s u).1 vl) (λ_=>dW) (λ_=>True)):=by
 have hix:∀w' c nb nc,w'.cell? ⟨c,0,none⟩=some u.val->bf w' nb 1 (aM s.ay)->(∀p∈s.ay,p.ok w')->u.ok w'->Calls Tryz.prog 154 #[.slice nb s.ay.length nc,.func (.func 156) #[] #[.pointer (some ⟨c,0,none⟩)]] w' λe w''=>e= .returned (.int .i64 (Tw u.xs (s.ay.map aj.xs)))/\Ext w' w'':=λw' c nb nc h1 h2 h3 h4=>Qp w' u c h4 h1 nb nc s.ay h2 h3 hl
 refine Es Tryz.func130 (mq 2 ρ) ρ [.lp 0 0 0 0,.c u.val] (kR c s vl) (((dP s.ay).and (bn u)).and (f_ w F)) 5 h.abs ?_
 unfold az
 cases hf:Cw u.xs (s.ay.map aj.xs) 0 with
 |some k=>
  have hz:Tw u.xs (s.ay.map aj.xs)=k:=by unfold Tw;rw[hf]
  rw[hz]at hix
  (repeat' ((conv=>whnf)<;>first|(show aC _ 154 ..;(refine aJ (f:=154) Tryz.call154 (.int .i64 k) (λρ w' hw=>by obtain⟨c,e,hc⟩:=Tx (d:=5) hw aQ;exact yG e (hix w' c (ρ 3).base (ρ 3).cap hc (ed hw aQ) (ae hw λR h=>λp hp=>bP (hs p hp) (h.1.1 p hp)) (ae hw λR h=>bP hu h.1.2))) ?_))|(show @dR _ _ _;refine cK aa ?_)|refine aN ?_))
  all_goals(conv=>whnf)
  all_goals exact eU _ _ _ _ () [] trivial aS rfl rfl rfl rfl aU (λR w' h=>⟨h.2,trivial⟩)
 |none=>
  have hz:Tw u.xs (s.ay.map aj.xs)= -1:=by unfold Tw;rw[hf]
  rw[hz]at hix
  (repeat' ((conv=>whnf)<;>first|(show aC _ 154 ..;(refine aJ (f:=154) Tryz.call154 (.int .i64 (-1)) (λρ w' hw=>by obtain⟨c,e,hc⟩:=Tx (d:=5) hw aQ;exact yG e (hix w' c (ρ 3).base (ρ 3).cap hc (ed hw aQ) (ae hw λR h=>λp hp=>bP (hs p hp) (h.1.1 p hp)) (ae hw λR h=>bP hu h.1.2))) ?_))|(show @dR _ _ _;refine bA aS ?_)|(show cO _ 4 ..;refine mE [12] _ ain ?_ (h6:=List.Sublist.cons_cons _ (List.Sublist.cons_cons _ (List.Sublist.cons_cons _ (List.Sublist.cons_cons _ (List.Sublist.cons _ (List.Sublist.refl _)))))))|(show iK ..;(first|refine gm (List.Sublist.cons _ (List.Sublist.cons _ (List.Sublist.refl _))) (λ_ _ h=>h) ?_|refine gm (List.Sublist.cons _ (List.Sublist.cons_cons _ (List.Sublist.cons_cons _ (List.Sublist.cons_cons _ (List.Sublist.cons_cons _ (List.Sublist.cons _ (List.Sublist.refl _))))))) (λ_ _ h=>h) ?_|refine gm (List.Sublist.refl _) (λ_ _ h=>h) ?_))|(show sH ..;(refine fO Pp ?_))|(show fG ..;(refine b_ ahz ?_))|(show jd _ ((_,.rows (List.take s.ay.length _++_) _ _)::_) _ _ _;refine iG (ys:=aM (s.ay++[u])) (m:=(s.ay++[u]).length) ?_ (D5 s.ay u) ahA)|refine aN ?_))
  all_goals(conv=>whnf)
  all_goals exact eU _ _ _ _ () [(3,some 7)] trivial aS rfl rfl rfl rfl aU (λR w' h=>⟨h.2,trivial⟩)
section
variable {H:Heap} {S:bJ} {nx:Nat} {K:SV->Heap->bJ->Nat->Prop}
theorem su{cx:Cx}{f:FuncId}{args:List SV}{α:Type}(θ:Map)(c:dM)(s:cZ)(vl:List Int)(A:bJ)(nT:List SV)(val:α->SV)(s':α->cZ)(D:α->bJ)(p:α->Prop)
 (hf:∀ar w,(callFunc f ar).run cx.P w= .ok (.enter f ar) w) (hm:vR 0 θ (kR c s vl)=true) (hin:kL θ H (kR c s vl))
 (h0:∃j,θ.app 0=some j) (h1:∃j,θ.app 1=some j) (ha:args=SV.tQ θ.app nT) (hA:∀R w,S.holds R w->A.holds R w) (G:Nat->Prop) (hG:∀R w,S.holds R w->∀b,G b->R b)
 (hc:∀w ρ F,iW w ρ F 2 5 (kR c s vl) A->Calls cx.P f (SV.d_ ρ nT).toArray w (Ba w ρ F val (λx=>kR c (s' x) vl) D p))
 (h:∀x,p x->K ((val x).ren (xA 2 nx θ)) (tF θ (kR c s vl) H++MC (xA 2 nx θ) (kR c (s' x) vl)) (S.and ((D x).off G)) (nx+5)):aC cx f args H S nx K:=by
 refine zV θ 2 5 (kR c s vl) A nT val (λx=>kR c (s' x) vl) D p hf hm rfl hin (λi hi=> ?_) aS ha hA G hG hc h
 have:i=0\/i=1:=by omega
 rcases this with rfl|rfl
 ·obtain⟨j,hj⟩:=h0
  exact⟨j,_,hj,aQ⟩
 ·obtain⟨j,hj⟩:=h1
  exact⟨j,_,hj,aQ⟩
theorem rq{i n:Nat}(xs:List Int){R0:List (List Value)}{T:TypeId}(G:Nat->Prop)(hG:∀R w,S.holds R w->∀b,G b->R b)(he:R0=ints xs)(hn:n=xs.length)(hf:∀x∈xs,i64 x)(hl:xs.length<=1000000)(h:∀u:aj,u.xs=xs->u.a_->K (.c u.val) H (S.and ((bn u).off G)) nx):jd (.os i n) ((i,.rows R0 1 T)::H) S nx K:=by
 subst he hn
 exact agm G hG (λl hc=>h ⟨l.base,l.cap,xs⟩ rfl ⟨hf,by simpa[aF]using hc,hl⟩)
theorem uH(n:Nat):List.replicate n [Value.int .i64 0]=ints (List.replicate n 0):=by unfold ints;simp
theorem Ij(n:Nat):∀x∈List.replicate n (0:Int),i64 x:=λx hx=>by
 rw[(List.mem_replicate.1 hx).2];unfold i64;omega
def zeroV(s:cZ)(u:aj)(x:Int):cZ:=cu (az s u).1 5 x 0 (az s u).2
theorem iT(s:cZ)(u:aj):(az s u).1.code=s.code:=by
 unfold az;split<;>rfl
theorem Ty(c:dM)(s:cZ)(vl:List Int)(x:Int)(hn:c.slots<=4096)(hs:∀p∈s.ay,p.a_)(hl:s.ay.length<=1000000)(hcl:s.code.length<=1000000)(w:World)(ρ:Nat->SX.Loc)(F:Nat->Prop)(h:iW w ρ F 2 5 (kR c s vl) (dP s.ay)):
 Calls Tryz.prog 74 (SV.d_ ρ [.lp 0 0 0 0,ak x]).toArray w (Ba w ρ F (λ_:aj=>ak s.code.length) (λu=>kR c (zeroV s u x) vl) (λu=>bn u) (λu=>u.xs=List.replicate c.slots 0/\u.a_)):=by
 refine Es Tryz.func74 (mq 2 ρ) ρ [.lp 0 0 0 0,ak x] (kR c s vl) ((dP s.ay).and (f_ w F)) 5 h.abs ?_
 (repeat' ((conv=>whnf)<;>first|(show kv ..;(refine g_ c.slots rfl rfl xY aa ?_))|(show jd _ ((_,.rows (List.replicate _ _) _ _)::_) _ _ _;refine rq (List.replicate c.slots 0) (dU w F) (λR w' h b hb=>(h.2 b hb).1) (uH _) fC (Ij _) wy (λu hu fP=> ?_))|(show aC _ 130 ..;(refine su [(0,some 0),(1,some 1),(2,some 2),(3,some 3),(4,some 4)] c s vl ((dP s.ay).and (bn u)) [.lp 0 0 0 0,.c u.val] _ _ _ _ Tryz.call130 rfl aU ⟨_,rfl⟩ ⟨_,rfl⟩ rfl (λR w' h=>⟨h.1.1,jN h.2⟩) (dU w F) (λR w' h b hb=>(h.1.2 b hb).1) (λw' ρ' F' h'=>uG c s vl u fP hs hl w' ρ' F' h') (λ_ _=> ?_)))|(show aC _ 68 ..;(refine su [(0,some 0),(1,some 1),(2,some 8),(3,some 9),(4,some 10)] c (az s u).1 vl dW [.lp 0 0 0 0,ak 5,ak x,ak 0,ak (az s u).2] _ _ _ _ Tryz.call68 rfl aU ⟨_,rfl⟩ ⟨_,rfl⟩ rfl (λR w' h=>trivial) (dU w F) (λR w' h b hb=>(h.1.1.2 b hb).1) (λw' ρ' F' h'=>gN c (az s u).1 vl 5 x 0 (az s u).2 (by rw[iT];exact hcl) w' ρ' F' h') (λ_ _=> ?_)))|refine aN ?_))
 all_goals(conv=>whnf)
 all_goals exact eU _ _ _ _ u [(2,some 13),(3,some 14),(4,some 15)] ⟨hu,fP⟩ aS (by rw[iT];rfl) rfl rfl rfl aU (λR w' h=>⟨h.1.1.1.2,h.1.1.2⟩)
end
section
variable {f:Nat->Int} {H:Heap} {w:World} {cells:List Value} {θ:Nat->Option Nat} {Tb:TypeId} {i:Nat}
theorem zW:∀{l:List Int} {e:Nat} {row:List Int},(nL f l e row).length=row.length
 |[],_,_=>rfl
 |s::r,e,row=>by
  unfold nL
  rw[zW,List.length_set]
theorem Fg{s:Int}:∀{l:List Int} {e:Nat} {row:List Int},nL f (l++[s]) e row=(nL f l e row).set s.toNat (f (e+l.length))
 |[],e,row=>rfl
 |x::r,e,row=>by
  rw[List.cons_append]
  unfold nL
  rw[Fg,List.length_cons]
  congr 2;omega
theorem KN:∀{l:List Int} {e:Nat} {row:List Int},(∀x∈row,i64 x)->(∀k,k<e+l.length->i64 (f k))->∀x∈nL f l e row,i64 x
 |[],_,_,h,_=>h
 |s::r,e,row,h,hf=>by
  unfold nL
  refine KN (λx hx=> ?_) (λk hk=>hf k acC)
  rcases List.mem_or_eq_of_mem_set hx with hx|rfl
  ·exact h x hx
  ·exact hf e acC
theorem ints_set{xs:List Int}{j:Nat}{x:Int}(hj:j<xs.length){K:List (List Value)->Prop}(h:K (ints (xs.set j x))):bS (ints xs) j 0 [.int .i64 x] K:=by
 refine iV _ (d9 hj) Ja ?_
 have e:ints (xs.set j x)=(ints xs).set j (bR [.int .i64 xs[j]] 0 [.int .i64 x]):=by
  unfold ints
  rw[List.map_set]
  rfl
 rw[<-e];exact h
theorem adR{B:Base}{ρ:Nat->SX.Loc}{nx:Nat}{S:bJ}{d:Nat}{T:TypeId}(hw:dY B ρ nx H S w)(hd:(d,bU.box (cs cells) T)∈H):∃b,(SV.lp d 0 0 0).rf ρ= .pointer (some ⟨b,0,none⟩)/\w.heap[b]? =some (.cells cells.toArray T (0,0)):=by
 obtain⟨R,φ,nW⟩:=hw
 obtain⟨b,h1,h2,h3⟩:=nW.kS _ hd
 simp only at h1
 rw[uO]at h3
 exact⟨b,by simp[SV.rf,h1,fQ],h3⟩
theorem agn{P:Program}{f:FuncId}{u v:Value}{Q:Ending->World->Prop}{b:Nat}(e:v= .pointer (some ⟨b,0,none⟩))(h:Calls P f #[u,.pointer (some ⟨b,0,none⟩)] w Q):Calls P f #[u,v] w Q:=e▸h
theorem Y8(θ:Nat->Option Nat):∀l:List Value,SV.tQ θ (cs l)=cs l
 |[]=>rfl
 |v::r=>by
  show SV.ren θ (.c v)::SV.tQ θ (cs r)= .c v::cs r
  rw[Y8 θ r];rfl
theorem Qq(n:Nat):∀l:List Value,SV.Bv n (cs l)=true
 |[]=>rfl
 |v::r=>by
  show(SV.bnd n (.c v)&&SV.Bv n (cs r))=true
  rw[Qq n r];rfl
def u7(c:dM):bJ:=(eY c.bH.base 1 (aM c.bH.l)).and (dP c.bH.l)
def kg(c:dM)(s:cZ)(vl:List Int)(cells:List Value)(Tb:TypeId):Heap:=kR c s vl++[(5,.box (cs cells) Tb)]
theorem Oy(c:dM)(s:cZ)(vl:List Int)(cells:List Value)(Tb:TypeId):qW 6 (kg c s vl cells Tb)=true:=by
 simp[kg,kR,WC,qW,bU.bnd,SV.Bv,SV.bnd,Qq,Nat.ble]
 decide
theorem WG(c:dM)(s:cZ)(vl:List Int)(cells:List Value)(Tb:TypeId)(xs:List (List Value))(T:TypeId):qW 7 ((6,.rows xs 1 T)::kg c s vl cells Tb)=true:=by
 simp[kg,kR,WC,qW,bU.bnd,SV.Bv,SV.bnd,Qq,Nat.ble]
 decide
theorem Ik(h:(i,bU.box (cs cells) Tb)∈H):(i,(bU.box (cs cells) Tb).ren θ)∈H:=by
 show(i,bU.box (SV.tQ θ (cs cells)) Tb)∈H
 rw[Y8];exact h
theorem adS(a:Nat)(l:SX.Loc):∀c:List Value,SV.ZY a l (cs c)=cs c
 |[]=>rfl
 |v::r=>by
  show SV.fz a l (.c v)::SV.ZY a l (cs r)= .c v::cs r
  rw[adS a l r];rfl
theorem ajQ{a:Nat}{l:SX.Loc}(h:(i,bU.box (SV.ZY a l (cs cells)) Tb)∈H):(i,(bU.box (cs cells) Tb).ren θ)∈H:=by
 rw[adS]at h
 exact Ik h
theorem WH(c:dM)(s:cZ)(vl:List Int)(g:FuncId)(cells:List Value)(Tb:TypeId)(i:Nat)(f:Nat->Int)(E:bJ)(sp:aj)(hn:c.slots<=4096)(hs:∀p∈s.ay,p.a_)(hl:s.ay.length<=1000000)(hi:c.bH.l[i]? =some sp)(zb:sp.a_)(hb:∀x∈sp.xs,0<=x/\x<c.slots)(hff:∀e,e<sp.xs.length->i64 (f e))
 (hg:∀ar w,(callFunc g ar).run Tryz.prog w= .ok (.enter g ar) w)
 (hof:∀R w' b (e:Nat),e<sp.xs.length->w'.heap[b]? =some (.cells cells.toArray Tb (0,0))->E.holds R w'->Calls Tryz.prog g #[.int .i64 e,.pointer (some ⟨b,0,none⟩)] w' λen w''=>en= .returned (.int .i64 (f e))/\Ext w' w'')
 (w:World) (ρ:Nat->SX.Loc) (F:Nat->Prop) (h:iW w ρ F 2 6 (kg c s vl cells Tb) (((dP s.ay).and (u7 c)).and E)):
 Calls Tryz.prog 69 (SV.d_ ρ [.lp 0 0 0 0,ak i,.fn (.func g) [] [.lp 5 0 0 0]]).toArray w (yH w ρ F 2 6 (λu:aj=>ak (az s u).2) (λu=>kg c (az s u).1 vl cells Tb) (λu=>bn u) (λu=>u.xs=jk c.slots sp.xs f/\u.a_)):=by
 refine Es Tryz.func69 (mq 2 ρ) ρ [.lp 0 0 0 0,ak i,.fn (.func g) [] [.lp 5 0 0 0]] (kg c s vl cells Tb) ((((dP s.ay).and (u7 c)).and E).and (f_ w F)) 6 h.abs ?_
 have hil:=(List.getElem?_eq_some_iff.1 hi).1
 have hrow:(aM c.bH.l)[i]? =some [sp.val]:=by unfold aM;rw[List.getElem?_map,hi];rfl
 refine Wp.know (p:=∃a,c.bH.base=some a) (λρ w' hw=>ae hw λR h=>aI (j:=i) (aO h.1.1.2.1) acN) ?_
 rintro⟨sa,hsa⟩
 (repeat' ((conv=>whnf)<;>first|(show kv ..;(refine g_ c.slots rfl rfl xY aa ?_))|(show bC ..;refine ax sa i hsa rfl hil ?_)|(show fu ..;(refine aW (λR w' h=>by rw[<-hsa];exact aO h.1.1.2.1) _ _ hrow rfl ?_))|refine aN ?_))
 refine Wp.loop (σ:=Nat) 7 (λe=>[(0,.lp 0 0 0 0),(2,.fn (.func g) [] [.lp 5 0 0 0]),(7,.os 6 c.slots),(22,.c sp.val),(23,ak sp.xs.length),(24,ak e)]) (λe=>(6,.rows (ints (nL f (sp.xs.take e) 0 (List.replicate c.slots 0))) 1 3)::kg c s vl cells Tb) (λ_=>(((dP s.ay).and (u7 c)).and E).and (f_ w F)) (λe=>e<=sp.xs.length) (λe=>sp.xs.length-e) 0 [] aS (λe=>⟨rfl,WG _ _ _ _ _ _ _⟩)
  (Nat.zero_le _) ⟨rfl,aU,⟨?_,aQ,aQ,aQ,aQ,aQ,Ik aQ,trivial⟩,λR w' h=>h⟩ ?_
 ·show(6,bU.rows (ints (List.replicate c.slots 0)) 1 3)∈_
  rw[<-uH]
  exact aQ
 rintro e he
 have hrl:(nL f (sp.xs.take e) 0 (List.replicate c.slots 0)).length=c.slots:=by rw[zW,List.length_replicate]
 by_cases hlt:e<sp.xs.length
 ·have htk:sp.xs.take (e+1)=sp.xs.take e++[sp.xs[e]]:=by rw[List.take_add_one,List.getElem?_eq_getElem hlt];rfl
  have hsn:nL f (sp.xs.take (e+1)) 0 (List.replicate c.slots 0)=(nL f (sp.xs.take e) 0 (List.replicate c.slots 0)).set sp.xs[e].toNat (f e):=by
   rw[htk,Fg,List.length_take,Nat.min_eq_left aa,Nat.zero_add]
  have hbe:=hb _ (List.getElem_mem hlt)
  have hxg:sp.xs.getD e 0=sp.xs[e]:=by rw[List.getD_eq_getElem?_getD,List.getElem?_eq_getElem hlt];rfl
  have nX:=zb.few
  generalize sp.xs[e]=z at*
  generalize nL f (sp.xs.take e) 0 (List.replicate c.slots 0)=row at*
  refine Wp.know (p:=∃a,sp.base=some a) (λρ w' hw=>ae hw λR h=>aI (j:=e) (aO (h.1.1.2.2 sp (List.mem_of_getElem? hi))) Yj) ?_
  rintro⟨pa,hpa⟩
  (repeat' ((conv=>whnf)<;>first|(show bC ..;refine ax pa e hpa rfl hlt ?_)|(show fu ..;(refine j6 (λR w' h=>by rw[<-hpa];exact aO (h.1.1.2.2 sp (List.mem_of_getElem? hi))) (j:=e) hlt hxg ?_))|(show aC _ g ..;refine aJ (f:=g) hg (.int .i64 (f e)) (λρ w' hw=>by obtain⟨b,eb,hbh⟩:=adR (d:=5) hw aQ;exact agn eb (ae hw λR h=>hof R w' b e hlt hbh h.1.2)) ?_)|(show bV ..;(refine aT z.toNat aa aa ahX ?_))|(show bS ..;refine ints_set aa ?_)|refine aN ?_|refine ag ?_ ?_<;>intro _))
  all_goals(conv=>whnf)
  all_goals exact⟨e+1,[],hlt,by omega,rfl,aU,⟨by rw[hsn];exact aQ,aQ,aQ,aQ,aQ,aQ,Ik aQ,trivial⟩,λR w' h=>h⟩
 ·obtain rfl:e=sp.xs.length:=by omega
  rw[List.take_length]at hrl
  (repeat' ((conv=>whnf)<;>first|fail))
  all_goals(conv=>whnf)
  have aaA:∀x∈nL f (sp.xs.take sp.xs.length) 0 (List.replicate c.slots 0),i64 x:=by
   rw[List.take_length]
   exact KN (Ij _) (λk hk=>hff k aa)
  refine Wp.Ii 6 (dU w F) (k:=1) (xs:=ints (nL f (sp.xs.take sp.xs.length) 0 (List.replicate c.slots 0))) (T:=3) aQ (λR w' h b hb=>(h.2 b hb).1) (λfl hfl=> ?_)
  rw[List.take_length]at aaA hfl|-
  rw[aF,hrl]at hfl
  obtain⟨u,hu⟩:∃u:aj,u=⟨fl.base,fl.cap,nL f sp.xs 0 (List.replicate c.slots 0)⟩:=⟨_,rfl⟩
  have Y9:u.xs=nL f sp.xs 0 (List.replicate c.slots 0):=by rw[hu]
  have fP:u.a_:=⟨by rw[Y9];exact aaA,by rw[Y9,hrl,hu];exact hfl,by rw[Y9,hrl];omega⟩
  have huv:Value.slice fl.base c.slots fl.cap=u.val:=by rw[hu];show _=Value.slice _ (nL f sp.xs 0 (List.replicate c.slots 0)).length _;rw[hrl]
  have jr:∀{R:Nat->Prop} {w':World},((eY fl.base 1 (ints (nL f sp.xs 0 (List.replicate c.slots 0)))).off (dU w F)).holds R w'->((bn u).off (dU w F)).holds R w':=λh=>by rw[hu];exact h
  (repeat' ((conv=>whnf)<;>first|(show aC _ 130 ..;(refine su [(0,some 0),(1,some 1),(2,some 2),(3,some 3),(4,some 4)] c s vl ((dP s.ay).and (bn u)) [.lp 0 0 0 0,.c u.val] _ _ _ _ Tryz.call130 rfl aU ⟨_,rfl⟩ ⟨_,rfl⟩ (by rw[<-huv];rfl) (λR w' h=>⟨h.1.1.1.1,jN (jr h.2)⟩) (dU w F) (λR w' h b hb=>(h.1.2 b hb).1) (λw' ρ' F' h'=>uG c s vl u fP hs hl w' ρ' F' h') (λ_ _=> ?_)))|refine aN ?_|refine ag ?_ ?_<;>intro _))
  all_goals(conv=>whnf)
  all_goals exact eU _ _ _ _ u [(2,some 9),(3,some 10),(4,some 11)] ⟨Y9,fP⟩ aS rfl rfl (Oy _ _ _ _ _) rfl ⟨aQ,aQ,aQ,aQ,aQ,ajQ (a:=6) (l:=fl) aQ,trivial⟩ (λR w' h=>⟨h.1.1.2,jr h.1.2⟩)
end
open Go.Maps Go.Shelf
section
variable {W:World} {base size k B:Nat} {v:Value} {xs:List Value} {t:TypeId}
def Y_(F:Fence)(n:Nat)(g:Nat)(lb:Array Value)(S:List Int->Prop)(N:Nat)(w:World):Prop:=
 ∀(l:Nat) (J:List Int->World->Prop) (W:World),Below w.heap.size w W->(∀pre W1,J pre W1->Below w.heap.size w W1)->
  (∀pre x W1,J pre W1->pre.length<N->YieldAt F (n-1) Tryz.prog l #[(Value.int .i64 x)] W1 λe W'=>e= .returned (.bool true)/\J (pre++[x]) W'/\KeepsWalks W1 W')->
  J [] W->CallsIn F n Tryz.prog g (#[.func (.yield l) #[] #[]]++lb) W λe W'=>(∃v,e= .returned v)/\∃xs,S xs/\J xs W'
def apAssign:Code:=(Code.region 2 #[{dst:=some 5,op:=Op.assign (Operand.tmp 7),type:=3,pos:= "iter.go:51",after:= #[],guard:=none}] false)
def apBody:Code:=(Code.block 1 (Code.region 3 #[{dst:=some 8,op:=Op.load 32 (Operand.tmp 2),type:=32,pos:= "iter.go:52",after:= #[],guard:=none},{dst:=some 9,op:=Op.move (Operand.tmp 5),type:=3,pos:= "iter.go:52",after:= #[],guard:=none},{dst:=some 10,op:=Op.buildSlice 32 1 #[(0,Operand.tmp 9)],type:=32,pos:= "iter.go:52",after:= #[{on:=1,ground:=Ground.data}],guard:=none},{dst:=some 11,op:=Op.call {callee:=Callee.builtin Builtin.append,args:= #[Operand.tmp 8,Operand.tmp 10],argTypes:= #[32,32]},type:=32,pos:= "iter.go:52",after:= #[{on:=0,ground:=Ground.data},{on:=2,ground:=Ground.data}],guard:=none},{dst:=none,op:=Op.store 32 (Operand.tmp 2) (Operand.tmp 11),type:=0,pos:= "iter.go:52",after:= #[{on:=3,ground:=Ground.data},{on:=3,ground:=Ground.chain},{on:=0,ground:=Ground.phase},{on:=1,ground:=Ground.phase},{on:=2,ground:=Ground.phase},{on:=3,ground:=Ground.phase}],guard:=none}] false))
def apRec(fn:FuncId)(sv:Value)(Bs D:Nat)(st:LoopState)(pend:Option Code):Loop:=
 {state:=st,pending:=pend,fn,tmps:= #[.slice none 0 0,sv,.pointer (some ⟨Bs,0,none⟩),undef,.slice none 0 0,undef,sv,undef,undef,undef,undef,undef,undef],params:= #[7],assign:=apAssign,body:=apBody,defers:=D}
structure ApAt(w0:World)(fn:FuncId)(sv:Value)(Bs l D:Nat)(ss:List Int)(W:World):Prop where
 box:∃v,W.heap[Bs]? =some (.cells #[v] 32 (0,0))/\W.ownsRow w0.heap.size 3 1 v ss.length (ss.map (Value.int .i64))/\(v= .slice none 0 0↔ss=[])
 L:W.heap[l]? =some (.loop (apRec fn sv Bs D .ready none))
 K:W.heap[D]? =some (.deferred (some []))
 below:Below w0.heap.size w0 W
theorem lF(W:World)(l:Nat)(o:Obj):W.grownBy (W.putObj l o) (some l):=
 ⟨rfl,rfl,rfl,by simp,λk _ hk=>World.putObj_heap_other (λe=>hk (by rw[e]))⟩
theorem Fh(W:World)(b:Nat)(v:Value):W.grownBy (W.setCell ⟨b,0,none⟩ v) (some b):=
 ⟨rfl,rfl,rfl,(KeepsWalks.setCell W _ v).size,λk _ hk=>Below.heap_setCell _ _ _ k (λe=>hk (by rw[e]))⟩
theorem ru{e:TypeId}(h:W.ownsRow base e size v k xs){j:Nat}{o:Obj}(hj:W.heap[j]? =some o)(hno:∀cur,o≠.cells cur e (0,0)):
 v.ownBlock=none\/v.ownBlock≠some j:=by
 rcases h.2 with⟨rfl,_⟩|⟨g,cap,cur,rfl,_,hgb,_⟩
 ·exact .inl rfl
 ·refine .inr λe'=> ?_
  have:g=j:=by simpa[Value.ownBlock]using e'
  subst this;rw[hgb]at hj;cases hj;exact hno cur rfl
theorem zX(h:W.heap[B]? =some (.cells #[v] t (0,0))):W.cell? ⟨B,0,none⟩=some v/\W.frozen? ⟨B,0,none⟩=false:=by
 constructor<;>simp[World.cell?,World.frozen?,h]
theorem Fj(v':Value)(h:W.heap[B]? =some (.cells #[v] t (0,0))):(W.setCell ⟨B,0,none⟩ v').heap[B]? =some (.cells #[v'] t (0,0)):=by
 obtain⟨hlt,hk⟩:=Array.getElem?_eq_some_iff.1 h
 show(W.heap.modify B _)[B]? =_
 rw[Array.getElem?_eq_getElem (by rw[Array.size_modify];exact hlt),Array.getElem_modify_self,hk]
 rfl
theorem Fp{e:TypeId}(h:W.ownsRow base e size v k xs):∀(j:Nat) (o:Obj),v.ownBlock=some j->W.heap[j]? =some o->o.isWalk=false:=by
 intro j o hj ho
 rcases h.2 with⟨rfl,_⟩|⟨g,cap,cur,rfl,_,hgb,_⟩
 ·simp[Value.ownBlock]at hj
 ·have:g=j:=by simpa[Value.ownBlock]using hj
  subst this;rw[hgb]at ho;cases ho;rfl
theorem Za:(Tryz.prog.info? 3).map (λi=>(i.zero,i.size,i.bytes))=some (some (.int .i64 0),1,8):=by kernel_rfl
theorem apYield(F:Fence)(m:Nat)(w0:World)(fn:FuncId)(hfn:F.fn fn)(sv:Value)(Bs l D:Nat)(hBl:Bs≠l)(hDl:D≠l)(hDB:D≠Bs)(h0B:w0.heap.size<=Bs)(h0l:w0.heap.size<=l)
 (N:Nat) (hN:N<=maxLen) (hNb:N*8<=140737488355328) (ss:List Int) (x:Int) (W:World) (h:ApAt w0 fn sv Bs l D ss W) (hlen:ss.length<N):
 YieldAt F m Tryz.prog l #[(Value.int .i64 x)] W λe W'=>e= .returned (.bool true)/\ApAt w0 fn sv Bs l D (ss++[x]) W'/\KeepsWalks W W':=by
 obtain⟨i0,hi,hz0,hz1,hz2⟩:=info_parts Za
 obtain⟨v,hv,hrow,_⟩:=h.box
 refine⟨fn,#[.slice none 0 0,sv,.pointer (some ⟨Bs,0,none⟩),undef,.slice none 0 0,undef,sv,(Value.int .i64 x),undef,undef,undef,undef,undef],apAssign,apBody,by simpa[apRec]using run_yield (P:=Tryz.prog) (args:= #[(Value.int .i64 x)]) h.L rfl,roundIn_of_wpIn hfn ?_⟩
 have hl:l<W.heap.size:=(Array.getElem?_eq_some_iff.1 h.L).1
 have hbr:=run_beginRound (P:=Tryz.prog) h.L rfl
 obtain⟨W2,hW2⟩:∃W2,W.putObj l (.loop {apRec fn sv Bs D .ready none with state:= .busy})=W2:=⟨_,rfl⟩
 rw[hW2]at hbr
 have hg2:W.grownBy W2 (some l):=by rw[<-hW2];exact lF _ _ _
 have hk2:KeepsWalks W W2:=by rw[<-hW2];exact KeepsWalks.putObj _ h.L rfl
 have hv2:W2.heap[Bs]? =some (.cells #[v] 32 (0,0)):=by rw[<-hW2];exact(World.putObj_heap_other hBl).trans hv
 have hK2:W2.heap[D]? =some (.deferred (some [])):=by rw[<-hW2];exact(World.putObj_heap_other hDl).trans h.K
 have hL2:W2.heap[l]? =some (.loop {apRec fn sv Bs D .ready none with state:= .busy}):=by rw[<-hW2];exact World.putObj_heap_same hl
 have hrow2:W2.ownsRow w0.heap.size 3 1 v ss.length (ss.map (Value.int .i64)):=hrow.kept hg2 (ru hrow h.L (λcur e=>by cases e))
 have hb2:Below w0.heap.size w0 W2:=h.below.grown hg2 h.below.size (λk e=>by cases e;exact h0l)
 obtain⟨hc2,hf2⟩:=zX hv2
 have hBlt:Bs<W2.heap.size:=(Array.getElem?_eq_some_iff.1 hv2).1
 have hl2:l<W2.heap.size:=(Array.getElem?_eq_some_iff.1 hL2).1
 have hDlt:D<W2.heap.size:=(Array.getElem?_eq_some_iff.1 hK2).1
 have ne_of:∀{j:Nat} {o:Obj},W2.heap[j]? =some o->(∀cur,o≠.cells cur 3 (0,0))->some j≠v.ownBlock:=λhj hno=>by
  rcases ru hrow2 hj hno with e|e
  ·rw[e];simp
  ·exactλe'=>e e'.symm
 clear hW2
 unfold apAssign
 gi_wp2_with (rw[Oper.semAt_eq _ _ _ (λc h=>by cases h)];go_simp;try go_bits)
 unfold apBody
 gi_wp2_with (first
  |(gi_at_builtin;refine wpListIn_append_own _ rfl _ _ 32 rfl w0.heap.size 3 i0 (.int .i64 0) 1 8 Tryz.underlying32 hi hz0 hz1 hz2 rfl aS _ _ _ rfl (hrow2.alloc _) ⟨W2.heap.size,0,none⟩ 1 1 [(Value.int .i64 x)] rfl rfl (cell_one_new _ _ _) (by simp[Value.oneCell']) aa aa (by have:=hb2.size;simp;omega) ?_;intro v' w3 hown' hg3 hnil3
    have hv3:w3.heap[Bs]? =some (.cells #[v] 32 (0,0)):=(hg3.block Bs wy (ne_of hv2 (λcur e=>by cases e))).trans ((Below.heap_alloc _ _ Bs hBlt).trans hv2)
    obtain⟨hc3,hf3⟩:=zX hv3
    obtain⟨g',cap',cur',rfl,hbase',hgb',hr1,hr2,hr3,hr4⟩:∃g' cap' cur',v'= .slice (some ⟨g',0,none⟩) (ss.length+1) cap'/\w0.heap.size<=g'/\w3.heap[g']? =some (.cells cur' 3 (0,0))/\ss.length+1<=cap'/\cap'<=maxLen/\cur'.size=cap'*1/\cur'.toList.take ((ss.length+1)*1)=ss.map (Value.int .i64)++[(Value.int .i64 x)]:=by
     rcases hown'.2 with⟨_,h0⟩|h'
     ·exact absurd h0 aa
     ·exact h'
    simp only[Act.put,List.setIfInBounds_toArray,List.set_cons_succ,List.set_cons_zero])
  |(rw[Oper.semAt_eq _ _ _ (λc h=>by cases h)];go_simp;try go_bits))
 have hg3':(W2.alloc (.cells #[(Value.int .i64 x)] 3)).grownBy w3 v.ownBlock:=hg3
 have hL3:w3.heap[l]? =some (.loop {apRec fn sv Bs D .ready none with state:= .busy}):=(hg3'.block l wy (ne_of hL2 (λcur e=>by cases e))).trans ((Below.heap_alloc _ _ l hl2).trans hL2)
 have hK3:w3.heap[D]? =some (.deferred (some [])):=(hg3'.block D wy (ne_of hK2 (λcur e=>by cases e))).trans ((Below.heap_alloc _ _ D hDlt).trans hK2)
 obtain⟨w4,hw4⟩:∃w4,w3.setCell ⟨Bs,0,none⟩ (.slice (some ⟨g',0,none⟩) (ss.length+1) cap')=w4:=⟨_,rfl⟩
 rw[hw4]
 have hg4:w3.grownBy w4 (some Bs):=by rw[<-hw4];exact Fh _ _ _
 have hv4:w4.heap[Bs]? =some (.cells #[.slice (some ⟨g',0,none⟩) (ss.length+1) cap'] 32 (0,0)):=by rw[<-hw4];exact Fj _ hv3
 have hL4:w4.heap[l]? =some (.loop {apRec fn sv Bs D .ready none with state:= .busy}):=(hg4.block l (Array.getElem?_eq_some_iff.1 hL3).1 (λe=>hBl (by cases e;rfl))).trans hL3
 have hK4:w4.heap[D]? =some (.deferred (some [])):=(hg4.block D (Array.getElem?_eq_some_iff.1 hK3).1 (λe=>hDB (by cases e;rfl))).trans hK3
 have hrow4:=hown'.kept hg4 (ru hown' hv3 (λcur e=>by cases e))
 have hl4:l<w4.heap.size:=(Array.getElem?_eq_some_iff.1 hL4).1
 have hb3:Below w0.heap.size w0 w3:=(hb2.alloc hb2.size _).grown hg3' (by have:=hb2.size;simp;omega) (λk e=>(hrow2.lt k e).1)
 have hb4:Below w0.heap.size w0 w4:=hb3.grown hg4 hb3.size (λk e=>by cases e;exact h0B)
 have hk4:KeepsWalks W w4:=((hk2.trans (KeepsWalks.alloc _ _)).trans (KeepsWalks.of_grownBy hg3' (Fp (hrow2.alloc _)))).trans (by rw[<-hw4];exact KeepsWalks.setCell _ _ _)
 clear hw4
 refine⟨_,_,run_endRound none hL4,rfl,⟨⟨_,(World.putObj_heap_other hBl).trans hv4,?_,by simp⟩,World.putObj_heap_same hl4,(World.putObj_heap_other hDl).trans hK4,hb4.grown (lF _ _ _) hb4.size (λk e=>by cases e;exact h0l)⟩,hk4.trans (KeepsWalks.putObj _ hL4 rfl)⟩
 have:=hrow4.kept (lF w4 l (.loop {{apRec fn sv Bs D .ready none with state:= .busy}with state:=if(none:Option Code).isNone then .ready else .done,pending:=none})) (ru hrow4 hL4 (λcur e=>by cases e))
 simpa using this
theorem appendSeq_in(F:Fence)(n:Nat)(h11:F.fn 165)(hro:F.round=none)(hn:2<=n)(g:Nat)(lb:Array Value)(hFg:F.fn g)(eg:∀args w,(callFunc g args).run Tryz.prog w= .ok (.enter g args) w)
 (S:List Int->Prop) (N:Nat) (hN:N<=maxLen) (hNb:N*8<=140737488355328) (w:World) (hseq:Y_ F (n-1) g lb S N w):
 CallsIn F n Tryz.prog 165 #[.slice none 0 0,.func (.func g) #[] lb] w λe w'=>∃(v:Value) (ss:List Int),e= .returned v/\S ss/\w'.ownsRow w.heap.size 3 1 v ss.length (ss.map (Value.int .i64))/\(v= .slice none 0 0↔ss=[])/\Below w.heap.size w w':=by
 have h1:1<=n:=by omega
 refine callsIn_of_wp_marks Tryz.func165 rfl h11 ?_ hro
 simp only[Tryz.ntmps165,List.size_toArray,List.length_cons,List.length_nil,Nat.reduceAdd,Nat.reduceSub,Array.replicate_succ,Array.replicate_zero,List.push_toArray,List.append_toArray,List.nil_append,List.cons_append]
 gi_wp2
 refine wpIn_rangeFunc ?_
 intro fn hfn
 rw[hro]
 obtain⟨W0,hW0⟩:∃W0,w.alloc (.cells #[.slice none 0 0] 32)=W0:=⟨_,rfl⟩
 have hs0:W0.heap.size=w.heap.size+1:=by rw[<-hW0];simp
 have hv0:W0.heap[w.heap.size]? =some (.cells #[.slice none 0 0] 32 (0,0)):=by rw[<-hW0];exact World.alloc_heap_new w _
 have hb0:Below w.heap.size w W0:=by rw[<-hW0];exact(Below.refl _ w).alloc (Nat.le_refl _) _
 rw[hW0]
 obtain⟨W1,hW1⟩:∃W1,(W0.alloc (.deferred (some []))).alloc (.loop (apRec fn (.func (.func g) #[] lb) w.heap.size W0.heap.size .ready none))=W1:=⟨_,rfl⟩
 have hold:∀k,k<W0.heap.size->W1.heap[k]? =W0.heap[k]? :=λk hk=>by
  rw[<-hW1];exact(Below.heap_alloc _ _ k wy).trans (Below.heap_alloc _ _ k hk)
 have hb1:Below w.heap.size w W1:=by rw[<-hW1];exact(hb0.alloc hb0.size _).alloc (by have:=hb0.size;simp;omega) _
 have hs1:W1.heap.size=W0.heap.size+2:=by rw[<-hW1];simp
 have hM:ApAt w fn (.func (.func g) #[] lb) w.heap.size (W0.heap.size+1) W0.heap.size [] W1:=
  ⟨⟨_,(hold w.heap.size aa).trans hv0,⟨rfl,.inl ⟨rfl,rfl⟩⟩,by simp⟩,
   by rw[<-hW1];have:=World.alloc_heap_new (W0.alloc (.deferred (some []))) (.loop (apRec fn (.func (.func g) #[] lb) w.heap.size W0.heap.size .ready none));rwa[World.size_alloc]at this,
   by rw[<-hW1];exact(Below.heap_alloc _ _ _ fC).trans (World.alloc_heap_new W0 _),hb1⟩
 refine⟨W0.heap.size+1,[{target:= .collected W0.heap.size,args:= #[]}],W1,{target:= .fn (.func g) lb,args:= #[.func (.yield (W0.heap.size+1)) #[] #[]]},W1,g,
  #[.func (.yield (W0.heap.size+1)) #[] #[]]++lb,W1,?_,?_,?_,?_,λ_=>h1,?_⟩
 ·rw[<-hW1];exact run_enterLoop_outer _ _ _ _ _
 ·simp[resolve,go_sem]
 ·intro f' hf';simp[Target.leads]at hf';subst hf';exact hFg
 ·simp[invoke,go_sem,eg]
 ·refine(hseq (W0.heap.size+1) (ApAt w fn (.func (.func g) #[] lb) w.heap.size (W0.heap.size+1) W0.heap.size) W1 hb1 (λ_ _ h=>h.below)
   (λpre x W hJ hl=>apYield F (n-1-1) w fn hfn _ w.heap.size (W0.heap.size+1) W0.heap.size aa aa aa (Nat.le_refl _) aa N hN hNb pre x W hJ hl) hM).mono ?_
  rintro e W2 ⟨⟨v0,rfl⟩,ss,hS,h2⟩
  obtain⟨v,hv,hrow,hnil⟩:=h2.box
  have hend:=run_endLoop (P:=Tryz.prog) h2.L (by simp[apRec])
  obtain⟨W3,hW3⟩:∃W3,W2.putObj (W0.heap.size+1) (.loop {apRec fn (.func (.func g) #[] lb) w.heap.size W0.heap.size .ready none with state:= .exhausted})=W3:=⟨_,rfl⟩
  rw[hW3]at hend
  have hg3:W2.grownBy W3 (some (W0.heap.size+1)):=by rw[<-hW3];exact lF _ _ _
  have hv3:W3.heap[w.heap.size]? =some (.cells #[v] 32 (0,0)):=by rw[<-hW3];exact(World.putObj_heap_other aa).trans hv
  have hK3:W3.heap[W0.heap.size]? =some (.deferred (some [])):=by rw[<-hW3];exact(World.putObj_heap_other aa).trans h2.K
  have hrow3:=hrow.kept hg3 (ru hrow h2.L (λcur e=>by cases e))
  have hb3:Below w.heap.size w W3:=h2.below.grown hg3 h2.below.size (λk e=>by cases e;omega)
  obtain⟨hc3,hf3⟩:=zX hv3
  clear hW3
  refine⟨none,W3,hend,?_⟩
  gi_wp2
  rw[<-hs0]
  refine⟨by simp,.inl ⟨_,_,rfl,run_takeDeferred hK3,?_⟩⟩
  exact⟨_,results_tmp rfl _ _ _,v,ss,rfl,hS,hrow3.kept (lF _ _ _) (ru hrow3 hK3 (λcur e=>by cases e)),hnil,hb3.grown (lF _ _ _) hb3.size (λk e=>by cases e;omega)⟩
end
attribute [local go_sem] Oper.semAt_some
def upto{α:Type}(f:Nat->α)(k:Nat):List α:=(List.range k).map f
theorem Oz{α:Type}(f:Nat->α)(k:Nat):upto f (k+1)=upto f k++[f k]:=by simp[upto,List.range_succ]
theorem Tz{α:Type}(f:Nat->α)(k:Nat):(upto f k).length=k:=by simp[upto]
theorem adT(zs:List Int):upto (λj=>zs[j]?.getD 0) zs.length=zs:=by
 apply List.ext_getElem
 ·simp[upto]
 ·intro i h1 h2
  simp[upto,h2]
theorem WI(F:Fence)(n:Nat)(h7:F.fn 162)(hro:F.round=none)(hn:1<=n)(l Bs n₀ b off len cap:Nat)(zs:List Int)(adU:len*8<=140737488351232)(hb:b<n₀)(J Jx:List Int->World->Prop)
 (hY:∀pre x W,J pre W->pre.length<len->YieldAt F (n-1) Tryz.prog l #[.int .i64 x] W λe W'=>
   (e= .returned (.bool true)/\J (pre++[x]) W'/\Below n₀ W W')\/(e= .returned (.bool false)/\Jx (pre++[x]) W'))
 (W:World) (hBs:W.cell? ⟨Bs,0,none⟩=some (.slice (some ⟨b,off,none⟩) len cap)) (hc:∀j,j<len->W.cell? ⟨b,off+j,none⟩=some (.int .i64 (zs[j]?.getD 0))) (h0:J [] W):
 CallsIn F n Tryz.prog 162 #[.func (.yield l) #[] #[],.pointer (some ⟨Bs,0,none⟩)] W λe W'=>(∃v,e= .returned v)/\
  ((∃ys,ys=upto (λj=>zs[j]?.getD 0) len/\J ys W')\/(∃pre,(∃k,k<=len/\pre=upto (λj=>zs[j]?.getD 0) k)/\Jx pre W')):=by
 refine callsIn_of_wp Tryz.func162 rfl h7 ?_ hro
 simp only[Tryz.ntmps162,List.size_toArray,List.length_cons,List.length_nil,Nat.reduceAdd,Nat.reduceSub,Array.replicate_succ,Array.replicate_zero,List.push_toArray,List.append_toArray,List.nil_append,List.cons_append]
 gi_wp2
 gi_loopw [7] (λi wr=>∃k:Nat,k<=len/\i= .int .i64 k/\J (upto (λj=>zs[j]?.getD 0) k) wr/\Below n₀ W wr)
  (λi _=>len-(intOf i).toNat)
 case atStart=>exact⟨0,Nat.zero_le _,rfl,h0,Below.refl _ _⟩
 case round=>
  obtain⟨k,hk,rfl,hJs,hnx⟩:=hrel
  have hcx:k<len->wr.cell? ⟨b,off+k,none⟩=some (.int .i64 (zs[k]?.getD 0)):=λh=>(hnx.cell (p:=⟨b,off+k,none⟩) hb).trans (hc k h)
  by_cases hlt:k<len
  ·obtain⟨fn,tmps,assign,body,hy,hR⟩:=hY _ (zs[k]?.getD 0) wr hJs (by rw[Tz];exact hlt)
   have apN:=hcx hlt
   gi_wp2
   refine hR.mono ?_
   rintro e W3 (⟨rfl,hJ3,hk3⟩|⟨rfl,hJx3⟩)
   ·
    gi_wp2
    go_roundw
    case rel=>exact⟨k+1,by omega,by simp,by rw[Oz];exact hJ3,hnx.trans hk3⟩
    case measure=>simp[intOf];omega
   ·gi_wp2
    refine bodyPost_ret (results_none rfl _ _ _) rfl ?_
    exact⟨⟨_,rfl⟩,.inr ⟨_,⟨k+1,by omega,(Oz _ _).symm⟩,hJx3⟩⟩
  ·obtain rfl:k=len:=by omega
   gi_wp2
   go_end0
   exact⟨⟨_,rfl⟩,.inl ⟨_,rfl,hJs⟩⟩
theorem KO(F:Fence)(n:Nat)(h7:F.fn 162)(hro:F.round=none)(l Bs:Nat)(J:List Int->World->Prop)(W:World)(base:Option Addr)(cap:Nat)(hBs:W.cell? ⟨Bs,0,none⟩=some (.slice base 0 cap))(h0:J [] W):
 CallsIn F n Tryz.prog 162 #[.func (.yield l) #[] #[],.pointer (some ⟨Bs,0,none⟩)] W λe W'=>(∃v,e= .returned v)/\J [] W':=by
 refine callsIn_of_wp Tryz.func162 rfl h7 ?_ hro
 simp only[Tryz.ntmps162,List.size_toArray,List.length_cons,List.length_nil,Nat.reduceAdd,Nat.reduceSub,Array.replicate_succ,Array.replicate_zero,List.push_toArray,List.append_toArray,List.nil_append,List.cons_append]
 gi_wp2
 gi_loopw [7] (λi wr=>i= .int .i64 0/\J [] wr) (λ_ _=>0)
 case atStart=>exact⟨rfl,h0⟩
 case round=>
  obtain⟨rfl,hJs⟩:=hrel
  gi_wp2
  go_end0
  exact⟨⟨_,rfl⟩,hJs⟩
section
variable {w w':World} {zs:List Int}
theorem aaB{B:Nat}{a b:World}(h1:Below B w a)(h2:Below B w b)(hs:a.heap.size<=b.heap.size):Below B a b:=
 ⟨h2.os.trans h1.os.symm,h2.tape.trans h1.tape.symm,h2.output.trans h1.output.symm,hs,λk hk=>(h2.block k hk).trans (h1.block k hk).symm⟩
def IntsIn(w:World)(base:Option Addr)(zs:List Int):Prop:=
 zs=[]\/∃b off,base=some ⟨b,off,none⟩/\b<w.heap.size/\∀j,j<zs.length->w.cell? ⟨b,off+j,none⟩=some (.int .i64 (zs[j]?.getD 0))
theorem IntsIn.below{base:Option Addr}(h:IntsIn w base zs)(hb:Below w.heap.size w w'):IntsIn w' base zs:=by
 rcases h with h|⟨b,off,h1,h2,h3⟩
 ·exact .inl h
 ·exact .inr ⟨b,off,h1,Nat.lt_of_lt_of_le h2 hb.size,λj hj=>(hb.cell (p:=⟨b,off+j,none⟩) h2).trans (h3 j hj)⟩
theorem TD(F:Fence)(n:Nat)(h7:F.fn 162)(hro:F.round=none)(hn:1<=n)(Bs:Nat)(base:Option Addr)(cap:Nat)(zs:List Int)(adU:zs.length*8<=140737488351232)(w:World)(hBs:Bs<w.heap.size)
 (hc:w.cell? ⟨Bs,0,none⟩=some (.slice base zs.length cap)) (hI:IntsIn w base zs):
 Y_ F n 162 #[.pointer (some ⟨Bs,0,none⟩)] (λys=>ys=zs) zs.length w:=λl J W hW hJB hY h0=>by
 have hc':=(hW.cell (p:=⟨Bs,0,none⟩) hBs).trans hc
 rcases hI with rfl|⟨b,off,rfl,hb,hcs⟩
 ·exact(KO F n h7 hro l Bs J W base cap hc' h0).mono λe W' ⟨he,hj⟩=>⟨he,_,rfl,hj⟩
 ·refine(WI F n h7 hro hn l Bs w.heap.size b off zs.length cap zs adU hb J (λ_ _=>False) (λpre x W1 hj hl=> ?_) W hc' (λj hj=>(hW.cell (p:=⟨b,off+j,none⟩) hb).trans (hcs j hj)) h0).mono ?_
  ·obtain⟨fn,tmps,assign,body,hy,hR⟩:=hY pre x W1 hj hl
   exact⟨fn,tmps,assign,body,hy,hR.mono λe w' ⟨h1,h2,h3⟩=> .inl ⟨h1,h2,aaB (hJB _ _ hj) (hJB _ _ h2) h3.size⟩⟩
  ·rintro e W' ⟨he,⟨ys,rfl,hj⟩|⟨_,_,hf⟩⟩
   ·exact⟨he,_,adT zs,hj⟩
   ·exact hf.elim
theorem TF{v:Value}(h:w'.ownsRow w.heap.size 3 1 v zs.length (zs.map (Value.int .i64))):j_ w w' v 1 3 (ints zs):=by
 have hone:∀r∈ints zs,r.length=1/\∀v∈r,v.oneCell'=true:=λr hr=>by
  obtain⟨x,_,rfl⟩:=List.mem_map.1 hr
  exact⟨rfl,λv hv=>by rw[List.mem_singleton.1 hv];rfl⟩
 rcases h.2 with⟨rfl,h0⟩|⟨g,cap,cur,rfl,hb,hg,h1,h2,h3,h4⟩
 ·have hz:zs=[]:=List.eq_nil_of_length_eq_zero h0
  subst hz
  exact⟨⟨none,0⟩,rfl,λ_=>False,λ_ h=>h.elim,hone,Nat.zero_le _,.inl ⟨rfl,rfl,λ_ h=>h⟩⟩
 ·refine⟨⟨some ⟨g,0,none⟩,cap⟩,by rw[aF],λx=>x=g,λb hbb=>by rw[hbb];exact hb,hone,by rw[aF];exact h1,.inr ⟨g,0,cur,rfl,λ_=>Iff.rfl,hg,by show 0+cap*1<=cur.size;omega,λi r hr j v hv=> ?_⟩⟩
  obtain⟨x,hx,rfl⟩:∃x,zs[i]? =some x/\r=[.int .i64 x]:=by
   rw[ints,List.getElem?_map]at hr
   cases hx:zs[i]? with
   |none=>rw[hx]at hr;cases hr
   |some x=>rw[hx]at hr;exact⟨x,rfl,by simpa using hr.symm⟩
  have hj:j=0:=by
   rcases Nat.eq_zero_or_pos j with h|h
   ·exact h
   ·rw[List.getElem?_eq_none Ym]at hv;cases hv
  subst hj
  have hv':v= .int .i64 x:=by simpa using hv.symm
  subst hv'
  have hi:i<zs.length:=(List.getElem?_eq_some_iff.1 hx).1
  have:=congrArg (λl:List Value=>l[i]?) h4
  simp only[Nat.mul_one,List.getElem?_take_of_lt hi,List.getElem?_map,hx,Option.map_some]at this
  rw[Nat.zero_add,Nat.mul_one,Nat.add_zero,<-Array.getElem?_toList]
  exact this
theorem TG(w:World)(Bs:Nat)(base:Option Addr)(cap:Nat)(zs:List Int)(hl:zs.length<=1000000)(hBs:Bs<w.heap.size)(hc:w.cell? ⟨Bs,0,none⟩=some (.slice base zs.length cap))(hI:IntsIn w base zs):
 Calls Tryz.prog 160 #[.func (.func 162) #[] #[.pointer (some ⟨Bs,0,none⟩)]] w λe w'=>∃v,e= .returned v/\j_ w w' v 1 3 (ints zs)/\Ext w w':=by
 refine(callsIn_wide (n:=3)).1 ?_
 have hfA:Fence.wide.fn 165:=trivial
 have hseq:=TD Fence.wide 1 trivial rfl (Nat.le_refl _) Bs base cap zs aa w hBs hc hI
 refine callsIn_of_wp Tryz.func160 rfl trivial ?_ rfl
 simp only[Tryz.ntmps160,List.size_toArray,List.length_cons,List.length_nil,Nat.reduceAdd,Nat.reduceSub,Array.replicate_succ,Array.replicate_zero,List.push_toArray,List.append_toArray,List.nil_append,List.cons_append]
 gi_wp2_with (gi_at_call 165;refine(appendSeq_in Fence.wide 2 trivial rfl (Nat.le_refl _) 162 _ trivial Tryz.call162 _ zs.length (by show zs.length<=9223372036854775807;omega) aa _ hseq).mono ?_;rintro e w' ⟨v,ss,rfl,hS,hrow,hnil,hb⟩)
 go_ret
 subst hS
 exact⟨v,rfl,TF hrow,hb⟩
theorem WJ(w:World)(base:Option Addr)(len cap:Nat):Calls Tryz.prog 152 #[.slice base len cap] w λe w'=>e= .returned (.func (.func 162) #[] #[.pointer (some ⟨w.heap.size,0,none⟩)])/\w'=w.alloc (.cells #[.slice base len cap] 32):=by
 refine(callsIn_wide (n:=1)).1 ?_
 refine callsIn_of_wp Tryz.func152 rfl trivial ?_ rfl
 simp only[Tryz.ntmps152,List.size_toArray,List.length_cons,List.length_nil,Nat.reduceAdd,Nat.reduceSub,Array.replicate_succ,Array.replicate_zero,List.push_toArray,List.append_toArray,List.nil_append,List.cons_append]
 gi_wp2
 go_ret
 exact⟨rfl,rfl⟩
end
section
variable {w:World} {v:Value}
theorem Zb{p:Addr}(h:w.cell? p=some v):p.block<w.heap.size:=by
 unfold World.cell? at h
 cases hb:w.heap[p.block]? with
 |none=>simp[hb]at h
 |some o=>exact(Array.getElem?_eq_some_iff.1 hb).1
theorem WK{a:Addr}(h:w.cell? a=some v):a=⟨a.block,a.off,none⟩:=by
 obtain⟨b,o,f⟩:=a
 cases f with
 |none=>rfl
 |some x=>simp[World.cell?]at h;split at h<;>simp at h
theorem aj.ok.within{u:aj}(h:u.ok w):IntsIn w u.base u.xs:=by
 rcases h.rows with h0|⟨a,ha,hc⟩
 ·exact .inl (List.eq_nil_of_length_eq_zero (by have:=congrArg List.length h0;rwa[aF]at this))
 ·rcases Nat.eq_zero_or_pos u.xs.length with h1|h1
  ·exact .inl (List.eq_nil_of_length_eq_zero h1)
  ·have hcell:∀j,j<u.xs.length->w.cell? (a.add j)=some (.int .i64 (u.xs[j]?.getD 0)):=λj hj=>by
    have:=hc j [.int .i64 u.xs[j]] (d9 hj) 0 _ rfl
    rw[Nat.mul_one,Nat.add_zero]at this
    rw[this,List.getElem?_eq_getElem hj];rfl
   have h2:=hcell 0 h1
   have e0:a.add 0=a:=by simp[Addr.add]
   rw[e0]at h2
   have ea:=WK h2
   have e1:∀j,a.add j=⟨a.block,a.off+j,none⟩:=λj=>by
    rw[ea];simp[Addr.add]
   exact .inr ⟨a.block,a.off,ha.trans (congrArg some ea),Zb h2,λj hj=>by rw[<-e1];exact hcell j hj⟩
theorem TH{cx:Cx}{H:Heap}{S:bJ}{nx:Nat}{K:SV->Heap->bJ->Nat->Prop}(base:Option Addr)(len cap:Nat)(hP:cx.P=Tryz.prog)
 (h:∀Bs:Nat,K (.c (.func (.func 162) #[] #[.pointer (some ⟨Bs,0,none⟩)])) H (S.and ((eY (some ⟨Bs,0,none⟩) 1 [[.slice base len cap]]).past cx.B.w0.heap.size)) nx):aC cx 152 [.c (.slice base len cap)] H S nx K:=by
 obtain⟨P,B,n,tb⟩:=cx
 simp only at hP
 subst hP
 refine gP Tryz.call152 (λBs:Nat=> .func (.func 162) #[] #[.pointer (some ⟨Bs,0,none⟩)]) (λBs=>eY (some ⟨Bs,0,none⟩) 1 [[.slice base len cap]]) (λ_=>True) (λρ w' hw=>(WJ w' base len cap).mono ?_) (λBs _=>h Bs)
 rintro e w2 ⟨rfl,rfl⟩
 refine⟨w'.heap.size,trivial,rfl,(Below.refl _ w').alloc (Nat.le_refl _) _,λr hr=> ?_,.inr ⟨w'.heap.size,0,rfl,⟨Nat.le_refl _,by rw[World.size_alloc];omega⟩,λi r hr j v hv=> ?_⟩⟩
 ·rw[List.mem_singleton.1 hr]
  exact⟨rfl,λv hv=>by rw[List.mem_singleton.1 hv];rfl⟩
 ·match i,j with
  |0,0=>
   simp at hr
   subst hr
   simp at hv
   subst hv
   exact cell_one_new _ _ _ 0 _ rfl
  |i+1,_=>simp at hr
  |0,j+1=>
   simp at hr
   subst hr
   simp at hv
end
theorem adV{a:Addr}{S:bJ}{K:SV->Prop}{v:Value}(hx:∀R w,S.holds R w->w.cell? a=some v)(h:K (.c v)):fu a S K:=by rw[Dc];exact⟨v,hx,h⟩
structure aY.okB(w:World)(v:aY):Prop where
 rows:bf w v.base 1 (aM v.l)
 each:∀s∈v.l,s.ok w
 few:v.l.length<=1000000
theorem aY.okB.later{w w':World}{R:Nat->Prop}{v:aY}(h:v.okB w)(hb:(aH w).holds R w'):v.okB w':=⟨au hb h.rows,λs hs=>(h.each s hs).later hb,h.few⟩
theorem KP(w:World)(u:aj)(hu:u.ok w)(p:Addr)(fb:Option Addr)(fl fc:Nat)(hc:w.cell? p=some (.slice fb fl fc)):Calls Tryz.prog 128 #[u.val,.pointer (some p)] w λe w'=>e= .returned (.bool (decide (u.xs.length≠fl)))/\Ext w w':=by
 refine fq Tryz.func128 [.c u.val,.c (.pointer (some p))] ?_
 (repeat' ((conv=>whnf)<;>first|(show fu ..;(refine adV (λR w' h=>by rw[jw (h _ (iN hc)).2];exact hc) ?_))|(show @dR _ _ _;((refine ag ?_ ?_<;>intro _)))|refine aN ?_))
 all_goals(conv=>whnf)
 all_goals first|exact aX (λ_ _ h=>h) rfl (decide_eq_true aa)|exact aX (λ_ _ h=>h) rfl (decide_eq_false aa)
def anK(l:List aj)(fl:Nat)(i:Nat):Prop:=∀k,k<i->∀h:k<l.length,l[k].xs.length=fl
theorem Qr(w:World)(rv:aY)(hr:rv.okB w)(p:Addr)(fb:Option Addr)(fl fc:Nat)(hc:w.cell? p=some (.slice fb fl fc)):Calls Tryz.prog 154 #[rv.val,.func (.func 128) #[] #[.pointer (some p)]] w λe w'=>(∃k:Int,e= .returned (.int .i64 k)/\(0<=k↔rv.l.any (λu=>decide (u.xs.length≠fl))=true))/\Ext w w':=by
 have hf:=hr.few
 refine fq Tryz.func154 [.c rv.val,.c (.func (.func 128) #[] #[.pointer (some p)])] ?_
 (repeat' ((conv=>whnf)<;>first|refine aN ?_|refine ag ?_ ?_<;>intro _))
 refine Wp.loop (σ:=Nat) 0 (λi=>[(0,.c rv.val),(1,.c (.func (.func 128) #[] #[.pointer (some p)])),(7,ak rv.l.length),(8,ak i)]) (λ_=>[]) (λ_=>aH w)
  (λi=>anK rv.l fl i) (λi=>rv.l.length-i) 0 [] aS (λs=>⟨rfl,rfl⟩) (λk hk=>absurd hk (Nat.not_lt_zero k)) ⟨rfl,aU,trivial,λ_ _ h=>h⟩ ?_
 intro i hi
 by_cases hlt:i<rv.l.length
 ·obtain⟨ra,hra⟩:∃a,rv.base=some a:=aI (j:=i) hr.rows RN
  have hou:=hr.each rv.l[i] (List.getElem_mem hlt)
  by_cases hne:rv.l[i].xs.length=fl
  ·(repeat' ((conv=>whnf)<;>first|(show bC ..;refine ax ra i hra rfl hlt ?_)|refine akU ?_|(show aC _ 128 ..;(refine aJ (f:=128) Tryz.call128 (.bool false) (λρ w' hw=>by have:=KP w' rv.l[i] (ae hw λR h=>hou.later h) p fb fl fc (ae hw λR h=>by rw[jw (h _ (iN hc)).2];exact hc);rw[decide_eq_false aa]at this;exact this) ?_))|refine aN ?_|refine ag ?_ ?_<;>intro _))
   all_goals(conv=>whnf)
   all_goals refine⟨i+1,[],λk hk h=> ?_,by omega,rfl,aU,trivial,λ_ _ h=>h⟩
   rcases Nat.lt_or_ge k i with h1|h1
   ·exact hi k h1 h
   ·obtain rfl:k=i:=by omega
    exact hne
  ·(repeat' ((conv=>whnf)<;>first|(show bC ..;refine ax ra i hra rfl hlt ?_)|refine akU ?_|(show aC _ 128 ..;(refine aJ (f:=128) Tryz.call128 (.bool true) (λρ w' hw=>by have:=KP w' rv.l[i] (ae hw λR h=>hou.later h) p fb fl fc (ae hw λR h=>by rw[jw (h _ (iN hc)).2];exact hc);rw[decide_eq_true aa]at this;exact this) ?_))|refine aN ?_|refine ag ?_ ?_<;>intro _))
   all_goals(conv=>whnf)
   refine dz λρ w' hw=>⟨⟨i,rfl,λ_=>List.any_eq_true.2 ⟨rv.l[i],List.getElem_mem hlt,by simpa using hne⟩,λ_=>by omega⟩,aV hw (λ_ _ h=>h)⟩
 ·(repeat' ((conv=>whnf)<;>first|refine aN ?_|refine ag ?_ ?_<;>intro _))
  all_goals(conv=>whnf)
  refine dz λρ w' hw=>⟨⟨-1,rfl,λh=>absurd h aS,λh=> ?_⟩,aV hw (λ_ _ h=>h)⟩
  obtain⟨u,hu,hx⟩:=List.any_eq_true.1 h
  obtain⟨k,hk,rfl⟩:=List.mem_iff_getElem.1 hu
  exact absurd (hi k aa hk) (by simpa using hx)
theorem Hl(w:World)(rv:aY)(hr:rv.okB w)(p:Addr)(fb:Option Addr)(fl fc:Nat)(hc:w.cell? p=some (.slice fb fl fc)):Calls Tryz.prog 127 #[rv.val,.func (.func 128) #[] #[.pointer (some p)]] w λe w'=>e= .returned (.bool (rv.l.any λu=>decide (u.xs.length≠fl)))/\Ext w w':=by
 refine fq Tryz.func127 [.c rv.val,.c (.func (.func 128) #[] #[.pointer (some p)])] ?_
 (repeat' ((conv=>whnf)<;>first|(show aC _ 154 ..;refine Nw (f:=154) Tryz.call154 (λk:Int=> .int .i64 k) (λk=>0<=k↔rv.l.any (λu=>decide (u.xs.length≠fl))=true) (λρ w' hw=> ?_) (λk hk=> ?_))|refine aN ?_|refine ag ?_ ?_<;>intro _))
 ·refine(Qr w' rv (ae hw λR h=>hr.later h) p fb fl fc (ae hw λR h=>by rw[jw (h _ (iN hc)).2];exact hc)).mono ?_
  rintro e w2 ⟨⟨k,h1,h2⟩,h3⟩
  exact⟨k,h2,h1,h3⟩
 all_goals(conv=>whnf)
 all_goals rename_i h0
 ·exact aX (λ_ _ h=>h) rfl (hk.1 h0)
 ·exact aX (λ_ _ h=>h) rfl (Bool.eq_false_iff.2 λh=>h0 (hk.2 h))
def adW:Go.Shelf.Ren:=⟨λ|189=>161|125=>167|257=>166|128=>177|129=>164|294=>168|295=>169|296=>170|297=>171|298=>172|299=>173|216=>174|300=>175|301=>176|328=>178|329=>179|330=>180|331=>181|332=>182|215=>183|343=>184|n=>n,λ|28=>32|3=>3|46=>148|0=>0|51=>203|53=>59|4=>4|183=>197|182=>196|131=>162|5=>5|9=>9|218=>204|222=>208|228=>210|229=>211|n=>n,λ|n=>n⟩
theorem TJ:Go.Proofs.Lays.n189 Tryz.prog adW:={
 mixed:=by kernel_rfl
 f125:=Tryz.func167.trans (congrArg some jf)
 f128:=Tryz.func177.trans (congrArg some jf)
 f129:=Tryz.func164.trans (congrArg some jf)
 f189:=Tryz.func161.trans (congrArg some jf)
 f215:=Tryz.func183.trans (congrArg some jf)
 f216:=Tryz.func174.trans (congrArg some jf)
 f257:=Tryz.func166.trans (congrArg some jf)
 f294:=Tryz.func168.trans (congrArg some jf)
 f295:=Tryz.func169.trans (congrArg some jf)
 f296:=Tryz.func170.trans (congrArg some jf)
 f297:=Tryz.func171.trans (congrArg some jf)
 f298:=Tryz.func172.trans (congrArg some jf)
 f299:=Tryz.func173.trans (congrArg some jf)
 f300:=Tryz.func175.trans (congrArg some jf)
 f301:=Tryz.func176.trans (congrArg some jf)
 f328:=Tryz.func178.trans (congrArg some jf)
 f329:=Tryz.func179.trans (congrArg some jf)
 f330:=Tryz.func180.trans (congrArg some jf)
 f331:=Tryz.func181.trans (congrArg some jf)
 f332:=Tryz.func182.trans (congrArg some jf)
 f343:=Tryz.func184.trans (congrArg some jf)
 t0:=Tryz.underlying0
 a0:=Tryz.isAgg0
 z0:=Tryz.sizeOf0
 v0:=Tryz.zeroValue0
 t3:=Tryz.underlying3
 a3:=Tryz.isAgg3
 z3:=Tryz.sizeOf3
 v3:=Tryz.zeroValue3
 t4:=Tryz.underlying4
 a4:=Tryz.isAgg4
 z4:=Tryz.sizeOf4
 v4:=Tryz.zeroValue4
 t5:=Tryz.underlying5
 a5:=Tryz.isAgg5
 z5:=Tryz.sizeOf5
 v5:=Tryz.zeroValue5
 t9:=Tryz.underlying9
 a9:=Tryz.isAgg9
 z9:=Tryz.sizeOf9
 v9:=Tryz.zeroValue9
 t28:=Tryz.underlying32
 a28:=Tryz.isAgg32
 z28:=Tryz.sizeOf32
 v28:=Tryz.zeroValue32
 t46:=Tryz.underlying148
 a46:=Tryz.isAgg148
 z46:=Tryz.sizeOf148
 v46:=Tryz.zeroValue148
 t51:=Tryz.underlying203
 a51:=Tryz.isAgg203
 z51:=Tryz.sizeOf203
 v51:=Tryz.zeroValue203
 t53:=Tryz.underlying59
 a53:=Tryz.isAgg59
 z53:=Tryz.sizeOf59
 v53:=Tryz.zeroValue59
 t131:=Tryz.underlying162
 a131:=Tryz.isAgg162
 z131:=Tryz.sizeOf162
 v131:=Tryz.zeroValue162
 t182:=Tryz.underlying196
 a182:=Tryz.isAgg196
 z182:=Tryz.sizeOf196
 v182:=Tryz.zeroValue196
 t183:=Tryz.underlying197
 a183:=Tryz.isAgg197
 z183:=Tryz.sizeOf197
 v183:=Tryz.zeroValue197
 t218:=Tryz.underlying204
 a218:=Tryz.isAgg204
 z218:=Tryz.sizeOf204
 v218:=Tryz.zeroValue204
 t222:=Tryz.underlying208
 a222:=Tryz.isAgg208
 z222:=Tryz.sizeOf208
 v222:=Tryz.zeroValue208
 t228:=Tryz.underlying210
 a228:=Tryz.isAgg210
 z228:=Tryz.sizeOf210
 v228:=Tryz.zeroValue210
 t229:=Tryz.underlying211
 a229:=Tryz.isAgg211
 z229:=Tryz.sizeOf211
 v229:=Tryz.zeroValue211}
def adX:Go.Shelf.Ren:=⟨λ|20=>153|n=>n,λ|22=>32|3=>3|4=>4|0=>0|n=>n,λ|n=>n⟩
theorem TK:Go.Proofs.Lays2.n20 Tryz.prog adX:={
 mixed:=by kernel_rfl
 f20:=Tryz.func153.trans (congrArg some jf)
 t0:=Tryz.underlying0
 a0:=Tryz.isAgg0
 z0:=Tryz.sizeOf0
 v0:=Tryz.zeroValue0
 t3:=Tryz.underlying3
 a3:=Tryz.isAgg3
 z3:=Tryz.sizeOf3
 v3:=Tryz.zeroValue3
 t4:=Tryz.underlying4
 a4:=Tryz.isAgg4
 z4:=Tryz.sizeOf4
 v4:=Tryz.zeroValue4
 t22:=Tryz.underlying32
 a22:=Tryz.isAgg32
 z22:=Tryz.sizeOf32
 v22:=Tryz.zeroValue32
 i3:=by kernel_rfl}
open Go.Sort
section
variable {w:World} {g off i:Nat} {os:Array Obj} {cur:Array Value} {T:TypeId} {xs:List Int}
theorem heap_put{n:Nat}{e:TypeId}{fr:Nat×Nat}(d:Array Int)(hb:w.heap[g]? =some (.cells cur e fr)):
 (grow (putRow (Value.int .i64) (Sort.ahead w n) g off d) os).heap[g]? =some (.cells (putCells (Value.int .i64) off d cur) e fr):=by
 have hg:g<w.heap.size:=(Array.getElem?_eq_some_iff.1 hb).1
 rw[heap_grow_old _ _ (by simpa using hg)]
 simp[putRow,mapBlock,Sort.ahead,Array.getElem?_modify,hb,onCells]
theorem adY{n:Nat}(d:Array Int){F:Nat->Prop}(hF:∀x,F x↔x=g):Step F w (grow (putRow (Value.int .i64) (Sort.ahead w n) g off d) os):=by
 refine⟨rfl,rfl,rfl,by simp,λk hk hne=> ?_⟩
 rw[heap_grow_old _ _ (by simpa using hk)]
 have:g≠k:=λe=>hne ((hF k).2 e.symm)
 simp[putRow,mapBlock,Sort.ahead,Array.getElem?_modify,this]
theorem get_put{zs:List Int}(hi:i<zs.length)(hc:off+zs.length<=cur.size):(putCells (Value.int .i64) off zs.toArray cur)[off+i]? =some (.int .i64 zs[i]):=by
 have h1:off+i<cur.size:=by omega
 simp[putCells,h1,hi]
theorem aaC{b:Nat}{c:Array Value}(hh:w.heap[b]? =some (.cells c T (0,0)))(hc:∀i r,(ints xs)[i]? =some r->∀j v,r[j]? =some v->c[off+i*1+j]? =some v):Holds (Value.int .i64) w b off xs.toArray:=by
 intro j hj
 have hj':j<xs.length:=by simpa using hj
 have:=hc j _ (d9 hj') 0 _ rfl
 rw[Nat.mul_one,Nat.add_zero]at this
 constructor
 ·simp only[World.cell?,hh]
  simp[this,hj']
 ·simp[World.frozen?,hh]
theorem TL{cx:Cx}{f:FuncId}{H:Heap}{S:bJ}{nx m:Nat}{ys:List Int}{K:SV->Heap->bJ->Nat->Prop}(hf:∀ar w,(callFunc f ar).run cx.P w= .ok (.enter f ar) w)(hi:(i,bU.rows (ints xs) 1 T)∈H)(hm:m=xs.length)(hy:ys.length=xs.length)(res:SX.Loc->Value)(u:SV)(hu:u.lt nx)(hres:∀ρ,u.rf ρ=res (ρ i))
 (h0:∀cap w,xs=[]->Calls cx.P f #[.slice none 0 cap] w λe w'=>e= .returned (res ⟨none,cap⟩)/\w'=w)
 (hc:∀b off cap w,Holds (Value.int .i64) w b off xs.toArray->b<w.heap.size->xs.length<=cap->Calls cx.P f #[.slice (some ⟨b,off,none⟩) xs.length cap] w λe w'=>e= .returned (res ⟨some ⟨b,off,none⟩,cap⟩)/\∃n os,w'=grow (putRow (Value.int .i64) (Sort.ahead w n) b off ys.toArray) os)
 (h:K u (setH i (.rows (ints ys) 1 T) H) S nx):aC cx f [.os i m] H S nx K:=by
 rw[gI]
 refine⟨hf,λρ w hw=> ?_⟩
 subst hm
 have hA:=hw
 obtain⟨R,φ,hw⟩:=hw
 have hent:=hw.kS _ hi
 obtain⟨hr,hcap,hent⟩:=hent
 rw[aF]at hcap
 simp only at hcap
 have hargs:(SV.d_ ρ [.os i xs.length]).toArray= #[.slice (ρ i).base xs.length (ρ i).cap]:=rfl
 rw[hargs]
 rcases hent with⟨hb,hc0,hF⟩|⟨b,off,c,hb,hF,hh,hsz,hcell⟩
 ·simp only at hb hc0
  have hx:xs=[]:=List.eq_nil_of_length_eq_zero aa
  have hy0:ys=[]:=List.eq_nil_of_length_eq_zero (by rw[hy,hx];rfl)
  subst hx hy0
  rw[hb]
  refine(h0 (ρ i).cap w rfl).mono ?_
  rintro e w' ⟨rfl,rfl⟩
  refine⟨u,ρ,_,S,nx,?_,λ_ _=>rfl,Nat.le_refl _,hu,dY.store hA hi (λy hy=>by simp[bU.hass]at hy) λF hF'=>⟨⟨rfl,rfl,rfl,Nat.le_refl _,λ_ _ _=>rfl⟩,hF'⟩,h⟩
  rw[hres,<-hb]
 ·simp only at hb hF hsz
  rw[hb]
  have hH:=aaC hh hcell
  have hbl:=(Array.getElem?_eq_some_iff.1 hh).1
  refine(hc b off (ρ i).cap w hH hbl hcap).mono ?_
  rintro e w' ⟨rfl,n,os,rfl⟩
  refine⟨u,ρ,_,S,nx,by rw[hres,<-hb],λ_ _=>rfl,Nat.le_refl _,hu,dY.store hA hi (λy hy=>by simp[bU.hass]at hy) λF hF'=> ?_,h⟩
  obtain⟨_,_,hF2⟩:=hF'
  rcases hF2 with⟨g1,_,_⟩|⟨b',off',c',g1,g2,g3,g4,g5⟩
  ·rw[hb]at g1;cases g1
  ·rw[hb]at g1
   simp only[Option.some.injEq,Addr.mk.injEq,and_true]at g1
   obtain⟨rfl,rfl⟩:=g1
   rw[hh]at g3
   obtain rfl:c=c':=by simpa using g3
   refine⟨adY _ g2,kN,by rw[aF,hy];exact hcap,.inr ⟨b,off,_,hb,g2,heap_put _ hh,by simpa[putCells]using hsz,λk r hk j v hj=> ?_⟩⟩
   have hkl:k<ys.length:=by
    have:=(List.getElem?_eq_some_iff.1 hk).1
    rwa[aF]at this
   rw[d9 hkl]at hk
   obtain rfl:[Value.int .i64 ys[k]]=r:=by simpa using hk
   have hj0:j=0:=by
    rcases Nat.eq_zero_or_pos j with h|h
    ·exact h
    ·rw[List.getElem?_eq_none Ym]at hj;cases hj
   subst hj0
   obtain rfl:Value.int .i64 ys[k]=v:=by simpa using hj
   rw[Nat.mul_one,Nat.add_zero]
   exact get_put hkl (by have:off+(ρ i).cap*1<=c.size:=hsz;omega)
end
def jO(l:List Int)(slots:Int):Bool:=decide ((∀x∈l,0<=x/\x<slots)/\l.Nodup)
def Fq(zs:List Int):List Int:=zs.mergeSort λx y=>decide (x<=y)
theorem zY(zs:List Int):(Fq zs).Perm zs:=List.mergeSort_perm _ _
theorem u_(zs:List Int):(Fq zs).length=zs.length:=(zY zs).length_eq
theorem yI(zs:List Int):∀i j (h1:i<(Fq zs).length) (h2:j<(Fq zs).length),i<j->(Fq zs)[i]<=(Fq zs)[j]:=by
 have h:=List.pairwise_mergeSort (le:=λx y:Int=>decide (x<=y)) (λa b c h1 h2=>by simp at*;omega) (λa b=>by simp;omega) zs
 rw[List.pairwise_iff_getElem]at h
 intro i j h1 h2 hij
 exact of_decide_eq_true (h i j h1 h2 hij)
theorem KQ(s:List Int):(Lib.compact s).length=s.length↔∀j (h:j<s.length),j=0\/s[j]≠s[j-1]' aa:=by
 have e:(Lib.compact s).length=((List.range s.length).filter (Lib.keeps s.toArray)).length:=by simp[Lib.compact,Lib.compactUpTo]
 rw[e]
 have e2:=List.length_filter_eq_length_iff (l:=List.range s.length) (p:=Lib.keeps s.toArray)
 rw[List.length_range]at e2
 rw[e2]
 simp only[List.mem_range,Lib.keeps,decide_eq_true_eq]
 constructor
 ·intro h j hj
  rcases h j hj with h|h
  ·exact .inl h
  ·refine .inr ?_
   have h1:j-1<s.length:=by omega
   simpa[hj,h1]using h
 ·intro h j hj
  rcases h j hj with h|h
  ·exact .inl h
  ·refine .inr ?_
   have h1:j-1<s.length:=by omega
   simpa[hj,h1]using h
theorem aaD(zs:List Int):(∀j (h:j<(Fq zs).length),j=0\/(Fq zs)[j]≠(Fq zs)[j-1]' aa)↔zs.Nodup:=by
 rw[<-(zY zs).nodup_iff]
 constructor
 ·intro h
  rw[List.Nodup,List.pairwise_iff_getElem]
  intro i j hi hj hij e
  have h1:=(h j hj).resolve_left aa
  have h2:=yI zs (j-1) j aa hj aa
  rcases Nat.lt_or_ge i (j-1)with g|g
  ·have:=yI zs i (j-1) hi aa g
   omega
  ·have:i=j-1:=by omega
   subst this
   exact h1 e.symm
 ·intro h j hj
  rw[List.Nodup,List.pairwise_iff_getElem]at h
  rcases Nat.eq_zero_or_pos j with g|g
  ·exact .inl g
  ·exact .inr λe=>h (j-1) j aa hj aa e.symm
theorem Qs(slots:Int):jO [] slots=true:=by simp[jO]
theorem Qt{zs:List Int}(slots:Int)(hz:0<zs.length):jO zs slots=true↔0<=(Fq zs).getD 0 0/\(Fq zs).getD (zs.length-1) 0<slots/\(Lib.compact (Fq zs)).length=zs.length:=by
 have hl:=u_ zs
 rw[show(Lib.compact (Fq zs)).length=zs.length↔zs.Nodup from by rw[<-u_ zs,KQ,aaD]]
 rw[jO,decide_eq_true_eq,<-and_assoc]
 refine and_congr_left λ_=> ?_
 have e0:(Fq zs).getD 0 0=(Fq zs)[0]:=by simp[List.getD,show 0<(Fq zs).length by omega]
 have e1:(Fq zs).getD (zs.length-1) 0=(Fq zs)[zs.length-1]:=by simp[List.getD,show zs.length-1<(Fq zs).length by omega]
 rw[e0,e1]
 constructor
 ·intro h
  exact⟨(h _ ((zY zs).mem_iff.1 (List.getElem_mem _))).1,(h _ ((zY zs).mem_iff.1 (List.getElem_mem _))).2⟩
 ·rintro⟨h1,h2⟩ x hx
  obtain⟨k,hk,rfl⟩:=List.mem_iff_getElem.1 ((zY zs).mem_iff.2 hx)
  constructor
  ·rcases Nat.eq_zero_or_pos k with g|g
   ·subst g;exact h1
   ·have:=yI zs 0 k aa hk g;omega
  ·rcases Nat.lt_or_ge k (zs.length-1)with g|g
   ·have:=yI zs k (zs.length-1) hk aa g;omega
   ·have:k=zs.length-1:=by omega
    subst this;exact h2
section
variable {cx:Cx} {H:Heap} {S:bJ} {nx i m:Nat} {T:TypeId} {xs:List Int} {K:SV->Heap->bJ->Nat->Prop}
theorem aaE(hP:cx.P=Tryz.prog)(hi:(i,bU.rows (ints xs) 1 T)∈H)(hm:m=xs.length)(hl:xs.length<=1000000)
 (h:K (.c (.tuple #[])) (setH i (.rows (ints (Fq xs)) 1 T) H) S nx):aC cx 161 [.os i m] H S nx K:=by
 obtain⟨P,B,n,tb⟩:=cx
 simp only at hP
 subst hP
 refine TL Tryz.call161 hi hm (u_ xs) (λ_=> .tuple #[]) (.c (.tuple #[])) (SV.ji _) (λ_=>rfl) (λcap w hx=> ?_) (λb off cap w hH hb hc=> ?_) h
 ·exact Any.slices_Sort_int_none TJ none cap w
 ·exact Any.slices_Sort_int TJ b off cap xs w hH hb aa
theorem Qu(hP:cx.P=Tryz.prog)(hi:(i,bU.rows (ints xs) 1 T)∈H)(hin:i<nx)(hm:m=xs.length)(hl:xs.length<=1000000)
 (h:∀ys,K (.os i (Lib.compact xs).length) (setH i (.rows (ints ys) 1 T) H) S nx):aC cx 153 [.os i m] H S nx K:=by
 obtain⟨P,B,n,tb⟩:=cx
 simp only at hP
 subst hP
 have hle:(Lib.compact xs).length<=xs.length:=by
  simp only[Lib.compact,Lib.compactUpTo,List.length_map]
  refine Nat.le_trans (List.length_filter_le _ _) fC
 refine TL Tryz.call153 hi hm (ys:=Lib.compact xs++List.replicate (xs.length-(Lib.compact xs).length) 0) (by rw[List.length_append,List.length_replicate];omega) (λl=> .slice l.base (Lib.compact xs).length l.cap) (.os i (Lib.compact xs).length) (SV.yX hin) (λ_=>rfl) (λcap w hx=> ?_) (λb off cap w hH hb hc=> ?_) (h _)
 ·subst hx
  exact Any.slices_Compact_int_empty TK none cap w
 ·refine(Any.slices_Compact_int TK b off cap xs w hH aa hc).mono ?_
  rintro e w' ⟨h1,q,rfl⟩
  exact⟨h1,q,#[],by rw[grow_empty]⟩
def anL(w:World)(l:List Int)(e:Ending)(w':World):Prop:=∃v,e= .returned v/\Ext w w'/\j_ w w' v 1 3 (ints l)
theorem WL(w:World)(Bs:Nat)(base:Option Addr)(cap:Nat)(zs:List Int)(hl:zs.length<=1000000)(hBs:Bs<w.heap.size)(hc:w.cell? ⟨Bs,0,none⟩=some (.slice base zs.length cap))(hI:IntsIn w base zs):
 Calls Tryz.prog 151 #[.func (.func 162) #[] #[.pointer (some ⟨Bs,0,none⟩)]] w (anL w (Fq zs)):=by
 refine fq Tryz.func151 [.c (.func (.func 162) #[] #[.pointer (some ⟨Bs,0,none⟩)])] ?_
 (repeat' ((conv=>whnf)<;>first|refine aN ?_))
 refine wW (f:=160) Tryz.call160 1 3 (λ_:Unit=>ints zs) (λ_=>True) (λρ w' hw=> ?_) (λ_ _=> ?_)
 ·have he:=aV hw (λ_ _ h=>h)
  refine(TG w' Bs base cap zs aa (Nat.lt_of_lt_of_le hBs he.size) ((he.cell (p:=⟨Bs,0,none⟩) hBs).trans hc) (hI.below he)).mono ?_
  rintro e w2 ⟨v,h1,h2,h3⟩
  exact⟨(),trivial,v,h1,h3,h2⟩
 (repeat' ((conv=>whnf)<;>first|(show aC _ 161 ..;refine aaE rfl (xs:=zs) List.mem_cons_self (aF zs) hl ?_)|refine aN ?_))
 all_goals(conv=>whnf)
 refine dz λρ w' hw=>⟨_,rfl,aV hw (λ_ _ h=>h),?_⟩
 have:=dF hw (λ_ _ h=>h) (i:=0) (xs:=ints (Fq zs)) (k:=1) (T:=3) aQ
 rw[aF,u_]at this
 rw[aF]
 exact this
theorem lY{j:Nat}{K:Value->Prop}(hj:j<xs.length)(h:K (.int .i64 (xs.getD j 0))):kC (ints xs) j 0 K:=by
 refine row_of _ _ (d9 hj) rfl ?_
 have e:xs.getD j 0=xs[j]:=by simp[List.getD,hj]
 rw[<-e];exact h
theorem KR(w:World)(u:aj)(hu:u.ok w)(slots:Int):Calls Tryz.prog 126 #[u.val,.int .i64 slots] w λe w'=>e= .returned (.bool (jO u.xs slots))/\Ext w w':=by
 have hf:=hu.few
 have hI:=hu.within
 refine fq Tryz.func126 [.c u.val,ak slots] ?_
 (repeat' ((conv=>whnf)<;>first|refine aN ?_))
 refine TH u.base u.xs.length u.cap rfl (λBs=> ?_)
 (repeat' ((conv=>whnf)<;>first|refine aN ?_))
 refine wW (f:=151) Tryz.call151 1 3 (λ_:Unit=>ints (Fq u.xs)) (λ_=>True) (λρ w' hw=> ?_) (λ_ _=> ?_)
 ·have he:=aV hw (λ_ _ h=>h.1)
  have hc:w'.cell? ⟨Bs,0,none⟩=some (.slice u.base u.xs.length u.cap):=ae hw λR h=>by
   rcases h.2.2 with h|⟨b,off,e,_,hcc⟩
   ·simp at h
   ·have:=hcc 0 _ rfl 0 _ rfl
    simp only[Option.some.injEq,Addr.mk.injEq,and_true]at e
    rw[e.1,e.2]
    simpa using this
  refine(WL w' Bs u.base u.cap u.xs hf (Zb hc) hc (hI.below he)).mono ?_
  rintro e w2 ⟨v,h1,h2,h3⟩
  exact⟨(),trivial,v,h1,h2,h3⟩
 have hsl:=u_ u.xs
 have hil:=aF (Fq u.xs)
 by_cases h0:u.xs.length=0
 ·have hx:u.xs=[]:=List.eq_nil_of_length_eq_zero h0
  (repeat' ((conv=>whnf)<;>first|(show @dR _ _ _;(first|refine bA vD ?_))|refine aN ?_))
  all_goals(conv=>whnf)
  all_goals exact aX (λ_ _ h=>h.1) rfl (by rw[hx];exact Qs slots)
 ·have hp:=Qt slots (zs:=u.xs) aa
  (repeat' ((conv=>whnf)<;>first|(show @dR _ _ _;(first|refine cK vD ?_|(refine ag ?_ ?_<;>intro _)))|(show bV ..;(first|refine aT 0 rfl vD (Nat.le_refl _) ?_|refine aT (u.xs.length-1) aa aa (Nat.le_refl _) ?_))|(show kC ..;(first|refine lY (xs:=Fq u.xs) (j:=0) aa ?_|refine lY (xs:=Fq u.xs) (j:=u.xs.length-1) aa ?_))|(show aC _ 153 ..;refine Qu rfl (xs:=Fq u.xs) List.mem_cons_self aa (aF _) aa (λys=> ?_))|refine aN ?_))
  all_goals(conv=>whnf)
  ·exact aX (λ_ _ h=>h.1) rfl (hp.2 ⟨by omega,by omega,by omega⟩)
  all_goals exact aX (λ_ _ h=>h.1) rfl (Bool.eq_false_iff.2 λh=>by have:=hp.1 h;omega)
end
abbrev alO:Go.SX.DT:=(eF [0,1,2,3,4,5,6,7,8,9,10,11,12,13,14,15,16,117,118] .done)
section
variable {R:Nat->Prop} {w:World} {c:dM} {s:cZ}
structure sw(c:dM)(s:cZ):Prop where
 ay:∀p∈s.ay,p.a_
 inputs:∀x∈s.inputs,x.slots∈c.bH.l/\i64 x.lo/\i64 x.hi
def D6(old new:List aj):bJ where
 holds R w:=∀u∈new,u∈old\/(bn u).holds R w
 stable:=λhR hw h u hu=>(h u hu).imp id ((bn u).stable hR hw)
theorem lG(l:List aj)(R:Nat->Prop)(w:World):(D6 l l).holds R w:=λ_ hu=> .inl hu
theorem OD{a b:List aj}{G:Nat->Prop}(h1:(dP a).holds R w)(h2:((D6 a b).off G).holds R w):(dP b).holds R w:=λu hu=>(h2 u hu).elim (h1 u) (λh=>(bn u).mono h (λb hb=>hb.1))
abbrev ou(w:World)(ρ:Nat->SX.Loc)(F:Nat->Prop)(c:dM)(s:cZ)(vl:List Int)(r:fF×Int):=Ba w ρ F (λx:cZ×Int=>ak x.2) (λx=>kR c x.1 vl) (λx=>D6 s.ay x.1.ay) (λx=>x.1.pl=r.1/\x.2=r.2/\sw c x.1)
theorem qA(h:sw c s)(op a b k:Int):sw c (cu s op a b k):=⟨h.ay,h.inputs⟩
theorem nN(h:sw c s){u:aj}(hu:u.a_):sw c (az s u).1:=by
 unfold az
 split
 ·exact h
 ·refine⟨λp hp=> ?_,h.inputs⟩
  rcases List.mem_append.1 hp with hp|hp
  ·exact h.ay p hp
  ·rw[List.mem_singleton.1 hp];exact hu
theorem WM(s:cZ)(u:aj)(hu:(bn u).holds R w):(D6 s.ay (az s u).1.ay).holds R w:=by
 unfold az
 split
 ·exact lG _ R w
 ·intro v hv
  rcases List.mem_append.1 hv with hv|hv
  ·exact .inl hv
  ·rw[List.mem_singleton.1 hv];exact .inr hu
theorem WN(s:cZ)(u:aj):(az s u).1.ay.length<=s.ay.length+1:=by
 unfold az;split<;>simp
structure lH(c:dM)(s:cZ)(vl:List Int):Prop where
 slots:1<=c.slots/\c.slots<=4096
 ok:sw c s
 qM:s.ay.length<=500000
 lM:s.code.length<=500000
 Ho:s.inputs.length<=500000
theorem agp(c:dM)(s:cZ)(vl:List Int)(n:ai)(i:Nat)(hN:lH c s vl)(h0:0<=n.a/\0<=n.b)(ha:n.a.toNat<vl.length)(hb:n.b.toNat<vl.length)(w:World)(ρ:Nat->SX.Loc)(F:Nat->Prop)(h:iW w ρ F 2 5 (kR c s vl) dW):
 Calls Tryz.prog 29 (SV.d_ ρ [.lp 0 0 0 0,.agg (jM n),ak i]).toArray w (ou w ρ F c s vl (bI s.pl 3 (vl.getD n.a.toNat 0) (vl.getD n.b.toNat 0) 0)):=by
 have hcl:=hN.lM
 refine Es Tryz.func29 (mq 2 ρ) ρ [.lp 0 0 0 0,.agg (jM n),ak i] (kR c s vl) (dW.and (f_ w F)) 5 h.abs ?_
 (repeat' ((conv=>whnf)<;>first|(show cO _ 1 ..;refine mE [17,18] _ alO ?_)|(show bV ..;(first|refine aT n.a.toNat aa ha zf ?_|refine aT n.b.toNat aa hb zf ?_))|(show kC ..;(first|refine lY ha ?_|refine lY hb ?_))|(show aC _ 68 ..;(refine su [(0,some 0),(1,some 1),(2,some 2),(3,some 3),(4,some 4)] c s vl dW [.lp 0 0 0 0,ak 3,ak (vl.getD n.a.toNat 0),ak (vl.getD n.b.toNat 0),ak 0] _ _ _ _ Tryz.call68 rfl aU ⟨_,rfl⟩ ⟨_,rfl⟩ rfl (λR w' h=>trivial) (dU w F) (λR w' h b hb=>(h.2 b hb).1) (λw' ρ' F' h'=>gN c s vl 3 (vl.getD n.a.toNat 0) (vl.getD n.b.toNat 0) 0 aa w' ρ' F' h') (λ_ _=> ?_)))|refine aZ ?_))
 all_goals(conv=>whnf)
 all_goals exact eU _ _ _ _ (cu s 3 (vl.getD n.a.toNat 0) (vl.getD n.b.toNat 0) 0,(s.code.length:Int)) [(2,some 8),(3,some 9),(4,some 10)] ⟨rfl,rfl,qA hN.ok _ _ _ _⟩ aS rfl rfl rfl rfl aU (λR w' h=>⟨h.1.2,lG _ _ _⟩)
end
abbrev alP:Go.SX.DT:=(eF [0,1,5,6,9,10,11,12,13,14] (.alt 2 (.alt 3 (.alt 4 (eF [7,8,115,116,117,18] .done) (.one 15 (.alt 4 (eF [7,8,116,117,18] .done) (eF [116,104,7,8,117,18] .done)))) (.one 15 (.alt 3 (.alt 4 (eF [7,8,116,117,18] .done) (eF [116,104,7,8,117,18] .done)) (eF [116,103,104,7,8,117,18] .done)))) (.one 15 (.alt 2 (.alt 3 (.alt 4 (eF [7,8,116,117,18] .done) (eF [116,104,7,8,117,18] .done)) (eF [116,103,104,7,8,117,18] .done)) (eF [116,102,103,104,7,8,117,18] .done)))))
section
variable {R:Nat->Prop} {w:World} {s:cZ} {u:aj}
def vZ(p:World->Prop):bJ where
 holds R w:=∃E:bJ,E.holds R w/\∀R' w',E.holds R' w'->p w'
 stable:=λhR hw ⟨E,h1,h2⟩=>⟨E,E.stable hR hw h1,h2⟩
theorem fK{p:World->Prop}(h:(vZ p).holds R w):p w:=by
 obtain⟨E,h1,h2⟩:=h
 exact h2 R w h1
def tC(u:aj):bJ:=vZ λw=>bf w u.base 1 (ints u.xs)
def TM(n:ai):bJ:=(tC n.shape).and ((tC n.data).and (tC n.aG))
abbrev BO(c:dM)(s:cZ)(n:ai):bJ:=((dP s.ay).and (u7 c)).and (TM n)
theorem zZ{cx:Cx}(hP:cx.P=Tryz.prog){args:List SV}{H:Heap}{S:bJ}{nx:Nat}{K:SV->Heap->bJ->Nat->Prop}(θ:Map)(c:dM)(s:cZ)(vl:List Int)(g:FuncId)(cells:List Value)(Tb:TypeId)(i:Nat)(f:Nat->Int)(E:bJ)(sp:aj)(hn:c.slots<=4096)(hs:∀p∈s.ay,p.a_)(hl:s.ay.length<=1000000)(hi:c.bH.l[i]? =some sp)(zb:sp.a_)(hb:∀x∈sp.xs,0<=x/\x<c.slots)(hff:∀e,e<sp.xs.length->i64 (f e))
 (hg:∀ar w,(callFunc g ar).run Tryz.prog w= .ok (.enter g ar) w)
 (hof:∀R w' b (e:Nat),e<sp.xs.length->w'.heap[b]? =some (.cells cells.toArray Tb (0,0))->E.holds R w'->Calls Tryz.prog g #[.int .i64 e,.pointer (some ⟨b,0,none⟩)] w' λen w''=>en= .returned (.int .i64 (f e))/\Ext w' w'')
 (hm:vR 0 θ (kg c s vl cells Tb)=true) (hin:kL θ H (kg c s vl cells Tb)) (h0:∃j,θ.app 0=some j) (h1:∃j,θ.app 1=some j) (ha:args=SV.tQ θ.app [.lp 0 0 0 0,ak i,.fn (.func g) [] [.lp 5 0 0 0]])
 (hA:∀R w,S.holds R w->(((dP s.ay).and (u7 c)).and E).holds R w) (G:Nat->Prop) (hG:∀R w,S.holds R w->∀b,G b->R b)
 (h:∀u:aj,u.xs=jk c.slots sp.xs f->u.a_->K (ak (az s u).2) (tF θ (kg c s vl cells Tb) H++MC (xA 2 nx θ) (kg c (az s u).1 vl cells Tb)) (S.and ((bn u).off G)) (nx+6)):aC cx 69 args H S nx K:=by
 obtain⟨P,B,n,tab⟩:=cx
 subst hP
 refine zV θ 2 6 (kg c s vl cells Tb) (((dP s.ay).and (u7 c)).and E) [.lp 0 0 0 0,ak i,.fn (.func g) [] [.lp 5 0 0 0]] (λu:aj=>ak (az s u).2) (λu=>kg c (az s u).1 vl cells Tb) (λu=>bn u) (λu=>u.xs=jk c.slots sp.xs f/\u.a_) Tryz.call69 hm (Oy _ _ _ _ _) hin (λi hi=> ?_) aS ha hA G hG (λw ρ F h'=>WH c s vl g cells Tb _ f E sp hn hs hl hi zb hb hff hg hof w ρ F h') (λu hu=>h u hu.1 hu.2)
 have:i=0\/i=1:=by omega
 rcases this with rfl|rfl
 ·obtain⟨j,hj⟩:=h0
  exact⟨j,_,hj,aQ⟩
 ·obtain⟨j,hj⟩:=h1
  exact⟨j,_,hj,aQ⟩
theorem KS{c:dM}{sl:List Int}{f:Nat->Int}{op a b:Int}(hu:u.xs=jk c.slots sl f)(hok:sw c (cu (az s u).1 op a b (az s u).2)):
 (cu (az s u).1 op a b (az s u).2).pl=(bI (bg c.slots s.pl sl f).1 op a b (bg c.slots s.pl sl f).2).1/\((az s u).1.code.length:Int)=(bI (bg c.slots s.pl sl f).1 op a b (bg c.slots s.pl sl f).2).2/\sw c (cu (az s u).1 op a b (az s u).2):=by
 have e:=Bb s u
 unfold bg
 rw[<-hu,<-e]
 exact⟨rfl,rfl,hok⟩
theorem qC{G:Nat->Prop}(hu:((bn u).off G).holds R w):((D6 s.ay (az s u).1.ay).off G).holds R w:=WM s u hu
theorem xE(w:World)(b e:Nat)(v:Int)(T:TypeId)(h:w.heap[b]? =some (.cells [Value.int .i64 v].toArray T (0,0))):Calls Tryz.prog 132 #[.int .i64 e,.pointer (some ⟨b,0,none⟩)] w λen w'=>en= .returned (.int .i64 v)/\Ext w w':=by
 have hc:w.cell? ⟨b,0,none⟩=some (.int .i64 v):=by simp[World.cell?,h]
 refine fq Tryz.func132 [ak e,.c (.pointer (some ⟨b,0,none⟩))] ?_
 (repeat' ((conv=>whnf)<;>first|(show fu ..;(refine pX (λR w' h=>by rw[jw (h _ (iN hc)).2];exact hc) ?_))|refine aN ?_))
 all_goals(conv=>whnf)
 all_goals exact bW (λ_ _ h=>h) (λ_=>rfl) rfl
theorem WO(c:dM)(s:cZ)(vl:List Int)(n:ai)(i:Nat)(sp:aj)(hN:lH c s vl)(h0:0<=n.a)(ha:n.a.toNat<vl.length)(hd:n.data.xs.length=1)(hds:n.data.a_)(hi:c.bH.l[i]? =some sp)(zb:sp.a_)(hb:∀x∈sp.xs,0<=x/\x<c.slots)(w:World)(ρ:Nat->SX.Loc)(F:Nat->Prop)(h:iW w ρ F 2 5 (kR c s vl) (BO c s n)):
 Calls Tryz.prog 30 (SV.d_ ρ [.lp 0 0 0 0,.agg (jM n),ak i]).toArray w (ou w ρ F c s vl (bI (bg c.slots s.pl sp.xs (λ_=>n.data.xs.getD 0 0)).1 5 (vl.getD n.a.toNat 0) 0 (bg c.slots s.pl sp.xs (λ_=>n.data.xs.getD 0 0)).2)):=by
 have hcl:=hN.lM
 have hpl:=hN.qM
 have hv64:i64 (n.data.xs.getD 0 0):=by
  rw[List.getD_eq_getElem?_getD,List.getElem?_eq_getElem aa]
  exact hds.fits _ (List.getElem_mem _)
 generalize hv:n.data.xs.getD 0 0=v at*
 refine Es Tryz.func30 (mq 2 ρ) ρ [.lp 0 0 0 0,.agg (jM n),ak i] (kR c s vl) ((BO c s n).and (f_ w F)) 5 h.abs ?_
 refine Wp.know (p:=∃a,n.data.base=some a) (λρ w' hw=>ae hw λR h=>aI (j:=0) (fK h.1.2.2.1) vD) ?_
 rintro⟨da,hda⟩
 (repeat' ((conv=>whnf)<;>first|(show cO _ 1 ..;refine mE [] _ alP ?_ (h6:=List.Sublist.cons_cons _ (List.Sublist.cons _ (List.Sublist.cons_cons _ (List.nil_sublist _)))))|(show iK ..;refine og ?_)|(show bC ..;refine ax da 0 hda rfl aa ?_)|(show fu ..;(refine j6 (λR w' h=>by rw[<-hda];first|exact fK h.1.2.2.1|exact fK h.1.1.2.2.1) (j:=0) aa hv ?_))|(show bV ..;(refine aT n.a.toNat aa ha zf ?_))|(show kC ..;refine lY ha ?_)|(show aC _ 72 ..;(refine o5 fA Tryz.func72 rfl rfl rfl Tryz.call72 rfl (by show 1<=_;decide) ?_))|(show I7 ..;refine C9 ?_)|(show aC _ 69 ..;(refine zZ rfl [(0,some 0),(1,some 1),(2,some 2),(3,some 3),(4,some 4),(5,some 6)] c s vl 132 [.int .i64 v] 3 i (λ_=>v) dW sp hN.slots.2 hN.ok.ay aa hi zb hb (λ_ _=>hv64) Tryz.call132 (λR w' b e _ h _=>xE w' b e v _ h) rfl aU ⟨_,rfl⟩ ⟨_,rfl⟩ rfl (λR w' h=>⟨h.1.1,trivial⟩) (dU w F) (λR w' h b hb=>(h.2 b hb).1) (λu hu fP=> ?_)))|(show aC _ 68 ..;(refine su [(0,some 0),(1,some 1),(2,some 9),(3,some 10),(4,some 11)] c (az s u).1 vl dW [.lp 0 0 0 0,ak 5,ak (vl.getD n.a.toNat 0),ak 0,ak (az s u).2] _ _ _ _ Tryz.call68 rfl aU ⟨_,rfl⟩ ⟨_,rfl⟩ rfl (λR w' h=>trivial) (dU w F) (λR w' h b hb=>(h.1.2 b hb).1) (λw' ρ' F' h'=>gN c (az s u).1 vl 5 (vl.getD n.a.toNat 0) 0 (az s u).2 RQ w' ρ' F' h') (λ_ _=> ?_)))|refine aZ ?_|refine And.intro ?_ ?_))
 all_goals(conv=>whnf)
 all_goals exact eU _ _ _ _ (cu (az s u).1 5 (vl.getD n.a.toNat 0) 0 (az s u).2,((az s u).1.code.length:Int)) [(2,some 15),(3,some 16),(4,some 17)] (KS hu (qA (nN hN.ok fP) _ _ _ _)) aS rfl rfl rfl rfl aU (λR w' h=>⟨h.1.1.2,qC h.1.2⟩)
end
abbrev alQ:Go.SX.DT:=(eF [0,1,2,3,4,5,6,7,8,9,10,11,12,13,14,15,16,17,118,119,120,121,22,123] .done)
theorem TN(w:World)(b e:Nat)(n:ai)(T:TypeId)(he:e<n.data.xs.length)(hd:bf w n.data.base 1 (ints n.data.xs))(h:w.heap[b]? =some (.cells n.cells.toArray T (0,0))):Calls Tryz.prog 71 #[.int .i64 e,.pointer (some ⟨b,0,none⟩)] w λen w'=>en= .returned (.int .i64 (n.data.xs.getD e 0))/\Ext w w':=by
 have hc:w.cell? ⟨b,7,none⟩=some n.data.val:=by simp[World.cell?,h,ai.cells]
 obtain⟨da,hda⟩:∃a,n.data.base=some a:=aI (j:=e) hd (by rw[aF];exact he)
 refine fq Tryz.func71 [ak e,.c (.pointer (some ⟨b,0,none⟩))] ?_
 (repeat' ((conv=>whnf)<;>first|(show bC ..;refine ax da e hda rfl he ?_)|(show fu ..;(first|refine pX (λR w' h=>by show w'.cell? ((Addr.mk b 0 none).add 7)=_;rw[fQ,Nat.zero_add,jw (h _ (iN hc)).2];exact hc) ?_|refine j6 (λR w' h=>by rw[<-hda];exact au h hd) (j:=e) he rfl ?_))|refine aN ?_))
 all_goals(conv=>whnf)
 all_goals exact bW (λ_ _ h=>h) (λ_=>rfl) rfl
theorem aaF(c:dM)(s:cZ)(vl:List Int)(n:ai)(i:Nat)(sp:aj)(hN:lH c s vl)(hd:sp.xs.length<=n.data.xs.length)(hds:n.data.a_)(hi:c.bH.l[i]? =some sp)(zb:sp.a_)(hb:∀x∈sp.xs,0<=x/\x<c.slots)(w:World)(ρ:Nat->SX.Loc)(F:Nat->Prop)(h:iW w ρ F 2 5 (kR c s vl) (BO c s n)):
 Calls Tryz.prog 28 (SV.d_ ρ [.lp 0 0 0 0,.agg (jM n),ak i]).toArray w (ou w ρ F c s vl (bI (bg c.slots s.pl sp.xs (λe=>n.data.xs.getD e 0)).1 2 0 0 (bg c.slots s.pl sp.xs (λe=>n.data.xs.getD e 0)).2)):=by
 have hcl:=hN.lM
 have hpl:=hN.qM
 have hv64:∀e,e<sp.xs.length->i64 (n.data.xs.getD e 0):=λe he=>by
  rw[List.getD_eq_getElem?_getD,List.getElem?_eq_getElem aa]
  exact hds.fits _ (List.getElem_mem _)
 refine Es Tryz.func28 (mq 2 ρ) ρ [.lp 0 0 0 0,.agg (jM n),ak i] (kR c s vl) ((BO c s n).and (f_ w F)) 5 h.abs ?_
 (repeat' ((conv=>whnf)<;>first|(show aC _ 69 ..;(refine zZ rfl [(0,some 0),(1,some 1),(2,some 2),(3,some 3),(4,some 4),(5,some 5)] c s vl 71 n.cells 41 i (λe=>n.data.xs.getD e 0) (TM n) sp hN.slots.2 hN.ok.ay aa hi zb hb hv64 Tryz.call71 (λR w' b e he hh hA=>TN w' b e n _ aa (fK hA.2.1) hh) rfl aU ⟨_,rfl⟩ ⟨_,rfl⟩ rfl (λR w' h=>h.1) (dU w F) (λR w' h b hb=>(h.2 b hb).1) (λu hu fP=> ?_)))|(show aC _ 68 ..;(refine su [(0,some 0),(1,some 1),(2,some 8),(3,some 9),(4,some 10)] c (az s u).1 vl dW [.lp 0 0 0 0,ak 2,ak 0,ak 0,ak (az s u).2] _ _ _ _ Tryz.call68 rfl aU ⟨_,rfl⟩ ⟨_,rfl⟩ rfl (λR w' h=>trivial) (dU w F) (λR w' h b hb=>(h.1.2 b hb).1) (λw' ρ' F' h'=>gN c (az s u).1 vl 2 0 0 (az s u).2 RQ w' ρ' F' h') (λ_ _=> ?_)))|refine aN ?_))
 all_goals(conv=>whnf)
 all_goals exact eU _ _ _ _ (cu (az s u).1 2 0 0 (az s u).2,((az s u).1.code.length:Int)) [(2,some 14),(3,some 15),(4,some 16)] (KS hu (qA (nN hN.ok fP) _ _ _ _)) aS rfl rfl rfl rfl aU (λR w' h=>⟨h.1.1.2,qC h.1.2⟩)
def inpV(s:cZ)(lo hi:Int)(sp:aj):cZ:=⟨s.inputs++[⟨lo,hi,sp⟩],s.ay,s.code⟩
def lI(s:fF)(lo hi:Int)(sl:List Int):fF×Int:=bI ⟨s.inputs++[⟨lo,hi,sl⟩],s.ay,s.code⟩ 1 0 0 s.inputs.length
theorem aaG(c:dM)(s:cZ)(vl:List Int)(n:ai)(i:Nat)(sp:aj)(hN:lH c s vl)(hlo:i64 n.lo)(hhi:i64 n.hi)(hi:c.bH.l[i]? =some sp)(w:World)(ρ:Nat->SX.Loc)(F:Nat->Prop)(h:iW w ρ F 2 5 (kR c s vl) (BO c s n)):
 Calls Tryz.prog 27 (SV.d_ ρ [.lp 0 0 0 0,.agg (jM n),ak i]).toArray w (ou w ρ F c s vl (lI s.pl n.lo n.hi sp.xs)):=by
 have hcl:=hN.lM
 have hpl:=hN.qM
 have hil:=hN.Ho
 refine Es Tryz.func27 (mq 2 ρ) ρ [.lp 0 0 0 0,.agg (jM n),ak i] (kR c s vl) ((BO c s n).and (f_ w F)) 5 h.abs ?_
 have VJ:=(List.getElem?_eq_some_iff.1 hi).1
 have hrow:(aM c.bH.l)[i]? =some [sp.val]:=by unfold aM;rw[List.getElem?_map,hi];rfl
 refine Wp.know (p:=∃a,c.bH.base=some a) (λρ w' hw=>ae hw λR h=>aI (j:=i) (aO h.1.1.2.1) acz) ?_
 rintro⟨sa,hsa⟩
 (repeat' ((conv=>whnf)<;>first|(show cO _ 1 ..;refine mE [23] _ alQ ?_ (h6:=List.Sublist.cons_cons _ (List.Sublist.cons_cons _ (List.Sublist.cons_cons _ (List.Sublist.cons _ (List.Sublist.refl _))))))|(show iK ..;refine og ?_)|(show bC ..;refine ax sa i hsa rfl VJ ?_)|(show fu ..;(refine aW (λR w' h=>by rw[<-hsa];exact aO h.1.1.2.1) _ _ hrow rfl ?_))|(show sH ..;(refine fO acG ?_))|(show fG ..;(refine b_ ahB ?_))|(show jd _ ((_,.rows (List.take s.inputs.length _++_) _ _)::_) _ _ _;refine iG (ys:=iF (s.inputs++[oq.mk n.lo n.hi sp])) (m:=(s.inputs++[oq.mk n.lo n.hi sp]).length) ?_ (Tv s.inputs (oq.mk n.lo n.hi sp)) ahC)|refine aN ?_))
 have hz:(((s.inputs++[oq.mk n.lo n.hi sp]).length:Nat):Int)-1=s.inputs.length:=by rw[List.length_append,List.length_singleton];omega
 (repeat' ((conv=>whnf)<;>first|(show iw ..;(refine agc (y:=(s.inputs.length:Int)) (by rw[hz];exact IntWalk.i64_in _ ⟨by omega,by omega⟩) ?_))|(show aC _ 68 ..;(refine su [(0,some 0),(1,some 1),(2,some 7),(3,some 3),(4,some 4)] c (inpV s n.lo n.hi sp) vl dW [.lp 0 0 0 0,ak 1,ak 0,ak 0,ak s.inputs.length] _ _ _ _ Tryz.call68 rfl aU ⟨_,rfl⟩ ⟨_,rfl⟩ rfl (λR w' h=>trivial) (dU w F) (λR w' h b hb=>(h.2 b hb).1) (λw' ρ' F' h'=>gN c (inpV s n.lo n.hi sp) vl 1 0 0 s.inputs.length (by show s.code.length<=_;omega) w' ρ' F' h') (λ_ _=> ?_)))|refine aN ?_))
 all_goals(conv=>whnf)
 all_goals exact eU _ _ _ _ (cu (inpV s n.lo n.hi sp) 1 0 0 s.inputs.length,(s.code.length:Int)) [(2,some 10),(3,some 11),(4,some 12)] ⟨by unfold lI bI cu inpV cZ.pl;simp[oq.pl],rfl,⟨hN.ok.ay,λx hx=>by
  rcases List.mem_append.1 hx with hx|hx
  ·exact hN.ok.inputs x hx
  ·rw[List.mem_singleton.1 hx];exact⟨List.mem_of_getElem? hi,hlo,hhi⟩⟩⟩ aS rfl rfl rfl rfl aU (λR w' h=>⟨h.1.2,lG _ _ _⟩)
section
variable {cx:Cx} {f:FuncId} {args:List SV} {S:bJ} {nx:Nat} {K:SV->Heap->bJ->Nat->Prop}
def xG(c:dM)(s:cZ)(vl:List Int)(d v i2 i3 i4:Nat):Heap:=[(d,.box [ak c.slots,.os i2 s.inputs.length,.os i3 s.ay.length,.os i4 s.code.length,ak 0,.c (.slice none 0 0),.c (.bool c.giant),.c c.shapes.val,.c c.bH.val,.os v vl.length] 71),(v,.rows (ints vl) 1 3),(i2,.rows (iF s.inputs) 3 92),(i3,.rows (aM s.ay) 1 32),(i4,.rows (iE s.code) 5 43)]
abbrev CJ(d v i2 i3 i4:Nat):Map:=[(0,some d),(1,some v),(2,some i2),(3,some i3),(4,some i4)]
theorem dN{α:Type}(rest:Heap)(d v i2 i3 i4:Nat)(c:dM)(s:cZ)(vl:List Int)(A:bJ)(nT:List SV)(val:α->Value)(s':α->cZ)(D:α->bJ)(p:α->Prop)
 (hf:∀ar w,(callFunc f ar).run cx.P w= .ok (.enter f ar) w) (hm:vR 0 (CJ d v i2 i3 i4) (kR c s vl)=true) (hl:tF (CJ d v i2 i3 i4) (kR c s vl) (rest++xG c s vl d v i2 i3 i4)=rest)
 (ha:args=SV.tQ (CJ d v i2 i3 i4).app nT) (hA:∀R w,S.holds R w->A.holds R w) (G:Nat->Prop) (hG:∀R w,S.holds R w->∀b,G b->R b)
 (hc:∀w ρ F,iW w ρ F 2 5 (kR c s vl) A->Calls cx.P f (SV.d_ ρ nT).toArray w (Ba w ρ F (λx=> .c (val x)) (λx=>kR c (s' x) vl) D p))
 (h:∀x,p x->K (.c (val x)) (rest++xG c (s' x) vl d v (nx+2) (nx+3) (nx+4)) (S.and ((D x).off G)) (nx+5)):aC cx f args (rest++xG c s vl d v i2 i3 i4) S nx K:=by
 have hin:∀q∈xG c s vl d v i2 i3 i4,q∈rest++xG c s vl d v i2 i3 i4:=λq hq=>List.mem_append.2 (.inr hq)
 refine su (CJ d v i2 i3 i4) c s vl A nT (λx=> .c (val x)) s' D p hf hm ⟨hin _ aQ,hin _ aQ,hin _ aQ,hin _ aQ,hin _ aQ,trivial⟩ ⟨_,rfl⟩ ⟨_,rfl⟩ ha hA G hG hc (λx hx=> ?_)
 rw[hl]
 exact h x hx
theorem TP{H:Heap}{K':SV->Heap->bJ->Nat->Prop}(hk:aC cx f args H S nx K')(h:∀v H' S' nx',K' v H' S' nx'->∃H2,H2.Sublist H'/\K v H2 S' nx'):aC cx f args H S nx K:=by
 rw[gI]at hk|-
 refine⟨hk.1,λρ w hw=>(hk.2 ρ w hw).mono ?_⟩
 rintro e w' ⟨v,ρ',H',S',nx',h1,h2,h3,h4,h5,h6⟩
 obtain⟨H2,g1,g2⟩:=h v H' S' nx' h6
 exact⟨v,ρ',H2,S',nx',h1,h2,h3,h4,h5.sub g1 (λ_ _ h=>h),g2⟩
theorem qE(hP:cx.P=Tryz.prog)(rest:Heap)(ib d v i2 i3 i4:Nat)(c:dM)(s:cZ)(vl:List Int)(g:FuncId)(cells:List Value)(Tb:TypeId)(i:Nat)(f:Nat->Int)(E:bJ)(sp:aj)(hn:c.slots<=4096)(hs:∀p∈s.ay,p.a_)(hl:s.ay.length<=1000000)(hi:c.bH.l[i]? =some sp)(zb:sp.a_)(hb:∀x∈sp.xs,0<=x/\x<c.slots)(hff:∀e,e<sp.xs.length->i64 (f e))
 (hg:∀ar w,(callFunc g ar).run Tryz.prog w= .ok (.enter g ar) w)
 (hof:∀R w' b (e:Nat),e<sp.xs.length->w'.heap[b]? =some (.cells cells.toArray Tb (0,0))->E.holds R w'->Calls Tryz.prog g #[.int .i64 e,.pointer (some ⟨b,0,none⟩)] w' λen w''=>en= .returned (.int .i64 (f e))/\Ext w' w'')
 (hm:vR 0 (CJ d v i2 i3 i4++[(5,some ib)]) (kg c s vl cells Tb)=true) (hls:tF (CJ d v i2 i3 i4++[(5,some ib)]) (kg c s vl cells Tb) ((ib,.box (cs cells) Tb)::(rest++xG c s vl d v i2 i3 i4))=rest) (ha:args=SV.tQ (CJ d v i2 i3 i4++[(5,some ib)]:Map).app [.lp 0 0 0 0,ak i,.fn (.func g) [] [.lp 5 0 0 0]])
 (hA:∀R w,S.holds R w->(((dP s.ay).and (u7 c)).and E).holds R w) (G:Nat->Prop) (hG:∀R w,S.holds R w->∀b,G b->R b)
 (h:∀u:aj,u.xs=jk c.slots sp.xs f->u.a_->K (ak (az s u).2) (rest++xG c (az s u).1 vl d v (nx+2) (nx+3) (nx+4)) (S.and ((bn u).off G)) (nx+6)):aC cx 69 args ((ib,.box (cs cells) Tb)::(rest++xG c s vl d v i2 i3 i4)) S nx K:=by
 have hin:∀q∈xG c s vl d v i2 i3 i4,q∈(ib,bU.box (cs cells) Tb)::(rest++xG c s vl d v i2 i3 i4):=λq hq=>List.mem_cons_of_mem _ (List.mem_append.2 (.inr hq))
 refine TP (K':=λw H' S' nx'=>∃u:aj,(u.xs=jk c.slots sp.xs f/\u.a_)/\w=ak (az s u).2/\H'=rest++MC (xA 2 nx (CJ d v i2 i3 i4++[(5,some ib)])) (kg c (az s u).1 vl cells Tb)/\S'=S.and ((bn u).off G)/\nx'=nx+6) (zZ hP (CJ d v i2 i3 i4++[(5,some ib)]) c s vl g cells Tb i f E sp hn hs hl hi zb hb hff hg hof hm ⟨hin _ aQ,hin _ aQ,hin _ aQ,hin _ aQ,hin _ aQ,Ik List.mem_cons_self,trivial⟩ ⟨_,rfl⟩ ⟨_,rfl⟩ ha hA G hG (λu h1 h2=>⟨u,⟨h1,h2⟩,rfl,by rw[hls],rfl,rfl⟩)) ?_
 rintro w H' S' nx' ⟨u,⟨h1,h2⟩,rfl,rfl,rfl,rfl⟩
 refine⟨_,?_,h u h1 h2⟩
 have e:MC (xA 2 nx (CJ d v i2 i3 i4++[(5,some ib)])) (kg c (az s u).1 vl cells Tb)=xG c (az s u).1 vl d v (nx+2) (nx+3) (nx+4)++[(nx+5,(bU.box (cs cells) Tb).ren (xA 2 nx (CJ d v i2 i3 i4++[(5,some ib)])))]:=rfl
 rw[e,<-List.append_assoc]
 exact List.sublist_append_left _ _
end
section
variable {c:dM} {k:Nat} {s:cZ} {u:aj} {R:Nat->Prop} {w:World}
theorem Il{xs:List Int}{j:Nat}{v:Int}{K:Value->Prop}(hj:j<xs.length)(e:xs.getD j 0=v)(h:K (.int .i64 v)):kC (ints xs) j 0 K:=by
 subst e;exact lY hj h
structure lJ(c:dM)(k:Nat)(s:cZ):Prop where
 ok:sw c s
 qM:s.ay.length<=k
 lM:s.code.length<=k
theorem lJ.lay(h:lJ c k s)(op a b x:Int):lJ c (k+1) (cu s op a b x):=⟨qA h.ok _ _ _ _,Nat.le_succ_of_le h.qM,by show(s.code++_).length<=_;rw[List.length_append,List.length_singleton];have:=h.lM;omega⟩
theorem lJ.plain(h:lJ c k s)(hu:u.a_):lJ c (k+1) (az s u).1:=⟨nN h.ok hu,by have:=WN s u;have:=h.qM;omega,by rw[iT];exact Nat.le_succ_of_le h.lM⟩
theorem lJ.zero(h:lJ c k s)(hu:u.a_)(x:Int):lJ c (k+2) (zeroV s u x):=(h.plain hu).lay _ _ _ _
theorem mr(h:(dP s.ay).holds R w)(hu:(bn u).holds R w):(dP (az s u).1.ay).holds R w:=by
 unfold az
 split
 ·exact h
 ·exact WE h hu
theorem gQ{old:List aj}{G:Nat->Prop}(h:((D6 old s.ay).off G).holds R w)(hu:((bn u).off G).holds R w):((D6 old (az s u).1.ay).off G).holds R w:=by
 unfold az
 split
 ·exact h
 ·intro v hv
  rcases List.mem_append.1 hv with hv|hv
  ·exact h v hv
  ·rw[List.mem_singleton.1 hv];exact .inr hu
theorem nO(s:cZ)(op a b k:Int):bI s.pl op a b k=((cu s op a b k).pl,(s.code.length:Int)):=rfl
theorem h_{n:Nat}{sl:List Int}{f:Nat->Int}(hu:u.xs=jk n sl f):bg n s.pl sl f=((az s u).1.pl,(az s u).2):=by
 unfold bg
 rw[<-hu,<-Bb]
theorem yJ{n:Nat}{x:Int}(hu:u.xs=List.replicate n 0):tZ n s.pl x=((zeroV s u x).pl,(s.code.length:Int)):=by
 unfold tZ
 rw[<-hu,<-Bb]
 simp only[nO,iT]
 rfl
end
def TQ:Go.Shelf.Ren:=⟨λ|4=>155|n=>n,λ|0=>0|3=>3|4=>4|9=>9|20=>20|22=>32|25=>3|n=>n,λn=>n⟩
theorem adZ:Go.Proofs.Lays8.n4 Tryz.prog TQ:={
 mixed:=by kernel_rfl
 f4:=⟨ "slices.Grow[[]int,int]",by rfl,Tryz.func155.trans (congrArg some jf)⟩
 t0:=Tryz.underlying0
 a0:=Tryz.isAgg0
 z0:=Tryz.sizeOf0
 v0:=Tryz.zeroValue0
 t3:=Tryz.underlying3
 a3:=Tryz.isAgg3
 z3:=Tryz.sizeOf3
 v3:=Tryz.zeroValue3
 t4:=Tryz.underlying4
 a4:=Tryz.isAgg4
 z4:=Tryz.sizeOf4
 v4:=Tryz.zeroValue4
 t9:=Tryz.underlying9
 a9:=Tryz.isAgg9
 z9:=Tryz.sizeOf9
 v9:=Tryz.zeroValue9
 t20:=Tryz.underlying20
 a20:=Tryz.isAgg20
 z20:=Tryz.sizeOf20
 v20:=Tryz.zeroValue20
 t22:=Tryz.underlying32
 a22:=Tryz.isAgg32
 z22:=Tryz.sizeOf32
 v22:=Tryz.zeroValue32
}
theorem ad1(w:World)(x:Int)(n:Nat)(hx:x=n)(h0:0<n)(hn:n<=1000000000):
 Calls Tryz.prog 155 #[.slice none 0 0,.int .i64 x] w λe w'=>∃v,e= .returned v/\Ext w w'/\j_ w w' v 1 3 []:=by
 subst hx
 have hi:∃i,Tryz.prog.info? 3=some i/\i.zero=some (.int .i64 0)/\i.size=1/\i.bytes=8:=by
  have h:(Tryz.prog.info? 3).map (λi=>(i.zero,i.size,i.bytes))=some (some (.int .i64 0),1,8):=by kernel_rfl
  cases hi:Tryz.prog.info? 3 with
  |none=>rw[hi]at h;cases h
  |some i=>
   rw[hi]at h
   simp only[Option.map_some,Option.some.injEq,Prod.mk.injEq]at h
   exact⟨i,rfl,h⟩
 obtain⟨i,h1,h2,h3,h4⟩:=hi
 refine(Any8.slices_Grow_grow adZ i (.int .i64 0) h1 h2 aa none 0 0 n [] w (Nat.le_refl _) aa (by rw[h4];omega) aa fC (λ_=>rfl) (λa h=>by cases h)).mono ?_
 rintro e w' ⟨rfl,rfl⟩
 refine⟨_,rfl,(Ext.trans (show Ext w w.drew from⟨rfl,rfl,rfl,Nat.le_refl _,λ_ _=>rfl⟩) (EI w.drew _)),⟨some ⟨w.heap.size,0,none⟩,_⟩,rfl,λb=>b=w.heap.size,λb hb=>by omega,by simp,Nat.zero_le _,.inr ⟨w.heap.size,0,_,rfl,λ_=>Iff.rfl,nH w.drew _,?_,?_⟩⟩
 ·have:=grownCap_le w (0+n) 0 3
  show 0+grownCap w (0+n) 0 3*1<=_
  have e:TQ.t 25=3:=rfl
  rw[e]
  simp[Builtin.zeroCells,Value.cells]
  omega
 ·intro i r h
  cases h
theorem WQ(w:World)(a:Addr)(cap:Nat)(u v:aj)(hr:bf w (some a) 1 [[u.val],[v.val]])(hu:u.ok w)(hv:v.ok w)(h0:0<u.xs.length+v.xs.length):
 Calls Tryz.prog 129 #[.slice (some a) 2 cap] w λe w'=>∃x,e= .returned x/\Ext w w'/\j_ w w' x 1 3 (ints (u.xs++v.xs)):=by
 obtain⟨ub,uc,us⟩:=u
 obtain⟨vb,vc,vs⟩:=v
 obtain⟨hu,_,_,hfu⟩:=hu
 obtain⟨hv,_,_,Vw⟩:=hv
 simp only[aj.val]at*
 have eu:=aF us
 have ev:=aF vs
 refine fq Tryz.func129 [.c (.slice (some a) 2 cap)] ?_
 (repeat' ((conv=>whnf)<;>first|refine aN ?_))
 refine Wp.rounds 3 ?_
 (repeat' ((conv=>whnf)<;>first|refine afT ?_|refine afU ?_|(show aC _ 155 ..;refine wW (f:=155) Tryz.call155 1 3 (λ_:Unit=>[]) (λ_=>True) (λρ w' hw=>(ad1 w' _ (us.length+vs.length) aa h0 aa).mono (λe w2 h=>⟨(),trivial,h⟩)) (λ_ _=> ?_))|refine aN ?_|refine ag ?_ ?_<;>intro _))
 refine Wp.rounds 3 ?_
 have nil:∀{l:List Int},bf w none 1 (ints l)->l=[]:=λ{l} h=>List.eq_nil_of_length_eq_zero (by
  rcases h with h|⟨a,h,_⟩
  ·have:=congrArg List.length h
   rwa[aF]at this
  ·cases h)
 have e:List.take (([]:List (List Value)).length+(ints us).length) (List.take ([]:List (List Value)).length []++ints us)=ints us:=by simp
 cases ub<;>cases vb
 ·have:=nil hu
  subst this
  have:=nil hv
  subst this
  exact absurd h0 aS
 ·have:=nil hu
  subst this
  (repeat' ((conv=>whnf)<;>first|refine afT ?_|refine afU ?_|(show tV ..;refine mD (aF _) (λR w' h=>au h hv) kN ?_)|refine aiV ?_|refine aiW ?_|refine aN ?_|refine ag ?_ ?_<;>intro _))
  all_goals(conv=>whnf)
  exact wY (xs:=ints ([]++vs)) (λ_ _ h=>h) rfl (by rw[List.nil_append];exact .head _) Yp
 ·have:=nil hv
  subst this
  (repeat' ((conv=>whnf)<;>first|refine afT ?_|refine afU ?_|(show tV ..;refine mD (aF _) (λR w' h=>au h hu) kN ?_)|refine aiV ?_|refine aiW ?_|refine aN ?_|refine ag ?_ ?_<;>intro _))
  all_goals(conv=>whnf)
  exact wY (xs:=ints (us++[])) (λ_ _ h=>h) rfl (by rw[List.append_nil us,e,List.append_nil (ints us)];exact .head _) Yp
 ·(repeat' ((conv=>whnf)<;>first|refine afT ?_|refine afU ?_|(show tV ..;(first|refine mD (aF us) (λR w' h=>au h hu) kN ?_|refine mD (aF vs) (λR w' h=>au h hv) kN ?_))|refine aiV ?_|refine aiW ?_|refine aN ?_|refine ag ?_ ?_<;>intro _))
  all_goals(conv=>whnf)
  exact wY (xs:=ints (us++vs)) (λ_ _ h=>h) rfl (by rw[e,show ints (us++vs)=ints us++ints vs by simp[ints]];exact .head _) Yp
section
variable {L:List iX} {d:Nat} {s f w:Int} {t:TypeId} {ti:TI} {ox oy:Operand} {K:SV->Prop}
abbrev iX:=SX.Loc×List Int
def Hr(p:iX):List Value:=[.slice p.1.base p.2.length p.1.cap]
def gF(L:List iX):List (List Value):=L.map Hr
def kr(L:List iX):List xx:=L.map λp=>(p.1,p.2.map (Value.int .i64))
def DIs(n:Nat)(p:iX):Prop:=(p.1=⟨none,0⟩/\p.2=[])\/((∃b off,p.1.base=some ⟨b,off,none⟩)/\p.2.length=n/\n<=p.1.cap)
structure DOk(n:Nat)(L:List iX):Prop where
 len:L.length=n
 each:∀p∈L,DIs n p
def qG(n:Nat)(D:List (List Int))(s f w:Int):List (List Int):=
 if w=0 then D else D.set ((f-s+n)%n).toNat ((if D.getD ((f-s+n)%n).toNat []=[]then List.replicate n 0 else D.getD ((f-s+n)%n).toNat []).set s.toNat w)
def z8(n:Nat)(fr row:List Int)(s:Int)(D:List (List Int))(k:Nat):List (List Int):=(List.range k).foldl (λD i=>qG n D s (fr.getD i 0) (row.getD i 0)) D
def nY(n:Nat)(rows:List (List Int))(fr to:List Int)(o:Nat):List (List Int):=(List.range o).foldl (λD o=>z8 n fr (rows.getD o []) (to.getD o 0) D fr.length) (List.replicate n [])
theorem TR(n:Nat)(fr row:List Int)(s:Int)(D:List (List Int))(k:Nat):z8 n fr row s D (k+1)=qG n (z8 n fr row s D k) s (fr.getD k 0) (row.getD k 0):=by simp[z8,List.range_succ]
theorem TS(n:Nat)(rows:List (List Int))(fr to:List Int)(o:Nat):nY n rows fr to (o+1)=z8 n fr (rows.getD o []) (to.getD o 0) (nY n rows fr to o) fr.length:=by simp[nY,List.range_succ]
theorem uf(L:List iX):(gF L).length=L.length:=by simp[gF]
theorem rz{p:iX}(h:L[d]? =some p):(gF L)[d]? =some (Hr p):=by simp[gF,h]
theorem z_{p:iX}(h:L[d]? =some p):(kr L)[d]? =some (p.1,p.2.map (Value.int .i64)):=by simp[kr,h]
theorem xH(L:List iX)(d:Nat)(p:iX):gF (L.set d p)=(gF L).set d (Hr p):=by simp[gF,List.map_set]
theorem Aa(L:List iX)(d:Nat)(p:iX):kr (L.set d p)=(kr L).set d (p.1,p.2.map (Value.int .i64)):=by simp[kr,List.map_set]
theorem DOk.set{n:Nat}{p:iX}(h:DOk n L)(hp:DIs n p):DOk n (L.set d p):=⟨by rw[List.length_set];exact h.len,λq hq=>by
 rcases List.mem_or_eq_of_mem_set hq with hq|hq
 ·exact h.each q hq
 ·rw[hq];exact hp⟩
def xI(n:Nat):List iX:=List.replicate n (⟨none,0⟩,[])
theorem agq(n:Nat):DOk n (xI n):=⟨by simp[xI],λp hp=> .inl ahF⟩
theorem TT(n:Nat):(xI n).map Prod.snd=List.replicate n []:=by simp[xI]
theorem OE(n:Nat):gF (xI n)=List.replicate n [.slice none 0 0]:=by simp[gF,xI,Hr]
theorem KT(n:Nat):kr (xI n)=List.replicate n (⟨none,0⟩,[]):=by simp[kr,xI]
theorem D7{p:iX}(h:L[d]? =some p):(L.map Prod.snd).getD d []=p.2:=by simp[List.getD,h]
theorem ad2{n:Nat}{p:iX}{l:SX.Loc}(hd:L[d]? =some p)(hp:p.2=[])(hw:w≠0)(hdd:(f-s+n)%n=d):(L.set d (l,(List.replicate n 0).set s.toNat w)).map Prod.snd=qG n (L.map Prod.snd) s f w:=by
 rw[qG,if_neg hw,hdd,Int.toNat_natCast,D7 hd,if_pos hp,List.map_set]
theorem ad3{n:Nat}{p:iX}(hd:L[d]? =some p)(hp:p.2≠[])(hw:w≠0)(hdd:(f-s+n)%n=d):(L.set d (p.1,p.2.set s.toNat w)).map Prod.snd=qG n (L.map Prod.snd) s f w:=by
 rw[qG,if_neg hw,hdd,Int.toNat_natCast,D7 hd,if_neg hp,List.map_set]
theorem anO{n:Nat}(h:0<=s/\s<n)(hf:0<=f/\f<n):∃d:Nat,(f-s+n)%n=d/\d<n/\0<=f-s+n:=by
 have h1:0<=(f-s+n)%n:=Int.emod_nonneg _ aa
 have h2:(f-s+n)%n<n:=Int.emod_lt_of_pos _ aa
 exact⟨((f-s+n)%n).toNat,by omega,by omega,by omega⟩
theorem agr{P:Program}(h:lN P t=some ti)(hk:ti.kind=1)(hK:K (.c (.bool true))):l_ P (do eqGuard .eql t ox oy (.slice none 0 0) (.slice none 0 0);binOp .eql t (.slice none 0 0) (.slice none 0 0)) K:=jP h hk hK
theorem ajV{P:Program}(h:lN P t=some ti)(hk:ti.kind=1){base:Option Addr}{a:Addr}{len cap:Nat}(e:base=some a)(hK:K (.c (.bool false))):l_ P (do eqGuard .eql t ox oy (.slice base len cap) (.slice none 0 0);binOp .eql t (.slice base len cap) (.slice none 0 0)) K:=by
 subst e;exact jP h hk hK
end
end Go.Proofs.YtgndjjdeopfdkaaGreat

import Derived.RangeFuncGives
import Derived.RangeFuncBox
import Derived.RangeFuncLeaves
import Derived.Maps.AppendAt
import Derived.Shelf.Abstract
import Derived.WalkKit
import Derived.OwnWalkIn
import Derived.TacticsInMore
import Derived.LoopNIn
import Derived.LoopIn
import Derived.RegionIn
import Derived.Test.YtgndjjdeopfdkaaGreatProg
import Derived.Shelf.Sort.Plain
import Derived.Shelf.Slices.CompactI
import Derived.Shelf.Slices.In.SortNone
import Derived.Shelf.Spec.SlicesGrow
import Derived.Test.YtgndjjdeopfdkaaGreatKLowerMakes6
/- texts NH LO of the proof of LowerMakesSaid -/
set_option maxHeartbeats 16000000
set_option maxRecDepth 20000
set_option linter.unusedVariables false
set_option linter.unusedSimpArgs false
namespace Go.Proofs.YtgndjjdeopfdkaaGreat
open Go.SX Go.RowKit
section
variable {k nx:Nat} {H:Heap} {S:bN}
theorem jY{i n m:Nat}{xs ys:List (List Value)}{T:TypeId}{K:SV->Heap->bN->Nat->Prop}(h:K (.os i m) ((i,.rows ys k T)::H) S nx)(e:xs=ys)(en:n=m):jT (.os i n) ((i,.rows xs k T)::H) S nx K:=by subst e en;exact kT h
theorem ZP:i64 2:=⟨by decide,by decide⟩
def fZ(u x:au):ai:=⟨2,0,0,u,0,0,0,x,fQ⟩
def Aq(w:World)(s d:List Int)(e:Ending)(w':World):Prop:=
 ∃u x:au,u.xs=s/\u.bq/\x.xs=d/\x.bq/\e= .returned (fZ u x).j3/\Ext w w'/\(bE u).holds (λb=>w.heap.size<=b/\b<w'.heap.size) w'/\(bE x).holds (λb=>w.heap.size<=b/\b<w'.heap.size) w'
theorem OU{B:Base}{v:SV}{w:World}{s d:List Int}{u x:au}(hb:∀R w',S.holds R w'->(aO B.w0).holds R w')(hw0:B.w0=w)(hu:u.xs=s)(fI:u.bq)(hx:x.xs=d)(hxs:x.bq)(hv:∀ρ,v.rf ρ=(fZ u x).j3)(h1:∀R w',S.holds R w'->((bE u).past B.w0.heap.size).holds R w')(h2:∀R w',S.holds R w'->((bE x).past B.w0.heap.size).holds R w'):jI B v H S nx (Aq w s d):=by
 subst hw0
 exact dH λρ w' hw=>⟨u,x,hu,fI,hx,hxs,by rw[hv],aZ hw hb,oC hw h1,oC hw h2⟩
section
variable {w:World} {b:Nat} {nb sb:Option Addr} {nc sc:Nat} {kept:List ai} {st:List Int} {dY:List (List Int)} {fM:List Sp} {s:List Int}
theorem zU{kept:List ai}(h:k<kept.length):(kept.map ai.pl).getD k dB=kept[k].pl:=by
 rw[List.getD_eq_getElem?_getD,List.getElem?_map,List.getElem?_eq_getElem h];rfl
theorem Xw{w:World}{n:ai}{a b:Int}(h:n.ok w)(ha:i64 a)(hb:i64 b):(jJ n a b).ok w:=⟨h.ay,h.data,h.aM,h.jK,ha,hb,h.kH,h.kJ,h.jM⟩
theorem XC(hd:nA w b nb nc kept sb sc st)(hko:∀k∈kept,k.ok w/\k.small)(hR:d9 (kept.map ai.pl) dY fM)(n:ai)(hno:n.ok w)(hns:n.small)(hm:ja n.pl.jh dY s)(hk:gU (kept.map ai.pl) n.pl=true)(h1: -1048576<=(jB n.pl s dY fM).1)(h2:(jB n.pl s dY fM).2<=1048576)(h6:n.ak≠6):
 Calls Tryz.prog 55 #[.pointer (some ⟨b,0,none⟩),n.j3] w (Aq w s (kR s (kept.map ai.pl) n.pl)):=by
 have hK:=zO hR hm hk
 have hlen:=hR.wE
 have oz:kept.length<=1000000\/1000000<kept.length:=by omega
 have kk:n.pl.ak=n.ak:=rfl
 have ka:n.pl.a=n.a:=rfl
 have hah:=lS hm.form
 have ha0:=hah.a0
 have h12:=hK.ak
 have H_:=hK.H_
 rw[ka]at ha0 H_
 rw[kk]at h12
 rw[List.length_map]at H_
 have hkA:vk kept n.a=true:=by
  have:=hK.aK
  rw[ka,zU H_]at this
  rw[<-Bz H_]
  exact decide_eq_true this
 obtain⟨na,hna⟩:∃a,nb=some a:=aP (j:=n.a.toNat) hd.nodes Ca
 have hrow:=bU H_
 have hAo:=hko _ (List.getElem_mem H_)
 have hAp:=zU H_
 generalize hAe:kept[n.a.toNat]=A at*
 have hb0:n.b=0:=hah.b2 h6
 have hLo:∀m∈[A,jJ n 0 n.b],m.ok w/\m.small:=λm hm=>by
  simp only[List.mem_cons,List.not_mem_nil,or_false]at hm
  rcases hm with rfl|rfl
  ·exact hAo
  ·exact⟨Xw hno oG hno.oh,hns.data,hns.aM⟩
 obtain⟨hG1,hG2,hG3⟩:=YC hR hm hK h1 h2 (g:=(bG.mk none 0 [A,jJ n 0 n.b] 1)) (by unfold Sq;rw[if_neg (show¬n.pl.ak=6 from h6),ka,hAp];rfl) (by unfold Em;rw[if_neg (show¬n.pl.ak=6 from h6)])
 have hG2:gD (check (bG.mk none 0 [A,jJ n 0 n.b] 1)).2 1=s:=hG2
 have hG4:(check (bG.mk none 0 [A,jJ n 0 n.b] 1)).2.length=2:=(iq hG1).2.2.2.1
 refine fH Tryz.func55 [.c (.pointer (some ⟨b,0,none⟩)),.agg (jN n)] ?_
 repeat' ((conv=>whnf)<;>first|refine agf ?_|refine TW ?_|(show bV ..;refine aH na n.a.toNat hna aa H_ ?_)|(show mF ..;(refine gL (λR w' h=>by rw[<-hna];exact aA h hd.nodes) _ hrow rfl ?_))|(show gP ..;refine dP (show(2:Nat)*120<=140737488355328 by decide) ?_)|(show b_ _ 3 ..;refine lu [12] _ ahN ?_)|refine aX ?_|refine ag ?_ ?_<;>intro _|refine And.intro ?_ ?_)
 all_goals(conv=>whnf)
 all_goals refine oV (f:=24) (check (bG.mk none 0 [A,jJ n 0 n.b] 1)) Tryz.call24 (λρ w' hw=>pV w' ⟨(ρ 5).base,(ρ 5).cap,[A,jJ n 0 n.b],1⟩ ⟨eT hw List.mem_cons_self,λm hm=>ae hw λR h=>(hLo m hm).1.later h,λm hm=>(hLo m hm).2,show 2<=1000000 by decide,Sc⟩) (λhne=>absurd hG1 hne) (λ_ sv hmv hsv=> ?_)
 all_goals
  have hsl:sv.l.length=2:=by rw[<-List.length_map (f:=λu:au=>u.xs),hmv];exact hG4
  have hs1:1<sv.l.length:=by omega
  have hsx:sv.l[1].xs=s:=by
   rw[<-hG2,<-hmv]
   unfold gD
   rw[List.getD_eq_getElem?_getD,List.getElem?_map,List.getElem?_eq_getElem hs1];rfl
  repeat' ((conv=>whnf)<;>first|fail)
 all_goals refine Wp.know (p:=∃a,sv.base=some a) (λρ w' hw=>ae hw λR h=>aP (j:=1) (aV h.2.1) J9) ?_
 all_goals
  rintro⟨sa,hsa⟩
  refine Wp.go bQ rfl ?_
  repeat' ((conv=>whnf)<;>first|(show aI _ 110 ..;refine TY (f:=110) (M_ (bG.mk none 0 [A,jJ n 0 n.b] 1) []) Tryz.call110 (λρ w' hw=>YB w' ⟨(ρ 5).base,(ρ 5).cap,[A,jJ n 0 n.b],1⟩ ⟨eT hw List.mem_cons_self,λm hm=>ae hw λR h=>(hLo m hm).1.later h.1,λm hm=>(hLo m hm).2,show 2<=1000000 by decide,Sc⟩ ⟨none,0,[]⟩ ⟨.inl rfl,λu hu=>by simp at hu,Nat.le_refl _,Nat.zero_le _⟩) (λhne=>absurd (by rw[hG3]) hne) (λ_ x hx hxs=> ?_))|(show bV ..;refine aH sa 1 hsa rfl hs1 ?_)|refine agh ?_|refine aX ?_)
 all_goals(conv=>whnf)
 all_goals exact OU (λR w' h=>h.1.1) rfl hsx (hsv _ (List.getElem_mem hs1)) (by rw[hx,hG3]) hxs (λ_=>rfl) (λR w' h=>h.1.2.2 _ (List.getElem_mem hs1)) (λR w' h=>h.2)
theorem XK(hd:nA w b nb nc kept sb sc st)(hko:∀k∈kept,k.ok w/\k.small)(hR:d9 (kept.map ai.pl) dY fM)(n:ai)(hno:n.ok w)(hns:n.small)(hm:ja n.pl.jh dY s)(hk:gU (kept.map ai.pl) n.pl=true)(h1: -1048576<=(jB n.pl s dY fM).1)(h2:(jB n.pl s dY fM).2<=1048576)(h6:n.ak=6):
 Calls Tryz.prog 55 #[.pointer (some ⟨b,0,none⟩),n.j3] w (Aq w s (kR s (kept.map ai.pl) n.pl)):=by
 have hK:=zO hR hm hk
 have hlen:=hR.wE
 have oz:kept.length<=1000000\/1000000<kept.length:=by omega
 have kk:n.pl.ak=n.ak:=rfl
 have ka:n.pl.a=n.a:=rfl
 have hah:=lS hm.form
 have ha0:=hah.a0
 have h12:=hK.ak
 have H_:=hK.H_
 rw[ka]at ha0 H_
 rw[kk]at h12
 rw[List.length_map]at H_
 have hkA:vk kept n.a=true:=by
  have:=hK.aK
  rw[ka,zU H_]at this
  rw[<-Bz H_]
  exact decide_eq_true this
 obtain⟨na,hna⟩:∃a,nb=some a:=aP (j:=n.a.toNat) hd.nodes Ca
 have hrow:=bU H_
 have hAo:=hko _ (List.getElem_mem H_)
 have hAp:=zU H_
 generalize hAe:kept[n.a.toNat]=A at*
 have kb:n.pl.b=n.b:=rfl
 have hb0:=hah.b0
 have Zh:=hK.Zh h6
 rw[kb]at hb0 Zh
 rw[List.length_map]at Zh
 have hkB:vk kept n.b=true:=by
  have:=hK.bK h6
  rw[kb,zU Zh]at this
  rw[<-Bz Zh]
  exact decide_eq_true this
 have KQ:=bU Zh
 have hBo:=hko _ (List.getElem_mem Zh)
 have hBp:=zU Zh
 generalize hBe:kept[n.b.toNat]=Bn at*
 have hLo:∀m∈[A,Bn,jJ n 0 1],m.ok w/\m.small:=λm hm=>by
  simp only[List.mem_cons,List.not_mem_nil,or_false]at hm
  rcases hm with rfl|rfl|rfl
  ·exact hAo
  ·exact hBo
  ·exact⟨Xw hno oG Sc,hns.data,hns.aM⟩
 obtain⟨hG1,hG2,hG3⟩:=YC hR hm hK h1 h2 (g:=(bG.mk none 0 [A,Bn,jJ n 0 1] 2)) (by unfold Sq;rw[if_pos (show n.pl.ak=6 from h6),ka,hAp,kb,hBp];rfl) (by unfold Em;rw[if_pos (show n.pl.ak=6 from h6)])
 have hG2:gD (check (bG.mk none 0 [A,Bn,jJ n 0 1] 2)).2 2=s:=hG2
 have hG4:(check (bG.mk none 0 [A,Bn,jJ n 0 1] 2)).2.length=3:=(iq hG1).2.2.2.1
 refine fH Tryz.func55 [.c (.pointer (some ⟨b,0,none⟩)),.agg (jN n)] ?_
 repeat' ((conv=>whnf)<;>first|refine agf ?_|(show aI _ 109 [_,ax n.b] ..;refine aQ (f:=109) Tryz.call109 (.bool true) (λρ w' hw=>qa (ae hw λR h=>hd.later h) hb0 Zh hkB) ?_)|(show jT _ ((_,.rows (List.take 1 _++_) _ _)::_) _ _ _;refine jY (ys:=bF [A,Bn]) (m:=2) ?_ rfl rfl)|(show jT _ ((_,.rows (List.take 2 _++_) _ _)::_) _ _ _;refine jY (ys:=bF [A,Bn,jJ n 0 1]) (m:=3) ?_ rfl rfl)|(show vO ..;refine gY (of_decide_eq_true rfl) ?_)|(show lq ..;(first|refine eF (List.Sublist.cons _ (List.Sublist.cons _ (List.Sublist.refl _))) (λ_ _ h=>h) ?_|refine eF (List.Sublist.cons _ (List.Sublist.cons_cons _ (List.Sublist.cons _ (List.Sublist.refl _)))) (λ_ _ h=>h) ?_|refine eF (List.Sublist.cons _ (List.Sublist.refl _)) (λ_ _ h=>h) ?_))|(show b_ _ 6 ..;(first|(show b_ _ 6 _ _ ((_,.rows _ _ _)::_) _ _ _;refine uM bQ mixed [14,15,16] _ ajb ji ji ji (List.Sublist.cons _ (List.Sublist.refl _)) ?_)|(show b_ _ 6 _ _ ((_,.box _ _)::_) _ _ _;refine uM bQ mixed [14,15,16] _ ajb ji ji ji (List.Sublist.cons_cons _ (List.Sublist.cons _ (List.Sublist.refl _))) ?_)))|refine TW ?_|(show bV ..;(first|refine aH na n.a.toNat hna aa H_ ?_|refine aH na n.b.toNat hna aa Zh ?_))|(show mF ..;(first|refine gL (λR w' h=>by rw[<-hna];exact aA h hd.nodes) _ hrow rfl ?_|refine gL (λR w' h=>by rw[<-hna];exact aA h hd.nodes) _ KQ rfl ?_))|(show gP ..;refine dP (of_decide_eq_true rfl) ?_)|(show b_ _ 3 ..;refine lu [12] _ ahN ?_)|refine aX ?_|refine ag ?_ ?_<;>intro _|refine And.intro ?_ ?_)
 all_goals(conv=>whnf)
 all_goals refine oV (f:=24) (check (bG.mk none 0 [A,Bn,jJ n 0 1] 2)) Tryz.call24 (λρ w' hw=>pV w' ⟨(ρ 7).base,(ρ 7).cap,[A,Bn,jJ n 0 1],2⟩ ⟨eT hw List.mem_cons_self,λm hm=>ae hw λR h=>(hLo m hm).1.later h,λm hm=>(hLo m hm).2,show 3<=1000000 by decide,ZP⟩) (λhne=>absurd hG1 hne) (λ_ sv hmv hsv=> ?_)
 all_goals
  have hsl:sv.l.length=3:=by rw[<-List.length_map (f:=λu:au=>u.xs),hmv];exact hG4
  have hs1:2<sv.l.length:=by omega
  have hsx:sv.l[2].xs=s:=by
   rw[<-hG2,<-hmv]
   unfold gD
   rw[List.getD_eq_getElem?_getD,List.getElem?_map,List.getElem?_eq_getElem hs1];rfl
  repeat' ((conv=>whnf)<;>first|fail)
 all_goals refine Wp.know (p:=∃a,sv.base=some a) (λρ w' hw=>ae hw λR h=>aP (j:=2) (aV h.2.1) J9) ?_
 all_goals
  rintro⟨sa,hsa⟩
  refine Wp.go bQ rfl ?_
  repeat' ((conv=>whnf)<;>first|(show aI _ 110 ..;refine TY (f:=110) (M_ (bG.mk none 0 [A,Bn,jJ n 0 1] 2) []) Tryz.call110 (λρ w' hw=>YB w' ⟨(ρ 7).base,(ρ 7).cap,[A,Bn,jJ n 0 1],2⟩ ⟨eT hw List.mem_cons_self,λm hm=>ae hw λR h=>(hLo m hm).1.later h.1,λm hm=>(hLo m hm).2,show 3<=1000000 by decide,ZP⟩ ⟨none,0,[]⟩ ⟨.inl rfl,λu hu=>by simp at hu,Nat.le_refl _,Nat.zero_le _⟩) (λhne=>absurd (by rw[hG3]) hne) (λ_ x hx hxs=> ?_))|(show bV ..;refine aH sa 2 hsa rfl hs1 ?_)|refine agh ?_|refine aX ?_)
 all_goals(conv=>whnf)
 all_goals exact OU (λR w' h=>h.1.1) rfl hsx (hsv _ (List.getElem_mem hs1)) (by rw[hx,hG3]) hxs (λ_=>rfl) (λR w' h=>h.1.2.2 _ (List.getElem_mem hs1)) (λR w' h=>h.2)
end
end
section
abbrev alV:DT:=(eY [0,1,3,4,6,7,102,9,105,108,110,111,112,113,114] .done)
abbrev aiP:DT:=(eY [0,1,2,3,4,5,6,107,108,109,110,11,112] .done)
def Ox(n:ai):bN:=(vN n.ay).and ((vN n.data).and (vN n.aM))
def K5(N:Nat)(l:List ai):bN where
 holds R w:=∀n∈l,((Ox n).past N).holds R w
 stable:=λhR hw h n hn=>((Ox n).past N).stable hR hw (h n hn)
theorem aam(N:Nat)(R:Nat->Prop)(w:World):(K5 N []).holds R w:=λn hn=>by simp at hn
variable {N:Nat} {l:List ai} {R:Nat->Prop} {w:World}
theorem La{n:ai}(h:(K5 N l).holds R w)(hn:((Ox n).past N).holds R w):(K5 N (l++[n])).holds R w:=λm hm=>by
 rcases List.mem_append.1 hm with hm|hm
 ·exact h m hm
 ·rw[List.mem_singleton.1 hm];exact hn
structure ai.iJ(n:ai):Prop where
 ay:n.ay.bq
 data:n.data.bq
 aM:n.aM.bq
 jK:i64 n.ak
 qO:i64 n.a
 oh:i64 n.b
 kH:i64 n.lo
 kJ:i64 n.hi
 jM:i64 n.size
theorem ai.ok.iJ{w:World}{n:ai}(h:n.ok w):n.iJ:=⟨h.ay.bq,h.data.bq,h.aM.bq,h.jK,h.qO,h.oh,h.kH,h.kJ,h.jM⟩
def wH(l:List ai):Prop:=∀n∈l,n.iJ/\n.small
theorem aeZ{n:ai}(hs:n.iJ)(h:((Ox n).past N).holds R w):n.ok w:=
 ⟨bT hs.ay (AZ h.1),bT hs.data (AZ h.2.1),bT hs.aM (AZ h.2.2),hs.jK,hs.qO,hs.oh,hs.kH,hs.kJ,hs.jM⟩
theorem D8(hk:wH l)(h:(K5 N l).holds R w):∀n∈l,n.ok w/\n.small:=λn hn=>⟨aeZ (hk n hn).1 (h n hn),(hk n hn).2⟩
variable {f:FuncId} {H:Heap} {S:bN} {nx:Nat} {K:SV->Heap->bN->Nat->Prop}
theorem Ak{cx:Cx}{args:List SV}(xs:List Int)(hf:∀ar w,(callFunc f ar).run cx.P w= .ok (.enter f ar) w)
 (hc:∀ρ w',eD cx.B ρ nx H S w'->Calls cx.P f (SV.eO ρ args).toArray w' (Nv w' xs))
 (h:∀u:au,u.xs=xs->u.bq->K (.c u.val) H (S.and ((vN u).past cx.B.w0.heap.size)) nx):aI cx f args H S nx K:=
 gX hf au.val vN (λu=>u.xs=xs/\u.bq) hc (λu hu=>h u hu.1 hu.2)
variable {B:Base} {ρ:Nat->SX.Loc} {d:Nat} {kept:List ai} {st:List Nat} {T:TypeId}
theorem zP{i j:Nat}{out:Int}{T1 T2:TypeId}(hw:eD B ρ nx H S w)(hd:(d,bZ.box [.os i kept.length,ax out,.os j st.length] T)∈H)(hi:(i,bZ.rows (bF kept) 9 T1)∈H)(hj:(j,bZ.rows (aN (qE st)) 1 T2)∈H):
 ∃b,(SV.lp d 0 0 0).rf ρ= .pointer (some ⟨b,0,none⟩)/\nA w b (ρ i).base (ρ i).cap kept (ρ j).base (ρ j).cap (qE st):=by
 have hn:=eT hw hi
 have hs:=eT hw hj
 obtain⟨R,φ,oo⟩:=hw
 obtain⟨b,h1,h2,h3⟩:=oo.kV _ hd
 simp only at h1
 refine⟨b,by simp[SV.rf,h1,iA],?_,?_,hn,hs⟩
 ·simp[World.cell?,h3,SV.eO,SV.rf]
 ·simp[World.cell?,h3,SV.eO,SV.rf,qE]
variable {v u:Value}
theorem AV{P:Program}{Q:Ending->World->Prop}{b:Nat}(e:v= .pointer (some ⟨b,0,none⟩))(h:Calls P f #[.pointer (some ⟨b,0,none⟩),u] w Q):Calls P f #[v,u] w Q:=e▸h
theorem Y8{n:ai}(hw:eD B ρ nx H S w)(hd:(d,bZ.box (cs n.cells) T)∈H):∃c,(SV.lp d 0 0 0).rf ρ= .pointer (some ⟨c,0,none⟩)/\bu w (some ⟨c,0,none⟩) 9 (bF [n]):=by
 obtain⟨R,φ,oo⟩:=hw
 obtain⟨b,h1,h2,h3⟩:=oo.kV _ hd
 simp only at h1
 rw[vG]at h3
 refine⟨b,by simp[SV.rf,h1,iA],.inr ⟨_,rfl,λi r hi j v hj=> ?_⟩⟩
 cases i with
 |zero=>
  obtain rfl:n.cells=r:=by simpa[bF]using hi
  rw[iA]
  simp[World.cell?,h3,hj]
 |succ i=>simp[bF]at hi
theorem yo{P:Program}{g:FuncId}{Q:Ending->World->Prop}{c:Nat}(e:v= .pointer (some ⟨c,0,none⟩))(h:Calls P f #[u,.func (.func g) #[] #[.pointer (some ⟨c,0,none⟩)]] w Q):Calls P f #[u,.func (.func g) #[] #[v]] w Q:=e▸h
variable {row:List aT} {k:Nat}
theorem aad{n:aT}(h:xm n row 0=some k):M5 n row=k:=by unfold M5;rw[h]
theorem aae{n:aT}(h:xm n row 0=none):M5 n row= -1:=by unfold M5;rw[h]
theorem Dj(st:List Nat)(k:Nat):List.take st.length (aN (qE st))++[[.int .i64 (k:Int)]]=aN (qE (st++[k])):=by
 rw[List.take_of_length_le (by rw[aJ];simp[qE])]
 simp[qE,aN]
theorem nP(st:List Nat):(aN (qE st)).length=st.length:=by rw[aJ];simp[qE]
variable {n0:Nat} {e6 e5 e1 e0:bZ} {m:ai}
theorem Pz(hmo:∀R w',S.holds R w'->m.ok w')(hko:∀R w',S.holds R w'->∀k∈kept,k.ok w')(h1:kept.length<=24)(h2:st.length<=24)(hf:kr (kept.map ai.pl) m.pl=some k)
 (h:∀e8 e7,K (.sN []) [(9,.rows (aN (qE (st++[k]))) 1 3),(8,e8),(7,e7),(6,e6),(5,e5),(3,.rows (bF kept) 9 41),(2,.box [.os 3 kept.length,ax 0,.os 9 (st++[k]).length] 108),(1,e1),(0,e0)] S 10):aI ⟨Tryz.prog,⟨w,[]⟩,n0,tab⟩ 56 [.lp 2 0 0 0,.agg [ax m.ak,ax m.a,ax m.b,.c m.ay.val,ax m.lo,ax m.hi,ax m.size,.c m.data.val,.c m.aM.val]] [(6,e6),(5,e5),(4,.rows (aN (qE st)) 1 3),(3,.rows (bF kept) 9 41),(2,.box [.os 3 kept.length,ax 0,.os 4 st.length] 108),(1,e1),(0,e0)] S 7 K:=by
 obtain⟨hk1,hk⟩:=CO hf
 have hkl:k<kept.length:=by have:=(List.getElem?_eq_some_iff.1 hk).1;rwa[List.length_map]at this
 have ape:m.ak≠1:=hk1
 have hi:xm m.pl (kept.map ai.pl) 0=some k:=by unfold kr at hf;rw[if_neg hk1]at hf;exact hf
 refine gy bQ Tryz.func56 rfl rfl rfl Tryz.call56 rfl BL ?_
 repeat' ((conv=>whnf)<;>first|(show aI _ 111 ..;(refine aQ (f:=111) Tryz.call111 (.int .i64 k) (λρ w' hw=>by obtain⟨c,e,hc⟩:=Y8 (n:=m) (d:=7) hw aU;have:=BU w' m c (ae hw λR h=>hmo R w' h) hc (ρ 3).base (ρ 3).cap kept (eT hw aU) (ae hw λR h=>hko R w' h) aa;rw[aad hi]at this;exact yo e this) ?_))|(show jT _ ((_,.rows (List.take st.length _++_) _ _)::_) _ _ _;refine jY (ys:=aN (qE (st++[k]))) (m:=(st++[k]).length) ?_ (Dj st k) agu)|(show vO ..;(refine gY aeo ?_))|(show gP ..;(refine dP aim ?_))|refine aX ?_|refine ag ?_ ?_<;>intro _)
 all_goals(conv=>whnf)
 all_goals exact l6 (h _ _)
def wJ(m:ai)(u1 u2 u3:au):ai:=⟨m.ak,m.a,m.b,u1,m.lo,m.hi,m.size,u2,u3⟩
theorem mg(l:List ai)(n:ai):List.take l.length (bF l)++[n.cells]=bF (l++[n]):=by
 rw[List.take_of_length_le (by rw[dS];exact Nat.le_refl _)]
 simp[bF]
theorem Yu(hmo:∀R w',S.holds R w'->m.ok w')(hko:∀R w',S.holds R w'->∀k∈kept,k.ok w')(h1:kept.length<=24)(h2:st.length<=24)(hf:kr (kept.map ai.pl) m.pl=none)
 (h:∀e10 e8 e7 u1 u2 u3,u1.xs=m.ay.xs->u1.bq->u2.xs=m.data.xs->u2.bq->u3.xs=m.aM.xs->u3.bq->K (.sN []) [(11,.rows (aN (qE (st++[kept.length]))) 1 3),(10,e10),(9,.rows (bF (kept++[wJ m u1 u2 u3])) 9 41),(8,e8),(7,e7),(6,e6),(5,e5),(2,.box [.os 9 (kept++[wJ m u1 u2 u3]).length,ax 0,.os 11 (st++[kept.length]).length] 108),(1,e1),(0,e0)] (((S.and ((vN u1).past w.heap.size)).and ((vN u2).past w.heap.size)).and ((vN u3).past w.heap.size)) 12):aI ⟨Tryz.prog,⟨w,[]⟩,n0,tab⟩ 56 [.lp 2 0 0 0,.agg [ax m.ak,ax m.a,ax m.b,.c m.ay.val,ax m.lo,ax m.hi,ax m.size,.c m.data.val,.c m.aM.val]] [(6,e6),(5,e5),(4,.rows (aN (qE st)) 1 3),(3,.rows (bF kept) 9 41),(2,.box [.os 3 kept.length,ax 0,.os 4 st.length] 108),(1,e1),(0,e0)] S 7 K:=by
 have hi:m.ak≠1->xm m.pl (kept.map ai.pl) 0=none:=λhk1=>by unfold kr at hf;rw[if_neg (show¬m.pl.ak=1 from hk1)]at hf;exact hf
 by_cases hk1:m.ak=1
 all_goals
  refine gy bQ Tryz.func56 rfl rfl rfl Tryz.call56 rfl BL ?_
  repeat' ((conv=>whnf)<;>first|(show aI _ 111 ..;(refine aQ (f:=111) Tryz.call111 (.int .i64 (-1)) (λρ w' hw=>by obtain⟨c,e,hc⟩:=Y8 (n:=m) (d:=7) hw aU;have:=BU w' m c (ae hw λR h=>hmo R w' h) hc (ρ 3).base (ρ 3).cap kept (eT hw aU) (ae hw λR h=>hko R w' h) aa;rw[aae (hi hk1)]at this;exact yo e this) ?_))|(show b_ _ 6 ..;refine lu [10,11,12,13,14] _ alV ?_)|(show lq ..;(first|refine eF (List.Sublist.refl _) (λ_ _ h=>h.1) ?_|refine eF (List.Sublist.refl _) (λ_ _ h=>h.1.1) ?_|refine eF (List.Sublist.refl _) (λ_ _ h=>h.1.1.1) ?_|refine eF (List.Sublist.refl _) (λ_ _ h=>h) ?_))|(show aI _ 32 [.c m.ay.val] ..;refine Ak m.ay.xs Tryz.call32 (λρ w' hw=>Cv w' m.ay (ae hw λR h=>(hmo R w' h).ay)) (λu1 hu1 hs1=> ?_))|(show aI _ 32 [.c m.data.val] ..;refine Ak m.data.xs Tryz.call32 (λρ w' hw=>Cv w' m.data (ae hw λR h=>(hmo R w' h.1).data)) (λu2 hu2 hs2=> ?_))|(show aI _ 32 [.c m.aM.val] ..;refine Ak m.aM.xs Tryz.call32 (λρ w' hw=>Cv w' m.aM (ae hw λR h=>(hmo R w' h.1.1).aM)) (λu3 hu3 hs3=> ?_))|refine aX ?_|refine ag ?_ ?_<;>intro _)
 all_goals(conv=>whnf)
 all_goals refine uM bQ mixed [12] _ aiP ji ji ji (List.Sublist.cons_cons _ (List.Sublist.cons_cons _ (List.Sublist.cons_cons _ (List.Sublist.cons_cons _ (List.Sublist.cons _ (List.Sublist.refl _)))))) ?_
 all_goals
  repeat' ((conv=>whnf)<;>first|(show jT _ ((_,.rows (List.take kept.length _++_) _ _)::_) _ _ _;refine jY (ys:=bF (kept++[wJ m u1 u2 u3])) (m:=(kept++[wJ m u1 u2 u3]).length) ?_ (mg kept (wJ m u1 u2 u3)) (by show kept.length+1=_;rw[List.length_append];rfl))|(show jT _ ((_,.rows (List.take st.length _++_) _ _)::_) _ _ _;refine jY (ys:=aN (qE (st++[kept.length]))) (m:=(st++[kept.length]).length) ?_ (Dj st kept.length) agu)|(show vO ..;(first|refine gY (by rw[dS];exact Nat.le_refl _) ?_|refine gY aeo ?_))|(show gP ..;(first|refine dP (by show(kept.length+1)*120<=140737488355328;omega) ?_|refine dP aim ?_))|(show lq ..;(first|refine eF (List.Sublist.cons _ (List.Sublist.cons _ (List.Sublist.refl _))) (λ_ _ h=>h) ?_|refine eF (List.Sublist.cons _ (List.Sublist.cons_cons _ (List.Sublist.cons_cons _ (List.Sublist.cons_cons _ (List.Sublist.cons_cons _ (List.Sublist.cons _ (List.Sublist.refl _))))))) (λ_ _ h=>h) ?_))|refine aX ?_)
 all_goals(conv=>whnf)
 all_goals exact l6 (h _ _ _ u1 u2 u3 hu1 hs1 hu2 hs2 hu3 hs3)
end
theorem kz{a:Addr}{j:Nat}{S:bN}{xs:List Int}{v:Int}{K:SV->Prop}(hx:∀R w,S.holds R w->bu w (some a) 1 (aN xs))(hj:j<xs.length)(e:xs.getD j 0=v)(h:K (ax v)):fT (a.add (j*1)) S K:=by
 subst e;exact bY hx hj h
structure qo where
 lo:Int
 hi:Int
 aj:au
def qo.cells(x:qo):List Value:=[.int .i64 x.lo,.int .i64 x.hi,x.aj.val]
def qo.pl(x:qo):abL:=⟨x.lo,x.hi,x.aj.xs⟩
structure dw where
 inputs:List qo
 aF:List au
 code:List qX
def dw.pl(s:dw):fE:=⟨s.inputs.map qo.pl,s.aF.map au.xs,s.code⟩
def u_(x:qX):List Value:=[.int .i64 x.op,.int .i64 x.to_,.int .i64 x.a,.int .i64 x.b,.int .i64 x.k]
def iO(l:List qX):List (List Value):=l.map u_
def iP(l:List qo):List (List Value):=l.map qo.cells
theorem nE(l:List qX):(iO l).length=l.length:=by simp[iO]
theorem nO(l:List qo):(iP l).length=l.length:=by simp[iP]
theorem afV(l:List qX)(x:qX):List.take l.length (iO l)++[u_ x]=iO (l++[x]):=by
 rw[List.take_of_length_le afJ];simp[iO]
theorem afP(l:List qo)(x:qo):List.take l.length (iP l)++[x.cells]=iP (l++[x]):=by
 rw[List.take_of_length_le aeE];simp[iP]
theorem ZJ(l:List au)(x:au):List.take l.length (aS l)++[[x.val]]=aS (l++[x]):=by
 rw[List.take_of_length_le Su];simp[aS]
structure dN where
 aj:Nat
 giant:Bool
 shapes:a_
 bO:a_
def Wh(c:dN)(s:dw)(nv:Nat):List SV:=[ax c.aj,.os 2 s.inputs.length,.os 3 s.aF.length,.os 4 s.code.length,ax 0,.c (.slice none 0 0),.c (.bool c.giant),.c c.shapes.val,.c c.bO.val,.os 1 nv]
abbrev kQ(c:dN)(s:dw)(val:List Int):Heap:=[(0,.box (Wh c s val.length) 71),(1,.rows (aN val) 1 3),(2,.rows (iP s.inputs) 3 92),(3,.rows (aS s.aF) 1 32),(4,.rows (iO s.code) 5 43)]
def dn(s:dw)(op a b k:Int):dw:=⟨s.inputs,s.aF,s.code++[qX.mk op s.code.length a b k]⟩
def dW(l:List au):bN where
 holds R w:=∀u∈l,(bE u).holds R w
 stable:=λhR hw h u hu=>(bE u).stable hR hw (h u hu)
theorem Xh{l:List au}{u:au}{R:Nat->Prop}{w:World}(h:(dW l).holds R w)(hu:(bE u).holds R w):(dW (l++[u])).holds R w:=λv hv=>by
 rcases List.mem_append.1 hv with hv|hv
 ·exact h v hv
 ·rw[List.mem_singleton.1 hv];exact hu
abbrev BB{α:Type}(w:World)(ρ:Nat->SX.Loc)(F:Nat->Prop)(val:α->SV)(H1:α->Heap)(D:α->bN)(p:α->Prop):=yl w ρ F 2 5 val H1 D p
theorem gV(c:dN)(s:dw)(vl:List Int)(op a b k:Int)(hl:s.code.length<=1000000)(w:World)(ρ:Nat->SX.Loc)(F:Nat->Prop)(h:iY w ρ F 2 5 (kQ c s vl) ed):
 Calls Tryz.prog 68 (SV.eO ρ [.lp 0 0 0 0,ax op,ax a,ax b,ax k]).toArray w (BB w ρ F (λ_:Unit=>ax s.code.length) (λ_=>kQ c (dn s op a b k) vl) (λ_=>ed) (λ_=>True)):=by
 refine Ez Tryz.func68 (mI 2 ρ) ρ [.lp 0 0 0 0,ax op,ax a,ax b,ax k] (kQ c s vl) (ed.and (gu w F)) 5 h.abs ?_
 repeat' ((conv=>whnf)<;>first|(show vO ..;(refine gY afJ ?_))|(show gP ..;(refine dP aie ?_))|refine aiF ?_|refine aX ?_)
 all_goals(conv=>whnf)
 all_goals exact fw _ _ _ _ () [(4,some 6)] trivial aY rfl rfl rfl rfl bM (λR w' h=>⟨h.2,trivial⟩)
theorem Gc(w:World)(p row:au)(c:Nat)(hp:p.ok w)(hr:row.ok w)(hc:w.cell? ⟨c,0,none⟩=some row.val):Calls Tryz.prog 156 #[p.val,.pointer (some ⟨c,0,none⟩)] w λe w'=>e= .returned (.bool (decide (p.xs=row.xs)))/\Ext w w':=by
 refine fH Tryz.func156 [.c p.val,.c (.pointer (some ⟨c,0,none⟩))] ?_
 repeat' ((conv=>whnf)<;>first|(show fT ..;(refine yC (λR w' h=>by rw[jv (h _ (iN hc)).2];exact hc) ?_))|(show aI _ 62 ..;refine aQ (f:=62) Tryz.call62 (.bool (decide (p.xs=row.xs))) (λρ w' hw=>q8 w' p row (ae hw λR h=>hp.later h) (ae hw λR h=>hr.later h)) ?_)|refine aX ?_)
 all_goals(conv=>whnf)
 all_goals exact bf (λ_ _ h=>h) rfl rfl
def Ue(r:List Int)(l:List (List Int)):Int:=match CS r l 0 with|some k=>k|none=> -1
theorem Ol{r x:List Int}{l:List (List Int)}{k:Nat}:CS r (x::l) k=if x=r then some k else CS r l (k+1):=rfl
theorem Qt(w:World)(row:au)(c:Nat)(hr:row.ok w)(hc:w.cell? ⟨c,0,none⟩=some row.val)(nb:Option Addr)(nc:Nat)(l:List au)(hl:bu w nb 1 (aS l))(ho:∀u∈l,u.ok w)(oz:l.length<=1000000):
 Calls Tryz.prog 154 #[.slice nb l.length nc,.func (.func 156) #[] #[.pointer (some ⟨c,0,none⟩)]] w λe w'=>e= .returned (.int .i64 (Ue row.xs (l.map au.xs)))/\Ext w w':=by
 refine fH Tryz.func154 [.c (.slice nb l.length nc),.c (.func (.func 156) #[] #[.pointer (some ⟨c,0,none⟩)])] ?_
 repeat' ((conv=>whnf)<;>first|refine aX ?_|refine ag ?_ ?_<;>intro _)
 refine Wp.loop (σ:=Nat) 0 (λk=>[(0,.c (.slice nb l.length nc)),(1,.c (.func (.func 156) #[] #[.pointer (some ⟨c,0,none⟩)])),(7,ax l.length),(8,ax k)]) (λ_=>[]) (λ_=>aO w)
  (λk=>k<=l.length/\CS row.xs ((l.drop k).map au.xs) k=CS row.xs (l.map au.xs) 0) (λk=>l.length-k) 0 [] aY (λs=>⟨rfl,rfl⟩) ⟨by simp,rfl⟩ ⟨rfl,⟨rfl,rfl,rfl,rfl,trivial⟩,trivial,λR w' h=>h⟩ ?_
 rintro k ⟨hkl,he⟩
 by_cases hlt:k<l.length
 ·obtain⟨a,ha⟩:∃a,nb=some a:=aP (j:=k) hl J9
  rw[List.drop_eq_getElem_cons hlt,List.map_cons,Ol]at he
  have hrow:=dF hlt
  have hxo:=ho _ (List.getElem_mem hlt)
  generalize l[k]=x at*
  by_cases hs:x.xs=row.xs
  ·rw[if_pos hs]at he
   repeat' ((conv=>whnf)<;>first|(show bV ..;refine aH a k ha rfl hlt ?_)|(show fT ..;(refine bA (λR w' h=>by rw[<-ha];exact aA h hl) _ _ hrow rfl ?_))|(show aI _ 156 ..;(refine aQ (f:=156) Tryz.call156 (.bool true) (λρ w' hw=>by have:=Gc w' x row c (ae hw λR h=>hxo.later h) (ae hw λR h=>hr.later h) (ae hw λR h=>by rw[jv (h _ (iN hc)).2];exact hc);rw[decide_eq_true hs]at this;exact this) ?_))|refine aX ?_|refine ag ?_ ?_<;>intro _)
   all_goals(conv=>whnf)
   all_goals exact cz (λ_ _ h=>h) (λ_=>by unfold Ue;rw[<-he];rfl) rfl
  ·rw[if_neg hs]at he
   repeat' ((conv=>whnf)<;>first|(show bV ..;refine aH a k ha rfl hlt ?_)|(show fT ..;(refine bA (λR w' h=>by rw[<-ha];exact aA h hl) _ _ hrow rfl ?_))|(show aI _ 156 ..;(refine aQ (f:=156) Tryz.call156 (.bool false) (λρ w' hw=>by have:=Gc w' x row c (ae hw λR h=>hxo.later h) (ae hw λR h=>hr.later h) (ae hw λR h=>by rw[jv (h _ (iN hc)).2];exact hc);rw[decide_eq_false hs]at this;exact this) ?_))|refine aX ?_|refine ag ?_ ?_<;>intro _)
   all_goals(conv=>whnf)
   all_goals exact⟨k+1,[],⟨hlt,he⟩,by omega,rfl,bM,trivial,λR w' h=>h⟩
 ·rw[List.drop_of_length_le aa]at he
  repeat' ((conv=>whnf)<;>first|refine aX ?_|refine ag ?_ ?_<;>intro _)
  conv=>whnf
  exact cz (λ_ _ h=>h) (λ_=>by unfold Ue;rw[<-he];rfl) rfl
def aC(s:dw)(u:au):dw×Int:=match CS u.xs (s.aF.map au.xs) 0 with
 |some k=>(s,k)
 |none=>(⟨s.inputs,s.aF++[u],s.code⟩,s.aF.length)
theorem AR(s:dw)(u:au):((aC s u).1.pl,(aC s u).2)=gm s.pl u.xs:=by
 unfold aC gm
 have e:s.pl.aF=s.aF.map au.xs:=rfl
 rw[e]
 cases CS u.xs (s.aF.map au.xs) 0 with
 |some k=>rfl
 |none=>
  show((⟨_,_,_⟩:fE),_)=((⟨_,_,_⟩:fE),_)
  rw[List.map_append,List.length_map];rfl
theorem R6{B:Base}{ρ:Nat->SX.Loc}{nx:Nat}{H:Heap}{S:bN}{w:World}{d:Nat}{v:Value}{T:TypeId}(hw:eD B ρ nx H S w)(hd:(d,bZ.box [.c v] T)∈H):∃c,(SV.lp d 0 0 0).rf ρ= .pointer (some ⟨c,0,none⟩)/\w.cell? ⟨c,0,none⟩=some v:=by
 obtain⟨R,φ,oo⟩:=hw
 obtain⟨b,h1,h2,h3⟩:=oo.kV _ hd
 simp only at h1
 exact⟨b,by simp[SV.rf,h1,iA],by simp[World.cell?,h3,SV.eO,SV.rf]⟩
theorem uG(c:dN)(s:dw)(vl:List Int)(u:au)(hu:u.bq)(hs:∀p∈s.aF,p.bq)(hl:s.aF.length<=1000000)(w:World)(ρ:Nat->SX.Loc)(F:Nat->Prop)(h:iY w ρ F 2 5 (kQ c s vl) ((dW s.aF).and (bE u))):
 Calls Tryz.prog 130 (SV.eO ρ [.lp 0 0 0 0,.c u.val]).toArray w (BB w ρ F (λ_:Unit=>ax (aC s u).2) (λ_=>kQ c (aC s u).1 vl) (λ_=>ed) (λ_=>True)):=by
 have hix:∀w' c nb nc,w'.cell? ⟨c,0,none⟩=some u.val->bu w' nb 1 (aS s.aF)->(∀p∈s.aF,p.ok w')->u.ok w'->Calls Tryz.prog 154 #[.slice nb s.aF.length nc,.func (.func 156) #[] #[.pointer (some ⟨c,0,none⟩)]] w' λe w''=>e= .returned (.int .i64 (Ue u.xs (s.aF.map au.xs)))/\Ext w' w'':=λw' c nb nc h1 h2 h3 h4=>Qt w' u c h4 h1 nb nc s.aF h2 h3 hl
 refine Ez Tryz.func130 (mI 2 ρ) ρ [.lp 0 0 0 0,.c u.val] (kQ c s vl) (((dW s.aF).and (bE u)).and (gu w F)) 5 h.abs ?_
 unfold aC
 cases hf:CS u.xs (s.aF.map au.xs) 0 with
 |some k=>
  have hz:Ue u.xs (s.aF.map au.xs)=k:=by unfold Ue;rw[hf]
  rw[hz]at hix
  repeat' ((conv=>whnf)<;>first|(show aI _ 154 ..;(refine aQ (f:=154) Tryz.call154 (.int .i64 k) (λρ w' hw=>by obtain⟨c,e,hc⟩:=R6 (d:=5) hw aU;exact yo e (hix w' c (ρ 3).base (ρ 3).cap hc (eT hw aU) (ae hw λR h=>λp hp=>bT (hs p hp) (h.1.1 p hp)) (ae hw λR h=>bT hu h.1.2))) ?_))|(show @eZ _ _ _;refine dA aa ?_)|refine aX ?_)
  all_goals(conv=>whnf)
  all_goals exact fw _ _ _ _ () [] trivial aY rfl rfl rfl rfl bM (λR w' h=>⟨h.2,trivial⟩)
 |none=>
  have hz:Ue u.xs (s.aF.map au.xs)= -1:=by unfold Ue;rw[hf]
  rw[hz]at hix
  repeat' ((conv=>whnf)<;>first|(show aI _ 154 ..;(refine aQ (f:=154) Tryz.call154 (.int .i64 (-1)) (λρ w' hw=>by obtain⟨c,e,hc⟩:=R6 (d:=5) hw aU;exact yo e (hix w' c (ρ 3).base (ρ 3).cap hc (eT hw aU) (ae hw λR h=>λp hp=>bT (hs p hp) (h.1.1 p hp)) (ae hw λR h=>bT hu h.1.2))) ?_))|(show @eZ _ _ _;refine cu aY ?_)|(show b_ _ 4 ..;refine lu [12] _ aiP ?_ (h6:=List.Sublist.cons_cons _ (List.Sublist.cons_cons _ (List.Sublist.cons_cons _ (List.Sublist.cons_cons _ (List.Sublist.cons _ (List.Sublist.refl _)))))))|(show lq ..;(first|refine eF (List.Sublist.cons _ (List.Sublist.cons _ (List.Sublist.refl _))) (λ_ _ h=>h) ?_|refine eF (List.Sublist.cons _ (List.Sublist.cons_cons _ (List.Sublist.cons_cons _ (List.Sublist.cons_cons _ (List.Sublist.cons_cons _ (List.Sublist.cons _ (List.Sublist.refl _))))))) (λ_ _ h=>h) ?_|refine eF (List.Sublist.refl _) (λ_ _ h=>h) ?_))|refine afu ?_|(show gP ..;(refine dP ag9 ?_))|refine aiB ?_|refine aX ?_)
  all_goals(conv=>whnf)
  all_goals exact fw _ _ _ _ () [(3,some 7)] trivial aY rfl rfl rfl rfl bM (λR w' h=>⟨h.2,trivial⟩)
section
variable {H:Heap} {S:bN} {nx:Nat} {K:SV->Heap->bN->Nat->Prop}
theorem sj{cx:Cx}{f:FuncId}{args:List SV}{α:Type}(θ:Map)(c:dN)(s:dw)(vl:List Int)(A:bN)(ol:List SV)(val:α->SV)(s':α->dw)(D:α->bN)(p:α->Prop)
 (hf:∀ar w,(callFunc f ar).run cx.P w= .ok (.enter f ar) w) (hm:vM 0 θ (kQ c s vl)=true) (hin:kU θ H (kQ c s vl))
 (h0:∃j,θ.app 0=some j) (h1:∃j,θ.app 1=some j) (ha:args=SV.t_ θ.app ol) (hA:∀R w,S.holds R w->A.holds R w) (G:Nat->Prop) (hG:∀R w,S.holds R w->∀b,G b->R b)
 (hc:∀w ρ F,iY w ρ F 2 5 (kQ c s vl) A->Calls cx.P f (SV.eO ρ ol).toArray w (BB w ρ F val (λx=>kQ c (s' x) vl) D p))
 (h:∀x,p x->K ((val x).ren (xh 2 nx θ)) (tN θ (kQ c s vl) H++Mx (xh 2 nx θ) (kQ c (s' x) vl)) (S.and ((D x).off G)) (nx+5)):aI cx f args H S nx K:=by
 refine z8 θ 2 5 (kQ c s vl) A ol val (λx=>kQ c (s' x) vl) D p hf hm rfl hin (λi hi=> ?_) aY ha hA G hG hc h
 have:i=0\/i=1:=by omega
 rcases this with rfl|rfl
 ·obtain⟨j,hj⟩:=h0
  exact⟨j,_,hj,aU⟩
 ·obtain⟨j,hj⟩:=h1
  exact⟨j,_,hj,aU⟩
theorem vD{i n:Nat}(xs:List Int){R0:List (List Value)}{T:TypeId}(G:Nat->Prop)(hG:∀R w,S.holds R w->∀b,G b->R b)(he:R0=aN xs)(hn:n=xs.length)(hf:∀x∈xs,i64 x)(hl:xs.length<=1000000)(h:∀u:au,u.xs=xs->u.bq->K (.c u.val) H (S.and ((bE u).off G)) nx):jT (.os i n) ((i,.rows R0 1 T)::H) S nx K:=by
 subst he hn
 exact ahn G hG (λl hc=>h ⟨l.base,l.cap,xs⟩ rfl ⟨hf,by simpa[aJ]using hc,hl⟩)
theorem xC(n:Nat):List.replicate n [Value.int .i64 0]=aN (List.replicate n 0):=by unfold aN;simp
theorem Q9(n:Nat):∀x∈List.replicate n (0:Int),i64 x:=λx hx=>by
 rw[(List.mem_replicate.1 hx).2];unfold i64;omega
def zeroV(s:dw)(u:au)(x:Int):dw:=dn (aC s u).1 5 x 0 (aC s u).2
theorem iX(s:dw)(u:au):(aC s u).1.code=s.code:=by
 unfold aC;split<;>rfl
theorem SC(c:dN)(s:dw)(vl:List Int)(x:Int)(hn:c.aj<=4096)(hs:∀p∈s.aF,p.bq)(hl:s.aF.length<=1000000)(hcl:s.code.length<=1000000)(w:World)(ρ:Nat->SX.Loc)(F:Nat->Prop)(h:iY w ρ F 2 5 (kQ c s vl) (dW s.aF)):
 Calls Tryz.prog 74 (SV.eO ρ [.lp 0 0 0 0,ax x]).toArray w (BB w ρ F (λ_:au=>ax s.code.length) (λu=>kQ c (zeroV s u x) vl) (λu=>bE u) (λu=>u.xs=List.replicate c.aj 0/\u.bq)):=by
 refine Ez Tryz.func74 (mI 2 ρ) ρ [.lp 0 0 0 0,ax x] (kQ c s vl) ((dW s.aF).and (gu w F)) 5 h.abs ?_
 repeat' ((conv=>whnf)<;>first|refine Qd ?_|(refine ahR ?_;intro u hu fI)|(show aI _ 130 ..;(refine sj [(0,some 0),(1,some 1),(2,some 2),(3,some 3),(4,some 4)] c s vl ((dW s.aF).and (bE u)) [.lp 0 0 0 0,.c u.val] _ _ _ _ Tryz.call130 rfl bM ⟨_,rfl⟩ ⟨_,rfl⟩ rfl (λR w' h=>⟨h.1.1,jO h.2⟩) (dZ w F) (λR w' h b hb=>(h.1.2 b hb).1) (λw' ρ' F' h'=>uG c s vl u fI hs hl w' ρ' F' h') (λ_ _=> ?_)))|(show aI _ 68 ..;(refine sj [(0,some 0),(1,some 1),(2,some 8),(3,some 9),(4,some 10)] c (aC s u).1 vl ed [.lp 0 0 0 0,ax 5,ax x,ax 0,ax (aC s u).2] _ _ _ _ Tryz.call68 rfl bM ⟨_,rfl⟩ ⟨_,rfl⟩ rfl (λR w' h=>trivial) (dZ w F) (λR w' h b hb=>(h.1.1.2 b hb).1) (λw' ρ' F' h'=>gV c (aC s u).1 vl 5 x 0 (aC s u).2 (by rw[iX];exact hcl) w' ρ' F' h') (λ_ _=> ?_)))|refine aX ?_)
 all_goals(conv=>whnf)
 all_goals exact fw _ _ _ _ u [(2,some 13),(3,some 14),(4,some 15)] ⟨hu,fI⟩ aY (by rw[iX];rfl) rfl rfl rfl bM (λR w' h=>⟨h.1.1.1.2,h.1.1.2⟩)
end
section
theorem zX{f:Nat->Int}:∀{l:List Int} {e:Nat} {row:List Int},(nT f l e row).length=row.length
 |[],_,_=>rfl
 |s::r,e,row=>by
  unfold nT
  rw[zX,List.length_set]
theorem FK{f:Nat->Int}{s:Int}:∀{l:List Int} {e:Nat} {row:List Int},nT f (l++[s]) e row=(nT f l e row).set s.toNat (f (e+l.length))
 |[],e,row=>rfl
 |x::r,e,row=>by
  rw[List.cons_append]
  unfold nT
  rw[FK,List.length_cons]
  congr 2;omega
theorem Md{f:Nat->Int}:∀{l:List Int} {e:Nat} {row:List Int},(∀x∈row,i64 x)->(∀k,k<e+l.length->i64 (f k))->∀x∈nT f l e row,i64 x
 |[],_,_,h,_=>h
 |s::r,e,row,h,hf=>by
  unfold nT
  refine Md (λx hx=> ?_) (λk hk=>hf k Ze)
  rcases List.mem_or_eq_of_mem_set hx with hx|rfl
  ·exact h x hx
  ·exact hf e Ze
theorem ints_set{xs:List Int}{j:Nat}{x:Int}(hj:j<xs.length){K:List (List Value)->Prop}(h:K (aN (xs.set j x))):cO (aN xs) j 0 [.int .i64 x] K:=by
 refine iW _ (eH hj) FW ?_
 have e:aN (xs.set j x)=(aN xs).set j (bW [.int .i64 xs[j]] 0 [.int .i64 x]):=by
  unfold aN
  rw[List.map_set]
  rfl
 rw[<-e];exact h
variable {H:Heap} {w:World} {cells:List Value}
theorem adO{B:Base}{ρ:Nat->SX.Loc}{nx:Nat}{S:bN}{d:Nat}{T:TypeId}(hw:eD B ρ nx H S w)(hd:(d,bZ.box (cs cells) T)∈H):∃b,(SV.lp d 0 0 0).rf ρ= .pointer (some ⟨b,0,none⟩)/\w.heap[b]? =some (.cells cells.toArray T (0,0)):=by
 obtain⟨R,φ,oo⟩:=hw
 obtain⟨b,h1,h2,h3⟩:=oo.kV _ hd
 simp only at h1
 rw[vG]at h3
 exact⟨b,by simp[SV.rf,h1,iA],h3⟩
theorem agn{P:Program}{f:FuncId}{u v:Value}{Q:Ending->World->Prop}{b:Nat}(e:v= .pointer (some ⟨b,0,none⟩))(h:Calls P f #[u,.pointer (some ⟨b,0,none⟩)] w Q):Calls P f #[u,v] w Q:=e▸h
theorem YR(θ:Nat->Option Nat):∀l:List Value,SV.t_ θ (cs l)=cs l
 |[]=>rfl
 |v::r=>by
  show SV.ren θ (.c v)::SV.t_ θ (cs r)= .c v::cs r
  rw[YR θ r];rfl
theorem QV(n:Nat):∀l:List Value,SV.BC n (cs l)=true
 |[]=>rfl
 |v::r=>by
  show(SV.bnd n (.c v)&&SV.BC n (cs r))=true
  rw[QV n r];rfl
def vE(c:dN):bN:=(fC c.bO.base 1 (aS c.bO.l)).and (dW c.bO.l)
def kw(c:dN)(s:dw)(vl:List Int)(cells:List Value)(Tb:TypeId):Heap:=kQ c s vl++[(5,.box (cs cells) Tb)]
theorem O5(c:dN)(s:dw)(vl:List Int)(cells:List Value)(Tb:TypeId):q9 6 (kw c s vl cells Tb)=true:=by
 simp[kw,kQ,Wh,q9,bZ.bnd,SV.BC,SV.bnd,QV,Nat.ble]
 decide
theorem XU(c:dN)(s:dw)(vl:List Int)(cells:List Value)(Tb:TypeId)(xs:List (List Value))(T:TypeId):q9 7 ((6,.rows xs 1 T)::kw c s vl cells Tb)=true:=by
 simp[kw,kQ,Wh,q9,bZ.bnd,SV.BC,SV.bnd,QV,Nat.ble]
 decide
variable {θ:Nat->Option Nat} {Tb:TypeId} {i:Nat}
theorem Ic(h:(i,bZ.box (cs cells) Tb)∈H):(i,(bZ.box (cs cells) Tb).ren θ)∈H:=by
 show(i,bZ.box (SV.t_ θ (cs cells)) Tb)∈H
 rw[YR];exact h
theorem adt(a:Nat)(l:SX.Loc):∀c:List Value,SV.fzs a l (cs c)=cs c
 |[]=>rfl
 |v::r=>by
  show SV.fz a l (.c v)::SV.fzs a l (cs r)= .c v::cs r
  rw[adt a l r];rfl
theorem ajr{a:Nat}{l:SX.Loc}(h:(i,bZ.box (SV.fzs a l (cs cells)) Tb)∈H):(i,(bZ.box (cs cells) Tb).ren θ)∈H:=by
 rw[adt]at h
 exact Ic h
theorem V9(c:dN)(s:dw)(vl:List Int)(g:FuncId)(cells:List Value)(Tb:TypeId)(i:Nat)(f:Nat->Int)(E:bN)(sp:au)(hn:c.aj<=4096)(hs:∀p∈s.aF,p.bq)(hl:s.aF.length<=1000000)(hi:c.bO.l[i]? =some sp)(zo:sp.bq)(hb:∀x∈sp.xs,0<=x/\x<c.aj)(hff:∀e,e<sp.xs.length->i64 (f e))
 (hg:∀ar w,(callFunc g ar).run Tryz.prog w= .ok (.enter g ar) w)
 (hof:∀R w' b (e:Nat),e<sp.xs.length->w'.heap[b]? =some (.cells cells.toArray Tb (0,0))->E.holds R w'->Calls Tryz.prog g #[.int .i64 e,.pointer (some ⟨b,0,none⟩)] w' λen w''=>en= .returned (.int .i64 (f e))/\Ext w' w'')
 (w:World) (ρ:Nat->SX.Loc) (F:Nat->Prop) (h:iY w ρ F 2 6 (kw c s vl cells Tb) (((dW s.aF).and (vE c)).and E)):
 Calls Tryz.prog 69 (SV.eO ρ [.lp 0 0 0 0,ax i,.fn (.func g) [] [.lp 5 0 0 0]]).toArray w (yl w ρ F 2 6 (λu:au=>ax (aC s u).2) (λu=>kw c (aC s u).1 vl cells Tb) (λu=>bE u) (λu=>u.xs=jl c.aj sp.xs f/\u.bq)):=by
 refine Ez Tryz.func69 (mI 2 ρ) ρ [.lp 0 0 0 0,ax i,.fn (.func g) [] [.lp 5 0 0 0]] (kw c s vl cells Tb) ((((dW s.aF).and (vE c)).and E).and (gu w F)) 6 h.abs ?_
 have hil:=(List.getElem?_eq_some_iff.1 hi).1
 have hrow:(aS c.bO.l)[i]? =some [sp.val]:=by unfold aS;rw[List.getElem?_map,hi];rfl
 refine Wp.know (p:=∃a,c.bO.base=some a) (λρ w' hw=>ae hw λR h=>aP (j:=i) (aV h.1.1.2.1) afC) ?_
 rintro⟨sa,hsa⟩
 repeat' ((conv=>whnf)<;>first|refine Qd ?_|(show bV ..;refine aH sa i hsa rfl hil ?_)|(show fT ..;(refine bA (λR w' h=>by rw[<-hsa];exact aV h.1.1.2.1) _ _ hrow rfl ?_))|refine aX ?_)
 refine Wp.loop (σ:=Nat) 7 (λe=>[(0,.lp 0 0 0 0),(2,.fn (.func g) [] [.lp 5 0 0 0]),(7,.os 6 c.aj),(22,.c sp.val),(23,ax sp.xs.length),(24,ax e)]) (λe=>(6,.rows (aN (nT f (sp.xs.take e) 0 (List.replicate c.aj 0))) 1 3)::kw c s vl cells Tb) (λ_=>(((dW s.aF).and (vE c)).and E).and (gu w F)) (λe=>e<=sp.xs.length) (λe=>sp.xs.length-e) 0 [] aY (λe=>⟨rfl,XU _ _ _ _ _ _ _⟩)
  (Nat.zero_le _) ⟨rfl,⟨rfl,rfl,rfl,rfl,rfl,rfl,trivial⟩,⟨?_,aU,aU,aU,aU,aU,Ic aU,trivial⟩,λR w' h=>h⟩ ?_
 ·show(6,bZ.rows (aN (List.replicate c.aj 0)) 1 3)∈_
  rw[<-xC]
  exact aU
 rintro e he
 have hrl:(nT f (sp.xs.take e) 0 (List.replicate c.aj 0)).length=c.aj:=by rw[zX,List.length_replicate]
 by_cases hlt:e<sp.xs.length
 ·have htk:sp.xs.take (e+1)=sp.xs.take e++[sp.xs[e]]:=by rw[List.take_add_one,List.getElem?_eq_getElem hlt];rfl
  have hsn:nT f (sp.xs.take (e+1)) 0 (List.replicate c.aj 0)=(nT f (sp.xs.take e) 0 (List.replicate c.aj 0)).set sp.xs[e].toNat (f e):=by
   rw[htk,FK,List.length_take,Nat.min_eq_left aa,Nat.zero_add]
  have hbe:=hb _ (List.getElem_mem hlt)
  have hxg:sp.xs.getD e 0=sp.xs[e]:=by rw[List.getD_eq_getElem?_getD,List.getElem?_eq_getElem hlt];rfl
  have oz:=zo.few
  generalize sp.xs[e]=z at*
  generalize nT f (sp.xs.take e) 0 (List.replicate c.aj 0)=row at*
  refine Wp.know (p:=∃a,sp.base=some a) (λρ w' hw=>ae hw λR h=>aP (j:=e) (aV (h.1.1.2.2 sp (List.mem_of_getElem? hi))) abP) ?_
  rintro⟨pa,hpa⟩
  repeat' ((conv=>whnf)<;>first|(show bV ..;refine aH pa e hpa rfl hlt ?_)|(show fT ..;(refine kz (λR w' h=>by rw[<-hpa];exact aV (h.1.1.2.2 sp (List.mem_of_getElem? hi))) (j:=e) hlt hxg ?_))|(show aI _ g ..;refine aQ (f:=g) hg (.int .i64 (f e)) (λρ w' hw=>by obtain⟨b,eb,hbh⟩:=adO (d:=5) hw aU;exact agn eb (ae hw λR h=>hof R w' b e hlt hbh h.1.2)) ?_)|(show di ..;(refine bg z.toNat aa aa ahP ?_))|(show cO ..;refine ints_set aa ?_)|refine aX ?_|refine ag ?_ ?_<;>intro _)
  all_goals(conv=>whnf)
  all_goals exact⟨e+1,[],hlt,by omega,rfl,bM,⟨by rw[hsn];exact aU,aU,aU,aU,aU,aU,Ic aU,trivial⟩,λR w' h=>h⟩
 ·obtain rfl:e=sp.xs.length:=by omega
  rw[List.take_length]at hrl
  repeat' ((conv=>whnf)<;>first|fail)
  all_goals(conv=>whnf)
  have aaI:∀x∈nT f (sp.xs.take sp.xs.length) 0 (List.replicate c.aj 0),i64 x:=by
   rw[List.take_length]
   exact Md (Q9 _) (λk hk=>hff k aa)
  refine Wp.Ie 6 (dZ w F) (k:=1) (xs:=aN (nT f (sp.xs.take sp.xs.length) 0 (List.replicate c.aj 0))) (T:=3) aU (λR w' h b hb=>(h.2 b hb).1) (λfl hfl=> ?_)
  rw[List.take_length]at aaI hfl|-
  rw[aJ,hrl]at hfl
  obtain⟨u,hu⟩:∃u:au,u=⟨fl.base,fl.cap,nT f sp.xs 0 (List.replicate c.aj 0)⟩:=⟨_,rfl⟩
  have YF:u.xs=nT f sp.xs 0 (List.replicate c.aj 0):=by rw[hu]
  have fI:u.bq:=⟨by rw[YF];exact aaI,by rw[YF,hrl,hu];exact hfl,by rw[YF,hrl];omega⟩
  have huv:Value.slice fl.base c.aj fl.cap=u.val:=by rw[hu];show _=Value.slice _ (nT f sp.xs 0 (List.replicate c.aj 0)).length _;rw[hrl]
  have jD:∀{R:Nat->Prop} {w':World},((fC fl.base 1 (aN (nT f sp.xs 0 (List.replicate c.aj 0)))).off (dZ w F)).holds R w'->((bE u).off (dZ w F)).holds R w':=λh=>by rw[hu];exact h
  repeat' ((conv=>whnf)<;>first|(show aI _ 130 ..;(refine sj [(0,some 0),(1,some 1),(2,some 2),(3,some 3),(4,some 4)] c s vl ((dW s.aF).and (bE u)) [.lp 0 0 0 0,.c u.val] _ _ _ _ Tryz.call130 rfl bM ⟨_,rfl⟩ ⟨_,rfl⟩ (by rw[<-huv];rfl) (λR w' h=>⟨h.1.1.1.1,jO (jD h.2)⟩) (dZ w F) (λR w' h b hb=>(h.1.2 b hb).1) (λw' ρ' F' h'=>uG c s vl u fI hs hl w' ρ' F' h') (λ_ _=> ?_)))|refine aX ?_|refine ag ?_ ?_<;>intro _)
  all_goals(conv=>whnf)
  all_goals exact fw _ _ _ _ u [(2,some 9),(3,some 10),(4,some 11)] ⟨YF,fI⟩ aY rfl rfl (O5 _ _ _ _ _) rfl ⟨aU,aU,aU,aU,aU,ajr (a:=6) (l:=fl) aU,trivial⟩ (λR w' h=>⟨h.1.1.2,jD h.1.2⟩)
end
open Go.Maps Go.Shelf
section
def YA(F:Fence)(n:Nat)(g:Nat)(lb:Array Value)(S:List Int->Prop)(N:Nat)(w:World):Prop:=
 ∀(l:Nat) (J:List Int->World->Prop) (W:World),Below w.heap.size w W->(∀pre W1,J pre W1->Below w.heap.size w W1)->
  (∀pre x W1,J pre W1->pre.length<N->YieldAt F (n-1) Tryz.prog l #[(Value.int .i64 x)] W1 λe W'=>e= .returned (.bool true)/\J (pre++[x]) W'/\KeepsWalks W1 W')->
  J [] W->CallsIn F n Tryz.prog g (#[.func (.yield l) #[] #[]]++lb) W λe W'=>(∃v,e= .returned v)/\∃xs,S xs/\J xs W'
def apAssign:Code:=(Code.region 2 #[{dst:=some 5,op:=Op.assign (Operand.tmp 7),type:=3,pos:= "iter.go:51",after:= #[],guard:=none}] false)
def apBody:Code:=(Code.block 1 (Code.region 3 #[{dst:=some 8,op:=Op.load 32 (Operand.tmp 2),type:=32,pos:= "iter.go:52",after:= #[],guard:=none},{dst:=some 9,op:=Op.move (Operand.tmp 5),type:=3,pos:= "iter.go:52",after:= #[],guard:=none},{dst:=some 10,op:=Op.buildSlice 32 1 #[(0,Operand.tmp 9)],type:=32,pos:= "iter.go:52",after:= #[{on:=1,ground:=Ground.data}],guard:=none},{dst:=some 11,op:=Op.call {callee:=Callee.builtin Builtin.append,args:= #[Operand.tmp 8,Operand.tmp 10],argTypes:= #[32,32]},type:=32,pos:= "iter.go:52",after:= #[{on:=0,ground:=Ground.data},{on:=2,ground:=Ground.data}],guard:=none},{dst:=none,op:=Op.store 32 (Operand.tmp 2) (Operand.tmp 11),type:=0,pos:= "iter.go:52",after:= #[{on:=3,ground:=Ground.data},{on:=3,ground:=Ground.chain},{on:=0,ground:=Ground.phase},{on:=1,ground:=Ground.phase},{on:=2,ground:=Ground.phase},{on:=3,ground:=Ground.phase}],guard:=none}] false))
def apRec(fn:FuncId)(sv:Value)(Bs D:Nat)(st:LoopState)(pend:Option Code):Loop:=
 {state:=st,pending:=pend,fn,tmps:= #[.slice none 0 0,sv,.pointer (some ⟨Bs,0,none⟩),undef,.slice none 0 0,undef,sv,undef,undef,undef,undef,undef,undef],params:= #[7],assign:=apAssign,body:=apBody,defers:=D}
structure ApAt(w0:World)(fn:FuncId)(sv:Value)(Bs l D:Nat)(ss:List Int)(W:World):Prop where
 box:∃v,W.heap[Bs]? =some (.cells #[v] 32 (0,0))/\W.ownsRow w0.heap.size 3 1 v ss.length (ss.map (Value.int .i64))/\(v= .slice none 0 0↔ss=[])
 L:W.heap[l]? =some (.loop (apRec fn sv Bs D .ready none))
 K:W.heap[D]? =some (.deferred (some []))
 below:Below w0.heap.size w0 W
theorem lD(W:World)(l:Nat)(o:Obj):W.grownBy (W.putObj l o) (some l):=
 ⟨rfl,rfl,rfl,by simp,λk _ hk=>World.putObj_heap_other (λe=>hk (by rw[e]))⟩
theorem FM(W:World)(b:Nat)(v:Value):W.grownBy (W.setCell ⟨b,0,none⟩ v) (some b):=
 ⟨rfl,rfl,rfl,(KeepsWalks.setCell W _ v).size,λk _ hk=>Below.heap_setCell _ _ _ k (λe=>hk (by rw[e]))⟩
variable {W:World} {base size k:Nat} {v:Value} {xs:List Value}
theorem rF{e:TypeId}(h:W.ownsRow base e size v k xs){j:Nat}{o:Obj}(hj:W.heap[j]? =some o)(hno:∀cur,o≠.cells cur e (0,0)):
 v.ownBlock=none\/v.ownBlock≠some j:=by
 rcases h.2 with⟨rfl,_⟩|⟨g,cap,cur,rfl,_,hgb,_⟩
 ·exact .inl rfl
 ·refine .inr λe'=> ?_
  have:g=j:=by simpa[Value.ownBlock]using e'
  subst this;rw[hgb]at hj;cases hj;exact hno cur rfl
variable {B:Nat} {t:TypeId}
theorem Ad(h:W.heap[B]? =some (.cells #[v] t (0,0))):W.cell? ⟨B,0,none⟩=some v/\W.frozen? ⟨B,0,none⟩=false:=by
 constructor<;>simp[World.cell?,World.frozen?,h]
theorem EO(v':Value)(h:W.heap[B]? =some (.cells #[v] t (0,0))):(W.setCell ⟨B,0,none⟩ v').heap[B]? =some (.cells #[v'] t (0,0)):=by
 obtain⟨hlt,hk⟩:=Array.getElem?_eq_some_iff.1 h
 show(W.heap.modify B _)[B]? =_
 rw[Array.getElem?_eq_getElem (by rw[Array.size_modify];exact hlt),Array.getElem_modify_self,hk]
 rfl
theorem FT{e:TypeId}(h:W.ownsRow base e size v k xs):∀(j:Nat) (o:Obj),v.ownBlock=some j->W.heap[j]? =some o->o.isWalk=false:=by
 intro j o hj ho
 rcases h.2 with⟨rfl,_⟩|⟨g,cap,cur,rfl,_,hgb,_⟩
 ·simp[Value.ownBlock]at hj
 ·have:g=j:=by simpa[Value.ownBlock]using hj
  subst this;rw[hgb]at ho;cases ho;rfl
theorem Zl:(Tryz.prog.info? 3).map (λi=>(i.zero,i.size,i.bytes))=some (some (.int .i64 0),1,8):=by kernel_rfl
theorem apYield(F:Fence)(m:Nat)(w0:World)(fn:FuncId)(hfn:F.fn fn)(sv:Value)(Bs l D:Nat)(hBl:Bs≠l)(hDl:D≠l)(hDB:D≠Bs)(h0B:w0.heap.size<=Bs)(h0l:w0.heap.size<=l)
 (N:Nat) (hN:N<=maxLen) (hNb:N*8<=140737488355328) (ss:List Int) (x:Int) (W:World) (h:ApAt w0 fn sv Bs l D ss W) (hlen:ss.length<N):
 YieldAt F m Tryz.prog l #[(Value.int .i64 x)] W λe W'=>e= .returned (.bool true)/\ApAt w0 fn sv Bs l D (ss++[x]) W'/\KeepsWalks W W':=by
 obtain⟨i0,hi,hz0,hz1,hz2⟩:=info_parts Zl
 obtain⟨v,hv,hrow,_⟩:=h.box
 refine⟨fn,#[.slice none 0 0,sv,.pointer (some ⟨Bs,0,none⟩),undef,.slice none 0 0,undef,sv,(Value.int .i64 x),undef,undef,undef,undef,undef],apAssign,apBody,by simpa[apRec]using run_yield (P:=Tryz.prog) (args:= #[(Value.int .i64 x)]) h.L rfl,roundIn_of_wpIn hfn ?_⟩
 have hl:l<W.heap.size:=(Array.getElem?_eq_some_iff.1 h.L).1
 have hbr:=run_beginRound (P:=Tryz.prog) h.L rfl
 obtain⟨W2,hW2⟩:∃W2,W.putObj l (.loop {apRec fn sv Bs D .ready none with state:= .busy})=W2:=⟨_,rfl⟩
 rw[hW2]at hbr
 have hg2:W.grownBy W2 (some l):=by rw[<-hW2];exact lD _ _ _
 have hk2:KeepsWalks W W2:=by rw[<-hW2];exact KeepsWalks.putObj _ h.L rfl
 have hv2:W2.heap[Bs]? =some (.cells #[v] 32 (0,0)):=by rw[<-hW2];exact(World.putObj_heap_other hBl).trans hv
 have hK2:W2.heap[D]? =some (.deferred (some [])):=by rw[<-hW2];exact(World.putObj_heap_other hDl).trans h.K
 have hL2:W2.heap[l]? =some (.loop {apRec fn sv Bs D .ready none with state:= .busy}):=by rw[<-hW2];exact World.putObj_heap_same hl
 have hrow2:W2.ownsRow w0.heap.size 3 1 v ss.length (ss.map (Value.int .i64)):=hrow.kept hg2 (rF hrow h.L (λcur e=>by cases e))
 have hb2:Below w0.heap.size w0 W2:=h.below.grown hg2 h.below.size (λk e=>by cases e;exact h0l)
 obtain⟨hc2,hf2⟩:=Ad hv2
 have hBlt:Bs<W2.heap.size:=(Array.getElem?_eq_some_iff.1 hv2).1
 have hl2:l<W2.heap.size:=(Array.getElem?_eq_some_iff.1 hL2).1
 have hDlt:D<W2.heap.size:=(Array.getElem?_eq_some_iff.1 hK2).1
 have ne_of:∀{j:Nat} {o:Obj},W2.heap[j]? =some o->(∀cur,o≠.cells cur 3 (0,0))->some j≠v.ownBlock:=λhj hno=>by
  rcases rF hrow2 hj hno with e|e
  ·rw[e];simp
  ·exactλe'=>e e'.symm
 clear hW2
 unfold apAssign
 gi_wp2_with (rw[Oper.semAt_eq _ _ _ (λc h=>by cases h)];go_simp;try go_bits)
 unfold apBody
 gi_wp2_with (first
  |(gi_at_builtin;refine wpListIn_append_own _ rfl _ _ 32 rfl w0.heap.size 3 i0 (.int .i64 0) 1 8 Tryz.underlying32 hi hz0 hz1 hz2 rfl aY _ _ _ rfl (hrow2.alloc _) ⟨W2.heap.size,0,none⟩ 1 1 [(Value.int .i64 x)] rfl rfl (cell_one_new _ _ _) (by simp[Value.oneCell']) aa aa (by have:=hb2.size;simp;omega) ?_;intro v' w3 hown' hg3 hnil3
    have hv3:w3.heap[Bs]? =some (.cells #[v] 32 (0,0)):=(hg3.block Bs yL (ne_of hv2 (λcur e=>by cases e))).trans ((Below.heap_alloc _ _ Bs hBlt).trans hv2)
    obtain⟨hc3,hf3⟩:=Ad hv3
    obtain⟨g',cap',cur',rfl,hbase',hgb',hr1,hr2,hr3,hr4⟩:∃g' cap' cur',v'= .slice (some ⟨g',0,none⟩) (ss.length+1) cap'/\w0.heap.size<=g'/\w3.heap[g']? =some (.cells cur' 3 (0,0))/\ss.length+1<=cap'/\cap'<=maxLen/\cur'.size=cap'*1/\cur'.toList.take ((ss.length+1)*1)=ss.map (Value.int .i64)++[(Value.int .i64 x)]:=by
     rcases hown'.2 with⟨_,h0⟩|h'
     ·exact absurd h0 aa
     ·exact h'
    simp only[Act.put,List.setIfInBounds_toArray,List.set_cons_succ,List.set_cons_zero])
  |(rw[Oper.semAt_eq _ _ _ (λc h=>by cases h)];go_simp;try go_bits))
 have hg3':(W2.alloc (.cells #[(Value.int .i64 x)] 3)).grownBy w3 v.ownBlock:=hg3
 have hL3:w3.heap[l]? =some (.loop {apRec fn sv Bs D .ready none with state:= .busy}):=(hg3'.block l yL (ne_of hL2 (λcur e=>by cases e))).trans ((Below.heap_alloc _ _ l hl2).trans hL2)
 have hK3:w3.heap[D]? =some (.deferred (some [])):=(hg3'.block D yL (ne_of hK2 (λcur e=>by cases e))).trans ((Below.heap_alloc _ _ D hDlt).trans hK2)
 obtain⟨w4,hw4⟩:∃w4,w3.setCell ⟨Bs,0,none⟩ (.slice (some ⟨g',0,none⟩) (ss.length+1) cap')=w4:=⟨_,rfl⟩
 rw[hw4]
 have hg4:w3.grownBy w4 (some Bs):=by rw[<-hw4];exact FM _ _ _
 have hv4:w4.heap[Bs]? =some (.cells #[.slice (some ⟨g',0,none⟩) (ss.length+1) cap'] 32 (0,0)):=by rw[<-hw4];exact EO _ hv3
 have hL4:w4.heap[l]? =some (.loop {apRec fn sv Bs D .ready none with state:= .busy}):=(hg4.block l (Array.getElem?_eq_some_iff.1 hL3).1 (λe=>hBl (by cases e;rfl))).trans hL3
 have hK4:w4.heap[D]? =some (.deferred (some [])):=(hg4.block D (Array.getElem?_eq_some_iff.1 hK3).1 (λe=>hDB (by cases e;rfl))).trans hK3
 have hrow4:=hown'.kept hg4 (rF hown' hv3 (λcur e=>by cases e))
 have hl4:l<w4.heap.size:=(Array.getElem?_eq_some_iff.1 hL4).1
 have hb3:Below w0.heap.size w0 w3:=(hb2.alloc hb2.size _).grown hg3' (by have:=hb2.size;simp;omega) (λk e=>(hrow2.lt k e).1)
 have hb4:Below w0.heap.size w0 w4:=hb3.grown hg4 hb3.size (λk e=>by cases e;exact h0B)
 have hk4:KeepsWalks W w4:=((hk2.trans (KeepsWalks.alloc _ _)).trans (KeepsWalks.of_grownBy hg3' (FT (hrow2.alloc _)))).trans (by rw[<-hw4];exact KeepsWalks.setCell _ _ _)
 clear hw4
 refine⟨_,_,run_endRound none hL4,rfl,⟨⟨_,(World.putObj_heap_other hBl).trans hv4,?_,by simp⟩,World.putObj_heap_same hl4,(World.putObj_heap_other hDl).trans hK4,hb4.grown (lD _ _ _) hb4.size (λk e=>by cases e;exact h0l)⟩,hk4.trans (KeepsWalks.putObj _ hL4 rfl)⟩
 have:=hrow4.kept (lD w4 l (.loop {{apRec fn sv Bs D .ready none with state:= .busy}with state:=if(none:Option Code).isNone then .ready else .done,pending:=none})) (rF hrow4 hL4 (λcur e=>by cases e))
 simpa using this
theorem appendSeq_in(F:Fence)(n:Nat)(h11:F.fn 165)(hro:F.round=none)(hn:2<=n)(g:Nat)(lb:Array Value)(hFg:F.fn g)(eg:∀args w,(callFunc g args).run Tryz.prog w= .ok (.enter g args) w)
 (S:List Int->Prop) (N:Nat) (hN:N<=maxLen) (hNb:N*8<=140737488355328) (w:World) (hseq:YA F (n-1) g lb S N w):
 CallsIn F n Tryz.prog 165 #[.slice none 0 0,.func (.func g) #[] lb] w λe w'=>∃(v:Value) (ss:List Int),e= .returned v/\S ss/\w'.ownsRow w.heap.size 3 1 v ss.length (ss.map (Value.int .i64))/\(v= .slice none 0 0↔ss=[])/\Below w.heap.size w w':=by
 have h1:1<=n:=by omega
 refine callsIn_of_wp_marks Tryz.func165 rfl h11 ?_ hro
 simp only[Tryz.ntmps165,List.size_toArray,List.length_cons,List.length_nil,Nat.reduceAdd,Nat.reduceSub,Array.replicate_succ,Array.replicate_zero,List.push_toArray,List.append_toArray,List.nil_append,List.cons_append]
 gi_wp2
 refine wpIn_rangeFunc ?_
 intro fn hfn
 rw[hro]
 obtain⟨W0,hW0⟩:∃W0,w.alloc (.cells #[.slice none 0 0] 32)=W0:=⟨_,rfl⟩
 have hs0:W0.heap.size=w.heap.size+1:=by rw[<-hW0];simp
 have hv0:W0.heap[w.heap.size]? =some (.cells #[.slice none 0 0] 32 (0,0)):=by rw[<-hW0];exact World.alloc_heap_new w _
 have hb0:Below w.heap.size w W0:=by rw[<-hW0];exact(Below.refl _ w).alloc (Nat.le_refl _) _
 rw[hW0]
 obtain⟨W1,hW1⟩:∃W1,(W0.alloc (.deferred (some []))).alloc (.loop (apRec fn (.func (.func g) #[] lb) w.heap.size W0.heap.size .ready none))=W1:=⟨_,rfl⟩
 have hold:∀k,k<W0.heap.size->W1.heap[k]? =W0.heap[k]? :=λk hk=>by
  rw[<-hW1];exact(Below.heap_alloc _ _ k yL).trans (Below.heap_alloc _ _ k hk)
 have hb1:Below w.heap.size w W1:=by rw[<-hW1];exact(hb0.alloc hb0.size _).alloc (by have:=hb0.size;simp;omega) _
 have hs1:W1.heap.size=W0.heap.size+2:=by rw[<-hW1];simp
 have hM:ApAt w fn (.func (.func g) #[] lb) w.heap.size (W0.heap.size+1) W0.heap.size [] W1:=
  ⟨⟨_,(hold w.heap.size aa).trans hv0,⟨rfl,.inl ⟨rfl,rfl⟩⟩,by simp⟩,
   by rw[<-hW1];have:=World.alloc_heap_new (W0.alloc (.deferred (some []))) (.loop (apRec fn (.func (.func g) #[] lb) w.heap.size W0.heap.size .ready none));rwa[World.size_alloc]at this,
   by rw[<-hW1];exact(Below.heap_alloc _ _ _ fP).trans (World.alloc_heap_new W0 _),hb1⟩
 refine⟨W0.heap.size+1,[{target:= .collected W0.heap.size,args:= #[]}],W1,{target:= .fn (.func g) lb,args:= #[.func (.yield (W0.heap.size+1)) #[] #[]]},W1,g,
  #[.func (.yield (W0.heap.size+1)) #[] #[]]++lb,W1,?_,?_,?_,?_,λ_=>h1,?_⟩
 ·rw[<-hW1];exact run_enterLoop_outer _ _ _ _ _
 ·simp[resolve,go_sem]
 ·intro f' hf';simp[Target.leads]at hf';subst hf';exact hFg
 ·simp[invoke,go_sem,eg]
 ·refine(hseq (W0.heap.size+1) (ApAt w fn (.func (.func g) #[] lb) w.heap.size (W0.heap.size+1) W0.heap.size) W1 hb1 (λ_ _ h=>h.below)
   (λpre x W hJ hl=>apYield F (n-1-1) w fn hfn _ w.heap.size (W0.heap.size+1) W0.heap.size aa aa aa (Nat.le_refl _) aa N hN hNb pre x W hJ hl) hM).mono ?_
  rintro e W2 ⟨⟨v0,rfl⟩,ss,hS,h2⟩
  obtain⟨v,hv,hrow,hnil⟩:=h2.box
  have hend:=run_endLoop (P:=Tryz.prog) h2.L (by simp[apRec])
  obtain⟨W3,hW3⟩:∃W3,W2.putObj (W0.heap.size+1) (.loop {apRec fn (.func (.func g) #[] lb) w.heap.size W0.heap.size .ready none with state:= .exhausted})=W3:=⟨_,rfl⟩
  rw[hW3]at hend
  have hg3:W2.grownBy W3 (some (W0.heap.size+1)):=by rw[<-hW3];exact lD _ _ _
  have hv3:W3.heap[w.heap.size]? =some (.cells #[v] 32 (0,0)):=by rw[<-hW3];exact(World.putObj_heap_other aa).trans hv
  have hK3:W3.heap[W0.heap.size]? =some (.deferred (some [])):=by rw[<-hW3];exact(World.putObj_heap_other aa).trans h2.K
  have hrow3:=hrow.kept hg3 (rF hrow h2.L (λcur e=>by cases e))
  have hb3:Below w.heap.size w W3:=h2.below.grown hg3 h2.below.size (λk e=>by cases e;omega)
  obtain⟨hc3,hf3⟩:=Ad hv3
  clear hW3
  refine⟨none,W3,hend,?_⟩
  gi_wp2
  rw[<-hs0]
  refine⟨by simp,.inl ⟨_,_,rfl,run_takeDeferred hK3,?_⟩⟩
  exact⟨_,results_tmp rfl _ _ _,v,ss,rfl,hS,hrow3.kept (lD _ _ _) (rF hrow3 hK3 (λcur e=>by cases e)),hnil,hb3.grown (lD _ _ _) hb3.size (λk e=>by cases e;omega)⟩
end
attribute [local go_sem] Oper.semAt_some
def upto{α:Type}(f:Nat->α)(k:Nat):List α:=(List.range k).map f
theorem OY{α:Type}(f:Nat->α)(k:Nat):upto f (k+1)=upto f k++[f k]:=by simp[upto,List.range_succ]
theorem UR{α:Type}(f:Nat->α)(k:Nat):(upto f k).length=k:=by simp[upto]
theorem acW(zs:List Int):upto (λj=>zs[j]?.getD 0) zs.length=zs:=by
 apply List.ext_getElem
 ·simp[upto]
 ·intro i h1 h2
  simp[upto,h2]
theorem XY(F:Fence)(n:Nat)(h7:F.fn 162)(hro:F.round=none)(hn:1<=n)(l Bs n₀ b off len cap:Nat)(zs:List Int)(acM:len*8<=140737488351232)(hb:b<n₀)(J Jx:List Int->World->Prop)
 (hY:∀pre x W,J pre W->pre.length<len->YieldAt F (n-1) Tryz.prog l #[.int .i64 x] W λe W'=>
   (e= .returned (.bool true)/\J (pre++[x]) W'/\Below n₀ W W')\/(e= .returned (.bool false)/\Jx (pre++[x]) W'))
 (W:World) (hBs:W.cell? ⟨Bs,0,none⟩=some (.slice (some ⟨b,off,none⟩) len cap)) (hc:∀j,j<len->W.cell? ⟨b,off+j,none⟩=some (.int .i64 (zs[j]?.getD 0))) (h0:J [] W):
 CallsIn F n Tryz.prog 162 #[.func (.yield l) #[] #[],.pointer (some ⟨Bs,0,none⟩)] W λe W'=>(∃v,e= .returned v)/\
  ((∃ys,ys=upto (λj=>zs[j]?.getD 0) len/\J ys W')\/(∃pre,(∃k,k<=len/\pre=upto (λj=>zs[j]?.getD 0) k)/\Jx pre W')):=by
 refine callsIn_of_wp Tryz.func162 rfl h7 ?_ hro
 simp only[Tryz.ntmps162,List.size_toArray,List.length_cons,List.length_nil,Nat.reduceAdd,Nat.reduceSub,Array.replicate_succ,Array.replicate_zero,List.push_toArray,List.append_toArray,List.nil_append,List.cons_append]
 gi_wp2
 gi_loopw [7] (λi wr=>∃k:Nat,k<=len/\i= .int .i64 k/\J (upto (λj=>zs[j]?.getD 0) k) wr/\Below n₀ W wr)
  (λi _=>len-(intOf i).toNat)
 case atStart=>exact⟨0,Nat.zero_le _,rfl,h0,Below.refl _ _⟩
 case round=>
  obtain⟨k,hk,rfl,hJs,hnx⟩:=hrel
  have hcx:k<len->wr.cell? ⟨b,off+k,none⟩=some (.int .i64 (zs[k]?.getD 0)):=λh=>(hnx.cell (p:=⟨b,off+k,none⟩) hb).trans (hc k h)
  by_cases hlt:k<len
  ·obtain⟨fn,tmps,assign,body,hy,hR⟩:=hY _ (zs[k]?.getD 0) wr hJs (by rw[UR];exact hlt)
   have ap_:=hcx hlt
   gi_wp2
   refine hR.mono ?_
   rintro e W3 (⟨rfl,hJ3,hk3⟩|⟨rfl,hJx3⟩)
   ·
    gi_wp2
    go_roundw
    case rel=>exact⟨k+1,by omega,by simp,by rw[OY];exact hJ3,hnx.trans hk3⟩
    case measure=>simp[intOf];omega
   ·gi_wp2
    refine bodyPost_ret (results_none rfl _ _ _) rfl ?_
    exact⟨⟨_,rfl⟩,.inr ⟨_,⟨k+1,by omega,(OY _ _).symm⟩,hJx3⟩⟩
  ·obtain rfl:k=len:=by omega
   gi_wp2
   go_end0
   exact⟨⟨_,rfl⟩,.inl ⟨_,rfl,hJs⟩⟩
theorem Mo(F:Fence)(n:Nat)(h7:F.fn 162)(hro:F.round=none)(l Bs:Nat)(J:List Int->World->Prop)(W:World)(base:Option Addr)(cap:Nat)(hBs:W.cell? ⟨Bs,0,none⟩=some (.slice base 0 cap))(h0:J [] W):
 CallsIn F n Tryz.prog 162 #[.func (.yield l) #[] #[],.pointer (some ⟨Bs,0,none⟩)] W λe W'=>(∃v,e= .returned v)/\J [] W':=by
 refine callsIn_of_wp Tryz.func162 rfl h7 ?_ hro
 simp only[Tryz.ntmps162,List.size_toArray,List.length_cons,List.length_nil,Nat.reduceAdd,Nat.reduceSub,Array.replicate_succ,Array.replicate_zero,List.push_toArray,List.append_toArray,List.nil_append,List.cons_append]
 gi_wp2
 gi_loopw [7] (λi wr=>i= .int .i64 0/\J [] wr) (λ_ _=>0)
 case atStart=>exact⟨rfl,h0⟩
 case round=>
  obtain⟨rfl,hJs⟩:=hrel
  gi_wp2
  go_end0
  exact⟨⟨_,rfl⟩,hJs⟩
theorem Z6{B:Nat}{w a b:World}(h1:Below B w a)(h2:Below B w b)(hs:a.heap.size<=b.heap.size):Below B a b:=
 ⟨h2.os.trans h1.os.symm,h2.tape.trans h1.tape.symm,h2.output.trans h1.output.symm,hs,λk hk=>(h2.block k hk).trans (h1.block k hk).symm⟩
def IntsIn(w:World)(base:Option Addr)(zs:List Int):Prop:=
 zs=[]\/∃b off,base=some ⟨b,off,none⟩/\b<w.heap.size/\∀j,j<zs.length->w.cell? ⟨b,off+j,none⟩=some (.int .i64 (zs[j]?.getD 0))
theorem IntsIn.below{w w':World}{base:Option Addr}{zs:List Int}(h:IntsIn w base zs)(hb:Below w.heap.size w w'):IntsIn w' base zs:=by
 rcases h with h|⟨b,off,h1,h2,h3⟩
 ·exact .inl h
 ·exact .inr ⟨b,off,h1,Nat.lt_of_lt_of_le h2 hb.size,λj hj=>(hb.cell (p:=⟨b,off+j,none⟩) h2).trans (h3 j hj)⟩
theorem SA(F:Fence)(n:Nat)(h7:F.fn 162)(hro:F.round=none)(hn:1<=n)(Bs:Nat)(base:Option Addr)(cap:Nat)(zs:List Int)(acM:zs.length*8<=140737488351232)(w:World)(hBs:Bs<w.heap.size)
 (hc:w.cell? ⟨Bs,0,none⟩=some (.slice base zs.length cap)) (hI:IntsIn w base zs):
 YA F n 162 #[.pointer (some ⟨Bs,0,none⟩)] (λys=>ys=zs) zs.length w:=λl J W hW hJB hY h0=>by
 have hc':=(hW.cell (p:=⟨Bs,0,none⟩) hBs).trans hc
 rcases hI with rfl|⟨b,off,rfl,hb,hcs⟩
 ·exact(Mo F n h7 hro l Bs J W base cap hc' h0).mono λe W' ⟨he,hj⟩=>⟨he,_,rfl,hj⟩
 ·refine(XY F n h7 hro hn l Bs w.heap.size b off zs.length cap zs acM hb J (λ_ _=>False) (λpre x W1 hj hl=> ?_) W hc' (λj hj=>(hW.cell (p:=⟨b,off+j,none⟩) hb).trans (hcs j hj)) h0).mono ?_
  ·obtain⟨fn,tmps,assign,body,hy,hR⟩:=hY pre x W1 hj hl
   exact⟨fn,tmps,assign,body,hy,hR.mono λe w' ⟨h1,h2,h3⟩=> .inl ⟨h1,h2,Z6 (hJB _ _ hj) (hJB _ _ h2) h3.size⟩⟩
  ·rintro e W' ⟨he,⟨ys,rfl,hj⟩|⟨_,_,hf⟩⟩
   ·exact⟨he,_,acW zs,hj⟩
   ·exact hf.elim
theorem Un{w w':World}{v:Value}{zs:List Int}(h:w'.ownsRow w.heap.size 3 1 v zs.length (zs.map (Value.int .i64))):kv w w' v 1 3 (aN zs):=by
 have hone:∀r∈aN zs,r.length=1/\∀v∈r,v.oneCell'=true:=λr hr=>by
  obtain⟨x,_,rfl⟩:=List.mem_map.1 hr
  exact⟨rfl,λv hv=>by rw[List.mem_singleton.1 hv];rfl⟩
 rcases h.2 with⟨rfl,h0⟩|⟨g,cap,cur,rfl,hb,hg,h1,h2,h3,h4⟩
 ·have hz:zs=[]:=List.eq_nil_of_length_eq_zero h0
  subst hz
  exact⟨⟨none,0⟩,rfl,λ_=>False,λ_ h=>h.elim,hone,Nat.zero_le _,.inl ⟨rfl,rfl,λ_ h=>h⟩⟩
 ·refine⟨⟨some ⟨g,0,none⟩,cap⟩,by rw[aJ],λx=>x=g,λb hbb=>by rw[hbb];exact hb,hone,by rw[aJ];exact h1,.inr ⟨g,0,cur,rfl,λ_=>Iff.rfl,hg,by show 0+cap*1<=cur.size;omega,λi r hr j v hv=> ?_⟩⟩
  obtain⟨x,hx,rfl⟩:∃x,zs[i]? =some x/\r=[.int .i64 x]:=by
   rw[aN,List.getElem?_map]at hr
   cases hx:zs[i]? with
   |none=>rw[hx]at hr;cases hr
   |some x=>rw[hx]at hr;exact⟨x,rfl,by simpa using hr.symm⟩
  have hj:j=0:=by
   rcases Nat.eq_zero_or_pos j with h|h
   ·exact h
   ·rw[List.getElem?_eq_none ab9]at hv;cases hv
  subst hj
  have hv':v= .int .i64 x:=by simpa using hv.symm
  subst hv'
  have hi:i<zs.length:=(List.getElem?_eq_some_iff.1 hx).1
  have:=congrArg (λl:List Value=>l[i]?) h4
  simp only[Nat.mul_one,List.getElem?_take_of_lt hi,List.getElem?_map,hx,Option.map_some]at this
  rw[Nat.zero_add,Nat.mul_one,Nat.add_zero,<-Array.getElem?_toList]
  exact this
theorem VJ(w:World)(Bs:Nat)(base:Option Addr)(cap:Nat)(zs:List Int)(hl:zs.length<=1000000)(hBs:Bs<w.heap.size)(hc:w.cell? ⟨Bs,0,none⟩=some (.slice base zs.length cap))(hI:IntsIn w base zs):
 Calls Tryz.prog 160 #[.func (.func 162) #[] #[.pointer (some ⟨Bs,0,none⟩)]] w λe w'=>∃v,e= .returned v/\kv w w' v 1 3 (aN zs)/\Ext w w':=by
 refine(callsIn_wide (n:=3)).1 ?_
 have hfA:Fence.wide.fn 165:=trivial
 have hseq:=SA Fence.wide 1 trivial rfl (Nat.le_refl _) Bs base cap zs aa w hBs hc hI
 refine callsIn_of_wp Tryz.func160 rfl trivial ?_ rfl
 simp only[Tryz.ntmps160,List.size_toArray,List.length_cons,List.length_nil,Nat.reduceAdd,Nat.reduceSub,Array.replicate_succ,Array.replicate_zero,List.push_toArray,List.append_toArray,List.nil_append,List.cons_append]
 gi_wp2_with (gi_at_call 165;refine(appendSeq_in Fence.wide 2 trivial rfl (Nat.le_refl _) 162 _ trivial Tryz.call162 _ zs.length (by show zs.length<=9223372036854775807;omega) aa _ hseq).mono ?_;rintro e w' ⟨v,ss,rfl,hS,hrow,hnil,hb⟩)
 go_ret
 subst hS
 exact⟨v,rfl,Un hrow,hb⟩
theorem WR(w:World)(base:Option Addr)(len cap:Nat):Calls Tryz.prog 152 #[.slice base len cap] w λe w'=>e= .returned (.func (.func 162) #[] #[.pointer (some ⟨w.heap.size,0,none⟩)])/\w'=w.alloc (.cells #[.slice base len cap] 32):=by
 refine(callsIn_wide (n:=1)).1 ?_
 refine callsIn_of_wp Tryz.func152 rfl trivial ?_ rfl
 simp only[Tryz.ntmps152,List.size_toArray,List.length_cons,List.length_nil,Nat.reduceAdd,Nat.reduceSub,Array.replicate_succ,Array.replicate_zero,List.push_toArray,List.append_toArray,List.nil_append,List.cons_append]
 gi_wp2
 go_ret
 exact⟨rfl,rfl⟩
section
variable {w:World} {v:Value}
theorem Y0{p:Addr}(h:w.cell? p=some v):p.block<w.heap.size:=by
 unfold World.cell? at h
 cases hb:w.heap[p.block]? with
 |none=>simp[hb]at h
 |some o=>exact(Array.getElem?_eq_some_iff.1 hb).1
theorem XM{a:Addr}(h:w.cell? a=some v):a=⟨a.block,a.off,none⟩:=by
 obtain⟨b,o,f⟩:=a
 cases f with
 |none=>rfl
 |some x=>simp[World.cell?]at h;split at h<;>simp at h
theorem au.ok.within{u:au}(h:u.ok w):IntsIn w u.base u.xs:=by
 rcases h.rows with h0|⟨a,ha,hc⟩
 ·exact .inl (List.eq_nil_of_length_eq_zero (by have:=congrArg List.length h0;rwa[aJ]at this))
 ·rcases Nat.eq_zero_or_pos u.xs.length with h1|h1
  ·exact .inl (List.eq_nil_of_length_eq_zero h1)
  ·have hcell:∀j,j<u.xs.length->w.cell? (a.add j)=some (.int .i64 (u.xs[j]?.getD 0)):=λj hj=>by
    have:=hc j [.int .i64 u.xs[j]] (eH hj) 0 _ rfl
    rw[Nat.mul_one,Nat.add_zero]at this
    rw[this,List.getElem?_eq_getElem hj];rfl
   have h2:=hcell 0 h1
   have e0:a.add 0=a:=by simp[Addr.add]
   rw[e0]at h2
   have ea:=XM h2
   have e1:∀j,a.add j=⟨a.block,a.off+j,none⟩:=λj=>by
    rw[ea];simp[Addr.add]
   exact .inr ⟨a.block,a.off,ha.trans (congrArg some ea),Y0 h2,λj hj=>by rw[<-e1];exact hcell j hj⟩
theorem Tg{cx:Cx}{H:Heap}{S:bN}{nx:Nat}{K:SV->Heap->bN->Nat->Prop}(base:Option Addr)(len cap:Nat)(hP:cx.P=Tryz.prog)
 (h:∀Bs:Nat,K (.c (.func (.func 162) #[] #[.pointer (some ⟨Bs,0,none⟩)])) H (S.and ((fC (some ⟨Bs,0,none⟩) 1 [[.slice base len cap]]).past cx.B.w0.heap.size)) nx):aI cx 152 [.c (.slice base len cap)] H S nx K:=by
 obtain⟨P,B,n,tb⟩:=cx
 simp only at hP
 subst hP
 refine gX Tryz.call152 (λBs:Nat=> .func (.func 162) #[] #[.pointer (some ⟨Bs,0,none⟩)]) (λBs=>fC (some ⟨Bs,0,none⟩) 1 [[.slice base len cap]]) (λ_=>True) (λρ w' hw=>(WR w' base len cap).mono ?_) (λBs _=>h Bs)
 rintro e w2 ⟨rfl,rfl⟩
 refine⟨w'.heap.size,trivial,rfl,(Below.refl _ w').alloc (Nat.le_refl _) _,λr hr=> ?_,.inr ⟨w'.heap.size,0,rfl,⟨Nat.le_refl _,by rw[World.size_alloc];omega⟩,λi r hr j v hv=> ?_⟩⟩
 ·rw[List.mem_singleton.1 hr]
  exact⟨rfl,λv hv=>by rw[List.mem_singleton.1 hv];rfl⟩
 ·match i,j with
  |0,0=>
   simp at hr
   subst hr
   simp at hv
   subst hv
   exact cell_one_new _ _ _ 0 _ rfl
  |i+1,_=>simp at hr
  |0,j+1=>
   simp at hr
   subst hr
   simp at hv
end
theorem ad7{a:Addr}{S:bN}{K:SV->Prop}{v:Value}(hx:∀R w,S.holds R w->w.cell? a=some v)(h:K (.c v)):fT a S K:=by rw[Ev];exact⟨v,hx,h⟩
structure a_.okB(w:World)(v:a_):Prop where
 rows:bu w v.base 1 (aS v.l)
 each:∀s∈v.l,s.ok w
 few:v.l.length<=1000000
theorem a_.okB.later{w w':World}{R:Nat->Prop}{v:a_}(h:v.okB w)(hb:(aO w).holds R w'):v.okB w':=⟨aA hb h.rows,λs hs=>(h.each s hs).later hb,h.few⟩
theorem Je(w:World)(u:au)(hu:u.ok w)(p:Addr)(fb:Option Addr)(fl fc:Nat)(hc:w.cell? p=some (.slice fb fl fc)):Calls Tryz.prog 128 #[u.val,.pointer (some p)] w λe w'=>e= .returned (.bool (decide (u.xs.length≠fl)))/\Ext w w':=by
 refine fH Tryz.func128 [.c u.val,.c (.pointer (some p))] ?_
 repeat' ((conv=>whnf)<;>first|(show fT ..;(refine ad7 (λR w' h=>by rw[jv (h _ (iN hc)).2];exact hc) ?_))|(show @eZ _ _ _;((refine ag ?_ ?_<;>intro _)))|refine aX ?_)
 all_goals(conv=>whnf)
 all_goals first|exact bf (λ_ _ h=>h) rfl (decide_eq_true aa)|exact bf (λ_ _ h=>h) rfl (decide_eq_false aa)
def anw(l:List au)(fl:Nat)(i:Nat):Prop:=∀k,k<i->∀h:k<l.length,l[k].xs.length=fl
theorem Qk(w:World)(rv:a_)(hr:rv.okB w)(p:Addr)(fb:Option Addr)(fl fc:Nat)(hc:w.cell? p=some (.slice fb fl fc)):Calls Tryz.prog 154 #[rv.val,.func (.func 128) #[] #[.pointer (some p)]] w λe w'=>(∃k:Int,e= .returned (.int .i64 k)/\(0<=k↔rv.l.any (λu=>decide (u.xs.length≠fl))=true))/\Ext w w':=by
 have hf:=hr.few
 refine fH Tryz.func154 [.c rv.val,.c (.func (.func 128) #[] #[.pointer (some p)])] ?_
 repeat' ((conv=>whnf)<;>first|refine aX ?_|refine ag ?_ ?_<;>intro _)
 refine Wp.loop (σ:=Nat) 0 (λi=>[(0,.c rv.val),(1,.c (.func (.func 128) #[] #[.pointer (some p)])),(7,ax rv.l.length),(8,ax i)]) (λ_=>[]) (λ_=>aO w)
  (λi=>anw rv.l fl i) (λi=>rv.l.length-i) 0 [] aY (λs=>⟨rfl,rfl⟩) (λk hk=>absurd hk (Nat.not_lt_zero k)) ⟨rfl,⟨rfl,rfl,rfl,rfl,trivial⟩,trivial,λ_ _ h=>h⟩ ?_
 intro i hi
 by_cases hlt:i<rv.l.length
 ·obtain⟨ra,hra⟩:∃a,rv.base=some a:=aP (j:=i) hr.rows Mw
  have hou:=hr.each rv.l[i] (List.getElem_mem hlt)
  by_cases hne:rv.l[i].xs.length=fl
  ·repeat' ((conv=>whnf)<;>first|refine SQ ?_|refine acg ?_|(show aI _ 128 ..;(refine aQ (f:=128) Tryz.call128 (.bool false) (λρ w' hw=>by have:=Je w' rv.l[i] (ae hw λR h=>hou.later h) p fb fl fc (ae hw λR h=>by rw[jv (h _ (iN hc)).2];exact hc);rw[decide_eq_false aa]at this;exact this) ?_))|refine aX ?_|refine ag ?_ ?_<;>intro _)
   all_goals(conv=>whnf)
   all_goals refine⟨i+1,[],λk hk h=> ?_,by omega,rfl,bM,trivial,λ_ _ h=>h⟩
   rcases Nat.lt_or_ge k i with h1|h1
   ·exact hi k h1 h
   ·obtain rfl:k=i:=by omega
    exact hne
  ·repeat' ((conv=>whnf)<;>first|refine SQ ?_|refine acg ?_|(show aI _ 128 ..;(refine aQ (f:=128) Tryz.call128 (.bool true) (λρ w' hw=>by have:=Je w' rv.l[i] (ae hw λR h=>hou.later h) p fb fl fc (ae hw λR h=>by rw[jv (h _ (iN hc)).2];exact hc);rw[decide_eq_true aa]at this;exact this) ?_))|refine aX ?_|refine ag ?_ ?_<;>intro _)
   all_goals(conv=>whnf)
   refine dH λρ w' hw=>⟨⟨i,rfl,λ_=>List.any_eq_true.2 ⟨rv.l[i],List.getElem_mem hlt,by simpa using hne⟩,λ_=>by omega⟩,aZ hw (λ_ _ h=>h)⟩
 ·repeat' ((conv=>whnf)<;>first|refine aX ?_|refine ag ?_ ?_<;>intro _)
  all_goals(conv=>whnf)
  refine dH λρ w' hw=>⟨⟨-1,rfl,λh=>absurd h aY,λh=> ?_⟩,aZ hw (λ_ _ h=>h)⟩
  obtain⟨u,hu,hx⟩:=List.any_eq_true.1 h
  obtain⟨k,hk,rfl⟩:=List.mem_iff_getElem.1 hu
  exact absurd (hi k aa hk) (by simpa using hx)
theorem Hy(w:World)(rv:a_)(hr:rv.okB w)(p:Addr)(fb:Option Addr)(fl fc:Nat)(hc:w.cell? p=some (.slice fb fl fc)):Calls Tryz.prog 127 #[rv.val,.func (.func 128) #[] #[.pointer (some p)]] w λe w'=>e= .returned (.bool (rv.l.any λu=>decide (u.xs.length≠fl)))/\Ext w w':=by
 refine fH Tryz.func127 [.c rv.val,.c (.func (.func 128) #[] #[.pointer (some p)])] ?_
 repeat' ((conv=>whnf)<;>first|(show aI _ 154 ..;refine N_ (f:=154) Tryz.call154 (λk:Int=> .int .i64 k) (λk=>0<=k↔rv.l.any (λu=>decide (u.xs.length≠fl))=true) (λρ w' hw=> ?_) (λk hk=> ?_))|refine aX ?_|refine ag ?_ ?_<;>intro _)
 ·refine(Qk w' rv (ae hw λR h=>hr.later h) p fb fl fc (ae hw λR h=>by rw[jv (h _ (iN hc)).2];exact hc)).mono ?_
  rintro e w2 ⟨⟨k,h1,h2⟩,h3⟩
  exact⟨k,h2,h1,h3⟩
 all_goals(conv=>whnf)
 all_goals rename_i h0
 ·exact bf (λ_ _ h=>h) rfl (hk.1 h0)
 ·exact bf (λ_ _ h=>h) rfl (Bool.eq_false_iff.2 λh=>h0 (hk.2 h))
def afx:Go.Shelf.Ren:=⟨λ|189=>161|125=>167|257=>166|128=>177|129=>164|294=>168|295=>169|296=>170|297=>171|298=>172|299=>173|216=>174|300=>175|301=>176|328=>178|329=>179|330=>180|331=>181|332=>182|215=>183|343=>184|n=>n,λ|28=>32|3=>3|46=>148|0=>0|51=>203|53=>59|4=>4|183=>197|182=>196|131=>162|5=>5|9=>9|218=>204|222=>208|228=>210|229=>211|n=>n,λ|n=>n⟩
theorem TF:Go.Proofs.Lays.n189 Tryz.prog afx:={
 mixed:=by kernel_rfl
 f125:=Tryz.func167.trans (congrArg some ji)
 f128:=Tryz.func177.trans (congrArg some ji)
 f129:=Tryz.func164.trans (congrArg some ji)
 f189:=Tryz.func161.trans (congrArg some ji)
 f215:=Tryz.func183.trans (congrArg some ji)
 f216:=Tryz.func174.trans (congrArg some ji)
 f257:=Tryz.func166.trans (congrArg some ji)
 f294:=Tryz.func168.trans (congrArg some ji)
 f295:=Tryz.func169.trans (congrArg some ji)
 f296:=Tryz.func170.trans (congrArg some ji)
 f297:=Tryz.func171.trans (congrArg some ji)
 f298:=Tryz.func172.trans (congrArg some ji)
 f299:=Tryz.func173.trans (congrArg some ji)
 f300:=Tryz.func175.trans (congrArg some ji)
 f301:=Tryz.func176.trans (congrArg some ji)
 f328:=Tryz.func178.trans (congrArg some ji)
 f329:=Tryz.func179.trans (congrArg some ji)
 f330:=Tryz.func180.trans (congrArg some ji)
 f331:=Tryz.func181.trans (congrArg some ji)
 f332:=Tryz.func182.trans (congrArg some ji)
 f343:=Tryz.func184.trans (congrArg some ji)
 t0:=Tryz.underlying0
 a0:=Tryz.isAgg0
 z0:=Tryz.sizeOf0
 v0:=Tryz.zeroValue0
 t3:=Tryz.underlying3
 a3:=Tryz.isAgg3
 z3:=Tryz.sizeOf3
 v3:=Tryz.zeroValue3
 t4:=Tryz.underlying4
 a4:=Tryz.isAgg4
 z4:=Tryz.sizeOf4
 v4:=Tryz.zeroValue4
 t5:=Tryz.underlying5
 a5:=Tryz.isAgg5
 z5:=Tryz.sizeOf5
 v5:=Tryz.zeroValue5
 t9:=Tryz.underlying9
 a9:=Tryz.isAgg9
 z9:=Tryz.sizeOf9
 v9:=Tryz.zeroValue9
 t28:=Tryz.underlying32
 a28:=Tryz.isAgg32
 z28:=Tryz.sizeOf32
 v28:=Tryz.zeroValue32
 t46:=Tryz.underlying148
 a46:=Tryz.isAgg148
 z46:=Tryz.sizeOf148
 v46:=Tryz.zeroValue148
 t51:=Tryz.underlying203
 a51:=Tryz.isAgg203
 z51:=Tryz.sizeOf203
 v51:=Tryz.zeroValue203
 t53:=Tryz.underlying59
 a53:=Tryz.isAgg59
 z53:=Tryz.sizeOf59
 v53:=Tryz.zeroValue59
 t131:=Tryz.underlying162
 a131:=Tryz.isAgg162
 z131:=Tryz.sizeOf162
 v131:=Tryz.zeroValue162
 t182:=Tryz.underlying196
 a182:=Tryz.isAgg196
 z182:=Tryz.sizeOf196
 v182:=Tryz.zeroValue196
 t183:=Tryz.underlying197
 a183:=Tryz.isAgg197
 z183:=Tryz.sizeOf197
 v183:=Tryz.zeroValue197
 t218:=Tryz.underlying204
 a218:=Tryz.isAgg204
 z218:=Tryz.sizeOf204
 v218:=Tryz.zeroValue204
 t222:=Tryz.underlying208
 a222:=Tryz.isAgg208
 z222:=Tryz.sizeOf208
 v222:=Tryz.zeroValue208
 t228:=Tryz.underlying210
 a228:=Tryz.isAgg210
 z228:=Tryz.sizeOf210
 v228:=Tryz.zeroValue210
 t229:=Tryz.underlying211
 a229:=Tryz.isAgg211
 z229:=Tryz.sizeOf211
 v229:=Tryz.zeroValue211}
def ado:Go.Shelf.Ren:=⟨λ|20=>153|n=>n,λ|22=>32|3=>3|4=>4|0=>0|n=>n,λ|n=>n⟩
theorem Si:Go.Proofs.Lays2.n20 Tryz.prog ado:={
 mixed:=by kernel_rfl
 f20:=Tryz.func153.trans (congrArg some ji)
 t0:=Tryz.underlying0
 a0:=Tryz.isAgg0
 z0:=Tryz.sizeOf0
 v0:=Tryz.zeroValue0
 t3:=Tryz.underlying3
 a3:=Tryz.isAgg3
 z3:=Tryz.sizeOf3
 v3:=Tryz.zeroValue3
 t4:=Tryz.underlying4
 a4:=Tryz.isAgg4
 z4:=Tryz.sizeOf4
 v4:=Tryz.zeroValue4
 t22:=Tryz.underlying32
 a22:=Tryz.isAgg32
 z22:=Tryz.sizeOf32
 v22:=Tryz.zeroValue32
 i3:=by kernel_rfl}
open Go.Sort
section
variable {w:World} {g off:Nat} {os:Array Obj} {cur:Array Value}
theorem heap_put{n:Nat}{e:TypeId}{fr:Nat×Nat}(d:Array Int)(hb:w.heap[g]? =some (.cells cur e fr)):
 (grow (putRow (Value.int .i64) (Sort.ahead w n) g off d) os).heap[g]? =some (.cells (putCells (Value.int .i64) off d cur) e fr):=by
 have hg:g<w.heap.size:=(Array.getElem?_eq_some_iff.1 hb).1
 rw[heap_grow_old _ _ (by simpa using hg)]
 simp[putRow,mapBlock,Sort.ahead,Array.getElem?_modify,hb,onCells]
theorem adl{n:Nat}(d:Array Int){F:Nat->Prop}(hF:∀x,F x↔x=g):Step F w (grow (putRow (Value.int .i64) (Sort.ahead w n) g off d) os):=by
 refine⟨rfl,rfl,rfl,by simp,λk hk hne=> ?_⟩
 rw[heap_grow_old _ _ (by simpa using hk)]
 have:g≠k:=λe=>hne ((hF k).2 e.symm)
 simp[putRow,mapBlock,Sort.ahead,Array.getElem?_modify,this]
variable {i:Nat}
theorem get_put{zs:List Int}(hi:i<zs.length)(hc:off+zs.length<=cur.size):(putCells (Value.int .i64) off zs.toArray cur)[off+i]? =some (.int .i64 zs[i]):=by
 have h1:off+i<cur.size:=by omega
 simp[putCells,h1,hi]
variable {T:TypeId} {xs:List Int}
theorem aaV{b:Nat}{c:Array Value}(hh:w.heap[b]? =some (.cells c T (0,0)))(hc:∀i r,(aN xs)[i]? =some r->∀j v,r[j]? =some v->c[off+i*1+j]? =some v):Holds (Value.int .i64) w b off xs.toArray:=by
 intro j hj
 have hj':j<xs.length:=by simpa using hj
 have:=hc j _ (eH hj') 0 _ rfl
 rw[Nat.mul_one,Nat.add_zero]at this
 constructor
 ·simp only[World.cell?,hh]
  simp[this,hj']
 ·simp[World.frozen?,hh]
theorem UU{cx:Cx}{f:FuncId}{H:Heap}{S:bN}{nx m:Nat}{ys:List Int}{K:SV->Heap->bN->Nat->Prop}(hf:∀ar w,(callFunc f ar).run cx.P w= .ok (.enter f ar) w)(hi:(i,bZ.rows (aN xs) 1 T)∈H)(hm:m=xs.length)(hy:ys.length=xs.length)(res:SX.Loc->Value)(u:SV)(hu:u.lt nx)(hres:∀ρ,u.rf ρ=res (ρ i))
 (h0:∀cap w,xs=[]->Calls cx.P f #[.slice none 0 cap] w λe w'=>e= .returned (res ⟨none,cap⟩)/\w'=w)
 (hc:∀b off cap w,Holds (Value.int .i64) w b off xs.toArray->b<w.heap.size->xs.length<=cap->Calls cx.P f #[.slice (some ⟨b,off,none⟩) xs.length cap] w λe w'=>e= .returned (res ⟨some ⟨b,off,none⟩,cap⟩)/\∃n os,w'=grow (putRow (Value.int .i64) (Sort.ahead w n) b off ys.toArray) os)
 (h:K u (setH i (.rows (aN ys) 1 T) H) S nx):aI cx f [.os i m] H S nx K:=by
 rw[gN]
 refine⟨hf,λρ w hw=> ?_⟩
 subst hm
 have hA:=hw
 obtain⟨R,φ,hw⟩:=hw
 have hent:=hw.kV _ hi
 obtain⟨hr,hcap,hent⟩:=hent
 rw[aJ]at hcap
 simp only at hcap
 have hargs:(SV.eO ρ [.os i xs.length]).toArray= #[.slice (ρ i).base xs.length (ρ i).cap]:=rfl
 rw[hargs]
 rcases hent with⟨hb,hc0,hF⟩|⟨b,off,c,hb,hF,hh,hsz,hcell⟩
 ·simp only at hb hc0
  have hx:xs=[]:=List.eq_nil_of_length_eq_zero aa
  have hy0:ys=[]:=List.eq_nil_of_length_eq_zero (by rw[hy,hx];rfl)
  subst hx hy0
  rw[hb]
  refine(h0 (ρ i).cap w rfl).mono ?_
  rintro e w' ⟨rfl,rfl⟩
  refine⟨u,ρ,_,S,nx,?_,λ_ _=>rfl,Nat.le_refl _,hu,eD.store hA hi (λy hy=>by simp[bZ.hass]at hy) λF hF'=>⟨⟨rfl,rfl,rfl,Nat.le_refl _,λ_ _ _=>rfl⟩,hF'⟩,h⟩
  rw[hres,<-hb]
 ·simp only at hb hF hsz
  rw[hb]
  have hH:=aaV hh hcell
  have hbl:=(Array.getElem?_eq_some_iff.1 hh).1
  refine(hc b off (ρ i).cap w hH hbl hcap).mono ?_
  rintro e w' ⟨rfl,n,os,rfl⟩
  refine⟨u,ρ,_,S,nx,by rw[hres,<-hb],λ_ _=>rfl,Nat.le_refl _,hu,eD.store hA hi (λy hy=>by simp[bZ.hass]at hy) λF hF'=> ?_,h⟩
  obtain⟨_,_,hF2⟩:=hF'
  rcases hF2 with⟨g1,_,_⟩|⟨b',off',c',g1,g2,g3,g4,g5⟩
  ·rw[hb]at g1;cases g1
  ·rw[hb]at g1
   simp only[Option.some.injEq,Addr.mk.injEq,and_true]at g1
   obtain⟨rfl,rfl⟩:=g1
   rw[hh]at g3
   obtain rfl:c=c':=by simpa using g3
   refine⟨adl _ g2,kL,by rw[aJ,hy];exact hcap,.inr ⟨b,off,_,hb,g2,heap_put _ hh,by simpa[putCells]using hsz,λk r hk j v hj=> ?_⟩⟩
   have hkl:k<ys.length:=by
    have:=(List.getElem?_eq_some_iff.1 hk).1
    rwa[aJ]at this
   rw[eH hkl]at hk
   obtain rfl:[Value.int .i64 ys[k]]=r:=by simpa using hk
   have hj0:j=0:=by
    rcases Nat.eq_zero_or_pos j with h|h
    ·exact h
    ·rw[List.getElem?_eq_none ab9]at hj;cases hj
   subst hj0
   obtain rfl:Value.int .i64 ys[k]=v:=by simpa using hj
   rw[Nat.mul_one,Nat.add_zero]
   exact get_put hkl (by have:off+(ρ i).cap*1<=c.size:=hsz;omega)
end
def jP(l:List Int)(aj:Int):Bool:=decide ((∀x∈l,0<=x/\x<aj)/\l.Nodup)
def FV(zs:List Int):List Int:=zs.mergeSort λx y=>decide (x<=y)
theorem zJ(zs:List Int):(FV zs).Perm zs:=List.mergeSort_perm _ _
theorem u7(zs:List Int):(FV zs).length=zs.length:=(zJ zs).length_eq
theorem yA(zs:List Int):∀i j (h1:i<(FV zs).length) (h2:j<(FV zs).length),i<j->(FV zs)[i]<=(FV zs)[j]:=by
 have h:=List.pairwise_mergeSort (le:=λx y:Int=>decide (x<=y)) (λa b c h1 h2=>by simp at*;omega) (λa b=>by simp;omega) zs
 rw[List.pairwise_iff_getElem]at h
 intro i j h1 h2 hij
 exact of_decide_eq_true (h i j h1 h2 hij)
theorem Ja(s:List Int):(Lib.compact s).length=s.length↔∀j (h:j<s.length),j=0\/s[j]≠s[j-1]' aa:=by
 have e:(Lib.compact s).length=((List.range s.length).filter (Lib.keeps s.toArray)).length:=by simp[Lib.compact,Lib.compactUpTo]
 rw[e]
 have e2:=List.length_filter_eq_length_iff (l:=List.range s.length) (p:=Lib.keeps s.toArray)
 rw[List.length_range]at e2
 rw[e2]
 simp only[List.mem_range,Lib.keeps,decide_eq_true_eq]
 constructor
 ·intro h j hj
  rcases h j hj with h|h
  ·exact .inl h
  ·refine .inr ?_
   have h1:j-1<s.length:=by omega
   simpa[hj,h1]using h
 ·intro h j hj
  rcases h j hj with h|h
  ·exact .inl h
  ·refine .inr ?_
   have h1:j-1<s.length:=by omega
   simpa[hj,h1]using h
theorem aan(zs:List Int):(∀j (h:j<(FV zs).length),j=0\/(FV zs)[j]≠(FV zs)[j-1]' aa)↔zs.Nodup:=by
 rw[<-(zJ zs).nodup_iff]
 constructor
 ·intro h
  rw[List.Nodup,List.pairwise_iff_getElem]
  intro i j hi hj hij e
  have h1:=(h j hj).resolve_left aa
  have h2:=yA zs (j-1) j aa hj aa
  rcases Nat.lt_or_ge i (j-1)with g|g
  ·have:=yA zs i (j-1) hi aa g
   omega
  ·have:i=j-1:=by omega
   subst this
   exact h1 e.symm
 ·intro h j hj
  rw[List.Nodup,List.pairwise_iff_getElem]at h
  rcases Nat.eq_zero_or_pos j with g|g
  ·exact .inl g
  ·exact .inr λe=>h (j-1) j aa hj aa e.symm
theorem Rt(aj:Int):jP [] aj=true:=by simp[jP]
theorem PP{zs:List Int}(aj:Int)(hz:0<zs.length):jP zs aj=true↔0<=(FV zs).getD 0 0/\(FV zs).getD (zs.length-1) 0<aj/\(Lib.compact (FV zs)).length=zs.length:=by
 have hl:=u7 zs
 rw[show(Lib.compact (FV zs)).length=zs.length↔zs.Nodup from by rw[<-u7 zs,Ja,aan]]
 rw[jP,decide_eq_true_eq,<-and_assoc]
 refine and_congr_left λ_=> ?_
 have e0:(FV zs).getD 0 0=(FV zs)[0]:=by simp[List.getD,show 0<(FV zs).length by omega]
 have e1:(FV zs).getD (zs.length-1) 0=(FV zs)[zs.length-1]:=by simp[List.getD,show zs.length-1<(FV zs).length by omega]
 rw[e0,e1]
 constructor
 ·intro h
  exact⟨(h _ ((zJ zs).mem_iff.1 (List.getElem_mem _))).1,(h _ ((zJ zs).mem_iff.1 (List.getElem_mem _))).2⟩
 ·rintro⟨h1,h2⟩ x hx
  obtain⟨k,hk,rfl⟩:=List.mem_iff_getElem.1 ((zJ zs).mem_iff.2 hx)
  constructor
  ·rcases Nat.eq_zero_or_pos k with g|g
   ·subst g;exact h1
   ·have:=yA zs 0 k aa hk g;omega
  ·rcases Nat.lt_or_ge k (zs.length-1)with g|g
   ·have:=yA zs k (zs.length-1) hk aa g;omega
   ·have:k=zs.length-1:=by omega
    subst this;exact h2
section
variable {cx:Cx} {H:Heap} {S:bN} {nx i m:Nat} {T:TypeId} {xs:List Int} {K:SV->Heap->bN->Nat->Prop}
theorem aaQ(hP:cx.P=Tryz.prog)(hi:(i,bZ.rows (aN xs) 1 T)∈H)(hm:m=xs.length)(hl:xs.length<=1000000)
 (h:K (.c (.tuple #[])) (setH i (.rows (aN (FV xs)) 1 T) H) S nx):aI cx 161 [.os i m] H S nx K:=by
 obtain⟨P,B,n,tb⟩:=cx
 simp only at hP
 subst hP
 refine UU Tryz.call161 hi hm (u7 xs) (λ_=> .tuple #[]) (.c (.tuple #[])) (SV.jk _) (λ_=>rfl) (λcap w hx=> ?_) (λb off cap w hH hb hc=> ?_) h
 ·exact Any.slices_Sort_int_none TF none cap w
 ·exact Any.slices_Sort_int TF b off cap xs w hH hb aa
theorem QY(hP:cx.P=Tryz.prog)(hi:(i,bZ.rows (aN xs) 1 T)∈H)(hin:i<nx)(hm:m=xs.length)(hl:xs.length<=1000000)
 (h:∀ys,K (.os i (Lib.compact xs).length) (setH i (.rows (aN ys) 1 T) H) S nx):aI cx 153 [.os i m] H S nx K:=by
 obtain⟨P,B,n,tb⟩:=cx
 simp only at hP
 subst hP
 have hle:(Lib.compact xs).length<=xs.length:=by
  simp only[Lib.compact,Lib.compactUpTo,List.length_map]
  refine Nat.le_trans (List.length_filter_le _ _) fP
 refine UU Tryz.call153 hi hm (ys:=Lib.compact xs++List.replicate (xs.length-(Lib.compact xs).length) 0) (by rw[List.length_append,List.length_replicate];omega) (λl=> .slice l.base (Lib.compact xs).length l.cap) (.os i (Lib.compact xs).length) (SV.y8 hin) (λ_=>rfl) (λcap w hx=> ?_) (λb off cap w hH hb hc=> ?_) (h _)
 ·subst hx
  exact Any.slices_Compact_int_empty Si none cap w
 ·refine(Any.slices_Compact_int Si b off cap xs w hH aa hc).mono ?_
  rintro e w' ⟨h1,q,rfl⟩
  exact⟨h1,q,#[],by rw[grow_empty]⟩
def aol(w:World)(l:List Int)(e:Ending)(w':World):Prop:=∃v,e= .returned v/\Ext w w'/\kv w w' v 1 3 (aN l)
theorem Xj(w:World)(Bs:Nat)(base:Option Addr)(cap:Nat)(zs:List Int)(hl:zs.length<=1000000)(hBs:Bs<w.heap.size)(hc:w.cell? ⟨Bs,0,none⟩=some (.slice base zs.length cap))(hI:IntsIn w base zs):
 Calls Tryz.prog 151 #[.func (.func 162) #[] #[.pointer (some ⟨Bs,0,none⟩)]] w (aol w (FV zs)):=by
 refine fH Tryz.func151 [.c (.func (.func 162) #[] #[.pointer (some ⟨Bs,0,none⟩)])] ?_
 repeat' ((conv=>whnf)<;>first|refine aX ?_)
 refine w_ (f:=160) Tryz.call160 1 3 (λ_:Unit=>aN zs) (λ_=>True) (λρ w' hw=> ?_) (λ_ _=> ?_)
 ·have he:=aZ hw (λ_ _ h=>h)
  refine(VJ w' Bs base cap zs aa (Nat.lt_of_lt_of_le hBs he.size) ((he.cell (p:=⟨Bs,0,none⟩) hBs).trans hc) (hI.below he)).mono ?_
  rintro e w2 ⟨v,h1,h2,h3⟩
  exact⟨(),trivial,v,h1,h3,h2⟩
 repeat' ((conv=>whnf)<;>first|(show aI _ 161 ..;refine aaQ rfl (xs:=zs) List.mem_cons_self (aJ zs) hl ?_)|refine aX ?_)
 all_goals(conv=>whnf)
 refine dH λρ w' hw=>⟨_,rfl,aZ hw (λ_ _ h=>h),?_⟩
 have:=dK hw (λ_ _ h=>h) (i:=0) (xs:=aN (FV zs)) (k:=1) (T:=3) aU
 rw[aJ,u7]at this
 rw[aJ]
 exact this
theorem qZ{j:Nat}{K:Value->Prop}(hj:j<xs.length)(h:K (.int .i64 (xs.getD j 0))):mq (aN xs) j 0 K:=by
 refine row_of _ _ (eH hj) rfl ?_
 have e:xs.getD j 0=xs[j]:=by simp[List.getD,hj]
 rw[<-e];exact h
theorem Kj(w:World)(u:au)(hu:u.ok w)(aj:Int):Calls Tryz.prog 126 #[u.val,.int .i64 aj] w λe w'=>e= .returned (.bool (jP u.xs aj))/\Ext w w':=by
 have hf:=hu.few
 have hI:=hu.within
 refine fH Tryz.func126 [.c u.val,ax aj] ?_
 repeat' ((conv=>whnf)<;>first|refine aX ?_)
 refine Tg u.base u.xs.length u.cap rfl (λBs=> ?_)
 repeat' ((conv=>whnf)<;>first|refine aX ?_)
 refine w_ (f:=151) Tryz.call151 1 3 (λ_:Unit=>aN (FV u.xs)) (λ_=>True) (λρ w' hw=> ?_) (λ_ _=> ?_)
 ·have he:=aZ hw (λ_ _ h=>h.1)
  have hc:w'.cell? ⟨Bs,0,none⟩=some (.slice u.base u.xs.length u.cap):=ae hw λR h=>by
   rcases h.2.2 with h|⟨b,off,e,_,hcc⟩
   ·simp at h
   ·have:=hcc 0 _ rfl 0 _ rfl
    simp only[Option.some.injEq,Addr.mk.injEq,and_true]at e
    rw[e.1,e.2]
    simpa using this
  refine(Xj w' Bs u.base u.cap u.xs hf (Y0 hc) hc (hI.below he)).mono ?_
  rintro e w2 ⟨v,h1,h2,h3⟩
  exact⟨(),trivial,v,h1,h2,h3⟩
 have hsl:=u7 u.xs
 have hil:=aJ (FV u.xs)
 by_cases h0:u.xs.length=0
 ·have hx:u.xs=[]:=List.eq_nil_of_length_eq_zero h0
  repeat' ((conv=>whnf)<;>first|(show @eZ _ _ _;(first|refine cu vK ?_))|refine aX ?_)
  all_goals(conv=>whnf)
  all_goals exact bf (λ_ _ h=>h.1) rfl (by rw[hx];exact Rt aj)
 ·have hp:=PP aj (zs:=u.xs) aa
  repeat' ((conv=>whnf)<;>first|(show @eZ _ _ _;(first|refine dA vK ?_|(refine ag ?_ ?_<;>intro _)))|(show di ..;(first|refine bg 0 rfl vK (Nat.le_refl _) ?_|refine bg (u.xs.length-1) aa aa (Nat.le_refl _) ?_))|(show mq ..;(first|refine qZ (xs:=FV u.xs) (j:=0) aa ?_|refine qZ (xs:=FV u.xs) (j:=u.xs.length-1) aa ?_))|(show aI _ 153 ..;refine QY rfl (xs:=FV u.xs) List.mem_cons_self aa (aJ _) aa (λys=> ?_))|refine aX ?_)
  all_goals(conv=>whnf)
  ·exact bf (λ_ _ h=>h.1) rfl (hp.2 ⟨by omega,by omega,by omega⟩)
  all_goals exact bf (λ_ _ h=>h.1) rfl (Bool.eq_false_iff.2 λh=>by have:=hp.1 h;omega)
end
section
abbrev amU:DT:=(eY [0,1,2,3,4,5,6,7,8,9,10,11,12,13,14,15,16,117,118] .done)
structure sJ(c:dN)(s:dw):Prop where
 aF:∀p∈s.aF,p.bq
 inputs:∀x∈s.inputs,x.aj∈c.bO.l/\i64 x.lo/\i64 x.hi
def DV(old new:List au):bN where
 holds R w:=∀u∈new,u∈old\/(bE u).holds R w
 stable:=λhR hw h u hu=>(h u hu).imp id ((bE u).stable hR hw)
theorem lQ(l:List au)(R:Nat->Prop)(w:World):(DV l l).holds R w:=λ_ hu=> .inl hu
variable {R:Nat->Prop} {w:World}
theorem Pq{a b:List au}{G:Nat->Prop}(h1:(dW a).holds R w)(h2:((DV a b).off G).holds R w):(dW b).holds R w:=λu hu=>(h2 u hu).elim (h1 u) (λh=>(bE u).mono h (λb hb=>hb.1))
abbrev oD(w:World)(ρ:Nat->SX.Loc)(F:Nat->Prop)(c:dN)(s:dw)(vl:List Int)(r:fE×Int):=BB w ρ F (λx:dw×Int=>ax x.2) (λx=>kQ c x.1 vl) (λx=>DV s.aF x.1.aF) (λx=>x.1.pl=r.1/\x.2=r.2/\sJ c x.1)
variable {c:dN} {s:dw}
theorem qL(h:sJ c s)(op a b k:Int):sJ c (dn s op a b k):=⟨h.aF,h.inputs⟩
theorem nR(h:sJ c s){u:au}(hu:u.bq):sJ c (aC s u).1:=by
 unfold aC
 split
 ·exact h
 ·refine⟨λp hp=> ?_,h.inputs⟩
  rcases List.mem_append.1 hp with hp|hp
  ·exact h.aF p hp
  ·rw[List.mem_singleton.1 hp];exact hu
theorem WE(s:dw)(u:au)(hu:(bE u).holds R w):(DV s.aF (aC s u).1.aF).holds R w:=by
 unfold aC
 split
 ·exact lQ _ R w
 ·intro v hv
  rcases List.mem_append.1 hv with hv|hv
  ·exact .inl hv
  ·rw[List.mem_singleton.1 hv];exact .inr hu
theorem WA(s:dw)(u:au):(aC s u).1.aF.length<=s.aF.length+1:=by
 unfold aC;split<;>simp
structure lU(c:dN)(s:dw)(vl:List Int):Prop where
 aj:1<=c.aj/\c.aj<=4096
 ok:sJ c s
 qW:s.aF.length<=500000
 lW:s.code.length<=500000
 Hr:s.inputs.length<=500000
theorem agR(c:dN)(s:dw)(vl:List Int)(n:ai)(i:Nat)(hN:lU c s vl)(h0:0<=n.a/\0<=n.b)(ha:n.a.toNat<vl.length)(hb:n.b.toNat<vl.length)(w:World)(ρ:Nat->SX.Loc)(F:Nat->Prop)(h:iY w ρ F 2 5 (kQ c s vl) ed):
 Calls Tryz.prog 29 (SV.eO ρ [.lp 0 0 0 0,.agg (jN n),ax i]).toArray w (oD w ρ F c s vl (bP s.pl 3 (vl.getD n.a.toNat 0) (vl.getD n.b.toNat 0) 0)):=by
 have hcl:=hN.lW
 refine Ez Tryz.func29 (mI 2 ρ) ρ [.lp 0 0 0 0,.agg (jN n),ax i] (kQ c s vl) (ed.and (gu w F)) 5 h.abs ?_
 repeat' ((conv=>whnf)<;>first|(show b_ _ 1 ..;refine lu [17,18] _ amU ?_)|refine agi ?_|(show mq ..;(first|refine qZ ha ?_|refine qZ hb ?_))|(show aI _ 68 ..;(refine sj [(0,some 0),(1,some 1),(2,some 2),(3,some 3),(4,some 4)] c s vl ed [.lp 0 0 0 0,ax 3,ax (vl.getD n.a.toNat 0),ax (vl.getD n.b.toNat 0),ax 0] _ _ _ _ Tryz.call68 rfl bM ⟨_,rfl⟩ ⟨_,rfl⟩ rfl (λR w' h=>trivial) (dZ w F) (λR w' h b hb=>(h.2 b hb).1) (λw' ρ' F' h'=>gV c s vl 3 (vl.getD n.a.toNat 0) (vl.getD n.b.toNat 0) 0 aa w' ρ' F' h') (λ_ _=> ?_)))|refine bn ?_)
 all_goals(conv=>whnf)
 all_goals exact fw _ _ _ _ (dn s 3 (vl.getD n.a.toNat 0) (vl.getD n.b.toNat 0) 0,(s.code.length:Int)) [(2,some 8),(3,some 9),(4,some 10)] ⟨rfl,rfl,qL hN.ok _ _ _ _⟩ aY rfl rfl rfl rfl bM (λR w' h=>⟨h.1.2,lQ _ _ _⟩)
end
section
abbrev ak8:DT:=(eY [0,1,5,6,9,10,11,12,13,14] (.alt 2 (.alt 3 (.alt 4 (eY [7,8,115,116,117,18] .done) (.one 15 (.alt 4 (eY [7,8,116,117,18] .done) (eY [116,104,7,8,117,18] .done)))) (.one 15 (.alt 3 (.alt 4 (eY [7,8,116,117,18] .done) (eY [116,104,7,8,117,18] .done)) (eY [116,103,104,7,8,117,18] .done)))) (.one 15 (.alt 2 (.alt 3 (.alt 4 (eY [7,8,116,117,18] .done) (eY [116,104,7,8,117,18] .done)) (eY [116,103,104,7,8,117,18] .done)) (eY [116,102,103,104,7,8,117,18] .done)))))
def vX(p:World->Prop):bN where
 holds R w:=∃E:bN,E.holds R w/\∀R' w',E.holds R' w'->p w'
 stable:=λhR hw ⟨E,h1,h2⟩=>⟨E,E.stable hR hw h1,h2⟩
variable {R:Nat->Prop} {w:World}
theorem fV{p:World->Prop}(h:(vX p).holds R w):p w:=by
 obtain⟨E,h1,h2⟩:=h
 exact h2 R w h1
def tO(u:au):bN:=vX λw=>bu w u.base 1 (aN u.xs)
def U8(n:ai):bN:=(tO n.ay).and ((tO n.data).and (tO n.aM))
abbrev BH(c:dN)(s:dw)(n:ai):bN:=((dW s.aF).and (vE c)).and (U8 n)
theorem zC{cx:Cx}(hP:cx.P=Tryz.prog){args:List SV}{H:Heap}{S:bN}{nx:Nat}{K:SV->Heap->bN->Nat->Prop}(θ:Map)(c:dN)(s:dw)(vl:List Int)(g:FuncId)(cells:List Value)(Tb:TypeId)(i:Nat)(f:Nat->Int)(E:bN)(sp:au)(hn:c.aj<=4096)(hs:∀p∈s.aF,p.bq)(hl:s.aF.length<=1000000)(hi:c.bO.l[i]? =some sp)(zo:sp.bq)(hb:∀x∈sp.xs,0<=x/\x<c.aj)(hff:∀e,e<sp.xs.length->i64 (f e))
 (hg:∀ar w,(callFunc g ar).run Tryz.prog w= .ok (.enter g ar) w)
 (hof:∀R w' b (e:Nat),e<sp.xs.length->w'.heap[b]? =some (.cells cells.toArray Tb (0,0))->E.holds R w'->Calls Tryz.prog g #[.int .i64 e,.pointer (some ⟨b,0,none⟩)] w' λen w''=>en= .returned (.int .i64 (f e))/\Ext w' w'')
 (hm:vM 0 θ (kw c s vl cells Tb)=true) (hin:kU θ H (kw c s vl cells Tb)) (h0:∃j,θ.app 0=some j) (h1:∃j,θ.app 1=some j) (ha:args=SV.t_ θ.app [.lp 0 0 0 0,ax i,.fn (.func g) [] [.lp 5 0 0 0]])
 (hA:∀R w,S.holds R w->(((dW s.aF).and (vE c)).and E).holds R w) (G:Nat->Prop) (hG:∀R w,S.holds R w->∀b,G b->R b)
 (h:∀u:au,u.xs=jl c.aj sp.xs f->u.bq->K (ax (aC s u).2) (tN θ (kw c s vl cells Tb) H++Mx (xh 2 nx θ) (kw c (aC s u).1 vl cells Tb)) (S.and ((bE u).off G)) (nx+6)):aI cx 69 args H S nx K:=by
 obtain⟨P,B,n,tab⟩:=cx
 subst hP
 refine z8 θ 2 6 (kw c s vl cells Tb) (((dW s.aF).and (vE c)).and E) [.lp 0 0 0 0,ax i,.fn (.func g) [] [.lp 5 0 0 0]] (λu:au=>ax (aC s u).2) (λu=>kw c (aC s u).1 vl cells Tb) (λu=>bE u) (λu=>u.xs=jl c.aj sp.xs f/\u.bq) Tryz.call69 hm (O5 _ _ _ _ _) hin (λi hi=> ?_) aY ha hA G hG (λw ρ F h'=>V9 c s vl g cells Tb _ f E sp hn hs hl hi zo hb hff hg hof w ρ F h') (λu hu=>h u hu.1 hu.2)
 have:i=0\/i=1:=by omega
 rcases this with rfl|rfl
 ·obtain⟨j,hj⟩:=h0
  exact⟨j,_,hj,aU⟩
 ·obtain⟨j,hj⟩:=h1
  exact⟨j,_,hj,aU⟩
variable {s:dw} {u:au}
theorem LX{c:dN}{sl:List Int}{f:Nat->Int}{op a b:Int}(hu:u.xs=jl c.aj sl f)(hok:sJ c (dn (aC s u).1 op a b (aC s u).2)):
 (dn (aC s u).1 op a b (aC s u).2).pl=(bP (bC c.aj s.pl sl f).1 op a b (bC c.aj s.pl sl f).2).1/\((aC s u).1.code.length:Int)=(bP (bC c.aj s.pl sl f).1 op a b (bC c.aj s.pl sl f).2).2/\sJ c (dn (aC s u).1 op a b (aC s u).2):=by
 have e:=AR s u
 unfold bC
 rw[<-hu,<-e]
 exact⟨rfl,rfl,hok⟩
theorem qI{G:Nat->Prop}(hu:((bE u).off G).holds R w):((DV s.aF (aC s u).1.aF).off G).holds R w:=WE s u hu
theorem xK(w:World)(b e:Nat)(v:Int)(T:TypeId)(h:w.heap[b]? =some (.cells [Value.int .i64 v].toArray T (0,0))):Calls Tryz.prog 132 #[.int .i64 e,.pointer (some ⟨b,0,none⟩)] w λen w'=>en= .returned (.int .i64 v)/\Ext w w':=by
 have hc:w.cell? ⟨b,0,none⟩=some (.int .i64 v):=by simp[World.cell?,h]
 refine fH Tryz.func132 [ax e,.c (.pointer (some ⟨b,0,none⟩))] ?_
 repeat' ((conv=>whnf)<;>first|(show fT ..;(refine yC (λR w' h=>by rw[jv (h _ (iN hc)).2];exact hc) ?_))|refine aX ?_)
 all_goals(conv=>whnf)
 all_goals exact cz (λ_ _ h=>h) (λ_=>rfl) rfl
theorem XG(c:dN)(s:dw)(vl:List Int)(n:ai)(i:Nat)(sp:au)(hN:lU c s vl)(h0:0<=n.a)(ha:n.a.toNat<vl.length)(hd:n.data.xs.length=1)(hds:n.data.bq)(hi:c.bO.l[i]? =some sp)(zo:sp.bq)(hb:∀x∈sp.xs,0<=x/\x<c.aj)(w:World)(ρ:Nat->SX.Loc)(F:Nat->Prop)(h:iY w ρ F 2 5 (kQ c s vl) (BH c s n)):
 Calls Tryz.prog 30 (SV.eO ρ [.lp 0 0 0 0,.agg (jN n),ax i]).toArray w (oD w ρ F c s vl (bP (bC c.aj s.pl sp.xs (λ_=>n.data.xs.getD 0 0)).1 5 (vl.getD n.a.toNat 0) 0 (bC c.aj s.pl sp.xs (λ_=>n.data.xs.getD 0 0)).2)):=by
 have hcl:=hN.lW
 have hpl:=hN.qW
 have hv64:i64 (n.data.xs.getD 0 0):=by
  rw[List.getD_eq_getElem?_getD,List.getElem?_eq_getElem aa]
  exact hds.fits _ (List.getElem_mem _)
 generalize hv:n.data.xs.getD 0 0=v at*
 refine Ez Tryz.func30 (mI 2 ρ) ρ [.lp 0 0 0 0,.agg (jN n),ax i] (kQ c s vl) ((BH c s n).and (gu w F)) 5 h.abs ?_
 refine Wp.know (p:=∃a,n.data.base=some a) (λρ w' hw=>ae hw λR h=>aP (j:=0) (fV h.1.2.2.1) vK) ?_
 rintro⟨da,hda⟩
 repeat' ((conv=>whnf)<;>first|(show b_ _ 1 ..;refine lu [] _ ak8 ?_ (h6:=List.Sublist.cons_cons _ (List.Sublist.cons _ (List.Sublist.cons_cons _ (List.nil_sublist _)))))|refine BF ?_|(show bV ..;refine aH da 0 hda rfl aa ?_)|(show fT ..;(refine kz (λR w' h=>by rw[<-hda];first|exact fV h.1.2.2.1|exact fV h.1.1.2.2.1) (j:=0) aa hv ?_))|refine Oc ?_|(show mq ..;refine qZ ha ?_)|refine Zo ?_|(show sG ..;refine l6 ?_)|(show aI _ 69 ..;(refine zC rfl [(0,some 0),(1,some 1),(2,some 2),(3,some 3),(4,some 4),(5,some 6)] c s vl 132 [.int .i64 v] 3 i (λ_=>v) ed sp hN.aj.2 hN.ok.aF aa hi zo hb (λ_ _=>hv64) Tryz.call132 (λR w' b e _ h _=>xK w' b e v _ h) rfl bM ⟨_,rfl⟩ ⟨_,rfl⟩ rfl (λR w' h=>⟨h.1.1,trivial⟩) (dZ w F) (λR w' h b hb=>(h.2 b hb).1) (λu hu fI=> ?_)))|(show aI _ 68 ..;(refine sj [(0,some 0),(1,some 1),(2,some 9),(3,some 10),(4,some 11)] c (aC s u).1 vl ed [.lp 0 0 0 0,ax 5,ax (vl.getD n.a.toNat 0),ax 0,ax (aC s u).2] _ _ _ _ Tryz.call68 rfl bM ⟨_,rfl⟩ ⟨_,rfl⟩ rfl (λR w' h=>trivial) (dZ w F) (λR w' h b hb=>(h.1.2 b hb).1) (λw' ρ' F' h'=>gV c (aC s u).1 vl 5 (vl.getD n.a.toNat 0) 0 (aC s u).2 Yy w' ρ' F' h') (λ_ _=> ?_)))|refine bn ?_|refine And.intro ?_ ?_)
 all_goals(conv=>whnf)
 all_goals exact fw _ _ _ _ (dn (aC s u).1 5 (vl.getD n.a.toNat 0) 0 (aC s u).2,((aC s u).1.code.length:Int)) [(2,some 15),(3,some 16),(4,some 17)] (LX hu (qL (nR hN.ok fI) _ _ _ _)) aY rfl rfl rfl rfl bM (λR w' h=>⟨h.1.1.2,qI h.1.2⟩)
end
abbrev amK:DT:=(eY [0,1,2,3,4,5,6,7,8,9,10,11,12,13,14,15,16,17,118,119,120,121,22,123] .done)
theorem RL(w:World)(b e:Nat)(n:ai)(T:TypeId)(he:e<n.data.xs.length)(hd:bu w n.data.base 1 (aN n.data.xs))(h:w.heap[b]? =some (.cells n.cells.toArray T (0,0))):Calls Tryz.prog 71 #[.int .i64 e,.pointer (some ⟨b,0,none⟩)] w λen w'=>en= .returned (.int .i64 (n.data.xs.getD e 0))/\Ext w w':=by
 have hc:w.cell? ⟨b,7,none⟩=some n.data.val:=by simp[World.cell?,h,ai.cells]
 obtain⟨da,hda⟩:∃a,n.data.base=some a:=aP (j:=e) hd (by rw[aJ];exact he)
 refine fH Tryz.func71 [ax e,.c (.pointer (some ⟨b,0,none⟩))] ?_
 repeat' ((conv=>whnf)<;>first|(show bV ..;refine aH da e hda rfl he ?_)|(show fT ..;(first|refine yC (λR w' h=>by show w'.cell? ((Addr.mk b 0 none).add 7)=_;rw[iA,Nat.zero_add,jv (h _ (iN hc)).2];exact hc) ?_|refine kz (λR w' h=>by rw[<-hda];exact aA h hd) (j:=e) he rfl ?_))|refine aX ?_)
 all_goals(conv=>whnf)
 all_goals exact cz (λ_ _ h=>h) (λ_=>rfl) rfl
theorem abe(c:dN)(s:dw)(vl:List Int)(n:ai)(i:Nat)(sp:au)(hN:lU c s vl)(hd:sp.xs.length<=n.data.xs.length)(hds:n.data.bq)(hi:c.bO.l[i]? =some sp)(zo:sp.bq)(hb:∀x∈sp.xs,0<=x/\x<c.aj)(w:World)(ρ:Nat->SX.Loc)(F:Nat->Prop)(h:iY w ρ F 2 5 (kQ c s vl) (BH c s n)):
 Calls Tryz.prog 28 (SV.eO ρ [.lp 0 0 0 0,.agg (jN n),ax i]).toArray w (oD w ρ F c s vl (bP (bC c.aj s.pl sp.xs (λe=>n.data.xs.getD e 0)).1 2 0 0 (bC c.aj s.pl sp.xs (λe=>n.data.xs.getD e 0)).2)):=by
 have hcl:=hN.lW
 have hpl:=hN.qW
 have hv64:∀e,e<sp.xs.length->i64 (n.data.xs.getD e 0):=λe he=>by
  rw[List.getD_eq_getElem?_getD,List.getElem?_eq_getElem aa]
  exact hds.fits _ (List.getElem_mem _)
 refine Ez Tryz.func28 (mI 2 ρ) ρ [.lp 0 0 0 0,.agg (jN n),ax i] (kQ c s vl) ((BH c s n).and (gu w F)) 5 h.abs ?_
 repeat' ((conv=>whnf)<;>first|(show aI _ 69 ..;(refine zC rfl [(0,some 0),(1,some 1),(2,some 2),(3,some 3),(4,some 4),(5,some 5)] c s vl 71 n.cells 41 i (λe=>n.data.xs.getD e 0) (U8 n) sp hN.aj.2 hN.ok.aF aa hi zo hb hv64 Tryz.call71 (λR w' b e he hh hA=>RL w' b e n _ aa (fV hA.2.1) hh) rfl bM ⟨_,rfl⟩ ⟨_,rfl⟩ rfl (λR w' h=>h.1) (dZ w F) (λR w' h b hb=>(h.2 b hb).1) (λu hu fI=> ?_)))|(show aI _ 68 ..;(refine sj [(0,some 0),(1,some 1),(2,some 8),(3,some 9),(4,some 10)] c (aC s u).1 vl ed [.lp 0 0 0 0,ax 2,ax 0,ax 0,ax (aC s u).2] _ _ _ _ Tryz.call68 rfl bM ⟨_,rfl⟩ ⟨_,rfl⟩ rfl (λR w' h=>trivial) (dZ w F) (λR w' h b hb=>(h.1.2 b hb).1) (λw' ρ' F' h'=>gV c (aC s u).1 vl 2 0 0 (aC s u).2 Yy w' ρ' F' h') (λ_ _=> ?_)))|refine aX ?_)
 all_goals(conv=>whnf)
 all_goals exact fw _ _ _ _ (dn (aC s u).1 2 0 0 (aC s u).2,((aC s u).1.code.length:Int)) [(2,some 14),(3,some 15),(4,some 16)] (LX hu (qL (nR hN.ok fI) _ _ _ _)) aY rfl rfl rfl rfl bM (λR w' h=>⟨h.1.1.2,qI h.1.2⟩)
def inpV(s:dw)(lo hi:Int)(sp:au):dw:=⟨s.inputs++[⟨lo,hi,sp⟩],s.aF,s.code⟩
def lF(s:fE)(lo hi:Int)(sl:List Int):fE×Int:=bP ⟨s.inputs++[⟨lo,hi,sl⟩],s.aF,s.code⟩ 1 0 0 s.inputs.length
theorem aai(c:dN)(s:dw)(vl:List Int)(n:ai)(i:Nat)(sp:au)(hN:lU c s vl)(hlo:i64 n.lo)(hhi:i64 n.hi)(hi:c.bO.l[i]? =some sp)(w:World)(ρ:Nat->SX.Loc)(F:Nat->Prop)(h:iY w ρ F 2 5 (kQ c s vl) (BH c s n)):
 Calls Tryz.prog 27 (SV.eO ρ [.lp 0 0 0 0,.agg (jN n),ax i]).toArray w (oD w ρ F c s vl (lF s.pl n.lo n.hi sp.xs)):=by
 have hcl:=hN.lW
 have hpl:=hN.qW
 have hil:=hN.Hr
 refine Ez Tryz.func27 (mI 2 ρ) ρ [.lp 0 0 0 0,.agg (jN n),ax i] (kQ c s vl) ((BH c s n).and (gu w F)) 5 h.abs ?_
 have aaS:=(List.getElem?_eq_some_iff.1 hi).1
 have hrow:(aS c.bO.l)[i]? =some [sp.val]:=by unfold aS;rw[List.getElem?_map,hi];rfl
 refine Wp.know (p:=∃a,c.bO.base=some a) (λρ w' hw=>ae hw λR h=>aP (j:=i) (aV h.1.1.2.1) Yp) ?_
 rintro⟨sa,hsa⟩
 repeat' ((conv=>whnf)<;>first|(show b_ _ 1 ..;refine lu [23] _ amK ?_ (h6:=List.Sublist.cons_cons _ (List.Sublist.cons_cons _ (List.Sublist.cons_cons _ (List.Sublist.cons _ (List.Sublist.refl _))))))|refine BF ?_|refine ZM ?_|(show fT ..;(refine bA (λR w' h=>by rw[<-hsa];exact aV h.1.1.2.1) _ _ hrow rfl ?_))|(show vO ..;(refine gY aeE ?_))|(show gP ..;(refine dP aii ?_))|refine ahG ?_|refine aX ?_)
 have hz:(((s.inputs++[qo.mk n.lo n.hi sp]).length:Nat):Int)-1=s.inputs.length:=by rw[List.length_append,List.length_singleton];omega
 repeat' ((conv=>whnf)<;>first|(show iL ..;(refine agQ (y:=(s.inputs.length:Int)) (by rw[hz];exact IntWalk.i64_in _ ⟨by omega,by omega⟩) ?_))|(show aI _ 68 ..;(refine sj [(0,some 0),(1,some 1),(2,some 7),(3,some 3),(4,some 4)] c (inpV s n.lo n.hi sp) vl ed [.lp 0 0 0 0,ax 1,ax 0,ax 0,ax s.inputs.length] _ _ _ _ Tryz.call68 rfl bM ⟨_,rfl⟩ ⟨_,rfl⟩ rfl (λR w' h=>trivial) (dZ w F) (λR w' h b hb=>(h.2 b hb).1) (λw' ρ' F' h'=>gV c (inpV s n.lo n.hi sp) vl 1 0 0 s.inputs.length (by show s.code.length<=_;omega) w' ρ' F' h') (λ_ _=> ?_)))|refine aX ?_)
 all_goals(conv=>whnf)
 all_goals exact fw _ _ _ _ (dn (inpV s n.lo n.hi sp) 1 0 0 s.inputs.length,(s.code.length:Int)) [(2,some 10),(3,some 11),(4,some 12)] ⟨by unfold lF bP dn inpV dw.pl;simp[qo.pl],rfl,⟨hN.ok.aF,λx hx=>by
  rcases List.mem_append.1 hx with hx|hx
  ·exact hN.ok.inputs x hx
  ·rw[List.mem_singleton.1 hx];exact⟨List.mem_of_getElem? hi,hlo,hhi⟩⟩⟩ aY rfl rfl rfl rfl bM (λR w' h=>⟨h.1.2,lQ _ _ _⟩)
section
def wV(c:dN)(s:dw)(vl:List Int)(d v i2 i3 i4:Nat):Heap:=[(d,.box [ax c.aj,.os i2 s.inputs.length,.os i3 s.aF.length,.os i4 s.code.length,ax 0,.c (.slice none 0 0),.c (.bool c.giant),.c c.shapes.val,.c c.bO.val,.os v vl.length] 71),(v,.rows (aN vl) 1 3),(i2,.rows (iP s.inputs) 3 92),(i3,.rows (aS s.aF) 1 32),(i4,.rows (iO s.code) 5 43)]
abbrev Cq(d v i2 i3 i4:Nat):Map:=[(0,some d),(1,some v),(2,some i2),(3,some i3),(4,some i4)]
variable {cx:Cx} {f:FuncId} {args:List SV} {S:bN} {nx:Nat} {K:SV->Heap->bN->Nat->Prop}
theorem dV{α:Type}(rest:Heap)(d v i2 i3 i4:Nat)(c:dN)(s:dw)(vl:List Int)(A:bN)(ol:List SV)(val:α->Value)(s':α->dw)(D:α->bN)(p:α->Prop)
 (hf:∀ar w,(callFunc f ar).run cx.P w= .ok (.enter f ar) w) (hm:vM 0 (Cq d v i2 i3 i4) (kQ c s vl)=true) (hl:tN (Cq d v i2 i3 i4) (kQ c s vl) (rest++wV c s vl d v i2 i3 i4)=rest)
 (ha:args=SV.t_ (Cq d v i2 i3 i4).app ol) (hA:∀R w,S.holds R w->A.holds R w) (G:Nat->Prop) (hG:∀R w,S.holds R w->∀b,G b->R b)
 (hc:∀w ρ F,iY w ρ F 2 5 (kQ c s vl) A->Calls cx.P f (SV.eO ρ ol).toArray w (BB w ρ F (λx=> .c (val x)) (λx=>kQ c (s' x) vl) D p))
 (h:∀x,p x->K (.c (val x)) (rest++wV c (s' x) vl d v (nx+2) (nx+3) (nx+4)) (S.and ((D x).off G)) (nx+5)):aI cx f args (rest++wV c s vl d v i2 i3 i4) S nx K:=by
 have hin:∀q∈wV c s vl d v i2 i3 i4,q∈rest++wV c s vl d v i2 i3 i4:=λq hq=>List.mem_append.2 (.inr hq)
 refine sj (Cq d v i2 i3 i4) c s vl A ol (λx=> .c (val x)) s' D p hf hm ⟨hin _ aU,hin _ aU,hin _ aU,hin _ aU,hin _ aU,trivial⟩ ⟨_,rfl⟩ ⟨_,rfl⟩ ha hA G hG hc (λx hx=> ?_)
 rw[hl]
 exact h x hx
theorem TN{H:Heap}{K':SV->Heap->bN->Nat->Prop}(hk:aI cx f args H S nx K')(h:∀v H' S' nx',K' v H' S' nx'->∃H2,H2.Sublist H'/\K v H2 S' nx'):aI cx f args H S nx K:=by
 rw[gN]at hk|-
 refine⟨hk.1,λρ w hw=>(hk.2 ρ w hw).mono ?_⟩
 rintro e w' ⟨v,ρ',H',S',nx',h1,h2,h3,h4,h5,h6⟩
 obtain⟨H2,g1,g2⟩:=h v H' S' nx' h6
 exact⟨v,ρ',H2,S',nx',h1,h2,h3,h4,h5.sub g1 (λ_ _ h=>h),g2⟩
theorem qj(hP:cx.P=Tryz.prog)(rest:Heap)(ib d v i2 i3 i4:Nat)(c:dN)(s:dw)(vl:List Int)(g:FuncId)(cells:List Value)(Tb:TypeId)(i:Nat)(f:Nat->Int)(E:bN)(sp:au)(hn:c.aj<=4096)(hs:∀p∈s.aF,p.bq)(hl:s.aF.length<=1000000)(hi:c.bO.l[i]? =some sp)(zo:sp.bq)(hb:∀x∈sp.xs,0<=x/\x<c.aj)(hff:∀e,e<sp.xs.length->i64 (f e))
 (hg:∀ar w,(callFunc g ar).run Tryz.prog w= .ok (.enter g ar) w)
 (hof:∀R w' b (e:Nat),e<sp.xs.length->w'.heap[b]? =some (.cells cells.toArray Tb (0,0))->E.holds R w'->Calls Tryz.prog g #[.int .i64 e,.pointer (some ⟨b,0,none⟩)] w' λen w''=>en= .returned (.int .i64 (f e))/\Ext w' w'')
 (hm:vM 0 (Cq d v i2 i3 i4++[(5,some ib)]) (kw c s vl cells Tb)=true) (hls:tN (Cq d v i2 i3 i4++[(5,some ib)]) (kw c s vl cells Tb) ((ib,.box (cs cells) Tb)::(rest++wV c s vl d v i2 i3 i4))=rest) (ha:args=SV.t_ (Cq d v i2 i3 i4++[(5,some ib)]:Map).app [.lp 0 0 0 0,ax i,.fn (.func g) [] [.lp 5 0 0 0]])
 (hA:∀R w,S.holds R w->(((dW s.aF).and (vE c)).and E).holds R w) (G:Nat->Prop) (hG:∀R w,S.holds R w->∀b,G b->R b)
 (h:∀u:au,u.xs=jl c.aj sp.xs f->u.bq->K (ax (aC s u).2) (rest++wV c (aC s u).1 vl d v (nx+2) (nx+3) (nx+4)) (S.and ((bE u).off G)) (nx+6)):aI cx 69 args ((ib,.box (cs cells) Tb)::(rest++wV c s vl d v i2 i3 i4)) S nx K:=by
 have hin:∀q∈wV c s vl d v i2 i3 i4,q∈(ib,bZ.box (cs cells) Tb)::(rest++wV c s vl d v i2 i3 i4):=λq hq=>List.mem_cons_of_mem _ (List.mem_append.2 (.inr hq))
 refine TN (K':=λw H' S' nx'=>∃u:au,(u.xs=jl c.aj sp.xs f/\u.bq)/\w=ax (aC s u).2/\H'=rest++Mx (xh 2 nx (Cq d v i2 i3 i4++[(5,some ib)])) (kw c (aC s u).1 vl cells Tb)/\S'=S.and ((bE u).off G)/\nx'=nx+6) (zC hP (Cq d v i2 i3 i4++[(5,some ib)]) c s vl g cells Tb i f E sp hn hs hl hi zo hb hff hg hof hm ⟨hin _ aU,hin _ aU,hin _ aU,hin _ aU,hin _ aU,Ic List.mem_cons_self,trivial⟩ ⟨_,rfl⟩ ⟨_,rfl⟩ ha hA G hG (λu h1 h2=>⟨u,⟨h1,h2⟩,rfl,by rw[hls],rfl,rfl⟩)) ?_
 rintro w H' S' nx' ⟨u,⟨h1,h2⟩,rfl,rfl,rfl,rfl⟩
 refine⟨_,?_,h u h1 h2⟩
 have e:Mx (xh 2 nx (Cq d v i2 i3 i4++[(5,some ib)])) (kw c (aC s u).1 vl cells Tb)=wV c (aC s u).1 vl d v (nx+2) (nx+3) (nx+4)++[(nx+5,(bZ.box (cs cells) Tb).ren (xh 2 nx (Cq d v i2 i3 i4++[(5,some ib)])))]:=rfl
 rw[e,<-List.append_assoc]
 exact List.sublist_append_left _ _
end
section
theorem Io{xs:List Int}{j:Nat}{v:Int}{K:Value->Prop}(hj:j<xs.length)(e:xs.getD j 0=v)(h:K (.int .i64 v)):mq (aN xs) j 0 K:=by
 subst e;exact qZ hj h
structure lJ(c:dN)(k:Nat)(s:dw):Prop where
 ok:sJ c s
 qW:s.aF.length<=k
 lW:s.code.length<=k
variable {c:dN} {k:Nat} {s:dw}
theorem lJ.lay(h:lJ c k s)(op a b x:Int):lJ c (k+1) (dn s op a b x):=⟨qL h.ok _ _ _ _,Nat.le_succ_of_le h.qW,by show(s.code++_).length<=_;rw[List.length_append,List.length_singleton];have:=h.lW;omega⟩
variable {u:au}
theorem lJ.plain(h:lJ c k s)(hu:u.bq):lJ c (k+1) (aC s u).1:=⟨nR h.ok hu,by have:=WA s u;have:=h.qW;omega,by rw[iX];exact Nat.le_succ_of_le h.lW⟩
theorem lJ.zero(h:lJ c k s)(hu:u.bq)(x:Int):lJ c (k+2) (zeroV s u x):=(h.plain hu).lay _ _ _ _
variable {R:Nat->Prop} {w:World}
theorem mP(h:(dW s.aF).holds R w)(hu:(bE u).holds R w):(dW (aC s u).1.aF).holds R w:=by
 unfold aC
 split
 ·exact h
 ·exact Xh h hu
theorem gW{old:List au}{G:Nat->Prop}(h:((DV old s.aF).off G).holds R w)(hu:((bE u).off G).holds R w):((DV old (aC s u).1.aF).off G).holds R w:=by
 unfold aC
 split
 ·exact h
 ·intro v hv
  rcases List.mem_append.1 hv with hv|hv
  ·exact h v hv
  ·rw[List.mem_singleton.1 hv];exact .inr hu
theorem nQ(s:dw)(op a b k:Int):bP s.pl op a b k=((dn s op a b k).pl,(s.code.length:Int)):=rfl
theorem iB{n:Nat}{sl:List Int}{f:Nat->Int}(hu:u.xs=jl n sl f):bC n s.pl sl f=((aC s u).1.pl,(aC s u).2):=by
 unfold bC
 rw[<-hu,<-AR]
theorem yM{n:Nat}{x:Int}(hu:u.xs=List.replicate n 0):uu n s.pl x=((zeroV s u x).pl,(s.code.length:Int)):=by
 unfold uu
 rw[<-hu,<-AR]
 simp only[nQ,iX]
 rfl
end
def Vh:Go.Shelf.Ren:=⟨λ|4=>155|n=>n,λ|0=>0|3=>3|4=>4|9=>9|20=>20|22=>32|25=>3|n=>n,λn=>n⟩
theorem adp:Go.Proofs.Lays8.n4 Tryz.prog Vh:={
 mixed:=by kernel_rfl
 f4:=⟨ "slices.Grow[[]int,int]",by rfl,Tryz.func155.trans (congrArg some ji)⟩
 t0:=Tryz.underlying0
 a0:=Tryz.isAgg0
 z0:=Tryz.sizeOf0
 v0:=Tryz.zeroValue0
 t3:=Tryz.underlying3
 a3:=Tryz.isAgg3
 z3:=Tryz.sizeOf3
 v3:=Tryz.zeroValue3
 t4:=Tryz.underlying4
 a4:=Tryz.isAgg4
 z4:=Tryz.sizeOf4
 v4:=Tryz.zeroValue4
 t9:=Tryz.underlying9
 a9:=Tryz.isAgg9
 z9:=Tryz.sizeOf9
 v9:=Tryz.zeroValue9
 t20:=Tryz.underlying20
 a20:=Tryz.isAgg20
 z20:=Tryz.sizeOf20
 v20:=Tryz.zeroValue20
 t22:=Tryz.underlying32
 a22:=Tryz.isAgg32
 z22:=Tryz.sizeOf32
 v22:=Tryz.zeroValue32
}
theorem ac7(w:World)(x:Int)(n:Nat)(hx:x=n)(h0:0<n)(hn:n<=1000000000):
 Calls Tryz.prog 155 #[.slice none 0 0,.int .i64 x] w λe w'=>∃v,e= .returned v/\Ext w w'/\kv w w' v 1 3 []:=by
 subst hx
 have hi:∃i,Tryz.prog.info? 3=some i/\i.zero=some (.int .i64 0)/\i.size=1/\i.bytes=8:=by
  have h:(Tryz.prog.info? 3).map (λi=>(i.zero,i.size,i.bytes))=some (some (.int .i64 0),1,8):=by kernel_rfl
  cases hi:Tryz.prog.info? 3 with
  |none=>rw[hi]at h;cases h
  |some i=>
   rw[hi]at h
   simp only[Option.map_some,Option.some.injEq,Prod.mk.injEq]at h
   exact⟨i,rfl,h⟩
 obtain⟨i,h1,h2,h3,h4⟩:=hi
 refine(Any8.slices_Grow_grow adp i (.int .i64 0) h1 h2 aa none 0 0 n [] w (Nat.le_refl _) aa (by rw[h4];omega) aa fP (λ_=>rfl) (λa h=>by cases h)).mono ?_
 rintro e w' ⟨rfl,rfl⟩
 refine⟨_,rfl,(Ext.trans (show Ext w w.drew from⟨rfl,rfl,rfl,Nat.le_refl _,λ_ _=>rfl⟩) (FC w.drew _)),⟨some ⟨w.heap.size,0,none⟩,_⟩,rfl,λb=>b=w.heap.size,λb hb=>by omega,by simp,Nat.zero_le _,.inr ⟨w.heap.size,0,_,rfl,λ_=>Iff.rfl,nX w.drew _,?_,?_⟩⟩
 ·have:=grownCap_le w (0+n) 0 3
  show 0+grownCap w (0+n) 0 3*1<=_
  have e:Vh.t 25=3:=rfl
  rw[e]
  simp[Builtin.zeroCells,Value.cells]
  omega
 ·intro i r h
  cases h
theorem Xl(w:World)(a:Addr)(cap:Nat)(u v:au)(hr:bu w (some a) 1 [[u.val],[v.val]])(hu:u.ok w)(hv:v.ok w)(h0:0<u.xs.length+v.xs.length):
 Calls Tryz.prog 129 #[.slice (some a) 2 cap] w λe w'=>∃x,e= .returned x/\Ext w w'/\kv w w' x 1 3 (aN (u.xs++v.xs)):=by
 obtain⟨ub,uc,us⟩:=u
 obtain⟨vb,vc,vs⟩:=v
 obtain⟨hu,_,_,hfu⟩:=hu
 obtain⟨hv,_,_,VX⟩:=hv
 simp only[au.val]at*
 have eu:=aJ us
 have ev:=aJ vs
 refine fH Tryz.func129 [.c (.slice (some a) 2 cap)] ?_
 repeat' ((conv=>whnf)<;>first|refine aX ?_)
 refine Wp.rounds 3 ?_
 repeat' ((conv=>whnf)<;>first|refine abR ?_|refine aci ?_|(show aI _ 155 ..;refine w_ (f:=155) Tryz.call155 1 3 (λ_:Unit=>[]) (λ_=>True) (λρ w' hw=>(ac7 w' _ (us.length+vs.length) aa h0 aa).mono (λe w2 h=>⟨(),trivial,h⟩)) (λ_ _=> ?_))|refine aX ?_|refine ag ?_ ?_<;>intro _)
 refine Wp.rounds 3 ?_
 have nil:∀{l:List Int},bu w none 1 (aN l)->l=[]:=λ{l} h=>List.eq_nil_of_length_eq_zero (by
  rcases h with h|⟨a,h,_⟩
  ·have:=congrArg List.length h
   rwa[aJ]at this
  ·cases h)
 have e:List.take (([]:List (List Value)).length+(aN us).length) (List.take ([]:List (List Value)).length []++aN us)=aN us:=by simp
 cases ub<;>cases vb
 ·have:=nil hu
  subst this
  have:=nil hv
  subst this
  exact absurd h0 aY
 ·have:=nil hu
  subst this
  repeat' ((conv=>whnf)<;>first|refine abR ?_|refine aci ?_|(show uA ..;refine mQ (aJ _) (λR w' h=>aA h hv) kL ?_)|refine aeO ?_|refine adR ?_|refine aX ?_|refine ag ?_ ?_<;>intro _)
  all_goals(conv=>whnf)
  exact xS (xs:=aN ([]++vs)) (λ_ _ h=>h) rfl (by rw[List.nil_append];exact .head _) abA
 ·have:=nil hv
  subst this
  repeat' ((conv=>whnf)<;>first|refine abR ?_|refine aci ?_|(show uA ..;refine mQ (aJ _) (λR w' h=>aA h hu) kL ?_)|refine aeO ?_|refine adR ?_|refine aX ?_|refine ag ?_ ?_<;>intro _)
  all_goals(conv=>whnf)
  exact xS (xs:=aN (us++[])) (λ_ _ h=>h) rfl (by rw[List.append_nil us,e,List.append_nil (aN us)];exact .head _) abA
 ·repeat' ((conv=>whnf)<;>first|refine abR ?_|refine aci ?_|(show uA ..;(first|refine mQ (aJ us) (λR w' h=>aA h hu) kL ?_|refine mQ (aJ vs) (λR w' h=>aA h hv) kL ?_))|refine aeO ?_|refine adR ?_|refine aX ?_|refine ag ?_ ?_<;>intro _)
  all_goals(conv=>whnf)
  exact xS (xs:=aN (us++vs)) (λ_ _ h=>h) rfl (by rw[e,show aN (us++vs)=aN us++aN vs by simp[aN]];exact .head _) abA
section
abbrev iK:=SX.Loc×List Int
def H6(p:iK):List Value:=[.slice p.1.base p.2.length p.1.cap]
def gI(L:List iK):List (List Value):=L.map H6
def kC(L:List iK):List wU:=L.map λp=>(p.1,p.2.map (Value.int .i64))
def DIs(n:Nat)(p:iK):Prop:=(p.1=⟨none,0⟩/\p.2=[])\/((∃b off,p.1.base=some ⟨b,off,none⟩)/\p.2.length=n/\n<=p.1.cap)
structure DOk(n:Nat)(L:List iK):Prop where
 len:L.length=n
 each:∀p∈L,DIs n p
def qA(n:Nat)(D:List (List Int))(s f w:Int):List (List Int):=
 if w=0 then D else D.set ((f-s+n)%n).toNat ((if D.getD ((f-s+n)%n).toNat []=[]then List.replicate n 0 else D.getD ((f-s+n)%n).toNat []).set s.toNat w)
def Ay(n:Nat)(fr row:List Int)(s:Int)(D:List (List Int))(k:Nat):List (List Int):=(List.range k).foldl (λD i=>qA n D s (fr.getD i 0) (row.getD i 0)) D
def ou(n:Nat)(rows:List (List Int))(fr to:List Int)(o:Nat):List (List Int):=(List.range o).foldl (λD o=>Ay n fr (rows.getD o []) (to.getD o 0) D fr.length) (List.replicate n [])
theorem U0(n:Nat)(fr row:List Int)(s:Int)(D:List (List Int))(k:Nat):Ay n fr row s D (k+1)=qA n (Ay n fr row s D k) s (fr.getD k 0) (row.getD k 0):=by simp[Ay,List.range_succ]
theorem Ux(n:Nat)(rows:List (List Int))(fr to:List Int)(o:Nat):ou n rows fr to (o+1)=Ay n fr (rows.getD o []) (to.getD o 0) (ou n rows fr to o) fr.length:=by simp[ou,List.range_succ]
theorem uk(L:List iK):(gI L).length=L.length:=by simp[gI]
variable {L:List iK} {d:Nat}
theorem rH{p:iK}(h:L[d]? =some p):(gI L)[d]? =some (H6 p):=by simp[gI,h]
theorem Ae{p:iK}(h:L[d]? =some p):(kC L)[d]? =some (p.1,p.2.map (Value.int .i64)):=by simp[kC,h]
theorem wZ(L:List iK)(d:Nat)(p:iK):gI (L.set d p)=(gI L).set d (H6 p):=by simp[gI,List.map_set]
theorem zT(L:List iK)(d:Nat)(p:iK):kC (L.set d p)=(kC L).set d (p.1,p.2.map (Value.int .i64)):=by simp[kC,List.map_set]
theorem DOk.set{n d:Nat}{L:List iK}{p:iK}(h:DOk n L)(hp:DIs n p):DOk n (L.set d p):=⟨by rw[List.length_set];exact h.len,λq hq=>by
 rcases List.mem_or_eq_of_mem_set hq with hq|hq
 ·exact h.each q hq
 ·rw[hq];exact hp⟩
def xq(n:Nat):List iK:=List.replicate n (⟨none,0⟩,[])
theorem agz(n:Nat):DOk n (xq n):=⟨by simp[xq],λp hp=> .inl aib⟩
theorem Td(n:Nat):(xq n).map Prod.snd=List.replicate n []:=by simp[xq]
theorem Nq(n:Nat):gI (xq n)=List.replicate n [.slice none 0 0]:=by simp[gI,xq,H6]
theorem Lr(n:Nat):kC (xq n)=List.replicate n (⟨none,0⟩,[]):=by simp[kC,xq]
theorem DR{p:iK}(h:L[d]? =some p):(L.map Prod.snd).getD d []=p.2:=by simp[List.getD,h]
variable {s f w:Int}
theorem afh{n:Nat}{p:iK}{l:SX.Loc}(hd:L[d]? =some p)(hp:p.2=[])(hw:w≠0)(hdd:(f-s+n)%n=d):(L.set d (l,(List.replicate n 0).set s.toNat w)).map Prod.snd=qA n (L.map Prod.snd) s f w:=by
 rw[qA,if_neg hw,hdd,Int.toNat_natCast,DR hd,if_pos hp,List.map_set]
theorem aeq{n:Nat}{p:iK}(hd:L[d]? =some p)(hp:p.2≠[])(hw:w≠0)(hdd:(f-s+n)%n=d):(L.set d (p.1,p.2.set s.toNat w)).map Prod.snd=qA n (L.map Prod.snd) s f w:=by
 rw[qA,if_neg hw,hdd,Int.toNat_natCast,DR hd,if_neg hp,List.map_set]
theorem aoi{n:Nat}(h:0<=s/\s<n)(hf:0<=f/\f<n):∃d:Nat,(f-s+n)%n=d/\d<n/\0<=f-s+n:=by
 have h1:0<=(f-s+n)%n:=Int.emod_nonneg _ aa
 have h2:(f-s+n)%n<n:=Int.emod_lt_of_pos _ aa
 exact⟨((f-s+n)%n).toNat,by omega,by omega,by omega⟩
variable {t:TypeId} {ti:TI} {ox oy:Operand} {K:SV->Prop}
theorem agr{P:Program}(h:lV P t=some ti)(hk:ti.ak=1)(hK:K (.c (.bool true))):lY P (do eqGuard .eql t ox oy (.slice none 0 0) (.slice none 0 0);binOp .eql t (.slice none 0 0) (.slice none 0 0)) K:=jR h hk hK
theorem akv{P:Program}(h:lV P t=some ti)(hk:ti.ak=1){base:Option Addr}{a:Addr}{len cap:Nat}(e:base=some a)(hK:K (.c (.bool false))):lY P (do eqGuard .eql t ox oy (.slice base len cap) (.slice none 0 0);binOp .eql t (.slice base len cap) (.slice none 0 0)) K:=by
 subst e;exact jR h hk hK
end
end Go.Proofs.YtgndjjdeopfdkaaGreat

import Derived.RangeFuncGives
import Derived.RangeFuncBox
import Derived.RangeFuncLeaves
import Derived.Maps.AppendAt
import Derived.Shelf.Abstract
import Derived.WalkKit
import Derived.OwnWalkIn
import Derived.TacticsInMore
import Derived.LoopNIn
import Derived.LoopIn
import Derived.RegionIn
import Derived.Test.YtgndjjdeopfdkaaGreatProg
import Derived.Shelf.Sort.Plain
import Derived.Shelf.Slices.CompactI
import Derived.Shelf.Slices.In.SortNone
import Derived.Shelf.Spec.SlicesGrow
import Derived.Test.YtgndjjdeopfdkaaGreatKLowerMeans6
/- texts IJ LO of the proof of LowerMeansSaid -/
set_option maxHeartbeats 16000000
set_option maxRecDepth 20000
set_option linter.unusedVariables false
set_option linter.unusedSimpArgs false
namespace Go.Proofs.YtgndjjdeopfdkaaGreat
open Go.SX Go.RowKit
section
variable {w0:World} {i nx:Nat} {R0:List (List Value)} {T:TypeId} {H:Heap} {S:bR} {K:SV->Heap->bR->Nat->Prop}
theorem vE{n:Nat}(xs:List Int)(hN:∀R w,S.holds R w->(aU w0).holds R w)(he:R0=aZ xs)(hn:n=xs.length)(hf:∀x∈xs,i64 x)(hl:xs.length<=1000000)(h:∀u:ax,u.xs=xs->u.bF->K (.c u.val) H (S.and ((bX u).past w0.heap.size)) nx):qN (.os i n) ((i,.rows R0 1 T)::H) S nx K:=by
 subst he hn;exact sH w0.heap.size (λR w hS b hb=>(hN R w hS b hb).1) (λl hc=>h ⟨l.base,l.cap,xs⟩ rfl ⟨hf,by simpa[aP]using hc,hl⟩)
theorem QV{n:Nat}(l:List ak)(hN:∀R w,S.holds R w->(aU w0).holds R w)(he:R0=bO l)(hn:n=l.length)(h:∀base cap,K (.c (.slice base l.length cap)) H (S.and ((f_ base 9 (bO l)).past w0.heap.size)) nx):qN (.os i n) ((i,.rows R0 9 T)::H) S nx K:=by
 subst he hn;exact sH w0.heap.size (λR w hS b hb=>(hN R w hS b hb).1) (λlc _=>h lc.base lc.cap)
theorem LW{xs:List Int}(h:(xs.all λx=>decide (-1000000<=x/\x<=1000000))=true):∀x∈xs,i64 x:=λx hx=>by
 have:=of_decide_eq_true (akM.1 h x hx);unfold i64;omega
theorem XW{cx:Cx}{f:FuncId}{args:List SV}(r:Int×List Int)(hf:∀ar w,(callFunc f ar).run cx.P w= .ok (.enter f ar) w)
 (hc:∀ρ w',dO cx.B ρ nx H S w'->Calls cx.P f (SV.dW ρ args).toArray w' (DR w' r))
 (h0:r.1≠0->K (.c (.tuple #[.slice none 0 0,.int .i64 r.1])) H S nx)
 (h1:r.1=0->∀x:ax,x.xs=r.2->x.bF->K (.c (.tuple #[x.val,.int .i64 0])) H (S.and ((bX x).past cx.B.w0.heap.size)) nx):aJ cx f args H S nx K:=by
 rw[fZ];refine⟨hf,λρ w hw=>(hc ρ w hw).mono ?_⟩;rintro e w' (⟨hr,rfl,he⟩|⟨hr,x,⟨hx1,hx2⟩,rfl,he,hD⟩)
 ·exact⟨.c (.tuple #[.slice none 0 0,.int .i64 r.1]),ρ,H,S,nx,rfl,λ_ _=>rfl,Tw _,SV.iW _,hw.ext he,h0 hr⟩
 ·exact⟨.c (.tuple #[x.val,.int .i64 0]),ρ,H,_,nx,rfl,λ_ _=>rfl,Tw _,SV.iW _,hw.grow he hD,h1 hr x hx1 hx2⟩
end
section
abbrev aiW:DT:=(bS [0,1,2,3,4,5,6,7,8] (.alt 9 (bS [10,111,112] .done) (bS [111,109,10,112] .done)))
abbrev aiA:DT:=(bS [0,1,2,3,4,5,6,7,8,9,10,111,112,13,114,115,116] .done)
section
variable {w:World} {b:Nat} {nb sb:Option Addr} {nc sc:Nat} {kept:List ak} {st:List Int}
theorem Qy(hd:om w b nb nc kept sb sc st)(k:Nat)(hk:k<kept.length)(bv:Bool)(hv:decide (kept[k].ai=2)=bv):Calls Tryz.prog 109 #[.pointer (some ⟨b,0,none⟩),.int .i64 k] w λe w'=>e= .returned (.bool bv)/\Ext w w':=by
 obtain⟨na,hna⟩:∃a,nb=some a:=aT (j:=k) hd.nodes ko;have hrow:=fP hk;generalize kept[k]=n at*;subst hv;refine fH Tryz.func109 [.c (.pointer (some ⟨b,0,none⟩)),aC k] ?_;by_cases h2:n.ai=2
 ·rw[decide_eq_true h2];repeat' ((conv=>whnf)<;>first|refine tJ ?_|refine wI ?_|(show gZ ..;(refine Us (λR w' h=>by rw[<-hna];exact aH h hd.nodes) _ _ hrow rfl ?_))|(show @iG _ _ _;refine gJ h2 ?_)|refine a_ ?_)
  all_goals(conv=>whnf)
  all_goals exact bq (λ_ _ h=>h) rfl rfl
 ·rw[decide_eq_false h2];repeat' ((conv=>whnf)<;>first|refine tJ ?_|refine wI ?_|(show gZ ..;(refine Us (λR w' h=>by rw[<-hna];exact aH h hd.nodes) _ _ hrow rfl ?_))|(show @iG _ _ _;refine jc h2 ?_)|refine a_ ?_)
  all_goals(conv=>whnf)
  all_goals exact bq (λ_ _ h=>h) rfl rfl
def wD(kept:List ak)(k:Int):Bool:=decide ((kept.getD k.toNat (aN.toV dh)).ai=2)
theorem DF{kept:List ak}{k:Int}(h:k.toNat<kept.length):decide (kept[k.toNat].ai=2)=wD kept k:=by
 unfold wD;rw[TR,YL h];rfl
theorem SH(kept:List ak)(k:Int):AL (kept.map ak.pl) k=wD kept k:=by
 unfold wD AL
 congr 1
 rw[TR,TR,ab5];cases kept[k.toNat]? <;>rfl
theorem rH(hd:om w b nb nc kept sb sc st){k:Int}(h0:0<=k)(hk:k.toNat<kept.length){bv:Bool}(hv:wD kept k=bv):Calls Tryz.prog 109 #[.pointer (some ⟨b,0,none⟩),.int .i64 k] w λe w'=>e= .returned (.bool bv)/\Ext w w':=by
 have:=Qy hd k.toNat hk bv ((DF hk).trans hv)
 rwa[alP h0]at this
theorem adm(hd:om w b nb nc kept sb sc st)(n:ak)(hn:gL n.pl kept.length)(hk:jO (kept.map ak.pl) n.pl=false):Calls Tryz.prog 55 #[.pointer (some ⟨b,0,none⟩),n.p9] w λe w'=>e= .returned n.p9/\Ext w w':=by
 have hkk:=hn.ai;have kk:n.pl.ai=n.ai:=rfl;have ka:n.pl.a=n.a:=rfl;have kb:n.pl.b=n.b:=rfl;have ha0:=hn.a0;have hb0:=hn.b0;have ha1:=hn.a1;have hb1:=hn.b1;rw[kk]at hkk ha1 hb1;rw[ka]at ha0 ha1;rw[kb]at hb0 hb1;unfold jO at hk;rw[SH,SH,kk,ka,kb]at hk;by_cases h12:n.ai=1\/n.ai=2
 ·refine fH Tryz.func55 [.c (.pointer (some ⟨b,0,none⟩)),.agg (vo n)] ?_;repeat' ((conv=>whnf)<;>first|refine a_ ?_|refine ag ?_ ?_<;>intro _)
  all_goals(conv=>whnf)
  all_goals first|(exfalso;omega)|exact bZ (λ_ _ h=>h) (λ_=>rfl) rfl
 ·have a1:=ha1 aa aa;have hk':(wD kept n.a&&(decide (n.ai≠6)||wD kept n.b))=false:=by
   rw[decide_eq_false h12]at hk;simpa using hk
  cases hA:wD kept n.a with
  |false=>
   refine fH Tryz.func55 [.c (.pointer (some ⟨b,0,none⟩)),.agg (vo n)] ?_;repeat' ((conv=>whnf)<;>first|(show aJ _ 109 ..;refine aR (f:=109) Tryz.call109 (.bool false) (λρ w' hw=>rH (ae hw λR h=>hd.later h) ha0 a1 hA) ?_)|refine a_ ?_|refine ag ?_ ?_<;>intro _)
   all_goals(conv=>whnf)
   all_goals first|(exfalso;omega)|exact bZ (λ_ _ h=>h) (λ_=>rfl) rfl
  |true=>
   rw[hA,anE]at hk';simp only[Bool.or_eq_false_iff,decide_eq_false_iff_not,Decidable.not_not]at hk';obtain⟨h6,hB⟩:=hk';have b1:=hb1 h6;by_cases hab:n.a=n.b
   ·rw[hab,hB]at hA;cases hA
   refine fH Tryz.func55 [.c (.pointer (some ⟨b,0,none⟩)),.agg (vo n)] ?_;repeat' ((conv=>whnf)<;>first|(show aJ _ 109 [_,aC n.a] ..;refine aR (f:=109) Tryz.call109 (.bool true) (λρ w' hw=>rH (ae hw λR h=>hd.later h) ha0 a1 hA) ?_)|(show aJ _ 109 [_,aC n.b] ..;refine aR (f:=109) Tryz.call109 (.bool false) (λρ w' hw=>rH (ae hw λR h=>hd.later h) hb0 b1 hB) ?_)|refine a_ ?_|refine ag ?_ ?_<;>intro _)
   all_goals(conv=>whnf)
   all_goals first|(exfalso;omega)|exact bZ (λ_ _ h=>h) (λ_=>rfl) rfl
end
end
section
variable {k nx:Nat} {H:Heap} {S:bR}
theorem uM{i n m:Nat}{xs ys:List (List Value)}{T:TypeId}{K:SV->Heap->bR->Nat->Prop}(h:K (.os i m) ((i,.rows ys k T)::H) S nx)(e:xs=ys)(en:n=m):qN (.os i n) ((i,.rows xs k T)::H) S nx K:=by subst e en;exact lS h
theorem abq:i64 2:=⟨by decide,by decide⟩
def uR(u x:ax):ak:=⟨2,0,0,u,0,0,0,x,cK⟩
def CP(w:World)(s d:List Int)(e:Ending)(w':World):Prop:=
 ∃u x:ax,u.xs=s/\u.bF/\x.xs=d/\x.bF/\e= .returned (uR u x).p9/\Ext w w'/\(bX u).holds (λb=>w.heap.size<=b/\b<w'.heap.size) w'/\(bX x).holds (λb=>w.heap.size<=b/\b<w'.heap.size) w'
theorem RI{B:Base}{v:SV}{w:World}{s d:List Int}{u x:ax}(hb:∀R w',S.holds R w'->(aU B.w0).holds R w')(hw0:B.w0=w)(hu:u.xs=s)(iL:u.bF)(hx:x.xs=d)(hxs:x.bF)(hv:∀ρ,v.rf ρ=(uR u x).p9)(h1:∀R w',S.holds R w'->((bX u).past B.w0.heap.size).holds R w')(h2:∀R w',S.holds R w'->((bX x).past B.w0.heap.size).holds R w'):jS B v H S nx (CP w s d):=by
 subst hw0;exact dK λρ w' hw=>⟨u,x,hu,iL,hx,hxs,by rw[hv],bG hw hb,lW hw h1,lW hw h2⟩
section
variable {w:World} {b:Nat} {nb sb:Option Addr} {nc sc:Nat} {kept:List ak} {st:List Int} {df:List (List Int)} {dU:List Sp} {s:List Int}
theorem Rf{kept:List ak}(h:k<kept.length):(kept.map ak.pl).getD k dh=kept[k].pl:=by
 rw[TR,ab5,YL h];rfl
theorem ZU{w:World}{n:ak}{a b:Int}(h:n.ok w)(ha:i64 a)(hb:i64 b):(xW n a b).ok w:=⟨h.az,h.data,h.aQ,h.lQ,ha,hb,h.nk,h.ng,h.lV⟩
theorem Za(hd:om w b nb nc kept sb sc st)(hko:∀k∈kept,k.ok w/\k.small)(hR:dD (kept.map ak.pl) df dU)(n:ak)(hno:n.ok w)(hns:n.small)(hm:jb n.pl.toV df s)(hk:jO (kept.map ak.pl) n.pl=true)(h1: -1048576<=(jk n.pl s df dU).1)(h2:(jk n.pl s df dU).2<=1048576)(h6:n.ai≠6):
 Calls Tryz.prog 55 #[.pointer (some ⟨b,0,none⟩),n.p9] w (CP w s (lm s (kept.map ak.pl) n.pl)):=by
 have hK:=BV hR hm hk;have hlen:=hR.oK;have ug:kept.length<=1000000\/1000000<kept.length:=by omega
 have kk:n.pl.ai=n.ai:=rfl;have ka:n.pl.a=n.a:=rfl;have hah:=kE hm.form;have ha0:=hah.a0;have h12:=hK.ai;have NZ:=hK.NZ;rw[ka]at ha0 NZ;rw[kk]at h12;rw[aas]at NZ;have hkA:wD kept n.a=true:=by
  have:=hK.aK;rw[ka,Rf NZ]at this;rw[<-DF NZ];exact decide_eq_true this
 obtain⟨na,hna⟩:∃a,nb=some a:=aT (j:=n.a.toNat) hd.nodes ko;have hrow:=fP NZ;have hAo:=hko _ (aby NZ);have hAp:=Rf NZ;generalize hAe:kept[n.a.toNat]=A at*;have hb0:n.b=0:=hah.b2 h6;have hLo:∀m∈[A,xW n 0 n.b],m.ok w/\m.small:=λm hm=>by
  simp only[abr,aiF,or_false]at hm;rcases hm with rfl|rfl
  ·exact hAo
  ·exact⟨ZU hno pG hno.yh,hns.data,hns.aQ⟩
 obtain⟨hG1,hG2,hG3⟩:=abp hR hm hK h1 h2 (g:=(bM.mk none 0 [A,xW n 0 n.b] 1)) (by unfold VX;rw[if_neg (show¬n.pl.ai=6 from h6),ka,hAp];rfl) (by unfold Hw;rw[if_neg (show¬n.pl.ai=6 from h6)]);have hG2:gD (check (bM.mk none 0 [A,xW n 0 n.b] 1)).2 1=s:=hG2;have hG4:(check (bM.mk none 0 [A,xW n 0 n.b] 1)).2.length=2:=(gK hG1).2.2.2.1;refine fH Tryz.func55 [.c (.pointer (some ⟨b,0,none⟩)),.agg (vo n)] ?_;repeat' ((conv=>whnf)<;>first|refine P5 ?_|refine tJ ?_|(show dn ..;refine aM na n.a.toNat hna aa NZ ?_)|(show lK ..;(refine gI (λR w' h=>by rw[<-hna];exact aH h hd.nodes) _ hrow rfl ?_))|(show jv ..;refine fU (show(2:Nat)*120<=140737488355328 by decide) ?_)|(show cO _ 3 ..;refine mV [12] _ aiW ?_)|refine a_ ?_|refine ag ?_ ?_<;>intro _|refine And.intro ?_ ?_)
 all_goals(conv=>whnf)
 all_goals refine oD (f:=24) (check (bM.mk none 0 [A,xW n 0 n.b] 1)) Tryz.call24 (λρ w' hw=>qE w' ⟨(ρ 5).base,(ρ 5).cap,[A,xW n 0 n.b],1⟩ ⟨eZ hw YV,λm hm=>ae hw λR h=>(hLo m hm).1.later h,λm hm=>(hLo m hm).2,show 2<=1000000 by decide,WX⟩) (λhne=>absurd hG1 hne) (λ_ sv hmv hsv=> ?_)
 all_goals
  have hsl:sv.l.length=2:=by rw[<-aas (f:=λu:ax=>u.xs),hmv];exact hG4
  have hs1:1<sv.l.length:=by omega
  have hsx:sv.l[1].xs=s:=by
   rw[<-hG2,<-hmv];unfold gD;rw[TR,ab5,YL hs1];rfl
  repeat' ((conv=>whnf)<;>first|fail)
 all_goals refine Wp.know (p:=∃a,sv.base=some a) (λρ w' hw=>ae hw λR h=>aT (j:=1) (bf h.2.1) nO) ?_
 all_goals
  rintro⟨sa,hsa⟩;refine Wp.go bW rfl ?_;repeat' ((conv=>whnf)<;>first|(show aJ _ 110 ..;refine XW (f:=110) (Je (bM.mk none 0 [A,xW n 0 n.b] 1) []) Tryz.call110 (λρ w' hw=>ab7 w' ⟨(ρ 5).base,(ρ 5).cap,[A,xW n 0 n.b],1⟩ ⟨eZ hw YV,λm hm=>ae hw λR h=>(hLo m hm).1.later h.1,λm hm=>(hLo m hm).2,show 2<=1000000 by decide,WX⟩ ⟨none,0,[]⟩ ⟨.inl rfl,λu hu=>by simp at hu,Tw _,aae _⟩) (λhne=>absurd (by rw[hG3]) hne) (λ_ x hx hxs=> ?_))|(show dn ..;refine aM sa 1 hsa rfl hs1 ?_)|refine M9 ?_|refine a_ ?_)
 all_goals(conv=>whnf)
 all_goals exact RI (λR w' h=>h.1.1) rfl hsx (hsv _ (aby hs1)) (by rw[hx,hG3]) hxs (λ_=>rfl) (λR w' h=>h.1.2.2 _ (aby hs1)) (λR w' h=>h.2)
theorem aaO(hd:om w b nb nc kept sb sc st)(hko:∀k∈kept,k.ok w/\k.small)(hR:dD (kept.map ak.pl) df dU)(n:ak)(hno:n.ok w)(hns:n.small)(hm:jb n.pl.toV df s)(hk:jO (kept.map ak.pl) n.pl=true)(h1: -1048576<=(jk n.pl s df dU).1)(h2:(jk n.pl s df dU).2<=1048576)(h6:n.ai=6):
 Calls Tryz.prog 55 #[.pointer (some ⟨b,0,none⟩),n.p9] w (CP w s (lm s (kept.map ak.pl) n.pl)):=by
 have hK:=BV hR hm hk;have hlen:=hR.oK;have ug:kept.length<=1000000\/1000000<kept.length:=by omega
 have kk:n.pl.ai=n.ai:=rfl;have ka:n.pl.a=n.a:=rfl;have hah:=kE hm.form;have ha0:=hah.a0;have h12:=hK.ai;have NZ:=hK.NZ;rw[ka]at ha0 NZ;rw[kk]at h12;rw[aas]at NZ;have hkA:wD kept n.a=true:=by
  have:=hK.aK;rw[ka,Rf NZ]at this;rw[<-DF NZ];exact decide_eq_true this
 obtain⟨na,hna⟩:∃a,nb=some a:=aT (j:=n.a.toNat) hd.nodes ko;have hrow:=fP NZ;have hAo:=hko _ (aby NZ);have hAp:=Rf NZ;generalize hAe:kept[n.a.toNat]=A at*;have kb:n.pl.b=n.b:=rfl;have hb0:=hah.b0;have bLt:=hK.bLt h6;rw[kb]at hb0 bLt;rw[aas]at bLt;have hkB:wD kept n.b=true:=by
  have:=hK.bK h6;rw[kb,Rf bLt]at this;rw[<-DF bLt];exact decide_eq_true this
 have amg:=fP bLt;have hBo:=hko _ (aby bLt);have hBp:=Rf bLt;generalize hBe:kept[n.b.toNat]=Bn at*;have hLo:∀m∈[A,Bn,xW n 0 1],m.ok w/\m.small:=λm hm=>by
  simp only[abr,aiF,or_false]at hm;rcases hm with rfl|rfl|rfl
  ·exact hAo
  ·exact hBo
  ·exact⟨ZU hno pG WX,hns.data,hns.aQ⟩
 obtain⟨hG1,hG2,hG3⟩:=abp hR hm hK h1 h2 (g:=(bM.mk none 0 [A,Bn,xW n 0 1] 2)) (by unfold VX;rw[if_pos (show n.pl.ai=6 from h6),ka,hAp,kb,hBp];rfl) (by unfold Hw;rw[if_pos (show n.pl.ai=6 from h6)]);have hG2:gD (check (bM.mk none 0 [A,Bn,xW n 0 1] 2)).2 2=s:=hG2;have hG4:(check (bM.mk none 0 [A,Bn,xW n 0 1] 2)).2.length=3:=(gK hG1).2.2.2.1;refine fH Tryz.func55 [.c (.pointer (some ⟨b,0,none⟩)),.agg (vo n)] ?_;repeat' ((conv=>whnf)<;>first|refine P5 ?_|(show aJ _ 109 [_,aC n.b] ..;refine aR (f:=109) Tryz.call109 (.bool true) (λρ w' hw=>rH (ae hw λR h=>hd.later h) hb0 bLt hkB) ?_)|(show qN _ ((_,.rows (List.take 1 _++_) _ _)::_) _ _ _;refine uM (ys:=bO [A,Bn]) (m:=2) ?_ rfl rfl)|(show qN _ ((_,.rows (List.take 2 _++_) _ _)::_) _ _ _;refine uM (ys:=bO [A,Bn,xW n 0 1]) (m:=3) ?_ rfl rfl)|(show Gn ..;refine mg (of_decide_eq_true rfl) ?_)|(show mW ..;(first|refine ed (aej _ (aej _ (af7 _))) (λ_ _ h=>h) ?_|refine ed (aej _ (aei _ (aej _ (af7 _)))) (λ_ _ h=>h) ?_|refine ed (aej _ (af7 _)) (λ_ _ h=>h) ?_))|(show cO _ 6 ..;(first|(show cO _ 6 _ _ ((_,.rows _ _ _)::_) _ _ _;refine vM bW mixed [14,15,16] _ aiA bg bg bg (aej _ (af7 _)) ?_)|(show cO _ 6 _ _ ((_,.box _ _)::_) _ _ _;refine vM bW mixed [14,15,16] _ aiA bg bg bg (aei _ (aej _ (af7 _))) ?_)))|refine tJ ?_|(show dn ..;(first|refine aM na n.a.toNat hna aa NZ ?_|refine aM na n.b.toNat hna aa bLt ?_))|(show lK ..;(first|refine gI (λR w' h=>by rw[<-hna];exact aH h hd.nodes) _ hrow rfl ?_|refine gI (λR w' h=>by rw[<-hna];exact aH h hd.nodes) _ amg rfl ?_))|(show jv ..;refine fU (of_decide_eq_true rfl) ?_)|(show cO _ 3 ..;refine mV [12] _ aiW ?_)|refine a_ ?_|refine ag ?_ ?_<;>intro _|refine And.intro ?_ ?_)
 all_goals(conv=>whnf)
 all_goals refine oD (f:=24) (check (bM.mk none 0 [A,Bn,xW n 0 1] 2)) Tryz.call24 (λρ w' hw=>qE w' ⟨(ρ 7).base,(ρ 7).cap,[A,Bn,xW n 0 1],2⟩ ⟨eZ hw YV,λm hm=>ae hw λR h=>(hLo m hm).1.later h,λm hm=>(hLo m hm).2,show 3<=1000000 by decide,abq⟩) (λhne=>absurd hG1 hne) (λ_ sv hmv hsv=> ?_)
 all_goals
  have hsl:sv.l.length=3:=by rw[<-aas (f:=λu:ax=>u.xs),hmv];exact hG4
  have hs1:2<sv.l.length:=by omega
  have hsx:sv.l[2].xs=s:=by
   rw[<-hG2,<-hmv];unfold gD;rw[TR,ab5,YL hs1];rfl
  repeat' ((conv=>whnf)<;>first|fail)
 all_goals refine Wp.know (p:=∃a,sv.base=some a) (λρ w' hw=>ae hw λR h=>aT (j:=2) (bf h.2.1) nO) ?_
 all_goals
  rintro⟨sa,hsa⟩;refine Wp.go bW rfl ?_;repeat' ((conv=>whnf)<;>first|(show aJ _ 110 ..;refine XW (f:=110) (Je (bM.mk none 0 [A,Bn,xW n 0 1] 2) []) Tryz.call110 (λρ w' hw=>ab7 w' ⟨(ρ 7).base,(ρ 7).cap,[A,Bn,xW n 0 1],2⟩ ⟨eZ hw YV,λm hm=>ae hw λR h=>(hLo m hm).1.later h.1,λm hm=>(hLo m hm).2,show 3<=1000000 by decide,abq⟩ ⟨none,0,[]⟩ ⟨.inl rfl,λu hu=>by simp at hu,Tw _,aae _⟩) (λhne=>absurd (by rw[hG3]) hne) (λ_ x hx hxs=> ?_))|(show dn ..;refine aM sa 2 hsa rfl hs1 ?_)|refine M9 ?_|refine a_ ?_)
 all_goals(conv=>whnf)
 all_goals exact RI (λR w' h=>h.1.1) rfl hsx (hsv _ (aby hs1)) (by rw[hx,hG3]) hxs (λ_=>rfl) (λR w' h=>h.1.2.2 _ (aby hs1)) (λR w' h=>h.2)
end
end
section
abbrev akE:DT:=(bS [0,1,3,4,6,7,102,9,105,108,110,111,112,113,114] .done)
abbrev aja:DT:=(bS [0,1,2,3,4,5,6,107,108,109,110,11,112] .done)
def Rw(n:ak):bR:=(xJ n.az).and ((xJ n.data).and (xJ n.aQ))
def Qo(N:Nat)(l:List ak):bR where
 holds R w:=∀n∈l,((Rw n).past N).holds R w
 stable:=λhR hw h n hn=>((Rw n).past N).stable hR hw (h n hn)
theorem aed(N:Nat)(R:Nat->Prop)(w:World):(Qo N []).holds R w:=λn hn=>by simp at hn
variable {N:Nat} {l:List ak} {R:Nat->Prop} {w:World}
theorem O9{n:ak}(h:(Qo N l).holds R w)(hn:((Rw n).past N).holds R w):(Qo N (l++[n])).holds R w:=λm hm=>by
 rcases aeh.1 hm with hm|hm
 ·exact h m hm
 ·rw[afe.1 hm];exact hn
structure ak.uB(n:ak):Prop where
 az:n.az.bF
 data:n.data.bF
 aQ:n.aQ.bF
 lQ:i64 n.ai
 Cr:i64 n.a
 yh:i64 n.b
 nk:i64 n.lo
 ng:i64 n.hi
 lV:i64 n.size
theorem ak.ok.uB{w:World}{n:ak}(h:n.ok w):n.uB:=⟨h.az.bF,h.data.bF,h.aQ.bF,h.lQ,h.Cr,h.yh,h.nk,h.ng,h.lV⟩
def xZ(l:List ak):Prop:=∀n∈l,n.uB/\n.small
theorem af2{n:ak}(hs:n.uB)(h:((Rw n).past N).holds R w):n.ok w:=
 ⟨dw hs.az (Dh h.1),dw hs.data (Dh h.2.1),dw hs.aQ (Dh h.2.2),hs.lQ,hs.Cr,hs.yh,hs.nk,hs.ng,hs.lV⟩
theorem Im(hk:xZ l)(h:(Qo N l).holds R w):∀n∈l,n.ok w/\n.small:=λn hn=>⟨af2 (hk n hn).1 (h n hn),(hk n hn).2⟩
variable {f:FuncId} {H:Heap} {S:bR} {nx:Nat} {K:SV->Heap->bR->Nat->Prop}
theorem Cf{cx:Cx}{args:List SV}(xs:List Int)(hf:∀ar w,(callFunc f ar).run cx.P w= .ok (.enter f ar) w)
 (hc:∀ρ w',dO cx.B ρ nx H S w'->Calls cx.P f (SV.dW ρ args).toArray w' (RB w' xs))
 (h:∀u:ax,u.xs=xs->u.bF->K (.c u.val) H (S.and ((xJ u).past cx.B.w0.heap.size)) nx):aJ cx f args H S nx K:=
 jU hf ax.val xJ (λu=>u.xs=xs/\u.bF) hc (λu hu=>h u hu.1 hu.2)
variable {B:Base} {ρ:Nat->SX.Loc} {d:Nat} {kept:List ak} {st:List Nat} {T:TypeId}
theorem Cg{i j:Nat}{out:Int}{T1 T2:TypeId}(hw:dO B ρ nx H S w)(hd:(d,b_.box [.os i kept.length,aC out,.os j st.length] T)∈H)(hi:(i,b_.rows (bO kept) 9 T1)∈H)(hj:(j,b_.rows (aZ (xU st)) 1 T2)∈H):
 ∃b,(SV.lp d 0 0 0).rf ρ= .pointer (some ⟨b,0,none⟩)/\om w b (ρ i).base (ρ i).cap kept (ρ j).base (ρ j).cap (xU st):=by
 have hn:=eZ hw hi;have hs:=eZ hw hj;obtain⟨R,φ,lF⟩:=hw;obtain⟨b,h1,h2,h3⟩:=lF.jA _ hd;simp only at h1;refine⟨b,by simp[SV.rf,h1,fG],?_,?_,hn,hs⟩
 ·simp[World.cell?,h3,SV.dW,SV.rf]
 ·simp[World.cell?,h3,SV.dW,SV.rf,xU]
variable {v u:Value}
theorem C_{P:Program}{Q:Ending->World->Prop}{b:Nat}(e:v= .pointer (some ⟨b,0,none⟩))(h:Calls P f #[.pointer (some ⟨b,0,none⟩),u] w Q):Calls P f #[v,u] w Q:=e▸h
theorem aa2{n:ak}(hw:dO B ρ nx H S w)(hd:(d,b_.box (cs n.cells) T)∈H):∃c,(SV.lp d 0 0 0).rf ρ= .pointer (some ⟨c,0,none⟩)/\bE w (some ⟨c,0,none⟩) 9 (bO [n]):=by
 obtain⟨R,φ,lF⟩:=hw;obtain⟨b,h1,h2,h3⟩:=lF.jA _ hd;simp only at h1;rw[mF]at h3;refine⟨b,by simp[SV.rf,h1,fG],.inr ⟨_,rfl,λi r hi j v hj=> ?_⟩⟩;cases i with
 |zero=>
  obtain rfl:n.cells=r:=by simpa[bO]using hi
  rw[fG];simp[World.cell?,h3,hj]
 |succ i=>simp[bO]at hi
theorem Ai{P:Program}{g:FuncId}{Q:Ending->World->Prop}{c:Nat}(e:v= .pointer (some ⟨c,0,none⟩))(h:Calls P f #[u,.func (.func g) #[] #[.pointer (some ⟨c,0,none⟩)]] w Q):Calls P f #[u,.func (.func g) #[] #[v]] w Q:=e▸h
variable {row:List aN} {k:Nat}
theorem aef{n:aN}(h:Fa n row 0=some k):Zn n row=k:=by unfold Zn;rw[h]
theorem acH{n:aN}(h:Fa n row 0=none):Zn n row= -1:=by unfold Zn;rw[h]
theorem Xo(st:List Nat)(k:Nat):List.take st.length (aZ (xU st))++[[.int .i64 (k:Int)]]=aZ (xU (st++[k])):=by
 rw[aen (by rw[aP];simp[xU])];simp[xU,aZ]
theorem PV(st:List Nat):(aZ (xU st)).length=st.length:=by rw[aP];simp[xU]
variable {n0:Nat} {e6 e5 e1 e0:b_} {m:ak}
theorem RY(hmo:∀R w',S.holds R w'->m.ok w')(hko:∀R w',S.holds R w'->∀k∈kept,k.ok w')(h1:kept.length<=24)(h2:st.length<=24)(hf:rU (kept.map ak.pl) m.pl=some k)
 (h:∀e8 e7,K (.xg []) [(9,.rows (aZ (xU (st++[k]))) 1 3),(8,e8),(7,e7),(6,e6),(5,e5),(3,.rows (bO kept) 9 41),(2,.box [.os 3 kept.length,aC 0,.os 9 (st++[k]).length] 108),(1,e1),(0,e0)] S 10):aJ ⟨Tryz.prog,⟨w,[]⟩,n0,tab⟩ 56 [.lp 2 0 0 0,.agg [aC m.ai,aC m.a,aC m.b,.c m.az.val,aC m.lo,aC m.hi,aC m.size,.c m.data.val,.c m.aQ.val]] [(6,e6),(5,e5),(4,.rows (aZ (xU st)) 1 3),(3,.rows (bO kept) 9 41),(2,.box [.os 3 kept.length,aC 0,.os 4 st.length] 108),(1,e1),(0,e0)] S 7 K:=by
 obtain⟨hk1,hk⟩:=zI hf;have hkl:k<kept.length:=by have:=(abH.1 hk).1;rwa[aas]at this
 have apl:m.ai≠1:=hk1;have hi:Fa m.pl (kept.map ak.pl) 0=some k:=by unfold rU at hf;rw[if_neg hk1]at hf;exact hf
 refine gm bW Tryz.func56 rfl rfl rfl Tryz.call56 rfl fO ?_;repeat' ((conv=>whnf)<;>first|(show aJ _ 111 ..;(refine aR (f:=111) Tryz.call111 (.int .i64 k) (λρ w' hw=>by obtain⟨c,e,hc⟩:=aa2 (n:=m) (d:=7) hw aj;have:=Ec w' m c (ae hw λR h=>hmo R w' h) hc (ρ 3).base (ρ 3).cap kept (eZ hw aj) (ae hw λR h=>hko R w' h) aa;rw[aef hi]at this;exact Ai e this) ?_))|(show qN _ ((_,.rows (List.take st.length _++_) _ _)::_) _ _ _;refine uM (ys:=aZ (xU (st++[k]))) (m:=(st++[k]).length) ?_ (Xo st k) NU)|(show Gn ..;(refine mg Fj ?_))|(show jv ..;(refine fU Nq ?_))|refine a_ ?_|refine ag ?_ ?_<;>intro _)
 all_goals(conv=>whnf)
 all_goals exact iZ (h _ _)
def yc(m:ak)(u1 u2 u3:ax):ak:=⟨m.ai,m.a,m.b,u1,m.lo,m.hi,m.size,u2,u3⟩
theorem O5(l:List ak)(n:ak):List.take l.length (bO l)++[n.cells]=bO (l++[n]):=by
 rw[aen FK];simp[bO]
theorem aaW(hmo:∀R w',S.holds R w'->m.ok w')(hko:∀R w',S.holds R w'->∀k∈kept,k.ok w')(h1:kept.length<=24)(h2:st.length<=24)(hf:rU (kept.map ak.pl) m.pl=none)
 (h:∀e10 e8 e7 u1 u2 u3,u1.xs=m.az.xs->u1.bF->u2.xs=m.data.xs->u2.bF->u3.xs=m.aQ.xs->u3.bF->K (.xg []) [(11,.rows (aZ (xU (st++[kept.length]))) 1 3),(10,e10),(9,.rows (bO (kept++[yc m u1 u2 u3])) 9 41),(8,e8),(7,e7),(6,e6),(5,e5),(2,.box [.os 9 (kept++[yc m u1 u2 u3]).length,aC 0,.os 11 (st++[kept.length]).length] 108),(1,e1),(0,e0)] (((S.and ((xJ u1).past w.heap.size)).and ((xJ u2).past w.heap.size)).and ((xJ u3).past w.heap.size)) 12):aJ ⟨Tryz.prog,⟨w,[]⟩,n0,tab⟩ 56 [.lp 2 0 0 0,.agg [aC m.ai,aC m.a,aC m.b,.c m.az.val,aC m.lo,aC m.hi,aC m.size,.c m.data.val,.c m.aQ.val]] [(6,e6),(5,e5),(4,.rows (aZ (xU st)) 1 3),(3,.rows (bO kept) 9 41),(2,.box [.os 3 kept.length,aC 0,.os 4 st.length] 108),(1,e1),(0,e0)] S 7 K:=by
 have hi:m.ai≠1->Fa m.pl (kept.map ak.pl) 0=none:=λhk1=>by unfold rU at hf;rw[if_neg (show¬m.pl.ai=1 from hk1)]at hf;exact hf
 by_cases hk1:m.ai=1
 all_goals
  refine gm bW Tryz.func56 rfl rfl rfl Tryz.call56 rfl fO ?_;repeat' ((conv=>whnf)<;>first|(show aJ _ 111 ..;(refine aR (f:=111) Tryz.call111 (.int .i64 (-1)) (λρ w' hw=>by obtain⟨c,e,hc⟩:=aa2 (n:=m) (d:=7) hw aj;have:=Ec w' m c (ae hw λR h=>hmo R w' h) hc (ρ 3).base (ρ 3).cap kept (eZ hw aj) (ae hw λR h=>hko R w' h) aa;rw[acH (hi hk1)]at this;exact Ai e this) ?_))|(show cO _ 6 ..;refine mV [10,11,12,13,14] _ akE ?_)|(show mW ..;(first|refine ed (af7 _) (λ_ _ h=>h.1) ?_|refine ed (af7 _) (λ_ _ h=>h.1.1) ?_|refine ed (af7 _) (λ_ _ h=>h.1.1.1) ?_|refine ed (af7 _) (λ_ _ h=>h) ?_))|(show aJ _ 32 [.c m.az.val] ..;refine Cf m.az.xs Tryz.call32 (λρ w' hw=>Fw w' m.az (ae hw λR h=>(hmo R w' h).az)) (λu1 hu1 hs1=> ?_))|(show aJ _ 32 [.c m.data.val] ..;refine Cf m.data.xs Tryz.call32 (λρ w' hw=>Fw w' m.data (ae hw λR h=>(hmo R w' h.1).data)) (λu2 hu2 hs2=> ?_))|(show aJ _ 32 [.c m.aQ.val] ..;refine Cf m.aQ.xs Tryz.call32 (λρ w' hw=>Fw w' m.aQ (ae hw λR h=>(hmo R w' h.1.1).aQ)) (λu3 hu3 hs3=> ?_))|refine a_ ?_|refine ag ?_ ?_<;>intro _)
 all_goals(conv=>whnf)
 all_goals refine vM bW mixed [12] _ aja bg bg bg (aei _ (aei _ (aei _ (aei _ (aej _ (af7 _)))))) ?_
 all_goals
  repeat' ((conv=>whnf)<;>first|(show qN _ ((_,.rows (List.take kept.length _++_) _ _)::_) _ _ _;refine uM (ys:=bO (kept++[yc m u1 u2 u3])) (m:=(kept++[yc m u1 u2 u3]).length) ?_ (O5 kept (yc m u1 u2 u3)) (by show kept.length+1=_;rw[adx];rfl))|(show qN _ ((_,.rows (List.take st.length _++_) _ _)::_) _ _ _;refine uM (ys:=aZ (xU (st++[kept.length]))) (m:=(st++[kept.length]).length) ?_ (Xo st kept.length) NU)|(show Gn ..;(first|refine mg FK ?_|refine mg Fj ?_))|(show jv ..;(first|refine fU (by show(kept.length+1)*120<=140737488355328;omega) ?_|refine fU Nq ?_))|(show mW ..;(first|refine ed (aej _ (aej _ (af7 _))) (λ_ _ h=>h) ?_|refine ed (aej _ (aei _ (aei _ (aei _ (aei _ (aej _ (af7 _))))))) (λ_ _ h=>h) ?_))|refine a_ ?_)
 all_goals(conv=>whnf)
 all_goals exact iZ (h _ _ _ u1 u2 u3 hu1 hs1 hu2 hs2 hu3 hs3)
end
theorem qQ{a:Addr}{j:Nat}{S:bR}{xs:List Int}{v:Int}{K:SV->Prop}(hx:∀R w,S.holds R w->bE w (some a) 1 (aZ xs))(hj:j<xs.length)(e:xs.getD j 0=v)(h:K (aC v)):gZ (a.add (j*1)) S K:=by
 subst e;exact dP hx hj h
structure nN where
 lo:Int
 hi:Int
 aA:ax
def nN.cells(x:nN):List Value:=[.int .i64 x.lo,.int .i64 x.hi,x.aA.val]
def nN.pl(x:nN):BZ:=⟨x.lo,x.hi,x.aA.xs⟩
structure fu where
 inputs:List nN
 aF:List ax
 code:List jf
def fu.pl(s:fu):dL:=⟨s.inputs.map nN.pl,s.aF.map ax.xs,s.code⟩
def uI(x:jf):List Value:=[.int .i64 x.op,.int .i64 x.KD,.int .i64 x.a,.int .i64 x.b,.int .i64 x.k]
def iX(l:List jf):List (List Value):=l.map uI
def mq(l:List nN):List (List Value):=l.map nN.cells
theorem oF(l:List jf):(iX l).length=l.length:=by simp[iX]
theorem lJ(l:List nN):(mq l).length=l.length:=by simp[mq]
theorem ae4(l:List jf)(x:jf):List.take l.length (iX l)++[uI x]=iX (l++[x]):=by
 rw[aen (by rw[oF];exact Tw _)];simp[iX]
theorem afU(l:List nN)(x:nN):List.take l.length (mq l)++[x.cells]=mq (l++[x]):=by
 rw[aen (by rw[lJ];exact Tw _)];simp[mq]
theorem Vk(l:List ax)(x:ax):List.take l.length (bA l)++[[x.val]]=bA (l++[x]):=by
 rw[aen (by rw[acN];exact Tw _)];simp[bA]
structure fT where
 aA:Nat
 giant:Bool
 shapes:aY
 di:aY
def ZK(c:fT)(s:fu)(nv:Nat):List SV:=[aC c.aA,.os 2 s.inputs.length,.os 3 s.aF.length,.os 4 s.code.length,aC 0,.c (.slice none 0 0),.c (.bool c.giant),.c c.shapes.val,.c c.di.val,.os 1 nv]
abbrev kG(c:fT)(s:fu)(val:List Int):Heap:=[(0,.box (ZK c s val.length) 71),(1,.rows (aZ val) 1 3),(2,.rows (mq s.inputs) 3 92),(3,.rows (bA s.aF) 1 32),(4,.rows (iX s.code) 5 43)]
def eH(s:fu)(op a b k:Int):fu:=⟨s.inputs,s.aF,s.code++[jf.mk op s.code.length a b k]⟩
def iQ(l:List ax):bR where
 holds R w:=∀u∈l,(bX u).holds R w
 stable:=λhR hw h u hu=>(bX u).stable hR hw (h u hu)
theorem aaC{l:List ax}{u:ax}{R:Nat->Prop}{w:World}(h:(iQ l).holds R w)(hu:(bX u).holds R w):(iQ (l++[u])).holds R w:=λv hv=>by
 rcases aeh.1 hv with hv|hv
 ·exact h v hv
 ·rw[afe.1 hv];exact hu
abbrev Dy{α:Type}(w:World)(ρ:Nat->SX.Loc)(F:Nat->Prop)(val:α->SV)(H1:α->Heap)(D:α->bR)(p:α->Prop):=L6 w ρ F 2 5 val H1 D p
theorem gQ(c:fT)(s:fu)(vl:List Int)(op a b k:Int)(hl:s.code.length<=1000000)(w:World)(ρ:Nat->SX.Loc)(F:Nat->Prop)(h:qF w ρ F 2 5 (kG c s vl) iK):
 Calls Tryz.prog 68 (SV.dW ρ [.lp 0 0 0 0,aC op,aC a,aC b,aC k]).toArray w (Dy w ρ F (λ_:Unit=>aC s.code.length) (λ_=>kG c (eH s op a b k) vl) (λ_=>iK) (λ_=>True)):=by
 refine zzF Tryz.func68 (yZ 2 ρ) ρ [.lp 0 0 0 0,aC op,aC a,aC b,aC k] (kG c s vl) (iK.and (l8 w F)) 5 h.abs ?_;repeat' ((conv=>whnf)<;>first|(show Gn ..;(refine mg (by rw[oF];exact Tw _) ?_))|(show jv ..;(refine fU (by show(s.code.length+1)*40<=140737488355328;omega) ?_))|(show qN _ ((_,.rows (List.take s.code.length _++_) _ _)::_) _ _ _;refine uM (ys:=iX (s.code++[jf.mk op s.code.length a b k])) (m:=(s.code++[jf.mk op s.code.length a b k]).length) ?_ (ae4 s.code (jf.mk op s.code.length a b k)) (by show s.code.length+1=_;rw[adx];rfl))|refine a_ ?_)
 all_goals(conv=>whnf)
 all_goals exact lH _ _ _ _ () [(4,some 6)] trivial ay rfl rfl rfl rfl fE (λR w' h=>⟨h.2,trivial⟩)
theorem KF(w:World)(p row:ax)(c:Nat)(hp:p.ok w)(hr:row.ok w)(hc:w.cell? ⟨c,0,none⟩=some row.val):Calls Tryz.prog 156 #[p.val,.pointer (some ⟨c,0,none⟩)] w λe w'=>e= .returned (.bool (decide (p.xs=row.xs)))/\Ext w w':=by
 refine fH Tryz.func156 [.c p.val,.c (.pointer (some ⟨c,0,none⟩))] ?_;repeat' ((conv=>whnf)<;>first|refine F7 ?_|(show aJ _ 62 ..;refine aR (f:=62) Tryz.call62 (.bool (decide (p.xs=row.xs))) (λρ w' hw=>tK w' p row (ae hw λR h=>hp.later h) (ae hw λR h=>hr.later h)) ?_)|refine a_ ?_)
 all_goals(conv=>whnf)
 all_goals exact bq (λ_ _ h=>h) rfl rfl
def XF(r:List Int)(l:List (List Int)):Int:=match J5 r l 0 with|some k=>k|none=> -1
theorem acP{r x:List Int}{l:List (List Int)}{k:Nat}:J5 r (x::l) k=if x=r then some k else J5 r l (k+1):=rfl
theorem Tz(w:World)(row:ax)(c:Nat)(hr:row.ok w)(hc:w.cell? ⟨c,0,none⟩=some row.val)(nb:Option Addr)(nc:Nat)(l:List ax)(hl:bE w nb 1 (bA l))(ho:∀u∈l,u.ok w)(ug:l.length<=1000000):
 Calls Tryz.prog 154 #[.slice nb l.length nc,.func (.func 156) #[] #[.pointer (some ⟨c,0,none⟩)]] w λe w'=>e= .returned (.int .i64 (XF row.xs (l.map ax.xs)))/\Ext w w':=by
 refine fH Tryz.func154 [.c (.slice nb l.length nc),.c (.func (.func 156) #[] #[.pointer (some ⟨c,0,none⟩)])] ?_;repeat' ((conv=>whnf)<;>first|refine a_ ?_|refine ag ?_ ?_<;>intro _)
 refine Wp.loop (σ:=Nat) 0 (λk=>[(0,.c (.slice nb l.length nc)),(1,.c (.func (.func 156) #[] #[.pointer (some ⟨c,0,none⟩)])),(7,aC l.length),(8,aC k)]) (λ_=>[]) (λ_=>aU w)
  (λk=>k<=l.length/\J5 row.xs ((l.drop k).map ax.xs) k=J5 row.xs (l.map ax.xs) 0) (λk=>l.length-k) 0 [] ay (λs=>⟨rfl,rfl⟩) ⟨by simp,rfl⟩ ⟨rfl,⟨rfl,rfl,rfl,rfl,trivial⟩,trivial,λR w' h=>h⟩ ?_
 rintro k ⟨hkl,he⟩;by_cases hlt:k<l.length
 ·obtain⟨a,ha⟩:∃a,nb=some a:=aT (j:=k) hl nO;rw[ahc hlt,afY,acP]at he;have hrow:=fQ hlt;have hxo:=ho _ (aby hlt);generalize l[k]=x at*;by_cases hs:x.xs=row.xs
  ·rw[if_pos hs]at he;repeat' ((conv=>whnf)<;>first|(show dn ..;refine aM a k ha rfl hlt ?_)|(show gZ ..;(refine bN (λR w' h=>by rw[<-ha];exact aH h hl) _ _ hrow rfl ?_))|(show aJ _ 156 ..;(refine aR (f:=156) Tryz.call156 (.bool true) (λρ w' hw=>by have:=KF w' x row c (ae hw λR h=>hxo.later h) (ae hw λR h=>hr.later h) (ae hw λR h=>by rw[jE (h _ (iA hc)).2];exact hc);rw[decide_eq_true hs]at this;exact this) ?_))|refine a_ ?_|refine ag ?_ ?_<;>intro _)
   all_goals(conv=>whnf)
   all_goals exact bZ (λ_ _ h=>h) (λ_=>by unfold XF;rw[<-he];rfl) rfl
  ·rw[if_neg hs]at he;repeat' ((conv=>whnf)<;>first|(show dn ..;refine aM a k ha rfl hlt ?_)|(show gZ ..;(refine bN (λR w' h=>by rw[<-ha];exact aH h hl) _ _ hrow rfl ?_))|(show aJ _ 156 ..;(refine aR (f:=156) Tryz.call156 (.bool false) (λρ w' hw=>by have:=KF w' x row c (ae hw λR h=>hxo.later h) (ae hw λR h=>hr.later h) (ae hw λR h=>by rw[jE (h _ (iA hc)).2];exact hc);rw[decide_eq_false hs]at this;exact this) ?_))|refine a_ ?_|refine ag ?_ ?_<;>intro _)
   all_goals(conv=>whnf)
   all_goals exact⟨k+1,[],⟨hlt,he⟩,by omega,rfl,fE,trivial,λR w' h=>h⟩
 ·rw[amC aa]at he;repeat' ((conv=>whnf)<;>first|refine a_ ?_|refine ag ?_ ?_<;>intro _)
  conv=>whnf
  exact bZ (λ_ _ h=>h) (λ_=>by unfold XF;rw[<-he];rfl) rfl
def aS(s:fu)(u:ax):fu×Int:=match J5 u.xs (s.aF.map ax.xs) 0 with
 |some k=>(s,k)
 |none=>(⟨s.inputs,s.aF++[u],s.code⟩,s.aF.length)
theorem DK(s:fu)(u:ax):((aS s u).1.pl,(aS s u).2)=dF s.pl u.xs:=by
 unfold aS dF;have e:s.pl.aF=s.aF.map ax.xs:=rfl;rw[e];cases J5 u.xs (s.aF.map ax.xs) 0 with
 |some k=>rfl
 |none=>
  show((⟨_,_,_⟩:dL),_)=((⟨_,_,_⟩:dL),_);rw[afn,aas];rfl
theorem XB{B:Base}{ρ:Nat->SX.Loc}{nx:Nat}{H:Heap}{S:bR}{w:World}{d:Nat}{v:Value}{T:TypeId}(hw:dO B ρ nx H S w)(hd:(d,b_.box [.c v] T)∈H):∃c,(SV.lp d 0 0 0).rf ρ= .pointer (some ⟨c,0,none⟩)/\w.cell? ⟨c,0,none⟩=some v:=by
 obtain⟨R,φ,lF⟩:=hw;obtain⟨b,h1,h2,h3⟩:=lF.jA _ hd;simp only at h1;exact⟨b,by simp[SV.rf,h1,fG],by simp[World.cell?,h3,SV.dW,SV.rf]⟩
theorem vO(c:fT)(s:fu)(vl:List Int)(u:ax)(hu:u.bF)(hs:∀p∈s.aF,p.bF)(hl:s.aF.length<=1000000)(w:World)(ρ:Nat->SX.Loc)(F:Nat->Prop)(h:qF w ρ F 2 5 (kG c s vl) ((iQ s.aF).and (bX u))):
 Calls Tryz.prog 130 (SV.dW ρ [.lp 0 0 0 0,.c u.val]).toArray w (Dy w ρ F (λ_:Unit=>aC (aS s u).2) (λ_=>kG c (aS s u).1 vl) (λ_=>iK) (λ_=>True)):=by
 have hix:∀w' c nb nc,w'.cell? ⟨c,0,none⟩=some u.val->bE w' nb 1 (bA s.aF)->(∀p∈s.aF,p.ok w')->u.ok w'->Calls Tryz.prog 154 #[.slice nb s.aF.length nc,.func (.func 156) #[] #[.pointer (some ⟨c,0,none⟩)]] w' λe w''=>e= .returned (.int .i64 (XF u.xs (s.aF.map ax.xs)))/\Ext w' w'':=λw' c nb nc h1 h2 h3 h4=>Tz w' u c h4 h1 nb nc s.aF h2 h3 hl;refine zzF Tryz.func130 (yZ 2 ρ) ρ [.lp 0 0 0 0,.c u.val] (kG c s vl) (((iQ s.aF).and (bX u)).and (l8 w F)) 5 h.abs ?_;unfold aS;cases hf:J5 u.xs (s.aF.map ax.xs) 0 with
 |some k=>
  have hz:XF u.xs (s.aF.map ax.xs)=k:=by unfold XF;rw[hf]
  rw[hz]at hix;repeat' ((conv=>whnf)<;>first|(show aJ _ 154 ..;(refine aR (f:=154) Tryz.call154 (.int .i64 k) (λρ w' hw=>by obtain⟨c,e,hc⟩:=XB (d:=5) hw aj;exact Ai e (hix w' c (ρ 3).base (ρ 3).cap hc (eZ hw aj) (ae hw λR h=>λp hp=>dw (hs p hp) (h.1.1 p hp)) (ae hw λR h=>dw hu h.1.2))) ?_))|(show @iG _ _ _;refine jc aa ?_)|refine a_ ?_)
  all_goals(conv=>whnf)
  all_goals exact lH _ _ _ _ () [] trivial ay rfl rfl rfl rfl fE (λR w' h=>⟨h.2,trivial⟩)
 |none=>
  have hz:XF u.xs (s.aF.map ax.xs)= -1:=by unfold XF;rw[hf]
  rw[hz]at hix;repeat' ((conv=>whnf)<;>first|(show aJ _ 154 ..;(refine aR (f:=154) Tryz.call154 (.int .i64 (-1)) (λρ w' hw=>by obtain⟨c,e,hc⟩:=XB (d:=5) hw aj;exact Ai e (hix w' c (ρ 3).base (ρ 3).cap hc (eZ hw aj) (ae hw λR h=>λp hp=>dw (hs p hp) (h.1.1 p hp)) (ae hw λR h=>dw hu h.1.2))) ?_))|(show @iG _ _ _;refine gJ ay ?_)|(show cO _ 4 ..;refine mV [12] _ aja ?_ (h6:=aei _ (aei _ (aei _ (aei _ (aej _ (af7 _)))))))|(show mW ..;(first|refine ed (aej _ (aej _ (af7 _))) (λ_ _ h=>h) ?_|refine ed (aej _ (aei _ (aei _ (aei _ (aei _ (aej _ (af7 _))))))) (λ_ _ h=>h) ?_|refine ed (af7 _) (λ_ _ h=>h) ?_))|refine zT ?_|(show jv ..;(refine fU (by show(s.aF.length+1)*24<=140737488355328;omega) ?_))|(show qN _ ((_,.rows (List.take s.aF.length _++_) _ _)::_) _ _ _;refine uM (ys:=bA (s.aF++[u])) (m:=(s.aF++[u]).length) ?_ (Vk s.aF u) (by show s.aF.length+1=_;rw[adx];rfl))|refine a_ ?_)
  all_goals(conv=>whnf)
  all_goals exact lH _ _ _ _ () [(3,some 7)] trivial ay rfl rfl rfl rfl fE (λR w' h=>⟨h.2,trivial⟩)
section
variable {H:Heap} {S:bR} {nx:Nat} {K:SV->Heap->bR->Nat->Prop}
theorem uC{cx:Cx}{f:FuncId}{args:List SV}{α:Type}(θ:Map)(c:fT)(s:fu)(vl:List Int)(A:bR)(Ef:List SV)(val:α->SV)(s':α->fu)(D:α->bR)(p:α->Prop)
 (hf:∀ar w,(callFunc f ar).run cx.P w= .ok (.enter f ar) w) (hm:BM 0 θ (kG c s vl)=true) (hin:lI θ H (kG c s vl))
 (h0:∃j,θ.app 0=some j) (h1:∃j,θ.app 1=some j) (ha:args=SV.xY θ.app Ef) (hA:∀R w,S.holds R w->A.holds R w) (G:Nat->Prop) (hG:∀R w,S.holds R w->∀b,G b->R b)
 (hc:∀w ρ F,qF w ρ F 2 5 (kG c s vl) A->Calls cx.P f (SV.dW ρ Ef).toArray w (Dy w ρ F val (λx=>kG c (s' x) vl) D p))
 (h:∀x,p x->K ((val x).ren (BN 2 nx θ)) (yQ θ (kG c s vl) H++Vj (BN 2 nx θ) (kG c (s' x) vl)) (S.and ((D x).off G)) (nx+5)):aJ cx f args H S nx K:=by
 refine Xv θ 2 5 (kG c s vl) A Ef val (λx=>kG c (s' x) vl) D p hf hm rfl hin (λi hi=> ?_) ay ha hA G hG hc h;have:i=0\/i=1:=by omega
 rcases this with rfl|rfl
 ·obtain⟨j,hj⟩:=h0;exact⟨j,_,hj,aj⟩
 ·obtain⟨j,hj⟩:=h1;exact⟨j,_,hj,aj⟩
theorem OL{i n:Nat}(xs:List Int){R0:List (List Value)}{T:TypeId}(G:Nat->Prop)(hG:∀R w,S.holds R w->∀b,G b->R b)(he:R0=aZ xs)(hn:n=xs.length)(hf:∀x∈xs,i64 x)(hl:xs.length<=1000000)(h:∀u:ax,u.xs=xs->u.bF->K (.c u.val) H (S.and ((bX u).off G)) nx):qN (.os i n) ((i,.rows R0 1 T)::H) S nx K:=by
 subst he hn;exact aio G hG (λl hc=>h ⟨l.base,l.cap,xs⟩ rfl ⟨hf,by simpa[aP]using hc,hl⟩)
theorem Sn(n:Nat):List.replicate n [Value.int .i64 0]=aZ (List.replicate n 0):=by unfold aZ;simp
theorem abb(n:Nat):∀x∈List.replicate n (0:Int),i64 x:=λx hx=>by
 rw[(anB.1 hx).2];unfold i64;omega
def zeroV(s:fu)(u:ax)(x:Int):fu:=eH (aS s u).1 5 x 0 (aS s u).2
theorem uf(s:fu)(u:ax):(aS s u).1.code=s.code:=by
 unfold aS;split<;>rfl
theorem We(c:fT)(s:fu)(vl:List Int)(x:Int)(hn:c.aA<=4096)(hs:∀p∈s.aF,p.bF)(hl:s.aF.length<=1000000)(hcl:s.code.length<=1000000)(w:World)(ρ:Nat->SX.Loc)(F:Nat->Prop)(h:qF w ρ F 2 5 (kG c s vl) (iQ s.aF)):
 Calls Tryz.prog 74 (SV.dW ρ [.lp 0 0 0 0,aC x]).toArray w (Dy w ρ F (λ_:ax=>aC s.code.length) (λu=>kG c (zeroV s u x) vl) (λu=>bX u) (λu=>u.xs=List.replicate c.aA 0/\u.bF)):=by
 refine zzF Tryz.func74 (yZ 2 ρ) ρ [.lp 0 0 0 0,aC x] (kG c s vl) ((iQ s.aF).and (l8 w F)) 5 h.abs ?_;repeat' ((conv=>whnf)<;>first|(show pg ..;(refine lD c.aA rfl rfl mE aa ?_))|(show qN _ ((_,.rows (List.replicate _ _) _ _)::_) _ _ _;refine OL (List.replicate c.aA 0) (iV w F) (λR w' h b hb=>(h.2 b hb).1) (Sn _) aI (abb _) fK (λu hu iL=> ?_))|(show aJ _ 130 ..;(refine uC [(0,some 0),(1,some 1),(2,some 2),(3,some 3),(4,some 4)] c s vl ((iQ s.aF).and (bX u)) [.lp 0 0 0 0,.c u.val] _ _ _ _ Tryz.call130 rfl fE ⟨_,rfl⟩ ⟨_,rfl⟩ rfl (λR w' h=>⟨h.1.1,qX h.2⟩) (iV w F) (λR w' h b hb=>(h.1.2 b hb).1) (λw' ρ' F' h'=>vO c s vl u iL hs hl w' ρ' F' h') (λ_ _=> ?_)))|(show aJ _ 68 ..;(refine uC [(0,some 0),(1,some 1),(2,some 8),(3,some 9),(4,some 10)] c (aS s u).1 vl iK [.lp 0 0 0 0,aC 5,aC x,aC 0,aC (aS s u).2] _ _ _ _ Tryz.call68 rfl fE ⟨_,rfl⟩ ⟨_,rfl⟩ rfl (λR w' h=>trivial) (iV w F) (λR w' h b hb=>(h.1.1.2 b hb).1) (λw' ρ' F' h'=>gQ c (aS s u).1 vl 5 x 0 (aS s u).2 (by rw[uf];exact hcl) w' ρ' F' h') (λ_ _=> ?_)))|refine a_ ?_)
 all_goals(conv=>whnf)
 all_goals exact lH _ _ _ _ u [(2,some 13),(3,some 14),(4,some 15)] ⟨hu,iL⟩ ay (by rw[uf];rfl) rfl rfl rfl fE (λR w' h=>⟨h.1.1.1.2,h.1.1.2⟩)
end
section
theorem Ll{f:Nat->Int}:∀{l:List Int} {e:Nat} {row:List Int},(l9 f l e row).length=row.length
 |[],_,_=>rfl
 |s::r,e,row=>by
  unfold l9;rw[Ll,ajc]
theorem RH{f:Nat->Int}{s:Int}:∀{l:List Int} {e:Nat} {row:List Int},l9 f (l++[s]) e row=(l9 f l e row).set s.toNat (f (e+l.length))
 |[],e,row=>rfl
 |x::r,e,row=>by
  rw[amJ];unfold l9;rw[RH,ahN]
  congr 2;omega
theorem Yk{f:Nat->Int}:∀{l:List Int} {e:Nat} {row:List Int},(∀x∈row,i64 x)->(∀k,k<e+l.length->i64 (f k))->∀x∈l9 f l e row,i64 x
 |[],_,_,h,_=>h
 |s::r,e,row,h,hf=>by
  unfold l9;refine Yk (λx hx=> ?_) (λk hk=>hf k EA);rcases anz hx with hx|rfl
  ·exact h x hx
  ·exact hf e EA
theorem ints_set{xs:List Int}{j:Nat}{x:Int}(hj:j<xs.length){K:List (List Value)->Prop}(h:K (aZ (xs.set j x))):dH (aZ xs) j 0 [.int .i64 x] K:=by
 refine jq _ (eO hj) kQ ?_;have e:aZ (xs.set j x)=(aZ xs).set j (cB [.int .i64 xs[j]] 0 [.int .i64 x]):=by
  unfold aZ;rw[alq]
  rfl
 rw[<-e];exact h
variable {H:Heap} {w:World} {cells:List Value}
theorem agm{B:Base}{ρ:Nat->SX.Loc}{nx:Nat}{S:bR}{d:Nat}{T:TypeId}(hw:dO B ρ nx H S w)(hd:(d,b_.box (cs cells) T)∈H):∃b,(SV.lp d 0 0 0).rf ρ= .pointer (some ⟨b,0,none⟩)/\w.heap[b]? =some (.cells cells.toArray T (0,0)):=by
 obtain⟨R,φ,lF⟩:=hw;obtain⟨b,h1,h2,h3⟩:=lF.jA _ hd;simp only at h1;rw[mF]at h3;exact⟨b,by simp[SV.rf,h1,fG],h3⟩
theorem ahq{P:Program}{f:FuncId}{u v:Value}{Q:Ending->World->Prop}{b:Nat}(e:v= .pointer (some ⟨b,0,none⟩))(h:Calls P f #[u,.pointer (some ⟨b,0,none⟩)] w Q):Calls P f #[u,v] w Q:=e▸h
theorem aci(θ:Nat->Option Nat):∀l:List Value,SV.xY θ (cs l)=cs l
 |[]=>rfl
 |v::r=>by
  show SV.ren θ (.c v)::SV.xY θ (cs r)= .c v::cs r;rw[aci θ r];rfl
theorem U8(n:Nat):∀l:List Value,SV.DW n (cs l)=true
 |[]=>rfl
 |v::r=>by
  show(SV.bnd n (.c v)&&SV.DW n (cs r))=true;rw[U8 n r];rfl
def wJ(c:fT):bR:=(f_ c.di.base 1 (bA c.di.l)).and (iQ c.di.l)
def kC(c:fT)(s:fu)(vl:List Int)(cells:List Value)(Tb:TypeId):Heap:=kG c s vl++[(5,.box (cs cells) Tb)]
theorem Tp(c:fT)(s:fu)(vl:List Int)(cells:List Value)(Tb:TypeId):uP 6 (kC c s vl cells Tb)=true:=by
 simp[kC,kG,ZK,uP,b_.bnd,SV.DW,SV.bnd,U8,Nat.ble];decide
theorem Y0(c:fT)(s:fu)(vl:List Int)(cells:List Value)(Tb:TypeId)(xs:List (List Value))(T:TypeId):uP 7 ((6,.rows xs 1 T)::kC c s vl cells Tb)=true:=by
 simp[kC,kG,ZK,uP,b_.bnd,SV.DW,SV.bnd,U8,Nat.ble];decide
variable {θ:Nat->Option Nat} {Tb:TypeId} {i:Nat}
theorem Me(h:(i,b_.box (cs cells) Tb)∈H):(i,(b_.box (cs cells) Tb).ren θ)∈H:=by
 show(i,b_.box (SV.xY θ (cs cells)) Tb)∈H;rw[aci];exact h
theorem aer(a:Nat)(l:SX.Loc):∀c:List Value,SV.fzs a l (cs c)=cs c
 |[]=>rfl
 |v::r=>by
  show SV.fz a l (.c v)::SV.fzs a l (cs r)= .c v::cs r;rw[aer a l r];rfl
theorem akf{a:Nat}{l:SX.Loc}(h:(i,b_.box (SV.fzs a l (cs cells)) Tb)∈H):(i,(b_.box (cs cells) Tb).ren θ)∈H:=by
 rw[aer]at h;exact Me h
theorem ZX(c:fT)(s:fu)(vl:List Int)(g:FuncId)(cells:List Value)(Tb:TypeId)(i:Nat)(f:Nat->Int)(E:bR)(sp:ax)(hn:c.aA<=4096)(hs:∀p∈s.aF,p.bF)(hl:s.aF.length<=1000000)(hi:c.di.l[i]? =some sp)(Py:sp.bF)(hb:∀x∈sp.xs,0<=x/\x<c.aA)(hff:∀e,e<sp.xs.length->i64 (f e))
 (hg:∀ar w,(callFunc g ar).run Tryz.prog w= .ok (.enter g ar) w)
 (hof:∀R w' b (e:Nat),e<sp.xs.length->w'.heap[b]? =some (.cells cells.toArray Tb (0,0))->E.holds R w'->Calls Tryz.prog g #[.int .i64 e,.pointer (some ⟨b,0,none⟩)] w' λen w''=>en= .returned (.int .i64 (f e))/\Ext w' w'')
 (w:World) (ρ:Nat->SX.Loc) (F:Nat->Prop) (h:qF w ρ F 2 6 (kC c s vl cells Tb) (((iQ s.aF).and (wJ c)).and E)):
 Calls Tryz.prog 69 (SV.dW ρ [.lp 0 0 0 0,aC i,.fn (.func g) [] [.lp 5 0 0 0]]).toArray w (L6 w ρ F 2 6 (λu:ax=>aC (aS s u).2) (λu=>kC c (aS s u).1 vl cells Tb) (λu=>bX u) (λu=>u.xs=bU c.aA sp.xs f/\u.bF)):=by
 refine zzF Tryz.func69 (yZ 2 ρ) ρ [.lp 0 0 0 0,aC i,.fn (.func g) [] [.lp 5 0 0 0]] (kC c s vl cells Tb) ((((iQ s.aF).and (wJ c)).and E).and (l8 w F)) 6 h.abs ?_;have hil:=(abH.1 hi).1;have hrow:(bA c.di.l)[i]? =some [sp.val]:=by unfold bA;rw[ab5,hi];rfl
 refine Wp.know (p:=∃a,c.di.base=some a) (λρ w' hw=>ae hw λR h=>aT (j:=i) (bf h.1.1.2.1) FR) ?_;rintro⟨sa,hsa⟩;repeat' ((conv=>whnf)<;>first|(show pg ..;(refine lD c.aA rfl rfl mE aa ?_))|(show dn ..;refine aM sa i hsa rfl hil ?_)|(show gZ ..;(refine bN (λR w' h=>by rw[<-hsa];exact bf h.1.1.2.1) _ _ hrow rfl ?_))|refine a_ ?_)
 refine Wp.loop (σ:=Nat) 7 (λe=>[(0,.lp 0 0 0 0),(2,.fn (.func g) [] [.lp 5 0 0 0]),(7,.os 6 c.aA),(22,.c sp.val),(23,aC sp.xs.length),(24,aC e)]) (λe=>(6,.rows (aZ (l9 f (sp.xs.take e) 0 (List.replicate c.aA 0))) 1 3)::kC c s vl cells Tb) (λ_=>(((iQ s.aF).and (wJ c)).and E).and (l8 w F)) (λe=>e<=sp.xs.length) (λe=>sp.xs.length-e) 0 [] ay (λe=>⟨rfl,Y0 _ _ _ _ _ _ _⟩)
  (aae _) ⟨rfl,⟨rfl,rfl,rfl,rfl,rfl,rfl,trivial⟩,⟨?_,aj,aj,aj,aj,aj,Me aj,trivial⟩,λR w' h=>h⟩ ?_
 ·show(6,b_.rows (aZ (List.replicate c.aA 0)) 1 3)∈_;rw[<-Sn];exact aj
 rintro e he;have hrl:(l9 f (sp.xs.take e) 0 (List.replicate c.aA 0)).length=c.aA:=by rw[Ll,aiS]
 by_cases hlt:e<sp.xs.length
 ·have htk:sp.xs.take (e+1)=sp.xs.take e++[sp.xs[e]]:=by rw[List.take_add_one,YL hlt];rfl
  have hsn:l9 f (sp.xs.take (e+1)) 0 (List.replicate c.aA 0)=(l9 f (sp.xs.take e) 0 (List.replicate c.aA 0)).set sp.xs[e].toNat (f e):=by
   rw[htk,RH,aek,ajY aa,aiD]
  have hbe:=hb _ (aby hlt);have hxg:sp.xs.getD e 0=sp.xs[e]:=by rw[TR,YL hlt];rfl
  have ug:=Py.few;generalize sp.xs[e]=z at*;generalize l9 f (sp.xs.take e) 0 (List.replicate c.aA 0)=row at*;refine Wp.know (p:=∃a,sp.base=some a) (λρ w' hw=>ae hw λR h=>aT (j:=e) (bf (h.1.1.2.2 sp (adu hi))) (by rw[aP];exact hlt)) ?_;rintro⟨pa,Gm⟩;repeat' ((conv=>whnf)<;>first|(show dn ..;refine aM pa e Gm rfl hlt ?_)|(show gZ ..;(refine qQ (λR w' h=>by rw[<-Gm];exact bf (h.1.1.2.2 sp (adu hi))) (j:=e) hlt hxg ?_))|(show aJ _ g ..;refine aR (f:=g) hg (.int .i64 (f e)) (λρ w' hw=>by obtain⟨b,eb,hbh⟩:=agm (d:=5) hw aj;exact ahq eb (ae hw λR h=>hof R w' b e hlt hbh h.1.2)) ?_)|(show eP ..;(refine bY z.toNat aa aa (by rw[aP,hrl];exact Tw _) ?_))|(show dH ..;refine ints_set aa ?_)|refine a_ ?_|refine ag ?_ ?_<;>intro _)
  all_goals(conv=>whnf)
  all_goals exact⟨e+1,[],hlt,by omega,rfl,fE,⟨by rw[hsn];exact aj,aj,aj,aj,aj,aj,Me aj,trivial⟩,λR w' h=>h⟩
 ·obtain rfl:e=sp.xs.length:=by omega
  rw[List.take_length]at hrl;repeat' ((conv=>whnf)<;>first|fail)
  all_goals(conv=>whnf)
  have ajo:∀x∈l9 f (sp.xs.take sp.xs.length) 0 (List.replicate c.aA 0),i64 x:=by
   rw[List.take_length];exact Yk (abb _) (λk hk=>hff k aa)
  refine Wp.abR 6 (iV w F) (k:=1) (xs:=aZ (l9 f (sp.xs.take sp.xs.length) 0 (List.replicate c.aA 0))) (T:=3) aj (λR w' h b hb=>(h.2 b hb).1) (λfl hfl=> ?_);rw[List.take_length]at ajo hfl|-
  rw[aP,hrl]at hfl;obtain⟨u,hu⟩:∃u:ax,u=⟨fl.base,fl.cap,l9 f sp.xs 0 (List.replicate c.aA 0)⟩:=⟨_,rfl⟩;have hux:u.xs=l9 f sp.xs 0 (List.replicate c.aA 0):=by rw[hu]
  have iL:u.bF:=⟨by rw[hux];exact ajo,by rw[hux,hrl,hu];exact hfl,by rw[hux,hrl];omega⟩;have huv:Value.slice fl.base c.aA fl.cap=u.val:=by rw[hu];show _=Value.slice _ (l9 f sp.xs 0 (List.replicate c.aA 0)).length _;rw[hrl]
  have rO:∀{R:Nat->Prop} {w':World},((f_ fl.base 1 (aZ (l9 f sp.xs 0 (List.replicate c.aA 0)))).off (iV w F)).holds R w'->((bX u).off (iV w F)).holds R w':=λh=>by rw[hu];exact h
  repeat' ((conv=>whnf)<;>first|(show aJ _ 130 ..;(refine uC [(0,some 0),(1,some 1),(2,some 2),(3,some 3),(4,some 4)] c s vl ((iQ s.aF).and (bX u)) [.lp 0 0 0 0,.c u.val] _ _ _ _ Tryz.call130 rfl fE ⟨_,rfl⟩ ⟨_,rfl⟩ (by rw[<-huv];rfl) (λR w' h=>⟨h.1.1.1.1,qX (rO h.2)⟩) (iV w F) (λR w' h b hb=>(h.1.2 b hb).1) (λw' ρ' F' h'=>vO c s vl u iL hs hl w' ρ' F' h') (λ_ _=> ?_)))|refine a_ ?_|refine ag ?_ ?_<;>intro _)
  all_goals(conv=>whnf)
  all_goals exact lH _ _ _ _ u [(2,some 9),(3,some 10),(4,some 11)] ⟨hux,iL⟩ ay rfl rfl (Tp _ _ _ _ _) rfl ⟨aj,aj,aj,aj,aj,akf (a:=6) (l:=fl) aj,trivial⟩ (λR w' h=>⟨h.1.1.2,rO h.1.2⟩)
end
open Go.Maps Go.Shelf
section
def aa4(F:Fence)(n:Nat)(g:Nat)(lb:Array Value)(S:List Int->Prop)(N:Nat)(w:World):Prop:=
 ∀(l:Nat) (J:List Int->World->Prop) (W:World),Below w.heap.size w W->(∀pre W1,J pre W1->Below w.heap.size w W1)->
  (∀pre x W1,J pre W1->pre.length<N->YieldAt F (n-1) Tryz.prog l #[(Value.int .i64 x)] W1 λe W'=>e= .returned (.bool true)/\J (pre++[x]) W'/\KeepsWalks W1 W')->
  J [] W->CallsIn F n Tryz.prog g (#[.func (.yield l) #[] #[]]++lb) W λe W'=>(∃v,e= .returned v)/\∃xs,S xs/\J xs W'
def apAssign:Code:=(Code.region 2 #[{dst:=some 5,op:=Op.assign (Operand.tmp 7),type:=3,pos:= "iter.go:51",after:= #[],guard:=none}] false)
def apBody:Code:=(Code.block 1 (Code.region 3 #[{dst:=some 8,op:=Op.load 32 (Operand.tmp 2),type:=32,pos:= "iter.go:52",after:= #[],guard:=none},{dst:=some 9,op:=Op.move (Operand.tmp 5),type:=3,pos:= "iter.go:52",after:= #[],guard:=none},{dst:=some 10,op:=Op.buildSlice 32 1 #[(0,Operand.tmp 9)],type:=32,pos:= "iter.go:52",after:= #[{on:=1,ground:=Ground.data}],guard:=none},{dst:=some 11,op:=Op.call {callee:=Callee.builtin Builtin.append,args:= #[Operand.tmp 8,Operand.tmp 10],argTypes:= #[32,32]},type:=32,pos:= "iter.go:52",after:= #[{on:=0,ground:=Ground.data},{on:=2,ground:=Ground.data}],guard:=none},{dst:=none,op:=Op.store 32 (Operand.tmp 2) (Operand.tmp 11),type:=0,pos:= "iter.go:52",after:= #[{on:=3,ground:=Ground.data},{on:=3,ground:=Ground.chain},{on:=0,ground:=Ground.phase},{on:=1,ground:=Ground.phase},{on:=2,ground:=Ground.phase},{on:=3,ground:=Ground.phase}],guard:=none}] false))
def apRec(fn:FuncId)(sv:Value)(Bs D:Nat)(st:LoopState)(pend:Option Code):Loop:=
 {state:=st,pending:=pend,fn,tmps:= #[.slice none 0 0,sv,.pointer (some ⟨Bs,0,none⟩),undef,.slice none 0 0,undef,sv,undef,undef,undef,undef,undef,undef],params:= #[7],assign:=apAssign,body:=apBody,defers:=D}
structure ApAt(w0:World)(fn:FuncId)(sv:Value)(Bs l D:Nat)(ss:List Int)(W:World):Prop where
 box:∃v,W.heap[Bs]? =some (.cells #[v] 32 (0,0))/\W.ownsRow w0.heap.size 3 1 v ss.length (ss.map (Value.int .i64))/\(v= .slice none 0 0↔ss=[])
 L:W.heap[l]? =some (.loop (apRec fn sv Bs D .ready none))
 K:W.heap[D]? =some (.deferred (some []))
 below:Below w0.heap.size w0 W
theorem lT(W:World)(l:Nat)(o:Obj):W.grownBy (W.putObj l o) (some l):=
 ⟨rfl,rfl,rfl,by simp,λk _ hk=>World.putObj_heap_other (λe=>hk (by rw[e]))⟩
theorem Jt(W:World)(b:Nat)(v:Value):W.grownBy (W.setCell ⟨b,0,none⟩ v) (some b):=
 ⟨rfl,rfl,rfl,(KeepsWalks.setCell W _ v).size,λk _ hk=>Below.heap_setCell _ _ _ k (λe=>hk (by rw[e]))⟩
variable {W:World} {base size k:Nat} {v:Value} {xs:List Value}
theorem sJ{e:TypeId}(h:W.ownsRow base e size v k xs){j:Nat}{o:Obj}(hj:W.heap[j]? =some o)(hno:∀cur,o≠.cells cur e (0,0)):
 v.ownBlock=none\/v.ownBlock≠some j:=by
 rcases h.2 with⟨rfl,_⟩|⟨g,cap,cur,rfl,_,hgb,_⟩
 ·exact .inl rfl
 ·refine .inr λe'=> ?_;have:g=j:=by simpa[Value.ownBlock]using e'
  subst this;rw[hgb]at hj;cases hj;exact hno cur rfl
variable {B:Nat} {t:TypeId}
theorem BI(h:W.heap[B]? =some (.cells #[v] t (0,0))):W.cell? ⟨B,0,none⟩=some v/\W.frozen? ⟨B,0,none⟩=false:=by
 constructor<;>simp[World.cell?,World.frozen?,h]
theorem Kq(v':Value)(h:W.heap[B]? =some (.cells #[v] t (0,0))):(W.setCell ⟨B,0,none⟩ v').heap[B]? =some (.cells #[v'] t (0,0)):=by
 obtain⟨hlt,hk⟩:=alu.1 h;show(W.heap.modify B _)[B]? =_;rw[Array.getElem?_eq_getElem (by rw[Array.size_modify];exact hlt),Array.getElem_modify_self,hk]
 rfl
theorem I9{e:TypeId}(h:W.ownsRow base e size v k xs):∀(j:Nat) (o:Obj),v.ownBlock=some j->W.heap[j]? =some o->o.isWalk=false:=by
 intro j o hj ho;rcases h.2 with⟨rfl,_⟩|⟨g,cap,cur,rfl,_,hgb,_⟩
 ·simp[Value.ownBlock]at hj
 ·have:g=j:=by simpa[Value.ownBlock]using hj
  subst this;rw[hgb]at ho;cases ho;rfl
theorem ab1:(Tryz.prog.info? 3).map (λi=>(i.zero,i.size,i.bytes))=some (some (.int .i64 0),1,8):=by kernel_rfl
theorem apYield(F:Fence)(m:Nat)(w0:World)(fn:FuncId)(hfn:F.fn fn)(sv:Value)(Bs l D:Nat)(hBl:Bs≠l)(hDl:D≠l)(hDB:D≠Bs)(h0B:w0.heap.size<=Bs)(h0l:w0.heap.size<=l)
 (N:Nat) (hN:N<=maxLen) (hNb:N*8<=140737488355328) (ss:List Int) (x:Int) (W:World) (h:ApAt w0 fn sv Bs l D ss W) (hlen:ss.length<N):
 YieldAt F m Tryz.prog l #[(Value.int .i64 x)] W λe W'=>e= .returned (.bool true)/\ApAt w0 fn sv Bs l D (ss++[x]) W'/\KeepsWalks W W':=by
 obtain⟨i0,hi,hz0,hz1,hz2⟩:=info_parts ab1;obtain⟨v,hv,hrow,_⟩:=h.box;refine⟨fn,#[.slice none 0 0,sv,.pointer (some ⟨Bs,0,none⟩),undef,.slice none 0 0,undef,sv,(Value.int .i64 x),undef,undef,undef,undef,undef],apAssign,apBody,by simpa[apRec]using run_yield (P:=Tryz.prog) (args:= #[(Value.int .i64 x)]) h.L rfl,roundIn_of_wpIn hfn ?_⟩;have hl:l<W.heap.size:=(alu.1 h.L).1;have hbr:=run_beginRound (P:=Tryz.prog) h.L rfl;obtain⟨W2,hW2⟩:∃W2,W.putObj l (.loop {apRec fn sv Bs D .ready none with state:= .busy})=W2:=⟨_,rfl⟩;rw[hW2]at hbr;have hg2:W.grownBy W2 (some l):=by rw[<-hW2];exact lT _ _ _
 have hk2:KeepsWalks W W2:=by rw[<-hW2];exact KeepsWalks.putObj _ h.L rfl
 have hv2:W2.heap[Bs]? =some (.cells #[v] 32 (0,0)):=by rw[<-hW2];exact(World.putObj_heap_other hBl).trans hv
 have hK2:W2.heap[D]? =some (.deferred (some [])):=by rw[<-hW2];exact(World.putObj_heap_other hDl).trans h.K
 have hL2:W2.heap[l]? =some (.loop {apRec fn sv Bs D .ready none with state:= .busy}):=by rw[<-hW2];exact World.putObj_heap_same hl
 have hrow2:W2.ownsRow w0.heap.size 3 1 v ss.length (ss.map (Value.int .i64)):=hrow.kept hg2 (sJ hrow h.L (λcur e=>by cases e));have hb2:Below w0.heap.size w0 W2:=h.below.grown hg2 h.below.size (λk e=>by cases e;exact h0l);obtain⟨hc2,hf2⟩:=BI hv2;have hBlt:Bs<W2.heap.size:=(alu.1 hv2).1;have hl2:l<W2.heap.size:=(alu.1 hL2).1;have hDlt:D<W2.heap.size:=(alu.1 hK2).1;have ne_of:∀{j:Nat} {o:Obj},W2.heap[j]? =some o->(∀cur,o≠.cells cur 3 (0,0))->some j≠v.ownBlock:=λhj hno=>by
  rcases sJ hrow2 hj hno with e|e
  ·rw[e];simp
  ·exactλe'=>e e'.symm
 clear hW2;unfold apAssign
 gi_wp2_with (rw[Oper.semAt_eq _ _ _ (λc h=>by cases h)];go_simp;try go_bits)
 unfold apBody
 gi_wp2_with (first
  |(gi_at_builtin;refine wpListIn_append_own _ rfl _ _ 32 rfl w0.heap.size 3 i0 (.int .i64 0) 1 8 Tryz.underlying32 hi hz0 hz1 hz2 rfl ay _ _ _ rfl (hrow2.alloc _) ⟨W2.heap.size,0,none⟩ 1 1 [(Value.int .i64 x)] rfl rfl (cell_one_new _ _ _) (by simp[Value.oneCell']) aa aa (by have:=hb2.size;simp;omega) ?_;intro v' w3 hown' hg3 hnil3
    have hv3:w3.heap[Bs]? =some (.cells #[v] 32 (0,0)):=(hg3.block Bs fK (ne_of hv2 (λcur e=>by cases e))).trans ((Below.heap_alloc _ _ Bs hBlt).trans hv2);obtain⟨hc3,hf3⟩:=BI hv3;obtain⟨g',cap',cur',rfl,hbase',hgb',hr1,hr2,hr3,hr4⟩:∃g' cap' cur',v'= .slice (some ⟨g',0,none⟩) (ss.length+1) cap'/\w0.heap.size<=g'/\w3.heap[g']? =some (.cells cur' 3 (0,0))/\ss.length+1<=cap'/\cap'<=maxLen/\cur'.size=cap'*1/\cur'.toList.take ((ss.length+1)*1)=ss.map (Value.int .i64)++[(Value.int .i64 x)]:=by
     rcases hown'.2 with⟨_,h0⟩|h'
     ·exact absurd h0 aa
     ·exact h'
    simp only[Act.put,List.setIfInBounds_toArray,List.set_cons_succ,List.set_cons_zero])
  |(rw[Oper.semAt_eq _ _ _ (λc h=>by cases h)];go_simp;try go_bits))
 have hg3':(W2.alloc (.cells #[(Value.int .i64 x)] 3)).grownBy w3 v.ownBlock:=hg3;have hL3:w3.heap[l]? =some (.loop {apRec fn sv Bs D .ready none with state:= .busy}):=(hg3'.block l fK (ne_of hL2 (λcur e=>by cases e))).trans ((Below.heap_alloc _ _ l hl2).trans hL2);have hK3:w3.heap[D]? =some (.deferred (some [])):=(hg3'.block D fK (ne_of hK2 (λcur e=>by cases e))).trans ((Below.heap_alloc _ _ D hDlt).trans hK2);obtain⟨w4,hw4⟩:∃w4,w3.setCell ⟨Bs,0,none⟩ (.slice (some ⟨g',0,none⟩) (ss.length+1) cap')=w4:=⟨_,rfl⟩;rw[hw4];have hg4:w3.grownBy w4 (some Bs):=by rw[<-hw4];exact Jt _ _ _
 have hv4:w4.heap[Bs]? =some (.cells #[.slice (some ⟨g',0,none⟩) (ss.length+1) cap'] 32 (0,0)):=by rw[<-hw4];exact Kq _ hv3
 have hL4:w4.heap[l]? =some (.loop {apRec fn sv Bs D .ready none with state:= .busy}):=(hg4.block l (alu.1 hL3).1 (λe=>hBl (by cases e;rfl))).trans hL3;have hK4:w4.heap[D]? =some (.deferred (some [])):=(hg4.block D (alu.1 hK3).1 (λe=>hDB (by cases e;rfl))).trans hK3;have hrow4:=hown'.kept hg4 (sJ hown' hv3 (λcur e=>by cases e));have hl4:l<w4.heap.size:=(alu.1 hL4).1;have hb3:Below w0.heap.size w0 w3:=(hb2.alloc hb2.size _).grown hg3' (by have:=hb2.size;simp;omega) (λk e=>(hrow2.lt k e).1);have hb4:Below w0.heap.size w0 w4:=hb3.grown hg4 hb3.size (λk e=>by cases e;exact h0B);have hk4:KeepsWalks W w4:=((hk2.trans (KeepsWalks.alloc _ _)).trans (KeepsWalks.of_grownBy hg3' (I9 (hrow2.alloc _)))).trans (by rw[<-hw4];exact KeepsWalks.setCell _ _ _);clear hw4;refine⟨_,_,run_endRound none hL4,rfl,⟨⟨_,(World.putObj_heap_other hBl).trans hv4,?_,by simp⟩,World.putObj_heap_same hl4,(World.putObj_heap_other hDl).trans hK4,hb4.grown (lT _ _ _) hb4.size (λk e=>by cases e;exact h0l)⟩,hk4.trans (KeepsWalks.putObj _ hL4 rfl)⟩;have:=hrow4.kept (lT w4 l (.loop {{apRec fn sv Bs D .ready none with state:= .busy}with state:=if(none:Option Code).isNone then .ready else .done,pending:=none})) (sJ hrow4 hL4 (λcur e=>by cases e));simpa using this
theorem appendSeq_in(F:Fence)(n:Nat)(h11:F.fn 165)(hro:F.round=none)(hn:2<=n)(g:Nat)(lb:Array Value)(hFg:F.fn g)(eg:∀args w,(callFunc g args).run Tryz.prog w= .ok (.enter g args) w)
 (S:List Int->Prop) (N:Nat) (hN:N<=maxLen) (hNb:N*8<=140737488355328) (w:World) (hseq:aa4 F (n-1) g lb S N w):
 CallsIn F n Tryz.prog 165 #[.slice none 0 0,.func (.func g) #[] lb] w λe w'=>∃(v:Value) (ss:List Int),e= .returned v/\S ss/\w'.ownsRow w.heap.size 3 1 v ss.length (ss.map (Value.int .i64))/\(v= .slice none 0 0↔ss=[])/\Below w.heap.size w w':=by
 have h1:1<=n:=by omega
 refine callsIn_of_wp_marks Tryz.func165 rfl h11 ?_ hro;simp only[Tryz.ntmps165,aoc,ahN,amn,Nat.reduceAdd,Nat.reduceSub,aol,aok,List.push_toArray,List.append_toArray,akg,amJ]
 gi_wp2
 refine wpIn_rangeFunc ?_;intro fn hfn;rw[hro];obtain⟨W0,hW0⟩:∃W0,w.alloc (.cells #[.slice none 0 0] 32)=W0:=⟨_,rfl⟩;have hs0:W0.heap.size=w.heap.size+1:=by rw[<-hW0];simp
 have hv0:W0.heap[w.heap.size]? =some (.cells #[.slice none 0 0] 32 (0,0)):=by rw[<-hW0];exact World.alloc_heap_new w _
 have hb0:Below w.heap.size w W0:=by rw[<-hW0];exact(Below.refl _ w).alloc (Tw _) _
 rw[hW0];obtain⟨W1,hW1⟩:∃W1,(W0.alloc (.deferred (some []))).alloc (.loop (apRec fn (.func (.func g) #[] lb) w.heap.size W0.heap.size .ready none))=W1:=⟨_,rfl⟩;have hold:∀k,k<W0.heap.size->W1.heap[k]? =W0.heap[k]? :=λk hk=>by
  rw[<-hW1];exact(Below.heap_alloc _ _ k fK).trans (Below.heap_alloc _ _ k hk)
 have hb1:Below w.heap.size w W1:=by rw[<-hW1];exact(hb0.alloc hb0.size _).alloc (by have:=hb0.size;simp;omega) _
 have hs1:W1.heap.size=W0.heap.size+2:=by rw[<-hW1];simp
 have hM:ApAt w fn (.func (.func g) #[] lb) w.heap.size (W0.heap.size+1) W0.heap.size [] W1:=
  ⟨⟨_,(hold w.heap.size aa).trans hv0,⟨rfl,.inl ⟨rfl,rfl⟩⟩,by simp⟩,
   by rw[<-hW1];have:=World.alloc_heap_new (W0.alloc (.deferred (some []))) (.loop (apRec fn (.func (.func g) #[] lb) w.heap.size W0.heap.size .ready none));rwa[World.size_alloc]at this,
   by rw[<-hW1];exact(Below.heap_alloc _ _ _ aI).trans (World.alloc_heap_new W0 _),hb1⟩
 refine⟨W0.heap.size+1,[{target:= .collected W0.heap.size,args:= #[]}],W1,{target:= .fn (.func g) lb,args:= #[.func (.yield (W0.heap.size+1)) #[] #[]]},W1,g,
  #[.func (.yield (W0.heap.size+1)) #[] #[]]++lb,W1,?_,?_,?_,?_,λ_=>h1,?_⟩
 ·rw[<-hW1];exact run_enterLoop_outer _ _ _ _ _
 ·simp[resolve,go_sem]
 ·intro f' hf';simp[Target.leads]at hf';subst hf';exact hFg
 ·simp[invoke,go_sem,eg]
 ·refine(hseq (W0.heap.size+1) (ApAt w fn (.func (.func g) #[] lb) w.heap.size (W0.heap.size+1) W0.heap.size) W1 hb1 (λ_ _ h=>h.below)
   (λpre x W hJ hl=>apYield F (n-1-1) w fn hfn _ w.heap.size (W0.heap.size+1) W0.heap.size aa aa aa (Tw _) aa N hN hNb pre x W hJ hl) hM).mono ?_
  rintro e W2 ⟨⟨v0,rfl⟩,ss,hS,h2⟩;obtain⟨v,hv,hrow,hnil⟩:=h2.box;have hend:=run_endLoop (P:=Tryz.prog) h2.L (by simp[apRec]);obtain⟨W3,hW3⟩:∃W3,W2.putObj (W0.heap.size+1) (.loop {apRec fn (.func (.func g) #[] lb) w.heap.size W0.heap.size .ready none with state:= .exhausted})=W3:=⟨_,rfl⟩;rw[hW3]at hend;have hg3:W2.grownBy W3 (some (W0.heap.size+1)):=by rw[<-hW3];exact lT _ _ _
  have hv3:W3.heap[w.heap.size]? =some (.cells #[v] 32 (0,0)):=by rw[<-hW3];exact(World.putObj_heap_other aa).trans hv
  have hK3:W3.heap[W0.heap.size]? =some (.deferred (some [])):=by rw[<-hW3];exact(World.putObj_heap_other aa).trans h2.K
  have hrow3:=hrow.kept hg3 (sJ hrow h2.L (λcur e=>by cases e));have hb3:Below w.heap.size w W3:=h2.below.grown hg3 h2.below.size (λk e=>by cases e;omega);obtain⟨hc3,hf3⟩:=BI hv3;clear hW3;refine⟨none,W3,hend,?_⟩
  gi_wp2
  rw[<-hs0];refine⟨by simp,.inl ⟨_,_,rfl,run_takeDeferred hK3,?_⟩⟩;exact⟨_,results_tmp rfl _ _ _,v,ss,rfl,hS,hrow3.kept (lT _ _ _) (sJ hrow3 hK3 (λcur e=>by cases e)),hnil,hb3.grown (lT _ _ _) hb3.size (λk e=>by cases e;omega)⟩
end
attribute [local go_sem] Oper.semAt_some
def upto{α:Type}(f:Nat->α)(k:Nat):List α:=(List.range k).map f
theorem RL{α:Type}(f:Nat->α)(k:Nat):upto f (k+1)=upto f k++[f k]:=by simp[upto,ait]
theorem Yd{α:Type}(f:Nat->α)(k:Nat):(upto f k).length=k:=by simp[upto]
theorem afD(zs:List Int):upto (λj=>zs[j]?.getD 0) zs.length=zs:=by
 apply alQ
 ·simp[upto]
 ·intro i h1 h2;simp[upto,h2]
theorem aaM(F:Fence)(n:Nat)(h7:F.fn 162)(hro:F.round=none)(hn:1<=n)(l Bs n₀ b off len cap:Nat)(zs:List Int)(afx:len*8<=140737488351232)(hb:b<n₀)(J Jx:List Int->World->Prop)
 (hY:∀pre x W,J pre W->pre.length<len->YieldAt F (n-1) Tryz.prog l #[.int .i64 x] W λe W'=>
   (e= .returned (.bool true)/\J (pre++[x]) W'/\Below n₀ W W')\/(e= .returned (.bool false)/\Jx (pre++[x]) W'))
 (W:World) (hBs:W.cell? ⟨Bs,0,none⟩=some (.slice (some ⟨b,off,none⟩) len cap)) (hc:∀j,j<len->W.cell? ⟨b,off+j,none⟩=some (.int .i64 (zs[j]?.getD 0))) (h0:J [] W):
 CallsIn F n Tryz.prog 162 #[.func (.yield l) #[] #[],.pointer (some ⟨Bs,0,none⟩)] W λe W'=>(∃v,e= .returned v)/\
  ((∃ys,ys=upto (λj=>zs[j]?.getD 0) len/\J ys W')\/(∃pre,(∃k,k<=len/\pre=upto (λj=>zs[j]?.getD 0) k)/\Jx pre W')):=by
 refine callsIn_of_wp Tryz.func162 rfl h7 ?_ hro;simp only[Tryz.ntmps162,aoc,ahN,amn,Nat.reduceAdd,Nat.reduceSub,aol,aok,List.push_toArray,List.append_toArray,akg,amJ]
 gi_wp2
 gi_loopw [7] (λi wr=>∃k:Nat,k<=len/\i= .int .i64 k/\J (upto (λj=>zs[j]?.getD 0) k) wr/\Below n₀ W wr)
  (λi _=>len-(intOf i).toNat)
 case atStart=>exact⟨0,aae _,rfl,h0,Below.refl _ _⟩
 case round=>
  obtain⟨k,hk,rfl,hJs,hnx⟩:=hrel;have hcx:k<len->wr.cell? ⟨b,off+k,none⟩=some (.int .i64 (zs[k]?.getD 0)):=λh=>(hnx.cell (p:=⟨b,off+k,none⟩) hb).trans (hc k h);by_cases hlt:k<len
  ·obtain⟨fn,tmps,assign,body,hy,hR⟩:=hY _ (zs[k]?.getD 0) wr hJs (by rw[Yd];exact hlt);have ao4:=hcx hlt
   gi_wp2
   refine hR.mono ?_;rintro e W3 (⟨rfl,hJ3,hk3⟩|⟨rfl,hJx3⟩)
   ·
    gi_wp2
    go_roundw
    case rel=>exact⟨k+1,by omega,by simp,by rw[RL];exact hJ3,hnx.trans hk3⟩
    case measure=>simp[intOf];omega
   ·gi_wp2
    refine bodyPost_ret (results_none rfl _ _ _) rfl ?_;exact⟨⟨_,rfl⟩,.inr ⟨_,⟨k+1,by omega,(RL _ _).symm⟩,hJx3⟩⟩
  ·obtain rfl:k=len:=by omega
   gi_wp2
   go_end0
   exact⟨⟨_,rfl⟩,.inl ⟨_,rfl,hJs⟩⟩
theorem Pf(F:Fence)(n:Nat)(h7:F.fn 162)(hro:F.round=none)(l Bs:Nat)(J:List Int->World->Prop)(W:World)(base:Option Addr)(cap:Nat)(hBs:W.cell? ⟨Bs,0,none⟩=some (.slice base 0 cap))(h0:J [] W):
 CallsIn F n Tryz.prog 162 #[.func (.yield l) #[] #[],.pointer (some ⟨Bs,0,none⟩)] W λe W'=>(∃v,e= .returned v)/\J [] W':=by
 refine callsIn_of_wp Tryz.func162 rfl h7 ?_ hro;simp only[Tryz.ntmps162,aoc,ahN,amn,Nat.reduceAdd,Nat.reduceSub,aol,aok,List.push_toArray,List.append_toArray,akg,amJ]
 gi_wp2
 gi_loopw [7] (λi wr=>i= .int .i64 0/\J [] wr) (λ_ _=>0)
 case atStart=>exact⟨rfl,h0⟩
 case round=>
  obtain⟨rfl,hJs⟩:=hrel
  gi_wp2
  go_end0
  exact⟨⟨_,rfl⟩,hJs⟩
theorem adV{B:Nat}{w a b:World}(h1:Below B w a)(h2:Below B w b)(hs:a.heap.size<=b.heap.size):Below B a b:=
 ⟨h2.os.trans h1.os.symm,h2.tape.trans h1.tape.symm,h2.output.trans h1.output.symm,hs,λk hk=>(h2.block k hk).trans (h1.block k hk).symm⟩
def IntsIn(w:World)(base:Option Addr)(zs:List Int):Prop:=
 zs=[]\/∃b off,base=some ⟨b,off,none⟩/\b<w.heap.size/\∀j,j<zs.length->w.cell? ⟨b,off+j,none⟩=some (.int .i64 (zs[j]?.getD 0))
theorem IntsIn.below{w w':World}{base:Option Addr}{zs:List Int}(h:IntsIn w base zs)(hb:Below w.heap.size w w'):IntsIn w' base zs:=by
 rcases h with h|⟨b,off,h1,h2,h3⟩
 ·exact .inl h
 ·exact .inr ⟨b,off,h1,ahd h2 hb.size,λj hj=>(hb.cell (p:=⟨b,off+j,none⟩) h2).trans (h3 j hj)⟩
theorem Wx(F:Fence)(n:Nat)(h7:F.fn 162)(hro:F.round=none)(hn:1<=n)(Bs:Nat)(base:Option Addr)(cap:Nat)(zs:List Int)(afx:zs.length*8<=140737488351232)(w:World)(hBs:Bs<w.heap.size)
 (hc:w.cell? ⟨Bs,0,none⟩=some (.slice base zs.length cap)) (hI:IntsIn w base zs):
 aa4 F n 162 #[.pointer (some ⟨Bs,0,none⟩)] (λys=>ys=zs) zs.length w:=λl J W hW hJB hY h0=>by
 have hc':=(hW.cell (p:=⟨Bs,0,none⟩) hBs).trans hc;rcases hI with rfl|⟨b,off,rfl,hb,hcs⟩
 ·exact(Pf F n h7 hro l Bs J W base cap hc' h0).mono λe W' ⟨he,hj⟩=>⟨he,_,rfl,hj⟩
 ·refine(aaM F n h7 hro hn l Bs w.heap.size b off zs.length cap zs afx hb J (λ_ _=>False) (λpre x W1 hj hl=> ?_) W hc' (λj hj=>(hW.cell (p:=⟨b,off+j,none⟩) hb).trans (hcs j hj)) h0).mono ?_
  ·obtain⟨fn,tmps,assign,body,hy,hR⟩:=hY pre x W1 hj hl;exact⟨fn,tmps,assign,body,hy,hR.mono λe w' ⟨h1,h2,h3⟩=> .inl ⟨h1,h2,adV (hJB _ _ hj) (hJB _ _ h2) h3.size⟩⟩
  ·rintro e W' ⟨he,⟨ys,rfl,hj⟩|⟨_,_,hf⟩⟩
   ·exact⟨he,_,afD zs,hj⟩
   ·exact hf.elim
theorem XZ{w w':World}{v:Value}{zs:List Int}(h:w'.ownsRow w.heap.size 3 1 v zs.length (zs.map (Value.int .i64))):je w w' v 1 3 (aZ zs):=by
 have hone:∀r∈aZ zs,r.length=1/\∀v∈r,v.oneCell'=true:=λr hr=>by
  obtain⟨x,_,rfl⟩:=abl.1 hr;exact⟨rfl,λv hv=>by rw[afe.1 hv];rfl⟩
 rcases h.2 with⟨rfl,h0⟩|⟨g,cap,cur,rfl,hb,hg,h1,h2,h3,h4⟩
 ·have hz:zs=[]:=ahV h0;subst hz;exact⟨⟨none,0⟩,rfl,λ_=>False,λ_ h=>h.elim,hone,aae _,.inl ⟨rfl,rfl,λ_ h=>h⟩⟩
 ·refine⟨⟨some ⟨g,0,none⟩,cap⟩,by rw[aP],λx=>x=g,λb hbb=>by rw[hbb];exact hb,hone,by rw[aP];exact h1,.inr ⟨g,0,cur,rfl,λ_=>Iff.rfl,hg,by show 0+cap*1<=cur.size;omega,λi r hr j v hv=> ?_⟩⟩;obtain⟨x,hx,rfl⟩:∃x,zs[i]? =some x/\r=[.int .i64 x]:=by
   rw[aZ,ab5]at hr;cases hx:zs[i]? with
   |none=>rw[hx]at hr;cases hr
   |some x=>rw[hx]at hr;exact⟨x,rfl,by simpa using hr.symm⟩
  have hj:j=0:=by
   rcases amm j with h|h
   ·exact h
   ·rw[aiQ AR]at hv;cases hv
  subst hj;have hv':v= .int .i64 x:=by simpa using hv.symm
  subst hv';have hi:i<zs.length:=(abH.1 hx).1;have:=congrArg (λl:List Value=>l[i]?) h4;simp only[Nat.mul_one,aop hi,ab5,hx,amk]at this;rw[aiD,Nat.mul_one,amr,<-amH];exact this
theorem Yc(w:World)(Bs:Nat)(base:Option Addr)(cap:Nat)(zs:List Int)(hl:zs.length<=1000000)(hBs:Bs<w.heap.size)(hc:w.cell? ⟨Bs,0,none⟩=some (.slice base zs.length cap))(hI:IntsIn w base zs):
 Calls Tryz.prog 160 #[.func (.func 162) #[] #[.pointer (some ⟨Bs,0,none⟩)]] w λe w'=>∃v,e= .returned v/\je w w' v 1 3 (aZ zs)/\Ext w w':=by
 refine(callsIn_wide (n:=3)).1 ?_;have hfA:Fence.wide.fn 165:=trivial;have hseq:=Wx Fence.wide 1 trivial rfl (Tw _) Bs base cap zs aa w hBs hc hI;refine callsIn_of_wp Tryz.func160 rfl trivial ?_ rfl;simp only[Tryz.ntmps160,aoc,ahN,amn,Nat.reduceAdd,Nat.reduceSub,aol,aok,List.push_toArray,List.append_toArray,akg,amJ]
 gi_wp2_with (gi_at_call 165;refine(appendSeq_in Fence.wide 2 trivial rfl (Tw _) 162 _ trivial Tryz.call162 _ zs.length (by show zs.length<=9223372036854775807;omega) aa _ hseq).mono ?_;rintro e w' ⟨v,ss,rfl,hS,hrow,hnil,hb⟩)
 go_ret
 subst hS;exact⟨v,rfl,XZ hrow,hb⟩
theorem Y_(w:World)(base:Option Addr)(len cap:Nat):Calls Tryz.prog 152 #[.slice base len cap] w λe w'=>e= .returned (.func (.func 162) #[] #[.pointer (some ⟨w.heap.size,0,none⟩)])/\w'=w.alloc (.cells #[.slice base len cap] 32):=by
 refine(callsIn_wide (n:=1)).1 ?_;refine callsIn_of_wp Tryz.func152 rfl trivial ?_ rfl;simp only[Tryz.ntmps152,aoc,ahN,amn,Nat.reduceAdd,Nat.reduceSub,aol,aok,List.push_toArray,List.append_toArray,akg,amJ]
 gi_wp2
 go_ret
 exact⟨rfl,rfl⟩
section
variable {w:World} {v:Value}
theorem aa7{p:Addr}(h:w.cell? p=some v):p.block<w.heap.size:=by
 unfold World.cell? at h;cases hb:w.heap[p.block]? with
 |none=>simp[hb]at h
 |some o=>exact(alu.1 hb).1
theorem aag{a:Addr}(h:w.cell? a=some v):a=⟨a.block,a.off,none⟩:=by
 obtain⟨b,o,f⟩:=a;cases f with
 |none=>rfl
 |some x=>simp[World.cell?]at h;split at h<;>simp at h
theorem ax.ok.within{u:ax}(h:u.ok w):IntsIn w u.base u.xs:=by
 rcases h.rows with h0|⟨a,ha,hc⟩
 ·exact .inl (ahV (by have:=congrArg List.length h0;rwa[aP]at this))
 ·rcases amm u.xs.length with h1|h1
  ·exact .inl (ahV h1)
  ·have hcell:∀j,j<u.xs.length->w.cell? (a.add j)=some (.int .i64 (u.xs[j]?.getD 0)):=λj hj=>by
    have:=hc j [.int .i64 u.xs[j]] (eO hj) 0 _ rfl;rw[Nat.mul_one,amr]at this;rw[this,YL hj];rfl
   have h2:=hcell 0 h1;have e0:a.add 0=a:=by simp[Addr.add]
   rw[e0]at h2;have ea:=aag h2;have e1:∀j,a.add j=⟨a.block,a.off+j,none⟩:=λj=>by
    rw[ea];simp[Addr.add]
   exact .inr ⟨a.block,a.off,ha.trans (congrArg some ea),aa7 h2,λj hj=>by rw[<-e1];exact hcell j hj⟩
theorem Xk{cx:Cx}{H:Heap}{S:bR}{nx:Nat}{K:SV->Heap->bR->Nat->Prop}(base:Option Addr)(len cap:Nat)(hP:cx.P=Tryz.prog)
 (h:∀Bs:Nat,K (.c (.func (.func 162) #[] #[.pointer (some ⟨Bs,0,none⟩)])) H (S.and ((f_ (some ⟨Bs,0,none⟩) 1 [[.slice base len cap]]).past cx.B.w0.heap.size)) nx):aJ cx 152 [.c (.slice base len cap)] H S nx K:=by
 obtain⟨P,B,n,tb⟩:=cx;simp only at hP;subst hP;refine jU Tryz.call152 (λBs:Nat=> .func (.func 162) #[] #[.pointer (some ⟨Bs,0,none⟩)]) (λBs=>f_ (some ⟨Bs,0,none⟩) 1 [[.slice base len cap]]) (λ_=>True) (λρ w' hw=>(Y_ w' base len cap).mono ?_) (λBs _=>h Bs);rintro e w2 ⟨rfl,rfl⟩;refine⟨w'.heap.size,trivial,rfl,(Below.refl _ w').alloc (Tw _) _,λr hr=> ?_,.inr ⟨w'.heap.size,0,rfl,⟨Tw _,by rw[World.size_alloc];omega⟩,λi r hr j v hv=> ?_⟩⟩
 ·rw[afe.1 hr];exact⟨rfl,λv hv=>by rw[afe.1 hv];rfl⟩
 ·match i,j with
  |0,0=>
   simp at hr;subst hr;simp at hv;subst hv;exact cell_one_new _ _ _ 0 _ rfl
  |i+1,_=>simp at hr
  |0,j+1=>
   simp at hr;subst hr;simp at hv
end
theorem aeu{a:Addr}{S:bR}{K:SV->Prop}{v:Value}(hx:∀R w,S.holds R w->w.cell? a=some v)(h:K (.c v)):gZ a S K:=by rw[Io];exact⟨v,hx,h⟩
structure aY.okB(w:World)(v:aY):Prop where
 rows:bE w v.base 1 (bA v.l)
 each:∀s∈v.l,s.ok w
 few:v.l.length<=1000000
theorem aY.okB.later{w w':World}{R:Nat->Prop}{v:aY}(h:v.okB w)(hb:(aU w).holds R w'):v.okB w':=⟨aH hb h.rows,λs hs=>(h.each s hs).later hb,h.few⟩
theorem Oz(w:World)(u:ax)(hu:u.ok w)(p:Addr)(fb:Option Addr)(fl fc:Nat)(hc:w.cell? p=some (.slice fb fl fc)):Calls Tryz.prog 128 #[u.val,.pointer (some p)] w λe w'=>e= .returned (.bool (decide (u.xs.length≠fl)))/\Ext w w':=by
 refine fH Tryz.func128 [.c u.val,.c (.pointer (some p))] ?_;repeat' ((conv=>whnf)<;>first|(show gZ ..;(refine aeu (λR w' h=>by rw[jE (h _ (iA hc)).2];exact hc) ?_))|(show @iG _ _ _;((refine ag ?_ ?_<;>intro _)))|refine a_ ?_)
 all_goals(conv=>whnf)
 all_goals first|exact bq (λ_ _ h=>h) rfl (decide_eq_true aa)|exact bq (λ_ _ h=>h) rfl (decide_eq_false aa)
def anu(l:List ax)(fl:Nat)(i:Nat):Prop:=∀k,k<i->∀h:k<l.length,l[k].xs.length=fl
theorem U0(w:World)(rv:aY)(hr:rv.okB w)(p:Addr)(fb:Option Addr)(fl fc:Nat)(hc:w.cell? p=some (.slice fb fl fc)):Calls Tryz.prog 154 #[rv.val,.func (.func 128) #[] #[.pointer (some p)]] w λe w'=>(∃k:Int,e= .returned (.int .i64 k)/\(0<=k↔rv.l.any (λu=>decide (u.xs.length≠fl))=true))/\Ext w w':=by
 have hf:=hr.few;refine fH Tryz.func154 [.c rv.val,.c (.func (.func 128) #[] #[.pointer (some p)])] ?_;repeat' ((conv=>whnf)<;>first|refine a_ ?_|refine ag ?_ ?_<;>intro _)
 refine Wp.loop (σ:=Nat) 0 (λi=>[(0,.c rv.val),(1,.c (.func (.func 128) #[] #[.pointer (some p)])),(7,aC rv.l.length),(8,aC i)]) (λ_=>[]) (λ_=>aU w)
  (λi=>anu rv.l fl i) (λi=>rv.l.length-i) 0 [] ay (λs=>⟨rfl,rfl⟩) (λk hk=>absurd hk (ahf k)) ⟨rfl,⟨rfl,rfl,rfl,rfl,trivial⟩,trivial,λ_ _ h=>h⟩ ?_
 intro i hi;by_cases hlt:i<rv.l.length
 ·obtain⟨ra,hra⟩:∃a,rv.base=some a:=aT (j:=i) hr.rows pM;have hou:=hr.each rv.l[i] (aby hlt);by_cases hne:rv.l[i].xs.length=fl
  ·repeat' ((conv=>whnf)<;>first|(show dn ..;refine aM ra i hra rfl hlt ?_)|(show gZ ..;(refine bN (λR w' h=>by rw[<-hra];exact aH h hr.rows) _ _ (fQ hlt) rfl ?_))|(show aJ _ 128 ..;(refine aR (f:=128) Tryz.call128 (.bool false) (λρ w' hw=>by have:=Oz w' rv.l[i] (ae hw λR h=>hou.later h) p fb fl fc (ae hw λR h=>by rw[jE (h _ (iA hc)).2];exact hc);rw[decide_eq_false aa]at this;exact this) ?_))|refine a_ ?_|refine ag ?_ ?_<;>intro _)
   all_goals(conv=>whnf)
   all_goals refine⟨i+1,[],λk hk h=> ?_,by omega,rfl,fE,trivial,λ_ _ h=>h⟩
   rcases ack k i with h1|h1
   ·exact hi k h1 h
   ·obtain rfl:k=i:=by omega
    exact hne
  ·repeat' ((conv=>whnf)<;>first|(show dn ..;refine aM ra i hra rfl hlt ?_)|(show gZ ..;(refine bN (λR w' h=>by rw[<-hra];exact aH h hr.rows) _ _ (fQ hlt) rfl ?_))|(show aJ _ 128 ..;(refine aR (f:=128) Tryz.call128 (.bool true) (λρ w' hw=>by have:=Oz w' rv.l[i] (ae hw λR h=>hou.later h) p fb fl fc (ae hw λR h=>by rw[jE (h _ (iA hc)).2];exact hc);rw[decide_eq_true aa]at this;exact this) ?_))|refine a_ ?_|refine ag ?_ ?_<;>intro _)
   all_goals(conv=>whnf)
   refine dK λρ w' hw=>⟨⟨i,rfl,λ_=>anK.2 ⟨rv.l[i],aby hlt,by simpa using hne⟩,λ_=>by omega⟩,bG hw (λ_ _ h=>h)⟩
 ·repeat' ((conv=>whnf)<;>first|refine a_ ?_|refine ag ?_ ?_<;>intro _)
  all_goals(conv=>whnf)
  refine dK λρ w' hw=>⟨⟨-1,rfl,λh=>absurd h ay,λh=> ?_⟩,bG hw (λ_ _ h=>h)⟩;obtain⟨u,hu,hx⟩:=anK.1 h;obtain⟨k,hk,rfl⟩:=am0.1 hu;exact absurd (hi k aa hk) (by simpa using hx)
theorem Lp(w:World)(rv:aY)(hr:rv.okB w)(p:Addr)(fb:Option Addr)(fl fc:Nat)(hc:w.cell? p=some (.slice fb fl fc)):Calls Tryz.prog 127 #[rv.val,.func (.func 128) #[] #[.pointer (some p)]] w λe w'=>e= .returned (.bool (rv.l.any λu=>decide (u.xs.length≠fl)))/\Ext w w':=by
 refine fH Tryz.func127 [.c rv.val,.c (.func (.func 128) #[] #[.pointer (some p)])] ?_;repeat' ((conv=>whnf)<;>first|(show aJ _ 154 ..;refine Ry (f:=154) Tryz.call154 (λk:Int=> .int .i64 k) (λk=>0<=k↔rv.l.any (λu=>decide (u.xs.length≠fl))=true) (λρ w' hw=> ?_) (λk hk=> ?_))|refine a_ ?_|refine ag ?_ ?_<;>intro _)
 ·refine(U0 w' rv (ae hw λR h=>hr.later h) p fb fl fc (ae hw λR h=>by rw[jE (h _ (iA hc)).2];exact hc)).mono ?_;rintro e w2 ⟨⟨k,h1,h2⟩,h3⟩;exact⟨k,h2,h1,h3⟩
 all_goals(conv=>whnf)
 all_goals rename_i h0
 ·exact bq (λ_ _ h=>h) rfl (hk.1 h0)
 ·exact bq (λ_ _ h=>h) rfl (Bool.eq_false_iff.2 λh=>h0 (hk.2 h))
def agf:Go.Shelf.Ren:=⟨λ|189=>161|125=>167|257=>166|128=>177|129=>164|294=>168|295=>169|296=>170|297=>171|298=>172|299=>173|216=>174|300=>175|301=>176|328=>178|329=>179|330=>180|331=>181|332=>182|215=>183|343=>184|n=>n,λ|28=>32|3=>3|46=>148|0=>0|51=>203|53=>59|4=>4|183=>197|182=>196|131=>162|5=>5|9=>9|218=>204|222=>208|228=>210|229=>211|n=>n,λ|n=>n⟩
theorem Xh:Go.Proofs.Lays.n189 Tryz.prog agf:={
 mixed:=by kernel_rfl
 f125:=Tryz.func167.trans (congrArg some bg)
 f128:=Tryz.func177.trans (congrArg some bg)
 f129:=Tryz.func164.trans (congrArg some bg)
 f189:=Tryz.func161.trans (congrArg some bg)
 f215:=Tryz.func183.trans (congrArg some bg)
 f216:=Tryz.func174.trans (congrArg some bg)
 f257:=Tryz.func166.trans (congrArg some bg)
 f294:=Tryz.func168.trans (congrArg some bg)
 f295:=Tryz.func169.trans (congrArg some bg)
 f296:=Tryz.func170.trans (congrArg some bg)
 f297:=Tryz.func171.trans (congrArg some bg)
 f298:=Tryz.func172.trans (congrArg some bg)
 f299:=Tryz.func173.trans (congrArg some bg)
 f300:=Tryz.func175.trans (congrArg some bg)
 f301:=Tryz.func176.trans (congrArg some bg)
 f328:=Tryz.func178.trans (congrArg some bg)
 f329:=Tryz.func179.trans (congrArg some bg)
 f330:=Tryz.func180.trans (congrArg some bg)
 f331:=Tryz.func181.trans (congrArg some bg)
 f332:=Tryz.func182.trans (congrArg some bg)
 f343:=Tryz.func184.trans (congrArg some bg)
 t0:=Tryz.underlying0
 a0:=Tryz.isAgg0
 z0:=Tryz.sizeOf0
 v0:=Tryz.zeroValue0
 t3:=Tryz.underlying3
 a3:=Tryz.isAgg3
 z3:=Tryz.sizeOf3
 v3:=Tryz.zeroValue3
 t4:=Tryz.underlying4
 a4:=Tryz.isAgg4
 z4:=Tryz.sizeOf4
 v4:=Tryz.zeroValue4
 t5:=Tryz.underlying5
 a5:=Tryz.isAgg5
 z5:=Tryz.sizeOf5
 v5:=Tryz.zeroValue5
 t9:=Tryz.underlying9
 a9:=Tryz.isAgg9
 z9:=Tryz.sizeOf9
 v9:=Tryz.zeroValue9
 t28:=Tryz.underlying32
 a28:=Tryz.isAgg32
 z28:=Tryz.sizeOf32
 v28:=Tryz.zeroValue32
 t46:=Tryz.underlying148
 a46:=Tryz.isAgg148
 z46:=Tryz.sizeOf148
 v46:=Tryz.zeroValue148
 t51:=Tryz.underlying203
 a51:=Tryz.isAgg203
 z51:=Tryz.sizeOf203
 v51:=Tryz.zeroValue203
 t53:=Tryz.underlying59
 a53:=Tryz.isAgg59
 z53:=Tryz.sizeOf59
 v53:=Tryz.zeroValue59
 t131:=Tryz.underlying162
 a131:=Tryz.isAgg162
 z131:=Tryz.sizeOf162
 v131:=Tryz.zeroValue162
 t182:=Tryz.underlying196
 a182:=Tryz.isAgg196
 z182:=Tryz.sizeOf196
 v182:=Tryz.zeroValue196
 t183:=Tryz.underlying197
 a183:=Tryz.isAgg197
 z183:=Tryz.sizeOf197
 v183:=Tryz.zeroValue197
 t218:=Tryz.underlying204
 a218:=Tryz.isAgg204
 z218:=Tryz.sizeOf204
 v218:=Tryz.zeroValue204
 t222:=Tryz.underlying208
 a222:=Tryz.isAgg208
 z222:=Tryz.sizeOf208
 v222:=Tryz.zeroValue208
 t228:=Tryz.underlying210
 a228:=Tryz.isAgg210
 z228:=Tryz.sizeOf210
 v228:=Tryz.zeroValue210
 t229:=Tryz.underlying211
 a229:=Tryz.isAgg211
 z229:=Tryz.sizeOf211
 v229:=Tryz.zeroValue211}
def agR:Go.Shelf.Ren:=⟨λ|20=>153|n=>n,λ|22=>32|3=>3|4=>4|0=>0|n=>n,λ|n=>n⟩
theorem aqv:Go.Proofs.Lays2.n20 Tryz.prog agR:={
 mixed:=by kernel_rfl
 f20:=Tryz.func153.trans (congrArg some bg)
 t0:=Tryz.underlying0
 a0:=Tryz.isAgg0
 z0:=Tryz.sizeOf0
 v0:=Tryz.zeroValue0
 t3:=Tryz.underlying3
 a3:=Tryz.isAgg3
 z3:=Tryz.sizeOf3
 v3:=Tryz.zeroValue3
 t4:=Tryz.underlying4
 a4:=Tryz.isAgg4
 z4:=Tryz.sizeOf4
 v4:=Tryz.zeroValue4
 t22:=Tryz.underlying32
 a22:=Tryz.isAgg32
 z22:=Tryz.sizeOf32
 v22:=Tryz.zeroValue32
 i3:=by kernel_rfl}
open Go.Sort
section
variable {w:World} {g off:Nat} {os:Array Obj} {cur:Array Value}
theorem heap_put{n:Nat}{e:TypeId}{fr:Nat×Nat}(d:Array Int)(hb:w.heap[g]? =some (.cells cur e fr)):
 (grow (putRow (Value.int .i64) (Sort.ahead w n) g off d) os).heap[g]? =some (.cells (putCells (Value.int .i64) off d cur) e fr):=by
 have hg:g<w.heap.size:=(alu.1 hb).1;rw[heap_grow_old _ _ (by simpa using hg)];simp[putRow,mapBlock,Sort.ahead,Array.getElem?_modify,hb,onCells]
theorem agw{n:Nat}(d:Array Int){F:Nat->Prop}(hF:∀x,F x↔x=g):Step F w (grow (putRow (Value.int .i64) (Sort.ahead w n) g off d) os):=by
 refine⟨rfl,rfl,rfl,by simp,λk hk hne=> ?_⟩;rw[heap_grow_old _ _ (by simpa using hk)];have:g≠k:=λe=>hne ((hF k).2 e.symm);simp[putRow,mapBlock,Sort.ahead,Array.getElem?_modify,this]
variable {i:Nat}
theorem get_put{zs:List Int}(hi:i<zs.length)(hc:off+zs.length<=cur.size):(putCells (Value.int .i64) off zs.toArray cur)[off+i]? =some (.int .i64 zs[i]):=by
 have h1:off+i<cur.size:=by omega
 simp[putCells,h1,hi]
variable {T:TypeId} {xs:List Int}
theorem adK{b:Nat}{c:Array Value}(hh:w.heap[b]? =some (.cells c T (0,0)))(hc:∀i r,(aZ xs)[i]? =some r->∀j v,r[j]? =some v->c[off+i*1+j]? =some v):Holds (Value.int .i64) w b off xs.toArray:=by
 intro j hj;have hj':j<xs.length:=by simpa using hj
 have:=hc j _ (eO hj') 0 _ rfl;rw[Nat.mul_one,amr]at this;constructor
 ·simp only[World.cell?,hh];simp[this,hj']
 ·simp[World.frozen?,hh]
theorem VK{cx:Cx}{f:FuncId}{H:Heap}{S:bR}{nx m:Nat}{ys:List Int}{K:SV->Heap->bR->Nat->Prop}(hf:∀ar w,(callFunc f ar).run cx.P w= .ok (.enter f ar) w)(hi:(i,b_.rows (aZ xs) 1 T)∈H)(hm:m=xs.length)(hy:ys.length=xs.length)(res:SX.Loc->Value)(u:SV)(hu:u.lt nx)(hres:∀ρ,u.rf ρ=res (ρ i))
 (h0:∀cap w,xs=[]->Calls cx.P f #[.slice none 0 cap] w λe w'=>e= .returned (res ⟨none,cap⟩)/\w'=w)
 (hc:∀b off cap w,Holds (Value.int .i64) w b off xs.toArray->b<w.heap.size->xs.length<=cap->Calls cx.P f #[.slice (some ⟨b,off,none⟩) xs.length cap] w λe w'=>e= .returned (res ⟨some ⟨b,off,none⟩,cap⟩)/\∃n os,w'=grow (putRow (Value.int .i64) (Sort.ahead w n) b off ys.toArray) os)
 (h:K u (setH i (.rows (aZ ys) 1 T) H) S nx):aJ cx f [.os i m] H S nx K:=by
 rw[fZ];refine⟨hf,λρ w hw=> ?_⟩;subst hm;have hA:=hw;obtain⟨R,φ,hw⟩:=hw;have hent:=hw.jA _ hi;obtain⟨hr,hcap,hent⟩:=hent;rw[aP]at hcap;simp only at hcap;have hargs:(SV.dW ρ [.os i xs.length]).toArray= #[.slice (ρ i).base xs.length (ρ i).cap]:=rfl;rw[hargs];rcases hent with⟨hb,hc0,hF⟩|⟨b,off,c,hb,hF,hh,hsz,hcell⟩
 ·simp only at hb hc0;have hx:xs=[]:=ahV aa;have hy0:ys=[]:=ahV (by rw[hy,hx];rfl);subst hx hy0;rw[hb];refine(h0 (ρ i).cap w rfl).mono ?_;rintro e w' ⟨rfl,rfl⟩;refine⟨u,ρ,_,S,nx,?_,λ_ _=>rfl,Tw _,hu,dO.store hA hi (λy hy=>by simp[b_.hass]at hy) λF hF'=>⟨⟨rfl,rfl,rfl,Tw _,λ_ _ _=>rfl⟩,hF'⟩,h⟩;rw[hres,<-hb]
 ·simp only at hb hF hsz;rw[hb];have hH:=adK hh hcell;have hbl:=(alu.1 hh).1;refine(hc b off (ρ i).cap w hH hbl hcap).mono ?_;rintro e w' ⟨rfl,n,os,rfl⟩;refine⟨u,ρ,_,S,nx,by rw[hres,<-hb],λ_ _=>rfl,Tw _,hu,dO.store hA hi (λy hy=>by simp[b_.hass]at hy) λF hF'=> ?_,h⟩;obtain⟨_,_,hF2⟩:=hF';rcases hF2 with⟨g1,_,_⟩|⟨b',off',c',g1,g2,g3,g4,g5⟩
  ·rw[hb]at g1;cases g1
  ·rw[hb]at g1;simp only[Option.some.injEq,Addr.mk.injEq,and_true]at g1;obtain⟨rfl,rfl⟩:=g1;rw[hh]at g3;obtain rfl:c=c':=by simpa using g3
   refine⟨agw _ g2,kJ,by rw[aP,hy];exact hcap,.inr ⟨b,off,_,hb,g2,heap_put _ hh,by simpa[putCells]using hsz,λk r hk j v hj=> ?_⟩⟩;have hkl:k<ys.length:=by
    have:=(abH.1 hk).1
    rwa[aP]at this
   rw[eO hkl]at hk;obtain rfl:[Value.int .i64 ys[k]]=r:=by simpa using hk
   have hj0:j=0:=by
    rcases amm j with h|h
    ·exact h
    ·rw[aiQ AR]at hj;cases hj
   subst hj0;obtain rfl:Value.int .i64 ys[k]=v:=by simpa using hj
   rw[Nat.mul_one,amr];exact get_put hkl (by have:off+(ρ i).cap*1<=c.size:=hsz;omega)
end
def lG(l:List Int)(aA:Int):Bool:=decide ((∀x∈l,0<=x/\x<aA)/\l.Nodup)
def Jf(zs:List Int):List Int:=zs.mergeSort λx y=>decide (x<=y)
theorem CE(zs:List Int):(Jf zs).Perm zs:=List.mergeSort_perm _ _
theorem wO(zs:List Int):(Jf zs).length=zs.length:=(CE zs).length_eq
theorem Af(zs:List Int):∀i j (h1:i<(Jf zs).length) (h2:j<(Jf zs).length),i<j->(Jf zs)[i]<=(Jf zs)[j]:=by
 have h:=List.pairwise_mergeSort (le:=λx y:Int=>decide (x<=y)) (λa b c h1 h2=>by simp at*;omega) (λa b=>by simp;omega) zs;rw[amA]at h;intro i j h1 h2 hij;exact of_decide_eq_true (h i j h1 h2 hij)
theorem Pg(s:List Int):(Lib.compact s).length=s.length↔∀j (h:j<s.length),j=0\/s[j]≠s[j-1]' aa:=by
 have e:(Lib.compact s).length=((List.range s.length).filter (Lib.keeps s.toArray)).length:=by simp[Lib.compact,Lib.compactUpTo]
 rw[e];have e2:=List.length_filter_eq_length_iff (l:=List.range s.length) (p:=Lib.keeps s.toArray);rw[amj]at e2;rw[e2];simp only[ahe,Lib.keeps,decide_eq_true_eq];constructor
 ·intro h j hj;rcases h j hj with h|h
  ·exact .inl h
  ·refine .inr ?_;have h1:j-1<s.length:=by omega
   simpa[hj,h1]using h
 ·intro h j hj;rcases h j hj with h|h
  ·exact .inl h
  ·refine .inr ?_;have h1:j-1<s.length:=by omega
   simpa[hj,h1]using h
theorem acC(zs:List Int):(∀j (h:j<(Jf zs).length),j=0\/(Jf zs)[j]≠(Jf zs)[j-1]' aa)↔zs.Nodup:=by
 rw[<-(CE zs).nodup_iff];constructor
 ·intro h;rw[List.Nodup,amA];intro i j hi hj hij e;have h1:=(h j hj).resolve_left aa;have h2:=Af zs (j-1) j aa hj aa;rcases ack i (j-1)with g|g
  ·have:=Af zs i (j-1) hi aa g;omega
  ·have:i=j-1:=by omega
   subst this;exact h1 e.symm
 ·intro h j hj;rw[List.Nodup,amA]at h;rcases amm j with g|g
  ·exact .inl g
  ·exact .inr λe=>h (j-1) j aa hj aa e.symm
theorem Vi(aA:Int):lG [] aA=true:=by simp[lG]
theorem Vl{zs:List Int}(aA:Int)(hz:0<zs.length):lG zs aA=true↔0<=(Jf zs).getD 0 0/\(Jf zs).getD (zs.length-1) 0<aA/\(Lib.compact (Jf zs)).length=zs.length:=by
 have hl:=wO zs;rw[show(Lib.compact (Jf zs)).length=zs.length↔zs.Nodup from by rw[<-wO zs,Pg,acC]];rw[lG,decide_eq_true_eq,<-and_assoc];refine and_congr_left λ_=> ?_;have e0:(Jf zs).getD 0 0=(Jf zs)[0]:=by simp[List.getD,show 0<(Jf zs).length by omega]
 have e1:(Jf zs).getD (zs.length-1) 0=(Jf zs)[zs.length-1]:=by simp[List.getD,show zs.length-1<(Jf zs).length by omega]
 rw[e0,e1];constructor
 ·intro h;exact⟨(h _ ((CE zs).mem_iff.1 (aby _))).1,(h _ ((CE zs).mem_iff.1 (aby _))).2⟩
 ·rintro⟨h1,h2⟩ x hx;obtain⟨k,hk,rfl⟩:=am0.1 ((CE zs).mem_iff.2 hx);constructor
  ·rcases amm k with g|g
   ·subst g;exact h1
   ·have:=Af zs 0 k aa hk g;omega
  ·rcases ack k (zs.length-1)with g|g
   ·have:=Af zs k (zs.length-1) hk aa g;omega
   ·have:k=zs.length-1:=by omega
    subst this;exact h2
section
variable {cx:Cx} {H:Heap} {S:bR} {nx i m:Nat} {T:TypeId} {xs:List Int} {K:SV->Heap->bR->Nat->Prop}
theorem adH(hP:cx.P=Tryz.prog)(hi:(i,b_.rows (aZ xs) 1 T)∈H)(hm:m=xs.length)(hl:xs.length<=1000000)
 (h:K (.c (.tuple #[])) (setH i (.rows (aZ (Jf xs)) 1 T) H) S nx):aJ cx 161 [.os i m] H S nx K:=by
 obtain⟨P,B,n,tb⟩:=cx;simp only at hP;subst hP;refine VK Tryz.call161 hi hm (wO xs) (λ_=> .tuple #[]) (.c (.tuple #[])) (SV.iW _) (λ_=>rfl) (λcap w hx=> ?_) (λb off cap w hH hb hc=> ?_) h
 ·exact Any.slices_Sort_int_none Xh none cap w
 ·exact Any.slices_Sort_int Xh b off cap xs w hH hb aa
theorem Ty(hP:cx.P=Tryz.prog)(hi:(i,b_.rows (aZ xs) 1 T)∈H)(hin:i<nx)(hm:m=xs.length)(hl:xs.length<=1000000)
 (h:∀ys,K (.os i (Lib.compact xs).length) (setH i (.rows (aZ ys) 1 T) H) S nx):aJ cx 153 [.os i m] H S nx K:=by
 obtain⟨P,B,n,tb⟩:=cx;simp only at hP;subst hP;have hle:(Lib.compact xs).length<=xs.length:=by
  simp only[Lib.compact,Lib.compactUpTo,aas];refine aiC (List.length_filter_le _ _) aI
 refine VK Tryz.call153 hi hm (ys:=Lib.compact xs++List.replicate (xs.length-(Lib.compact xs).length) 0) (by rw[adx,aiS];omega) (λl=> .slice l.base (Lib.compact xs).length l.cap) (.os i (Lib.compact xs).length) (SV.yP hin) (λ_=>rfl) (λcap w hx=> ?_) (λb off cap w hH hb hc=> ?_) (h _)
 ·subst hx;exact Any.slices_Compact_int_empty aqv none cap w
 ·refine(Any.slices_Compact_int aqv b off cap xs w hH aa hc).mono ?_;rintro e w' ⟨h1,q,rfl⟩;exact⟨h1,q,#[],by rw[grow_empty]⟩
def anX(w:World)(l:List Int)(e:Ending)(w':World):Prop:=∃v,e= .returned v/\Ext w w'/\je w w' v 1 3 (aZ l)
theorem aav(w:World)(Bs:Nat)(base:Option Addr)(cap:Nat)(zs:List Int)(hl:zs.length<=1000000)(hBs:Bs<w.heap.size)(hc:w.cell? ⟨Bs,0,none⟩=some (.slice base zs.length cap))(hI:IntsIn w base zs):
 Calls Tryz.prog 151 #[.func (.func 162) #[] #[.pointer (some ⟨Bs,0,none⟩)]] w (anX w (Jf zs)):=by
 refine fH Tryz.func151 [.c (.func (.func 162) #[] #[.pointer (some ⟨Bs,0,none⟩)])] ?_;repeat' ((conv=>whnf)<;>first|refine a_ ?_)
 refine jy (f:=160) Tryz.call160 1 3 (λ_:Unit=>aZ zs) (λ_=>True) (λρ w' hw=> ?_) (λ_ _=> ?_)
 ·have he:=bG hw (λ_ _ h=>h);refine(Yc w' Bs base cap zs aa (ahd hBs he.size) ((he.cell (p:=⟨Bs,0,none⟩) hBs).trans hc) (hI.below he)).mono ?_;rintro e w2 ⟨v,h1,h2,h3⟩;exact⟨(),trivial,v,h1,h3,h2⟩
 repeat' ((conv=>whnf)<;>first|(show aJ _ 161 ..;refine adH rfl (xs:=zs) YV (aP zs) hl ?_)|refine a_ ?_)
 all_goals(conv=>whnf)
 refine dK λρ w' hw=>⟨_,rfl,bG hw (λ_ _ h=>h),?_⟩;have:=fI hw (λ_ _ h=>h) (i:=0) (xs:=aZ (Jf zs)) (k:=1) (T:=3) aj;rw[aP,wO]at this;rw[aP];exact this
theorem uV{j:Nat}{K:Value->Prop}(hj:j<xs.length)(h:K (.int .i64 (xs.getD j 0))):rQ (aZ xs) j 0 K:=by
 refine row_of _ _ (eO hj) rfl ?_;have e:xs.getD j 0=xs[j]:=by simp[List.getD,hj]
 rw[<-e];exact h
theorem PX(w:World)(u:ax)(hu:u.ok w)(aA:Int):Calls Tryz.prog 126 #[u.val,.int .i64 aA] w λe w'=>e= .returned (.bool (lG u.xs aA))/\Ext w w':=by
 have hf:=hu.few;have hI:=hu.within;refine fH Tryz.func126 [.c u.val,aC aA] ?_;repeat' ((conv=>whnf)<;>first|refine a_ ?_)
 refine Xk u.base u.xs.length u.cap rfl (λBs=> ?_);repeat' ((conv=>whnf)<;>first|refine a_ ?_)
 refine jy (f:=151) Tryz.call151 1 3 (λ_:Unit=>aZ (Jf u.xs)) (λ_=>True) (λρ w' hw=> ?_) (λ_ _=> ?_)
 ·have he:=bG hw (λ_ _ h=>h.1);have hc:w'.cell? ⟨Bs,0,none⟩=some (.slice u.base u.xs.length u.cap):=ae hw λR h=>by
   rcases h.2.2 with h|⟨b,off,e,_,hcc⟩
   ·simp at h
   ·have:=hcc 0 _ rfl 0 _ rfl;simp only[Option.some.injEq,Addr.mk.injEq,and_true]at e;rw[e.1,e.2];simpa using this
  refine(aav w' Bs u.base u.cap u.xs hf (aa7 hc) hc (hI.below he)).mono ?_;rintro e w2 ⟨v,h1,h2,h3⟩;exact⟨(),trivial,v,h1,h2,h3⟩
 have hsl:=wO u.xs;have hil:=aP (Jf u.xs);by_cases h0:u.xs.length=0
 ·have hx:u.xs=[]:=ahV h0;repeat' ((conv=>whnf)<;>first|(show @iG _ _ _;(first|refine gJ dS ?_))|refine a_ ?_)
  all_goals(conv=>whnf)
  all_goals exact bq (λ_ _ h=>h.1) rfl (by rw[hx];exact Vi aA)
 ·have hp:=Vl aA (zs:=u.xs) aa;repeat' ((conv=>whnf)<;>first|(show @iG _ _ _;(first|refine jc dS ?_|(refine ag ?_ ?_<;>intro _)))|(show eP ..;(first|refine bY 0 rfl dS (Tw _) ?_|refine bY (u.xs.length-1) aa aa (Tw _) ?_))|(show rQ ..;(first|refine uV (xs:=Jf u.xs) (j:=0) aa ?_|refine uV (xs:=Jf u.xs) (j:=u.xs.length-1) aa ?_))|(show aJ _ 153 ..;refine Ty rfl (xs:=Jf u.xs) YV aa (aP _) aa (λys=> ?_))|refine a_ ?_)
  all_goals(conv=>whnf)
  ·exact bq (λ_ _ h=>h.1) rfl (hp.2 ⟨by omega,by omega,by omega⟩)
  all_goals exact bq (λ_ _ h=>h.1) rfl (Bool.eq_false_iff.2 λh=>by have:=hp.1 h;omega)
end
section
abbrev ald:DT:=(bS [0,1,2,3,4,5,6,7,8,9,10,11,12,13,14,15,16,117,118] .done)
structure yC(c:fT)(s:fu):Prop where
 aF:∀p∈s.aF,p.bF
 inputs:∀x∈s.inputs,x.aA∈c.di.l/\i64 x.lo/\i64 x.hi
def Q6(old new:List ax):bR where
 holds R w:=∀u∈new,u∈old\/(bX u).holds R w
 stable:=λhR hw h u hu=>(h u hu).imp id ((bX u).stable hR hw)
theorem vP(l:List ax)(R:Nat->Prop)(w:World):(Q6 l l).holds R w:=λ_ hu=> .inl hu
variable {R:Nat->Prop} {w:World}
theorem adl{a b:List ax}{G:Nat->Prop}(h1:(iQ a).holds R w)(h2:((Q6 a b).off G).holds R w):(iQ b).holds R w:=λu hu=>(h2 u hu).elim (h1 u) (λh=>(bX u).mono h (λb hb=>hb.1))
abbrev pz(w:World)(ρ:Nat->SX.Loc)(F:Nat->Prop)(c:fT)(s:fu)(vl:List Int)(r:dL×Int):=Dy w ρ F (λx:fu×Int=>aC x.2) (λx=>kG c x.1 vl) (λx=>Q6 s.aF x.1.aF) (λx=>x.1.pl=r.1/\x.2=r.2/\yC c x.1)
variable {c:fT} {s:fu}
theorem De(h:yC c s)(op a b k:Int):yC c (eH s op a b k):=⟨h.aF,h.inputs⟩
theorem y_(h:yC c s){u:ax}(hu:u.bF):yC c (aS s u).1:=by
 unfold aS;split
 ·exact h
 ·refine⟨λp hp=> ?_,h.inputs⟩;rcases aeh.1 hp with hp|hp
  ·exact h.aF p hp
  ·rw[afe.1 hp];exact hu
theorem Z7(s:fu)(u:ax)(hu:(bX u).holds R w):(Q6 s.aF (aS s u).1.aF).holds R w:=by
 unfold aS;split
 ·exact vP _ R w
 ·intro v hv;rcases aeh.1 hv with hv|hv
  ·exact .inl hv
  ·rw[afe.1 hv];exact .inr hu
theorem Z6(s:fu)(u:ax):(aS s u).1.aF.length<=s.aF.length+1:=by
 unfold aS;split<;>simp
structure wT(c:fT)(s:fu)(vl:List Int):Prop where
 aA:1<=c.aA/\c.aA<=4096
 ok:yC c s
 yF:s.aF.length<=500000
 y9:s.code.length<=500000
 aaK:s.inputs.length<=500000
theorem ah6(c:fT)(s:fu)(vl:List Int)(n:ak)(i:Nat)(hN:wT c s vl)(h0:0<=n.a/\0<=n.b)(ha:n.a.toNat<vl.length)(hb:n.b.toNat<vl.length)(w:World)(ρ:Nat->SX.Loc)(F:Nat->Prop)(h:qF w ρ F 2 5 (kG c s vl) iK):
 Calls Tryz.prog 29 (SV.dW ρ [.lp 0 0 0 0,.agg (vo n),aC i]).toArray w (pz w ρ F c s vl (bI s.pl 3 (vl.getD n.a.toNat 0) (vl.getD n.b.toNat 0) 0)):=by
 have hcl:=hN.y9;refine zzF Tryz.func29 (yZ 2 ρ) ρ [.lp 0 0 0 0,.agg (vo n),aC i] (kG c s vl) (iK.and (l8 w F)) 5 h.abs ?_;repeat' ((conv=>whnf)<;>first|(show cO _ 1 ..;refine mV [17,18] _ ald ?_)|(show eP ..;(first|refine bY n.a.toNat aa ha oG ?_|refine bY n.b.toNat aa hb oG ?_))|(show rQ ..;(first|refine uV ha ?_|refine uV hb ?_))|(show aJ _ 68 ..;(refine uC [(0,some 0),(1,some 1),(2,some 2),(3,some 3),(4,some 4)] c s vl iK [.lp 0 0 0 0,aC 3,aC (vl.getD n.a.toNat 0),aC (vl.getD n.b.toNat 0),aC 0] _ _ _ _ Tryz.call68 rfl fE ⟨_,rfl⟩ ⟨_,rfl⟩ rfl (λR w' h=>trivial) (iV w F) (λR w' h b hb=>(h.2 b hb).1) (λw' ρ' F' h'=>gQ c s vl 3 (vl.getD n.a.toNat 0) (vl.getD n.b.toNat 0) 0 aa w' ρ' F' h') (λ_ _=> ?_)))|refine bV ?_)
 all_goals(conv=>whnf)
 all_goals exact lH _ _ _ _ (eH s 3 (vl.getD n.a.toNat 0) (vl.getD n.b.toNat 0) 0,(s.code.length:Int)) [(2,some 8),(3,some 9),(4,some 10)] ⟨rfl,rfl,De hN.ok _ _ _ _⟩ ay rfl rfl rfl rfl fE (λR w' h=>⟨h.1.2,vP _ _ _⟩)
end
section
abbrev aln:DT:=(bS [0,1,5,6,9,10,11,12,13,14] (.alt 2 (.alt 3 (.alt 4 (bS [7,8,115,116,117,18] .done) (.one 15 (.alt 4 (bS [7,8,116,117,18] .done) (bS [116,104,7,8,117,18] .done)))) (.one 15 (.alt 3 (.alt 4 (bS [7,8,116,117,18] .done) (bS [116,104,7,8,117,18] .done)) (bS [116,103,104,7,8,117,18] .done)))) (.one 15 (.alt 2 (.alt 3 (.alt 4 (bS [7,8,116,117,18] .done) (bS [116,104,7,8,117,18] .done)) (bS [116,103,104,7,8,117,18] .done)) (bS [116,102,103,104,7,8,117,18] .done)))))
def Eg(p:World->Prop):bR where
 holds R w:=∃E:bR,E.holds R w/\∀R' w',E.holds R' w'->p w'
 stable:=λhR hw ⟨E,h1,h2⟩=>⟨E,E.stable hR hw h1,h2⟩
variable {R:Nat->Prop} {w:World}
theorem iO{p:World->Prop}(h:(Eg p).holds R w):p w:=by
 obtain⟨E,h1,h2⟩:=h;exact h2 R w h1
def Xn(u:ax):bR:=Eg λw=>bE w u.base 1 (aZ u.xs)
def Xp(n:ak):bR:=(Xn n.az).and ((Xn n.data).and (Xn n.aQ))
abbrev D6(c:fT)(s:fu)(n:ak):bR:=((iQ s.aF).and (wJ c)).and (Xp n)
theorem CL{cx:Cx}(hP:cx.P=Tryz.prog){args:List SV}{H:Heap}{S:bR}{nx:Nat}{K:SV->Heap->bR->Nat->Prop}(θ:Map)(c:fT)(s:fu)(vl:List Int)(g:FuncId)(cells:List Value)(Tb:TypeId)(i:Nat)(f:Nat->Int)(E:bR)(sp:ax)(hn:c.aA<=4096)(hs:∀p∈s.aF,p.bF)(hl:s.aF.length<=1000000)(hi:c.di.l[i]? =some sp)(Py:sp.bF)(hb:∀x∈sp.xs,0<=x/\x<c.aA)(hff:∀e,e<sp.xs.length->i64 (f e))
 (hg:∀ar w,(callFunc g ar).run Tryz.prog w= .ok (.enter g ar) w)
 (hof:∀R w' b (e:Nat),e<sp.xs.length->w'.heap[b]? =some (.cells cells.toArray Tb (0,0))->E.holds R w'->Calls Tryz.prog g #[.int .i64 e,.pointer (some ⟨b,0,none⟩)] w' λen w''=>en= .returned (.int .i64 (f e))/\Ext w' w'')
 (hm:BM 0 θ (kC c s vl cells Tb)=true) (hin:lI θ H (kC c s vl cells Tb)) (h0:∃j,θ.app 0=some j) (h1:∃j,θ.app 1=some j) (ha:args=SV.xY θ.app [.lp 0 0 0 0,aC i,.fn (.func g) [] [.lp 5 0 0 0]])
 (hA:∀R w,S.holds R w->(((iQ s.aF).and (wJ c)).and E).holds R w) (G:Nat->Prop) (hG:∀R w,S.holds R w->∀b,G b->R b)
 (h:∀u:ax,u.xs=bU c.aA sp.xs f->u.bF->K (aC (aS s u).2) (yQ θ (kC c s vl cells Tb) H++Vj (BN 2 nx θ) (kC c (aS s u).1 vl cells Tb)) (S.and ((bX u).off G)) (nx+6)):aJ cx 69 args H S nx K:=by
 obtain⟨P,B,n,tab⟩:=cx;subst hP;refine Xv θ 2 6 (kC c s vl cells Tb) (((iQ s.aF).and (wJ c)).and E) [.lp 0 0 0 0,aC i,.fn (.func g) [] [.lp 5 0 0 0]] (λu:ax=>aC (aS s u).2) (λu=>kC c (aS s u).1 vl cells Tb) (λu=>bX u) (λu=>u.xs=bU c.aA sp.xs f/\u.bF) Tryz.call69 hm (Tp _ _ _ _ _) hin (λi hi=> ?_) ay ha hA G hG (λw ρ F h'=>ZX c s vl g cells Tb _ f E sp hn hs hl hi Py hb hff hg hof w ρ F h') (λu hu=>h u hu.1 hu.2);have:i=0\/i=1:=by omega
 rcases this with rfl|rfl
 ·obtain⟨j,hj⟩:=h0;exact⟨j,_,hj,aj⟩
 ·obtain⟨j,hj⟩:=h1;exact⟨j,_,hj,aj⟩
variable {s:fu} {u:ax}
theorem Nl{c:fT}{sl:List Int}{f:Nat->Int}{op a b:Int}(hu:u.xs=bU c.aA sl f)(hok:yC c (eH (aS s u).1 op a b (aS s u).2)):
 (eH (aS s u).1 op a b (aS s u).2).pl=(bI (bH c.aA s.pl sl f).1 op a b (bH c.aA s.pl sl f).2).1/\((aS s u).1.code.length:Int)=(bI (bH c.aA s.pl sl f).1 op a b (bH c.aA s.pl sl f).2).2/\yC c (eH (aS s u).1 op a b (aS s u).2):=by
 have e:=DK s u;unfold bH;rw[<-hu,<-e];exact⟨rfl,rfl,hok⟩
theorem Cv{G:Nat->Prop}(hu:((bX u).off G).holds R w):((Q6 s.aF (aS s u).1.aF).off G).holds R w:=Z7 s u hu
theorem yw(w:World)(b e:Nat)(v:Int)(T:TypeId)(h:w.heap[b]? =some (.cells [Value.int .i64 v].toArray T (0,0))):Calls Tryz.prog 132 #[.int .i64 e,.pointer (some ⟨b,0,none⟩)] w λen w'=>en= .returned (.int .i64 v)/\Ext w w':=by
 have hc:w.cell? ⟨b,0,none⟩=some (.int .i64 v):=by simp[World.cell?,h]
 refine fH Tryz.func132 [aC e,.c (.pointer (some ⟨b,0,none⟩))] ?_;repeat' ((conv=>whnf)<;>first|refine F7 ?_|refine a_ ?_)
 all_goals(conv=>whnf)
 all_goals exact bZ (λ_ _ h=>h) (λ_=>rfl) rfl
theorem ZE(c:fT)(s:fu)(vl:List Int)(n:ak)(i:Nat)(sp:ax)(hN:wT c s vl)(h0:0<=n.a)(ha:n.a.toNat<vl.length)(hd:n.data.xs.length=1)(hds:n.data.bF)(hi:c.di.l[i]? =some sp)(Py:sp.bF)(hb:∀x∈sp.xs,0<=x/\x<c.aA)(w:World)(ρ:Nat->SX.Loc)(F:Nat->Prop)(h:qF w ρ F 2 5 (kG c s vl) (D6 c s n)):
 Calls Tryz.prog 30 (SV.dW ρ [.lp 0 0 0 0,.agg (vo n),aC i]).toArray w (pz w ρ F c s vl (bI (bH c.aA s.pl sp.xs (λ_=>n.data.xs.getD 0 0)).1 5 (vl.getD n.a.toNat 0) 0 (bH c.aA s.pl sp.xs (λ_=>n.data.xs.getD 0 0)).2)):=by
 have hcl:=hN.y9;have hpl:=hN.yF;have hv64:i64 (n.data.xs.getD 0 0):=by
  rw[TR,YL aa];exact hds.fits _ (aby _)
 generalize hv:n.data.xs.getD 0 0=v at*;refine zzF Tryz.func30 (yZ 2 ρ) ρ [.lp 0 0 0 0,.agg (vo n),aC i] (kG c s vl) ((D6 c s n).and (l8 w F)) 5 h.abs ?_;refine Wp.know (p:=∃a,n.data.base=some a) (λρ w' hw=>ae hw λR h=>aT (j:=0) (iO h.1.2.2.1) dS) ?_;rintro⟨da,hda⟩;repeat' ((conv=>whnf)<;>first|(show cO _ 1 ..;refine mV [] _ aln ?_ (h6:=aei _ (aej _ (aei _ (amG _)))))|refine eU ?_|(show dn ..;refine aM da 0 hda rfl aa ?_)|(show gZ ..;(refine qQ (λR w' h=>by rw[<-hda];first|exact iO h.1.2.2.1|exact iO h.1.1.2.2.1) (j:=0) aa hv ?_))|refine FX ?_|(show rQ ..;refine uV ha ?_)|refine vV ?_|(show nC ..;refine iZ ?_)|(show aJ _ 69 ..;(refine CL rfl [(0,some 0),(1,some 1),(2,some 2),(3,some 3),(4,some 4),(5,some 6)] c s vl 132 [.int .i64 v] 3 i (λ_=>v) iK sp hN.aA.2 hN.ok.aF aa hi Py hb (λ_ _=>hv64) Tryz.call132 (λR w' b e _ h _=>yw w' b e v _ h) rfl fE ⟨_,rfl⟩ ⟨_,rfl⟩ rfl (λR w' h=>⟨h.1.1,trivial⟩) (iV w F) (λR w' h b hb=>(h.2 b hb).1) (λu hu iL=> ?_)))|(show aJ _ 68 ..;(refine uC [(0,some 0),(1,some 1),(2,some 9),(3,some 10),(4,some 11)] c (aS s u).1 vl iK [.lp 0 0 0 0,aC 5,aC (vl.getD n.a.toNat 0),aC 0,aC (aS s u).2] _ _ _ _ Tryz.call68 rfl fE ⟨_,rfl⟩ ⟨_,rfl⟩ rfl (λR w' h=>trivial) (iV w F) (λR w' h b hb=>(h.1.2 b hb).1) (λw' ρ' F' h'=>gQ c (aS s u).1 vl 5 (vl.getD n.a.toNat 0) 0 (aS s u).2 Fe w' ρ' F' h') (λ_ _=> ?_)))|refine bV ?_|refine And.intro ?_ ?_)
 all_goals(conv=>whnf)
 all_goals exact lH _ _ _ _ (eH (aS s u).1 5 (vl.getD n.a.toNat 0) 0 (aS s u).2,((aS s u).1.code.length:Int)) [(2,some 15),(3,some 16),(4,some 17)] (Nl hu (De (y_ hN.ok iL) _ _ _ _)) ay rfl rfl rfl rfl fE (λR w' h=>⟨h.1.1.2,Cv h.1.2⟩)
end
abbrev alG:DT:=(bS [0,1,2,3,4,5,6,7,8,9,10,11,12,13,14,15,16,17,118,119,120,121,22,123] .done)
theorem Xb(w:World)(b e:Nat)(n:ak)(T:TypeId)(he:e<n.data.xs.length)(hd:bE w n.data.base 1 (aZ n.data.xs))(h:w.heap[b]? =some (.cells n.cells.toArray T (0,0))):Calls Tryz.prog 71 #[.int .i64 e,.pointer (some ⟨b,0,none⟩)] w λen w'=>en= .returned (.int .i64 (n.data.xs.getD e 0))/\Ext w w':=by
 have hc:w.cell? ⟨b,7,none⟩=some n.data.val:=by simp[World.cell?,h,ak.cells]
 obtain⟨da,hda⟩:∃a,n.data.base=some a:=aT (j:=e) hd (by rw[aP];exact he);refine fH Tryz.func71 [aC e,.c (.pointer (some ⟨b,0,none⟩))] ?_;repeat' ((conv=>whnf)<;>first|(show dn ..;refine aM da e hda rfl he ?_)|(show gZ ..;(first|refine A9 (λR w' h=>by show w'.cell? ((Addr.mk b 0 none).add 7)=_;rw[fG,aiD,jE (h _ (iA hc)).2];exact hc) ?_|refine qQ (λR w' h=>by rw[<-hda];exact aH h hd) (j:=e) he rfl ?_))|refine a_ ?_)
 all_goals(conv=>whnf)
 all_goals exact bZ (λ_ _ h=>h) (λ_=>rfl) rfl
theorem acF(c:fT)(s:fu)(vl:List Int)(n:ak)(i:Nat)(sp:ax)(hN:wT c s vl)(hd:sp.xs.length<=n.data.xs.length)(hds:n.data.bF)(hi:c.di.l[i]? =some sp)(Py:sp.bF)(hb:∀x∈sp.xs,0<=x/\x<c.aA)(w:World)(ρ:Nat->SX.Loc)(F:Nat->Prop)(h:qF w ρ F 2 5 (kG c s vl) (D6 c s n)):
 Calls Tryz.prog 28 (SV.dW ρ [.lp 0 0 0 0,.agg (vo n),aC i]).toArray w (pz w ρ F c s vl (bI (bH c.aA s.pl sp.xs (λe=>n.data.xs.getD e 0)).1 2 0 0 (bH c.aA s.pl sp.xs (λe=>n.data.xs.getD e 0)).2)):=by
 have hcl:=hN.y9;have hpl:=hN.yF;have hv64:∀e,e<sp.xs.length->i64 (n.data.xs.getD e 0):=λe he=>by
  rw[TR,YL aa];exact hds.fits _ (aby _)
 refine zzF Tryz.func28 (yZ 2 ρ) ρ [.lp 0 0 0 0,.agg (vo n),aC i] (kG c s vl) ((D6 c s n).and (l8 w F)) 5 h.abs ?_;repeat' ((conv=>whnf)<;>first|(show aJ _ 69 ..;(refine CL rfl [(0,some 0),(1,some 1),(2,some 2),(3,some 3),(4,some 4),(5,some 5)] c s vl 71 n.cells 41 i (λe=>n.data.xs.getD e 0) (Xp n) sp hN.aA.2 hN.ok.aF aa hi Py hb hv64 Tryz.call71 (λR w' b e he hh hA=>Xb w' b e n _ aa (iO hA.2.1) hh) rfl fE ⟨_,rfl⟩ ⟨_,rfl⟩ rfl (λR w' h=>h.1) (iV w F) (λR w' h b hb=>(h.2 b hb).1) (λu hu iL=> ?_)))|(show aJ _ 68 ..;(refine uC [(0,some 0),(1,some 1),(2,some 8),(3,some 9),(4,some 10)] c (aS s u).1 vl iK [.lp 0 0 0 0,aC 2,aC 0,aC 0,aC (aS s u).2] _ _ _ _ Tryz.call68 rfl fE ⟨_,rfl⟩ ⟨_,rfl⟩ rfl (λR w' h=>trivial) (iV w F) (λR w' h b hb=>(h.1.2 b hb).1) (λw' ρ' F' h'=>gQ c (aS s u).1 vl 2 0 0 (aS s u).2 Fe w' ρ' F' h') (λ_ _=> ?_)))|refine a_ ?_)
 all_goals(conv=>whnf)
 all_goals exact lH _ _ _ _ (eH (aS s u).1 2 0 0 (aS s u).2,((aS s u).1.code.length:Int)) [(2,some 14),(3,some 15),(4,some 16)] (Nl hu (De (y_ hN.ok iL) _ _ _ _)) ay rfl rfl rfl rfl fE (λR w' h=>⟨h.1.1.2,Cv h.1.2⟩)
def inpV(s:fu)(lo hi:Int)(sp:ax):fu:=⟨s.inputs++[⟨lo,hi,sp⟩],s.aF,s.code⟩
def kN(s:dL)(lo hi:Int)(sl:List Int):dL×Int:=bI ⟨s.inputs++[⟨lo,hi,sl⟩],s.aF,s.code⟩ 1 0 0 s.inputs.length
theorem adP(c:fT)(s:fu)(vl:List Int)(n:ak)(i:Nat)(sp:ax)(hN:wT c s vl)(hlo:i64 n.lo)(hhi:i64 n.hi)(hi:c.di.l[i]? =some sp)(w:World)(ρ:Nat->SX.Loc)(F:Nat->Prop)(h:qF w ρ F 2 5 (kG c s vl) (D6 c s n)):
 Calls Tryz.prog 27 (SV.dW ρ [.lp 0 0 0 0,.agg (vo n),aC i]).toArray w (pz w ρ F c s vl (kN s.pl n.lo n.hi sp.xs)):=by
 have hcl:=hN.y9;have hpl:=hN.yF;have hil:=hN.aaK;refine zzF Tryz.func27 (yZ 2 ρ) ρ [.lp 0 0 0 0,.agg (vo n),aC i] (kG c s vl) ((D6 c s n).and (l8 w F)) 5 h.abs ?_;have akR:=(abH.1 hi).1;have hrow:(bA c.di.l)[i]? =some [sp.val]:=by unfold bA;rw[ab5,hi];rfl
 refine Wp.know (p:=∃a,c.di.base=some a) (λρ w' hw=>ae hw λR h=>aT (j:=i) (bf h.1.1.2.1) (by rw[acN];exact akR)) ?_;rintro⟨sa,hsa⟩;repeat' ((conv=>whnf)<;>first|(show cO _ 1 ..;refine mV [23] _ alG ?_ (h6:=aei _ (aei _ (aei _ (aej _ (af7 _))))))|refine eU ?_|(show dn ..;refine aM sa i hsa rfl akR ?_)|(show gZ ..;(refine bN (λR w' h=>by rw[<-hsa];exact bf h.1.1.2.1) _ _ hrow rfl ?_))|(show Gn ..;(refine mg (by rw[lJ];exact Tw _) ?_))|(show jv ..;(refine fU (by show(s.inputs.length+1)*40<=140737488355328;omega) ?_))|(show qN _ ((_,.rows (List.take s.inputs.length _++_) _ _)::_) _ _ _;refine uM (ys:=mq (s.inputs++[nN.mk n.lo n.hi sp])) (m:=(s.inputs++[nN.mk n.lo n.hi sp]).length) ?_ (afU s.inputs (nN.mk n.lo n.hi sp)) (by show s.inputs.length+1=_;rw[adx];rfl))|refine a_ ?_)
 have hz:(((s.inputs++[nN.mk n.lo n.hi sp]).length:Nat):Int)-1=s.inputs.length:=by rw[adx,ag_];omega
 repeat' ((conv=>whnf)<;>first|(show fF ..;(refine IM (y:=(s.inputs.length:Int)) (by rw[hz];exact IntWalk.i64_in _ ⟨by omega,by omega⟩) ?_))|(show aJ _ 68 ..;(refine uC [(0,some 0),(1,some 1),(2,some 7),(3,some 3),(4,some 4)] c (inpV s n.lo n.hi sp) vl iK [.lp 0 0 0 0,aC 1,aC 0,aC 0,aC s.inputs.length] _ _ _ _ Tryz.call68 rfl fE ⟨_,rfl⟩ ⟨_,rfl⟩ rfl (λR w' h=>trivial) (iV w F) (λR w' h b hb=>(h.2 b hb).1) (λw' ρ' F' h'=>gQ c (inpV s n.lo n.hi sp) vl 1 0 0 s.inputs.length (by show s.code.length<=_;omega) w' ρ' F' h') (λ_ _=> ?_)))|refine a_ ?_)
 all_goals(conv=>whnf)
 all_goals exact lH _ _ _ _ (eH (inpV s n.lo n.hi sp) 1 0 0 s.inputs.length,(s.code.length:Int)) [(2,some 10),(3,some 11),(4,some 12)] ⟨by unfold kN bI eH inpV fu.pl;simp[nN.pl],rfl,⟨hN.ok.aF,λx hx=>by
  rcases aeh.1 hx with hx|hx
  ·exact hN.ok.inputs x hx
  ·rw[afe.1 hx];exact⟨adu hi,hlo,hhi⟩⟩⟩ ay rfl rfl rfl rfl fE (λR w' h=>⟨h.1.2,vP _ _ _⟩)
section
def yU(c:fT)(s:fu)(vl:List Int)(d v i2 i3 i4:Nat):Heap:=[(d,.box [aC c.aA,.os i2 s.inputs.length,.os i3 s.aF.length,.os i4 s.code.length,aC 0,.c (.slice none 0 0),.c (.bool c.giant),.c c.shapes.val,.c c.di.val,.os v vl.length] 71),(v,.rows (aZ vl) 1 3),(i2,.rows (mq s.inputs) 3 92),(i3,.rows (bA s.aF) 1 32),(i4,.rows (iX s.code) 5 43)]
abbrev Ph(d v i2 i3 i4:Nat):Map:=[(0,some d),(1,some v),(2,some i2),(3,some i3),(4,some i4)]
variable {cx:Cx} {f:FuncId} {args:List SV} {S:bR} {nx:Nat} {K:SV->Heap->bR->Nat->Prop}
theorem dM{α:Type}(rest:Heap)(d v i2 i3 i4:Nat)(c:fT)(s:fu)(vl:List Int)(A:bR)(Ef:List SV)(val:α->Value)(s':α->fu)(D:α->bR)(p:α->Prop)
 (hf:∀ar w,(callFunc f ar).run cx.P w= .ok (.enter f ar) w) (hm:BM 0 (Ph d v i2 i3 i4) (kG c s vl)=true) (hl:yQ (Ph d v i2 i3 i4) (kG c s vl) (rest++yU c s vl d v i2 i3 i4)=rest)
 (ha:args=SV.xY (Ph d v i2 i3 i4).app Ef) (hA:∀R w,S.holds R w->A.holds R w) (G:Nat->Prop) (hG:∀R w,S.holds R w->∀b,G b->R b)
 (hc:∀w ρ F,qF w ρ F 2 5 (kG c s vl) A->Calls cx.P f (SV.dW ρ Ef).toArray w (Dy w ρ F (λx=> .c (val x)) (λx=>kG c (s' x) vl) D p))
 (h:∀x,p x->K (.c (val x)) (rest++yU c (s' x) vl d v (nx+2) (nx+3) (nx+4)) (S.and ((D x).off G)) (nx+5)):aJ cx f args (rest++yU c s vl d v i2 i3 i4) S nx K:=by
 have hin:∀q∈yU c s vl d v i2 i3 i4,q∈rest++yU c s vl d v i2 i3 i4:=λq hq=>aeh.2 (.inr hq);refine uC (Ph d v i2 i3 i4) c s vl A Ef (λx=> .c (val x)) s' D p hf hm ⟨hin _ aj,hin _ aj,hin _ aj,hin _ aj,hin _ aj,trivial⟩ ⟨_,rfl⟩ ⟨_,rfl⟩ ha hA G hG hc (λx hx=> ?_);rw[hl];exact h x hx
theorem Wd{H:Heap}{K':SV->Heap->bR->Nat->Prop}(hk:aJ cx f args H S nx K')(h:∀v H' S' nx',K' v H' S' nx'->∃H2,H2.Sublist H'/\K v H2 S' nx'):aJ cx f args H S nx K:=by
 rw[fZ]at hk|-
 refine⟨hk.1,λρ w hw=>(hk.2 ρ w hw).mono ?_⟩;rintro e w' ⟨v,ρ',H',S',nx',h1,h2,h3,h4,h5,h6⟩;obtain⟨H2,g1,g2⟩:=h v H' S' nx' h6;exact⟨v,ρ',H2,S',nx',h1,h2,h3,h4,h5.sub g1 (λ_ _ h=>h),g2⟩
theorem ru(hP:cx.P=Tryz.prog)(rest:Heap)(ib d v i2 i3 i4:Nat)(c:fT)(s:fu)(vl:List Int)(g:FuncId)(cells:List Value)(Tb:TypeId)(i:Nat)(f:Nat->Int)(E:bR)(sp:ax)(hn:c.aA<=4096)(hs:∀p∈s.aF,p.bF)(hl:s.aF.length<=1000000)(hi:c.di.l[i]? =some sp)(Py:sp.bF)(hb:∀x∈sp.xs,0<=x/\x<c.aA)(hff:∀e,e<sp.xs.length->i64 (f e))
 (hg:∀ar w,(callFunc g ar).run Tryz.prog w= .ok (.enter g ar) w)
 (hof:∀R w' b (e:Nat),e<sp.xs.length->w'.heap[b]? =some (.cells cells.toArray Tb (0,0))->E.holds R w'->Calls Tryz.prog g #[.int .i64 e,.pointer (some ⟨b,0,none⟩)] w' λen w''=>en= .returned (.int .i64 (f e))/\Ext w' w'')
 (hm:BM 0 (Ph d v i2 i3 i4++[(5,some ib)]) (kC c s vl cells Tb)=true) (hls:yQ (Ph d v i2 i3 i4++[(5,some ib)]) (kC c s vl cells Tb) ((ib,.box (cs cells) Tb)::(rest++yU c s vl d v i2 i3 i4))=rest) (ha:args=SV.xY (Ph d v i2 i3 i4++[(5,some ib)]:Map).app [.lp 0 0 0 0,aC i,.fn (.func g) [] [.lp 5 0 0 0]])
 (hA:∀R w,S.holds R w->(((iQ s.aF).and (wJ c)).and E).holds R w) (G:Nat->Prop) (hG:∀R w,S.holds R w->∀b,G b->R b)
 (h:∀u:ax,u.xs=bU c.aA sp.xs f->u.bF->K (aC (aS s u).2) (rest++yU c (aS s u).1 vl d v (nx+2) (nx+3) (nx+4)) (S.and ((bX u).off G)) (nx+6)):aJ cx 69 args ((ib,.box (cs cells) Tb)::(rest++yU c s vl d v i2 i3 i4)) S nx K:=by
 have hin:∀q∈yU c s vl d v i2 i3 i4,q∈(ib,b_.box (cs cells) Tb)::(rest++yU c s vl d v i2 i3 i4):=λq hq=>aeg _ (aeh.2 (.inr hq));refine Wd (K':=λw H' S' nx'=>∃u:ax,(u.xs=bU c.aA sp.xs f/\u.bF)/\w=aC (aS s u).2/\H'=rest++Vj (BN 2 nx (Ph d v i2 i3 i4++[(5,some ib)])) (kC c (aS s u).1 vl cells Tb)/\S'=S.and ((bX u).off G)/\nx'=nx+6) (CL hP (Ph d v i2 i3 i4++[(5,some ib)]) c s vl g cells Tb i f E sp hn hs hl hi Py hb hff hg hof hm ⟨hin _ aj,hin _ aj,hin _ aj,hin _ aj,hin _ aj,Me YV,trivial⟩ ⟨_,rfl⟩ ⟨_,rfl⟩ ha hA G hG (λu h1 h2=>⟨u,⟨h1,h2⟩,rfl,by rw[hls],rfl,rfl⟩)) ?_;rintro w H' S' nx' ⟨u,⟨h1,h2⟩,rfl,rfl,rfl,rfl⟩;refine⟨_,?_,h u h1 h2⟩;have e:Vj (BN 2 nx (Ph d v i2 i3 i4++[(5,some ib)])) (kC c (aS s u).1 vl cells Tb)=yU c (aS s u).1 vl d v (nx+2) (nx+3) (nx+4)++[(nx+5,(b_.box (cs cells) Tb).ren (BN 2 nx (Ph d v i2 i3 i4++[(5,some ib)])))]:=rfl;rw[e,<-ahZ];exact List.sublist_append_left _ _
end
section
theorem aho{xs:List Int}{j:Nat}{v:Int}{K:Value->Prop}(hj:j<xs.length)(e:xs.getD j 0=v)(h:K (.int .i64 v)):rQ (aZ xs) j 0 K:=by
 subst e;exact uV hj h
structure rE(c:fT)(k:Nat)(s:fu):Prop where
 ok:yC c s
 yF:s.aF.length<=k
 y9:s.code.length<=k
variable {c:fT} {k:Nat} {s:fu}
theorem rE.lay(h:rE c k s)(op a b x:Int):rE c (k+1) (eH s op a b x):=⟨De h.ok _ _ _ _,Nat.le_succ_of_le h.yF,by show(s.code++_).length<=_;rw[adx,ag_];have:=h.y9;omega⟩
variable {u:ax}
theorem rE.plain(h:rE c k s)(hu:u.bF):rE c (k+1) (aS s u).1:=⟨y_ h.ok hu,by have:=Z6 s u;have:=h.yF;omega,by rw[uf];exact Nat.le_succ_of_le h.y9⟩
theorem rE.zero(h:rE c k s)(hu:u.bF)(x:Int):rE c (k+2) (zeroV s u x):=(h.plain hu).lay _ _ _ _
variable {R:Nat->Prop} {w:World}
theorem t_(h:(iQ s.aF).holds R w)(hu:(bX u).holds R w):(iQ (aS s u).1.aF).holds R w:=by
 unfold aS;split
 ·exact h
 ·exact aaC h hu
theorem lY{old:List ax}{G:Nat->Prop}(h:((Q6 old s.aF).off G).holds R w)(hu:((bX u).off G).holds R w):((Q6 old (aS s u).1.aF).off G).holds R w:=by
 unfold aS;split
 ·exact h
 ·intro v hv;rcases aeh.1 hv with hv|hv
  ·exact h v hv
  ·rw[afe.1 hv];exact .inr hu
theorem sU(s:fu)(op a b k:Int):bI s.pl op a b k=((eH s op a b k).pl,(s.code.length:Int)):=rfl
theorem oU{n:Nat}{sl:List Int}{f:Nat->Int}(hu:u.xs=bU n sl f):bH n s.pl sl f=((aS s u).1.pl,(aS s u).2):=by
 unfold bH;rw[<-hu,<-DK]
theorem Qg{n:Nat}{x:Int}(hu:u.xs=List.replicate n 0):vB n s.pl x=((zeroV s u x).pl,(s.code.length:Int)):=by
 unfold vB;rw[<-hu,<-DK];simp only[sU,uf]
 rfl
end
def Xa:Go.Shelf.Ren:=⟨λ|4=>155|n=>n,λ|0=>0|3=>3|4=>4|9=>9|20=>20|22=>32|25=>3|n=>n,λn=>n⟩
theorem agU:Go.Proofs.Lays8.n4 Tryz.prog Xa:={
 mixed:=by kernel_rfl
 f4:=⟨ "slices.Grow[[]int,int]",by rfl,Tryz.func155.trans (congrArg some bg)⟩
 t0:=Tryz.underlying0
 a0:=Tryz.isAgg0
 z0:=Tryz.sizeOf0
 v0:=Tryz.zeroValue0
 t3:=Tryz.underlying3
 a3:=Tryz.isAgg3
 z3:=Tryz.sizeOf3
 v3:=Tryz.zeroValue3
 t4:=Tryz.underlying4
 a4:=Tryz.isAgg4
 z4:=Tryz.sizeOf4
 v4:=Tryz.zeroValue4
 t9:=Tryz.underlying9
 a9:=Tryz.isAgg9
 z9:=Tryz.sizeOf9
 v9:=Tryz.zeroValue9
 t20:=Tryz.underlying20
 a20:=Tryz.isAgg20
 z20:=Tryz.sizeOf20
 v20:=Tryz.zeroValue20
 t22:=Tryz.underlying32
 a22:=Tryz.isAgg32
 z22:=Tryz.sizeOf32
 v22:=Tryz.zeroValue32
}
theorem aex(w:World)(x:Int)(n:Nat)(hx:x=n)(h0:0<n)(hn:n<=1000000000):
 Calls Tryz.prog 155 #[.slice none 0 0,.int .i64 x] w λe w'=>∃v,e= .returned v/\Ext w w'/\je w w' v 1 3 []:=by
 subst hx;have hi:∃i,Tryz.prog.info? 3=some i/\i.zero=some (.int .i64 0)/\i.size=1/\i.bytes=8:=by
  have h:(Tryz.prog.info? 3).map (λi=>(i.zero,i.size,i.bytes))=some (some (.int .i64 0),1,8):=by kernel_rfl
  cases hi:Tryz.prog.info? 3 with
  |none=>rw[hi]at h;cases h
  |some i=>
   rw[hi]at h;simp only[amk,Option.some.injEq,Prod.mk.injEq]at h;exact⟨i,rfl,h⟩
 obtain⟨i,h1,h2,h3,h4⟩:=hi;refine(Any8.slices_Grow_grow agU i (.int .i64 0) h1 h2 aa none 0 0 n [] w (Tw _) aa (by rw[h4];omega) aa aI (λ_=>rfl) (λa h=>by cases h)).mono ?_;rintro e w' ⟨rfl,rfl⟩;refine⟨_,rfl,(Ext.trans (show Ext w w.drew from⟨rfl,rfl,rfl,Tw _,λ_ _=>rfl⟩) (Ke w.drew _)),⟨some ⟨w.heap.size,0,none⟩,_⟩,rfl,λb=>b=w.heap.size,λb hb=>by omega,by simp,aae _,.inr ⟨w.heap.size,0,_,rfl,λ_=>Iff.rfl,oP w.drew _,?_,?_⟩⟩
 ·have:=grownCap_le w (0+n) 0 3;show 0+grownCap w (0+n) 0 3*1<=_;have e:Xa.t 25=3:=rfl;rw[e];simp[Builtin.zeroCells,Value.cells];omega
 ·intro i r h;cases h
theorem ZF(w:World)(a:Addr)(cap:Nat)(u v:ax)(hr:bE w (some a) 1 [[u.val],[v.val]])(hu:u.ok w)(hv:v.ok w)(h0:0<u.xs.length+v.xs.length):
 Calls Tryz.prog 129 #[.slice (some a) 2 cap] w λe w'=>∃x,e= .returned x/\Ext w w'/\je w w' x 1 3 (aZ (u.xs++v.xs)):=by
 obtain⟨ub,uc,us⟩:=u;obtain⟨vb,vc,vs⟩:=v;obtain⟨hu,_,_,hfu⟩:=hu;obtain⟨hv,_,_,hfv⟩:=hv;simp only[ax.val]at*;have eu:=aP us;have ev:=aP vs;refine fH Tryz.func129 [.c (.slice (some a) 2 cap)] ?_;repeat' ((conv=>whnf)<;>first|refine a_ ?_)
 refine Wp.rounds 3 ?_;repeat' ((conv=>whnf)<;>first|refine AO ?_|refine zP ?_|(show aJ _ 155 ..;refine jy (f:=155) Tryz.call155 1 3 (λ_:Unit=>[]) (λ_=>True) (λρ w' hw=>(aex w' _ (us.length+vs.length) aa h0 aa).mono (λe w2 h=>⟨(),trivial,h⟩)) (λ_ _=> ?_))|refine a_ ?_|refine ag ?_ ?_<;>intro _)
 refine Wp.rounds 3 ?_;have nil:∀{l:List Int},bE w none 1 (aZ l)->l=[]:=λ{l} h=>ahV (by
  rcases h with h|⟨a,h,_⟩
  ·have:=congrArg List.length h
   rwa[aP]at this
  ·cases h)
 have e:List.take (([]:List (List Value)).length+(aZ us).length) (List.take ([]:List (List Value)).length []++aZ us)=aZ us:=by simp
 cases ub<;>cases vb
 ·have:=nil hu;subst this;have:=nil hv;subst this;exact absurd h0 ay
 ·have:=nil hu;subst this;repeat' ((conv=>whnf)<;>first|refine AO ?_|refine zP ?_|(show tV ..;refine kF (aP _) (λR w' h=>aH h hv) kJ ?_)|refine FW ?_|refine Fq ?_|refine a_ ?_|refine ag ?_ ?_<;>intro _)
  all_goals(conv=>whnf)
  exact gT (xs:=aZ ([]++vs)) (λ_ _ h=>h) rfl (by rw[akg];exact .head _) Ar
 ·have:=nil hv;subst this;repeat' ((conv=>whnf)<;>first|refine AO ?_|refine zP ?_|(show tV ..;refine kF (aP _) (λR w' h=>aH h hu) kJ ?_)|refine FW ?_|refine Fq ?_|refine a_ ?_|refine ag ?_ ?_<;>intro _)
  all_goals(conv=>whnf)
  exact gT (xs:=aZ (us++[])) (λ_ _ h=>h) rfl (by rw[ajM us,e,ajM (aZ us)];exact .head _) Ar
 ·repeat' ((conv=>whnf)<;>first|refine AO ?_|refine zP ?_|(show tV ..;(first|refine kF (aP us) (λR w' h=>aH h hu) kJ ?_|refine kF (aP vs) (λR w' h=>aH h hv) kJ ?_))|refine FW ?_|refine Fq ?_|refine a_ ?_|refine ag ?_ ?_<;>intro _)
  all_goals(conv=>whnf)
  exact gT (xs:=aZ (us++vs)) (λ_ _ h=>h) rfl (by rw[e,show aZ (us++vs)=aZ us++aZ vs by simp[aZ]];exact .head _) Ar
section
abbrev iR:=SX.Loc×List Int
def Nj(p:iR):List Value:=[.slice p.1.base p.2.length p.1.cap]
def iM(L:List iR):List (List Value):=L.map Nj
def nK(L:List iR):List zi:=L.map λp=>(p.1,p.2.map (Value.int .i64))
def DIs(n:Nat)(p:iR):Prop:=(p.1=⟨none,0⟩/\p.2=[])\/((∃b off,p.1.base=some ⟨b,off,none⟩)/\p.2.length=n/\n<=p.1.cap)
structure DOk(n:Nat)(L:List iR):Prop where
 len:L.length=n
 each:∀p∈L,DIs n p
def nu(n:Nat)(D:List (List Int))(s f w:Int):List (List Int):=
 if w=0 then D else D.set ((f-s+n)%n).toNat ((if D.getD ((f-s+n)%n).toNat []=[]then List.replicate n 0 else D.getD ((f-s+n)%n).toNat []).set s.toNat w)
def Ct(n:Nat)(fr row:List Int)(s:Int)(D:List (List Int))(k:Nat):List (List Int):=(List.range k).foldl (λD i=>nu n D s (fr.getD i 0) (row.getD i 0)) D
def pQ(n:Nat)(rows:List (List Int))(fr to:List Int)(o:Nat):List (List Int):=(List.range o).foldl (λD o=>Ct n fr (rows.getD o []) (to.getD o 0) D fr.length) (List.replicate n [])
theorem Yg(n:Nat)(fr row:List Int)(s:Int)(D:List (List Int))(k:Nat):Ct n fr row s D (k+1)=nu n (Ct n fr row s D k) s (fr.getD k 0) (row.getD k 0):=by simp[Ct,ait]
theorem VJ(n:Nat)(rows:List (List Int))(fr to:List Int)(o:Nat):pQ n rows fr to (o+1)=Ct n fr (rows.getD o []) (to.getD o 0) (pQ n rows fr to o) fr.length:=by simp[pQ,ait]
theorem He(L:List iR):(iM L).length=L.length:=by simp[iM]
variable {L:List iR} {d:Nat}
theorem tq{p:iR}(h:L[d]? =some p):(iM L)[d]? =some (Nj p):=by simp[iM,h]
theorem H8{p:iR}(h:L[d]? =some p):(nK L)[d]? =some (p.1,p.2.map (Value.int .i64)):=by simp[nK,h]
theorem yJ(L:List iR)(d:Nat)(p:iR):iM (L.set d p)=(iM L).set d (Nj p):=by simp[iM,alq]
theorem Ic(L:List iR)(d:Nat)(p:iR):nK (L.set d p)=(nK L).set d (p.1,p.2.map (Value.int .i64)):=by simp[nK,alq]
theorem DOk.set{n d:Nat}{L:List iR}{p:iR}(h:DOk n L)(hp:DIs n p):DOk n (L.set d p):=⟨by rw[ajc];exact h.len,λq hq=>by
 rcases anz hq with hq|hq
 ·exact h.each q hq
 ·rw[hq];exact hp⟩
def Cb(n:Nat):List iR:=List.replicate n (⟨none,0⟩,[])
theorem ahs(n:Nat):DOk n (Cb n):=⟨by simp[Cb],λp hp=> .inl Ns⟩
theorem Vy(n:Nat):(Cb n).map Prod.snd=List.replicate n []:=by simp[Cb]
theorem Ru(n:Nat):iM (Cb n)=List.replicate n [.slice none 0 0]:=by simp[iM,Cb,Nj]
theorem Vu(n:Nat):nK (Cb n)=List.replicate n (⟨none,0⟩,[]):=by simp[nK,Cb]
theorem H6{p:iR}(h:L[d]? =some p):(L.map Prod.snd).getD d []=p.2:=by simp[List.getD,h]
variable {s f w:Int}
theorem afC{n:Nat}{p:iR}{l:SX.Loc}(hd:L[d]? =some p)(hp:p.2=[])(hw:w≠0)(hdd:(f-s+n)%n=d):(L.set d (l,(List.replicate n 0).set s.toNat w)).map Prod.snd=nu n (L.map Prod.snd) s f w:=by
 rw[nu,if_neg hw,hdd,ahh,H6 hd,if_pos hp,alq]
theorem agl{n:Nat}{p:iR}(hd:L[d]? =some p)(hp:p.2≠[])(hw:w≠0)(hdd:(f-s+n)%n=d):(L.set d (p.1,p.2.set s.toNat w)).map Prod.snd=nu n (L.map Prod.snd) s f w:=by
 rw[nu,if_neg hw,hdd,ahh,H6 hd,if_neg hp,alq]
theorem amK{n:Nat}(h:0<=s/\s<n)(hf:0<=f/\f<n):∃d:Nat,(f-s+n)%n=d/\d<n/\0<=f-s+n:=by
 have h1:0<=(f-s+n)%n:=alL _ aa;have h2:(f-s+n)%n<n:=akS _ aa;exact⟨((f-s+n)%n).toNat,by omega,by omega,by omega⟩
variable {t:TypeId} {ti:TI} {ox oy:Operand} {K:SV->Prop}
theorem ahU{P:Program}(h:lu P t=some ti)(hk:ti.ai=1)(hK:K (.c (.bool true))):mi P (do eqGuard .eql t ox oy (.slice none 0 0) (.slice none 0 0);binOp .eql t (.slice none 0 0) (.slice none 0 0)) K:=ji h hk hK
theorem ajO{P:Program}(h:lu P t=some ti)(hk:ti.ai=1){base:Option Addr}{a:Addr}{len cap:Nat}(e:base=some a)(hK:K (.c (.bool false))):mi P (do eqGuard .eql t ox oy (.slice base len cap) (.slice none 0 0);binOp .eql t (.slice base len cap) (.slice none 0 0)) K:=by
 subst e;exact ji h hk hK
end
end Go.Proofs.YtgndjjdeopfdkaaGreat

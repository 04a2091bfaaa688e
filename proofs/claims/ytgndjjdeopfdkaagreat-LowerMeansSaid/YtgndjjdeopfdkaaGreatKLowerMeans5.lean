import Derived.Test.YtgndjjdeopfdkaaGreatRows
import Derived.Test.YtgndjjdeopfdkaaGreatKLowerMeans4
/- texts GO IU of the proof of LowerMeansSaid -/
set_option maxHeartbeats 16000000
set_option maxRecDepth 20000
set_option linter.unusedVariables false
set_option linter.unusedSimpArgs false
namespace Go.Proofs.YtgndjjdeopfdkaaGreat
open Go.SX Go.RowKit
section
abbrev akT:DT:=(bS [0,1,2,3,4,5,6,7,8,9,10,11,12,13,14,15,16,17,18,19,20,21,122,23] .done)
abbrev alg:DT:=(bS [0,1,2,3,4,5,6,7,8,9,10,11,12,13,14,115,16] .done)
def qd(w:World)(n:ak)(l:List ax)(r:Option (List Int))(e:Ending)(w':World):Prop:=
 ∃v:Value,e= .returned v/\Ext w w'/\(r=none->v= .slice none 0 0)/\
  ∀xs,r=some xs->∃u:ax,v=u.val/\u.xs=xs/\(u=n.az\/u∈l\/(u.bF/\(bX u).holds (λb=>w.heap.size<=b/\b<w'.heap.size) w'))
section
variable {B:Base} {H:Heap} {S:bR} {nx:Nat} {w:World} {n:ak} {l:List ax} {r:Option (List Int)}
theorem Dm(u:ax)(hb:∀R w',S.holds R w'->(aU B.w0).holds R w')(hw0:B.w0=w)(hu:u=n.az\/u∈l)(hr:r=some u.xs):jS B (.c u.val) H S nx (qd w n l r):=by
 subst hw0 hr;exact dK λρ w' hw=>⟨_,rfl,bG hw hb,(λh=>by cases h),λxs h=>⟨u,rfl,by simpa using h,hu.elim .inl λh=> .inr (.inl h)⟩⟩
theorem XQ(hb:∀R w',S.holds R w'->(aU B.w0).holds R w')(hw0:B.w0=w)(hr:r=none):jS B (.c (.slice none 0 0)) H S nx (qd w n l r):=by
 subst hw0 hr;exact dK λρ w' hw=>⟨_,rfl,bG hw hb,λ_=>rfl,λxs h=>by cases h⟩
theorem J2{i m:Nat}{xs:List Int}(hb:∀R w',S.holds R w'->(aU B.w0).holds R w')(hw0:B.w0=w)(he:(i,b_.rows (aZ xs) 1 3)∈H)(hm:m=xs.length)(hf:∀x∈xs,-9223372036854775808<=x/\x<=9223372036854775807)(hl:xs.length<=1000000)(hr:r=some xs):
 jS B (.os i m) H S nx (qd w n l r):=by
 subst hw0 hr hm;refine dK λρ w' hw=> ?_;have hn:=fI hw hb he;rw[aP]at hn;obtain⟨u,h1,h2,h3,h4⟩:=vv hn hf hl;exact⟨_,rfl,bG hw hb,(λh=>by cases h),λys h=>⟨u,h1,by rw[h2];simpa using h,.inr (.inr ⟨h3,h4⟩)⟩⟩
end
theorem uJ(w:World)(s:ax)(h:s.ok w):Calls Tryz.prog 42 #[s.val] w λe w'=>e= .returned (.int .i64 (au s.xs))/\Ext w w':=kr w s.base s.cap s.xs h.rows
theorem ae6{n:ak}(h:n.ai=1\/n.ai=2):∃r,q8 n.ai=some (false::r)/\(false::r).length=7:=by
 rcases h with h|h<;>rw[h]<;>unfold q8<;>exact⟨_,rfl,rfl⟩
theorem aac{n:ak}{at_:Nat}(hf:Ac n at_)(h:¬(n.ai=1\/n.ai=2)):∃r,q8 n.ai=some (true::r)/\(true::r).length=7:=by
 have h2:=hf.ai;have:n.ai=3\/n.ai=4\/n.ai=5\/n.ai=6\/n.ai=7\/n.ai=8\/n.ai=9:=by omega
 rcases this with h|h|h|h|h|h|h<;>rw[h]<;>unfold q8<;>exact⟨_,rfl,rfl⟩
theorem TV(w:World)(n:ak)(hn:n.ok w)(sv:aY)(h12:n.ai=1\/n.ai=2):
 Calls Tryz.prog 80 #[.agg n.cells.toArray,sv.val] w (qd w n sv.l (bP n (sv.l.map (·.xs)))):=by
 have hsp:bP n (sv.l.map (·.xs))=some n.az.xs:=by unfold bP;rw[if_pos h12]
 obtain⟨r,hm,hr⟩:=ae6 h12;refine fH Tryz.func80 [.agg (vo n),.c sv.val] ?_;repeat' ((conv=>whnf)<;>first|(show aJ _ 133 ..;refine jH (f:=133) (false::r) 7 hr Tryz.call133 (λρ w' hw=>qW w' n.ai _ hm) (λm am hml jW hmn=> ?_))|(show dn ..;refine aM am 0 jW rfl aa ?_)|(show gZ ..;(refine bJ (j:=0) (λR w' h=>aG hml jW h.2) (by rw[hr];decide) ?_))|refine bV ?_|refine ag ?_ ?_<;>intro _)
 all_goals(conv=>whnf)
 all_goals exact Dm (B:=⟨w,[]⟩) (S:=(aU w).and ((fM m).past w.heap.size)) n.az (λ_ _ h=>h.1) rfl (.inl rfl) hsp
theorem OX(w:World)(n:ak)(hn:n.ok w)(sv:aY)(hs:sv.ok w)(hf:Ac n sv.l.length)(hg:∀s∈sv.l,0<au s.xs)(h12:¬(n.ai=1\/n.ai=2)):
 Calls Tryz.prog 80 #[.agg n.cells.toArray,sv.val] w (qd w n sv.l (bP n (sv.l.map (·.xs)))):=by
 obtain⟨r,hm,hr⟩:=aac hf h12;obtain⟨ha0,ha1⟩:=hf.a aa aa;obtain⟨i,hia⟩:=amo ha0;have hil:i<sv.l.length:=by omega
 obtain⟨s,hi⟩:∃s,sv.l[i]? =some s:=⟨_,YL hil⟩;have hA:(sv.l.map (·.xs)).getD n.a.toNat []=s.xs:=by rw[hia];simp[List.getD,hi]
 have hg:=hg s (adu hi);have hso:=hs.each s (adu hi);have hri:(bA sv.l)[i]? =some [s.val]:=by rw[fQ hil,(abH.1 hi).2]
 obtain⟨b,hb⟩:∃a,sv.base=some a:=aT (j:=i) hs.rows FR;obtain⟨hl1,hl3,hd⟩:=g_ hg;obtain⟨a,hsb⟩:=hso.base aa;have hd0:0<s.xs.length->1<=s.xs.getD 0 0/\s.xs.getD 0 0<=64:=λh=>hd _ (cu h);have hd1:1<s.xs.length->1<=s.xs.getD 1 0/\s.xs.getD 1 0<=64:=λh=>hd _ (cu h);have hd2:2<s.xs.length->1<=s.xs.getD 2 0/\s.xs.getD 2 0<=64:=λh=>hd _ (cu h);have hz:=hf.pool;have hq1:n.ai=5->1<s.xs.length->0<=s.xs.getD 1 0/n.size/\s.xs.getD 1 0/n.size<=64:=λg h=>by have:=hz g;exact⟨amv aa aa,aha (aku _ aa) aa⟩
 have hq2:n.ai=5->2<s.xs.length->0<=s.xs.getD 2 0/n.size/\s.xs.getD 2 0/n.size<=64:=λg h=>by have:=hz g;exact⟨amv aa aa,aha (aku _ aa) aa⟩
 have hbi:=hf.aQ;have hmu:n.ai=3->0<=(n.aQ.xs.length:Int)*au s.xs/\(n.aQ.xs.length:Int)*au s.xs<=4096:=λg=>by
  have h1:=dN s.xs;have h2:(n.aQ.xs.length:Int)*au s.xs<=64*64:=ag8 (by have:=hbi g;omega) h1.2 h1.1 aa;have h3:0<=(n.aQ.xs.length:Int)*au s.xs:=agJ aa h1.1;omega
 have hkd:n.ai=4->n.az.xs.length=4/\(1<=n.az.xs.getD 0 0/\n.az.xs.getD 0 0<=64)/\(1<=n.az.xs.getD 1 0/\n.az.xs.getD 1 0<=64)/\(1<=n.az.xs.getD 2 0/\n.az.xs.getD 2 0<=64)/\(1<=n.az.xs.getD 3 0/\n.az.xs.getD 3 0<=64):=λg=>by
  obtain⟨hk4,hkd⟩:=uu (hf.acS g);exact⟨hk4,hkd _ (cu aa),hkd _ (cu aa),hkd _ (cu aa),hkd _ (cu aa)⟩
 obtain⟨c,hc⟩:=lN hn.az;have hE:=dN [n.az.xs.getD 0 0,s.xs.getD 1 0-n.az.xs.getD 2 0+1,s.xs.getD 2 0-n.az.xs.getD 3 0+1];by_cases h6:n.ai=6
 ·obtain⟨hb0,hb1⟩:=hf.b h6;obtain⟨j,hjb⟩:=amo hb0;have hjl:j<sv.l.length:=by omega
  obtain⟨t,hj⟩:∃t,sv.l[j]? =some t:=⟨_,YL hjl⟩;have hB:(sv.l.map (·.xs)).getD n.b.toNat []=t.xs:=by rw[hjb];simp[List.getD,hj]
  have hto:=hs.each t (adu hj);have hrj:(bA sv.l)[j]? =some [t.val]:=by rw[fQ hjl,(abH.1 hj).2]
  have hsp:bP n (sv.l.map (·.xs))=if s.xs=t.xs then some s.xs else none:=by
   unfold bP;simp only[hA,hB];repeat(first|rw[if_pos aa]|rw[if_neg aa])
  refine fH Tryz.func80 [.agg (vo n),.c sv.val] ?_;repeat' ((conv=>whnf)<;>first|(show aJ _ 133 ..;refine jH (f:=133) (true::r) 7 hr Tryz.call133 (λρ w' hw=>qW w' n.ai _ hm) (λm am hml jW hmn=> ?_))|(show dn ..;(first|refine aM am 0 jW rfl aa ?_|refine aM b i hb hia hil ?_|refine aM b j hb hjb hjl ?_))|(show gZ ..;(first|refine bJ (j:=0) (λR w' h=>aG hml jW h.2) (by rw[hr];decide) ?_|refine bN (λR w' h=>by rw[<-hb];exact aH h.1 hs.rows) _ _ hri rfl ?_|refine bN (λR w' h=>by rw[<-hb];exact aH h.1 hs.rows) _ _ hrj rfl ?_))|(show aJ _ 20 ..;((refine jR (f:=20) Tryz.call20 _ (λρ w' hw=>Nv w' s t (ae hw λR h=>hso.later h.1) (ae hw λR h=>hto.later h.1)) ?_ ?_<;>intro he)))|refine bV ?_|refine ag ?_ ?_<;>intro _)
  all_goals(conv=>whnf)
  ·exact Dm (B:=⟨w,[]⟩) (S:=(aU w).and ((fM m).past w.heap.size)) s (λ_ _ h=>h.1) rfl (.inr (adu hi)) (hsp.trans (if_pos (of_decide_eq_true he)))
  ·exact XQ (B:=⟨w,[]⟩) (S:=(aU w).and ((fM m).past w.heap.size)) (λ_ _ h=>h.1) rfl (hsp.trans (if_neg (of_decide_eq_false he)))
 ·refine fH Tryz.func80 [.agg (vo n),.c sv.val] ?_;repeat' ((conv=>whnf)<;>first|(show aJ _ 133 ..;refine jH (f:=133) (true::r) 7 hr Tryz.call133 (λρ w' hw=>qW w' n.ai _ hm) (λm am hml jW hmn=> ?_))|(show dn ..;(first|refine aM am 0 jW rfl aa ?_|refine aM b i hb hia hil ?_))|(show gZ ..;(first|refine bJ (j:=0) (λR w' h=>aG hml jW h.2) (by rw[hr];decide) ?_|refine bN (λR w' h=>by rw[<-hb];exact aH h.1 hs.rows) _ _ hri rfl ?_))|(show dn ..;refine aM _ 0 hsb rfl aa ?_)|(show gZ ..;refine dP (λR w' h=>hso.at_ hsb R w' h.1) (j:=0) aa ?_)|(show dn ..;refine aM _ 1 hsb rfl aa ?_)|(show gZ ..;refine dP (λR w' h=>hso.at_ hsb R w' h.1) (j:=1) aa ?_)|(show dn ..;refine aM _ 2 hsb rfl aa ?_)|(show gZ ..;refine dP (λR w' h=>hso.at_ hsb R w' h.1) (j:=2) aa ?_)|(show dn ..;refine aM _ 0 (hc aa) rfl aa ?_)|(show gZ ..;refine dP (λR w' h=>hn.az.at_ (hc aa) R w' h.1) (j:=0) aa ?_)|(show dn ..;refine aM _ 1 (hc aa) rfl aa ?_)|(show gZ ..;refine dP (λR w' h=>hn.az.at_ (hc aa) R w' h.1) (j:=1) aa ?_)|(show dn ..;refine aM _ 2 (hc aa) rfl aa ?_)|(show gZ ..;refine dP (λR w' h=>hn.az.at_ (hc aa) R w' h.1) (j:=2) aa ?_)|(show dn ..;refine aM _ 3 (hc aa) rfl aa ?_)|(show gZ ..;refine dP (λR w' h=>hn.az.at_ (hc aa) R w' h.1) (j:=3) aa ?_)|(show jQ _ 42 ..;refine jo (f:=42) Tryz.call42 _ (λρ w' hw=>uJ w' s (ae hw λR h=>hso.later h.1)) ?_)|(show aJ _ 42 [.c s.val] ..;refine aR (f:=42) Tryz.call42 _ (λρ w' hw=>uJ w' s (ae hw λR h=>hso.later h.1)) ?_)|(show aJ _ 42 [.c n.az.val] ..;refine aR (f:=42) Tryz.call42 _ (λρ w' hw=>uJ w' n.az (ae hw λR h=>hn.az.later h.1)) ?_)|(show aJ _ 42 [.os 1 3] ..;refine aR (f:=42) Tryz.call42 _ (λρ w' hw=>kr w' (ρ 1).base (ρ 1).cap [n.az.xs.getD 0 0,s.xs.getD 1 0-n.az.xs.getD 2 0+1,s.xs.getD 2 0-n.az.xs.getD 3 0+1] (eZ hw YV)) ?_)|refine mG ?_|refine pK ?_|(show cO _ 15 ..;refine mV [] _ akT ?_)|(show cO _ 22 ..;refine mV [] _ alg ?_)|refine bV ?_|refine ag ?_ ?_<;>intro _)
  all_goals(conv=>whnf)
  all_goals first
   |exact XQ (B:=⟨w,[]⟩) (S:=(aU w).and ((fM m).past w.heap.size)) (λ_ _ h=>h.1) rfl sF
   |exact Dm (B:=⟨w,[]⟩) (S:=(aU w).and ((fM m).past w.heap.size)) s (λ_ _ h=>h.1) rfl (.inr (adu hi)) sF
   |exact Dm (B:=⟨w,[]⟩) (S:=(aU w).and ((fM m).past w.heap.size)) n.az (λ_ _ h=>h.1) rfl (.inl rfl) sF
   |exact J2 (B:=⟨w,[]⟩) (S:=(aU w).and ((fM m).past w.heap.size)) (xs:=[(n.aQ.xs.length:Int)]) (λ_ _ h=>h.1) rfl YV rfl Pp aI sF
   |exact J2 (B:=⟨w,[]⟩) (S:=(aU w).and ((fM m).past w.heap.size)) (xs:=[s.xs.getD 0 0,s.xs.getD 1 0/n.size,s.xs.getD 2 0/n.size]) (λ_ _ h=>h.1) rfl YV rfl (mem3 aa aa aa) aI sF
   |exact J2 (B:=⟨w,[]⟩) (S:=(aU w).and ((fM m).past w.heap.size)) (xs:=[n.az.xs.getD 0 0,s.xs.getD 1 0-n.az.xs.getD 2 0+1,s.xs.getD 2 0-n.az.xs.getD 3 0+1]) (λ_ _ h=>h.1) rfl YV rfl (mem3 aa aa aa) aI sF
theorem UY(w:World)(n:ak)(hn:n.ok w)(sv:aY)(hs:sv.ok w)(hf:Ac n sv.l.length)(hg:∀s∈sv.l,0<au s.xs):
 Calls Tryz.prog 80 #[.agg n.cells.toArray,sv.val] w (qd w n sv.l (bP n (sv.l.map (·.xs)))):=by
 by_cases h12:n.ai=1\/n.ai=2
 ·exact TV w n hn sv h12
 ·exact OX w n hn sv hs hf hg h12
end
section
variable {H:Heap} {S:bR} {nx:Nat}
theorem Wo{cx:Cx}{f:FuncId}{args:List SV}{K:SV->Heap->bR->Nat->Prop}{n:ak}{l:List ax}(R0:Option (List Int))(hf:∀ar w,(callFunc f ar).run cx.P w= .ok (.enter f ar) w)
 (hn:∀R w',S.holds R w'->n.az.ok w') (hl:∀u∈l,∀R w',S.holds R w'->u.ok w') (hpos:∀xs,R0=some xs->0<xs.length)
 (hc:∀ρ w',dO cx.B ρ nx H S w'->Calls cx.P f (SV.dW ρ args).toArray w' (qd w' n l R0))
 (h0:R0=none->K (.c (.slice none 0 0)) H S nx)
 (h1:∀(a:Addr) (cap:Nat) (xs:List Int) (S':bR),R0=some xs->(∀R w',S'.holds R w'->S.holds R w'/\(⟨some a,cap,xs⟩:ax).ok w')->(⟨some a,cap,xs⟩:ax).bF->K (.c (.slice (some a) xs.length cap)) H S' nx):aJ cx f args H S nx K:=by
 rw[fZ];refine⟨hf,λρ w hw=>(hc ρ w hw).mono ?_⟩;rintro e w' ⟨v,rfl,he,hnone,hv⟩;have hw':=hw.ext he;cases hr:R0 with
 |none=>
  rw[hnone hr];exact⟨.c (.slice none 0 0),ρ,H,S,nx,rfl,λ_ _=>rfl,Tw _,SV.iW _,hw',h0 hr⟩
 |some xs=>
  obtain⟨u,rfl,hu,hcase⟩:=hv xs hr;obtain⟨ub,uc,us⟩:=u;simp only at hu;subst hu;have old:∀(hok:∀R w',S.holds R w'->(⟨ub,uc,us⟩:ax).ok w'),∃v' ρ' H' S' nx',Ending.returned (ax.val ⟨ub,uc,us⟩)= .returned (v'.rf ρ')/\(∀i,i<nx->ρ' i=ρ i)/\nx<=nx'/\v'.lt nx'/\dO cx.B ρ' nx' H' S' w'/\K v' H' S' nx':=λhok=>by
   have h:=ae hw' λR h=>hok R w' h;obtain⟨a,ha⟩:=h.base (hpos us hr);simp only at ha;subst ha;exact⟨.c (.slice (some a) us.length uc),ρ,H,S,nx,rfl,λ_ _=>rfl,Tw _,SV.iW _,hw',h1 a uc us S hr (λR w'' g=>⟨g,hok R w'' g⟩) h.bF⟩
  rcases hcase with hcase|hcase|⟨xz,hnew⟩
  ·exact old (λR w' h=>hcase▸hn R w' h)
  ·exact old (hl _ hcase)
  ·have hg:=hw.grow (D:=bX ⟨ub,uc,us⟩) he hnew;have h:(⟨ub,uc,us⟩:ax).ok w':=dw xz hnew;obtain⟨a,ha⟩:=h.base (hpos us hr);simp only at ha;subst ha;exact⟨.c (.slice (some a) us.length uc),ρ,H,_,nx,rfl,λ_ _=>rfl,Tw _,SV.iW _,hg,h1 a uc us _ hr (λR w'' g=>⟨g.1,dw xz ((bX _).mono g.2 (λb hb=>hb.1))⟩) xz⟩
variable {i:Nat} {T:TypeId}
theorem ag6{B:Base}{ρ:Nat->SX.Loc}{w:World}{m:Nat}{R:List (List Value)}{xs:List Int}(hw:dO B ρ nx H S w)(he:(i,b_.rows R 1 T)∈H)(hR:R=aZ xs)(hm:m=xs.length)(hf:∀x∈xs,i64 x)(hl:xs.length<=1000000):
 Calls Tryz.prog 81 (SV.dW ρ [.os i m]).toArray w λe w'=>e= .returned (.bool (nR xs))/\Ext w w':=by
 obtain⟨v,e1,rfl,hv⟩:=OI hw he hR hm hf hl;rw[e1];exact BU w v hv
theorem aaA(us:List ax)(l:SX.Loc)(xs:List Int):(i,b_.rows (bA (us++[ax.mk l.base l.cap xs])) 1 T)∈(i,b_.rows (List.take us.length (bA us)++[[.slice l.base (0+(aZ xs).length) l.cap]]) 1 T)::H:=by
 have e:Value.slice l.base (0+(aZ xs).length) l.cap=ax.val ⟨l.base,l.cap,xs⟩:=by rw[aP,aiD];rfl
 rw[e];exact yA us _
theorem U7(w:World)(g:bM)(hg:g.ok w):Calls Tryz.prog 34 #[g.val] w (oW w (check g)):=by
 by_cases hc:g.l.length<1\/24<g.l.length\/g.out<0\/(g.l.length:Int)<=g.out
 ·have hs:check g=(3,[]):=by unfold check;rw[if_pos hc]
  rw[hs];refine fH Tryz.func34 [.agg [.c (.slice g.base g.l.length g.cap),aC g.out]] ?_;repeat' ((conv=>whnf)<;>first|refine a_ ?_|refine ag ?_ ?_<;>intro _)
  all_goals exact mX (λ_ _ h=>h) rfl rfl ay
 ·have hs:check g=fq g.l []:=by unfold check;rw[if_neg hc]
  rw[hs];obtain⟨a,ha⟩:∃a,g.base=some a:=aT (j:=0) hg.rows ko;refine fH Tryz.func34 [.agg [.c (.slice g.base g.l.length g.cap),aC g.out]] ?_;repeat' ((conv=>whnf)<;>first|refine a_ ?_|refine ag ?_ ?_<;>intro _)
  refine Wp.loop (σ:=Nat×List ax) 2 (λ⟨k,us⟩=>[(32,.c (.slice g.base g.l.length g.cap)),(33,aC g.l.length),(34,aC k),(4,.os 1 k)]) (λ⟨_,us⟩=>[(1,.rows (bA us) 1 32)]) (λ⟨_,us⟩=>(aU w).and (rT w.heap.size us))
   (λ⟨k,us⟩=>k<=g.l.length/\us.length=k/\(∀u∈us,u.bF/\0<au u.xs)/\fq g.l []=fq (g.l.drop k) (us.map (·.xs))) (λs=>g.l.length-s.1) (0,[]) [(1,none)] ay (λs=>⟨rfl,rfl⟩) ⟨by simp,rfl,by simp,rfl⟩ ⟨rfl,⟨rfl,rfl,rfl,rfl,trivial⟩,⟨rfl,trivial⟩,λR w' h=>⟨h,yD _ _ _⟩⟩ ?_
  rintro⟨k,us⟩ ⟨hk,I4,iL,he⟩;by_cases hlt:k<g.l.length
  ·rw[drop_at hlt]at he;have hn:=hg.each _ (aby hlt);have hsm:=hg.small _ (aby hlt);generalize hnk:g.l[k]=n at*;have hrow:(bO g.l)[k]? =some n.cells:=by rw[fP hlt,hnk]
   subst I4;have hgs:∀s∈us.map (·.xs),0<au s:=λs hs=>by obtain⟨u,hu,rfl⟩:=abl.1 hs;exact(iL u hu).2
   have hlm:(us.map (·.xs)).length=us.length:=aas _;have fL:∀x∈[n.lo,n.hi],i64 x:=by intro x hx;simp at hx;rcases hx with rfl|rfl;exact hn.nk;exact hn.ng
   repeat' ((conv=>whnf)<;>first|(show dn ..;refine aM a us.length ha rfl hlt ?_)|refine A_ ?_|(show aJ _ 79 ..;((refine jR (f:=79) Tryz.call79 _ (λρ w' hw=>Xu w' n (ae hw λR h=>hn.later h.1) us.length) ?_ ?_<;>intro hform)))|(show aJ _ 80 ..;(refine Wo (f:=80) (n:=n) (l:=us) (bP n (us.map λx:ax=>x.xs)) Tryz.call80 (λR w' h=>hn.az.later h.1) (λu hu R w' h=>dw (iL u hu).1 ((bX u).mono (h.2 u hu) (λb hb=>hb.1))) (λxs hr=>(g_ (jG (n:=n) (sh:=us.map λx:ax=>x.xs) Qi hgs hr rfl)).1) (λρ w' hw=>UY w' n (ae hw λR h=>hn.later h.1) ⟨(ρ 1).base,(ρ 1).cap,us⟩ (Og hw (aeg _ YV) (λR w' h=>h.2) iL aa) (dJ hform) (λs hs=>(iL s hs).2)) (λhr=> ?_) (λua uc xs S' hr hS' xz=> ?_)))|(show aJ _ 81 [.c n.data.val] ..;((refine jR (f:=81) Tryz.call81 _ (λρ w' hw=>BU w' n.data (ae hw λR h=>hn.data.later (hS' _ _ h).1.1)) ?_ ?_<;>intro hnd)))|(show aJ _ 81 [.c n.aQ.val] ..;((refine jR (f:=81) Tryz.call81 _ (λρ w' hw=>BU w' n.aQ (ae hw λR h=>hn.aQ.later (hS' _ _ h).1.1)) ?_ ?_<;>intro hnb)))|(show aJ _ 81 ..;((refine jR (f:=81) Tryz.call81 _ (λρ w' hw=>ag6 hw YV (xs:=[n.lo,n.hi]) rfl rfl fL aI) ?_ ?_<;>intro hnl)))|(show mi ..;(first|refine Eo (ti 32 rfl) rfl ?_|refine Gz (ti 32 rfl) rfl rfl ?_))|(show tV ..;refine kF (aP xs) (λR w' h=>(hS' R w' h).2.rows) kJ ?_)|(show qN _ ((_,b_.rows (_++aZ _) _ _)::_) _ _ _;refine sH w.heap.size (λR w' h b hb=>((hS' R w' h).1.1 b hb).1) (λl hl=> ?_))|(show Gn ..;(refine mg (by first|exact aae _|(rw[acN];exact Tw _)) ?_))|(show jv ..;(refine fU (by first|(show(us.length+1)*24<=140737488355328;omega)|(show(0+(aZ xs).length)*8<=140737488355328;rw[aP];have:=xz.few;simp only at this;omega)) ?_))|refine a_ ?_|refine ag ?_ ?_<;>intro _)
   all_goals(conv=>whnf)
   ·exact mX (B:=⟨w,[]⟩) (λ_ _ h=>h.1) rfl (he.trans (rz ja hr)) ay
   ·exact mX (B:=⟨w,[]⟩) (λR w' h=>(hS' R w' h).1.1) rfl (he.trans (kL ja hr (by unfold gP;rw[hnd,hnb,hnl,decide_eq_false aa];rfl))) ay
   ·exact⟨(us.length+1,us++[ax.mk l.base l.cap xs]),[(1,some 7)],⟨hlt,by simp,Jp iL ⟨xz.fits,by simpa[aP]using hl,xz.few⟩ (jG Fu hgs hr rfl),he.trans ((iE ja hr (by unfold gP;rw[hnd,hnb,hnl,decide_eq_true aa];rfl)).trans (by rw[afn];rfl))⟩,by simp only;omega,rfl,fE,⟨aaA us l xs,trivial⟩,λR w' h=>⟨(hS' R w' h.1).1.1,mR (hS' R w' h.1).1.2 h.2⟩⟩
   ·exact mX (B:=⟨w,[]⟩) (λR w' h=>(hS' R w' h).1.1) rfl (he.trans (kL ja hr (by unfold gP;rw[hnl];simp))) ay
   ·exact mX (B:=⟨w,[]⟩) (λR w' h=>(hS' R w' h).1.1) rfl (he.trans (kL ja hr (by unfold gP;rw[hnb];simp))) ay
   ·exact mX (B:=⟨w,[]⟩) (λR w' h=>(hS' R w' h).1.1) rfl (he.trans (kL ja hr (by unfold gP;rw[hnd];simp))) ay
   ·exact mX (B:=⟨w,[]⟩) (λ_ _ h=>h.1) rfl (he.trans (tZ ja)) ay
  ·rw[amC aa]at he;subst I4;repeat' ((conv=>whnf)<;>first|refine a_ ?_|refine ag ?_ ?_<;>intro _)
   conv=>whnf
   exact aoW (B:=⟨w,[]⟩) (λ_ _ h=>h.1) (λ_ _ h=>h.2) (λu hu=>(iL u hu).1) rfl YV rfl he
end
section
structure ax.raw(w:World)(v:ax):Prop where
 rows:bE w v.base 1 (aZ v.xs)
 fits:∀x∈v.xs,-9223372036854775808<=x/\x<=9223372036854775807
 room:v.xs.length<=v.cap
structure ak.raw(w:World)(n:ak):Prop where
 az:n.az.raw w
 data:n.data.raw w
 aQ:n.aQ.raw w
 lQ:i64 n.ai
 Cr:i64 n.a
 yh:i64 n.b
 nk:i64 n.lo
 ng:i64 n.hi
 lV:i64 n.size
structure bM.raw(w:World)(g:bM):Prop where
 rows:bE w g.base 9 (bO g.l)
 each:∀n∈g.l,n.raw w
 U4:i64 g.out
variable {w w':World} {R:Nat->Prop} {v:ax}
theorem ax.raw.later(h:v.raw w)(hb:(aU w).holds R w'):v.raw w':=⟨aH hb h.rows,h.fits,h.room⟩
theorem ak.raw.later{w w':World}{R:Nat->Prop}{n:ak}(h:n.raw w)(hb:(aU w).holds R w'):n.raw w':=
 ⟨h.az.later hb,h.data.later hb,h.aQ.later hb,h.lQ,h.Cr,h.yh,h.nk,h.ng,h.lV⟩
theorem bM.raw.later{w w':World}{R:Nat->Prop}{g:bM}(h:g.raw w)(hb:(aU w).holds R w'):g.raw w':=⟨aH hb h.rows,λn hn=>(h.each n hn).later hb,h.U4⟩
theorem ax.raw.ok{w:World}{v:ax}(h:v.raw w)(hf:v.xs.length<=1000000):v.ok w:=⟨h.rows,h.fits,h.room,hf⟩
variable {cx:Cx} {f:FuncId} {args:List SV} {H:Heap} {S:bR} {nx:Nat} {K:SV->Heap->bR->Nat->Prop}
theorem BK(r:Int×List (List Int))(hf:∀ar w,(callFunc f ar).run cx.P w= .ok (.enter f ar) w)
 (hc:∀ρ w',dO cx.B ρ nx H S w'->Calls cx.P f (SV.dW ρ args).toArray w' (oW w' r))
 (h0:r.1≠0->K (.c (.tuple #[.slice none 0 0,.int .i64 r.1])) H S nx)
 (h1:r.1=0->∀sv:aY,sv.l.map (·.xs)=r.2->(∀u∈sv.l,u.bF)->sv.l.length<=sv.cap->K (.c (.tuple #[sv.val,.int .i64 0])) H (S.and ((jD sv).past cx.B.w0.heap.size)) nx):aJ cx f args H S nx K:=by
 rw[fZ];refine⟨hf,λρ w hw=>(hc ρ w hw).mono ?_⟩;rintro e w' ⟨v,rfl,he,hbad,hgood⟩;by_cases hr:r.1=0
 ·obtain⟨sv,rfl,hm,hs,hd,hcap⟩:=hgood hr;rw[hr];exact⟨.c (.tuple #[sv.val,.int .i64 0]),ρ,H,_,nx,rfl,λ_ _=>rfl,Tw _,SV.iW _,hw.grow he hd,h1 hr sv hm hs hcap⟩
 ·rw[hbad hr];exact⟨.c (.tuple #[.slice none 0 0,.int .i64 r.1]),ρ,H,S,nx,rfl,λ_ _=>rfl,Tw _,SV.iW _,hw.ext he,h0 hr⟩
theorem oD(r:Int×List (List Int))(hf:∀ar w,(callFunc f ar).run cx.P w= .ok (.enter f ar) w)
 (hc:∀ρ w',dO cx.B ρ nx H S w'->Calls cx.P f (SV.dW ρ args).toArray w' (oW w' r))
 (h0:r.1≠0->K (.c (.tuple #[.slice none 0 0,.int .i64 r.1])) H S nx)
 (h1:r.1=0->∀sv:aY,sv.l.map (·.xs)=r.2->(∀u∈sv.l,u.bF)->K (.c (.tuple #[sv.val,.int .i64 0])) H (S.and ((jD sv).past cx.B.w0.heap.size)) nx):aJ cx f args H S nx K:=
 BK r hf hc h0 (λe sv hm hs _=>h1 e sv hm hs)
end
section
structure gF where
 base:Option Addr
 cap:Nat
 bs:List Nat
def gF.val(v:gF):Value:= .slice v.base v.bs.length v.cap
def EU(l:List Nat):List (List Value):=l.map λ(x:Nat)=>[Value.int .u8 (x:Int)]
theorem Qx(l:List Nat):(EU l).length=l.length:=by simp[EU]
theorem Z4{l:List Nat}{k:Nat}(h:k<l.length):(EU l)[k]? =some [.int .u8 ((l[k]:Nat):Int)]:=by simp[EU,h]
def bytesD(v:gF):bR:=f_ v.base 1 (EU v.bs)
def iK:bR:=⟨λ_ _=>True,λ_ _ h=>h⟩
def iH(t:gF)(k:Nat):List Value:=[t.val,.int .i64 k]
structure u7(w:World)(b:Nat)(t:gF)(k:Nat):Prop where
 small:t.bs.length<=1000000
 bytes:∀x∈t.bs,x<=255
 data:(bytesD t).holds (oth w b) w
 at_:k<=t.bs.length
 box:w.heap[b]? =some (.cells (iH t k).toArray 49 (0,0))
variable {H:Heap} {S:bR} {nx:Nat}
theorem Pe{α:Type}{w:World}{b:Nat}{T:TypeId}{val:α->Value}{cells:α->List Value}{D:α->bR}{p:α->Prop}{v:SV}(x:α)(hp:p x)(hv:∀ρ,v.rf ρ=val x)(he:(0,b_.box (cs (cells x)) T)∈H)
 (hS:∀R w',S.holds R w'->(l_ w b).holds R w') (hD:∀R w',S.holds R w'->((D x).past w.heap.size).holds R w'):jS ⟨w,[(0,mQ b)]⟩ v H S nx (Md w b T val cells D p):=
 dK λρ w' hw=>⟨x,hp,by rw[hv],(qR hw hS he).1,(qR hw hS he).2,abS hw hD⟩
abbrev Mc(w:World)(b:Nat)(t:gF)(p:Int->Prop):Ending->World->Prop:=
 Md w b 49 (λx:Int×Nat=> .int .i64 x.1) (λx=>iH t x.2) (λ_=>iK) (λx=>p x.1/\x.2<=t.bs.length)
theorem iB(w:World)(b:Nat)(t:gF)(k:Nat)(h:u7 w b t k)(n:Int)(hn:i64 n):
 Calls Tryz.prog 40 #[.pointer (some ⟨b,0,none⟩),.int .i64 n] w (Mc w b t λr=>0<=r/\(2<=n->r<n)/\(n<2->r=0)):=by
 obtain⟨hs,hby,hd,hk,hb⟩:=h;by_cases hc:n<2\/t.bs.length<=k
 ·refine pq tab bW Tryz.func40 rfl rfl rfl [(0,mQ b)] (λ_=>mQ b) [.lp 0 0 0 0,aC n] _ (l_ w b) 1 oo rfl fO (xn hb) ?_;repeat' ((conv=>whnf)<;>first|refine bV ?_|refine ag ?_ ?_<;>intro _)
  all_goals(conv=>whnf)
  all_goals exact Pe (0,k) ⟨⟨aem 0,λh=>(by show(0:Int)<n;omega),λ_=>rfl⟩,hk⟩ (λ_=>rfl) YV (λ_ _ h=>h) (λ_ _ _=>trivial)
 ·have hlt:k<t.bs.length:=by omega
  obtain⟨a,ha⟩:∃a,t.base=some a:=by
   rcases hd.2 with h|⟨x,off,h,_⟩
   ·have:=congrArg List.length h;rw[Qx,amn]at this;omega
   ·exact⟨_,h⟩
  have hx:=hby _ (aby hlt);have hm:0<=((t.bs[k]:Nat):Int)%n/\((t.bs[k]:Nat):Int)%n<n:=⟨alL _ aa,akS _ aa⟩;refine pq tab bW Tryz.func40 rfl rfl rfl [(0,mQ b)] (λ_=>mQ b) [.lp 0 0 0 0,aC n] _ (l_ w b) 1 oo rfl fO (xn hb) ?_;repeat' ((conv=>whnf)<;>first|(show dn ..;refine aM a k ha aa hlt ?_)|(show gZ ..;(refine bN (λR w' h=>by rw[<-ha];exact bf (bC hd h)) _ _ (Z4 hlt) rfl ?_))|refine mG ?_|refine bV ?_|refine ag ?_ ?_<;>intro _)
  conv=>whnf
  exact Pe (_,k+1) ⟨⟨hm.1,λ_=>hm.2,λh=>by omega⟩,hlt⟩ (λ_=>rfl) YV (λ_ _ h=>h) (λ_ _ _=>trivial)
abbrev RP{α:Type}(w:World)(b:Nat)(t:gF)(val:α->Value)(D:α->bR)(p:α->Prop):Ending->World->Prop:=
 Md w b 49 (λx:α×Nat=>val x.1) (λx=>iH t x.2) (λx=>D x.1) (λx=>p x.1/\x.2<=t.bs.length)
variable {cx:Cx} {f:FuncId} {K:SV->Heap->bR->Nat->Prop}
theorem M0{args:List SV}
 (h:aJ cx f args H S nx (λv H' S' nx'=>∃S2:bR,(∀R w,S'.holds R w->S2.holds R w)/\K v H' S2 nx')):aJ cx f args H S nx K:=by
 rw[fZ]at h|-
 refine⟨h.1,λρ w hw=>(h.2 ρ w hw).mono ?_⟩;rintro e w' ⟨v,ρ',H',S',nx',h1,h2,h3,h4,h5,S2,h6,h7⟩;exact⟨v,ρ',H',S2,nx',h1,h2,h3,h4,h5.sub (af7 _) h6,h7⟩
variable {i:Nat}
theorem wY{α:Type}(rest:List Value)(t:gF)(k:Nat)(val:α->Value)(D:α->bR)(p:α->Prop)(hi:(i,b_.box (cs (iH t k)) 49)∈H)(hf:∀ar w,(callFunc f ar).run cx.P w= .ok (.enter f ar) w)
 (hsm:t.bs.length<=1000000) (hby:∀x∈t.bs,x<=255) (hk:k<=t.bs.length) (hS:∀R w',S.holds R w'->(bytesD t).holds R w')
 (hc:∀R w' b,u7 w' b t k->S.holds R w'->(∀x,R x->oth w' b x)->Calls cx.P f (Value.pointer (some ⟨b,0,none⟩)::rest).toArray w' (RP w' b t val D p))
 (h:∀x k',p x->k'<=t.bs.length->K (.c (val x)) (setH i (.box (cs (iH t k')) 49) H) (S.and ((D x).past cx.B.w0.heap.size)) nx):aJ cx f (.lp i 0 0 0::cs rest) H S nx K:=by
 refine XJ hi hf (λx:α×Nat=>val x.1) (λx=>iH t x.2) (λx=>D x.1) (λx=>p x.1/\x.2<=t.bs.length) ?_ (λx hx=>h x.1 x.2 hx.1 hx.2);intro R ρ w' b hw hR hRo hρ hb;rw[mF]at hb;have:=hc R w' b ⟨hsm,hby,(bytesD t).mono (hS R w' hR) hRo,hk,hb⟩ hR hRo;have e:SV.dW ρ (.lp i 0 0 0::cs rest)=Value.pointer (some ⟨b,0,none⟩)::rest:=by
  simp only[SV.dW,SV.rf,mF,hρ,amk,fG]
 rw[e];exact this
theorem eY(rest:List Value)(t:gF)(k:Nat)(p:Int->Prop)(hi:(i,b_.box (cs (iH t k)) 49)∈H)(hf:∀ar w,(callFunc f ar).run cx.P w= .ok (.enter f ar) w)
 (hsm:t.bs.length<=1000000) (hby:∀x∈t.bs,x<=255) (hk:k<=t.bs.length) (hS:∀R w',S.holds R w'->(bytesD t).holds R w')
 (hc:∀w' b,u7 w' b t k->Calls cx.P f (Value.pointer (some ⟨b,0,none⟩)::rest).toArray w' (Mc w' b t p))
 (h:∀r k',p r->k'<=t.bs.length->K (aC r) (setH i (.box (cs (iH t k')) 49) H) S nx):aJ cx f (.lp i 0 0 0::cs rest) H S nx K:=
 M0 (wY rest t k (λr:Int=> .int .i64 r) (λ_=>iK) p hi hf hsm hby hk hS (λ_ w' b ht _ _=>hc w' b ht) (λr k' hp hk'=>⟨S,λ_ _ h=>h.1,h r k' hp hk'⟩))
theorem qI(w:World)(b:Nat)(t:gF)(k:Nat)(h:u7 w b t k):
 Calls Tryz.prog 87 #[.pointer (some ⟨b,0,none⟩)] w (Mc w b t λr=> -4<=r/\r<=4):=by
 obtain⟨hs,hby,hd,hk,hb⟩:=h;refine pq tab bW Tryz.func87 rfl rfl rfl [(0,mQ b)] (λ_=>mQ b) [.lp 0 0 0 0] _ (l_ w b) 1 oo rfl Gj (xn hb) ?_;repeat' ((conv=>whnf)<;>first|(show aJ _ 40 ..;refine eY (f:=40) [.int .i64 9] t k _ YV Tryz.call40 hs hby hk (λR w' h=>bC hd h) (λw' b' ht=>iB w' b' t k ht 9 ⟨by decide,by decide⟩) (λr k' hr hk'=> ?_))|refine a_ ?_)
 conv=>whnf
 exact Pe (_,k') ⟨⟨by have:=hr.1;omega,by have:=hr.2.1 aa;omega⟩,hk'⟩ (λ_=>rfl) YV (λ_ _ h=>h) (λ_ _ _=>trivial)
end
section
variable {H:Heap} {xs:List Int}
theorem ade{w:World}{b:Nat}{t:gF}{p:ax->Prop}{S:bR}{nx j m k:Nat}(h0:(0,b_.box (cs (iH t k)) 49)∈H)(he:(j,b_.rows (aZ xs) 1 3)∈H)(hj:j≠0)(hm:m=xs.length)(hf:∀x∈xs,i64 x)(hl:xs.length<=1000000)(hk:k<=t.bs.length)
 (hp:∀u:ax,u.xs=xs->u.bF->p u) (hS:∀R w',S.holds R w'->(l_ w b).holds R w'):jS ⟨w,[(0,mQ b)]⟩ (.os j m) H S nx (RP w b t ax.val bX p):=by
 subst hm;refine dK λρ w' hw=> ?_;have hn:=Od hw hS h0 he hj;rw[aP]at hn;obtain⟨u,e,h1,h2,h3⟩:=vv hn hf hl;exact⟨(u,k),⟨hp u h1 h2,hk⟩,by rw[e],(qR hw hS h0).1,(qR hw hS h0).2,h3⟩
def nA(xs:List Int):Prop:=∀x∈xs,-4<=x/\x<=4
theorem vR(h:nA xs):∀x∈xs,i64 x:=λx hx=>⟨by have:=(h x hx).1;omega,by have:=(h x hx).2;omega⟩
theorem VP{x:Int}(h:nA xs)(hx: -4<=x/\x<=4):nA (xs++[x]):=by
 intro y hy;rcases aeh.1 hy with hy|hy
 ·exact h y hy
 ·simp at hy;subst hy;exact hx
theorem Jb(xs:List Int)(x:Int){i:Nat}{T:TypeId}:(i,b_.rows (aZ (xs++[x])) 1 T)∈(i,b_.rows (List.take xs.length (aZ xs)++[[.int .i64 x]]) 1 T)::H:=by
 rw[show aZ (xs++[x])=List.take xs.length (aZ xs)++[[.int .i64 x]] by rw[aen oG];simp[aZ]];exact YV
abbrev ahy(w:World)(b:Nat)(t:gF)(n:Int):Ending->World->Prop:=RP w b t ax.val bX (λu=>u.xs.length=n.toNat/\nA u.xs/\u.bF)
theorem Bf(w:World)(b:Nat)(t:gF)(k:Nat)(h:u7 w b t k)(n:Int)(hn:n<=1000000)(hn0:0<=n):
 Calls Tryz.prog 88 #[.pointer (some ⟨b,0,none⟩),.int .i64 n] w (ahy w b t n):=by
 obtain⟨hs,hby,hd,hk,hb⟩:=h;refine pq tab bW Tryz.func88 rfl rfl rfl [(0,mQ b)] (λ_=>mQ b) [.lp 0 0 0 0,aC n] _ (l_ w b) 1 oo rfl fO (xn hb) ?_;repeat' ((conv=>whnf)<;>first|refine a_ ?_|refine ag ?_ ?_<;>intro _)
 refine Wp.loop (σ:=Nat×Nat×List Int) 2 (λ⟨i,_,_⟩=>[(0,.lp 0 0 0 0),(1,aC n),(5,.os 1 i),(6,aC i)]) (λ⟨_,k,xs⟩=>[(1,.rows (aZ xs) 1 3),(0,.box (cs (iH t k)) 49)]) (λ_=>l_ w b)
  (λ⟨i,k,xs⟩=>(i:Int)<=n/\k<=t.bs.length/\xs.length=i/\nA xs) (λs=>n.toNat-s.1) (0,k,[]) [(1,none)] ay (λs=>⟨rfl,rfl⟩) ⟨hn0,hk,rfl,λx hx=>by simp at hx⟩ ⟨rfl,⟨rfl,rfl,rfl,rfl,trivial⟩,⟨rfl,YV,trivial⟩,λR w' h=>h⟩ ?_
 rintro⟨i,k,xs⟩ ⟨hi,hk,hl,hsm⟩;subst hl;by_cases hlt:(xs.length:Int)<n
 ·repeat' ((conv=>whnf)<;>first|(show aJ _ 87 ..;refine eY (f:=87) [] t k _ (aeg _ YV) Tryz.call87 hs hby hk (λR w' h=>bC hd h) (λw' b' ht=>qI w' b' t k ht) (λr k' hr hk'=> ?_))|refine Ag ?_|(show jv ..;(refine fU Nf ?_))|refine a_ ?_|refine ag ?_ ?_<;>intro _)
  exact⟨(xs.length+1,k',xs++[r]),[(1,some 3)],⟨by show((xs.length+1:Nat):Int)<=n;omega,hk',by simp,VP hsm hr⟩,by simp only;omega,rfl,fE,⟨Jb xs r,aeg _ (aeg _ (YV:(0,b_.box (cs (iH t k')) 49)∈(0,b_.box (cs (iH t k')) 49)::[])),trivial⟩,λR w' h=>h⟩
 ·repeat' ((conv=>whnf)<;>first|refine a_ ?_|refine ag ?_ ?_<;>intro _)
  conv=>whnf
  exact ade (aeg _ YV) YV ay rfl (vR hsm) aa hk (λu hu hs=>⟨by rw[hu];omega,hu▸hsm,hs⟩) (λ_ _ h=>h)
end
section
def ak.p9(n:ak):Value:= .agg n.cells.toArray
def cK:ax:=⟨none,0,[]⟩
def y5(n:ak)(al:Bool):bR where
 holds R w:=(al=false->(bX n.az).holds R w)/\(bX n.data).holds R w/\(bX n.aQ).holds R w
 stable:=λhR hw h=>⟨λe=>(bX n.az).stable hR hw (h.1 e),(bX n.data).stable hR hw h.2.1,(bX n.aQ).stable hR hw h.2.2⟩
theorem dI(R:Nat->Prop)(w:World):(bX cK).holds R w:=⟨λr hr=>by simp[cK,aZ]at hr,.inl rfl⟩
variable {w:World} {b nx j m:Nat} {H:Heap} {S:bR} {xs:List Int}
theorem xM{w':World}{ρ:Nat->SX.Loc}{cells:List SV}{T:TypeId}(hw:dO ⟨w,[(0,mQ b)]⟩ ρ nx H S w')(hS:∀R w',S.holds R w'->(l_ w b).holds R w')(h0:(0,b_.box cells T)∈H)(he:(j,b_.rows (aZ xs) 1 3)∈H)(hj:j≠0)(hm:m=xs.length)(hf:∀x∈xs,i64 x)(hl:xs.length<=1000000):
 ∃u:ax,(SV.os j m).rf ρ=u.val/\u.xs=xs/\u.bF/\(bX u).holds (λy=>w.heap.size<=y/\y<w'.heap.size) w':=by
 subst hm;have hn:=Od hw hS h0 he hj;rw[aP]at hn;exact vv hn hf hl
structure Made(n:ak):Prop where
 az:n.az.bF
 data:n.data.bF
 aQ:n.aQ.bF
 alR:n.az.xs.length<=4
 ah5:n.data.xs.length<=1000
 aic:n.aQ.xs.length<=200
 lQ:i64 n.ai
 Cr:i64 n.a
 yh:i64 n.b
 nk:i64 n.lo
 ng:i64 n.hi
 lV:i64 n.size
theorem iC:cK.bF:=⟨by simp[cK],Tw _,by simp[cK]⟩
structure uH(s:List Int):Prop where
 pos:0<au s
 few:au s<=18
 three:s.length=3->s.getD 0 0<=2/\s.getD 1 0*s.getD 2 0<=9
structure ab3(n:ak):Prop where
 made:Made n
 ai:n.ai=1
 a:n.a=0
 b:n.b=0
 az:uH n.az.xs
 lo: -4<=n.lo/\n.lo<=4
 hi:n.lo<=n.hi/\n.hi<=9
 size:n.size=0
 data:n.data=cK
 aQ:n.aQ=cK
abbrev agq(w:World)(b:Nat)(t:gF):Ending->World->Prop:=RP w b t ak.p9 (λn=>y5 n false) ab3
theorem z0:i64 0:=⟨by decide,by decide⟩
theorem z1:i64 1:=⟨by decide,by decide⟩
theorem xP(h:(xs.all λx=>decide (0<=x/\x<=1000))=true):∀x∈xs,i64 x:=λx hx=>by
 have:=akM.1 h x hx;simp only[decide_eq_true_eq]at this;exact⟨by omega,by omega⟩
theorem oq{t:gF}{k:Nat}{lo hi:Int}(h0:(0,b_.box (cs (iH t k)) 49)∈H)(he:(j,b_.rows (aZ xs) 1 3)∈H)(hj:j≠0)(hm:m=xs.length)(hx:∀x∈xs,i64 x)(hl:xs.length<=3)(hen:uH xs)(hk:k<=t.bs.length)
 (hlo: -4<=lo/\lo<=4) (hhi:lo<=hi/\hi<=9) (hS:∀R w',S.holds R w'->(l_ w b).holds R w'):
 jS ⟨w,[(0,mQ b)]⟩ (.agg [aC 1,aC 0,aC 0,.os j m,aC lo,aC hi,aC 0,.c (.slice none 0 0),.c (.slice none 0 0)]) H S nx (agq w b t):=by
 refine dK λρ w' hw=> ?_;obtain⟨u,e,h1,h2,h3⟩:=xM hw hS h0 he hj hm hx aa;refine⟨(⟨1,0,0,u,lo,hi,0,cK,cK⟩,k),⟨⟨⟨h2,iC,iC,by rw[h1];omega,by simp[cK],by simp[cK],z1,z0,z0,⟨by simp only;omega,by simp only;omega⟩,⟨by simp only;omega,by simp only;omega⟩,z0⟩,rfl,rfl,rfl,by rw[h1];exact hen,hlo,hhi,rfl,rfl,rfl⟩,hk⟩,?_,(qR hw hS h0).1,(qR hw hS h0).2,λ_=>h3,dI _ _,dI _ _⟩;simp only[SV.rf,SV.dW]at e|-
 rw[e]
 rfl
theorem alK:uH [1]:=⟨by unfold au;decide,by unfold au;decide,by decide⟩
theorem alk:uH [2]:=⟨by unfold au;decide,by unfold au;decide,by decide⟩
theorem alA:uH [3]:=⟨by unfold au;decide,by unfold au;decide,by decide⟩
theorem akb:uH [2,2]:=⟨by unfold au;decide,by unfold au;decide,by decide⟩
theorem ahG:uH [1,2,2]:=⟨by unfold au;decide,by unfold au;decide,by decide⟩
theorem ahT:uH [2,2,1]:=⟨by unfold au;decide,by unfold au;decide,by decide⟩
theorem ahL:uH [1,3,3]:=⟨by unfold au;decide,by unfold au;decide,by decide⟩
theorem ahl:uH [1,4,2]:=⟨by unfold au;decide,by unfold au;decide,by decide⟩
theorem Q_(w:World)(b:Nat)(t:gF)(k:Nat)(h:u7 w b t k):
 Calls Tryz.prog 39 #[.pointer (some ⟨b,0,none⟩)] w (agq w b t):=by
 obtain⟨hs,hby,hd,hk,hb⟩:=h;refine pq tab bW Tryz.func39 rfl rfl rfl [(0,mQ b)] (λ_=>mQ b) [.lp 0 0 0 0] _ (l_ w b) 1 oo rfl Gj (xn hb) ?_;repeat' ((conv=>whnf)<;>first|refine a_ ?_)
 refine eY (f:=40) [.int .i64 8] t k _ aO Tryz.call40 hs hby hk (λR w' h=>bC hd h) (λw' b' ht=>iB w' b' t k ht 8 ⟨by decide,by decide⟩) (λr k1 hr hk1=> ?_);have hr8:r=0\/r=1\/r=2\/r=3\/r=4\/r=5\/r=6\/r=7:=by have:=hr.1;have:=hr.2.1 aa;omega
 rcases hr8 with rfl|rfl|rfl|rfl|rfl|rfl|rfl|rfl
 all_goals
  repeat' ((conv=>whnf)<;>first|refine a_ ?_)
  refine eY (f:=87) [] t k1 _ aO Tryz.call87 hs hby hk1 (λR w' h=>bC hd h) (λw' b' ht=>qI w' b' t k1 ht) (λlo k2 hlo hk2=> ?_);repeat' ((conv=>whnf)<;>first|refine a_ ?_)
  refine eY (f:=40) [.int .i64 6] t k2 _ aO Tryz.call40 hs hby hk2 (λR w' h=>bC hd h) (λw' b' ht=>iB w' b' t k2 ht 6 ⟨by decide,by decide⟩) (λr k3 hr hk3=> ?_);have hr1:=hr.1;have hr2:=hr.2.1 aa;repeat' ((conv=>whnf)<;>first|refine a_ ?_)
  conv=>whnf
 ·exact oq (j:=2) (xs:=[1]) aO aO ay rfl (xP rfl) ay alK hk3 hlo ⟨by omega,by omega⟩ (λ_ _ h=>h)
 ·exact oq (j:=3) (xs:=[2]) aO aO ay rfl (xP rfl) ay alk hk3 hlo ⟨by omega,by omega⟩ (λ_ _ h=>h)
 ·exact oq (j:=4) (xs:=[3]) aO aO ay rfl (xP rfl) ay alA hk3 hlo ⟨by omega,by omega⟩ (λ_ _ h=>h)
 ·exact oq (j:=5) (xs:=[2,2]) aO aO ay rfl (xP rfl) ay akb hk3 hlo ⟨by omega,by omega⟩ (λ_ _ h=>h)
 ·exact oq (j:=6) (xs:=[1,2,2]) aO aO ay rfl (xP rfl) ay ahG hk3 hlo ⟨by omega,by omega⟩ (λ_ _ h=>h)
 ·exact oq (j:=7) (xs:=[2,2,1]) aO aO ay rfl (xP rfl) ay ahT hk3 hlo ⟨by omega,by omega⟩ (λ_ _ h=>h)
 ·exact oq (j:=8) (xs:=[1,3,3]) aO aO ay rfl (xP rfl) ay ahL hk3 hlo ⟨by omega,by omega⟩ (λ_ _ h=>h)
 ·exact oq (j:=9) (xs:=[1,4,2]) aO aO ay rfl (xP rfl) ay ahl hk3 hlo ⟨by omega,by omega⟩ (λ_ _ h=>h)
end
structure aN where
 ai:Int
 a:Int
 b:Int
 az:List Int
 lo:Int
 hi:Int
 size:Int
 data:List Int
 aQ:List Int
def ak.pl(n:ak):aN:=⟨n.ai,n.a,n.b,n.az.xs,n.lo,n.hi,n.size,n.data.xs,n.aQ.xs⟩
def aN.toV(n:aN):ak:=⟨n.ai,n.a,n.b,⟨none,0,n.az⟩,n.lo,n.hi,n.size,⟨none,0,n.data⟩,⟨none,0,n.aQ⟩⟩
theorem Ja:∀{l m:List ak} (sh:List (List Int)),l.map ak.pl=m.map ak.pl->fq l sh=fq m sh
 |[],[],_,_=>rfl
 |[],_::_,_,h=>by simp at h
 |_::_,[],_,h=>by simp at h
 |x::l,y::m,sh,h=>by
  simp only[afY,List.cons.injEq]at h;have h1:cz x sh.length=cz y sh.length:=by
   have:∀z:ak,cz z sh.length=cz z.pl.toV sh.length:=λz=>by unfold cz gW;rfl
   rw[this x,this y,h.1]
  have h2:bP x sh=bP y sh:=by
   have:∀z:ak,bP z sh=bP z.pl.toV sh:=λz=>rfl;rw[this x,this y,h.1]
  have h3:gP x=gP y:=by
   have:∀z:ak,gP z=gP z.pl.toV:=λz=>by unfold gP;rfl
   rw[this x,this y,h.1]
  simp only[fq];rw[h1,h2,h3];split
  ·rfl
  ·cases bP y sh with
   |none=>rfl
   |some s=>
    simp only;split
    ·rfl
    ·exact Ja _ h.2
theorem Yw{g h:bM}(hl:g.l.map ak.pl=h.l.map ak.pl)(ho:g.out=h.out):check g=check h:=by
 unfold check;have e:g.l.length=h.l.length:=by simpa using congrArg List.length hl
 rw[e,ho,Ja [] hl]
theorem arI{w:World}{x y:ax}(hx:x.ok w)(hy:y.ok w)(he:x.xs=y.xs):Calls Tryz.prog 20 #[x.val,y.val] w λe w'=>e= .returned (.bool true)/\Ext w w':=by
 have:=Nv w x y hx hy;rw[decide_eq_true he]at this;exact this
structure bM.fit(w:World)(g:bM):Prop where
 rows:bE w g.base 9 (bO g.l)
 each:∀n∈g.l,n.ok w
 few:g.l.length<=1000000
theorem bM.fit.later{w w':World}{R:Nat->Prop}{g:bM}(h:g.fit w)(hb:(aU w).holds R w'):g.fit w':=⟨aH hb h.rows,λn hn=>(h.each n hn).later hb,h.few⟩
theorem pG:i64 0:=⟨by decide,by decide⟩
theorem WX:i64 1:=⟨by decide,by decide⟩
theorem Uu(w:World):(⟨none,0,[]⟩:ax).ok w:=⟨.inl rfl,by simp,Tw _,by simp⟩
open Go.ChangeShapes Go.WideShapes Go.ChangeAt
theorem own:ownKnob Tryz.prog.godebug=none:=by kernel_rfl
abbrev abM:DT:=(bS [0,1,2,3,4] (.alt 5 (bS [6,107,108] .done) (bS [107,105,6,108] .done)))
def kz(n:ak)(wE yg:Value)(c:Int):Value:= .agg #[.int .i64 n.ai,.int .i64 n.a,.int .i64 n.b,n.az.val,.int .i64 n.lo,.int .i64 n.hi,.int .i64 n.size,n.data.val,n.aQ.val,wE,yg,.int .i64 c]
theorem ae2(w:World)(n:ak)(sv:aY)(hs:sv.ok w)(i:Nat)(s:ax)(hi:sv.l[i]? =some s)(hk:n.ai≠3/\n.ai≠4/\n.ai≠5):Calls Tryz.prog 50 #[n.p9,sv.val,.int .i64 i] w λe w'=>e= .returned (kz n (.slice none 0 0) .nilFunc (au s.xs))/\Ext w w':=by
 obtain⟨hlt,hsi⟩:=abH.1 hi;have ug:=hs.few;obtain⟨a,ha⟩:∃a,sv.base=some a:=aT (j:=i) hs.rows pM;have hrow:=fQ hlt;rw[hsi]at hrow;have hss:=hs.each s (hsi▸aby hlt);refine fH Tryz.func50 [.agg (vo n),.c sv.val,aC i] ?_;repeat' ((conv=>whnf)<;>first|refine pR ?_|(show gZ ..;(refine bN (λR w' h=>by rw[<-ha];exact aH h hs.rows) _ _ hrow rfl ?_))|refine zJ ?_|(show cO _ 1 ..;refine mV [8] _ abM ?_)|refine a_ ?_|refine ag ?_ ?_<;>intro _|refine And.intro ?_ ?_)
 all_goals(conv=>whnf)
 all_goals exact bZ (λ_ _ h=>h) (λ_=>rfl) rfl
theorem jL{x y A B:Int}(hx: -A<=x/\x<=A)(hy: -B<=y/\y<=B): -(A*B)<=x*y/\x*y<=A*B:=by
 have hA:(0:Int)<=A:=by omega
 have hB:(0:Int)<=B:=by omega
 have h1:x.natAbs<=A.natAbs:=by omega
 have h2:y.natAbs<=B.natAbs:=by omega
 have h3:=alN h1 h2;rw[<-Int.natAbs_mul,<-Int.natAbs_mul]at h3;have h4:0<=A*B:=agJ hA hB;omega
theorem ahk{x y:Int}{K:Int->Prop}(hy:y≠0)(hx: -4611686018427387904<=x/\x<=4611686018427387904)(h:K (x.tdiv y)):yM .i64 x y K:=by
 rw[Cz];refine⟨hy,?_⟩;have h1:(x.tdiv y).natAbs<=x.natAbs:=by rw[Int.natAbs_tdiv];exact anJ _ _
 have h2:fF .i64 (x.tdiv y) K:=wrap_i64 aa aa h;rw[mZ]at h2;exact h2
def fJ(x:Int):Prop:= -1048576<=x/\x<=1048576
def iF(d:List Int)(v:Int):Int:=d.getD 2 0*v*v+d.getD 1 0*v+d.getD 0 0
theorem afM{a b c v:Int}(ha:fJ a)(hb:fJ b)(hc:fJ c)(hv:fJ v):(-1099511627776<=a*v/\a*v<=1099511627776)/\(-1152921504606846976<=a*v*v/\a*v*v<=1152921504606846976)/\(-1099511627776<=b*v/\b*v<=1099511627776):=by
 have h1:=jL (A:=1048576) (B:=1048576) ha hv;have h2: -1099511627776<=a*v/\a*v<=1099511627776:=h1;exact⟨h2,jL (A:=1099511627776) (B:=1048576) h2 hv,jL (A:=1048576) (B:=1048576) hb hv⟩
theorem iY{l:List Int}(h:∀x∈l,fJ x)(k:Nat):fJ (l.getD k 0):=by
 rcases ack k l.length with hk|hk
 ·exact h _ (cu hk)
 ·rw[TR,aiQ hk];exact⟨by decide,by decide⟩
theorem vK(w:World)(n:ak)(hd:n.data.ok w)(h3:n.data.xs.length=3)(hb:∀x∈n.data.xs,fJ x)(wE yg:Value)(c v:Int)(hv:fJ v):Calls Tryz.prog 107 #[kz n wE yg c,.int .i64 v] w λe w'=>e= .returned (.int .i64 (iF n.data.xs v))/\Ext w w':=by
 obtain⟨ua,rO⟩:=hd.base aa;have hur:∀(R:Nat->Prop) w',(aU w).holds R w'->bE w' (some ua) 1 (aZ n.data.xs):=λR w' h=>by rw[<-rO];exact aH h hd.rows
 have p0:=iY hb 0;have p1:=iY hb 1;have p2:=iY hb 2;obtain⟨q1,q2,q3⟩:=afM p2 p1 p0 hv;unfold fJ at p0 p1 p2;unfold iF;refine fH Tryz.func107 [.agg [aC n.ai,aC n.a,aC n.b,.c n.az.val,aC n.lo,aC n.hi,aC n.size,.c n.data.val,.c n.aQ.val,.c wE,.c yg,aC c],aC v] ?_;repeat' ((conv=>whnf)<;>first|refine oJ ?_|refine nY ?_|refine kZ ?_|refine kX ?_|refine jZ ?_|refine j6 ?_|refine bV ?_)
 conv=>whnf
 exact bZ (λ_ _ h=>h) (λ_=>rfl) rfl
section
abbrev ak4:DT:=(bS [0,1,2,3,4,5,6,7,8,9,10,11,12,13,14,15,116,17] .done)
abbrev aiu:DT:=(bS [0,1,2,4,5,6,103,107,108,9] .done)
variable {i:Nat} {H:Heap}
theorem Zv(xs:List Int)(x:Int){n:Nat}{T:TypeId}(hn:n=xs.length):(i,b_.rows (aZ (xs++[x])) 1 T)∈(i,b_.rows (List.take n (aZ xs)++[[.int .i64 x]]) 1 T)::H:=by
 subst hn;exact Jb xs x
abbrev Sp:=Int×Int
def o7(s:Sp):Value:= .agg #[.int .i64 s.1,.int .i64 s.2]
def LG:Nat->Int->List Int
 |0,_=>[]
 |n+1,v=>v::LG n (v+1)
def o6(d:List Int):Int:=(0-d.getD 1 0).tdiv (2*d.getD 2 0)
def loI(d:List Int)(a:Sp):Int:=max a.1 (o6 d-1)
def hiI(d:List Int)(a:Sp):Int:=min a.2 (o6 d+1)
def fA(n:ak)(a b:Sp):List Int:=
 if n.ai=1 then [n.lo,n.hi]
 else if n.ai=2 then n.data.xs
 else if n.ai=6 then [a.1+b.1,a.2+b.2]
 else if n.ai=7 then [n.data.xs.getD 0 0*a.1,n.data.xs.getD 0 0*a.2]
 else if n.ai=8 then(if n.data.xs.getD 2 0=0 then [iF n.data.xs a.1,iF n.data.xs a.2]else [iF n.data.xs a.1,iF n.data.xs a.2]++(LG (hiI n.data.xs a-loI n.data.xs a+1).toNat (loI n.data.xs a)).map (iF n.data.xs))
 else [a.1,a.2]
def ajC(x:ax×Bool):bR where
 holds R w:=x.2=false->(bX x.1).holds R w
 stable:=λhR hw h e=>(bX x.1).stable hR hw (h e)
def Co(w:World)(n:ak)(l:List Int)(e:Ending)(w':World):Prop:=
 ∃x:ax×Bool,(x.1.xs=l/\x.1.bF/\(x.2=true->x.1=n.data))/\e= .returned x.1.val/\Ext w w'/\(ajC x).holds (λb=>w.heap.size<=b/\b<w'.heap.size) w'
variable {B:Base} {S:bR} {nx:Nat} {w:World} {l:List Int}
theorem adT{n:ak}(hb:∀R w',S.holds R w'->(aU B.w0).holds R w')(hw0:B.w0=w)(hs:n.data.bF)(hl:n.data.xs=l):jS B (.c n.data.val) H S nx (Co w n l):=by
 subst hw0;exact dK λρ w' hw=>⟨(n.data,true),⟨hl,hs,λ_=>rfl⟩,rfl,bG hw hb,λh=>by cases h⟩
theorem rW{m:Nat}{n:ak}(hb:∀R w',S.holds R w'->(aU B.w0).holds R w')(hw0:B.w0=w)(he:(i,b_.rows (aZ l) 1 3)∈H)(hm:m=l.length)(hf:∀x∈l,i64 x)(hl:l.length<=1000000):jS B (.os i m) H S nx (Co w n l):=by
 subst hw0 hm;refine dK λρ w' hw=> ?_;have hn:=fI hw hb he;rw[aP]at hn;obtain⟨u,e1,e2,e3,e4⟩:=vv hn hf hl;exact⟨(u,false),⟨e2,e3,λh=>by cases h⟩,by rw[e1],bG hw hb,λ_=>e4⟩
structure aka(n:ak)(a b:Sp):Prop where
 ai:n.ai=1\/n.ai=2\/n.ai=6\/n.ai=7\/n.ai=8\/n.ai=9
 data:∀x∈n.data.xs,fJ x
 scale:n.ai=7->n.data.xs.length=1
 power:n.ai=8->n.data.xs.length=3
 lo:fJ n.lo
 hi:fJ n.hi
 a1:fJ a.1
 a2:fJ a.2
 b1:fJ b.1
 b2:fJ b.2
theorem Dx{x y:Int}(hx: -4611686018427387904<=x/\x<=4611686018427387904)(hy: -4611686018427387904<=y/\y<=4611686018427387904):∀z∈[x,y],i64 z:=λz hz=>by
 simp only[abr,aiF,or_false]at hz;unfold i64;rcases hz with rfl|rfl<;>omega
theorem L9{d:List Int}{v:Int}(hd:∀x∈d,fJ x)(hv:fJ v): -4611686018427387904<=iF d v/\iF d v<=4611686018427387904:=by
 obtain⟨q1,q2,q3⟩:=afM (iY hd 2) (iY hd 1) (iY hd 0) hv;have:=iY hd 0;unfold fJ at this;unfold iF;omega
theorem Zz(w:World)(n:ak)(hd:n.data.ok w)(wE yg:Value)(c:Int)(a b:Sp)(h:aka n a b):Calls Tryz.prog 51 #[kz n wE yg c,o7 a,o7 b] w (Co w n (fA n a b)):=by
 obtain⟨hk,hb,hsc,hpo,hlo,hhi,ha1,ha2,hb1,hb2⟩:=h;unfold fJ at ha1 ha2 hb1 hb2 hlo hhi;rcases hk with hk|hk|hk|hk|hk|hk
 ·have hL:fA n a b=[n.lo,n.hi]:=if_pos hk;rw[hL];refine fH Tryz.func51 [.agg [aC n.ai,aC n.a,aC n.b,.c n.az.val,aC n.lo,aC n.hi,aC n.size,.c n.data.val,.c n.aQ.val,.c wE,.c yg,aC c],.agg [aC a.1,aC a.2],.agg [aC b.1,aC b.2]] ?_;repeat' ((conv=>whnf)<;>first|refine bV ?_|refine ag ?_ ?_<;>intro _)
  conv=>whnf
  exact rW (λ_ _ h=>h) rfl aj rfl (Dx aa aa) aI
 ·have hL:fA n a b=n.data.xs:=by unfold fA;rw[if_neg aa,if_pos hk]
  rw[hL];refine fH Tryz.func51 [.agg [aC n.ai,aC n.a,aC n.b,.c n.az.val,aC n.lo,aC n.hi,aC n.size,.c n.data.val,.c n.aQ.val,.c wE,.c yg,aC c],.agg [aC a.1,aC a.2],.agg [aC b.1,aC b.2]] ?_;repeat' ((conv=>whnf)<;>first|refine bV ?_|refine ag ?_ ?_<;>intro _)
  conv=>whnf
  exact adT (λ_ _ h=>h) rfl hd.bF rfl
 ·have hL:fA n a b=[a.1+b.1,a.2+b.2]:=by unfold fA;rw[if_neg aa,if_neg aa,if_pos hk]
  rw[hL];refine fH Tryz.func51 [.agg [aC n.ai,aC n.a,aC n.b,.c n.az.val,aC n.lo,aC n.hi,aC n.size,.c n.data.val,.c n.aQ.val,.c wE,.c yg,aC c],.agg [aC a.1,aC a.2],.agg [aC b.1,aC b.2]] ?_;repeat' ((conv=>whnf)<;>first|refine bV ?_|refine ag ?_ ?_<;>intro _)
  conv=>whnf
  exact rW (λ_ _ h=>h) rfl aj rfl (Dx aa aa) aI
 ·have hL:fA n a b=[n.data.xs.getD 0 0*a.1,n.data.xs.getD 0 0*a.2]:=by unfold fA;rw[if_neg aa,if_neg aa,if_neg aa,if_pos hk]
  rw[hL];have hl1:=hsc hk;obtain⟨ua,rO⟩:=hd.base aa;have hur:∀(R:Nat->Prop) w',(aU w).holds R w'->bE w' (some ua) 1 (aZ n.data.xs):=λR w' h=>by rw[<-rO];exact aH h hd.rows
  have q1:=jL (A:=1048576) (B:=1048576) (iY hb 0) ha1;have q2:=jL (A:=1048576) (B:=1048576) (iY hb 0) ha2;refine fH Tryz.func51 [.agg [aC n.ai,aC n.a,aC n.b,.c n.az.val,aC n.lo,aC n.hi,aC n.size,.c n.data.val,.c n.aQ.val,.c wE,.c yg,aC c],.agg [aC a.1,aC a.2],.agg [aC b.1,aC b.2]] ?_;repeat' ((conv=>whnf)<;>first|refine oJ ?_|refine nY ?_|(show cO _ 9 ..;refine mV [] _ ak4 ?_)|refine bV ?_|refine ag ?_ ?_<;>intro _)
  conv=>whnf
  exact rW (λ_ _ h=>h) rfl aj rfl (Dx aa aa) aI
 ·have hl3:=hpo hk;obtain⟨ua,rO⟩:=hd.base aa;have hur:∀(R:Nat->Prop) w',(aU w).holds R w'->bE w' (some ua) 1 (aZ n.data.xs):=λR w' h=>by rw[<-rO];exact aH h hd.rows
  have p1:=iY hb 1;have p2:=iY hb 2;unfold fJ at p1 p2;have i1:=L9 hb (v:=a.1) oI;have i2:=L9 hb (v:=a.2) oI;refine fH Tryz.func51 [.agg [aC n.ai,aC n.a,aC n.b,.c n.az.val,aC n.lo,aC n.hi,aC n.size,.c n.data.val,.c n.aQ.val,.c wE,.c yg,aC c],.agg [aC a.1,aC a.2],.agg [aC b.1,aC b.2]] ?_;by_cases hz:n.data.xs.getD 2 0=0
  ·have hL:fA n a b=[iF n.data.xs a.1,iF n.data.xs a.2]:=by unfold fA;rw[if_neg aa,if_neg aa,if_neg aa,if_neg aa,if_pos hk,if_pos hz]
   rw[hL];repeat' ((conv=>whnf)<;>first|refine jZ ?_|refine j6 ?_|((show aJ _ 107 [_,aC a.1] _ _ _ _);refine aR (f:=107) Tryz.call107 (.int .i64 (iF n.data.xs a.1)) (λρ w' hw=>vK w' n (ae hw λR h=>hd.later h) hl3 hb wE yg c a.1 oI) ?_)|((show aJ _ 107 [_,aC a.2] _ _ _ _);refine aR (f:=107) Tryz.call107 (.int .i64 (iF n.data.xs a.2)) (λρ w' hw=>vK w' n (ae hw λR h=>hd.later h) hl3 hb wE yg c a.2 oI) ?_)|(show cO _ 11 ..;refine mV [] _ aiu ?_)|refine bV ?_|refine ag ?_ ?_<;>intro _)
   conv=>whnf
   exact rW (λ_ _ h=>h) rfl aj rfl (Dx aa aa) aI
  ·have hT: -1048576<=(0-n.data.xs.getD 1 0).tdiv (2*n.data.xs.getD 2 0)/\(0-n.data.xs.getD 1 0).tdiv (2*n.data.xs.getD 2 0)<=1048576:=by
    have h1:((0-n.data.xs.getD 1 0).tdiv (2*n.data.xs.getD 2 0)).natAbs<=(0-n.data.xs.getD 1 0).natAbs:=by rw[Int.natAbs_tdiv];exact anJ _ _
    omega
   repeat' ((conv=>whnf)<;>first|refine kZ ?_|refine kX ?_|refine jZ ?_|refine j6 ?_|((show aJ _ 107 [_,aC a.1] _ _ _ _);refine aR (f:=107) Tryz.call107 (.int .i64 (iF n.data.xs a.1)) (λρ w' hw=>vK w' n (ae hw λR h=>hd.later h) hl3 hb wE yg c a.1 oI) ?_)|((show aJ _ 107 [_,aC a.2] _ _ _ _);refine aR (f:=107) Tryz.call107 (.int .i64 (iF n.data.xs a.2)) (λρ w' hw=>vK w' n (ae hw λR h=>hd.later h) hl3 hb wE yg c a.2 oI) ?_)|(show yM ..;refine ahk aa aa ?_)|(show cO _ 11 ..;refine mV [] _ aiu ?_)|refine bV ?_|refine ag ?_ ?_<;>intro _)
   all_goals
    have hL:fA n a b=[iF n.data.xs a.1,iF n.data.xs a.2]++(LG (hiI n.data.xs a-loI n.data.xs a+1).toNat (loI n.data.xs a)).map (iF n.data.xs):=by unfold fA;rw[if_neg aa,if_neg aa,if_neg aa,if_neg aa,if_pos hk,if_neg hz]
    rw[hL];have apB:loI n.data.xs a=max a.1 ((0-n.data.xs.getD 1 0).tdiv (2*n.data.xs.getD 2 0)-1):=rfl;have ao2:hiI n.data.xs a=min a.2 ((0-n.data.xs.getD 1 0).tdiv (2*n.data.xs.getD 2 0)+1):=rfl;generalize hT0:(0-n.data.xs.getD 1 0).tdiv (2*n.data.xs.getD 2 0)=T at*;generalize apE:loI n.data.xs a=L0 at*;generalize ao5:hiI n.data.xs a=H0 at*;refine Wp.loop (σ:=Int×Nat×List Int) 5 (λ⟨v,m,_⟩=>[(10,aC v),(9,aC T),(7,.os 4 m),(3,.lp 0 0 0 0),(4,.lp 1 0 0 0)]) (λ⟨_,_,acc⟩=>[(4,.rows (aZ acc) 1 3),(1,.box [aC a.1,aC a.2] 58),(0,.box [aC n.ai,aC n.a,aC n.b,.c n.az.val,aC n.lo,aC n.hi,aC n.size,.c n.data.val,.c n.aQ.val,.c wE,.c yg,aC c] 104)]) (λ_=>aU w)
     (λ⟨v,m,acc⟩=>acc++(LG (H0-v+1).toNat v).map (iF n.data.xs)=[iF n.data.xs a.1,iF n.data.xs a.2]++(LG (H0-L0+1).toNat L0).map (iF n.data.xs)/\m=acc.length/\L0<=v/\v<=1048580/\acc.length+(H0-v+1).toNat<=5/\(∀x∈acc,i64 x)) (λs=>(H0-s.1+1).toNat) (_,2,[iF n.data.xs a.1,iF n.data.xs a.2]) [(4,some 3)] ay (λs=>⟨rfl,rfl⟩)
     ⟨by congr 4<;>omega,rfl,by omega,by omega,by simp only[ahN,amn];omega,Dx aa aa⟩ ⟨rfl,⟨rfl,rfl,rfl,rfl,rfl,trivial⟩,fE,λ_ _ h=>h⟩ ?_
    rintro⟨v,m,acc⟩ ⟨hacc,hm,hv0,hv1,hcnt,hf⟩;by_cases hgo:v<=H0
    ·have iv:=L9 hb (v:=v) oI;have hstep:LG (H0-v+1).toNat v=v::LG (H0-(v+1)+1).toNat (v+1):=by
      have:(H0-v+1).toNat=(H0-(v+1)+1).toNat+1:=by omega
      rw[this];rfl
     repeat' ((conv=>whnf)<;>first|((show aJ _ 107 _ _ _ _ _);refine aR (f:=107) Tryz.call107 (.int .i64 (iF n.data.xs v)) (λρ w' hw=>vK w' n (ae hw λR h=>hd.later h) hl3 hb wE yg c v oI) ?_)|(show Gn ..;(refine mg (by rw[aP,hm];exact Tw _) ?_))|(show jv ..;(refine fU aoF ?_))|refine bV ?_|refine ag ?_ ?_<;>intro _)
     all_goals(conv=>whnf)
     all_goals exact⟨(v+1,m+1,acc++[iF n.data.xs v]),[(4,some 6)],⟨by rw[<-hacc,hstep];simp,by rw[hm];simp,by omega,by omega,by rw[adx,ag_];omega,λx hx=>by
      rcases aeh.1 hx with h|h
      ·exact hf x h
      ·simp at h;subst h;unfold i64;omega⟩,by simp only;omega,rfl,⟨rfl,rfl,rfl,rfl,rfl,trivial⟩,⟨Zv _ _ hm,aj,aj,trivial⟩,λ_ _ h=>h⟩
    ·have hz0:(H0-v+1).toNat=0:=by omega
     rw[hz0]at hacc;simp only[LG,aiK,ajM]at hacc;repeat' ((conv=>whnf)<;>first|refine bV ?_|refine ag ?_ ?_<;>intro _)
     all_goals(conv=>whnf)
     all_goals(rw[<-hacc];exact rW (λ_ _ h=>h) rfl aj hm hf aa)
 ·have hL:fA n a b=[a.1,a.2]:=by unfold fA;rw[if_neg aa,if_neg aa,if_neg aa,if_neg aa,if_neg aa]
  rw[hL];refine fH Tryz.func51 [.agg [aC n.ai,aC n.a,aC n.b,.c n.az.val,aC n.lo,aC n.hi,aC n.size,.c n.data.val,.c n.aQ.val,.c wE,.c yg,aC c],.agg [aC a.1,aC a.2],.agg [aC b.1,aC b.2]] ?_;repeat' ((conv=>whnf)<;>first|refine bV ?_|refine ag ?_ ?_<;>intro _)
  conv=>whnf
  exact rW (λ_ _ h=>h) rfl aj rfl (Dx aa aa) aI
end
section
structure jb(n:ak)(sh:List (List Int))(s:List Int):Prop where
 form:cz n sh.length=true
 az:bP n sh=some s
 near:gP n=true
theorem Sc:∀{l:List ak} {Q4 sh:List (List Int)},fq l Q4=(0,sh)->∃q,sh=Q4++q/\q.length=l.length/\∀i n,l[i]? =some n->∃s,q[i]? =some s/\jb n (Q4++q.take i) s
 |[],Q4,sh,h=>by
  obtain rfl:Q4=sh:=by simpa[fq]using h
  exact⟨[],by simp,rfl,λi n hn=>by simp at hn⟩
 |m::r,Q4,sh,h=>by
  by_cases hf:cz m Q4.length=false
  ·rw[tZ hf]at h;simp at h
  have hf:cz m Q4.length=true:=by simpa using hf
  cases hs:bP m Q4 with
  |none=>rw[rz hf hs]at h;simp at h
  |some s=>
   by_cases hn:gP m=false
   ·rw[kL hf hs hn]at h;simp at h
   have hn:gP m=true:=by simpa using hn
   rw[iE hf hs hn]at h;obtain⟨q,hq,hl,ha⟩:=Sc h;refine⟨s::q,by rw[hq,ahZ];rfl,by simp[hl],λi n hin=> ?_⟩;cases i with
   |zero=>
    simp only[amO,Option.some.injEq]at hin;subst hin;exact⟨s,rfl,by simpa using hf,by simpa using hs,hn⟩
   |succ i=>
    simp only[ane]at hin;obtain⟨t,h1,h2⟩:=ha i n hin;refine⟨t,by simpa using h1,?_⟩;rw[List.take_succ_cons,show Q4++s::q.take i=Q4++[s]++q.take i by simp];exact h2
theorem gK{g:bM}(h:(check g).1=0):1<=g.l.length/\g.l.length<=24/\(0<=g.out/\g.out<g.l.length)/\(check g).2.length=g.l.length/\∀i n,g.l[i]? =some n->∃s,(check g).2[i]? =some s/\jb n ((check g).2.take i) s:=by
 unfold check at h|-
 split at h
 ·simp at h
 rename_i hc;rw[if_neg hc];obtain⟨q,hq,hl,ha⟩:=Sc (l:=g.l) (Q4:=[]) (sh:=(fq g.l []).2) (Prod.ext h rfl);rw[akg]at hq;subst hq;exact⟨by omega,by omega,by omega,hl,λi n hn=>ha i n hn⟩
theorem uG{n:ak}{at_:Nat}(h:cz n at_=true):(0<=n.a/\(n.a<at_\/n.a=0))/\(0<=n.b/\(n.b<at_\/n.b=0))/\(n.ai=7->n.data.xs.length=1)/\(n.ai=8->n.data.xs.length=3)/\(n.ai=2->(n.data.xs.length:Int)=au n.az.xs):=by
 have hfo:=dJ h;have hkk:=hfo.ai;unfold cz at h;have hk:n.ai=1\/n.ai=2\/n.ai=3\/n.ai=4\/n.ai=5\/n.ai=6\/n.ai=7\/n.ai=8\/n.ai=9:=by omega
 rcases hk with hk|hk|hk|hk|hk|hk|hk|hk|hk
 all_goals repeat(first|rw[if_pos aa]at h|rw[if_neg aa]at h)
 all_goals simp only[gW,iI,Bool.true_or,Bool.false_or,anE,Bool.and_true,afF,decide_eq_true_eq]at h
 all_goals exact⟨by omega,by omega,by omega,by omega,by omega⟩
theorem Gp{n:ak}(h:gP n=true):(∀x∈n.data.xs,fJ x)/\(∀x∈n.aQ.xs,fJ x)/\fJ n.lo/\fJ n.hi/\n.lo<=n.hi:=by
 unfold gP nR at h;simp only[afF,akM,decide_eq_true_eq]at h;exact⟨λx hx=>h.1.1.1 x hx,λx hx=>h.1.1.2 x hx,h.1.2 n.lo aI,h.1.2 n.hi aI,h.2⟩
theorem Ba:∀(l:List Int) (x:Int),l.foldl min x<=x/\∀y∈l,l.foldl min x<=y
 |[],x=>⟨aem _,λy hy=>by simp at hy⟩
 |z::r,x=>by
  obtain⟨h1,h2⟩:=Ba r (min x z);refine⟨by rw[ahb];omega,λy hy=> ?_⟩;rw[ahb];rcases abr.1 hy with rfl|hy
  ·omega
  ·exact h2 y hy
theorem Ah:∀(l:List Int) (x:Int),x<=l.foldl max x/\∀y∈l,y<=l.foldl max x
 |[],x=>⟨aem _,λy hy=>by simp at hy⟩
 |z::r,x=>by
  obtain⟨h1,h2⟩:=Ah r (max x z);refine⟨by rw[ahb];omega,λy hy=> ?_⟩;rw[ahb];rcases abr.1 hy with rfl|hy
  ·omega
  ·exact h2 y hy
variable {l:List Int} {y:Int}
theorem kI(h:y∈l):foldI min l<=y:=by
 cases l with
 |nil=>simp at h
 |cons x r=>
  rcases abr.1 h with rfl|h
  ·exact(Ba r _).1
  ·exact(Ba r x).2 y h
theorem kK(h:y∈l):y<=foldI max l:=by
 cases l with
 |nil=>simp at h
 |cons x r=>
  rcases abr.1 h with rfl|h
  ·exact(Ah r _).1
  ·exact(Ah r x).2 y h
theorem XT(h:1<=l.length):foldI min l<=foldI max l:=by
 cases l with
 |nil=>simp at h
 |cons x r=>exact aha (kI YV) (kK YV)
def gz(l:List Sp):List (List Value):=l.map λs=>[.int .i64 s.1,.int .i64 s.2]
theorem jg(l:List Sp):(gz l).length=l.length:=by simp[gz]
theorem EC{l:List Sp}{k:Nat}(h:k<l.length):(gz l)[k]? =some [.int .i64 l[k].1,.int .i64 l[k].2]:=by simp[gz,h]
def nD(n:Nat)(acc:List Sp):List Sp:=acc++List.replicate (n-acc.length) (0,0)
variable {acc:List Sp}
theorem rF{n:Nat}(h:acc.length<=n):(nD n acc).length=n:=by unfold nD;simp;omega
theorem Ad{n j:Nat}(h:acc.length<=n)(hj:j<n):(gz (nD n acc))[j]? =some [.int .i64 (acc.getD j (0,0)).1,.int .i64 (acc.getD j (0,0)).2]:=by
 rw[EC (by rw[rF h];exact hj)];have:(nD n acc)[j]'(by rw[rF h];exact hj)=acc.getD j (0,0):=by
  unfold nD;rw[List.getElem_append];split
  ·rename_i hlt;rw[TR,YL hlt];rfl
  ·rename_i hlt;rw[TR,aiQ aa];simp
 rw[this]
theorem BC{n i:Nat}{x:Int}{K:List (List Value)->Prop}(hl:acc.length=i)(hi:i<n)(h:K (gz (nD n (acc++[(x,y)])))):dH (gz (nD n acc)) i 0 [.int .i64 x,.int .i64 y] K:=by
 subst hl;refine jq _ (Ad (Nat.le_of_lt hi) hi) (by show 0+2<=2;omega) ?_;have e:(gz (nD n acc)).set acc.length (cB [.int .i64 (acc.getD acc.length (0,0)).1,.int .i64 (acc.getD acc.length (0,0)).2] 0 [.int .i64 x,.int .i64 y])=gz (nD n (acc++[(x,y)])):=by
  have e2:cB [.int .i64 (acc.getD acc.length (0,0)).1,.int .i64 (acc.getD acc.length (0,0)).2] 0 [.int .i64 x,.int .i64 y]=[Value.int .i64 x,.int .i64 y]:=rfl;rw[e2];unfold nD gz;obtain⟨k,hk⟩:∃k,n-acc.length=k+1:=⟨n-acc.length-1,by omega⟩;rw[hk,adx,ag_,show n-(acc.length+1)=k by omega,List.replicate_succ];simp only[afn,afY,aiK];rw[List.set_append_right _ _ aI,aas,aiH,List.set_cons_zero];simp
 rw[e];exact h
variable {R:Nat->Prop} {w:World} {N:Nat}
theorem zy{sv:aY}(hs:∀u∈sv.l,u.bF)(hl:sv.l.length<=24)(h:((jD sv).past N).holds R w):sv.ok w:=
 ⟨bf h.1,λu hu=>dw (hs u hu) (h.2 u hu),hl⟩
theorem alT{w':World}{n:ak}{x:ax×Bool}(hn:n.data.ok w)(hs:x.1.bF)(ho:x.2=true->x.1=n.data)(hb:(aU w).holds R w')(h:((ajC x).past N).holds R w'):x.1.ok w':=by
 cases hx:x.2 with
 |true=>rw[ho hx];exact hn.later hb
 |false=>exact dw hs (h hx)
def Dn(w:World)(r:Int×List Sp)(e:Ending)(w':World):Prop:=
 (r.1≠0/\e= .returned (.tuple #[.slice none 0 0,.int .i64 r.1])/\Ext w w')\/(r.1=0/\∃v,e= .returned (.tuple #[v,.int .i64 0])/\Ext w w'/\je w w' v 2 58 (gz r.2))
end
section
variable {B:Base} {H:Heap} {S:bR} {nx:Nat} {w:World} {r:Int×List Sp}
theorem Rc{v:SV}(hb:∀R w',S.holds R w'->(aU B.w0).holds R w')(hw0:B.w0=w)(hn:r.1≠0)(hv:∀ρ,v.rf ρ= .tuple #[.slice none 0 0,.int .i64 r.1]):jS B v H S nx (Dn w r):=by
 subst hw0;exact dK λρ w' hw=> .inl ⟨hn,by rw[hv],bG hw hb⟩
variable {i:Nat}
theorem aar{n:Nat}{l:List Sp}(hb:∀R w',S.holds R w'->(aU B.w0).holds R w')(hw0:B.w0=w)(he:(i,b_.rows (gz l) 2 58)∈H)(hn:n=l.length)(hr:r=(0,l)):jS B (.xg [.os i n,aC 0]) H S nx (Dn w r):=by
 subst hw0 hn hr;refine dK λρ w' hw=> .inr ⟨rfl,_,rfl,bG hw hb,?_⟩;have hh:=fI hw hb he;rw[jg]at hh;exact hh
theorem adp{n:ak}{a b:Sp}{at_:Nat}(h:cz n at_=true):1<=(fA n a b).length:=by
 have h1:=(uG h).2.2.2.2;have hfo:=dJ h;unfold fA;split
 ·simp
 ·split
  ·rename_i hk;have:=hfo.own (.inr (.inl hk));have:=h1 hk;omega
  ·split
   ·simp
   ·split
    ·simp
    ·split
     ·split<;>simp
     ·simp
variable {acc:List Sp}
theorem acg(h:∀s∈acc,fJ s.1/\fJ s.2)(k:Nat):fJ (acc.getD k (0,0)).1/\fJ (acc.getD k (0,0)).2:=by
 rcases ack k acc.length with hk|hk
 ·rw[TR,YL hk];exact h _ (aby hk)
 ·rw[TR,aiQ hk];exact⟨⟨by decide,by decide⟩,⟨by decide,by decide⟩⟩
theorem VS{n:Nat}{s:Sp}(hl:acc.length=i)(hi:i<n):(gz (nD n (acc++[s])))[i]? =some [.int .i64 s.1,.int .i64 s.2]:=by
 subst hl;rw[Ad zk hi];simp[TR]
end
section
theorem yX(d:List Int)(u v:Int):iF d v-iF d u=(v-u)*(d.getD 2 0*(u+v)+d.getD 1 0):=by
 unfold iF;generalize d.getD 2 0=a;generalize d.getD 1 0=b;generalize d.getD 0 0=c
 grind
variable {b:Int}
theorem ab6{a:Int}(ha:0<a):2*a*((0-b).tdiv (2*a)-1)+b<=0/\0<=2*a*((0-b).tdiv (2*a)+1)+b:=by
 have h1:=Int.mul_tdiv_add_tmod (0-b) (2*a);have h2:((0-b).tmod (2*a)).natAbs<(2*a).natAbs:=by
  rw[Int.natAbs_tmod];exact akx _ aa
 have h3:2*a*((0-b).tdiv (2*a)-1)=2*a*(0-b).tdiv (2*a)-2*a:=by rw[Int.mul_sub,Int.mul_one]
 have h4:2*a*((0-b).tdiv (2*a)+1)=2*a*(0-b).tdiv (2*a)+2*a:=by rw[Int.mul_add,Int.mul_one]
 rw[h3,h4];omega
variable {T u v:Int}
theorem ab8{a:Int}(ha:0<a)(hT:0<=2*a*(T+1)+b)(h1:T+1<=u)(h2:u<=v):0<=(v-u)*(a*(u+v)+b):=by
 refine agJ aa ?_;have h3:a*(2*(T+1))<=a*(u+v):=ai6 aa aa;have h4:2*a*(T+1)=a*(2*(T+1)):=by grind
 omega
theorem Su{a:Int}(ha:0<a)(hT:2*a*(T-1)+b<=0)(h1:v<=T-1)(h2:u<=v):(v-u)*(a*(u+v)+b)<=0:=by
 refine Int.mul_nonpos_of_nonneg_of_nonpos aa ?_;have h3:a*(u+v)<=a*(2*(T-1)):=ai6 aa aa;have h4:2*a*(T-1)=a*(2*(T-1)):=by grind
 omega
variable {d:List Int}
theorem IK(h:d.getD 2 0≠0):
 ((∀u v,u<=v->v<=o6 d-1->iF d v<=iF d u)/\(∀u v,o6 d+1<=u->u<=v->iF d u<=iF d v))\/
 ((∀u v,u<=v->v<=o6 d-1->iF d u<=iF d v)/\(∀u v,o6 d+1<=u->u<=v->iF d v<=iF d u)):=by
 rcases(by omega:0<d.getD 2 0\/d.getD 2 0<0)with ha|ha
 ·obtain⟨t1,t2⟩:=ab6 (b:=d.getD 1 0) ha;left;refine⟨λu v h1 h2=> ?_,λu v h1 h2=> ?_⟩
  ·have:=yX d u v;have:=Su ha t1 h2 h1;omega
  ·have:=yX d u v;have:=ab8 ha t2 h1 h2;omega
 ·have ha':0< -(d.getD 2 0):=by omega
  obtain⟨t1,t2⟩:=ab6 (b:= -(d.getD 1 0)) ha';have hT:(0- -(d.getD 1 0)).tdiv (2* -(d.getD 2 0))=o6 d:=by
   unfold o6;rw[show 0- -(d.getD 1 0)= -(0-d.getD 1 0) by omega,show 2* -(d.getD 2 0)= -(2*d.getD 2 0) by omega,Int.neg_tdiv,Int.tdiv_neg,Int.neg_neg]
  rw[hT]at t1 t2;have hneg:∀u v:Int,(v-u)*(-(d.getD 2 0)*(u+v)+ -(d.getD 1 0))= -((v-u)*(d.getD 2 0*(u+v)+d.getD 1 0)):=λu v=>by grind
  right;refine⟨λu v h1 h2=> ?_,λu v h1 h2=> ?_⟩
  ·have:=yX d u v;have h3:=Su ha' t1 h2 h1;rw[hneg]at h3;omega
  ·have:=yX d u v;have h3:=ab8 ha' t2 h1 h2;rw[hneg]at h3;omega
theorem O6:∀{n:Nat} {v x:Int},x∈LG n v↔v<=x/\x<v+n
 |0,v,x=>by simp[LG]
 |n+1,v,x=>by
  unfold LG;rw[abr,O6];omega
def pJ(d:List Int)(a:Sp):List Int:=if d.getD 2 0=0 then [iF d a.1,iF d a.2]else [iF d a.1,iF d a.2]++(LG (hiI d a-loI d a+1).toNat (loI d a)).map (iF d)
theorem oh{a:Sp}:iF d a.1∈pJ d a:=by unfold pJ;split<;>simp
theorem nW{a:Sp}:iF d a.2∈pJ d a:=by unfold pJ;split<;>simp
theorem zA{a:Sp}(hz:d.getD 2 0≠0)(h1:loI d a<=v)(h2:v<=hiI d a):iF d v∈pJ d a:=by
 unfold pJ;rw[if_neg hz];exact List.mem_append_right _ (abl.2 ⟨v,O6.2 ⟨h1,by omega⟩,rfl⟩)
theorem Xi{a:Sp}(h1:a.1<=v)(h2:v<=a.2):(∃x∈pJ d a,x<=iF d v)/\(∃x∈pJ d a,iF d v<=x):=by
 by_cases hz:d.getD 2 0=0
 ·have e1:=yX d a.1 v;have e2:=yX d v a.2;rw[hz]at e1 e2;rw[Int.zero_mul,Int.zero_add]at e1 e2;rcases(by omega:0<=d.getD 1 0\/d.getD 1 0<=0)with hb|hb
  ·have m1:=agJ (show 0<=v-a.1 by omega) hb;have m2:=agJ (show 0<=a.2-v by omega) hb;exact⟨⟨_,oh,by omega⟩,⟨_,nW,by omega⟩⟩
  ·have m1:=Int.mul_nonpos_of_nonneg_of_nonpos (show 0<=v-a.1 by omega) hb;have m2:=Int.mul_nonpos_of_nonneg_of_nonpos (show 0<=a.2-v by omega) hb;exact⟨⟨_,nW,by omega⟩,⟨_,oh,by omega⟩⟩
 ·by_cases hin:loI d a<=v/\v<=hiI d a
  ·exact⟨⟨_,zA hz hin.1 hin.2,aem _⟩,⟨_,zA hz hin.1 hin.2,aem _⟩⟩
  ·have hL:loI d a=max a.1 (o6 d-1):=rfl;have hH:hiI d a=min a.2 (o6 d+1):=rfl;rcases(by omega:v<loI d a\/hiI d a<v)with hv|hv
   ·have hvT:v<=o6 d-1:=by omega
    rcases(by omega:o6 d-1<=a.2\/a.2<=o6 d-1)with hc|hc
    ·have hm:=zA (a:=a) (v:=o6 d-1) hz aa aa;rcases IK hz with⟨w1,_⟩|⟨w1,_⟩
     ·exact⟨⟨_,hm,w1 v (o6 d-1) hvT (aem _)⟩,⟨_,oh,w1 a.1 v h1 hvT⟩⟩
     ·exact⟨⟨_,oh,w1 a.1 v h1 hvT⟩,⟨_,hm,w1 v (o6 d-1) hvT (aem _)⟩⟩
    ·rcases IK hz with⟨w1,_⟩|⟨w1,_⟩
     ·exact⟨⟨_,nW,w1 v a.2 h2 hc⟩,⟨_,oh,w1 a.1 v h1 hvT⟩⟩
     ·exact⟨⟨_,oh,w1 a.1 v h1 hvT⟩,⟨_,nW,w1 v a.2 h2 hc⟩⟩
   ·have hvT:o6 d+1<=v:=by omega
    rcases(by omega:a.1<=o6 d+1\/o6 d+1<=a.1)with hc|hc
    ·have hm:=zA (a:=a) (v:=o6 d+1) hz aa aa;rcases IK hz with⟨_,w2⟩|⟨_,w2⟩
     ·exact⟨⟨_,hm,w2 (o6 d+1) v (aem _) hvT⟩,⟨_,nW,w2 v a.2 hvT h2⟩⟩
     ·exact⟨⟨_,nW,w2 v a.2 hvT h2⟩,⟨_,hm,w2 (o6 d+1) v (aem _) hvT⟩⟩
    ·rcases IK hz with⟨_,w2⟩|⟨_,w2⟩
     ·exact⟨⟨_,oh,w2 a.1 v hc h1⟩,⟨_,nW,w2 v a.2 hvT h2⟩⟩
     ·exact⟨⟨_,nW,w2 v a.2 hvT h2⟩,⟨_,oh,w2 a.1 v hc h1⟩⟩
theorem aat{a:Sp}(h1:a.1<=v)(h2:v<=a.2):foldI min (pJ d a)<=iF d v/\iF d v<=foldI max (pJ d a):=by
 obtain⟨⟨x,hx,hx'⟩,⟨y,hy,hy'⟩⟩:=Xi (d:=d) h1 h2;exact⟨aha (kI hx) hx',aha hy' (kK hy)⟩
theorem Eb:∀(l:List Int) (x:Int),l.foldl min x=x\/l.foldl min x∈l
 |[],x=> .inl rfl
 |z::r,x=>by
  rw[ahb];rcases Eb r (min x z)with h|h
  ·rw[h];rcases(by omega:min x z=x\/min x z=z)with h|h
   ·exact .inl h
   ·exact .inr (by rw[h];exact YV)
  ·exact .inr (aeg _ h)
theorem D7:∀(l:List Int) (x:Int),l.foldl max x=x\/l.foldl max x∈l
 |[],x=> .inl rfl
 |z::r,x=>by
  rw[ahb];rcases D7 r (max x z)with h|h
  ·rw[h];rcases(by omega:max x z=x\/max x z=z)with h|h
   ·exact .inl h
   ·exact .inr (by rw[h];exact YV)
  ·exact .inr (aeg _ h)
variable {l:List Int}
theorem Er(h:1<=l.length):foldI min l∈l:=by
 cases l with
 |nil=>simp at h
 |cons x r=>
  rcases Eb r x with h|h
  ·rw[foldI,h];exact YV
  ·exact aeg _ h
theorem Ei(h:1<=l.length):foldI max l∈l:=by
 cases l with
 |nil=>simp at h
 |cons x r=>
  rcases D7 r x with h|h
  ·rw[foldI,h];exact YV
  ·exact aeg _ h
end
section
abbrev aa3:DT:=(bS [0,1,2,3,4,5,6,7,8,9,10,11,112] .done)
abbrev ak0:DT:=(bS [0,1,2,3,4,5,6,7,8,9,10,11,12,113] .done)
abbrev ak5:DT:=(bS [0,1,2,3,4,5,6,107,8,109] .done)
abbrev aiT:DT:=(bS [0,1,2,3,4,5,6,7,8,9,10,11,12,13,114] .done)
def gu(n:ak)(a b:List Int)(o:Nat):Int:=
 if n.ai=2 then n.data.xs.getD o 0
 else if n.ai=6 then a.getD o 0+b.getD o 0
 else if n.ai=7 then a.getD o 0*n.data.xs.getD 0 0
 else if n.ai=8 then iF n.data.xs (a.getD o 0)
 else a.getD o 0
def o5(n:ak)(cnt:Nat)(a b:List Int):List Int:=(List.range cnt).map (gu n a b)
def j_(n:Nat)(l:List Int):List Int:=l++List.replicate (n-l.length) 0
variable {l:List Int}
theorem vF{n:Nat}(h:l.length<=n):(j_ n l).length=n:=by unfold j_;simp;omega
variable {i:Nat}
theorem K9{n:Nat}{x:Int}{K:List (List Value)->Prop}(hl:l.length=i)(hi:i<n)(h:K (aZ (j_ n (l++[x])))):dH (aZ (j_ n l)) i 0 [.int .i64 x] K:=by
 subst hl;refine jq [.int .i64 0] ?_ kQ ?_
 ·rw[eO (by rw[vF aa];exact hi)];simp[j_,List.getElem_append]
 ·have e:(aZ (j_ n l)).set l.length (cB [.int .i64 0] 0 [.int .i64 x])=aZ (j_ n (l++[x])):=by
   have e2:cB [Value.int .i64 0] 0 [.int .i64 x]=[Value.int .i64 x]:=rfl;rw[e2];unfold j_ aZ;obtain⟨k,hk⟩:∃k,n-l.length=k+1:=⟨n-l.length-1,by omega⟩;rw[hk,adx,ag_,show n-(l.length+1)=k by omega,List.replicate_succ];simp only[afn,afY,aiK];rw[List.set_append_right _ _ aI,aas,aiH,List.set_cons_zero];simp
  rw[e];exact h
structure afh(w:World)(n:ak)(cnt:Nat)(a b:ax):Prop where
 ai:n.ai=2\/n.ai=6\/n.ai=7\/n.ai=8\/n.ai=9
 few:cnt<=64
 data:n.data.ok w
 Y9:∀x∈n.data.xs,fJ x
 const:n.ai=2->n.data.xs.length=cnt
 scale:n.ai=7->n.data.xs.length=1
 power:n.ai=8->n.data.xs.length=3
 aOk:a.ok w
 bOk:b.ok w
 Yh:n.ai≠2->a.xs.length=cnt
 ae5:n.ai=6->b.xs.length=cnt
 aBd:∀x∈a.xs,fJ x
 bBd:∀x∈b.xs,fJ x
def DJ(w:World)(l:List Int)(e:Ending)(w':World):Prop:=
 ∃x:ax,(x.xs=l/\x.bF)/\e= .returned x.val/\Ext w w'/\(bX x).holds (λb=>w.heap.size<=b/\b<w'.heap.size) w'
variable {B:Base} {m nx:Nat} {H:Heap} {S:bR} {w:World}
theorem ag7(hb:∀R w',S.holds R w'->(aU B.w0).holds R w')(hw0:B.w0=w)(he:(i,b_.rows (aZ l) 1 3)∈H)(hm:m=l.length)(hf:∀x∈l,i64 x)(hl:l.length<=1000000):jS B (.os i m) H S nx (DJ w l):=by
 subst hw0 hm;refine dK λρ w' hw=> ?_;have hn:=fI hw hb he;rw[aP]at hn;obtain⟨u,e1,e2,e3,e4⟩:=vv hn hf hl;exact⟨u,⟨e2,e3⟩,by rw[e1],bG hw hb,e4⟩
theorem Tg{l':List Int}(hl':l'=l)(hb:∀R w',S.holds R w'->(aU B.w0).holds R w')(hw0:B.w0=w)(he:(i,b_.rows (aZ l') 1 3)∈H)(hm:m=l.length)(hf:∀x∈l,i64 x)(hl:l.length<=1000000):jS B (.os i m) H S nx (DJ w l):=by
 subst hl';exact ag7 hb hw0 he hm hf hl
theorem afJ{n:ak}{cnt:Nat}{a b:ax}(h:afh w n cnt a b)(o:Nat): -4611686018427387904<=gu n a.xs b.xs o/\gu n a.xs b.xs o<=4611686018427387904:=by
 have h1:=iY h.Y9 o;have h2:=iY h.Y9 0;have h3:=iY h.aBd o;have h4:=iY h.bBd o;have h5:=jL (A:=1048576) (B:=1048576) h3 h2;have h6:=L9 h.Y9 h3;unfold fJ at h1 h2 h3 h4;unfold gu;split
 ·omega
 ·split
  ·omega
  ·split
   ·omega
   ·split<;>omega
theorem Zy(w:World)(n:ak)(wE yg:Value)(cnt:Nat)(a b:ax)(h:afh w n cnt a b):Calls Tryz.prog 146 #[kz n wE yg cnt,a.val,b.val] w (DJ w (o5 n cnt a.xs b.xs)):=by
 have hbd:=afJ h;obtain⟨hk,ug,hd,hdb,hco,hsc,hpo,ha,hb,hal,hbl,hab,hbb⟩:=h;refine fH Tryz.func146 [.agg [aC n.ai,aC n.a,aC n.b,.c n.az.val,aC n.lo,aC n.hi,aC n.size,.c n.data.val,.c n.aQ.val,.c wE,.c yg,aC (cnt:Int)],.c a.val,.c b.val] ?_;repeat' ((conv=>whnf)<;>first|(show pg ..;(refine lD cnt rfl rfl mE aa ?_))|refine a_ ?_)
 refine Wp.loop (σ:=Nat) 2 (λo=>[(1,.c a.val),(2,.c b.val),(3,.lp 0 0 0 0),(7,.os 1 cnt),(15,aC cnt),(16,aC o)]) (λo=>[(1,.rows (aZ (j_ cnt (o5 n o a.xs b.xs))) 1 3),(0,.box [aC n.ai,aC n.a,aC n.b,.c n.az.val,aC n.lo,aC n.hi,aC n.size,.c n.data.val,.c n.aQ.val,.c wE,.c yg,aC (cnt:Int)] 104)]) (λ_=>aU w)
  (λo=>o<=cnt) (λo=>cnt-o) 0 [] ay (λs=>⟨rfl,rfl⟩) (aae _) ⟨rfl,⟨rfl,rfl,rfl,rfl,rfl,rfl,trivial⟩,⟨?_,aj,trivial⟩,λ_ _ h=>h⟩ ?_
 ·have:aZ (j_ cnt (o5 n 0 a.xs b.xs))=List.replicate cnt [Value.int .i64 0]:=by simp[aZ,j_,o5]
  show(1,b_.rows (aZ (j_ cnt (o5 n 0 a.xs b.xs))) 1 3)∈_;rw[this];exact aj
 rintro o ho;have hlen:(o5 n o a.xs b.xs).length=o:=by simp[o5]
 by_cases hlt:o<cnt
 ·have Bq:o5 n (o+1) a.xs b.xs=o5 n o a.xs b.xs++[gu n a.xs b.xs o]:=by unfold o5;rw[ait,afn];rfl
  have hbo:=hbd o;rcases hk with hk|hk|hk|hk|hk
  ·have hN:gu n a.xs b.xs o=n.data.xs.getD o 0:=if_pos hk;rw[hN]at Bq hbo;have hcl:=hco hk;obtain⟨ua,rO⟩:=hd.base aa;have hur:∀(R:Nat->Prop) w',(aU w).holds R w'->bE w' (some ua) 1 (aZ n.data.xs):=λR w' h=>by rw[<-rO];exact aH h hd.rows
   repeat' ((conv=>whnf)<;>first|refine sP ?_|refine pY ?_|refine su ?_|refine sZ ?_|refine a_ ?_|refine ag ?_ ?_<;>intro _)
   conv=>whnf
   exact⟨o+1,[],hlt,by omega,rfl,fE,⟨by rw[Bq];exact aj,aj,trivial⟩,λ_ _ h=>h⟩
  ·have hN:gu n a.xs b.xs o=a.xs.getD o 0+b.xs.getD o 0:=by unfold gu;rw[if_neg aa,if_pos hk]
   rw[hN]at Bq hbo;have hcl:=hal aa;have hbl:=hbl hk;obtain⟨ua,rO⟩:=ha.base aa;obtain⟨ub,hub⟩:=hb.base aa;have hur:∀(R:Nat->Prop) w',(aU w).holds R w'->bE w' (some ua) 1 (aZ a.xs):=λR w' h=>by rw[<-rO];exact aH h ha.rows
   have hvr:∀(R:Nat->Prop) w',(aU w).holds R w'->bE w' (some ub) 1 (aZ b.xs):=λR w' h=>by rw[<-hub];exact aH h hb.rows
   repeat' ((conv=>whnf)<;>first|refine sP ?_|refine pY ?_|(show dn ..;refine aM _ o hub rfl aa ?_)|(show gZ ..;refine dP hvr (j:=o) aa ?_)|refine su ?_|refine sZ ?_|(show cO _ 15 ..;refine mV [12] _ aa3 ?_)|refine a_ ?_|refine ag ?_ ?_<;>intro _)
   all_goals(conv=>whnf)
   all_goals exact⟨o+1,[],hlt,by omega,rfl,fE,⟨by rw[Bq];exact aj,aj,trivial⟩,λ_ _ h=>h⟩
  ·have hN:gu n a.xs b.xs o=a.xs.getD o 0*n.data.xs.getD 0 0:=by unfold gu;rw[if_neg aa,if_neg aa,if_pos hk]
   rw[hN]at Bq hbo;have hcl:=hal aa;have hdl:=hsc hk;obtain⟨ua,rO⟩:=ha.base aa;obtain⟨ub,hub⟩:=hd.base aa;have hur:∀(R:Nat->Prop) w',(aU w).holds R w'->bE w' (some ua) 1 (aZ a.xs):=λR w' h=>by rw[<-rO];exact aH h ha.rows
   have hvr:∀(R:Nat->Prop) w',(aU w).holds R w'->bE w' (some ub) 1 (aZ n.data.xs):=λR w' h=>by rw[<-hub];exact aH h hd.rows
   repeat' ((conv=>whnf)<;>first|refine sP ?_|refine pY ?_|(show dn ..;refine aM _ 0 hub rfl aa ?_)|(show gZ ..;refine dP hvr (j:=0) aa ?_)|refine su ?_|refine sZ ?_|(show cO _ 17 ..;refine mV [13] _ ak0 ?_)|refine a_ ?_|refine ag ?_ ?_<;>intro _)
   all_goals(conv=>whnf)
   all_goals exact⟨o+1,[],hlt,by omega,rfl,fE,⟨by rw[Bq];exact aj,aj,trivial⟩,λ_ _ h=>h⟩
  ·have hN:gu n a.xs b.xs o=iF n.data.xs (a.xs.getD o 0):=by unfold gu;rw[if_neg aa,if_neg aa,if_neg aa,if_pos hk]
   rw[hN]at Bq hbo;have hcl:=hal aa;have hdl:=hpo hk;obtain⟨ua,rO⟩:=ha.base aa;have hur:∀(R:Nat->Prop) w',(aU w).holds R w'->bE w' (some ua) 1 (aZ a.xs):=λR w' h=>by rw[<-rO];exact aH h ha.rows
   repeat' ((conv=>whnf)<;>first|refine sP ?_|refine pY ?_|refine su ?_|refine sZ ?_|(show aJ _ 107 ..;refine aR (f:=107) Tryz.call107 (.int .i64 (iF n.data.xs (a.xs.getD o 0))) (λρ w' hw=>vK w' n (ae hw λR h=>hd.later h) hdl hdb wE yg cnt (a.xs.getD o 0) (iY hab o)) ?_)|(show cO _ 19 ..;refine mV [9] _ ak5 ?_)|refine a_ ?_|refine ag ?_ ?_<;>intro _)
   all_goals(conv=>whnf)
   all_goals exact⟨o+1,[],hlt,by omega,rfl,fE,⟨by rw[Bq];exact aj,aj,trivial⟩,λ_ _ h=>h⟩
  ·have hN:gu n a.xs b.xs o=a.xs.getD o 0:=by unfold gu;rw[if_neg aa,if_neg aa,if_neg aa,if_neg aa]
   rw[hN]at Bq hbo;have hcl:=hal aa;obtain⟨ua,rO⟩:=ha.base aa;have hur:∀(R:Nat->Prop) w',(aU w).holds R w'->bE w' (some ua) 1 (aZ a.xs):=λR w' h=>by rw[<-rO];exact aH h ha.rows
   repeat' ((conv=>whnf)<;>first|refine sP ?_|refine pY ?_|refine su ?_|refine sZ ?_|refine a_ ?_|refine ag ?_ ?_<;>intro _)
   conv=>whnf
   exact⟨o+1,[],hlt,by omega,rfl,fE,⟨by rw[Bq];exact aj,aj,trivial⟩,λ_ _ h=>h⟩
 ·obtain rfl:o=cnt:=by omega
  have hgr:j_ o (o5 n o a.xs b.xs)=o5 n o a.xs b.xs:=by unfold j_;rw[hlen,aiH];simp
  repeat' ((conv=>whnf)<;>first|refine a_ ?_|refine ag ?_ ?_<;>intro _)
  conv=>whnf
  refine Tg hgr (λ_ _ h=>h) rfl aj (by rw[hlen]) (λx hx=> ?_) (by rw[hlen];omega);obtain⟨k,_,rfl⟩:=abl.1 hx;have:=hbd k;unfold i64;omega
end
def within(s:Sp)(l:List Int):Prop:=∀x∈l,s.1<=x/\x<=s.2
theorem qw{s:Sp}{l:List Int}(h:within s l){o:Nat}(ho:o<l.length):s.1<=l.getD o 0/\l.getD o 0<=s.2:=h _ (cu ho)
theorem H7{d a1 a2 v:Int}(h1:a1<=v)(h2:v<=a2):foldI min [d*a1,d*a2]<=v*d/\v*d<=foldI max [d*a1,d*a2]:=by
 have e:v*d=d*v:=ajF _ _;have m1:foldI min [d*a1,d*a2]=min (d*a1) (d*a2):=rfl;have m2:foldI max [d*a1,d*a2]=max (d*a1) (d*a2):=rfl;rw[m1,m2,e];rcases(by omega:0<=d\/d<=0)with hd|hd
 ·have:=ai6 h1 hd;have:=ai6 h2 hd;omega
 ·have:=aoo hd h1;have:=aoo hd h2;omega
theorem N9{n:ak}{cnt o:Nat}{a b:List Int}{A B:Sp}(hk:n.ai=2\/n.ai=6\/n.ai=7\/n.ai=8\/n.ai=9)(h2:n.ai=2->n.data.xs.length=cnt)(ha:n.ai≠2->a.length=cnt)(hb:n.ai=6->b.length=cnt)(hA:within A a)(hB:within B b)(ho:o<cnt):
 foldI min (fA n A B)<=gu n a b o/\gu n a b o<=foldI max (fA n A B):=by
 rcases hk with hk|hk|hk|hk|hk
 ·have hN:gu n a b o=n.data.xs.getD o 0:=if_pos hk;have hL:fA n A B=n.data.xs:=by unfold fA;rw[if_neg aa,if_pos hk]
  rw[hN,hL];have hm:=cu (xs:=n.data.xs) (k:=o) (by rw[h2 hk];exact ho);exact⟨kI hm,kK hm⟩
 ·have hN:gu n a b o=a.getD o 0+b.getD o 0:=by unfold gu;rw[if_neg aa,if_pos hk]
  have hL:fA n A B=[A.1+B.1,A.2+B.2]:=by unfold fA;rw[if_neg aa,if_neg aa,if_pos hk]
  rw[hN,hL];have h1:=qw hA (o:=o) Be;have h2:=qw hB (o:=o) (by rw[hb hk];exact ho);have m1:foldI min [A.1+B.1,A.2+B.2]=min (A.1+B.1) (A.2+B.2):=rfl;have m2:foldI max [A.1+B.1,A.2+B.2]=max (A.1+B.1) (A.2+B.2):=rfl;rw[m1,m2];omega
 ·have hN:gu n a b o=a.getD o 0*n.data.xs.getD 0 0:=by unfold gu;rw[if_neg aa,if_neg aa,if_pos hk]
  have hL:fA n A B=[n.data.xs.getD 0 0*A.1,n.data.xs.getD 0 0*A.2]:=by unfold fA;rw[if_neg aa,if_neg aa,if_neg aa,if_pos hk]
  rw[hN,hL];have h1:=qw hA (o:=o) Be;exact H7 h1.1 h1.2
 ·have hN:gu n a b o=iF n.data.xs (a.getD o 0):=by unfold gu;rw[if_neg aa,if_neg aa,if_neg aa,if_pos hk]
  have hL:fA n A B=pJ n.data.xs A:=by unfold fA pJ;rw[if_neg aa,if_neg aa,if_neg aa,if_neg aa,if_pos hk]
  rw[hN,hL];have h1:=qw hA (o:=o) Be;exact aat h1.1 h1.2
 ·have hN:gu n a b o=a.getD o 0:=by unfold gu;rw[if_neg aa,if_neg aa,if_neg aa,if_neg aa]
  have hL:fA n A B=[A.1,A.2]:=by unfold fA;rw[if_neg aa,if_neg aa,if_neg aa,if_neg aa,if_neg aa]
  rw[hN,hL];have h1:=qw hA (o:=o) Be;have m1:foldI min [A.1,A.2]=min A.1 A.2:=rfl;have m2:foldI max [A.1,A.2]=max A.1 A.2:=rfl;rw[m1,m2];omega
def xO(n:Nat)(l:List ax):List ax:=l++List.replicate (n-l.length) cK
theorem zN{n:Nat}{l:List ax}(h:l.length<=n):(xO n l).length=n:=by unfold xO;simp;omega
theorem AZ{n j:Nat}{l:List ax}(h:l.length<=n)(hj:j<n):(bA (xO n l))[j]? =some [(l.getD j cK).val]:=by
 rw[fQ (by rw[zN h];exact hj)];have:(xO n l)[j]'(by rw[zN h];exact hj)=l.getD j cK:=by
  unfold xO;rw[List.getElem_append];split
  ·rename_i hlt;rw[TR,YL hlt];rfl
  ·rename_i hlt;rw[TR,aiQ aa];simp
 rw[this]
theorem KU{n i:Nat}{l:List ax}{x:ax}{K:List (List Value)->Prop}(hl:l.length=i)(hi:i<n)(h:K (bA (xO n (l++[x])))):dH (bA (xO n l)) i 0 [x.val] K:=by
 subst hl;refine jq _ (AZ (Nat.le_of_lt hi) hi) kQ ?_;have e:(bA (xO n l)).set l.length (cB [(l.getD l.length cK).val] 0 [x.val])=bA (xO n (l++[x])):=by
  have e2:cB [(l.getD l.length cK).val] 0 [x.val]=[x.val]:=rfl;rw[e2];unfold xO bA;obtain⟨k,hk⟩:∃k,n-l.length=k+1:=⟨n-l.length-1,by omega⟩;rw[hk,adx,ag_,show n-(l.length+1)=k by omega,List.replicate_succ];simp only[afn,afY,aiK];rw[List.set_append_right _ _ aI,aas,aiH,List.set_cons_zero];simp
 rw[e];exact h
structure InV.ok(w:World)(v:aY):Prop where
 rows:bE w v.base 1 (bA v.l)
 each:∀u∈v.l,u.ok w
 room:v.l.length<=v.cap
 few:v.l.length<=1000000
theorem ad4{w:World}{a:Addr}{cap:Nat}{xs:List (List Value)}(hc:xs.length<=cap)(h:bE w (some a) 1 xs):bE w (some (if cap=1 then a else a.add 1)) 1 (xs.drop 1):=by
 by_cases hx:xs.drop 1=[]
 ·rw[hx];exact .inl rfl
 have hl:1<xs.length:=by
  rcases ack 1 xs.length with h|h
  ·exact h
  ·exact absurd (List.drop_eq_nil_of_le h) hx
 rw[if_neg aa];rcases h with h|⟨a',ha,h⟩
 ·rw[h]at hl;simp at hl
 obtain rfl:a=a':=by simpa using ha
 refine .inr ⟨_,rfl,λi r hr j v hj=> ?_⟩;rw[anl]at hr;have:=h (1+i) r hr j v hj;rw[add_add,show 1+(i*1+j)=(1+i)*1+j by omega];exact this
theorem ZW{a:Addr}{len cap:Nat}{K:SV->Prop}(h1:1<=len)(h2:len<=cap)(h:K (.c (.slice (some (if cap=1 then a else a.add 1)) (len-1) (cap-1)))):ny (some a) len cap 1 (some 1) none none K:=by
 rw[vU];refine⟨1,len,cap,rfl,rfl,rfl,h1,h2,Tw _,λh=>bT,?_⟩;have e:(if cap=1 then some a else(some a).map (·.add (1*1)))=some (if cap=1 then a else a.add 1):=by
  split<;>rfl
 rw[e];exact h
def InV.rest(v:aY)(a:Addr):aY:=⟨some (if v.cap=1 then a else a.add 1),v.cap-1,v.l.drop 1⟩
theorem InV.ahW{w:World}{v:aY}{a:Addr}(h:InV.ok w v)(ha:v.base=some a):InV.ok w (InV.rest v a):=by
 refine⟨?_,λu hu=>h.each u (anW hu),by have:=h.room;show(v.l.drop 1).length<=v.cap-1;rw[aml];omega,by have:=h.few;show(v.l.drop 1).length<=_;rw[aml];omega⟩;have:=h.rows;rw[ha]at this;have h2:=ad4 (cap:=v.cap) (by rw[acN];exact h.room) this;have e:bA (v.l.drop 1)=(bA v.l).drop 1:=by simp[bA,anY]
 show bE w _ 1 (bA (v.l.drop 1));rw[e];exact h2
theorem InV.later{w w':World}{R:Nat->Prop}{v:aY}(h:InV.ok w v)(hb:(aU w).holds R w'):InV.ok w' v:=⟨aH hb h.rows,λu hu=>(h.each u hu).later hb,h.room,h.few⟩
abbrev ala:DT:=(.take 0 (.alt 1 (.alt 2 (.alt 3 (.alt 4 (.one 5 (.alt 6 (bS [107,108,109,110] .done) (.one 7 (.alt 6 (bS [108,109,110] .done) (bS [108,106,109,110] .done))))) (.one 5 (.alt 4 (.alt 6 (bS [107,108,109,110] .done) (.one 7 (.alt 6 (bS [108,109,110] .done) (bS [108,106,109,110] .done)))) (bS [106,104,107,108,109,110] .done)))) (.one 5 (.alt 3 (.alt 4 (.alt 6 (bS [107,108,109,110] .done) (.one 7 (.alt 6 (bS [108,109,110] .done) (bS [108,106,109,110] .done)))) (bS [106,104,107,108,109,110] .done)) (bS [106,103,104,107,108,109,110] .done)))) (.one 5 (.alt 2 (.alt 3 (.alt 4 (.alt 6 (bS [107,108,109,110] .done) (.one 7 (.alt 6 (bS [108,109,110] .done) (bS [108,106,109,110] .done)))) (bS [106,104,107,108,109,110] .done)) (bS [106,103,104,107,108,109,110] .done)) (bS [106,102,103,104,107,108,109,110] .done)))) (.one 5 (.alt 1 (.alt 2 (.alt 3 (.alt 4 (.alt 6 (bS [107,108,109,110] .done) (.one 7 (.alt 6 (bS [108,109,110] .done) (bS [108,106,109,110] .done)))) (bS [106,104,107,108,109,110] .done)) (bS [106,103,104,107,108,109,110] .done)) (bS [106,102,103,104,107,108,109,110] .done)) (bS [106,101,102,103,104,107,108,109,110] .done)))))
def uN(n:ak)(wE:Value)(c:Int):Value:=
 if n.ai=3 then .func (.func 104) #[kz n (.slice none 0 0) .nilFunc c] #[]
 else if n.ai=4 then .func (.func 105) #[kz n wE .nilFunc c] #[]
 else .func (.func 106) #[kz n wE .nilFunc c] #[]
theorem aj1(w:World)(n:ak)(sv:aY)(hs:sv.ok w)(i j:Nat)(s t:ax)(hi:sv.l[i]? =some s)(hj:sv.l[j]? =some t)(hja:n.a=j)(hk:n.ai=3\/n.ai=4\/n.ai=5):Calls Tryz.prog 50 #[n.p9,sv.val,.int .i64 i] w λe w'=>e= .returned (kz n t.val (uN n t.val (au s.xs)) (au s.xs))/\Ext w w':=by
 obtain⟨hlt,hsi⟩:=abH.1 hi;obtain⟨alv,htj⟩:=abH.1 hj;have ug:=hs.few;obtain⟨a,ha⟩:∃a,sv.base=some a:=aT (j:=i) hs.rows pM;have hrow:=fQ hlt;rw[hsi]at hrow;have aba:=fQ alv;rw[htj]at aba;have hss:=hs.each s (hsi▸aby hlt);rcases hk with hk|hk|hk
 ·have hT:uN n t.val (au s.xs)= .func (.func 104) #[kz n (.slice none 0 0) .nilFunc (au s.xs)] #[]:=if_pos hk;rw[hT];refine fH Tryz.func50 [.agg (vo n),.c sv.val,aC i] ?_;repeat' ((conv=>whnf)<;>first|refine Fy ?_|refine EL ?_|refine zJ ?_|(show cO _ 4 ..;refine mV [] [] ala ?_ (h6:=amG _))|refine eU ?_|(show cO _ 1 ..;refine mV [8] _ abM ?_)|refine a_ ?_|refine ag ?_ ?_<;>intro _|refine And.intro ?_ ?_)
  all_goals(conv=>whnf)
  all_goals exact bZ (λ_ _ h=>h) (λ_=>rfl) rfl
 ·have hT:uN n t.val (au s.xs)= .func (.func 105) #[kz n t.val .nilFunc (au s.xs)] #[]:=by unfold uN;rw[if_neg aa,if_pos hk]
  rw[hT];refine fH Tryz.func50 [.agg (vo n),.c sv.val,aC i] ?_;repeat' ((conv=>whnf)<;>first|refine Fy ?_|refine EL ?_|refine zJ ?_|refine eU ?_|(show cO _ 1 ..;refine mV [8] _ abM ?_)|refine a_ ?_|refine ag ?_ ?_<;>intro _|refine And.intro ?_ ?_)
  all_goals(conv=>whnf)
  all_goals exact bZ (λ_ _ h=>h) (λ_=>rfl) rfl
 ·have hT:uN n t.val (au s.xs)= .func (.func 106) #[kz n t.val .nilFunc (au s.xs)] #[]:=by unfold uN;rw[if_neg aa,if_neg aa]
  rw[hT];refine fH Tryz.func50 [.agg (vo n),.c sv.val,aC i] ?_;repeat' ((conv=>whnf)<;>first|refine Fy ?_|refine EL ?_|refine zJ ?_|refine eU ?_|(show cO _ 1 ..;refine mV [8] _ abM ?_)|refine a_ ?_|refine ag ?_ ?_<;>intro _|refine And.intro ?_ ?_)
  all_goals(conv=>whnf)
  all_goals exact bZ (λ_ _ h=>h) (λ_=>rfl) rfl
theorem Iw{z:Int}(y:Int){K:Int->Prop}(h:z=y)(h1: -9223372036854775808<=y)(h2:y<=9223372036854775807)(hk:K y):fF .i64 z K:=by
 subst h;exact wrap_i64 h1 h2 hk
abbrev qK(w:World)(l:List Sp):Ending->World->Prop:=λe w'=>∃v,e= .returned v/\Ext w w'/\je w w' v 2 152 (gz l)
theorem Jv{B:Base}{i m:Nat}{H:Heap}{S:bR}{nx:Nat}{w:World}{l l':List Sp}(hl':l'=l)(hb:∀R w',S.holds R w'->(aU B.w0).holds R w')(hw0:B.w0=w)(he:(i,b_.rows (gz l') 2 152)∈H)(hm:m=l.length):jS B (.os i m) H S nx (qK w l):=by
 subst hw0 hm hl';refine dK λρ w' hw=>⟨_,rfl,bG hw hb,?_⟩;have hn:=fI hw hb he;rw[jg]at hn;exact hn
def uK(n:ak)(o:Nat)(size:Nat):List Sp:=(List.range size).map λi=>(n.data.xs.getD (o*size+i) 0,(i:Int))
theorem Wt(n:ak)(o size i:Nat):(List.range (i+1)).map (λi=>((n.data.xs.getD (o*size+i) 0,(i:Int)):Sp))=(List.range i).map (λi=>((n.data.xs.getD (o*size+i) 0,(i:Int)):Sp))++[(n.data.xs.getD (o*size+i) 0,(i:Int))]:=by
 rw[ait,afn];rfl
theorem ad7(w:World)(n:ak)(hd:n.data.ok w)(hbl:1<=n.aQ.xs.length/\n.aQ.xs.length<=64)(wE yg:Value)(c:Int)(o size:Nat)(hs:size<=64)(hdl:n.data.xs.length=n.aQ.xs.length*size)(ho:o<n.aQ.xs.length):Calls Tryz.prog 104 #[kz n wE yg c,.int .i64 o] w (qK w (uK n o size)):=by
 have hprod:n.aQ.xs.length*size<=64*64:=alN hbl.2 hs;have hdiv:(n.data.xs.length:Int)/n.aQ.xs.length=size:=by
  rw[hdl,akv];exact Int.mul_ediv_cancel_left _ aa
 have hos:o*size+size<=n.data.xs.length:=by
  have:=aj4 size (show o+1<=n.aQ.xs.length by omega);rw[aiB]at this;omega
 refine fH Tryz.func104 [.agg [aC n.ai,aC n.a,aC n.b,.c n.az.val,aC n.lo,aC n.hi,aC n.size,.c n.data.val,.c n.aQ.val,.c wE,.c yg,aC c],aC o] ?_;repeat' ((conv=>whnf)<;>first|refine pK ?_|refine a_ ?_)
 rw[hdiv];repeat' ((conv=>whnf)<;>first|(show pg ..;(refine lD size rfl rfl (by show 16*_<=_;omega) aa ?_))|refine a_ ?_)
 refine Wp.loop (σ:=Nat) 2 (λi=>[(1,aC o),(2,.lp 0 0 0 0),(5,aC size),(6,.os 1 size),(20,aC size),(21,aC i)]) (λi=>[(1,.rows (gz (nD size ((List.range i).map λi=>((n.data.xs.getD (o*size+i) 0,(i:Int)):Sp)))) 2 152),(0,.box [aC n.ai,aC n.a,aC n.b,.c n.az.val,aC n.lo,aC n.hi,aC n.size,.c n.data.val,.c n.aQ.val,.c wE,.c yg,aC c] 104)]) (λ_=>aU w)
  (λi=>i<=size) (λi=>size-i) 0 [] ay (λs=>⟨rfl,rfl⟩) (aae _) ⟨rfl,⟨rfl,rfl,rfl,rfl,rfl,rfl,trivial⟩,⟨?_,aj,trivial⟩,λ_ _ h=>h⟩ ?_
 ·have:gz (nD size ((List.range 0).map λi=>((n.data.xs.getD (o*size+i) 0,(i:Int)):Sp)))=List.replicate size [Value.int .i64 0,.int .i64 0]:=by simp[gz,nD]
  show(1,b_.rows (gz (nD size ((List.range 0).map λi=>((n.data.xs.getD (o*size+i) 0,(i:Int)):Sp)))) 2 152)∈_;rw[this];exact aj
 rintro i hi;have hil:((List.range i).map λi=>((n.data.xs.getD (o*size+i) 0,(i:Int)):Sp)).length=i:=by simp
 by_cases hlt:i<size
 ·have hsn:=Wt n o size i;obtain⟨ua,rO⟩:=hd.base aa;have hur:∀(R:Nat->Prop) w',(aU w).holds R w'->bE w' (some ua) 1 (aZ n.data.xs):=λR w' h=>by rw[<-rO];exact aH h hd.rows
  have hm:(o:Int)*size=((o*size:Nat):Int):=by rw[akv]
  obtain⟨q,hq⟩:∃q,o*size+i=q:=⟨_,rfl⟩;rw[hq]at hsn;repeat' ((conv=>whnf)<;>first|(show dn ..;refine aM _ q rO rfl aa ?_)|(show gZ ..;refine dP hur (j:=q) aa ?_)|(show fF ..;(first|refine Iw ((o*size:Nat):Int) hm aa aa ?_|refine Iw (q:Int) aa aa aa ?_|refine Iw ((i+1:Nat):Int) aa aa aa ?_))|(show eP ..;(refine bY i rfl hlt FC ?_))|(show dH ..;refine BC hil hlt ?_)|refine a_ ?_|refine ag ?_ ?_<;>intro _)
  all_goals(conv=>whnf)
  all_goals exact⟨i+1,[],hlt,by omega,rfl,fE,⟨by rw[hsn];exact aj,aj,trivial⟩,λ_ _ h=>h⟩
 ·obtain rfl:i=size:=by omega
  have hgr:nD i ((List.range i).map λk=>((n.data.xs.getD (o*i+k) 0,(k:Int)):Sp))=uK n o i:=by unfold nD uK;rw[aas,amj,aiH];simp
  repeat' ((conv=>whnf)<;>first|refine a_ ?_|refine ag ?_ ?_<;>intro _)
  conv=>whnf
  exact Jv hgr (λ_ _ h=>h) rfl aj (by simp[uK])
def gY(d:List Int)(k1 k2 k3 i1 i2 o:Int)(i:Nat):Sp:=
 (d.getD (o/(i2-k3+1)/(i1-k2+1)*k1*k2*k3+i).toNat 0,((i:Int)/k3/k2*i1+o/(i2-k3+1)%(i1-k2+1)+(i:Int)/k3%k2)*i2+o%(i2-k3+1)+(i:Int)%k3)
def CS(d:List Int)(k1 k2 k3 i1 i2 o:Int):List Sp:=(List.range (k1*k2*k3).toNat).map (gY d k1 k2 k3 i1 i2 o)
structure ajn(n:ak)(t:ax)(k0 k1 k2 k3 i1 i2 o:Int):Prop where
 amu:n.az.xs=[k0,k1,k2,k3]
 ak6:∃i0,t.xs=[i0,i1,i2]
 aoN:1<=k1/\k1<=64
 ao_:1<=k2/\k2<=i1
 aoU:1<=k3/\k3<=i2
 amX:i1<=64
 an3:i2<=64
 anq:(n.data.xs.length:Int)=k0*k1*k2*k3
 apJ:k0<=64
 h_o:0<=o/\o<=64
 h_k:o/(i2-k3+1)/(i1-k2+1)<k0
theorem abT(l:List Sp)(s:Sp){i m:Nat}{T:TypeId}{H:Heap}(hm:m=l.length):(i,b_.rows (gz (l++[s])) 2 T)∈(i,b_.rows (List.take m (gz l)++[[.int .i64 s.1,.int .i64 s.2]]) 2 T)::H:=by
 subst hm;rw[show gz (l++[s])=List.take l.length (gz l)++[[.int .i64 s.1,.int .i64 s.2]] by rw[aen EP];simp[gz]];exact YV
theorem jI{x y:Int}(hx:0<=x)(hy:0<y):0<=x/y/\x/y<=x/\0<=x%y/\x%y<y:=⟨amv hx aa,aku y hx,alL x aa,akS x hy⟩
theorem aeD(w:World)(n:ak)(t:ax)(hd:n.data.ok w)(hsh:n.az.ok w)(ht:t.ok w)(yg:Value)(c k0 k1 k2 k3 i1 i2 o:Int)(h:ajn n t k0 k1 k2 k3 i1 i2 o):Calls Tryz.prog 105 #[kz n t.val yg c,.int .i64 o] w (qK w (CS n.data.xs k1 k2 k3 i1 i2 o)):=by
 obtain⟨hs,⟨i0,hi⟩,b1,b2,b3,bi1,bi2,hdl,b0,bo,bk⟩:=h;obtain⟨us,iL⟩:=hsh.base (by rw[hs];simp);obtain⟨ut,hut⟩:=ht.base (by rw[hi];simp);have hsr:∀(R:Nat->Prop) w',(aU w).holds R w'->bE w' (some us) 1 (aZ [k0,k1,k2,k3]):=λR w' h=>by rw[<-iL,<-hs];exact aH h hsh.rows
 have htr:∀(R:Nat->Prop) w',(aU w).holds R w'->bE w' (some ut) 1 (aZ [i0,i1,i2]):=λR w' h=>by rw[<-hut,<-hi];exact aH h ht.rows
 have hsl:n.az.xs.length=4:=by rw[hs];rfl
 have htl:t.xs.length=3:=by rw[hi];rfl
 have hW:0<i2-k3+1:=by omega
 have hH:0<i1-k2+1:=by omega
 obtain⟨d1,d2,d3,d4⟩:=jI bo.1 hW;obtain⟨d5,d6,d7,d8⟩:=jI d1 hH;have m12:=jL (x:=k1) (y:=k2) (A:=64) (B:=64) aa aa;have apR:=jL (x:=k1*k2) (y:=k3) (A:=64*64) (B:=64) m12 aa;have n12:=amz (show 0<k1 by omega) (show 0<k2 by omega);have n123:=amz n12 (show 0<k3 by omega);obtain⟨Q,hQ⟩:∃Q:Nat,k1*k2*k3=Q:=⟨(k1*k2*k3).toNat,by omega⟩;have hcT:CS n.data.xs k1 k2 k3 i1 i2 o=(List.range Q).map (gY n.data.xs k1 k2 k3 i1 i2 o):=by unfold CS;rw[hQ];rfl
 rw[hcT];refine fH Tryz.func105 [.agg [aC n.ai,aC n.a,aC n.b,.c n.az.val,aC n.lo,aC n.hi,aC n.size,.c n.data.val,.c n.aQ.val,.c t.val,.c yg,aC c],aC o] ?_;repeat' ((conv=>whnf)<;>first|refine Nc ?_|refine PT ?_|refine mG ?_|refine pK ?_|refine bV ?_)
 rw[hQ];have mK1:=jL (x:=o/(i2-k3+1)/(i1-k2+1)) (y:=k1) (A:=64) (B:=64) aa aa;have mK2:=jL (x:=o/(i2-k3+1)/(i1-k2+1)*k1) (y:=k2) (A:=64*64) (B:=64) mK1 aa;have mK3:=jL (x:=o/(i2-k3+1)/(i1-k2+1)*k1*k2) (y:=k3) (A:=64*64*64) (B:=64) mK2 aa;have e1:o/(i2-k3+1)/(i1-k2+1)*k1*k2*k3=o/(i2-k3+1)/(i1-k2+1)*(Q:Int):=by rw[<-hQ];grind
 have e2:k0*k1*k2*k3=k0*(Q:Int):=by rw[<-hQ];grind
 have e3:(o/(i2-k3+1)/(i1-k2+1)+1)*(Q:Int)<=k0*(Q:Int):=ahi aa aa;rw[aky,age]at e3;have e4:0<=o/(i2-k3+1)/(i1-k2+1)*(Q:Int):=agJ d5 aa;refine Wp.loop (σ:=Nat×Nat) 2 (λ⟨i,m⟩=>[(2,.lp 0 0 0 0),(5,aC k2),(6,aC k3),(9,aC (o%(i2-k3+1))),(10,aC (o/(i2-k3+1)%(i1-k2+1))),(11,aC (o/(i2-k3+1)/(i1-k2+1))),(12,.os 1 m),(62,aC Q),(63,aC i)]) (λ⟨i,m⟩=>[(1,.rows (gz ((List.range i).map (gY n.data.xs k1 k2 k3 i1 i2 o))) 2 152),(0,.box [aC n.ai,aC n.a,aC n.b,.c n.az.val,aC n.lo,aC n.hi,aC n.size,.c n.data.val,.c n.aQ.val,.c t.val,.c yg,aC c] 104)]) (λ_=>aU w)
  (λ⟨i,m⟩=>i<=Q/\m=i) (λs=>Q-s.1) (0,0) [(1,none)] ay (λs=>⟨rfl,rfl⟩) ⟨aae _,rfl⟩ ⟨rfl,⟨rfl,rfl,rfl,rfl,rfl,rfl,rfl,rfl,rfl,trivial⟩,⟨rfl,aj,trivial⟩,λ_ _ h=>h⟩ ?_
 rintro⟨i,m⟩ ⟨hiQ,hmi⟩;subst hmi;have hil:((List.range m).map (gY n.data.xs k1 k2 k3 i1 i2 o)).length=m:=by simp
 by_cases hlt:m<Q
 ·have hsn:(List.range (m+1)).map (gY n.data.xs k1 k2 k3 i1 i2 o)=(List.range m).map (gY n.data.xs k1 k2 k3 i1 i2 o)++[gY n.data.xs k1 k2 k3 i1 i2 o m]:=by rw[ait,afn];rfl
  obtain⟨c1,c2,c3,c4⟩:=jI (x:=(m:Int)) (y:=k3) aa aa;obtain⟨c5,c6,c7,c8⟩:=jI (x:=(m:Int)/k3) (y:=k2) c1 aa;have p1:=jL (x:=(m:Int)/k3/k2) (y:=i1) (A:=262144) (B:=64) aa aa;have p2:=jL (x:=(m:Int)/k3/k2*i1+o/(i2-k3+1)%(i1-k2+1)+(m:Int)/k3%k2) (y:=i2) (A:=16777400) (B:=64) aa aa;obtain⟨ud,hud⟩:=hd.base aa;have hdr:∀(R:Nat->Prop) w',(aU w).holds R w'->bE w' (some ud) 1 (aZ n.data.xs):=λR w' h=>by rw[<-hud];exact aH h hd.rows
  repeat' ((conv=>whnf)<;>first|refine PL ?_|(show cO _ 10 ..;(refine vM bW mixed [] [(0,.box [aC n.ai,aC n.a,aC n.b,.c n.az.val,aC n.lo,aC n.hi,aC n.size,.c n.data.val,.c n.aQ.val,.c t.val,.c yg,aC c] 104)] (bS [0,1,2,3,4,5,6,7,8,9,10,11,12,13,14,15,16,17,18,19,20,21,22,23,24,25,26,27,28,29,30,31,32,33,34,35,36,37,38,139,140,41] .done) bg bg bg Pq ?_))|refine Nc ?_|refine PT ?_|(show dn ..;refine aiY hud aa aa ?_)|(show gZ ..;refine dP hdr (j:=(o/(i2-k3+1)/(i1-k2+1)*k1*k2*k3+(m:Int)).toNat) aa ?_)|refine mG ?_|refine pK ?_|(show Gn ..;(refine mg PO ?_))|(show jv ..;(refine fU Nk ?_))|refine bV ?_|refine ag ?_ ?_<;>intro _)
  all_goals(conv=>whnf)
  all_goals exact⟨(m+1,m+1),[(1,some 3)],⟨hlt,rfl⟩,by simp only;omega,rfl,fE,⟨by
   show(3,b_.rows (gz ((List.range (m+1)).map (gY n.data.xs k1 k2 k3 i1 i2 o))) 2 152)∈_;rw[hsn];exact abT _ _ hil.symm,aj,trivial⟩,λ_ _ h=>h⟩
 ·obtain rfl:m=Q:=by omega
  repeat' ((conv=>whnf)<;>first|refine bV ?_|refine ag ?_ ?_<;>intro _)
  conv=>whnf
  exact Jv rfl (λ_ _ h=>h) rfl aj hil.symm
def iN(z i1 i2 o:Int)(i:Nat):Sp:=
 (1,(o/(i2/z)/(i1/z)*i1+o/(i2/z)%(i1/z)*z+(i:Int)/z)*i2+o%(i2/z)*z+(i:Int)%z)
def CQ(z i1 i2 o:Int):List Sp:=(List.range (z*z).toNat).map (iN z i1 i2 o)
structure akp(n:ak)(t:ax)(i1 i2 o:Int):Prop where
 ak6:∃i0,t.xs=[i0,i1,i2]
 aoK:1<=n.size/\n.size<=i1
 api:n.size<=i2
 amX:i1<=64
 an3:i2<=64
 h_o:0<=o/\o<=64
theorem uq{x y:Int}(hy:0<y)(h:y<=x):1<=x/y:=by
 have:=Int.ediv_le_ediv hy h
 rwa[Int.ediv_self aa]at this
theorem aeQ(w:World)(n:ak)(t:ax)(ht:t.ok w)(yg:Value)(c i1 i2 o:Int)(h:akp n t i1 i2 o):Calls Tryz.prog 106 #[kz n t.val yg c,.int .i64 o] w (qK w (CQ n.size i1 i2 o)):=by
 obtain⟨⟨i0,hi⟩,bz1,bz2,bi1,bi2,bo⟩:=h;obtain⟨ut,hut⟩:=ht.base (by rw[hi];simp);have htr:∀(R:Nat->Prop) w',(aU w).holds R w'->bE w' (some ut) 1 (aZ [i0,i1,i2]):=λR w' h=>by rw[<-hut,<-hi];exact aH h ht.rows
 have htl:t.xs.length=3:=by rw[hi];rfl
 have hW:=uq (x:=i2) (y:=n.size) aa bz2;have hH:=uq (x:=i1) (y:=n.size) aa bz1.2;obtain⟨a1,a2,_,_⟩:=jI (x:=i2) (y:=n.size) aa aa;obtain⟨a5,a6,_,_⟩:=jI (x:=i1) (y:=n.size) aa aa;obtain⟨d1,d2,d3,d4⟩:=jI (x:=o) (y:=i2/n.size) bo.1 aa;obtain⟨d5,d6,d7,d8⟩:=jI (x:=o/(i2/n.size)) (y:=i1/n.size) d1 aa;have m1:=jL (x:=n.size) (y:=n.size) (A:=64) (B:=64) aa aa;have m2:=amz (show 0<n.size by omega) (show 0<n.size by omega);have m3:=jL (x:=o/(i2/n.size)/(i1/n.size)) (y:=i1) (A:=64) (B:=64) aa aa;have m4:=jL (x:=o/(i2/n.size)%(i1/n.size)) (y:=n.size) (A:=64) (B:=64) aa aa;have m5:=jL (x:=o%(i2/n.size)) (y:=n.size) (A:=64) (B:=64) aa aa;obtain⟨Q,hQ⟩:∃Q:Nat,n.size*n.size=Q:=⟨(n.size*n.size).toNat,by omega⟩;have hcT:CQ n.size i1 i2 o=(List.range Q).map (iN n.size i1 i2 o):=by unfold CQ;rw[hQ];rfl
 rw[hcT];refine fH Tryz.func106 [.agg [aC n.ai,aC n.a,aC n.b,.c n.az.val,aC n.lo,aC n.hi,aC n.size,.c n.data.val,.c n.aQ.val,.c t.val,.c yg,aC c],aC o] ?_;repeat' ((conv=>whnf)<;>first|(show dn ..;(first|refine aM ut 1 hut rfl zX ?_|refine aM ut 2 hut rfl zX ?_))|refine N7 ?_|refine mG ?_|refine pK ?_|refine bV ?_)
 rw[hQ];refine Wp.loop (σ:=Nat×Nat) 2 (λ⟨i,m⟩=>[(2,.lp 0 0 0 0),(7,aC (o%(i2/n.size))),(8,aC (o/(i2/n.size)%(i1/n.size))),(9,aC (o/(i2/n.size)/(i1/n.size))),(10,.os 1 m),(47,aC Q),(48,aC i)]) (λ⟨i,m⟩=>[(1,.rows (gz ((List.range i).map (iN n.size i1 i2 o))) 2 152),(0,.box [aC n.ai,aC n.a,aC n.b,.c n.az.val,aC n.lo,aC n.hi,aC n.size,.c n.data.val,.c n.aQ.val,.c t.val,.c yg,aC c] 104)]) (λ_=>aU w)
  (λ⟨i,m⟩=>i<=Q/\m=i) (λs=>Q-s.1) (0,0) [(1,none)] ay (λs=>⟨rfl,rfl⟩) ⟨aae _,rfl⟩ ⟨rfl,⟨rfl,rfl,rfl,rfl,rfl,rfl,rfl,trivial⟩,⟨rfl,aj,trivial⟩,λ_ _ h=>h⟩ ?_
 rintro⟨i,m⟩ ⟨hiQ,hmi⟩;subst hmi;have hil:((List.range m).map (iN n.size i1 i2 o)).length=m:=by simp
 by_cases hlt:m<Q
 ·have hsn:(List.range (m+1)).map (iN n.size i1 i2 o)=(List.range m).map (iN n.size i1 i2 o)++[iN n.size i1 i2 o m]:=by rw[ait,afn];rfl
  obtain⟨c1,c2,c3,c4⟩:=jI (x:=(m:Int)) (y:=n.size) aa aa;have p2:=jL (x:=o/(i2/n.size)/(i1/n.size)*i1+o/(i2/n.size)%(i1/n.size)*n.size+(m:Int)/n.size) (y:=i2) (A:=100000) (B:=64) aa aa;repeat' ((conv=>whnf)<;>first|refine PL ?_|(show cO _ 7 ..;(refine vM bW mixed [] [(0,.box [aC n.ai,aC n.a,aC n.b,.c n.az.val,aC n.lo,aC n.hi,aC n.size,.c n.data.val,.c n.aQ.val,.c t.val,.c yg,aC c] 104)] (bS [0,1,2,3,4,5,6,7,8,9,10,11,12,13,14,15,16,17,18,19,20,21,22,23,24,25,26,27,28,29,30,31,32,33,34,35,36,137,138,39] .done) bg bg bg Pq ?_))|(show dn ..;(first|refine aM ut 1 hut rfl zX ?_|refine aM ut 2 hut rfl zX ?_))|refine N7 ?_|refine mG ?_|refine pK ?_|(show Gn ..;(refine mg PO ?_))|(show jv ..;(refine fU Nk ?_))|refine bV ?_|refine ag ?_ ?_<;>intro _)
  all_goals(conv=>whnf)
  all_goals exact⟨(m+1,m+1),[(1,some 3)],⟨hlt,rfl⟩,by simp only;omega,rfl,fE,⟨by
   show(3,b_.rows (gz ((List.range (m+1)).map (iN n.size i1 i2 o))) 2 152)∈_;rw[hsn];exact abT _ _ hil.symm,aj,trivial⟩,λ_ _ h=>h⟩
 ·obtain rfl:m=Q:=by omega
  repeat' ((conv=>whnf)<;>first|refine bV ?_|refine ag ?_ ?_<;>intro _)
  conv=>whnf
  exact Jv rfl (λ_ _ h=>h) rfl aj hil.symm
theorem ag2{x y q:Int}{K:Int->Prop}(e:x/y=q)(h0:0<=x)(h1:x<=9223372036854775807)(hy:0<y)(h:K q):yM .i64 x y K:=by
 subst e;exact div_pos rfl h0 h1 hy h
def dV(n:ak)(cnt o:Nat):Int:=if n.ai=3 then n.aQ.xs.getD o 0 else if n.ai=4 then n.aQ.xs.getD (o/(cnt/n.aQ.xs.length)) 0 else 0
theorem VN(w:World)(n:ak)(hb:n.aQ.ok w)(hk:n.ai=3\/n.ai=4\/n.ai=5)(wE yg:Value)(cnt o:Nat)(hc:cnt<=64)(ho:o<cnt)(h3:n.ai=3->n.aQ.xs.length=cnt)(h4:n.ai=4->1<=n.aQ.xs.length/\n.aQ.xs.length<=cnt/\o/(cnt/n.aQ.xs.length)<n.aQ.xs.length):Calls Tryz.prog 108 #[kz n wE yg cnt,.int .i64 o] w λe w'=>e= .returned (.int .i64 (dV n cnt o))/\Ext w w':=by
 have ug:=hb.few;rcases hk with hk|hk|hk
 ·have hB:dV n cnt o=n.aQ.xs.getD o 0:=if_pos hk;rw[hB];have hl:=h3 hk;obtain⟨ua,rO⟩:=hb.base aa;have hur:∀(R:Nat->Prop) w',(aU w).holds R w'->bE w' (some ua) 1 (aZ n.aQ.xs):=λR w' h=>by rw[<-rO];exact aH h hb.rows
  refine fH Tryz.func108 [.agg [aC n.ai,aC n.a,aC n.b,.c n.az.val,aC n.lo,aC n.hi,aC n.size,.c n.data.val,.c n.aQ.val,.c wE,.c yg,aC (cnt:Int)],aC o] ?_;repeat' ((conv=>whnf)<;>first|refine sP ?_|refine pY ?_|refine bV ?_|refine ag ?_ ?_<;>intro _)
  conv=>whnf
  exact bZ (λ_ _ h=>h) (λ_=>rfl) rfl
 ·have hB:dV n cnt o=n.aQ.xs.getD (o/(cnt/n.aQ.xs.length)) 0:=by unfold dV;rw[if_neg aa,if_pos hk]
  rw[hB];obtain⟨h5,h6,h7⟩:=h4 hk;obtain⟨ua,rO⟩:=hb.base aa;have hur:∀(R:Nat->Prop) w',(aU w).holds R w'->bE w' (some ua) 1 (aZ n.aQ.xs):=λR w' h=>by rw[<-rO];exact aH h hb.rows
  have e1:(cnt:Int)/n.aQ.xs.length=((cnt/n.aQ.xs.length:Nat):Int):=by rw[am6]
  have hd:1<=cnt/n.aQ.xs.length:=(Nat.one_le_div_iff aa).2 h6;have hdl:cnt/n.aQ.xs.length<=cnt:=anJ _ _;have e2:(o:Int)/((cnt/n.aQ.xs.length:Nat):Int)=((o/(cnt/n.aQ.xs.length):Nat):Int):=(am6 o (cnt/n.aQ.xs.length)).symm;obtain⟨q,hq⟩:∃q,o/(cnt/n.aQ.xs.length)=q:=⟨_,rfl⟩;obtain⟨p,hp⟩:∃p,cnt/n.aQ.xs.length=p:=⟨_,rfl⟩;rw[hq]at e2 h7|-
  rw[hp]at e1 e2 hd hdl;refine fH Tryz.func108 [.agg [aC n.ai,aC n.a,aC n.b,.c n.az.val,aC n.lo,aC n.hi,aC n.size,.c n.data.val,.c n.aQ.val,.c wE,.c yg,aC (cnt:Int)],aC o] ?_;repeat' ((conv=>whnf)<;>first|(show dn ..;refine aM _ q rO rfl aa ?_)|(show gZ ..;refine dP hur (j:=q) aa ?_)|(show yM ..;(first|refine ag2 e1 aa aa aa ?_|refine ag2 e2 aa aa aa ?_))|refine bV ?_|refine ag ?_ ?_<;>intro _)
  all_goals(conv=>whnf)
  all_goals exact bZ (λ_ _ h=>h) (λ_=>rfl) rfl
 ·have hB:dV n cnt o=0:=by unfold dV;rw[if_neg aa,if_neg aa]
  rw[hB];refine fH Tryz.func108 [.agg [aC n.ai,aC n.a,aC n.b,.c n.az.val,aC n.lo,aC n.hi,aC n.size,.c n.data.val,.c n.aQ.val,.c wE,.c yg,aC (cnt:Int)],aC o] ?_;repeat' ((conv=>whnf)<;>first|refine bV ?_|refine ag ?_ ?_<;>intro _)
  conv=>whnf
  exact bZ (λ_ _ h=>h) (λ_=>rfl) rfl
def Qt(a:Sp)(s:Int)(t:Sp):Int:=s+min (t.1*a.1) (t.1*a.2)
def Qu(a:Sp)(s:Int)(t:Sp):Int:=s+max (t.1*a.1) (t.1*a.2)
def Ay(n:ak)(cnt k:Nat)(T:Nat->List Sp)(a:Sp):List Int:=(List.range k).flatMap λo=>[(T o).foldl (Qt a) (dV n cnt o),(T o).foldl (Qu a) (dV n cnt o)]
def nH(n:ak)(cnt:Nat)(T:Nat->List Sp)(a:Sp):List Int:=Ay n cnt cnt T a
theorem KX(n:ak)(cnt k:Nat)(T:Nat->List Sp)(a:Sp):Ay n cnt (k+1) T a=Ay n cnt k T a++[(T k).foldl (Qt a) (dV n cnt k),(T k).foldl (Qu a) (dV n cnt k)]:=by
 unfold Ay;rw[ait,List.flatMap_append];simp
theorem FJ(n:ak)(cnt:Nat)(T:Nat->List Sp)(a:Sp):∀k,(Ay n cnt k T a).length=2*k
 |0=>rfl
 |k+1=>by rw[KX,adx,FJ n cnt T a k];rfl
theorem J8{f:Int->Sp->Int}{s:Int}{l:List Sp}{j:Nat}(h:j<l.length):(l.take (j+1)).foldl f s=f ((l.take j).foldl f s) l[j]:=by
 rw[ajP h,List.foldl_append];rfl
theorem afL(l:List Int)(x y:Int){i m:Nat}{T:TypeId}{H:Heap}(hm:m=l.length):(i,b_.rows (aZ (l++[x,y])) 1 T)∈(i,b_.rows (List.take m (aZ l)++[[.int .i64 x],[.int .i64 y]]) 1 T)::H:=by
 subst hm;rw[show aZ (l++[x,y])=List.take l.length (aZ l)++[[.int .i64 x],[.int .i64 y]] by rw[aen oG];simp[aZ]];exact YV
structure Vg(w:World)(F:FuncId)(P0:Value)(cnt:Nat)(T:Nat->List Sp):Prop where
 enter:∀ar w,(callFunc F ar).run Tryz.prog w= .ok (.enter F ar) w
 calls:∀R w',(aU w).holds R w'->∀o,o<cnt->Calls Tryz.prog F #[P0,.int .i64 o] w' (qK w' (T o))
 few:∀o,o<cnt->(T o).length<=64
 bd:∀o,o<cnt->∀s∈T o,fJ s.1
structure ace(w:World)(n:ak)(cnt:Nat):Prop where
 ai:n.ai=3\/n.ai=4\/n.ai=5
 aQ:n.aQ.ok w
 agG:∀x∈n.aQ.xs,fJ x
 few:cnt<=64
 three:n.ai=3->n.aQ.xs.length=cnt
 four:n.ai=4->1<=n.aQ.xs.length/\n.aQ.xs.length<=cnt/\∀o,o<cnt->o/(cnt/n.aQ.xs.length)<n.aQ.xs.length
theorem Ir{w:World}{n:ak}{cnt:Nat}(h:ace w n cnt)(o:Nat):fJ (dV n cnt o):=by
 unfold dV;split
 ·exact iY h.agG _
 ·split
  ·exact iY h.agG _
  ·exact⟨by decide,by decide⟩
theorem U2{a:Sp}(ha:fJ a.1/\fJ a.2):∀{l:List Sp} {s:Int},(∀t∈l,fJ t.1)->(s-l.length*1099511627776<=l.foldl (Qt a) s/\l.foldl (Qt a) s<=s+l.length*1099511627776)/\(s-l.length*1099511627776<=l.foldl (Qu a) s/\l.foldl (Qu a) s<=s+l.length*1099511627776)
 |[],s,_=>by simp
 |t::r,s,h=>by
  have h1:=jL (A:=1048576) (B:=1048576) (h t YV) ha.1;have h2:=jL (A:=1048576) (B:=1048576) (h t YV) ha.2;have g1:=U2 ha (l:=r) (s:=Qt a s t) (λx hx=>h x (aeg _ hx));have g2:=U2 ha (l:=r) (s:=Qu a s t) (λx hx=>h x (aeg _ hx));have e1:Qt a s t=s+min (t.1*a.1) (t.1*a.2):=rfl;have e2:Qu a s t=s+max (t.1*a.1) (t.1*a.2):=rfl;simp only[ahb,ahN];omega
theorem MS{B:Base}{m:Nat}{F:FuncId}{args:List SV}{H:Heap}{S:bR}{nx:Nat}{K:SV->Heap->bR->Nat->Prop}(T:List Sp)(hf:∀ar w,(callFunc F ar).run Tryz.prog w= .ok (.enter F ar) w)
 (hc:∀ρ w,dO B ρ nx H S w->Calls Tryz.prog F (SV.dW ρ args).toArray w (qK w T)) (h:K (.os nx T.length) ((nx,.rows (gz T) 2 152)::H) S (nx+1)):aJ ⟨Tryz.prog,B,m,tab⟩ F args H S nx K:=by
 refine jy hf 2 152 (λ_:Unit=>gz T) (λ_=>True) (λρ w hw=>(hc ρ w hw).mono ?_) (λ_ _=> ?_)
 ·rintro e w' ⟨v,h1,h2,h3⟩;exact⟨(),trivial,v,h1,h2,h3⟩
 ·rw[jg];exact h
theorem aeq(w:World)(n:ak)(wE:Value)(F:FuncId)(P0:Value)(cnt:Nat)(T:Nat->List Sp)(a b:Sp)(hT:Vg w F P0 cnt T)(hn:ace w n cnt)(ha:fJ a.1/\fJ a.2):Calls Tryz.prog 51 #[kz n wE (.func (.func F) #[P0] #[]) cnt,o7 a,o7 b] w (Co w n (nH n cnt T a)):=by
 have hk:=hn.ai;have ug:=hn.few;obtain⟨ha1,ha2⟩:=ha;refine fH Tryz.func51 [.agg [aC n.ai,aC n.a,aC n.b,.c n.az.val,aC n.lo,aC n.hi,aC n.size,.c n.data.val,.c n.aQ.val,.c wE,.fn (.func F) [.c P0] [],aC (cnt:Int)],.agg [aC a.1,aC a.2],.agg [aC b.1,aC b.2]] ?_;repeat' ((conv=>whnf)<;>first|refine bV ?_|refine ag ?_ ?_<;>intro _)
 refine Wp.loop (σ:=Nat×Nat) 4 (λ⟨o,m⟩=>[(3,.lp 0 0 0 0),(4,.lp 1 0 0 0),(11,.os 3 m),(124,aC cnt),(125,aC o)]) (λ⟨o,m⟩=>[(3,.rows (aZ (Ay n cnt o T a)) 1 3),(1,.box [aC a.1,aC a.2] 58),(0,.box [aC n.ai,aC n.a,aC n.b,.c n.az.val,aC n.lo,aC n.hi,aC n.size,.c n.data.val,.c n.aQ.val,.c wE,.fn (.func F) [.c P0] [],aC (cnt:Int)] 104)]) (λ_=>aU w)
  (λ⟨o,m⟩=>o<=cnt/\m=2*o) (λs=>cnt-s.1) (0,0) [(3,none)] ay (λs=>⟨rfl,rfl⟩) ⟨aae _,rfl⟩ ⟨rfl,⟨rfl,rfl,rfl,rfl,rfl,trivial⟩,⟨rfl,aj,aj,trivial⟩,λ_ _ h=>h⟩ ?_
 rintro⟨o,m⟩ ⟨ho,hm⟩;have hml:=FJ n cnt T a o;by_cases hlt:o<cnt
 ·have hsn:=KX n cnt o T a;have hbd:=Ir hn o;have htb:=hT.bd o hlt;have htf:=hT.few o hlt;have hC:∀{R:Nat->Prop} {w':World},(aU w).holds R w'->Calls Tryz.prog F #[P0,.int .i64 o] w' (qK w' (T o)):=λh=>hT.calls _ _ h o hlt;repeat' ((conv=>whnf)<;>first|(show jQ _ 108 ..;refine jo (f:=108) Tryz.call108 (.int .i64 (dV n cnt o)) (λρ w' hw=>VN w' n (ae hw λR h=>hn.aQ.later h) hk wE (.func (.func F) #[P0] #[]) cnt o ug hlt hn.three (λh4=>⟨(hn.four h4).1,(hn.four h4).2.1,(hn.four h4).2.2 o hlt⟩)) ?_)|((show aJ _ F _ _ _ _ _);refine MS (T o) hT.enter (λρ w' hw=>ae hw λR h=>hC h) ?_)|refine bV ?_|refine ag ?_ ?_<;>intro _)
  refine Wp.loop (σ:=Nat×Int×Int) 5 (λ⟨j,lo,hi⟩=>[(3,.lp 0 0 0 0),(4,.lp 1 0 0 0),(11,.os 3 m),(124,aC cnt),(125,aC o),(13,aC lo),(14,aC hi),(137,.os 4 (T o).length),(138,aC (T o).length),(139,aC j)]) (λ_=>[(4,.rows (gz (T o)) 2 152),(3,.rows (aZ (Ay n cnt o T a)) 1 3),(1,.box [aC a.1,aC a.2] 58),(0,.box [aC n.ai,aC n.a,aC n.b,.c n.az.val,aC n.lo,aC n.hi,aC n.size,.c n.data.val,.c n.aQ.val,.c wE,.fn (.func F) [.c P0] [],aC (cnt:Int)] 104)]) (λ_=>aU w)
   (λ⟨j,lo,hi⟩=>j<=(T o).length/\lo=((T o).take j).foldl (Qt a) (dV n cnt o)/\hi=((T o).take j).foldl (Qu a) (dV n cnt o)) (λs=>(T o).length-s.1) (0,dV n cnt o,dV n cnt o) [] ay (λs=>⟨rfl,rfl⟩) ⟨aae _,rfl,rfl⟩ ⟨rfl,⟨rfl,rfl,rfl,rfl,rfl,rfl,rfl,rfl,rfl,rfl,trivial⟩,fE,λ_ _ h=>h⟩ ?_
  rintro⟨j,lo,hi⟩ ⟨hj,hlo,hhi⟩;by_cases hjl:j<(T o).length
  ·have s1:=J8 (f:=Qt a) (s:=dV n cnt o) hjl;have s2:=J8 (f:=Qu a) (s:=dV n cnt o) hjl;have hrow:=EC hjl;have hwb:=htb _ (aby hjl);have g:=U2 ⟨ha1,ha2⟩ (l:=(T o).take j) (s:=dV n cnt o) (λx hx=>htb x (ams hx));rw[<-hlo,<-hhi,aek,ajY hj]at g;rw[<-hlo]at s1;rw[<-hhi]at s2;generalize (T o)[j]=s at*;have q1:=jL (A:=1048576) (B:=1048576) hwb ha1;have q2:=jL (A:=1048576) (B:=1048576) hwb ha2;unfold fJ at hbd;repeat' ((conv=>whnf)<;>first|(show eP ..;(refine bY j rfl hjl EP ?_))|refine wV ?_|refine bV ?_|refine ag ?_ ?_<;>intro _)
   all_goals(conv=>whnf)
   all_goals exact⟨(j+1,_,_),[],⟨hjl,by rw[s1];unfold Qt;omega,by rw[s2];unfold Qu;omega⟩,by simp only;omega,rfl,⟨rfl,rfl,rfl,rfl,rfl,rfl,rfl,rfl,rfl,rfl,trivial⟩,fE,λ_ _ h=>h⟩
  ·obtain rfl:j=(T o).length:=by omega
   rw[aen (Tw _)]at hlo hhi;repeat' ((conv=>whnf)<;>first|(show Gn ..;(refine mg apC ?_))|(show jv ..;(refine fU apa ?_))|refine bV ?_|refine ag ?_ ?_<;>intro _)
   conv=>whnf
   exact⟨(o+1,m+2),[(3,some 6)],⟨hlt,by omega⟩,by simp only;omega,rfl,fE,⟨by
    show(6,b_.rows (aZ (Ay n cnt (o+1) T a)) 1 3)∈_;rw[hsn,<-hlo,<-hhi];exact afL _ _ _ (by rw[hml,hm]),aj,aj,trivial⟩,λ_ _ h=>h⟩
 ·obtain rfl:o=cnt:=by omega
  repeat' ((conv=>whnf)<;>first|refine bV ?_|refine ag ?_ ?_<;>intro _)
  conv=>whnf
  refine rW (λ_ _ h=>h) rfl aj (by rw[hm];exact hml.symm) (λx hx=> ?_) (by rw[show nH n o T a=Ay n o o T a from rfl,hml];omega);obtain⟨q,hq,hx⟩:=am5.1 hx;rw[ahe]at hq;have g:=U2 ⟨ha1,ha2⟩ (l:=T q) (s:=dV n o q) (hT.bd q hq);have gf:=hT.few q hq;have gb:=Ir hn q;unfold fJ at gb;simp only[abr,aiF,or_false]at hx;unfold i64;rcases hx with rfl|rfl<;>omega
def FP(av:List Int)(s:Int)(t:Sp):Int:=s+t.1*av.getD t.2.toNat 0
def jh(n:ak)(cnt k:Nat)(T:Nat->List Sp)(av:List Int):List Int:=(List.range k).map λo=>(T o).foldl (FP av) (dV n cnt o)
theorem XM{n i:Nat}{l:List Int}{x:Int}(hl:l.length=i)(hi:i<n):(aZ (j_ n (l++[x])))[i]? =some [.int .i64 x]:=by
 subst hl;rw[eO (by rw[vF zk];exact hi)];simp[j_]
theorem acB{n i:Nat}{l:List Int}{x y:Int}{K:List (List Value)->Prop}(hl:l.length=i)(hi:i<n)(h:K (aZ (j_ n (l++[y])))):dH (aZ (j_ n (l++[x]))) i 0 [.int .i64 y] K:=by
 refine jq _ (XM hl hi) kQ ?_;have e:(aZ (j_ n (l++[x]))).set i (cB [.int .i64 x] 0 [.int .i64 y])=aZ (j_ n (l++[y])):=by
  have e2:cB [Value.int .i64 x] 0 [.int .i64 y]=[Value.int .i64 y]:=rfl;rw[e2];subst hl;unfold j_ aZ;rw[adx,adx,ag_,ag_];simp
 rw[e];exact h
theorem aaw{av:List Int}(ha:∀x∈av,fJ x):∀{l:List Sp} {s:Int},(∀t∈l,fJ t.1)->s-l.length*1099511627776<=l.foldl (FP av) s/\l.foldl (FP av) s<=s+l.length*1099511627776
 |[],s,_=>by simp
 |t::r,s,h=>by
  have h1:=jL (A:=1048576) (B:=1048576) (h t YV) (iY ha t.2.toNat);have g1:=aaw ha (l:=r) (s:=FP av s t) (λx hx=>h x (aeg _ hx));have e1:FP av s t=s+t.1*av.getD t.2.toNat 0:=rfl;simp only[ahb,ahN];omega
theorem af0(w:World)(n:ak)(wE:Value)(F:FuncId)(P0:Value)(cnt:Nat)(T:Nat->List Sp)(a b:ax)(hT:Vg w F P0 cnt T)(hn:ace w n cnt)(ha:a.ok w)(hab:∀x∈a.xs,fJ x)(hat:∀o,o<cnt->∀s∈T o,0<=s.2/\s.2<a.xs.length):Calls Tryz.prog 146 #[kz n wE (.func (.func F) #[P0] #[]) cnt,a.val,b.val] w (DJ w (jh n cnt cnt T a.xs)):=by
 have hk:=hn.ai;have ug:=hn.few;refine fH Tryz.func146 [.agg [aC n.ai,aC n.a,aC n.b,.c n.az.val,aC n.lo,aC n.hi,aC n.size,.c n.data.val,.c n.aQ.val,.c wE,.fn (.func F) [.c P0] [],aC (cnt:Int)],.c a.val,.c b.val] ?_;repeat' ((conv=>whnf)<;>first|(show pg ..;(refine lD cnt rfl rfl mE aa ?_))|refine a_ ?_)
 refine Wp.loop (σ:=Nat) 2 (λo=>[(1,.c a.val),(2,.c b.val),(3,.lp 0 0 0 0),(7,.os 1 cnt),(15,aC cnt),(16,aC o)]) (λo=>[(1,.rows (aZ (j_ cnt (jh n cnt o T a.xs))) 1 3),(0,.box [aC n.ai,aC n.a,aC n.b,.c n.az.val,aC n.lo,aC n.hi,aC n.size,.c n.data.val,.c n.aQ.val,.c wE,.fn (.func F) [.c P0] [],aC (cnt:Int)] 104)]) (λ_=>aU w)
  (λo=>o<=cnt) (λo=>cnt-o) 0 [] ay (λs=>⟨rfl,rfl⟩) (aae _) ⟨rfl,⟨rfl,rfl,rfl,rfl,rfl,rfl,trivial⟩,⟨?_,aj,trivial⟩,λ_ _ h=>h⟩ ?_
 ·have:aZ (j_ cnt (jh n cnt 0 T a.xs))=List.replicate cnt [Value.int .i64 0]:=by simp[aZ,j_,jh]
  show(1,b_.rows (aZ (j_ cnt (jh n cnt 0 T a.xs))) 1 3)∈_;rw[this];exact aj
 rintro o ho;have hlen:(jh n cnt o T a.xs).length=o:=by simp[jh]
 by_cases hlt:o<cnt
 ·have Bq:jh n cnt (o+1) T a.xs=jh n cnt o T a.xs++[(T o).foldl (FP a.xs) (dV n cnt o)]:=by unfold jh;rw[ait,afn];rfl
  have hbd:=Ir hn o;have htb:=hT.bd o hlt;have htf:=hT.few o hlt;have Vs:=hat o hlt;have hC:∀{R:Nat->Prop} {w':World},(aU w).holds R w'->Calls Tryz.prog F #[P0,.int .i64 o] w' (qK w' (T o)):=λh=>hT.calls _ _ h o hlt;repeat' ((conv=>whnf)<;>first|refine su ?_|refine sZ ?_|(show aJ _ 108 ..;refine aR (f:=108) Tryz.call108 (.int .i64 (dV n cnt o)) (λρ w' hw=>VN w' n (ae hw λR h=>hn.aQ.later h) hk wE (.func (.func F) #[P0] #[]) cnt o ug hlt hn.three (λh4=>⟨(hn.four h4).1,(hn.four h4).2.1,(hn.four h4).2.2 o hlt⟩)) ?_)|((show aJ _ F _ _ _ _ _);refine MS (T o) hT.enter (λρ w' hw=>ae hw λR h=>hC h) ?_)|refine a_ ?_|refine ag ?_ ?_<;>intro _)
  refine Wp.loop (σ:=Nat×Int) 3 (λ⟨j,cur⟩=>[(1,.c a.val),(2,.c b.val),(3,.lp 0 0 0 0),(7,.os 1 cnt),(8,aC o),(15,aC cnt),(16,aC o),(31,.os 2 (T o).length),(32,aC (T o).length),(33,aC j)]) (λ⟨j,cur⟩=>[(2,.rows (gz (T o)) 2 152),(1,.rows (aZ (j_ cnt (jh n cnt o T a.xs++[cur]))) 1 3),(0,.box [aC n.ai,aC n.a,aC n.b,.c n.az.val,aC n.lo,aC n.hi,aC n.size,.c n.data.val,.c n.aQ.val,.c wE,.fn (.func F) [.c P0] [],aC (cnt:Int)] 104)]) (λ_=>aU w)
   (λ⟨j,cur⟩=>j<=(T o).length/\cur=((T o).take j).foldl (FP a.xs) (dV n cnt o)) (λs=>(T o).length-s.1) (0,dV n cnt o) [] ay (λs=>⟨rfl,rfl⟩) ⟨aae _,rfl⟩ ⟨rfl,⟨rfl,rfl,rfl,rfl,rfl,rfl,rfl,rfl,rfl,rfl,trivial⟩,fE,λ_ _ h=>h⟩ ?_
  rintro⟨j,cur⟩ ⟨hj,Kj⟩;by_cases hjl:j<(T o).length
  ·have s1:=J8 (f:=FP a.xs) (s:=dV n cnt o) hjl;have hrow:=EC hjl;have hwb:=htb _ (aby hjl);have hwa:=Vs _ (aby hjl);have g:=aaw hab (l:=(T o).take j) (s:=dV n cnt o) (λx hx=>htb x (ams hx));rw[<-Kj,aek,ajY hj]at g;rw[<-Kj]at s1;generalize (T o)[j]=s at*;have q1:=jL (A:=1048576) (B:=1048576) hwb (iY hab s.2.toNat);unfold fJ at hbd;obtain⟨ua,rO⟩:=ha.base aa;have hur:∀(R:Nat->Prop) w',(aU w).holds R w'->bE w' (some ua) 1 (aZ a.xs):=λR w' h=>by rw[<-rO];exact aH h ha.rows
   repeat' ((conv=>whnf)<;>first|(show eP ..;(first|refine bY j rfl hjl EP ?_|refine bY o rfl hlt (by rw[aP,vF zk];exact Tw _) ?_))|refine wV ?_|(show rQ ..;refine row_of _ _ (XM hlen hlt) rfl ?_)|(show dn ..;refine aiY rO aa aa ?_)|(show gZ ..;refine dP hur (j:=s.2.toNat) aa ?_)|(show dH ..;refine acB hlen hlt ?_)|(show cO _ 10 ..;refine mV [14] _ aiT ?_)|refine a_ ?_|refine ag ?_ ?_<;>intro _)
   all_goals(conv=>whnf)
   all_goals exact⟨(j+1,_),[],⟨hjl,by rw[s1,FP]⟩,by simp only;omega,rfl,⟨rfl,rfl,rfl,rfl,rfl,rfl,rfl,rfl,rfl,rfl,trivial⟩,fE,λ_ _ h=>h⟩
  ·obtain rfl:j=(T o).length:=by omega
   rw[aen (Tw _)]at Kj;repeat' ((conv=>whnf)<;>first|refine a_ ?_|refine ag ?_ ?_<;>intro _)
   conv=>whnf
   exact⟨o+1,[],hlt,by omega,rfl,fE,⟨by
    show(1,b_.rows (aZ (j_ cnt (jh n cnt (o+1) T a.xs))) 1 3)∈_;rw[Bq,<-Kj];exact aj,aj,trivial⟩,λ_ _ h=>h⟩
 ·obtain rfl:o=cnt:=by omega
  have hgr:j_ o (jh n o o T a.xs)=jh n o o T a.xs:=by unfold j_;rw[hlen,aiH];simp
  repeat' ((conv=>whnf)<;>first|refine a_ ?_|refine ag ?_ ?_<;>intro _)
  conv=>whnf
  refine Tg hgr (λ_ _ h=>h) rfl aj (by rw[hlen]) (λx hx=> ?_) (by rw[hlen];omega);obtain⟨q,hq,rfl⟩:=abl.1 hx;rw[ahe]at hq;have g:=aaw hab (l:=T q) (s:=dV n o q) (hT.bd q hq);have gf:=hT.few q hq;have gb:=Ir hn q;unfold fJ at gb;unfold i64;omega
theorem jP{a b c:Int}(h:0<au [a,b,c]):au [a,b,c]=a*b*c:=by
 unfold au at h|-
 rw[if_neg aI]at h|-
 simp only[dX]at h|-
 split at h
 ·simp at h
 ·rename_i h1;split at h
  ·simp at h
  ·rename_i h2;split at h
   ·simp at h
   ·rename_i h3;rw[if_neg h1,if_neg h2,if_neg h3]
    grind
theorem XR{a b c e:Int}(h:0<h_ [a,b,c,e]):h_ [a,b,c,e]=a*b*c*e:=by
 unfold h_ at h|-
 rw[if_pos aI]at h|-
 simp only[nE]at h|-
 split at h
 ·simp at h
 ·rename_i h1;split at h
  ·simp at h
  ·rename_i h2;split at h
   ·simp at h
   ·rename_i h3;split at h
    ·simp at h
    ·rename_i h4;rw[if_neg h1,if_neg h2,if_neg h3,if_neg h4]
     grind
theorem U1{o k h w:Int}(ho:o<k*h*w)(hw:0<w)(hh:0<h):o/w/h<k:=
 an8 hh (an8 hw ho)
theorem aie{d:List Int}{k1 k2 k3 i1 i2 o:Int}{i:Nat}(h1:1<=k1)(h2:1<=k2/\k2<=i1)(h3:1<=k3/\k3<=i2)(ho:0<=o)(hi:(i:Int)<k1*k2*k3):0<=(gY d k1 k2 k3 i1 i2 o i).2/\(gY d k1 k2 k3 i1 i2 o i).2<k1*i1*i2:=by
 have hW:0<i2-k3+1:=by omega
 have hH:0<i1-k2+1:=by omega
 obtain⟨d1,d2,d3,d4⟩:=jI ho hW;obtain⟨d5,d6,d7,d8⟩:=jI d1 hH;obtain⟨c1,c2,c3,c4⟩:=jI (x:=(i:Int)) (y:=k3) aa aa;obtain⟨c5,c6,c7,c8⟩:=jI (x:=(i:Int)/k3) (y:=k2) c1 aa;have hc:=U1 (o:=(i:Int)) (k:=k1) (h:=k2) (w:=k3) hi aa aa;show 0<=((i:Int)/k3/k2*i1+o/(i2-k3+1)%(i1-k2+1)+(i:Int)/k3%k2)*i2+o%(i2-k3+1)+(i:Int)%k3/\((i:Int)/k3/k2*i1+o/(i2-k3+1)%(i1-k2+1)+(i:Int)/k3%k2)*i2+o%(i2-k3+1)+(i:Int)%k3<k1*i1*i2;generalize (i:Int)/k3/k2=C at*;generalize o/(i2-k3+1)%(i1-k2+1)=Y at*;generalize (i:Int)/k3%k2=DY at*;generalize o%(i2-k3+1)=X at*;generalize (i:Int)%k3=DX at*;have e1:C*i1<=(k1-1)*i1:=ahi aa aa;rw[Int.sub_mul,age]at e1;have e0:0<=C*i1:=agJ c5 aa;have e2:(C*i1+Y+DY)*i2<=(k1*i1-1)*i2:=ahi aa aa;rw[Int.sub_mul,age]at e2;have e3:0<=(C*i1+Y+DY)*i2:=agJ aa aa;omega
theorem aim{z i0 i1 i2 o:Int}{i:Nat}(hz:1<=z)(h1:z<=i1)(h2:z<=i2)(m1:i1%z=0)(m2:i2%z=0)(ho:0<=o/\o<i0*(i1/z)*(i2/z))(hi:(i:Int)<z*z):0<=(iN z i1 i2 o i).2/\(iN z i1 i2 o i).2<i0*i1*i2:=by
 have hW:=uq (x:=i2) (y:=z) aa h2;have hH:=uq (x:=i1) (y:=z) aa h1;have q1:=amB i1 z;have q2:=amB i2 z;obtain⟨d1,d2,d3,d4⟩:=jI (x:=o) (y:=i2/z) ho.1 aa;obtain⟨d5,d6,d7,d8⟩:=jI (x:=o/(i2/z)) (y:=i1/z) d1 aa;obtain⟨c1,c2,c3,c4⟩:=jI (x:=(i:Int)) (y:=z) aa aa;have hdy:(i:Int)/z<z:=an8 aa hi;have hc:=U1 (o:=o) (k:=i0) (h:=i1/z) (w:=i2/z) ho.2 aa aa;show 0<=(o/(i2/z)/(i1/z)*i1+o/(i2/z)%(i1/z)*z+(i:Int)/z)*i2+o%(i2/z)*z+(i:Int)%z/\(o/(i2/z)/(i1/z)*i1+o/(i2/z)%(i1/z)*z+(i:Int)/z)*i2+o%(i2/z)*z+(i:Int)%z<i0*i1*i2;generalize o/(i2/z)/(i1/z)=C at*;generalize o/(i2/z)%(i1/z)=Y at*;generalize o%(i2/z)=X at*;generalize (i:Int)/z=DY at*;generalize (i:Int)%z=DX at*;have y1:Y*z<=(i1/z-1)*z:=ahi aa aa;have x1:X*z<=(i2/z-1)*z:=ahi aa aa;have y2:(i1/z-1)*z=z*(i1/z)-z:=by rw[Int.sub_mul,age,ajF]
 have x2:(i2/z-1)*z=z*(i2/z)-z:=by rw[Int.sub_mul,age,ajF]
 have y0:0<=Y*z:=agJ d7 aa;have x0:0<=X*z:=agJ d3 aa;have y1':Y*z<=i1-z:=by omega
 have x1':X*z<=i2-z:=by omega
 have e1:C*i1<=(i0-1)*i1:=ahi aa aa;rw[Int.sub_mul,age]at e1;have e0:0<=C*i1:=agJ d5 aa;have e2:(C*i1+Y*z+DY)*i2<=(i0*i1-1)*i2:=ahi aa aa;rw[Int.sub_mul,age]at e2;have e3:0<=(C*i1+Y*z+DY)*i2:=agJ aa aa;omega
end Go.Proofs.YtgndjjdeopfdkaaGreat

import Derived.Test.YtgndjjdeopfdkaaGreatRows
import Derived.Test.YtgndjjdeopfdkaaGreatKLowerMakes4
/- texts GO IV of the proof of LowerMakesSaid -/
set_option maxHeartbeats 16000000
set_option maxRecDepth 20000
set_option linter.unusedVariables false
set_option linter.unusedSimpArgs false
namespace Go.Proofs.YtgndjjdeopfdkaaGreat
open Go.SX Go.RowKit
section
abbrev alr:DT:=(eY [0,1,2,3,4,5,6,7,8,9,10,11,12,13,14,15,16,17,18,19,20,21,122,23] .done)
abbrev amS:DT:=(eY [0,1,2,3,4,5,6,7,8,9,10,11,12,13,14,115,16] .done)
def o9(w:World)(n:ai)(l:List au)(r:Option (List Int))(e:Ending)(w':World):Prop:=
 ∃v:Value,e= .returned v/\Ext w w'/\(r=none->v= .slice none 0 0)/\
  ∀xs,r=some xs->∃u:au,v=u.val/\u.xs=xs/\(u=n.ay\/u∈l\/(u.bq/\(bE u).holds (λb=>w.heap.size<=b/\b<w'.heap.size) w'))
section
variable {B:Base} {H:Heap} {S:bN} {nx:Nat} {w:World} {n:ai} {l:List au} {r:Option (List Int)}
theorem AQ(u:au)(hb:∀R w',S.holds R w'->(aO B.w0).holds R w')(hw0:B.w0=w)(hu:u=n.ay\/u∈l)(hr:r=some u.xs):jI B (.c u.val) H S nx (o9 w n l r):=by
 subst hw0 hr
 exact dH λρ w' hw=>⟨_,rfl,aZ hw hb,(λh=>by cases h),λxs h=>⟨u,rfl,by simpa using h,hu.elim .inl λh=> .inr (.inl h)⟩⟩
theorem TP(hb:∀R w',S.holds R w'->(aO B.w0).holds R w')(hw0:B.w0=w)(hr:r=none):jI B (.c (.slice none 0 0)) H S nx (o9 w n l r):=by
 subst hw0 hr
 exact dH λρ w' hw=>⟨_,rfl,aZ hw hb,λ_=>rfl,λxs h=>by cases h⟩
theorem Fa{i m:Nat}{xs:List Int}(hb:∀R w',S.holds R w'->(aO B.w0).holds R w')(hw0:B.w0=w)(he:(i,bZ.rows (aN xs) 1 3)∈H)(hm:m=xs.length)(hf:∀x∈xs,-9223372036854775808<=x/\x<=9223372036854775807)(hl:xs.length<=1000000)(hr:r=some xs):
 jI B (.os i m) H S nx (o9 w n l r):=by
 subst hw0 hr hm
 refine dH λρ w' hw=> ?_
 have hn:=dK hw hb he
 rw[aJ]at hn
 obtain⟨u,h1,h2,h3,h4⟩:=uD hn hf hl
 exact⟨_,rfl,aZ hw hb,(λh=>by cases h),λys h=>⟨u,h1,by rw[h2];simpa using h,.inr (.inr ⟨h3,h4⟩)⟩⟩
end
theorem tC(w:World)(s:au)(h:s.ok w):Calls Tryz.prog 42 #[s.val] w λe w'=>e= .returned (.int .i64 (az s.xs))/\Ext w w':=jq w s.base s.cap s.xs h.rows
theorem afY{n:ai}(h:n.ak=1\/n.ak=2):∃r,qg n.ak=some (false::r)/\(false::r).length=7:=by
 rcases h with h|h<;>rw[h]<;>unfold qg<;>exact⟨_,rfl,rfl⟩
theorem Xn{n:ai}{at_:Nat}(hf:Aa n at_)(h:¬(n.ak=1\/n.ak=2)):∃r,qg n.ak=some (true::r)/\(true::r).length=7:=by
 have h2:=hf.ak
 have:n.ak=3\/n.ak=4\/n.ak=5\/n.ak=6\/n.ak=7\/n.ak=8\/n.ak=9:=by omega
 rcases this with h|h|h|h|h|h|h<;>rw[h]<;>unfold qg<;>exact⟨_,rfl,rfl⟩
theorem Rz(w:World)(n:ai)(hn:n.ok w)(sv:a_)(h12:n.ak=1\/n.ak=2):
 Calls Tryz.prog 80 #[.agg n.cells.toArray,sv.val] w (o9 w n sv.l (bR n (sv.l.map (·.xs)))):=by
 have hsp:bR n (sv.l.map (·.xs))=some n.ay.xs:=by unfold bR;rw[if_pos h12]
 obtain⟨r,hm,hr⟩:=afY h12
 refine fH Tryz.func80 [.agg (jN n),.c sv.val] ?_
 repeat' ((conv=>whnf)<;>first|(show aI _ 133 ..;refine ko (f:=133) (false::r) 7 hr Tryz.call133 (λρ w' hw=>rU w' n.ak _ hm) (λm am hml jU hmn=> ?_))|(show bV ..;refine aH am 0 jU rfl aa ?_)|(show fT ..;(refine bH (j:=0) (λR w' h=>aG hml jU h.2) (by rw[hr];decide) ?_))|refine bn ?_|refine ag ?_ ?_<;>intro _)
 all_goals(conv=>whnf)
 all_goals exact AQ (B:=⟨w,[]⟩) (S:=(aO w).and ((fU m).past w.heap.size)) n.ay (λ_ _ h=>h.1) rfl (.inl rfl) hsp
theorem Jq(w:World)(n:ai)(hn:n.ok w)(sv:a_)(hs:sv.ok w)(hf:Aa n sv.l.length)(hg:∀s∈sv.l,0<az s.xs)(h12:¬(n.ak=1\/n.ak=2)):
 Calls Tryz.prog 80 #[.agg n.cells.toArray,sv.val] w (o9 w n sv.l (bR n (sv.l.map (·.xs)))):=by
 obtain⟨r,hm,hr⟩:=Xn hf h12
 obtain⟨ha0,ha1⟩:=hf.a aa aa
 obtain⟨i,hia⟩:=Int.eq_ofNat_of_zero_le ha0
 have hil:i<sv.l.length:=by omega
 obtain⟨s,hi⟩:∃s,sv.l[i]? =some s:=⟨_,List.getElem?_eq_getElem hil⟩
 have hA:(sv.l.map (·.xs)).getD n.a.toNat []=s.xs:=by rw[hia];simp[List.getD,hi]
 have hg:=hg s (List.mem_of_getElem? hi)
 have hso:=hs.each s (List.mem_of_getElem? hi)
 have hri:(aS sv.l)[i]? =some [s.val]:=by rw[dF hil,(List.getElem?_eq_some_iff.1 hi).2]
 obtain⟨b,hb⟩:∃a,sv.base=some a:=aP (j:=i) hs.rows afC
 obtain⟨hl1,hl3,hd⟩:=gM hg
 obtain⟨a,hsb⟩:=hso.base aa
 have hd0:0<s.xs.length->1<=s.xs.getD 0 0/\s.xs.getD 0 0<=64:=λh=>hd _ (dz h)
 have hd1:1<s.xs.length->1<=s.xs.getD 1 0/\s.xs.getD 1 0<=64:=λh=>hd _ (dz h)
 have hd2:2<s.xs.length->1<=s.xs.getD 2 0/\s.xs.getD 2 0<=64:=λh=>hd _ (dz h)
 have hz:=hf.pool
 have hq1:n.ak=5->1<s.xs.length->0<=s.xs.getD 1 0/n.size/\s.xs.getD 1 0/n.size<=64:=λg h=>by have:=hz g;exact⟨Int.ediv_nonneg aa aa,Int.le_trans (Int.ediv_le_self _ aa) aa⟩
 have hq2:n.ak=5->2<s.xs.length->0<=s.xs.getD 2 0/n.size/\s.xs.getD 2 0/n.size<=64:=λg h=>by have:=hz g;exact⟨Int.ediv_nonneg aa aa,Int.le_trans (Int.ediv_le_self _ aa) aa⟩
 have hbi:=hf.aM
 have hmu:n.ak=3->0<=(n.aM.xs.length:Int)*az s.xs/\(n.aM.xs.length:Int)*az s.xs<=4096:=λg=>by
  have h1:=dQ s.xs
  have h2:(n.aM.xs.length:Int)*az s.xs<=64*64:=Int.mul_le_mul (by have:=hbi g;omega) h1.2 h1.1 aa
  have h3:0<=(n.aM.xs.length:Int)*az s.xs:=Int.mul_nonneg aa h1.1
  omega
 have hkd:n.ak=4->n.ay.xs.length=4/\(1<=n.ay.xs.getD 0 0/\n.ay.xs.getD 0 0<=64)/\(1<=n.ay.xs.getD 1 0/\n.ay.xs.getD 1 0<=64)/\(1<=n.ay.xs.getD 2 0/\n.ay.xs.getD 2 0<=64)/\(1<=n.ay.xs.getD 3 0/\n.ay.xs.getD 3 0<=64):=λg=>by
  obtain⟨hk4,hkd⟩:=pG (hf.X3 g)
  exact⟨hk4,hkd _ (dz aa),hkd _ (dz aa),hkd _ (dz aa),hkd _ (dz aa)⟩
 obtain⟨c,hc⟩:=lN hn.ay
 have hE:=dQ [n.ay.xs.getD 0 0,s.xs.getD 1 0-n.ay.xs.getD 2 0+1,s.xs.getD 2 0-n.ay.xs.getD 3 0+1]
 by_cases h6:n.ak=6
 ·obtain⟨hb0,hb1⟩:=hf.b h6
  obtain⟨j,hjb⟩:=Int.eq_ofNat_of_zero_le hb0
  have hjl:j<sv.l.length:=by omega
  obtain⟨t,hj⟩:∃t,sv.l[j]? =some t:=⟨_,List.getElem?_eq_getElem hjl⟩
  have hB:(sv.l.map (·.xs)).getD n.b.toNat []=t.xs:=by rw[hjb];simp[List.getD,hj]
  have hto:=hs.each t (List.mem_of_getElem? hj)
  have hrj:(aS sv.l)[j]? =some [t.val]:=by rw[dF hjl,(List.getElem?_eq_some_iff.1 hj).2]
  have hsp:bR n (sv.l.map (·.xs))=if s.xs=t.xs then some s.xs else none:=by
   unfold bR;simp only[hA,hB];repeat(first|rw[if_pos aa]|rw[if_neg aa])
  refine fH Tryz.func80 [.agg (jN n),.c sv.val] ?_
  repeat' ((conv=>whnf)<;>first|(show aI _ 133 ..;refine ko (f:=133) (true::r) 7 hr Tryz.call133 (λρ w' hw=>rU w' n.ak _ hm) (λm am hml jU hmn=> ?_))|(show bV ..;(first|refine aH am 0 jU rfl aa ?_|refine aH b i hb hia hil ?_|refine aH b j hb hjb hjl ?_))|(show fT ..;(first|refine bH (j:=0) (λR w' h=>aG hml jU h.2) (by rw[hr];decide) ?_|refine bA (λR w' h=>by rw[<-hb];exact aA h.1 hs.rows) _ _ hri rfl ?_|refine bA (λR w' h=>by rw[<-hb];exact aA h.1 hs.rows) _ _ hrj rfl ?_))|(show aI _ 20 ..;((refine fK (f:=20) Tryz.call20 _ (λρ w' hw=>qK w' s t (ae hw λR h=>hso.later h.1) (ae hw λR h=>hto.later h.1)) ?_ ?_<;>intro he)))|refine bn ?_|refine ag ?_ ?_<;>intro _)
  all_goals(conv=>whnf)
  ·exact AQ (B:=⟨w,[]⟩) (S:=(aO w).and ((fU m).past w.heap.size)) s (λ_ _ h=>h.1) rfl (.inr (List.mem_of_getElem? hi)) (hsp.trans (if_pos (of_decide_eq_true he)))
  ·exact TP (B:=⟨w,[]⟩) (S:=(aO w).and ((fU m).past w.heap.size)) (λ_ _ h=>h.1) rfl (hsp.trans (if_neg (of_decide_eq_false he)))
 ·refine fH Tryz.func80 [.agg (jN n),.c sv.val] ?_
  repeat' ((conv=>whnf)<;>first|(show aI _ 133 ..;refine ko (f:=133) (true::r) 7 hr Tryz.call133 (λρ w' hw=>rU w' n.ak _ hm) (λm am hml jU hmn=> ?_))|(show bV ..;(first|refine aH am 0 jU rfl aa ?_|refine aH b i hb hia hil ?_))|(show fT ..;(first|refine bH (j:=0) (λR w' h=>aG hml jU h.2) (by rw[hr];decide) ?_|refine bA (λR w' h=>by rw[<-hb];exact aA h.1 hs.rows) _ _ hri rfl ?_))|(show bV ..;refine aH _ 0 hsb rfl aa ?_)|(show fT ..;refine bY (λR w' h=>hso.at_ hsb R w' h.1) (j:=0) aa ?_)|(show bV ..;refine aH _ 1 hsb rfl aa ?_)|(show fT ..;refine bY (λR w' h=>hso.at_ hsb R w' h.1) (j:=1) aa ?_)|(show bV ..;refine aH _ 2 hsb rfl aa ?_)|(show fT ..;refine bY (λR w' h=>hso.at_ hsb R w' h.1) (j:=2) aa ?_)|(show bV ..;refine aH _ 0 (hc aa) rfl aa ?_)|(show fT ..;refine bY (λR w' h=>hn.ay.at_ (hc aa) R w' h.1) (j:=0) aa ?_)|(show bV ..;refine aH _ 1 (hc aa) rfl aa ?_)|(show fT ..;refine bY (λR w' h=>hn.ay.at_ (hc aa) R w' h.1) (j:=1) aa ?_)|(show bV ..;refine aH _ 2 (hc aa) rfl aa ?_)|(show fT ..;refine bY (λR w' h=>hn.ay.at_ (hc aa) R w' h.1) (j:=2) aa ?_)|(show bV ..;refine aH _ 3 (hc aa) rfl aa ?_)|(show fT ..;refine bY (λR w' h=>hn.ay.at_ (hc aa) R w' h.1) (j:=3) aa ?_)|(show kE _ 42 ..;refine iU (f:=42) Tryz.call42 _ (λρ w' hw=>tC w' s (ae hw λR h=>hso.later h.1)) ?_)|(show aI _ 42 [.c s.val] ..;refine aQ (f:=42) Tryz.call42 _ (λρ w' hw=>tC w' s (ae hw λR h=>hso.later h.1)) ?_)|(show aI _ 42 [.c n.ay.val] ..;refine aQ (f:=42) Tryz.call42 _ (λρ w' hw=>tC w' n.ay (ae hw λR h=>hn.ay.later h.1)) ?_)|(show aI _ 42 [.os 1 3] ..;refine aQ (f:=42) Tryz.call42 _ (λρ w' hw=>jq w' (ρ 1).base (ρ 1).cap [n.ay.xs.getD 0 0,s.xs.getD 1 0-n.ay.xs.getD 2 0+1,s.xs.getD 2 0-n.ay.xs.getD 3 0+1] (eT hw List.mem_cons_self)) ?_)|refine F9 ?_|refine OW ?_|(show b_ _ 15 ..;refine lu [] _ alr ?_)|(show b_ _ 22 ..;refine lu [] _ amS ?_)|refine bn ?_|refine ag ?_ ?_<;>intro _)
  all_goals(conv=>whnf)
  all_goals first
   |exact TP (B:=⟨w,[]⟩) (S:=(aO w).and ((fU m).past w.heap.size)) (λ_ _ h=>h.1) rfl Ta
   |exact AQ (B:=⟨w,[]⟩) (S:=(aO w).and ((fU m).past w.heap.size)) s (λ_ _ h=>h.1) rfl (.inr (List.mem_of_getElem? hi)) Ta
   |exact AQ (B:=⟨w,[]⟩) (S:=(aO w).and ((fU m).past w.heap.size)) n.ay (λ_ _ h=>h.1) rfl (.inl rfl) Ta
   |exact Fa (B:=⟨w,[]⟩) (S:=(aO w).and ((fU m).past w.heap.size)) (xs:=[(n.aM.xs.length:Int)]) (λ_ _ h=>h.1) rfl List.mem_cons_self rfl ahE fP Ta
   |exact Fa (B:=⟨w,[]⟩) (S:=(aO w).and ((fU m).past w.heap.size)) (xs:=[s.xs.getD 0 0,s.xs.getD 1 0/n.size,s.xs.getD 2 0/n.size]) (λ_ _ h=>h.1) rfl List.mem_cons_self rfl (mem3 aa aa aa) fP Ta
   |exact Fa (B:=⟨w,[]⟩) (S:=(aO w).and ((fU m).past w.heap.size)) (xs:=[n.ay.xs.getD 0 0,s.xs.getD 1 0-n.ay.xs.getD 2 0+1,s.xs.getD 2 0-n.ay.xs.getD 3 0+1]) (λ_ _ h=>h.1) rfl List.mem_cons_self rfl (mem3 aa aa aa) fP Ta
theorem Qm(w:World)(n:ai)(hn:n.ok w)(sv:a_)(hs:sv.ok w)(hf:Aa n sv.l.length)(hg:∀s∈sv.l,0<az s.xs):
 Calls Tryz.prog 80 #[.agg n.cells.toArray,sv.val] w (o9 w n sv.l (bR n (sv.l.map (·.xs)))):=by
 by_cases h12:n.ak=1\/n.ak=2
 ·exact Rz w n hn sv h12
 ·exact Jq w n hn sv hs hf hg h12
end
section
variable {H:Heap} {S:bN} {nx:Nat}
theorem TL{cx:Cx}{f:FuncId}{args:List SV}{K:SV->Heap->bN->Nat->Prop}{n:ai}{l:List au}(R0:Option (List Int))(hf:∀ar w,(callFunc f ar).run cx.P w= .ok (.enter f ar) w)
 (hn:∀R w',S.holds R w'->n.ay.ok w') (hl:∀u∈l,∀R w',S.holds R w'->u.ok w') (hpos:∀xs,R0=some xs->0<xs.length)
 (hc:∀ρ w',eD cx.B ρ nx H S w'->Calls cx.P f (SV.eO ρ args).toArray w' (o9 w' n l R0))
 (h0:R0=none->K (.c (.slice none 0 0)) H S nx)
 (h1:∀(a:Addr) (cap:Nat) (xs:List Int) (S':bN),R0=some xs->(∀R w',S'.holds R w'->S.holds R w'/\(⟨some a,cap,xs⟩:au).ok w')->(⟨some a,cap,xs⟩:au).bq->K (.c (.slice (some a) xs.length cap)) H S' nx):aI cx f args H S nx K:=by
 rw[gN]
 refine⟨hf,λρ w hw=>(hc ρ w hw).mono ?_⟩
 rintro e w' ⟨v,rfl,he,hnone,hv⟩
 have hw':=hw.ext he
 cases hr:R0 with
 |none=>
  rw[hnone hr]
  exact⟨.c (.slice none 0 0),ρ,H,S,nx,rfl,λ_ _=>rfl,Nat.le_refl _,SV.jk _,hw',h0 hr⟩
 |some xs=>
  obtain⟨u,rfl,hu,hcase⟩:=hv xs hr
  obtain⟨ub,uc,us⟩:=u
  simp only at hu
  subst hu
  have old:∀(hok:∀R w',S.holds R w'->(⟨ub,uc,us⟩:au).ok w'),∃v' ρ' H' S' nx',Ending.returned (au.val ⟨ub,uc,us⟩)= .returned (v'.rf ρ')/\(∀i,i<nx->ρ' i=ρ i)/\nx<=nx'/\v'.lt nx'/\eD cx.B ρ' nx' H' S' w'/\K v' H' S' nx':=λhok=>by
   have h:=ae hw' λR h=>hok R w' h
   obtain⟨a,ha⟩:=h.base (hpos us hr)
   simp only at ha
   subst ha
   exact⟨.c (.slice (some a) us.length uc),ρ,H,S,nx,rfl,λ_ _=>rfl,Nat.le_refl _,SV.jk _,hw',h1 a uc us S hr (λR w'' g=>⟨g,hok R w'' g⟩) h.bq⟩
  rcases hcase with hcase|hcase|⟨vC,hnew⟩
  ·exact old (λR w' h=>hcase▸hn R w' h)
  ·exact old (hl _ hcase)
  ·have hg:=hw.grow (D:=bE ⟨ub,uc,us⟩) he hnew
   have h:(⟨ub,uc,us⟩:au).ok w':=bT vC hnew
   obtain⟨a,ha⟩:=h.base (hpos us hr)
   simp only at ha
   subst ha
   exact⟨.c (.slice (some a) us.length uc),ρ,H,_,nx,rfl,λ_ _=>rfl,Nat.le_refl _,SV.jk _,hg,h1 a uc us _ hr (λR w'' g=>⟨g.1,bT vC ((bE _).mono g.2 (λb hb=>hb.1))⟩) vC⟩
variable {i:Nat} {T:TypeId}
theorem adW{B:Base}{ρ:Nat->SX.Loc}{w:World}{m:Nat}{R:List (List Value)}{xs:List Int}(hw:eD B ρ nx H S w)(he:(i,bZ.rows R 1 T)∈H)(hR:R=aN xs)(hm:m=xs.length)(hf:∀x∈xs,i64 x)(hl:xs.length<=1000000):
 Calls Tryz.prog 81 (SV.eO ρ [.os i m]).toArray w λe w'=>e= .returned (.bool (qz xs))/\Ext w w':=by
 obtain⟨v,e1,rfl,hv⟩:=Ma hw he hR hm hf hl
 rw[e1];exact Ap w v hv
theorem Xu(us:List au)(l:SX.Loc)(xs:List Int):(i,bZ.rows (aS (us++[au.mk l.base l.cap xs])) 1 T)∈(i,bZ.rows (List.take us.length (aS us)++[[.slice l.base (0+(aN xs).length) l.cap]]) 1 T)::H:=by
 have e:Value.slice l.base (0+(aN xs).length) l.cap=au.val ⟨l.base,l.cap,xs⟩:=by rw[aJ,Nat.zero_add];rfl
 rw[e]
 exact wX us _
theorem qR(w:World)(g:bG)(hg:g.ok w):Calls Tryz.prog 34 #[g.val] w (rM w (check g)):=by
 by_cases hc:g.l.length<1\/24<g.l.length\/g.out<0\/(g.l.length:Int)<=g.out
 ·have hs:check g=(3,[]):=by unfold check;rw[if_pos hc]
  rw[hs]
  refine fH Tryz.func34 [.agg [.c (.slice g.base g.l.length g.cap),ax g.out]] ?_
  repeat' ((conv=>whnf)<;>first|refine aX ?_|refine ag ?_ ?_<;>intro _)
  all_goals exact mH (λ_ _ h=>h) rfl rfl aY
 ·have hs:check g=eX g.l []:=by unfold check;rw[if_neg hc]
  rw[hs]
  obtain⟨a,ha⟩:∃a,g.base=some a:=aP (j:=0) hg.rows Ca
  refine fH Tryz.func34 [.agg [.c (.slice g.base g.l.length g.cap),ax g.out]] ?_
  repeat' ((conv=>whnf)<;>first|refine aX ?_|refine ag ?_ ?_<;>intro _)
  refine Wp.loop (σ:=Nat×List au) 2 (λ⟨k,us⟩=>[(32,.c (.slice g.base g.l.length g.cap)),(33,ax g.l.length),(34,ax k),(4,.os 1 k)]) (λ⟨_,us⟩=>[(1,.rows (aS us) 1 32)]) (λ⟨_,us⟩=>(aO w).and (lZ w.heap.size us))
   (λ⟨k,us⟩=>k<=g.l.length/\us.length=k/\(∀u∈us,u.bq/\0<az u.xs)/\eX g.l []=eX (g.l.drop k) (us.map (·.xs))) (λs=>g.l.length-s.1) (0,[]) [(1,none)] aY (λs=>⟨rfl,rfl⟩) ⟨by simp,rfl,by simp,rfl⟩ ⟨rfl,⟨rfl,rfl,rfl,rfl,trivial⟩,⟨rfl,trivial⟩,λR w' h=>⟨h,xR _ _ _⟩⟩ ?_
  rintro⟨k,us⟩ ⟨hk,yJ,fI,he⟩
  by_cases hlt:k<g.l.length
  ·rw[drop_at hlt]at he
   have hn:=hg.each _ (List.getElem_mem hlt)
   have hsm:=hg.small _ (List.getElem_mem hlt)
   generalize hnk:g.l[k]=n at*
   have hrow:(bF g.l)[k]? =some n.cells:=by rw[bU hlt,hnk]
   subst yJ
   have hgs:∀s∈us.map (·.xs),0<az s:=λs hs=>by obtain⟨u,hu,rfl⟩:=List.mem_map.1 hs;exact(fI u hu).2
   have hlm:(us.map (·.xs)).length=us.length:=List.length_map _
   have fL:∀x∈[n.lo,n.hi],i64 x:=by intro x hx;simp at hx;rcases hx with rfl|rfl;exact hn.kH;exact hn.kJ
   repeat' ((conv=>whnf)<;>first|(show bV ..;refine aH a us.length ha rfl hlt ?_)|refine U_ ?_|(show aI _ 79 ..;((refine fK (f:=79) Tryz.call79 _ (λρ w' hw=>Vp w' n (ae hw λR h=>hn.later h.1) us.length) ?_ ?_<;>intro hform)))|(show aI _ 80 ..;(refine TL (f:=80) (n:=n) (l:=us) (bR n (us.map λx:au=>x.xs)) Tryz.call80 (λR w' h=>hn.ay.later h.1) (λu hu R w' h=>bT (fI u hu).1 ((bE u).mono (h.2 u hu) (λb hb=>hb.1))) (λxs hr=>(gM (jF (n:=n) (sh:=us.map λx:au=>x.xs) afS hgs hr rfl)).1) (λρ w' hw=>Qm w' n (ae hw λR h=>hn.later h.1) ⟨(ρ 1).base,(ρ 1).cap,us⟩ (Mj hw (List.mem_cons_of_mem _ List.mem_cons_self) (λR w' h=>h.2) fI aa) (dM hform) (λs hs=>(fI s hs).2)) (λhr=> ?_) (λua uc xs S' hr hS' vC=> ?_)))|(show aI _ 81 [.c n.data.val] ..;((refine fK (f:=81) Tryz.call81 _ (λρ w' hw=>Ap w' n.data (ae hw λR h=>hn.data.later (hS' _ _ h).1.1)) ?_ ?_<;>intro hnd)))|(show aI _ 81 [.c n.aM.val] ..;((refine fK (f:=81) Tryz.call81 _ (λρ w' hw=>Ap w' n.aM (ae hw λR h=>hn.aM.later (hS' _ _ h).1.1)) ?_ ?_<;>intro hnb)))|(show aI _ 81 ..;((refine fK (f:=81) Tryz.call81 _ (λρ w' hw=>adW hw List.mem_cons_self (xs:=[n.lo,n.hi]) rfl rfl fL fP) ?_ ?_<;>intro hnl)))|(show lY ..;(first|refine BI (ti 32 rfl) rfl ?_|refine Du (ti 32 rfl) rfl rfl ?_))|(show uA ..;refine mQ (aJ xs) (λR w' h=>(hS' R w' h).2.rows) kL ?_)|(show jT _ ((_,bZ.rows (_++aN _) _ _)::_) _ _ _;refine lm w.heap.size (λR w' h b hb=>((hS' R w' h).1.1 b hb).1) (λl hl=> ?_))|(show vO ..;(refine gY (by first|exact Nat.zero_le _|(rw[aW];exact Nat.le_refl _)) ?_))|(show gP ..;(refine dP (by first|(show(us.length+1)*24<=140737488355328;omega)|(show(0+(aN xs).length)*8<=140737488355328;rw[aJ];have:=vC.few;simp only at this;omega)) ?_))|refine aX ?_|refine ag ?_ ?_<;>intro _)
   all_goals(conv=>whnf)
   ·exact mH (B:=⟨w,[]⟩) (λ_ _ h=>h.1) rfl (he.trans (qF CK hr)) aY
   ·exact mH (B:=⟨w,[]⟩) (λR w' h=>(hS' R w' h).1.1) rfl (he.trans (kK CK hr (by unfold g_;rw[hnd,hnb,hnl,decide_eq_false aa];rfl))) aY
   ·exact⟨(us.length+1,us++[au.mk l.base l.cap xs]),[(1,some 7)],⟨hlt,by simp,EY fI ⟨vC.fits,by simpa[aJ]using hl,vC.few⟩ (jF afm hgs hr rfl),he.trans ((iG CK hr (by unfold g_;rw[hnd,hnb,hnl,decide_eq_true aa];rfl)).trans (by rw[List.map_append];rfl))⟩,by simp only;omega,rfl,bM,⟨Xu us l xs,trivial⟩,λR w' h=>⟨(hS' R w' h.1).1.1,kX (hS' R w' h.1).1.2 h.2⟩⟩
   ·exact mH (B:=⟨w,[]⟩) (λR w' h=>(hS' R w' h).1.1) rfl (he.trans (kK CK hr (by unfold g_;rw[hnl];simp))) aY
   ·exact mH (B:=⟨w,[]⟩) (λR w' h=>(hS' R w' h).1.1) rfl (he.trans (kK CK hr (by unfold g_;rw[hnb];simp))) aY
   ·exact mH (B:=⟨w,[]⟩) (λR w' h=>(hS' R w' h).1.1) rfl (he.trans (kK CK hr (by unfold g_;rw[hnd];simp))) aY
   ·exact mH (B:=⟨w,[]⟩) (λ_ _ h=>h.1) rfl (he.trans (sH CK)) aY
  ·rw[List.drop_of_length_le aa]at he
   subst yJ
   repeat' ((conv=>whnf)<;>first|refine aX ?_|refine ag ?_ ?_<;>intro _)
   conv=>whnf
   exact O4 (B:=⟨w,[]⟩) (λ_ _ h=>h.1) (λ_ _ h=>h.2) (λu hu=>(fI u hu).1) rfl List.mem_cons_self rfl he
end
section
structure au.raw(w:World)(v:au):Prop where
 rows:bu w v.base 1 (aN v.xs)
 fits:∀x∈v.xs,-9223372036854775808<=x/\x<=9223372036854775807
 room:v.xs.length<=v.cap
structure ai.raw(w:World)(n:ai):Prop where
 ay:n.ay.raw w
 data:n.data.raw w
 aM:n.aM.raw w
 jK:i64 n.ak
 qO:i64 n.a
 oh:i64 n.b
 kH:i64 n.lo
 kJ:i64 n.hi
 jM:i64 n.size
structure bG.raw(w:World)(g:bG):Prop where
 rows:bu w g.base 9 (bF g.l)
 each:∀n∈g.l,n.raw w
 I9:i64 g.out
variable {w w':World} {R:Nat->Prop} {v:au}
theorem au.raw.later(h:v.raw w)(hb:(aO w).holds R w'):v.raw w':=⟨aA hb h.rows,h.fits,h.room⟩
theorem ai.raw.later{w w':World}{R:Nat->Prop}{n:ai}(h:n.raw w)(hb:(aO w).holds R w'):n.raw w':=
 ⟨h.ay.later hb,h.data.later hb,h.aM.later hb,h.jK,h.qO,h.oh,h.kH,h.kJ,h.jM⟩
theorem bG.raw.later{w w':World}{R:Nat->Prop}{g:bG}(h:g.raw w)(hb:(aO w).holds R w'):g.raw w':=⟨aA hb h.rows,λn hn=>(h.each n hn).later hb,h.I9⟩
def Ya(n:ai):Bool:=decide (n.data.xs.length<=5000/\n.aM.xs.length<=200/\n.ay.xs.length<=20)
def SI(g:bG):Bool:=decide (g.l.length<=40)&&g.l.all Ya
theorem au.raw.ok{w:World}{v:au}(h:v.raw w)(hf:v.xs.length<=1000000):v.ok w:=⟨h.rows,h.fits,h.room,hf⟩
variable {g:bG}
theorem aj4(h:g.raw w)(hf:SI g=true):g.ok w:=by
 unfold SI at hf
 simp only[Bool.and_eq_true,decide_eq_true_eq,List.all_eq_true]at hf
 have hn:∀n∈g.l,n.data.xs.length<=5000/\n.aM.xs.length<=200/\n.ay.xs.length<=20:=λn hn=>by simpa[Ya]using hf.2 n hn
 exact⟨h.rows,λn hm=>by
  have h1:=h.each n hm
  have h2:=hn n hm
  exact⟨h1.ay.ok aa,h1.data.ok aa,h1.aM.ok aa,h1.jK,h1.qO,h1.oh,h1.kH,h1.kJ,h1.jM⟩,λn hm=>by have:=hn n hm;exact⟨by omega,by omega⟩,by omega,h.I9⟩
theorem Yn(w:World)(g:bG)(hg:g.raw w):Calls Tryz.prog 8 #[g.val] w λe w'=>e= .returned (.bool (SI g))/\Ext w w':=by
 by_cases hc:g.l.length<=40
 ·have hs:SI g=g.l.all Ya:=by unfold SI;rw[decide_eq_true hc,Bool.true_and]
  rw[hs]
  refine fH Tryz.func8 [.agg [.c (.slice g.base g.l.length g.cap),ax g.out]] ?_
  repeat' ((conv=>whnf)<;>first|refine aX ?_|refine ag ?_ ?_<;>intro _)
  refine Wp.loop (σ:=Nat) 1 (λk=>[(10,.c (.slice g.base g.l.length g.cap)),(11,ax g.l.length),(12,ax k)]) (λ_=>[]) (λ_=>aO w)
   (λk=>k<=g.l.length/\g.l.all Ya=(g.l.drop k).all Ya) (λk=>g.l.length-k) 0 [] aY (λs=>⟨rfl,rfl⟩) ⟨by simp,rfl⟩ ⟨rfl,⟨rfl,rfl,rfl,trivial⟩,trivial,λR w' h=>h⟩ ?_
  rintro k ⟨hk,he⟩
  by_cases hlt:k<g.l.length
  ·obtain⟨a,ha⟩:∃a,g.base=some a:=aP (j:=k) hg.rows Ca
   rw[drop_at hlt,List.all_cons]at he
   generalize hnk:g.l[k]=n at*
   have hrow:(bF g.l)[k]? =some n.cells:=by rw[bU hlt,hnk]
   repeat' ((conv=>whnf)<;>first|(show bV ..;refine aH a k ha rfl hlt ?_)|(show mF ..;(refine gL (λR w' h=>by rw[<-ha];exact aA h hg.rows) _ hrow rfl ?_))|refine aX ?_|refine ag ?_ ?_<;>intro _)
   all_goals first
    |exact bf (λ_ _ h=>h) rfl (by rw[he,show Ya n=false from decide_eq_false aa,Bool.false_and])
    |exact⟨k+1,[],⟨hlt,by rw[he,show Ya n=true from decide_eq_true aa,Bool.true_and]⟩,by omega,rfl,bM,trivial,λR w' h=>h⟩
  ·rw[List.drop_of_length_le aa]at he
   repeat' ((conv=>whnf)<;>first|refine aX ?_|refine ag ?_ ?_<;>intro _)
   exact bf (λ_ _ h=>h) rfl (by rw[he];rfl)
 ·have hs:SI g=false:=by unfold SI;rw[decide_eq_false hc,Bool.false_and]
  rw[hs]
  refine fH Tryz.func8 [.agg [.c (.slice g.base g.l.length g.cap),ax g.out]] ?_
  repeat' ((conv=>whnf)<;>first|refine aX ?_|refine ag ?_ ?_<;>intro _)
  exact bf (λ_ _ h=>h) rfl rfl
variable {cx:Cx} {f:FuncId} {args:List SV} {H:Heap} {S:bN} {nx:Nat} {K:SV->Heap->bN->Nat->Prop}
theorem vZ(r:Int×List (List Int))(hf:∀ar w,(callFunc f ar).run cx.P w= .ok (.enter f ar) w)
 (hc:∀ρ w',eD cx.B ρ nx H S w'->Calls cx.P f (SV.eO ρ args).toArray w' (rM w' r))
 (h0:r.1≠0->K (.c (.tuple #[.slice none 0 0,.int .i64 r.1])) H S nx)
 (h1:r.1=0->∀sv:a_,sv.l.map (·.xs)=r.2->(∀u∈sv.l,u.bq)->sv.l.length<=sv.cap->K (.c (.tuple #[sv.val,.int .i64 0])) H (S.and ((jE sv).past cx.B.w0.heap.size)) nx):aI cx f args H S nx K:=by
 rw[gN]
 refine⟨hf,λρ w hw=>(hc ρ w hw).mono ?_⟩
 rintro e w' ⟨v,rfl,he,hbad,hgood⟩
 by_cases hr:r.1=0
 ·obtain⟨sv,rfl,hm,hs,hd,hcap⟩:=hgood hr
  rw[hr]
  exact⟨.c (.tuple #[sv.val,.int .i64 0]),ρ,H,_,nx,rfl,λ_ _=>rfl,Nat.le_refl _,SV.jk _,hw.grow he hd,h1 hr sv hm hs hcap⟩
 ·rw[hbad hr]
  exact⟨.c (.tuple #[.slice none 0 0,.int .i64 r.1]),ρ,H,S,nx,rfl,λ_ _=>rfl,Nat.le_refl _,SV.jk _,hw.ext he,h0 hr⟩
theorem oV(r:Int×List (List Int))(hf:∀ar w,(callFunc f ar).run cx.P w= .ok (.enter f ar) w)
 (hc:∀ρ w',eD cx.B ρ nx H S w'->Calls cx.P f (SV.eO ρ args).toArray w' (rM w' r))
 (h0:r.1≠0->K (.c (.tuple #[.slice none 0 0,.int .i64 r.1])) H S nx)
 (h1:r.1=0->∀sv:a_,sv.l.map (·.xs)=r.2->(∀u∈sv.l,u.bq)->K (.c (.tuple #[sv.val,.int .i64 0])) H (S.and ((jE sv).past cx.B.w0.heap.size)) nx):aI cx f args H S nx K:=
 vZ r hf hc h0 (λe sv hm hs _=>h1 e sv hm hs)
end
structure QW where
 base:Option Addr
 cap:Nat
 bs:List Nat
def QW.val(v:QW):Value:= .slice v.base v.bs.length v.cap
def akl(l:List Nat):List (List Value):=l.map λ(x:Nat)=>[Value.int .u8 (x:Int)]
def ed:bN:=⟨λ_ _=>True,λ_ _ h=>h⟩
theorem Oj(xs:List Int)(x:Int){i:Nat}{T:TypeId}{H:Heap}:(i,bZ.rows (aN (xs++[x])) 1 T)∈(i,bZ.rows (List.take xs.length (aN xs)++[[.int .i64 x]]) 1 T)::H:=by
 rw[show aN (xs++[x])=List.take xs.length (aN xs)++[[.int .i64 x]] by rw[List.take_of_length_le N7];simp[aN]]
 exact List.mem_cons_self
def ai.j3(n:ai):Value:= .agg n.cells.toArray
def fQ:au:=⟨none,0,[]⟩
theorem X4(R:Nat->Prop)(w:World):(bE fQ).holds R w:=⟨λr hr=>by simp[fQ,aN]at hr,.inl rfl⟩
structure Made(n:ai):Prop where
 ay:n.ay.bq
 data:n.data.bq
 aM:n.aM.bq
 alJ:n.ay.xs.length<=4
 anb:n.data.xs.length<=1000
 am2:n.aM.xs.length<=200
 jK:i64 n.ak
 qO:i64 n.a
 oh:i64 n.b
 kH:i64 n.lo
 kJ:i64 n.hi
 jM:i64 n.size
theorem abW:fQ.bq:=⟨by simp[fQ],Nat.le_refl _,by simp[fQ]⟩
structure agv(s:List Int):Prop where
 pos:0<az s
 few:az s<=18
 three:s.length=3->s.getD 0 0<=2/\s.getD 1 0*s.getD 2 0<=9
theorem z0:i64 0:=⟨by decide,by decide⟩
theorem z1:i64 1:=⟨by decide,by decide⟩
structure aT where
 ak:Int
 a:Int
 b:Int
 ay:List Int
 lo:Int
 hi:Int
 size:Int
 data:List Int
 aM:List Int
def ai.pl(n:ai):aT:=⟨n.ak,n.a,n.b,n.ay.xs,n.lo,n.hi,n.size,n.data.xs,n.aM.xs⟩
def aT.jh(n:aT):ai:=⟨n.ak,n.a,n.b,⟨none,0,n.ay⟩,n.lo,n.hi,n.size,⟨none,0,n.data⟩,⟨none,0,n.aM⟩⟩
theorem EJ:∀{l m:List ai} (sh:List (List Int)),l.map ai.pl=m.map ai.pl->eX l sh=eX m sh
 |[],[],_,_=>rfl
 |[],_::_,_,h=>by simp at h
 |_::_,[],_,h=>by simp at h
 |x::l,y::m,sh,h=>by
  simp only[List.map_cons,List.cons.injEq]at h
  have h1:cZ x sh.length=cZ y sh.length:=by
   have:∀z:ai,cZ z sh.length=cZ z.pl.jh sh.length:=λz=>by unfold cZ kg;rfl
   rw[this x,this y,h.1]
  have h2:bR x sh=bR y sh:=by
   have:∀z:ai,bR z sh=bR z.pl.jh sh:=λz=>rfl
   rw[this x,this y,h.1]
  have h3:g_ x=g_ y:=by
   have:∀z:ai,g_ z=g_ z.pl.jh:=λz=>by unfold g_;rfl
   rw[this x,this y,h.1]
  simp only[eX]
  rw[h1,h2,h3]
  split
  ·rfl
  ·cases bR y sh with
   |none=>rfl
   |some s=>
    simp only
    split
    ·rfl
    ·exact EJ _ h.2
theorem Vo{g h:bG}(hl:g.l.map ai.pl=h.l.map ai.pl)(ho:g.out=h.out):check g=check h:=by
 unfold check
 have e:g.l.length=h.l.length:=by simpa using congrArg List.length hl
 rw[e,ho,EJ [] hl]
structure bG.fit(w:World)(g:bG):Prop where
 rows:bu w g.base 9 (bF g.l)
 each:∀n∈g.l,n.ok w
 few:g.l.length<=1000000
theorem bG.fit.later{w w':World}{R:Nat->Prop}{g:bG}(h:g.fit w)(hb:(aO w).holds R w'):g.fit w':=⟨aA hb h.rows,λn hn=>(h.each n hn).later hb,h.few⟩
theorem oG:i64 0:=⟨by decide,by decide⟩
theorem Sc:i64 1:=⟨by decide,by decide⟩
theorem ER(w:World):(⟨none,0,[]⟩:au).ok w:=⟨.inl rfl,by simp,Nat.le_refl _,by simp⟩
open Go.ChangeShapes Go.WideShapes Go.ChangeAt
theorem own:ownKnob Tryz.prog.godebug=none:=by kernel_rfl
theorem wf_i64'{x:Int}(h:(Lit.int .i64 x).wf=true): -9223372036854775808<=x/\x<=9223372036854775807:=by
 simp[Lit.wf,IntKind.min,IntKind.max,IntKind.signed,IntKind.bits]at h
 omega
theorem afz{w:World}{v:Value}{base:Option Addr}{cap:Nat}{xs:List Int}(h:ahY w v base cap xs):∃u:au,v=u.val/\u.raw w:=by
 obtain⟨rfl,h1,h2,h3,h4,h5⟩:=h
 exact⟨⟨base,cap,xs⟩,rfl,h1,λx hx=>wf_i64' (h2 x hx),h3⟩
theorem Sl(w:World):kF Tryz.prog w 32 λcs=>∃u:au,cs=[u.val]/\u.raw w:=by
 refine kF.mono (XO (e:=3) Tryz.underlying32 Tryz.underlying3 ji) ?_
 rintro cs ⟨v,base,cap,xs,rfl,h⟩
 obtain⟨u,rfl,hu⟩:=afz h
 exact⟨u,rfl,hu⟩
abbrev Yj:DT:=(eY [0,1,2,3,4] (.alt 5 (eY [6,107,108] .done) (eY [107,105,6,108] .done)))
def jW(n:ai)(ve wQ:Value)(c:Int):Value:= .agg #[.int .i64 n.ak,.int .i64 n.a,.int .i64 n.b,n.ay.val,.int .i64 n.lo,.int .i64 n.hi,.int .i64 n.size,n.data.val,n.aM.val,ve,wQ,.int .i64 c]
theorem ac2(w:World)(n:ai)(sv:a_)(hs:sv.ok w)(i:Nat)(s:au)(hi:sv.l[i]? =some s)(hk:n.ak≠3/\n.ak≠4/\n.ak≠5):Calls Tryz.prog 50 #[n.j3,sv.val,.int .i64 i] w λe w'=>e= .returned (jW n (.slice none 0 0) .nilFunc (az s.xs))/\Ext w w':=by
 obtain⟨hlt,hsi⟩:=List.getElem?_eq_some_iff.1 hi
 have oz:=hs.few
 obtain⟨a,ha⟩:∃a,sv.base=some a:=aP (j:=i) hs.rows Mw
 have hrow:=dF hlt
 rw[hsi]at hrow
 have hss:=hs.each s (hsi▸List.getElem_mem hlt)
 refine fH Tryz.func50 [.agg (jN n),.c sv.val,ax i] ?_
 repeat' ((conv=>whnf)<;>first|refine D9 ?_|(show fT ..;(refine bA (λR w' h=>by rw[<-ha];exact aA h hs.rows) _ _ hrow rfl ?_))|refine ace ?_|(show b_ _ 1 ..;refine lu [8] _ Yj ?_)|refine aX ?_|refine ag ?_ ?_<;>intro _|refine And.intro ?_ ?_)
 all_goals(conv=>whnf)
 all_goals exact cz (λ_ _ h=>h) (λ_=>rfl) rfl
theorem gH{x y A B:Int}(hx: -A<=x/\x<=A)(hy: -B<=y/\y<=B): -(A*B)<=x*y/\x*y<=A*B:=by
 have hA:(0:Int)<=A:=by omega
 have hB:(0:Int)<=B:=by omega
 have h1:x.natAbs<=A.natAbs:=by omega
 have h2:y.natAbs<=B.natAbs:=by omega
 have h3:=Nat.mul_le_mul h1 h2
 rw[<-Int.natAbs_mul,<-Int.natAbs_mul]at h3
 have h4:0<=A*B:=Int.mul_nonneg hA hB
 omega
theorem YT{x y:Int}{K:Int->Prop}(hy:y≠0)(hx: -4611686018427387904<=x/\x<=4611686018427387904)(h:K (x.tdiv y)):wK .i64 x y K:=by
 rw[Mf]
 refine⟨hy,?_⟩
 have h1:(x.tdiv y).natAbs<=x.natAbs:=by rw[Int.natAbs_tdiv];exact Nat.div_le_self _ _
 have h2:iL .i64 (x.tdiv y) K:=wrap_i64 aa aa h
 rw[pY]at h2
 exact h2
def cK(x:Int):Prop:= -1048576<=x/\x<=1048576
def fA(d:List Int)(v:Int):Int:=d.getD 2 0*v*v+d.getD 1 0*v+d.getD 0 0
theorem Rf{a b c v:Int}(ha:cK a)(hb:cK b)(hc:cK c)(hv:cK v):(-1099511627776<=a*v/\a*v<=1099511627776)/\(-1152921504606846976<=a*v*v/\a*v*v<=1152921504606846976)/\(-1099511627776<=b*v/\b*v<=1099511627776):=by
 have h1:=gH (A:=1048576) (B:=1048576) ha hv
 have h2: -1099511627776<=a*v/\a*v<=1099511627776:=h1
 exact⟨h2,gH (A:=1099511627776) (B:=1048576) h2 hv,gH (A:=1048576) (B:=1048576) hb hv⟩
theorem dO{l:List Int}(h:∀x∈l,cK x)(k:Nat):cK (l.getD k 0):=by
 rcases Nat.lt_or_ge k l.length with hk|hk
 ·exact h _ (dz hk)
 ·rw[List.getD_eq_getElem?_getD,List.getElem?_eq_none hk];exact⟨by decide,by decide⟩
theorem uI(w:World)(n:ai)(hd:n.data.ok w)(h3:n.data.xs.length=3)(hb:∀x∈n.data.xs,cK x)(ve wQ:Value)(c v:Int)(hv:cK v):Calls Tryz.prog 107 #[jW n ve wQ c,.int .i64 v] w λe w'=>e= .returned (.int .i64 (fA n.data.xs v))/\Ext w w':=by
 obtain⟨ua,jD⟩:=hd.base aa
 have hur:∀(R:Nat->Prop) w',(aO w).holds R w'->bu w' (some ua) 1 (aN n.data.xs):=λR w' h=>by rw[<-jD];exact aA h hd.rows
 have p0:=dO hb 0
 have p1:=dO hb 1
 have p2:=dO hb 2
 obtain⟨q1,q2,q3⟩:=Rf p2 p1 p0 hv
 unfold cK at p0 p1 p2
 unfold fA
 refine fH Tryz.func107 [.agg [ax n.ak,ax n.a,ax n.b,.c n.ay.val,ax n.lo,ax n.hi,ax n.size,.c n.data.val,.c n.aM.val,.c ve,.c wQ,ax c],ax v] ?_
 repeat' ((conv=>whnf)<;>first|(show bV ..;refine aH _ 0 jD rfl aa ?_)|(show fT ..;refine bY hur (j:=0) aa ?_)|(show bV ..;refine aH _ 1 jD rfl aa ?_)|(show fT ..;refine bY hur (j:=1) aa ?_)|(show bV ..;refine aH _ 2 jD rfl aa ?_)|(show fT ..;refine bY hur (j:=2) aa ?_)|refine bn ?_)
 conv=>whnf
 exact cz (λ_ _ h=>h) (λ_=>rfl) rfl
section
abbrev aiW:DT:=(eY [0,1,2,3,4,5,6,7,8,9,10,11,12,13,14,15,116,17] .done)
abbrev ahS:DT:=(eY [0,1,2,4,5,6,103,107,108,9] .done)
variable {i:Nat} {H:Heap}
theorem Xd(xs:List Int)(x:Int){n:Nat}{T:TypeId}(hn:n=xs.length):(i,bZ.rows (aN (xs++[x])) 1 T)∈(i,bZ.rows (List.take n (aN xs)++[[.int .i64 x]]) 1 T)::H:=by
 subst hn;exact Oj xs x
abbrev Sp:=Int×Int
def jy(s:Sp):Value:= .agg #[.int .i64 s.1,.int .i64 s.2]
def HV:Nat->Int->List Int
 |0,_=>[]
 |n+1,v=>v::HV n (v+1)
def iR(d:List Int):Int:=(0-d.getD 1 0).tdiv (2*d.getD 2 0)
def Wd(d:List Int)(a:Sp):Int:=max a.1 (iR d-1)
def hiI(d:List Int)(a:Sp):Int:=min a.2 (iR d+1)
def fo(n:ai)(a b:Sp):List Int:=
 if n.ak=1 then [n.lo,n.hi]
 else if n.ak=2 then n.data.xs
 else if n.ak=6 then [a.1+b.1,a.2+b.2]
 else if n.ak=7 then [n.data.xs.getD 0 0*a.1,n.data.xs.getD 0 0*a.2]
 else if n.ak=8 then(if n.data.xs.getD 2 0=0 then [fA n.data.xs a.1,fA n.data.xs a.2]else [fA n.data.xs a.1,fA n.data.xs a.2]++(HV (hiI n.data.xs a-Wd n.data.xs a+1).toNat (Wd n.data.xs a)).map (fA n.data.xs))
 else [a.1,a.2]
def abH(x:au×Bool):bN where
 holds R w:=x.2=false->(bE x.1).holds R w
 stable:=λhR hw h e=>(bE x.1).stable hR hw (h e)
def qQ(w:World)(n:ai)(l:List Int)(e:Ending)(w':World):Prop:=
 ∃x:au×Bool,(x.1.xs=l/\x.1.bq/\(x.2=true->x.1=n.data))/\e= .returned x.1.val/\Ext w w'/\(abH x).holds (λb=>w.heap.size<=b/\b<w'.heap.size) w'
variable {B:Base} {S:bN} {nx:Nat} {w:World} {l:List Int}
theorem OP{n:ai}(hb:∀R w',S.holds R w'->(aO B.w0).holds R w')(hw0:B.w0=w)(hs:n.data.bq)(hl:n.data.xs=l):jI B (.c n.data.val) H S nx (qQ w n l):=by
 subst hw0
 exact dH λρ w' hw=>⟨(n.data,true),⟨hl,hs,λ_=>rfl⟩,rfl,aZ hw hb,λh=>by cases h⟩
theorem nW{m:Nat}{n:ai}(hb:∀R w',S.holds R w'->(aO B.w0).holds R w')(hw0:B.w0=w)(he:(i,bZ.rows (aN l) 1 3)∈H)(hm:m=l.length)(hf:∀x∈l,i64 x)(hl:l.length<=1000000):jI B (.os i m) H S nx (qQ w n l):=by
 subst hw0 hm
 refine dH λρ w' hw=> ?_
 have hn:=dK hw hb he
 rw[aJ]at hn
 obtain⟨u,e1,e2,e3,e4⟩:=uD hn hf hl
 exact⟨(u,false),⟨e2,e3,λh=>by cases h⟩,by rw[e1],aZ hw hb,λ_=>e4⟩
structure aje(n:ai)(a b:Sp):Prop where
 ak:n.ak=1\/n.ak=2\/n.ak=6\/n.ak=7\/n.ak=8\/n.ak=9
 data:∀x∈n.data.xs,cK x
 scale:n.ak=7->n.data.xs.length=1
 power:n.ak=8->n.data.xs.length=3
 lo:cK n.lo
 hi:cK n.hi
 a1:cK a.1
 a2:cK a.2
 b1:cK b.1
 b2:cK b.2
theorem Bi{x y:Int}(hx: -4611686018427387904<=x/\x<=4611686018427387904)(hy: -4611686018427387904<=y/\y<=4611686018427387904):∀z∈[x,y],i64 z:=λz hz=>by
 simp only[List.mem_cons,List.not_mem_nil,or_false]at hz
 unfold i64
 rcases hz with rfl|rfl<;>omega
theorem Il{d:List Int}{v:Int}(hd:∀x∈d,cK x)(hv:cK v): -4611686018427387904<=fA d v/\fA d v<=4611686018427387904:=by
 obtain⟨q1,q2,q3⟩:=Rf (dO hd 2) (dO hd 1) (dO hd 0) hv
 have:=dO hd 0
 unfold cK at this
 unfold fA
 omega
theorem V3(w:World)(n:ai)(hd:n.data.ok w)(ve wQ:Value)(c:Int)(a b:Sp)(h:aje n a b):Calls Tryz.prog 51 #[jW n ve wQ c,jy a,jy b] w (qQ w n (fo n a b)):=by
 obtain⟨hk,hb,hsc,hpo,hlo,hhi,ha1,ha2,hb1,hb2⟩:=h
 unfold cK at ha1 ha2 hb1 hb2 hlo hhi
 rcases hk with hk|hk|hk|hk|hk|hk
 ·have hL:fo n a b=[n.lo,n.hi]:=if_pos hk
  rw[hL]
  refine fH Tryz.func51 [.agg [ax n.ak,ax n.a,ax n.b,.c n.ay.val,ax n.lo,ax n.hi,ax n.size,.c n.data.val,.c n.aM.val,.c ve,.c wQ,ax c],.agg [ax a.1,ax a.2],.agg [ax b.1,ax b.2]] ?_
  repeat' ((conv=>whnf)<;>first|refine bn ?_|refine ag ?_ ?_<;>intro _)
  conv=>whnf
  exact nW (λ_ _ h=>h) rfl aU rfl (Bi aa aa) fP
 ·have hL:fo n a b=n.data.xs:=by unfold fo;rw[if_neg aa,if_pos hk]
  rw[hL]
  refine fH Tryz.func51 [.agg [ax n.ak,ax n.a,ax n.b,.c n.ay.val,ax n.lo,ax n.hi,ax n.size,.c n.data.val,.c n.aM.val,.c ve,.c wQ,ax c],.agg [ax a.1,ax a.2],.agg [ax b.1,ax b.2]] ?_
  repeat' ((conv=>whnf)<;>first|refine bn ?_|refine ag ?_ ?_<;>intro _)
  conv=>whnf
  exact OP (λ_ _ h=>h) rfl hd.bq rfl
 ·have hL:fo n a b=[a.1+b.1,a.2+b.2]:=by unfold fo;rw[if_neg aa,if_neg aa,if_pos hk]
  rw[hL]
  refine fH Tryz.func51 [.agg [ax n.ak,ax n.a,ax n.b,.c n.ay.val,ax n.lo,ax n.hi,ax n.size,.c n.data.val,.c n.aM.val,.c ve,.c wQ,ax c],.agg [ax a.1,ax a.2],.agg [ax b.1,ax b.2]] ?_
  repeat' ((conv=>whnf)<;>first|refine bn ?_|refine ag ?_ ?_<;>intro _)
  conv=>whnf
  exact nW (λ_ _ h=>h) rfl aU rfl (Bi aa aa) fP
 ·have hL:fo n a b=[n.data.xs.getD 0 0*a.1,n.data.xs.getD 0 0*a.2]:=by unfold fo;rw[if_neg aa,if_neg aa,if_neg aa,if_pos hk]
  rw[hL]
  have hl1:=hsc hk
  obtain⟨ua,jD⟩:=hd.base aa
  have hur:∀(R:Nat->Prop) w',(aO w).holds R w'->bu w' (some ua) 1 (aN n.data.xs):=λR w' h=>by rw[<-jD];exact aA h hd.rows
  have q1:=gH (A:=1048576) (B:=1048576) (dO hb 0) ha1
  have q2:=gH (A:=1048576) (B:=1048576) (dO hb 0) ha2
  refine fH Tryz.func51 [.agg [ax n.ak,ax n.a,ax n.b,.c n.ay.val,ax n.lo,ax n.hi,ax n.size,.c n.data.val,.c n.aM.val,.c ve,.c wQ,ax c],.agg [ax a.1,ax a.2],.agg [ax b.1,ax b.2]] ?_
  repeat' ((conv=>whnf)<;>first|(show bV ..;refine aH _ 0 jD rfl aa ?_)|(show fT ..;refine bY hur (j:=0) aa ?_)|(show b_ _ 9 ..;refine lu [] _ aiW ?_)|refine bn ?_|refine ag ?_ ?_<;>intro _)
  conv=>whnf
  exact nW (λ_ _ h=>h) rfl aU rfl (Bi aa aa) fP
 ·have hl3:=hpo hk
  obtain⟨ua,jD⟩:=hd.base aa
  have hur:∀(R:Nat->Prop) w',(aO w).holds R w'->bu w' (some ua) 1 (aN n.data.xs):=λR w' h=>by rw[<-jD];exact aA h hd.rows
  have p1:=dO hb 1
  have p2:=dO hb 2
  unfold cK at p1 p2
  have i1:=Il hb (v:=a.1) NW
  have i2:=Il hb (v:=a.2) NW
  refine fH Tryz.func51 [.agg [ax n.ak,ax n.a,ax n.b,.c n.ay.val,ax n.lo,ax n.hi,ax n.size,.c n.data.val,.c n.aM.val,.c ve,.c wQ,ax c],.agg [ax a.1,ax a.2],.agg [ax b.1,ax b.2]] ?_
  by_cases hz:n.data.xs.getD 2 0=0
  ·have hL:fo n a b=[fA n.data.xs a.1,fA n.data.xs a.2]:=by unfold fo;rw[if_neg aa,if_neg aa,if_neg aa,if_neg aa,if_pos hk,if_pos hz]
   rw[hL]
   repeat' ((conv=>whnf)<;>first|(show bV ..;refine aH _ 2 jD rfl aa ?_)|(show fT ..;refine bY hur (j:=2) aa ?_)|((show aI _ 107 [_,ax a.1] _ _ _ _);refine aQ (f:=107) Tryz.call107 (.int .i64 (fA n.data.xs a.1)) (λρ w' hw=>uI w' n (ae hw λR h=>hd.later h) hl3 hb ve wQ c a.1 NW) ?_)|((show aI _ 107 [_,ax a.2] _ _ _ _);refine aQ (f:=107) Tryz.call107 (.int .i64 (fA n.data.xs a.2)) (λρ w' hw=>uI w' n (ae hw λR h=>hd.later h) hl3 hb ve wQ c a.2 NW) ?_)|(show b_ _ 11 ..;refine lu [] _ ahS ?_)|refine bn ?_|refine ag ?_ ?_<;>intro _)
   conv=>whnf
   exact nW (λ_ _ h=>h) rfl aU rfl (Bi aa aa) fP
  ·have hT: -1048576<=(0-n.data.xs.getD 1 0).tdiv (2*n.data.xs.getD 2 0)/\(0-n.data.xs.getD 1 0).tdiv (2*n.data.xs.getD 2 0)<=1048576:=by
    have h1:((0-n.data.xs.getD 1 0).tdiv (2*n.data.xs.getD 2 0)).natAbs<=(0-n.data.xs.getD 1 0).natAbs:=by rw[Int.natAbs_tdiv];exact Nat.div_le_self _ _
    omega
   repeat' ((conv=>whnf)<;>first|(show bV ..;refine aH _ 1 jD rfl aa ?_)|(show fT ..;refine bY hur (j:=1) aa ?_)|(show bV ..;refine aH _ 2 jD rfl aa ?_)|(show fT ..;refine bY hur (j:=2) aa ?_)|((show aI _ 107 [_,ax a.1] _ _ _ _);refine aQ (f:=107) Tryz.call107 (.int .i64 (fA n.data.xs a.1)) (λρ w' hw=>uI w' n (ae hw λR h=>hd.later h) hl3 hb ve wQ c a.1 NW) ?_)|((show aI _ 107 [_,ax a.2] _ _ _ _);refine aQ (f:=107) Tryz.call107 (.int .i64 (fA n.data.xs a.2)) (λρ w' hw=>uI w' n (ae hw λR h=>hd.later h) hl3 hb ve wQ c a.2 NW) ?_)|(show wK ..;refine YT aa aa ?_)|(show b_ _ 11 ..;refine lu [] _ ahS ?_)|refine bn ?_|refine ag ?_ ?_<;>intro _)
   all_goals
    have hL:fo n a b=[fA n.data.xs a.1,fA n.data.xs a.2]++(HV (hiI n.data.xs a-Wd n.data.xs a+1).toNat (Wd n.data.xs a)).map (fA n.data.xs):=by unfold fo;rw[if_neg aa,if_neg aa,if_neg aa,if_neg aa,if_pos hk,if_neg hz]
    rw[hL]
    have aqi:Wd n.data.xs a=max a.1 ((0-n.data.xs.getD 1 0).tdiv (2*n.data.xs.getD 2 0)-1):=rfl
    have apM:hiI n.data.xs a=min a.2 ((0-n.data.xs.getD 1 0).tdiv (2*n.data.xs.getD 2 0)+1):=rfl
    generalize hT0:(0-n.data.xs.getD 1 0).tdiv (2*n.data.xs.getD 2 0)=T at*
    generalize apn:Wd n.data.xs a=L0 at*
    generalize apb:hiI n.data.xs a=H0 at*
    refine Wp.loop (σ:=Int×Nat×List Int) 5 (λ⟨v,m,_⟩=>[(10,ax v),(9,ax T),(7,.os 4 m),(3,.lp 0 0 0 0),(4,.lp 1 0 0 0)]) (λ⟨_,_,acc⟩=>[(4,.rows (aN acc) 1 3),(1,.box [ax a.1,ax a.2] 58),(0,.box [ax n.ak,ax n.a,ax n.b,.c n.ay.val,ax n.lo,ax n.hi,ax n.size,.c n.data.val,.c n.aM.val,.c ve,.c wQ,ax c] 104)]) (λ_=>aO w)
     (λ⟨v,m,acc⟩=>acc++(HV (H0-v+1).toNat v).map (fA n.data.xs)=[fA n.data.xs a.1,fA n.data.xs a.2]++(HV (H0-L0+1).toNat L0).map (fA n.data.xs)/\m=acc.length/\L0<=v/\v<=1048580/\acc.length+(H0-v+1).toNat<=5/\(∀x∈acc,i64 x)) (λs=>(H0-s.1+1).toNat) (_,2,[fA n.data.xs a.1,fA n.data.xs a.2]) [(4,some 3)] aY (λs=>⟨rfl,rfl⟩)
     ⟨by congr 4<;>omega,rfl,by omega,by omega,by simp only[List.length_cons,List.length_nil];omega,Bi aa aa⟩ ⟨rfl,⟨rfl,rfl,rfl,rfl,rfl,trivial⟩,bM,λ_ _ h=>h⟩ ?_
    rintro⟨v,m,acc⟩ ⟨hacc,hm,hv0,hv1,hcnt,hf⟩
    by_cases hgo:v<=H0
    ·have iv:=Il hb (v:=v) NW
     have hstep:HV (H0-v+1).toNat v=v::HV (H0-(v+1)+1).toNat (v+1):=by
      have:(H0-v+1).toNat=(H0-(v+1)+1).toNat+1:=by omega
      rw[this];rfl
     repeat' ((conv=>whnf)<;>first|((show aI _ 107 _ _ _ _ _);refine aQ (f:=107) Tryz.call107 (.int .i64 (fA n.data.xs v)) (λρ w' hw=>uI w' n (ae hw λR h=>hd.later h) hl3 hb ve wQ c v NW) ?_)|(show vO ..;(refine gY (by rw[aJ,hm];exact Nat.le_refl _) ?_))|refine ZK ?_|refine bn ?_|refine ag ?_ ?_<;>intro _)
     all_goals(conv=>whnf)
     all_goals exact⟨(v+1,m+1,acc++[fA n.data.xs v]),[(4,some 6)],⟨by rw[<-hacc,hstep];simp,by rw[hm];simp,by omega,by omega,by rw[List.length_append,List.length_singleton];omega,λx hx=>by
      rcases List.mem_append.1 hx with h|h
      ·exact hf x h
      ·simp at h;subst h;unfold i64;omega⟩,by simp only;omega,rfl,⟨rfl,rfl,rfl,rfl,rfl,trivial⟩,⟨Xd _ _ hm,aU,aU,trivial⟩,λ_ _ h=>h⟩
    ·have hz0:(H0-v+1).toNat=0:=by omega
     rw[hz0]at hacc
     simp only[HV,List.map_nil,List.append_nil]at hacc
     repeat' ((conv=>whnf)<;>first|refine bn ?_|refine ag ?_ ?_<;>intro _)
     all_goals(conv=>whnf)
     all_goals(rw[<-hacc];exact nW (λ_ _ h=>h) rfl aU hm hf aa)
 ·have hL:fo n a b=[a.1,a.2]:=by unfold fo;rw[if_neg aa,if_neg aa,if_neg aa,if_neg aa,if_neg aa]
  rw[hL]
  refine fH Tryz.func51 [.agg [ax n.ak,ax n.a,ax n.b,.c n.ay.val,ax n.lo,ax n.hi,ax n.size,.c n.data.val,.c n.aM.val,.c ve,.c wQ,ax c],.agg [ax a.1,ax a.2],.agg [ax b.1,ax b.2]] ?_
  repeat' ((conv=>whnf)<;>first|refine bn ?_|refine ag ?_ ?_<;>intro _)
  conv=>whnf
  exact nW (λ_ _ h=>h) rfl aU rfl (Bi aa aa) fP
end
section
structure ja(n:ai)(sh:List (List Int))(s:List Int):Prop where
 form:cZ n sh.length=true
 ay:bR n sh=some s
 near:g_ n=true
theorem Nw:∀{l:List ai} {M3 sh:List (List Int)},eX l M3=(0,sh)->∃q,sh=M3++q/\q.length=l.length/\∀i n,l[i]? =some n->∃s,q[i]? =some s/\ja n (M3++q.take i) s
 |[],M3,sh,h=>by
  obtain rfl:M3=sh:=by simpa[eX]using h
  exact⟨[],by simp,rfl,λi n hn=>by simp at hn⟩
 |m::r,M3,sh,h=>by
  by_cases hf:cZ m M3.length=false
  ·rw[sH hf]at h;simp at h
  have hf:cZ m M3.length=true:=by simpa using hf
  cases hs:bR m M3 with
  |none=>rw[qF hf hs]at h;simp at h
  |some s=>
   by_cases hn:g_ m=false
   ·rw[kK hf hs hn]at h;simp at h
   have hn:g_ m=true:=by simpa using hn
   rw[iG hf hs hn]at h
   obtain⟨q,hq,hl,ha⟩:=Nw h
   refine⟨s::q,by rw[hq,List.append_assoc];rfl,by simp[hl],λi n hin=> ?_⟩
   cases i with
   |zero=>
    simp only[List.getElem?_cons_zero,Option.some.injEq]at hin
    subst hin
    exact⟨s,rfl,by simpa using hf,by simpa using hs,hn⟩
   |succ i=>
    simp only[List.getElem?_cons_succ]at hin
    obtain⟨t,h1,h2⟩:=ha i n hin
    refine⟨t,by simpa using h1,?_⟩
    rw[List.take_succ_cons,show M3++s::q.take i=M3++[s]++q.take i by simp]
    exact h2
theorem iq{g:bG}(h:(check g).1=0):1<=g.l.length/\g.l.length<=24/\(0<=g.out/\g.out<g.l.length)/\(check g).2.length=g.l.length/\∀i n,g.l[i]? =some n->∃s,(check g).2[i]? =some s/\ja n ((check g).2.take i) s:=by
 unfold check at h|-
 split at h
 ·simp at h
 rename_i hc
 rw[if_neg hc]
 obtain⟨q,hq,hl,ha⟩:=Nw (l:=g.l) (M3:=[]) (sh:=(eX g.l []).2) (Prod.ext h rfl)
 rw[List.nil_append]at hq
 subst hq
 exact⟨by omega,by omega,by omega,hl,λi n hn=>ha i n hn⟩
theorem nG{n:ai}{at_:Nat}(h:cZ n at_=true):(0<=n.a/\(n.a<at_\/n.a=0))/\(0<=n.b/\(n.b<at_\/n.b=0))/\(n.ak=7->n.data.xs.length=1)/\(n.ak=8->n.data.xs.length=3)/\(n.ak=2->(n.data.xs.length:Int)=az n.ay.xs):=by
 have hfo:=dM h
 have hkk:=hfo.ak
 unfold cZ at h
 have hk:n.ak=1\/n.ak=2\/n.ak=3\/n.ak=4\/n.ak=5\/n.ak=6\/n.ak=7\/n.ak=8\/n.ak=9:=by omega
 rcases hk with hk|hk|hk|hk|hk|hk|hk|hk|hk
 all_goals repeat(first|rw[if_pos aa]at h|rw[if_neg aa]at h)
 all_goals simp only[kg,jX,Bool.true_or,Bool.false_or,Bool.true_and,Bool.and_true,Bool.and_eq_true,decide_eq_true_eq]at h
 all_goals exact⟨by omega,by omega,by omega,by omega,by omega⟩
theorem r9{n:ai}(h:g_ n=true):(∀x∈n.data.xs,cK x)/\(∀x∈n.aM.xs,cK x)/\cK n.lo/\cK n.hi/\n.lo<=n.hi:=by
 unfold g_ qz at h
 simp only[Bool.and_eq_true,List.all_eq_true,decide_eq_true_eq]at h
 exact⟨λx hx=>h.1.1.1 x hx,λx hx=>h.1.1.2 x hx,h.1.2 n.lo fP,h.1.2 n.hi fP,h.2⟩
theorem yx:∀(l:List Int) (x:Int),l.foldl min x<=x/\∀y∈l,l.foldl min x<=y
 |[],x=>⟨Int.le_refl _,λy hy=>by simp at hy⟩
 |z::r,x=>by
  obtain⟨h1,h2⟩:=yx r (min x z)
  refine⟨by rw[List.foldl_cons];omega,λy hy=> ?_⟩
  rw[List.foldl_cons]
  rcases List.mem_cons.1 hy with rfl|hy
  ·omega
  ·exact h2 y hy
theorem yz:∀(l:List Int) (x:Int),x<=l.foldl max x/\∀y∈l,y<=l.foldl max x
 |[],x=>⟨Int.le_refl _,λy hy=>by simp at hy⟩
 |z::r,x=>by
  obtain⟨h1,h2⟩:=yz r (max x z)
  refine⟨by rw[List.foldl_cons];omega,λy hy=> ?_⟩
  rw[List.foldl_cons]
  rcases List.mem_cons.1 hy with rfl|hy
  ·omega
  ·exact h2 y hy
variable {l:List Int} {y:Int}
theorem iT(h:y∈l):foldI min l<=y:=by
 cases l with
 |nil=>simp at h
 |cons x r=>
  rcases List.mem_cons.1 h with rfl|h
  ·exact(yx r _).1
  ·exact(yx r x).2 y h
theorem iQ(h:y∈l):y<=foldI max l:=by
 cases l with
 |nil=>simp at h
 |cons x r=>
  rcases List.mem_cons.1 h with rfl|h
  ·exact(yz r _).1
  ·exact(yz r x).2 y h
theorem Lb(h:1<=l.length):foldI min l<=foldI max l:=by
 cases l with
 |nil=>simp at h
 |cons x r=>exact Int.le_trans (iT List.mem_cons_self) (iQ List.mem_cons_self)
def d_(l:List Sp):List (List Value):=l.map λs=>[.int .i64 s.1,.int .i64 s.2]
theorem h_(l:List Sp):(d_ l).length=l.length:=by simp[d_]
theorem yK{l:List Sp}{k:Nat}(h:k<l.length):(d_ l)[k]? =some [.int .i64 l[k].1,.int .i64 l[k].2]:=by simp[d_,h]
def mY(n:Nat)(acc:List Sp):List Sp:=acc++List.replicate (n-acc.length) (0,0)
variable {acc:List Sp}
theorem qU{n:Nat}(h:acc.length<=n):(mY n acc).length=n:=by unfold mY;simp;omega
theorem yU{n j:Nat}(h:acc.length<=n)(hj:j<n):(d_ (mY n acc))[j]? =some [.int .i64 (acc.getD j (0,0)).1,.int .i64 (acc.getD j (0,0)).2]:=by
 rw[yK (by rw[qU h];exact hj)]
 have:(mY n acc)[j]'(by rw[qU h];exact hj)=acc.getD j (0,0):=by
  unfold mY
  rw[List.getElem_append]
  split
  ·rename_i hlt;rw[List.getD_eq_getElem?_getD,List.getElem?_eq_getElem hlt];rfl
  ·rename_i hlt;rw[List.getD_eq_getElem?_getD,List.getElem?_eq_none aa];simp
 rw[this]
theorem Am{n i:Nat}{x:Int}{K:List (List Value)->Prop}(hl:acc.length=i)(hi:i<n)(h:K (d_ (mY n (acc++[(x,y)])))):cO (d_ (mY n acc)) i 0 [.int .i64 x,.int .i64 y] K:=by
 subst hl
 refine iW _ (yU (Nat.le_of_lt hi) hi) (by show 0+2<=2;omega) ?_
 have e:(d_ (mY n acc)).set acc.length (bW [.int .i64 (acc.getD acc.length (0,0)).1,.int .i64 (acc.getD acc.length (0,0)).2] 0 [.int .i64 x,.int .i64 y])=d_ (mY n (acc++[(x,y)])):=by
  have e2:bW [.int .i64 (acc.getD acc.length (0,0)).1,.int .i64 (acc.getD acc.length (0,0)).2] 0 [.int .i64 x,.int .i64 y]=[Value.int .i64 x,.int .i64 y]:=rfl
  rw[e2]
  unfold mY d_
  obtain⟨k,hk⟩:∃k,n-acc.length=k+1:=⟨n-acc.length-1,by omega⟩
  rw[hk,List.length_append,List.length_singleton,show n-(acc.length+1)=k by omega,List.replicate_succ]
  simp only[List.map_append,List.map_cons,List.map_nil]
  rw[List.set_append_right _ _ fP,List.length_map,Nat.sub_self,List.set_cons_zero]
  simp
 rw[e];exact h
variable {R:Nat->Prop} {w:World} {N:Nat}
theorem oQ{sv:a_}(hs:∀u∈sv.l,u.bq)(hl:sv.l.length<=24)(h:((jE sv).past N).holds R w):sv.ok w:=
 ⟨aV h.1,λu hu=>bT (hs u hu) (h.2 u hu),hl⟩
theorem al4{w':World}{n:ai}{x:au×Bool}(hn:n.data.ok w)(hs:x.1.bq)(ho:x.2=true->x.1=n.data)(hb:(aO w).holds R w')(h:((abH x).past N).holds R w'):x.1.ok w':=by
 cases hx:x.2 with
 |true=>rw[ho hx];exact hn.later hb
 |false=>exact bT hs (h hx)
def xH(w:World)(r:Int×List Sp)(e:Ending)(w':World):Prop:=
 (r.1≠0/\e= .returned (.tuple #[.slice none 0 0,.int .i64 r.1])/\Ext w w')\/(r.1=0/\∃v,e= .returned (.tuple #[v,.int .i64 0])/\Ext w w'/\kv w w' v 2 58 (d_ r.2))
end
section
variable {B:Base} {H:Heap} {S:bN} {nx:Nat} {w:World} {r:Int×List Sp}
theorem AJ{v:SV}(hb:∀R w',S.holds R w'->(aO B.w0).holds R w')(hw0:B.w0=w)(hn:r.1≠0)(hv:∀ρ,v.rf ρ= .tuple #[.slice none 0 0,.int .i64 r.1]):jI B v H S nx (xH w r):=by
 subst hw0
 exact dH λρ w' hw=> .inl ⟨hn,by rw[hv],aZ hw hb⟩
variable {i:Nat}
theorem Ka{n:Nat}{l:List Sp}(hb:∀R w',S.holds R w'->(aO B.w0).holds R w')(hw0:B.w0=w)(he:(i,bZ.rows (d_ l) 2 58)∈H)(hn:n=l.length)(hr:r=(0,l)):jI B (.sN [.os i n,ax 0]) H S nx (xH w r):=by
 subst hw0 hn hr
 refine dH λρ w' hw=> .inr ⟨rfl,_,rfl,aZ hw hb,?_⟩
 have hh:=dK hw hb he
 rw[h_]at hh
 exact hh
theorem aau{n:ai}{a b:Sp}{at_:Nat}(h:cZ n at_=true):1<=(fo n a b).length:=by
 have h1:=(nG h).2.2.2.2
 have hfo:=dM h
 unfold fo
 split
 ·simp
 ·split
  ·rename_i hk
   have:=hfo.own (.inr (.inl hk))
   have:=h1 hk
   omega
  ·split
   ·simp
   ·split
    ·simp
    ·split
     ·split<;>simp
     ·simp
variable {acc:List Sp}
theorem Ym(h:∀s∈acc,cK s.1/\cK s.2)(k:Nat):cK (acc.getD k (0,0)).1/\cK (acc.getD k (0,0)).2:=by
 rcases Nat.lt_or_ge k acc.length with hk|hk
 ·rw[List.getD_eq_getElem?_getD,List.getElem?_eq_getElem hk];exact h _ (List.getElem_mem hk)
 ·rw[List.getD_eq_getElem?_getD,List.getElem?_eq_none hk];exact⟨⟨by decide,by decide⟩,⟨by decide,by decide⟩⟩
theorem SF{n:Nat}{s:Sp}(hl:acc.length=i)(hi:i<n):(d_ (mY n (acc++[s])))[i]? =some [.int .i64 s.1,.int .i64 s.2]:=by
 subst hl
 rw[yU acf hi]
 simp[List.getD_eq_getElem?_getD]
end
section
theorem xG(d:List Int)(u v:Int):fA d v-fA d u=(v-u)*(d.getD 2 0*(u+v)+d.getD 1 0):=by
 unfold fA
 generalize d.getD 2 0=a
 generalize d.getD 1 0=b
 generalize d.getD 0 0=c
 grind
variable {b:Int}
theorem Zn{a:Int}(ha:0<a):2*a*((0-b).tdiv (2*a)-1)+b<=0/\0<=2*a*((0-b).tdiv (2*a)+1)+b:=by
 have h1:=Int.mul_tdiv_add_tmod (0-b) (2*a)
 have h2:((0-b).tmod (2*a)).natAbs<(2*a).natAbs:=by
  rw[Int.natAbs_tmod];exact Nat.mod_lt _ aa
 have h3:2*a*((0-b).tdiv (2*a)-1)=2*a*(0-b).tdiv (2*a)-2*a:=by rw[Int.mul_sub,Int.mul_one]
 have h4:2*a*((0-b).tdiv (2*a)+1)=2*a*(0-b).tdiv (2*a)+2*a:=by rw[Int.mul_add,Int.mul_one]
 rw[h3,h4]
 omega
variable {T u v:Int}
theorem Yl{a:Int}(ha:0<a)(hT:0<=2*a*(T+1)+b)(h1:T+1<=u)(h2:u<=v):0<=(v-u)*(a*(u+v)+b):=by
 refine Int.mul_nonneg aa ?_
 have h3:a*(2*(T+1))<=a*(u+v):=Int.mul_le_mul_of_nonneg_left aa aa
 have h4:2*a*(T+1)=a*(2*(T+1)):=by grind
 omega
theorem Oh{a:Int}(ha:0<a)(hT:2*a*(T-1)+b<=0)(h1:v<=T-1)(h2:u<=v):(v-u)*(a*(u+v)+b)<=0:=by
 refine Int.mul_nonpos_of_nonneg_of_nonpos aa ?_
 have h3:a*(u+v)<=a*(2*(T-1)):=Int.mul_le_mul_of_nonneg_left aa aa
 have h4:2*a*(T-1)=a*(2*(T-1)):=by grind
 omega
variable {d:List Int}
theorem DC(h:d.getD 2 0≠0):
 ((∀u v,u<=v->v<=iR d-1->fA d v<=fA d u)/\(∀u v,iR d+1<=u->u<=v->fA d u<=fA d v))\/
 ((∀u v,u<=v->v<=iR d-1->fA d u<=fA d v)/\(∀u v,iR d+1<=u->u<=v->fA d v<=fA d u)):=by
 rcases(by omega:0<d.getD 2 0\/d.getD 2 0<0)with ha|ha
 ·obtain⟨t1,t2⟩:=Zn (b:=d.getD 1 0) ha
  left
  refine⟨λu v h1 h2=> ?_,λu v h1 h2=> ?_⟩
  ·have:=xG d u v
   have:=Oh ha t1 h2 h1
   omega
  ·have:=xG d u v
   have:=Yl ha t2 h1 h2
   omega
 ·have ha':0< -(d.getD 2 0):=by omega
  obtain⟨t1,t2⟩:=Zn (b:= -(d.getD 1 0)) ha'
  have hT:(0- -(d.getD 1 0)).tdiv (2* -(d.getD 2 0))=iR d:=by
   unfold iR
   rw[show 0- -(d.getD 1 0)= -(0-d.getD 1 0) by omega,show 2* -(d.getD 2 0)= -(2*d.getD 2 0) by omega,Int.neg_tdiv,Int.tdiv_neg,Int.neg_neg]
  rw[hT]at t1 t2
  have hneg:∀u v:Int,(v-u)*(-(d.getD 2 0)*(u+v)+ -(d.getD 1 0))= -((v-u)*(d.getD 2 0*(u+v)+d.getD 1 0)):=λu v=>by grind
  right
  refine⟨λu v h1 h2=> ?_,λu v h1 h2=> ?_⟩
  ·have:=xG d u v
   have h3:=Oh ha' t1 h2 h1
   rw[hneg]at h3
   omega
  ·have:=xG d u v
   have h3:=Yl ha' t2 h1 h2
   rw[hneg]at h3
   omega
theorem Ec:∀{n:Nat} {v x:Int},x∈HV n v↔v<=x/\x<v+n
 |0,v,x=>by simp[HV]
 |n+1,v,x=>by
  unfold HV
  rw[List.mem_cons,Ec]
  omega
def jd(d:List Int)(a:Sp):List Int:=if d.getD 2 0=0 then [fA d a.1,fA d a.2]else [fA d a.1,fA d a.2]++(HV (hiI d a-Wd d a+1).toNat (Wd d a)).map (fA d)
theorem j6{a:Sp}:fA d a.1∈jd d a:=by unfold jd;split<;>simp
theorem kZ{a:Sp}:fA d a.2∈jd d a:=by unfold jd;split<;>simp
theorem yB{a:Sp}(hz:d.getD 2 0≠0)(h1:Wd d a<=v)(h2:v<=hiI d a):fA d v∈jd d a:=by
 unfold jd
 rw[if_neg hz]
 exact List.mem_append_right _ (List.mem_map.2 ⟨v,Ec.2 ⟨h1,by omega⟩,rfl⟩)
theorem U3{a:Sp}(h1:a.1<=v)(h2:v<=a.2):(∃x∈jd d a,x<=fA d v)/\(∃x∈jd d a,fA d v<=x):=by
 by_cases hz:d.getD 2 0=0
 ·have e1:=xG d a.1 v
  have e2:=xG d v a.2
  rw[hz]at e1 e2
  rw[Int.zero_mul,Int.zero_add]at e1 e2
  rcases(by omega:0<=d.getD 1 0\/d.getD 1 0<=0)with hb|hb
  ·have m1:=Int.mul_nonneg (show 0<=v-a.1 by omega) hb
   have m2:=Int.mul_nonneg (show 0<=a.2-v by omega) hb
   exact⟨⟨_,j6,by omega⟩,⟨_,kZ,by omega⟩⟩
  ·have m1:=Int.mul_nonpos_of_nonneg_of_nonpos (show 0<=v-a.1 by omega) hb
   have m2:=Int.mul_nonpos_of_nonneg_of_nonpos (show 0<=a.2-v by omega) hb
   exact⟨⟨_,kZ,by omega⟩,⟨_,j6,by omega⟩⟩
 ·by_cases hin:Wd d a<=v/\v<=hiI d a
  ·exact⟨⟨_,yB hz hin.1 hin.2,Int.le_refl _⟩,⟨_,yB hz hin.1 hin.2,Int.le_refl _⟩⟩
  ·have hL:Wd d a=max a.1 (iR d-1):=rfl
   have hH:hiI d a=min a.2 (iR d+1):=rfl
   rcases(by omega:v<Wd d a\/hiI d a<v)with hv|hv
   ·have Q3:v<=iR d-1:=by omega
    rcases(by omega:iR d-1<=a.2\/a.2<=iR d-1)with hc|hc
    ·have hm:=yB (a:=a) (v:=iR d-1) hz aa aa
     rcases DC hz with⟨w1,_⟩|⟨w1,_⟩
     ·exact⟨⟨_,hm,w1 v (iR d-1) Q3 (Int.le_refl _)⟩,⟨_,j6,w1 a.1 v h1 Q3⟩⟩
     ·exact⟨⟨_,j6,w1 a.1 v h1 Q3⟩,⟨_,hm,w1 v (iR d-1) Q3 (Int.le_refl _)⟩⟩
    ·rcases DC hz with⟨w1,_⟩|⟨w1,_⟩
     ·exact⟨⟨_,kZ,w1 v a.2 h2 hc⟩,⟨_,j6,w1 a.1 v h1 Q3⟩⟩
     ·exact⟨⟨_,j6,w1 a.1 v h1 Q3⟩,⟨_,kZ,w1 v a.2 h2 hc⟩⟩
   ·have Q3:iR d+1<=v:=by omega
    rcases(by omega:a.1<=iR d+1\/iR d+1<=a.1)with hc|hc
    ·have hm:=yB (a:=a) (v:=iR d+1) hz aa aa
     rcases DC hz with⟨_,w2⟩|⟨_,w2⟩
     ·exact⟨⟨_,hm,w2 (iR d+1) v (Int.le_refl _) Q3⟩,⟨_,kZ,w2 v a.2 Q3 h2⟩⟩
     ·exact⟨⟨_,kZ,w2 v a.2 Q3 h2⟩,⟨_,hm,w2 (iR d+1) v (Int.le_refl _) Q3⟩⟩
    ·rcases DC hz with⟨_,w2⟩|⟨_,w2⟩
     ·exact⟨⟨_,j6,w2 a.1 v hc h1⟩,⟨_,kZ,w2 v a.2 Q3 h2⟩⟩
     ·exact⟨⟨_,kZ,w2 v a.2 Q3 h2⟩,⟨_,j6,w2 a.1 v hc h1⟩⟩
theorem Kz{a:Sp}(h1:a.1<=v)(h2:v<=a.2):foldI min (jd d a)<=fA d v/\fA d v<=foldI max (jd d a):=by
 obtain⟨⟨x,hx,hx'⟩,⟨y,hy,hy'⟩⟩:=U3 (d:=d) h1 h2
 exact⟨Int.le_trans (iT hx) hx',Int.le_trans hy' (iQ hy)⟩
theorem Cg:∀(l:List Int) (x:Int),l.foldl min x=x\/l.foldl min x∈l
 |[],x=> .inl rfl
 |z::r,x=>by
  rw[List.foldl_cons]
  rcases Cg r (min x z)with h|h
  ·rw[h]
   rcases(by omega:min x z=x\/min x z=z)with h|h
   ·exact .inl h
   ·exact .inr (by rw[h];exact List.mem_cons_self)
  ·exact .inr (List.mem_cons_of_mem _ h)
theorem Cj:∀(l:List Int) (x:Int),l.foldl max x=x\/l.foldl max x∈l
 |[],x=> .inl rfl
 |z::r,x=>by
  rw[List.foldl_cons]
  rcases Cj r (max x z)with h|h
  ·rw[h]
   rcases(by omega:max x z=x\/max x z=z)with h|h
   ·exact .inl h
   ·exact .inr (by rw[h];exact List.mem_cons_self)
  ·exact .inr (List.mem_cons_of_mem _ h)
variable {l:List Int}
theorem rV(h:1<=l.length):foldI min l∈l:=by
 cases l with
 |nil=>simp at h
 |cons x r=>
  rcases Cg r x with h|h
  ·rw[foldI,h];exact List.mem_cons_self
  ·exact List.mem_cons_of_mem _ h
theorem rZ(h:1<=l.length):foldI max l∈l:=by
 cases l with
 |nil=>simp at h
 |cons x r=>
  rcases Cj r x with h|h
  ·rw[foldI,h];exact List.mem_cons_self
  ·exact List.mem_cons_of_mem _ h
end
section
abbrev ZE:DT:=(eY [0,1,2,3,4,5,6,7,8,9,10,11,112] .done)
abbrev ams:DT:=(eY [0,1,2,3,4,5,6,7,8,9,10,11,12,113] .done)
abbrev alF:DT:=(eY [0,1,2,3,4,5,6,107,8,109] .done)
abbrev aia:DT:=(eY [0,1,2,3,4,5,6,7,8,9,10,11,12,13,114] .done)
def fG(n:ai)(a b:List Int)(o:Nat):Int:=
 if n.ak=2 then n.data.xs.getD o 0
 else if n.ak=6 then a.getD o 0+b.getD o 0
 else if n.ak=7 then a.getD o 0*n.data.xs.getD 0 0
 else if n.ak=8 then fA n.data.xs (a.getD o 0)
 else a.getD o 0
def mM(n:ai)(cnt:Nat)(a b:List Int):List Int:=(List.range cnt).map (fG n a b)
def j5(n:Nat)(l:List Int):List Int:=l++List.replicate (n-l.length) 0
variable {l:List Int}
theorem uq{n:Nat}(h:l.length<=n):(j5 n l).length=n:=by unfold j5;simp;omega
variable {i:Nat}
theorem Gw{n:Nat}{x:Int}{K:List (List Value)->Prop}(hl:l.length=i)(hi:i<n)(h:K (aN (j5 n (l++[x])))):cO (aN (j5 n l)) i 0 [.int .i64 x] K:=by
 subst hl
 refine iW [.int .i64 0] ?_ FW ?_
 ·rw[eH (by rw[uq aa];exact hi)]
  simp[j5,List.getElem_append]
 ·have e:(aN (j5 n l)).set l.length (bW [.int .i64 0] 0 [.int .i64 x])=aN (j5 n (l++[x])):=by
   have e2:bW [Value.int .i64 0] 0 [.int .i64 x]=[Value.int .i64 x]:=rfl
   rw[e2]
   unfold j5 aN
   obtain⟨k,hk⟩:∃k,n-l.length=k+1:=⟨n-l.length-1,by omega⟩
   rw[hk,List.length_append,List.length_singleton,show n-(l.length+1)=k by omega,List.replicate_succ]
   simp only[List.map_append,List.map_cons,List.map_nil]
   rw[List.set_append_right _ _ fP,List.length_map,Nat.sub_self,List.set_cons_zero]
   simp
  rw[e];exact h
structure XF(w:World)(n:ai)(cnt:Nat)(a b:au):Prop where
 ak:n.ak=2\/n.ak=6\/n.ak=7\/n.ak=8\/n.ak=9
 few:cnt<=64
 data:n.data.ok w
 W_:∀x∈n.data.xs,cK x
 const:n.ak=2->n.data.xs.length=cnt
 scale:n.ak=7->n.data.xs.length=1
 power:n.ak=8->n.data.xs.length=3
 aOk:a.ok w
 bOk:b.ok w
 KX:n.ak≠2->a.xs.length=cnt
 abd:n.ak=6->b.xs.length=cnt
 aBd:∀x∈a.xs,cK x
 bBd:∀x∈b.xs,cK x
def AL(w:World)(l:List Int)(e:Ending)(w':World):Prop:=
 ∃x:au,(x.xs=l/\x.bq)/\e= .returned x.val/\Ext w w'/\(bE x).holds (λb=>w.heap.size<=b/\b<w'.heap.size) w'
variable {B:Base} {m nx:Nat} {H:Heap} {S:bN} {w:World}
theorem aeY(hb:∀R w',S.holds R w'->(aO B.w0).holds R w')(hw0:B.w0=w)(he:(i,bZ.rows (aN l) 1 3)∈H)(hm:m=l.length)(hf:∀x∈l,i64 x)(hl:l.length<=1000000):jI B (.os i m) H S nx (AL w l):=by
 subst hw0 hm
 refine dH λρ w' hw=> ?_
 have hn:=dK hw hb he
 rw[aJ]at hn
 obtain⟨u,e1,e2,e3,e4⟩:=uD hn hf hl
 exact⟨u,⟨e2,e3⟩,by rw[e1],aZ hw hb,e4⟩
theorem OI{l':List Int}(hl':l'=l)(hb:∀R w',S.holds R w'->(aO B.w0).holds R w')(hw0:B.w0=w)(he:(i,bZ.rows (aN l') 1 3)∈H)(hm:m=l.length)(hf:∀x∈l,i64 x)(hl:l.length<=1000000):jI B (.os i m) H S nx (AL w l):=by
 subst hl';exact aeY hb hw0 he hm hf hl
theorem Uu{n:ai}{cnt:Nat}{a b:au}(h:XF w n cnt a b)(o:Nat): -4611686018427387904<=fG n a.xs b.xs o/\fG n a.xs b.xs o<=4611686018427387904:=by
 have h1:=dO h.W_ o
 have h2:=dO h.W_ 0
 have h3:=dO h.aBd o
 have h4:=dO h.bBd o
 have h5:=gH (A:=1048576) (B:=1048576) h3 h2
 have h6:=Il h.W_ h3
 unfold cK at h1 h2 h3 h4
 unfold fG
 split
 ·omega
 ·split
  ·omega
  ·split
   ·omega
   ·split<;>omega
theorem Ye(w:World)(n:ai)(ve wQ:Value)(cnt:Nat)(a b:au)(h:XF w n cnt a b):Calls Tryz.prog 146 #[jW n ve wQ cnt,a.val,b.val] w (AL w (mM n cnt a.xs b.xs)):=by
 have hbd:=Uu h
 obtain⟨hk,oz,hd,hdb,hco,hsc,hpo,ha,hb,hal,hbl,hab,hbb⟩:=h
 refine fH Tryz.func146 [.agg [ax n.ak,ax n.a,ax n.b,.c n.ay.val,ax n.lo,ax n.hi,ax n.size,.c n.data.val,.c n.aM.val,.c ve,.c wQ,ax (cnt:Int)],.c a.val,.c b.val] ?_
 repeat' ((conv=>whnf)<;>first|(show mJ ..;(refine jC cnt rfl rfl DI aa ?_))|refine aX ?_)
 refine Wp.loop (σ:=Nat) 2 (λo=>[(1,.c a.val),(2,.c b.val),(3,.lp 0 0 0 0),(7,.os 1 cnt),(15,ax cnt),(16,ax o)]) (λo=>[(1,.rows (aN (j5 cnt (mM n o a.xs b.xs))) 1 3),(0,.box [ax n.ak,ax n.a,ax n.b,.c n.ay.val,ax n.lo,ax n.hi,ax n.size,.c n.data.val,.c n.aM.val,.c ve,.c wQ,ax (cnt:Int)] 104)]) (λ_=>aO w)
  (λo=>o<=cnt) (λo=>cnt-o) 0 [] aY (λs=>⟨rfl,rfl⟩) (Nat.zero_le _) ⟨rfl,⟨rfl,rfl,rfl,rfl,rfl,rfl,trivial⟩,⟨?_,aU,trivial⟩,λ_ _ h=>h⟩ ?_
 ·have:aN (j5 cnt (mM n 0 a.xs b.xs))=List.replicate cnt [Value.int .i64 0]:=by simp[aN,j5,mM]
  show(1,bZ.rows (aN (j5 cnt (mM n 0 a.xs b.xs))) 1 3)∈_
  rw[this]
  exact aU
 rintro o ho
 have hlen:(mM n o a.xs b.xs).length=o:=by simp[mM]
 by_cases hlt:o<cnt
 ·have y_:mM n (o+1) a.xs b.xs=mM n o a.xs b.xs++[fG n a.xs b.xs o]:=by unfold mM;rw[List.range_succ,List.map_append];rfl
  have hbo:=hbd o
  rcases hk with hk|hk|hk|hk|hk
  ·have hN:fG n a.xs b.xs o=n.data.xs.getD o 0:=if_pos hk
   rw[hN]at y_ hbo
   have hcl:=hco hk
   obtain⟨ua,jD⟩:=hd.base aa
   have hur:∀(R:Nat->Prop) w',(aO w).holds R w'->bu w' (some ua) 1 (aN n.data.xs):=λR w' h=>by rw[<-jD];exact aA h hd.rows
   repeat' ((conv=>whnf)<;>first|refine VK ?_|refine Pd ?_|refine WU ?_|refine VM ?_|refine aX ?_|refine ag ?_ ?_<;>intro _)
   conv=>whnf
   exact⟨o+1,[],hlt,by omega,rfl,bM,⟨by rw[y_];exact aU,aU,trivial⟩,λ_ _ h=>h⟩
  ·have hN:fG n a.xs b.xs o=a.xs.getD o 0+b.xs.getD o 0:=by unfold fG;rw[if_neg aa,if_pos hk]
   rw[hN]at y_ hbo
   have hcl:=hal aa
   have hbl:=hbl hk
   obtain⟨ua,jD⟩:=ha.base aa
   obtain⟨ub,hub⟩:=hb.base aa
   have hur:∀(R:Nat->Prop) w',(aO w).holds R w'->bu w' (some ua) 1 (aN a.xs):=λR w' h=>by rw[<-jD];exact aA h ha.rows
   have Yi:∀(R:Nat->Prop) w',(aO w).holds R w'->bu w' (some ub) 1 (aN b.xs):=λR w' h=>by rw[<-hub];exact aA h hb.rows
   repeat' ((conv=>whnf)<;>first|refine VK ?_|refine Pd ?_|(show bV ..;refine aH _ o hub rfl aa ?_)|(show fT ..;refine bY Yi (j:=o) aa ?_)|refine WU ?_|refine VM ?_|(show b_ _ 15 ..;refine lu [12] _ ZE ?_)|refine aX ?_|refine ag ?_ ?_<;>intro _)
   all_goals(conv=>whnf)
   all_goals exact⟨o+1,[],hlt,by omega,rfl,bM,⟨by rw[y_];exact aU,aU,trivial⟩,λ_ _ h=>h⟩
  ·have hN:fG n a.xs b.xs o=a.xs.getD o 0*n.data.xs.getD 0 0:=by unfold fG;rw[if_neg aa,if_neg aa,if_pos hk]
   rw[hN]at y_ hbo
   have hcl:=hal aa
   have hdl:=hsc hk
   obtain⟨ua,jD⟩:=ha.base aa
   obtain⟨ub,hub⟩:=hd.base aa
   have hur:∀(R:Nat->Prop) w',(aO w).holds R w'->bu w' (some ua) 1 (aN a.xs):=λR w' h=>by rw[<-jD];exact aA h ha.rows
   have Yi:∀(R:Nat->Prop) w',(aO w).holds R w'->bu w' (some ub) 1 (aN n.data.xs):=λR w' h=>by rw[<-hub];exact aA h hd.rows
   repeat' ((conv=>whnf)<;>first|refine VK ?_|refine Pd ?_|(show bV ..;refine aH _ 0 hub rfl aa ?_)|(show fT ..;refine bY Yi (j:=0) aa ?_)|refine WU ?_|refine VM ?_|(show b_ _ 17 ..;refine lu [13] _ ams ?_)|refine aX ?_|refine ag ?_ ?_<;>intro _)
   all_goals(conv=>whnf)
   all_goals exact⟨o+1,[],hlt,by omega,rfl,bM,⟨by rw[y_];exact aU,aU,trivial⟩,λ_ _ h=>h⟩
  ·have hN:fG n a.xs b.xs o=fA n.data.xs (a.xs.getD o 0):=by unfold fG;rw[if_neg aa,if_neg aa,if_neg aa,if_pos hk]
   rw[hN]at y_ hbo
   have hcl:=hal aa
   have hdl:=hpo hk
   obtain⟨ua,jD⟩:=ha.base aa
   have hur:∀(R:Nat->Prop) w',(aO w).holds R w'->bu w' (some ua) 1 (aN a.xs):=λR w' h=>by rw[<-jD];exact aA h ha.rows
   repeat' ((conv=>whnf)<;>first|refine VK ?_|refine Pd ?_|refine WU ?_|refine VM ?_|(show aI _ 107 ..;refine aQ (f:=107) Tryz.call107 (.int .i64 (fA n.data.xs (a.xs.getD o 0))) (λρ w' hw=>uI w' n (ae hw λR h=>hd.later h) hdl hdb ve wQ cnt (a.xs.getD o 0) (dO hab o)) ?_)|(show b_ _ 19 ..;refine lu [9] _ alF ?_)|refine aX ?_|refine ag ?_ ?_<;>intro _)
   all_goals(conv=>whnf)
   all_goals exact⟨o+1,[],hlt,by omega,rfl,bM,⟨by rw[y_];exact aU,aU,trivial⟩,λ_ _ h=>h⟩
  ·have hN:fG n a.xs b.xs o=a.xs.getD o 0:=by unfold fG;rw[if_neg aa,if_neg aa,if_neg aa,if_neg aa]
   rw[hN]at y_ hbo
   have hcl:=hal aa
   obtain⟨ua,jD⟩:=ha.base aa
   have hur:∀(R:Nat->Prop) w',(aO w).holds R w'->bu w' (some ua) 1 (aN a.xs):=λR w' h=>by rw[<-jD];exact aA h ha.rows
   repeat' ((conv=>whnf)<;>first|refine VK ?_|refine Pd ?_|refine WU ?_|refine VM ?_|refine aX ?_|refine ag ?_ ?_<;>intro _)
   conv=>whnf
   exact⟨o+1,[],hlt,by omega,rfl,bM,⟨by rw[y_];exact aU,aU,trivial⟩,λ_ _ h=>h⟩
 ·obtain rfl:o=cnt:=by omega
  have hgr:j5 o (mM n o a.xs b.xs)=mM n o a.xs b.xs:=by unfold j5;rw[hlen,Nat.sub_self];simp
  repeat' ((conv=>whnf)<;>first|refine aX ?_|refine ag ?_ ?_<;>intro _)
  conv=>whnf
  refine OI hgr (λ_ _ h=>h) rfl aU (by rw[hlen]) (λx hx=> ?_) (by rw[hlen];omega)
  obtain⟨k,_,rfl⟩:=List.mem_map.1 hx
  have:=hbd k
  unfold i64;omega
end
def within(s:Sp)(l:List Int):Prop:=∀x∈l,s.1<=x/\x<=s.2
theorem pU{s:Sp}{l:List Int}(h:within s l){o:Nat}(ho:o<l.length):s.1<=l.getD o 0/\l.getD o 0<=s.2:=h _ (dz ho)
theorem Dw{d a1 a2 v:Int}(h1:a1<=v)(h2:v<=a2):foldI min [d*a1,d*a2]<=v*d/\v*d<=foldI max [d*a1,d*a2]:=by
 have e:v*d=d*v:=Int.mul_comm _ _
 have m1:foldI min [d*a1,d*a2]=min (d*a1) (d*a2):=rfl
 have m2:foldI max [d*a1,d*a2]=max (d*a1) (d*a2):=rfl
 rw[m1,m2,e]
 rcases(by omega:0<=d\/d<=0)with hd|hd
 ·have:=Int.mul_le_mul_of_nonneg_left h1 hd
  have:=Int.mul_le_mul_of_nonneg_left h2 hd
  omega
 ·have:=Int.mul_le_mul_of_nonpos_left hd h1
  have:=Int.mul_le_mul_of_nonpos_left hd h2
  omega
theorem J8{n:ai}{cnt o:Nat}{a b:List Int}{A B:Sp}(hk:n.ak=2\/n.ak=6\/n.ak=7\/n.ak=8\/n.ak=9)(h2:n.ak=2->n.data.xs.length=cnt)(ha:n.ak≠2->a.length=cnt)(hb:n.ak=6->b.length=cnt)(hA:within A a)(hB:within B b)(ho:o<cnt):
 foldI min (fo n A B)<=fG n a b o/\fG n a b o<=foldI max (fo n A B):=by
 rcases hk with hk|hk|hk|hk|hk
 ·have hN:fG n a b o=n.data.xs.getD o 0:=if_pos hk
  have hL:fo n A B=n.data.xs:=by unfold fo;rw[if_neg aa,if_pos hk]
  rw[hN,hL]
  have hm:=dz (xs:=n.data.xs) (k:=o) (by rw[h2 hk];exact ho)
  exact⟨iT hm,iQ hm⟩
 ·have hN:fG n a b o=a.getD o 0+b.getD o 0:=by unfold fG;rw[if_neg aa,if_pos hk]
  have hL:fo n A B=[A.1+B.1,A.2+B.2]:=by unfold fo;rw[if_neg aa,if_neg aa,if_pos hk]
  rw[hN,hL]
  have h1:=pU hA (o:=o) ab5
  have h2:=pU hB (o:=o) (by rw[hb hk];exact ho)
  have m1:foldI min [A.1+B.1,A.2+B.2]=min (A.1+B.1) (A.2+B.2):=rfl
  have m2:foldI max [A.1+B.1,A.2+B.2]=max (A.1+B.1) (A.2+B.2):=rfl
  rw[m1,m2]
  omega
 ·have hN:fG n a b o=a.getD o 0*n.data.xs.getD 0 0:=by unfold fG;rw[if_neg aa,if_neg aa,if_pos hk]
  have hL:fo n A B=[n.data.xs.getD 0 0*A.1,n.data.xs.getD 0 0*A.2]:=by unfold fo;rw[if_neg aa,if_neg aa,if_neg aa,if_pos hk]
  rw[hN,hL]
  have h1:=pU hA (o:=o) ab5
  exact Dw h1.1 h1.2
 ·have hN:fG n a b o=fA n.data.xs (a.getD o 0):=by unfold fG;rw[if_neg aa,if_neg aa,if_neg aa,if_pos hk]
  have hL:fo n A B=jd n.data.xs A:=by unfold fo jd;rw[if_neg aa,if_neg aa,if_neg aa,if_neg aa,if_pos hk]
  rw[hN,hL]
  have h1:=pU hA (o:=o) ab5
  exact Kz h1.1 h1.2
 ·have hN:fG n a b o=a.getD o 0:=by unfold fG;rw[if_neg aa,if_neg aa,if_neg aa,if_neg aa]
  have hL:fo n A B=[A.1,A.2]:=by unfold fo;rw[if_neg aa,if_neg aa,if_neg aa,if_neg aa,if_neg aa]
  rw[hN,hL]
  have h1:=pU hA (o:=o) ab5
  have m1:foldI min [A.1,A.2]=min A.1 A.2:=rfl
  have m2:foldI max [A.1,A.2]=max A.1 A.2:=rfl
  rw[m1,m2]
  omega
def og(n:Nat)(l:List au):List au:=l++List.replicate (n-l.length) fQ
theorem uw{n:Nat}{l:List au}(h:l.length<=n):(og n l).length=n:=by unfold og;simp;omega
theorem yj{n j:Nat}{l:List au}(h:l.length<=n)(hj:j<n):(aS (og n l))[j]? =some [(l.getD j fQ).val]:=by
 rw[dF (by rw[uw h];exact hj)]
 have:(og n l)[j]'(by rw[uw h];exact hj)=l.getD j fQ:=by
  unfold og
  rw[List.getElem_append]
  split
  ·rename_i hlt;rw[List.getD_eq_getElem?_getD,List.getElem?_eq_getElem hlt];rfl
  ·rename_i hlt;rw[List.getD_eq_getElem?_getD,List.getElem?_eq_none aa];simp
 rw[this]
theorem vV{n i:Nat}{l:List au}{x:au}{K:List (List Value)->Prop}(hl:l.length=i)(hi:i<n)(h:K (aS (og n (l++[x])))):cO (aS (og n l)) i 0 [x.val] K:=by
 subst hl
 refine iW _ (yj (Nat.le_of_lt hi) hi) FW ?_
 have e:(aS (og n l)).set l.length (bW [(l.getD l.length fQ).val] 0 [x.val])=aS (og n (l++[x])):=by
  have e2:bW [(l.getD l.length fQ).val] 0 [x.val]=[x.val]:=rfl
  rw[e2]
  unfold og aS
  obtain⟨k,hk⟩:∃k,n-l.length=k+1:=⟨n-l.length-1,by omega⟩
  rw[hk,List.length_append,List.length_singleton,show n-(l.length+1)=k by omega,List.replicate_succ]
  simp only[List.map_append,List.map_cons,List.map_nil]
  rw[List.set_append_right _ _ fP,List.length_map,Nat.sub_self,List.set_cons_zero]
  simp
 rw[e];exact h
structure InV.ok(w:World)(v:a_):Prop where
 rows:bu w v.base 1 (aS v.l)
 each:∀u∈v.l,u.ok w
 room:v.l.length<=v.cap
 few:v.l.length<=1000000
theorem aa8{w:World}{a:Addr}{cap:Nat}{xs:List (List Value)}(hc:xs.length<=cap)(h:bu w (some a) 1 xs):bu w (some (if cap=1 then a else a.add 1)) 1 (xs.drop 1):=by
 by_cases hx:xs.drop 1=[]
 ·rw[hx];exact .inl rfl
 have hl:1<xs.length:=by
  rcases Nat.lt_or_ge 1 xs.length with h|h
  ·exact h
  ·exact absurd (List.drop_eq_nil_of_le h) hx
 rw[if_neg aa]
 rcases h with h|⟨a',ha,h⟩
 ·rw[h]at hl;simp at hl
 obtain rfl:a=a':=by simpa using ha
 refine .inr ⟨_,rfl,λi r hr j v hj=> ?_⟩
 rw[List.getElem?_drop]at hr
 have:=h (1+i) r hr j v hj
 rw[add_add,show 1+(i*1+j)=(1+i)*1+j by omega]
 exact this
theorem WH{a:Addr}{len cap:Nat}{K:SV->Prop}(h1:1<=len)(h2:len<=cap)(h:K (.c (.slice (some (if cap=1 then a else a.add 1)) (len-1) (cap-1)))):l7 (some a) len cap 1 (some 1) none none K:=by
 rw[oN]
 refine⟨1,len,cap,rfl,rfl,rfl,h1,h2,Nat.le_refl _,λh=>kP,?_⟩
 have e:(if cap=1 then some a else(some a).map (·.add (1*1)))=some (if cap=1 then a else a.add 1):=by
  split<;>rfl
 rw[e]
 exact h
def InV.rest(v:a_)(a:Addr):a_:=⟨some (if v.cap=1 then a else a.add 1),v.cap-1,v.l.drop 1⟩
theorem InV.ahc{w:World}{v:a_}{a:Addr}(h:InV.ok w v)(ha:v.base=some a):InV.ok w (InV.rest v a):=by
 refine⟨?_,λu hu=>h.each u (List.mem_of_mem_drop hu),by have:=h.room;show(v.l.drop 1).length<=v.cap-1;rw[List.length_drop];omega,by have:=h.few;show(v.l.drop 1).length<=_;rw[List.length_drop];omega⟩
 have:=h.rows
 rw[ha]at this
 have h2:=aa8 (cap:=v.cap) (by rw[aW];exact h.room) this
 have e:aS (v.l.drop 1)=(aS v.l).drop 1:=by simp[aS,List.map_drop]
 show bu w _ 1 (aS (v.l.drop 1))
 rw[e];exact h2
theorem InV.later{w w':World}{R:Nat->Prop}{v:a_}(h:InV.ok w v)(hb:(aO w).holds R w'):InV.ok w' v:=⟨aA hb h.rows,λu hu=>(h.each u hu).later hb,h.room,h.few⟩
abbrev amr:DT:=(.take 0 (.alt 1 (.alt 2 (.alt 3 (.alt 4 (.one 5 (.alt 6 (eY [107,108,109,110] .done) (.one 7 (.alt 6 (eY [108,109,110] .done) (eY [108,106,109,110] .done))))) (.one 5 (.alt 4 (.alt 6 (eY [107,108,109,110] .done) (.one 7 (.alt 6 (eY [108,109,110] .done) (eY [108,106,109,110] .done)))) (eY [106,104,107,108,109,110] .done)))) (.one 5 (.alt 3 (.alt 4 (.alt 6 (eY [107,108,109,110] .done) (.one 7 (.alt 6 (eY [108,109,110] .done) (eY [108,106,109,110] .done)))) (eY [106,104,107,108,109,110] .done)) (eY [106,103,104,107,108,109,110] .done)))) (.one 5 (.alt 2 (.alt 3 (.alt 4 (.alt 6 (eY [107,108,109,110] .done) (.one 7 (.alt 6 (eY [108,109,110] .done) (eY [108,106,109,110] .done)))) (eY [106,104,107,108,109,110] .done)) (eY [106,103,104,107,108,109,110] .done)) (eY [106,102,103,104,107,108,109,110] .done)))) (.one 5 (.alt 1 (.alt 2 (.alt 3 (.alt 4 (.alt 6 (eY [107,108,109,110] .done) (.one 7 (.alt 6 (eY [108,109,110] .done) (eY [108,106,109,110] .done)))) (eY [106,104,107,108,109,110] .done)) (eY [106,103,104,107,108,109,110] .done)) (eY [106,102,103,104,107,108,109,110] .done)) (eY [106,101,102,103,104,107,108,109,110] .done)))))
def sZ(n:ai)(ve:Value)(c:Int):Value:=
 if n.ak=3 then .func (.func 104) #[jW n (.slice none 0 0) .nilFunc c] #[]
 else if n.ak=4 then .func (.func 105) #[jW n ve .nilFunc c] #[]
 else .func (.func 106) #[jW n ve .nilFunc c] #[]
theorem ajp(w:World)(n:ai)(sv:a_)(hs:sv.ok w)(i j:Nat)(s t:au)(hi:sv.l[i]? =some s)(hj:sv.l[j]? =some t)(hja:n.a=j)(hk:n.ak=3\/n.ak=4\/n.ak=5):Calls Tryz.prog 50 #[n.j3,sv.val,.int .i64 i] w λe w'=>e= .returned (jW n t.val (sZ n t.val (az s.xs)) (az s.xs))/\Ext w w':=by
 obtain⟨hlt,hsi⟩:=List.getElem?_eq_some_iff.1 hi
 obtain⟨amd,htj⟩:=List.getElem?_eq_some_iff.1 hj
 have oz:=hs.few
 obtain⟨a,ha⟩:∃a,sv.base=some a:=aP (j:=i) hs.rows Mw
 have hrow:=dF hlt
 rw[hsi]at hrow
 have ai5:=dF amd
 rw[htj]at ai5
 have hss:=hs.each s (hsi▸List.getElem_mem hlt)
 rcases hk with hk|hk|hk
 ·have hT:sZ n t.val (az s.xs)= .func (.func 104) #[jW n (.slice none 0 0) .nilFunc (az s.xs)] #[]:=if_pos hk
  rw[hT]
  refine fH Tryz.func50 [.agg (jN n),.c sv.val,ax i] ?_
  repeat' ((conv=>whnf)<;>first|refine aeL ?_|refine ae6 ?_|refine ace ?_|(show b_ _ 4 ..;refine lu [] [] amr ?_ (h6:=List.nil_sublist _))|refine BF ?_|(show b_ _ 1 ..;refine lu [8] _ Yj ?_)|refine aX ?_|refine ag ?_ ?_<;>intro _|refine And.intro ?_ ?_)
  all_goals(conv=>whnf)
  all_goals exact cz (λ_ _ h=>h) (λ_=>rfl) rfl
 ·have hT:sZ n t.val (az s.xs)= .func (.func 105) #[jW n t.val .nilFunc (az s.xs)] #[]:=by unfold sZ;rw[if_neg aa,if_pos hk]
  rw[hT]
  refine fH Tryz.func50 [.agg (jN n),.c sv.val,ax i] ?_
  repeat' ((conv=>whnf)<;>first|refine aeL ?_|refine ae6 ?_|refine ace ?_|refine BF ?_|(show b_ _ 1 ..;refine lu [8] _ Yj ?_)|refine aX ?_|refine ag ?_ ?_<;>intro _|refine And.intro ?_ ?_)
  all_goals(conv=>whnf)
  all_goals exact cz (λ_ _ h=>h) (λ_=>rfl) rfl
 ·have hT:sZ n t.val (az s.xs)= .func (.func 106) #[jW n t.val .nilFunc (az s.xs)] #[]:=by unfold sZ;rw[if_neg aa,if_neg aa]
  rw[hT]
  refine fH Tryz.func50 [.agg (jN n),.c sv.val,ax i] ?_
  repeat' ((conv=>whnf)<;>first|refine aeL ?_|refine ae6 ?_|refine ace ?_|refine BF ?_|(show b_ _ 1 ..;refine lu [8] _ Yj ?_)|refine aX ?_|refine ag ?_ ?_<;>intro _|refine And.intro ?_ ?_)
  all_goals(conv=>whnf)
  all_goals exact cz (λ_ _ h=>h) (λ_=>rfl) rfl
theorem Ee{z:Int}(y:Int){K:Int->Prop}(h:z=y)(h1: -9223372036854775808<=y)(h2:y<=9223372036854775807)(hk:K y):iL .i64 z K:=by
 subst h;exact wrap_i64 h1 h2 hk
abbrev pu(w:World)(l:List Sp):Ending->World->Prop:=λe w'=>∃v,e= .returned v/\Ext w w'/\kv w w' v 2 152 (d_ l)
theorem FR{B:Base}{i m:Nat}{H:Heap}{S:bN}{nx:Nat}{w:World}{l l':List Sp}(hl':l'=l)(hb:∀R w',S.holds R w'->(aO B.w0).holds R w')(hw0:B.w0=w)(he:(i,bZ.rows (d_ l') 2 152)∈H)(hm:m=l.length):jI B (.os i m) H S nx (pu w l):=by
 subst hw0 hm hl'
 refine dH λρ w' hw=>⟨_,rfl,aZ hw hb,?_⟩
 have hn:=dK hw hb he
 rw[h_]at hn
 exact hn
def tJ(n:ai)(o:Nat)(size:Nat):List Sp:=(List.range size).map λi=>(n.data.xs.getD (o*size+i) 0,(i:Int))
theorem RU(n:ai)(o size i:Nat):(List.range (i+1)).map (λi=>((n.data.xs.getD (o*size+i) 0,(i:Int)):Sp))=(List.range i).map (λi=>((n.data.xs.getD (o*size+i) 0,(i:Int)):Sp))++[(n.data.xs.getD (o*size+i) 0,(i:Int))]:=by
 rw[List.range_succ,List.map_append];rfl
theorem Z4(w:World)(n:ai)(hd:n.data.ok w)(hbl:1<=n.aM.xs.length/\n.aM.xs.length<=64)(ve wQ:Value)(c:Int)(o size:Nat)(hs:size<=64)(hdl:n.data.xs.length=n.aM.xs.length*size)(ho:o<n.aM.xs.length):Calls Tryz.prog 104 #[jW n ve wQ c,.int .i64 o] w (pu w (tJ n o size)):=by
 have hprod:n.aM.xs.length*size<=64*64:=Nat.mul_le_mul hbl.2 hs
 have hdiv:(n.data.xs.length:Int)/n.aM.xs.length=size:=by
  rw[hdl,Int.natCast_mul]
  exact Int.mul_ediv_cancel_left _ aa
 have hos:o*size+size<=n.data.xs.length:=by
  have:=Nat.mul_le_mul_right size (show o+1<=n.aM.xs.length by omega)
  rw[Nat.succ_mul]at this
  omega
 refine fH Tryz.func104 [.agg [ax n.ak,ax n.a,ax n.b,.c n.ay.val,ax n.lo,ax n.hi,ax n.size,.c n.data.val,.c n.aM.val,.c ve,.c wQ,ax c],ax o] ?_
 repeat' ((conv=>whnf)<;>first|refine OW ?_|refine aX ?_)
 rw[hdiv]
 repeat' ((conv=>whnf)<;>first|(show mJ ..;(refine jC size rfl rfl (by show 16*_<=_;omega) aa ?_))|refine aX ?_)
 refine Wp.loop (σ:=Nat) 2 (λi=>[(1,ax o),(2,.lp 0 0 0 0),(5,ax size),(6,.os 1 size),(20,ax size),(21,ax i)]) (λi=>[(1,.rows (d_ (mY size ((List.range i).map λi=>((n.data.xs.getD (o*size+i) 0,(i:Int)):Sp)))) 2 152),(0,.box [ax n.ak,ax n.a,ax n.b,.c n.ay.val,ax n.lo,ax n.hi,ax n.size,.c n.data.val,.c n.aM.val,.c ve,.c wQ,ax c] 104)]) (λ_=>aO w)
  (λi=>i<=size) (λi=>size-i) 0 [] aY (λs=>⟨rfl,rfl⟩) (Nat.zero_le _) ⟨rfl,⟨rfl,rfl,rfl,rfl,rfl,rfl,trivial⟩,⟨?_,aU,trivial⟩,λ_ _ h=>h⟩ ?_
 ·have:d_ (mY size ((List.range 0).map λi=>((n.data.xs.getD (o*size+i) 0,(i:Int)):Sp)))=List.replicate size [Value.int .i64 0,.int .i64 0]:=by simp[d_,mY]
  show(1,bZ.rows (d_ (mY size ((List.range 0).map λi=>((n.data.xs.getD (o*size+i) 0,(i:Int)):Sp)))) 2 152)∈_
  rw[this]
  exact aU
 rintro i hi
 have hil:((List.range i).map λi=>((n.data.xs.getD (o*size+i) 0,(i:Int)):Sp)).length=i:=by simp
 by_cases hlt:i<size
 ·have hsn:=RU n o size i
  obtain⟨ua,jD⟩:=hd.base aa
  have hur:∀(R:Nat->Prop) w',(aO w).holds R w'->bu w' (some ua) 1 (aN n.data.xs):=λR w' h=>by rw[<-jD];exact aA h hd.rows
  have hm:(o:Int)*size=((o*size:Nat):Int):=by rw[Int.natCast_mul]
  obtain⟨q,hq⟩:∃q,o*size+i=q:=⟨_,rfl⟩
  rw[hq]at hsn
  repeat' ((conv=>whnf)<;>first|(show bV ..;refine aH _ q jD rfl aa ?_)|(show fT ..;refine bY hur (j:=q) aa ?_)|(show iL ..;(first|refine Ee ((o*size:Nat):Int) hm aa aa ?_|refine Ee (q:Int) aa aa aa ?_|refine Ee ((i+1:Nat):Int) aa aa aa ?_))|(show di ..;(refine bg i rfl hlt aew ?_))|(show cO ..;refine Am hil hlt ?_)|refine aX ?_|refine ag ?_ ?_<;>intro _)
  all_goals(conv=>whnf)
  all_goals exact⟨i+1,[],hlt,by omega,rfl,bM,⟨by rw[hsn];exact aU,aU,trivial⟩,λ_ _ h=>h⟩
 ·obtain rfl:i=size:=by omega
  have hgr:mY i ((List.range i).map λk=>((n.data.xs.getD (o*i+k) 0,(k:Int)):Sp))=tJ n o i:=by unfold mY tJ;rw[List.length_map,List.length_range,Nat.sub_self];simp
  repeat' ((conv=>whnf)<;>first|refine aX ?_|refine ag ?_ ?_<;>intro _)
  conv=>whnf
  exact FR hgr (λ_ _ h=>h) rfl aU (by simp[tJ])
def gQ(d:List Int)(k1 k2 k3 i1 i2 o:Int)(i:Nat):Sp:=
 (d.getD (o/(i2-k3+1)/(i1-k2+1)*k1*k2*k3+i).toNat 0,((i:Int)/k3/k2*i1+o/(i2-k3+1)%(i1-k2+1)+(i:Int)/k3%k2)*i2+o%(i2-k3+1)+(i:Int)%k3)
def pz(d:List Int)(k1 k2 k3 i1 i2 o:Int):List Sp:=(List.range (k1*k2*k3).toNat).map (gQ d k1 k2 k3 i1 i2 o)
structure ajJ(n:ai)(t:au)(k0 k1 k2 k3 i1 i2 o:Int):Prop where
 anf:n.ay.xs=[k0,k1,k2,k3]
 alN:∃i0,t.xs=[i0,i1,i2]
 apy:1<=k1/\k1<=64
 ap4:1<=k2/\k2<=i1
 apR:1<=k3/\k3<=i2
 anD:i1<=64
 aoo:i2<=64
 an8:(n.data.xs.length:Int)=k0*k1*k2*k3
 aqg:k0<=64
 h_o:0<=o/\o<=64
 h_k:o/(i2-k3+1)/(i1-k2+1)<k0
theorem Zr(l:List Sp)(s:Sp){i m:Nat}{T:TypeId}{H:Heap}(hm:m=l.length):(i,bZ.rows (d_ (l++[s])) 2 T)∈(i,bZ.rows (List.take m (d_ l)++[[.int .i64 s.1,.int .i64 s.2]]) 2 T)::H:=by
 subst hm
 rw[show d_ (l++[s])=List.take l.length (d_ l)++[[.int .i64 s.1,.int .i64 s.2]] by rw[List.take_of_length_le acy];simp[d_]]
 exact List.mem_cons_self
theorem jG{x y:Int}(hx:0<=x)(hy:0<y):0<=x/y/\x/y<=x/\0<=x%y/\x%y<y:=⟨Int.ediv_nonneg hx aa,Int.ediv_le_self y hx,Int.emod_nonneg x aa,Int.emod_lt_of_pos x hy⟩
theorem adQ(w:World)(n:ai)(t:au)(hd:n.data.ok w)(hsh:n.ay.ok w)(ht:t.ok w)(wQ:Value)(c k0 k1 k2 k3 i1 i2 o:Int)(h:ajJ n t k0 k1 k2 k3 i1 i2 o):Calls Tryz.prog 105 #[jW n t.val wQ c,.int .i64 o] w (pu w (pz n.data.xs k1 k2 k3 i1 i2 o)):=by
 obtain⟨hs,⟨i0,hi⟩,b1,b2,b3,bi1,bi2,hdl,b0,bo,bk⟩:=h
 obtain⟨us,fI⟩:=hsh.base (by rw[hs];simp)
 obtain⟨ut,hut⟩:=ht.base (by rw[hi];simp)
 have P6:∀(R:Nat->Prop) w',(aO w).holds R w'->bu w' (some us) 1 (aN [k0,k1,k2,k3]):=λR w' h=>by rw[<-fI,<-hs];exact aA h hsh.rows
 have htr:∀(R:Nat->Prop) w',(aO w).holds R w'->bu w' (some ut) 1 (aN [i0,i1,i2]):=λR w' h=>by rw[<-hut,<-hi];exact aA h ht.rows
 have hsl:n.ay.xs.length=4:=by rw[hs];rfl
 have htl:t.xs.length=3:=by rw[hi];rfl
 have hW:0<i2-k3+1:=by omega
 have hH:0<i1-k2+1:=by omega
 obtain⟨d1,d2,d3,d4⟩:=jG bo.1 hW
 obtain⟨d5,d6,d7,d8⟩:=jG d1 hH
 have m12:=gH (x:=k1) (y:=k2) (A:=64) (B:=64) aa aa
 have apm:=gH (x:=k1*k2) (y:=k3) (A:=64*64) (B:=64) m12 aa
 have n12:=Int.mul_pos (show 0<k1 by omega) (show 0<k2 by omega)
 have n123:=Int.mul_pos n12 (show 0<k3 by omega)
 obtain⟨Q,hQ⟩:∃Q:Nat,k1*k2*k3=Q:=⟨(k1*k2*k3).toNat,by omega⟩
 have hcT:pz n.data.xs k1 k2 k3 i1 i2 o=(List.range Q).map (gQ n.data.xs k1 k2 k3 i1 i2 o):=by unfold pz;rw[hQ];rfl
 rw[hcT]
 refine fH Tryz.func105 [.agg [ax n.ak,ax n.a,ax n.b,.c n.ay.val,ax n.lo,ax n.hi,ax n.size,.c n.data.val,.c n.aM.val,.c t.val,.c wQ,ax c],ax o] ?_
 repeat' ((conv=>whnf)<;>first|refine aha ?_|refine agb ?_|refine F9 ?_|refine OW ?_|refine bn ?_)
 rw[hQ]
 have mK1:=gH (x:=o/(i2-k3+1)/(i1-k2+1)) (y:=k1) (A:=64) (B:=64) aa aa
 have mK2:=gH (x:=o/(i2-k3+1)/(i1-k2+1)*k1) (y:=k2) (A:=64*64) (B:=64) mK1 aa
 have mK3:=gH (x:=o/(i2-k3+1)/(i1-k2+1)*k1*k2) (y:=k3) (A:=64*64*64) (B:=64) mK2 aa
 have e1:o/(i2-k3+1)/(i1-k2+1)*k1*k2*k3=o/(i2-k3+1)/(i1-k2+1)*(Q:Int):=by rw[<-hQ];grind
 have e2:k0*k1*k2*k3=k0*(Q:Int):=by rw[<-hQ];grind
 have e3:(o/(i2-k3+1)/(i1-k2+1)+1)*(Q:Int)<=k0*(Q:Int):=Int.mul_le_mul_of_nonneg_right aa aa
 rw[Int.add_mul,Int.one_mul]at e3
 have e4:0<=o/(i2-k3+1)/(i1-k2+1)*(Q:Int):=Int.mul_nonneg d5 aa
 refine Wp.loop (σ:=Nat×Nat) 2 (λ⟨i,m⟩=>[(2,.lp 0 0 0 0),(5,ax k2),(6,ax k3),(9,ax (o%(i2-k3+1))),(10,ax (o/(i2-k3+1)%(i1-k2+1))),(11,ax (o/(i2-k3+1)/(i1-k2+1))),(12,.os 1 m),(62,ax Q),(63,ax i)]) (λ⟨i,m⟩=>[(1,.rows (d_ ((List.range i).map (gQ n.data.xs k1 k2 k3 i1 i2 o))) 2 152),(0,.box [ax n.ak,ax n.a,ax n.b,.c n.ay.val,ax n.lo,ax n.hi,ax n.size,.c n.data.val,.c n.aM.val,.c t.val,.c wQ,ax c] 104)]) (λ_=>aO w)
  (λ⟨i,m⟩=>i<=Q/\m=i) (λs=>Q-s.1) (0,0) [(1,none)] aY (λs=>⟨rfl,rfl⟩) ⟨Nat.zero_le _,rfl⟩ ⟨rfl,⟨rfl,rfl,rfl,rfl,rfl,rfl,rfl,rfl,rfl,trivial⟩,⟨rfl,aU,trivial⟩,λ_ _ h=>h⟩ ?_
 rintro⟨i,m⟩ ⟨hiQ,hmi⟩
 subst hmi
 have hil:((List.range m).map (gQ n.data.xs k1 k2 k3 i1 i2 o)).length=m:=by simp
 by_cases hlt:m<Q
 ·have hsn:(List.range (m+1)).map (gQ n.data.xs k1 k2 k3 i1 i2 o)=(List.range m).map (gQ n.data.xs k1 k2 k3 i1 i2 o)++[gQ n.data.xs k1 k2 k3 i1 i2 o m]:=by rw[List.range_succ,List.map_append];rfl
  obtain⟨c1,c2,c3,c4⟩:=jG (x:=(m:Int)) (y:=k3) aa aa
  obtain⟨c5,c6,c7,c8⟩:=jG (x:=(m:Int)/k3) (y:=k2) c1 aa
  have p1:=gH (x:=(m:Int)/k3/k2) (y:=i1) (A:=262144) (B:=64) aa aa
  have p2:=gH (x:=(m:Int)/k3/k2*i1+o/(i2-k3+1)%(i1-k2+1)+(m:Int)/k3%k2) (y:=i2) (A:=16777400) (B:=64) aa aa
  obtain⟨ud,hud⟩:=hd.base aa
  have hdr:∀(R:Nat->Prop) w',(aO w).holds R w'->bu w' (some ud) 1 (aN n.data.xs):=λR w' h=>by rw[<-hud];exact aA h hd.rows
  repeat' ((conv=>whnf)<;>first|refine agc ?_|(show b_ _ 10 ..;(refine uM bQ mixed [] [(0,.box [ax n.ak,ax n.a,ax n.b,.c n.ay.val,ax n.lo,ax n.hi,ax n.size,.c n.data.val,.c n.aM.val,.c t.val,.c wQ,ax c] 104)] (eY [0,1,2,3,4,5,6,7,8,9,10,11,12,13,14,15,16,17,18,19,20,21,22,23,24,25,26,27,28,29,30,31,32,33,34,35,36,37,38,139,140,41] .done) ji ji ji aiC ?_))|refine aha ?_|refine agb ?_|(show bV ..;refine ai0 hud aa aa ?_)|(show fT ..;refine bY hdr (j:=(o/(i2-k3+1)/(i1-k2+1)*k1*k2*k3+(m:Int)).toNat) aa ?_)|refine F9 ?_|refine OW ?_|(show vO ..;(refine gY ahW ?_))|(show gP ..;(refine dP agN ?_))|refine bn ?_|refine ag ?_ ?_<;>intro _)
  all_goals(conv=>whnf)
  all_goals exact⟨(m+1,m+1),[(1,some 3)],⟨hlt,rfl⟩,by simp only;omega,rfl,bM,⟨by
   show(3,bZ.rows (d_ ((List.range (m+1)).map (gQ n.data.xs k1 k2 k3 i1 i2 o))) 2 152)∈_
   rw[hsn];exact Zr _ _ hil.symm,aU,trivial⟩,λ_ _ h=>h⟩
 ·obtain rfl:m=Q:=by omega
  repeat' ((conv=>whnf)<;>first|refine bn ?_|refine ag ?_ ?_<;>intro _)
  conv=>whnf
  exact FR rfl (λ_ _ h=>h) rfl aU hil.symm
def iH(z i1 i2 o:Int)(i:Nat):Sp:=
 (1,(o/(i2/z)/(i1/z)*i1+o/(i2/z)%(i1/z)*z+(i:Int)/z)*i2+o%(i2/z)*z+(i:Int)%z)
def pW(z i1 i2 o:Int):List Sp:=(List.range (z*z).toNat).map (iH z i1 i2 o)
structure akq(n:ai)(t:au)(i1 i2 o:Int):Prop where
 alN:∃i0,t.xs=[i0,i1,i2]
 apq:1<=n.size/\n.size<=i1
 aqh:n.size<=i2
 anD:i1<=64
 aoo:i2<=64
 h_o:0<=o/\o<=64
theorem oF{x y:Int}(hy:0<y)(h:y<=x):1<=x/y:=by
 have:=Int.ediv_le_ediv hy h
 rwa[Int.ediv_self aa]at this
theorem ac3(w:World)(n:ai)(t:au)(ht:t.ok w)(wQ:Value)(c i1 i2 o:Int)(h:akq n t i1 i2 o):Calls Tryz.prog 106 #[jW n t.val wQ c,.int .i64 o] w (pu w (pW n.size i1 i2 o)):=by
 obtain⟨⟨i0,hi⟩,bz1,bz2,bi1,bi2,bo⟩:=h
 obtain⟨ut,hut⟩:=ht.base (by rw[hi];simp)
 have htr:∀(R:Nat->Prop) w',(aO w).holds R w'->bu w' (some ut) 1 (aN [i0,i1,i2]):=λR w' h=>by rw[<-hut,<-hi];exact aA h ht.rows
 have htl:t.xs.length=3:=by rw[hi];rfl
 have hW:=oF (x:=i2) (y:=n.size) aa bz2
 have hH:=oF (x:=i1) (y:=n.size) aa bz1.2
 obtain⟨a1,a2,_,_⟩:=jG (x:=i2) (y:=n.size) aa aa
 obtain⟨a5,a6,_,_⟩:=jG (x:=i1) (y:=n.size) aa aa
 obtain⟨d1,d2,d3,d4⟩:=jG (x:=o) (y:=i2/n.size) bo.1 aa
 obtain⟨d5,d6,d7,d8⟩:=jG (x:=o/(i2/n.size)) (y:=i1/n.size) d1 aa
 have m1:=gH (x:=n.size) (y:=n.size) (A:=64) (B:=64) aa aa
 have m2:=Int.mul_pos (show 0<n.size by omega) (show 0<n.size by omega)
 have m3:=gH (x:=o/(i2/n.size)/(i1/n.size)) (y:=i1) (A:=64) (B:=64) aa aa
 have m4:=gH (x:=o/(i2/n.size)%(i1/n.size)) (y:=n.size) (A:=64) (B:=64) aa aa
 have m5:=gH (x:=o%(i2/n.size)) (y:=n.size) (A:=64) (B:=64) aa aa
 obtain⟨Q,hQ⟩:∃Q:Nat,n.size*n.size=Q:=⟨(n.size*n.size).toNat,by omega⟩
 have hcT:pW n.size i1 i2 o=(List.range Q).map (iH n.size i1 i2 o):=by unfold pW;rw[hQ];rfl
 rw[hcT]
 refine fH Tryz.func106 [.agg [ax n.ak,ax n.a,ax n.b,.c n.ay.val,ax n.lo,ax n.hi,ax n.size,.c n.data.val,.c n.aM.val,.c t.val,.c wQ,ax c],ax o] ?_
 repeat' ((conv=>whnf)<;>first|(show bV ..;(first|refine aH ut 1 hut rfl ZW ?_|refine aH ut 2 hut rfl ZW ?_))|refine ahA ?_|refine F9 ?_|refine OW ?_|refine bn ?_)
 rw[hQ]
 refine Wp.loop (σ:=Nat×Nat) 2 (λ⟨i,m⟩=>[(2,.lp 0 0 0 0),(7,ax (o%(i2/n.size))),(8,ax (o/(i2/n.size)%(i1/n.size))),(9,ax (o/(i2/n.size)/(i1/n.size))),(10,.os 1 m),(47,ax Q),(48,ax i)]) (λ⟨i,m⟩=>[(1,.rows (d_ ((List.range i).map (iH n.size i1 i2 o))) 2 152),(0,.box [ax n.ak,ax n.a,ax n.b,.c n.ay.val,ax n.lo,ax n.hi,ax n.size,.c n.data.val,.c n.aM.val,.c t.val,.c wQ,ax c] 104)]) (λ_=>aO w)
  (λ⟨i,m⟩=>i<=Q/\m=i) (λs=>Q-s.1) (0,0) [(1,none)] aY (λs=>⟨rfl,rfl⟩) ⟨Nat.zero_le _,rfl⟩ ⟨rfl,⟨rfl,rfl,rfl,rfl,rfl,rfl,rfl,trivial⟩,⟨rfl,aU,trivial⟩,λ_ _ h=>h⟩ ?_
 rintro⟨i,m⟩ ⟨hiQ,hmi⟩
 subst hmi
 have hil:((List.range m).map (iH n.size i1 i2 o)).length=m:=by simp
 by_cases hlt:m<Q
 ·have hsn:(List.range (m+1)).map (iH n.size i1 i2 o)=(List.range m).map (iH n.size i1 i2 o)++[iH n.size i1 i2 o m]:=by rw[List.range_succ,List.map_append];rfl
  obtain⟨c1,c2,c3,c4⟩:=jG (x:=(m:Int)) (y:=n.size) aa aa
  have p2:=gH (x:=o/(i2/n.size)/(i1/n.size)*i1+o/(i2/n.size)%(i1/n.size)*n.size+(m:Int)/n.size) (y:=i2) (A:=100000) (B:=64) aa aa
  repeat' ((conv=>whnf)<;>first|refine agc ?_|(show b_ _ 7 ..;(refine uM bQ mixed [] [(0,.box [ax n.ak,ax n.a,ax n.b,.c n.ay.val,ax n.lo,ax n.hi,ax n.size,.c n.data.val,.c n.aM.val,.c t.val,.c wQ,ax c] 104)] (eY [0,1,2,3,4,5,6,7,8,9,10,11,12,13,14,15,16,17,18,19,20,21,22,23,24,25,26,27,28,29,30,31,32,33,34,35,36,137,138,39] .done) ji ji ji aiC ?_))|(show bV ..;(first|refine aH ut 1 hut rfl ZW ?_|refine aH ut 2 hut rfl ZW ?_))|refine ahA ?_|refine F9 ?_|refine OW ?_|(show vO ..;(refine gY ahW ?_))|(show gP ..;(refine dP agN ?_))|refine bn ?_|refine ag ?_ ?_<;>intro _)
  all_goals(conv=>whnf)
  all_goals exact⟨(m+1,m+1),[(1,some 3)],⟨hlt,rfl⟩,by simp only;omega,rfl,bM,⟨by
   show(3,bZ.rows (d_ ((List.range (m+1)).map (iH n.size i1 i2 o))) 2 152)∈_
   rw[hsn];exact Zr _ _ hil.symm,aU,trivial⟩,λ_ _ h=>h⟩
 ·obtain rfl:m=Q:=by omega
  repeat' ((conv=>whnf)<;>first|refine bn ?_|refine ag ?_ ?_<;>intro _)
  conv=>whnf
  exact FR rfl (λ_ _ h=>h) rfl aU hil.symm
theorem P8{x y q:Int}{K:Int->Prop}(e:x/y=q)(h0:0<=x)(h1:x<=9223372036854775807)(hy:0<y)(h:K q):wK .i64 x y K:=by
 subst e;exact div_pos rfl h0 h1 hy h
def dI(n:ai)(cnt o:Nat):Int:=if n.ak=3 then n.aM.xs.getD o 0 else if n.ak=4 then n.aM.xs.getD (o/(cnt/n.aM.xs.length)) 0 else 0
theorem Sz(w:World)(n:ai)(hb:n.aM.ok w)(hk:n.ak=3\/n.ak=4\/n.ak=5)(ve wQ:Value)(cnt o:Nat)(hc:cnt<=64)(ho:o<cnt)(h3:n.ak=3->n.aM.xs.length=cnt)(h4:n.ak=4->1<=n.aM.xs.length/\n.aM.xs.length<=cnt/\o/(cnt/n.aM.xs.length)<n.aM.xs.length):Calls Tryz.prog 108 #[jW n ve wQ cnt,.int .i64 o] w λe w'=>e= .returned (.int .i64 (dI n cnt o))/\Ext w w':=by
 have oz:=hb.few
 rcases hk with hk|hk|hk
 ·have hB:dI n cnt o=n.aM.xs.getD o 0:=if_pos hk
  rw[hB]
  have hl:=h3 hk
  obtain⟨ua,jD⟩:=hb.base aa
  have hur:∀(R:Nat->Prop) w',(aO w).holds R w'->bu w' (some ua) 1 (aN n.aM.xs):=λR w' h=>by rw[<-jD];exact aA h hb.rows
  refine fH Tryz.func108 [.agg [ax n.ak,ax n.a,ax n.b,.c n.ay.val,ax n.lo,ax n.hi,ax n.size,.c n.data.val,.c n.aM.val,.c ve,.c wQ,ax (cnt:Int)],ax o] ?_
  repeat' ((conv=>whnf)<;>first|refine VK ?_|refine Pd ?_|refine bn ?_|refine ag ?_ ?_<;>intro _)
  conv=>whnf
  exact cz (λ_ _ h=>h) (λ_=>rfl) rfl
 ·have hB:dI n cnt o=n.aM.xs.getD (o/(cnt/n.aM.xs.length)) 0:=by unfold dI;rw[if_neg aa,if_pos hk]
  rw[hB]
  obtain⟨h5,h6,h7⟩:=h4 hk
  obtain⟨ua,jD⟩:=hb.base aa
  have hur:∀(R:Nat->Prop) w',(aO w).holds R w'->bu w' (some ua) 1 (aN n.aM.xs):=λR w' h=>by rw[<-jD];exact aA h hb.rows
  have e1:(cnt:Int)/n.aM.xs.length=((cnt/n.aM.xs.length:Nat):Int):=by rw[Int.natCast_ediv]
  have hd:1<=cnt/n.aM.xs.length:=(Nat.one_le_div_iff aa).2 h6
  have hdl:cnt/n.aM.xs.length<=cnt:=Nat.div_le_self _ _
  have e2:(o:Int)/((cnt/n.aM.xs.length:Nat):Int)=((o/(cnt/n.aM.xs.length):Nat):Int):=(Int.natCast_ediv o (cnt/n.aM.xs.length)).symm
  obtain⟨q,hq⟩:∃q,o/(cnt/n.aM.xs.length)=q:=⟨_,rfl⟩
  obtain⟨p,hp⟩:∃p,cnt/n.aM.xs.length=p:=⟨_,rfl⟩
  rw[hq]at e2 h7|-
  rw[hp]at e1 e2 hd hdl
  refine fH Tryz.func108 [.agg [ax n.ak,ax n.a,ax n.b,.c n.ay.val,ax n.lo,ax n.hi,ax n.size,.c n.data.val,.c n.aM.val,.c ve,.c wQ,ax (cnt:Int)],ax o] ?_
  repeat' ((conv=>whnf)<;>first|(show bV ..;refine aH _ q jD rfl aa ?_)|(show fT ..;refine bY hur (j:=q) aa ?_)|(show wK ..;(first|refine P8 e1 aa aa aa ?_|refine P8 e2 aa aa aa ?_))|refine bn ?_|refine ag ?_ ?_<;>intro _)
  all_goals(conv=>whnf)
  all_goals exact cz (λ_ _ h=>h) (λ_=>rfl) rfl
 ·have hB:dI n cnt o=0:=by unfold dI;rw[if_neg aa,if_neg aa]
  rw[hB]
  refine fH Tryz.func108 [.agg [ax n.ak,ax n.a,ax n.b,.c n.ay.val,ax n.lo,ax n.hi,ax n.size,.c n.data.val,.c n.aM.val,.c ve,.c wQ,ax (cnt:Int)],ax o] ?_
  repeat' ((conv=>whnf)<;>first|refine bn ?_|refine ag ?_ ?_<;>intro _)
  conv=>whnf
  exact cz (λ_ _ h=>h) (λ_=>rfl) rfl
def Iq(a:Sp)(s:Int)(t:Sp):Int:=s+min (t.1*a.1) (t.1*a.2)
def Ii(a:Sp)(s:Int)(t:Sp):Int:=s+max (t.1*a.1) (t.1*a.2)
def nu(n:ai)(cnt k:Nat)(T:Nat->List Sp)(a:Sp):List Int:=(List.range k).flatMap λo=>[(T o).foldl (Iq a) (dI n cnt o),(T o).foldl (Ii a) (dI n cnt o)]
def lC(n:ai)(cnt:Nat)(T:Nat->List Sp)(a:Sp):List Int:=nu n cnt cnt T a
theorem AB(n:ai)(cnt k:Nat)(T:Nat->List Sp)(a:Sp):nu n cnt (k+1) T a=nu n cnt k T a++[(T k).foldl (Iq a) (dI n cnt k),(T k).foldl (Ii a) (dI n cnt k)]:=by
 unfold nu;rw[List.range_succ,List.flatMap_append];simp
theorem yg(n:ai)(cnt:Nat)(T:Nat->List Sp)(a:Sp):∀k,(nu n cnt k T a).length=2*k
 |0=>rfl
 |k+1=>by rw[AB,List.length_append,yg n cnt T a k];rfl
theorem EQ{f:Int->Sp->Int}{s:Int}{l:List Sp}{j:Nat}(h:j<l.length):(l.take (j+1)).foldl f s=f ((l.take j).foldl f s) l[j]:=by
 rw[List.take_succ_eq_append_getElem h,List.foldl_append];rfl
theorem U2(l:List Int)(x y:Int){i m:Nat}{T:TypeId}{H:Heap}(hm:m=l.length):(i,bZ.rows (aN (l++[x,y])) 1 T)∈(i,bZ.rows (List.take m (aN l)++[[.int .i64 x],[.int .i64 y]]) 1 T)::H:=by
 subst hm
 rw[show aN (l++[x,y])=List.take l.length (aN l)++[[.int .i64 x],[.int .i64 y]] by rw[List.take_of_length_le N7];simp[aN]]
 exact List.mem_cons_self
structure Qx(w:World)(F:FuncId)(P0:Value)(cnt:Nat)(T:Nat->List Sp):Prop where
 enter:∀ar w,(callFunc F ar).run Tryz.prog w= .ok (.enter F ar) w
 calls:∀R w',(aO w).holds R w'->∀o,o<cnt->Calls Tryz.prog F #[P0,.int .i64 o] w' (pu w' (T o))
 few:∀o,o<cnt->(T o).length<=64
 bd:∀o,o<cnt->∀s∈T o,cK s.1
structure ZG(w:World)(n:ai)(cnt:Nat):Prop where
 ak:n.ak=3\/n.ak=4\/n.ak=5
 aM:n.aM.ok w
 af8:∀x∈n.aM.xs,cK x
 few:cnt<=64
 three:n.ak=3->n.aM.xs.length=cnt
 four:n.ak=4->1<=n.aM.xs.length/\n.aM.xs.length<=cnt/\∀o,o<cnt->o/(cnt/n.aM.xs.length)<n.aM.xs.length
theorem Ew{w:World}{n:ai}{cnt:Nat}(h:ZG w n cnt)(o:Nat):cK (dI n cnt o):=by
 unfold dI
 split
 ·exact dO h.af8 _
 ·split
  ·exact dO h.af8 _
  ·exact⟨by decide,by decide⟩
theorem Jp{a:Sp}(ha:cK a.1/\cK a.2):∀{l:List Sp} {s:Int},(∀t∈l,cK t.1)->(s-l.length*1099511627776<=l.foldl (Iq a) s/\l.foldl (Iq a) s<=s+l.length*1099511627776)/\(s-l.length*1099511627776<=l.foldl (Ii a) s/\l.foldl (Ii a) s<=s+l.length*1099511627776)
 |[],s,_=>by simp
 |t::r,s,h=>by
  have h1:=gH (A:=1048576) (B:=1048576) (h t List.mem_cons_self) ha.1
  have h2:=gH (A:=1048576) (B:=1048576) (h t List.mem_cons_self) ha.2
  have g1:=Jp ha (l:=r) (s:=Iq a s t) (λx hx=>h x (List.mem_cons_of_mem _ hx))
  have g2:=Jp ha (l:=r) (s:=Ii a s t) (λx hx=>h x (List.mem_cons_of_mem _ hx))
  have e1:Iq a s t=s+min (t.1*a.1) (t.1*a.2):=rfl
  have e2:Ii a s t=s+max (t.1*a.1) (t.1*a.2):=rfl
  simp only[List.foldl_cons,List.length_cons]
  omega
theorem KR{B:Base}{m:Nat}{F:FuncId}{args:List SV}{H:Heap}{S:bN}{nx:Nat}{K:SV->Heap->bN->Nat->Prop}(T:List Sp)(hf:∀ar w,(callFunc F ar).run Tryz.prog w= .ok (.enter F ar) w)
 (hc:∀ρ w,eD B ρ nx H S w->Calls Tryz.prog F (SV.eO ρ args).toArray w (pu w T)) (h:K (.os nx T.length) ((nx,.rows (d_ T) 2 152)::H) S (nx+1)):aI ⟨Tryz.prog,B,m,tab⟩ F args H S nx K:=by
 refine w_ hf 2 152 (λ_:Unit=>d_ T) (λ_=>True) (λρ w hw=>(hc ρ w hw).mono ?_) (λ_ _=> ?_)
 ·rintro e w' ⟨v,h1,h2,h3⟩
  exact⟨(),trivial,v,h1,h2,h3⟩
 ·rw[h_];exact h
theorem acF(w:World)(n:ai)(ve:Value)(F:FuncId)(P0:Value)(cnt:Nat)(T:Nat->List Sp)(a b:Sp)(hT:Qx w F P0 cnt T)(hn:ZG w n cnt)(ha:cK a.1/\cK a.2):Calls Tryz.prog 51 #[jW n ve (.func (.func F) #[P0] #[]) cnt,jy a,jy b] w (qQ w n (lC n cnt T a)):=by
 have hk:=hn.ak
 have oz:=hn.few
 obtain⟨ha1,ha2⟩:=ha
 refine fH Tryz.func51 [.agg [ax n.ak,ax n.a,ax n.b,.c n.ay.val,ax n.lo,ax n.hi,ax n.size,.c n.data.val,.c n.aM.val,.c ve,.fn (.func F) [.c P0] [],ax (cnt:Int)],.agg [ax a.1,ax a.2],.agg [ax b.1,ax b.2]] ?_
 repeat' ((conv=>whnf)<;>first|refine bn ?_|refine ag ?_ ?_<;>intro _)
 refine Wp.loop (σ:=Nat×Nat) 4 (λ⟨o,m⟩=>[(3,.lp 0 0 0 0),(4,.lp 1 0 0 0),(11,.os 3 m),(124,ax cnt),(125,ax o)]) (λ⟨o,m⟩=>[(3,.rows (aN (nu n cnt o T a)) 1 3),(1,.box [ax a.1,ax a.2] 58),(0,.box [ax n.ak,ax n.a,ax n.b,.c n.ay.val,ax n.lo,ax n.hi,ax n.size,.c n.data.val,.c n.aM.val,.c ve,.fn (.func F) [.c P0] [],ax (cnt:Int)] 104)]) (λ_=>aO w)
  (λ⟨o,m⟩=>o<=cnt/\m=2*o) (λs=>cnt-s.1) (0,0) [(3,none)] aY (λs=>⟨rfl,rfl⟩) ⟨Nat.zero_le _,rfl⟩ ⟨rfl,⟨rfl,rfl,rfl,rfl,rfl,trivial⟩,⟨rfl,aU,aU,trivial⟩,λ_ _ h=>h⟩ ?_
 rintro⟨o,m⟩ ⟨ho,hm⟩
 have hml:=yg n cnt T a o
 by_cases hlt:o<cnt
 ·have hsn:=AB n cnt o T a
  have hbd:=Ew hn o
  have htb:=hT.bd o hlt
  have htf:=hT.few o hlt
  have hC:∀{R:Nat->Prop} {w':World},(aO w).holds R w'->Calls Tryz.prog F #[P0,.int .i64 o] w' (pu w' (T o)):=λh=>hT.calls _ _ h o hlt
  repeat' ((conv=>whnf)<;>first|(show kE _ 108 ..;refine iU (f:=108) Tryz.call108 (.int .i64 (dI n cnt o)) (λρ w' hw=>Sz w' n (ae hw λR h=>hn.aM.later h) hk ve (.func (.func F) #[P0] #[]) cnt o oz hlt hn.three (λh4=>⟨(hn.four h4).1,(hn.four h4).2.1,(hn.four h4).2.2 o hlt⟩)) ?_)|((show aI _ F _ _ _ _ _);refine KR (T o) hT.enter (λρ w' hw=>ae hw λR h=>hC h) ?_)|refine bn ?_|refine ag ?_ ?_<;>intro _)
  refine Wp.loop (σ:=Nat×Int×Int) 5 (λ⟨j,lo,hi⟩=>[(3,.lp 0 0 0 0),(4,.lp 1 0 0 0),(11,.os 3 m),(124,ax cnt),(125,ax o),(13,ax lo),(14,ax hi),(137,.os 4 (T o).length),(138,ax (T o).length),(139,ax j)]) (λ_=>[(4,.rows (d_ (T o)) 2 152),(3,.rows (aN (nu n cnt o T a)) 1 3),(1,.box [ax a.1,ax a.2] 58),(0,.box [ax n.ak,ax n.a,ax n.b,.c n.ay.val,ax n.lo,ax n.hi,ax n.size,.c n.data.val,.c n.aM.val,.c ve,.fn (.func F) [.c P0] [],ax (cnt:Int)] 104)]) (λ_=>aO w)
   (λ⟨j,lo,hi⟩=>j<=(T o).length/\lo=((T o).take j).foldl (Iq a) (dI n cnt o)/\hi=((T o).take j).foldl (Ii a) (dI n cnt o)) (λs=>(T o).length-s.1) (0,dI n cnt o,dI n cnt o) [] aY (λs=>⟨rfl,rfl⟩) ⟨Nat.zero_le _,rfl,rfl⟩ ⟨rfl,⟨rfl,rfl,rfl,rfl,rfl,rfl,rfl,rfl,rfl,rfl,trivial⟩,bM,λ_ _ h=>h⟩ ?_
  rintro⟨j,lo,hi⟩ ⟨hj,hlo,hhi⟩
  by_cases hjl:j<(T o).length
  ·have s1:=EQ (f:=Iq a) (s:=dI n cnt o) hjl
   have s2:=EQ (f:=Ii a) (s:=dI n cnt o) hjl
   have hrow:=yK hjl
   have hwb:=htb _ (List.getElem_mem hjl)
   have g:=Jp ⟨ha1,ha2⟩ (l:=(T o).take j) (s:=dI n cnt o) (λx hx=>htb x (List.mem_of_mem_take hx))
   rw[<-hlo,<-hhi,List.length_take,Nat.min_eq_left hj]at g
   rw[<-hlo]at s1
   rw[<-hhi]at s2
   generalize (T o)[j]=s at*
   have q1:=gH (A:=1048576) (B:=1048576) hwb ha1
   have q2:=gH (A:=1048576) (B:=1048576) hwb ha2
   unfold cK at hbd
   repeat' ((conv=>whnf)<;>first|(show di ..;(refine bg j rfl hjl acy ?_))|refine YN ?_|refine bn ?_|refine ag ?_ ?_<;>intro _)
   all_goals(conv=>whnf)
   all_goals exact⟨(j+1,_,_),[],⟨hjl,by rw[s1];unfold Iq;omega,by rw[s2];unfold Ii;omega⟩,by simp only;omega,rfl,⟨rfl,rfl,rfl,rfl,rfl,rfl,rfl,rfl,rfl,rfl,trivial⟩,bM,λ_ _ h=>h⟩
  ·obtain rfl:j=(T o).length:=by omega
   rw[List.take_of_length_le (Nat.le_refl _)]at hlo hhi
   repeat' ((conv=>whnf)<;>first|(show vO ..;(refine gY agd ?_))|(show gP ..;(refine dP ahZ ?_))|refine bn ?_|refine ag ?_ ?_<;>intro _)
   conv=>whnf
   exact⟨(o+1,m+2),[(3,some 6)],⟨hlt,by omega⟩,by simp only;omega,rfl,bM,⟨by
    show(6,bZ.rows (aN (nu n cnt (o+1) T a)) 1 3)∈_
    rw[hsn,<-hlo,<-hhi];exact U2 _ _ _ (by rw[hml,hm]),aU,aU,trivial⟩,λ_ _ h=>h⟩
 ·obtain rfl:o=cnt:=by omega
  repeat' ((conv=>whnf)<;>first|refine bn ?_|refine ag ?_ ?_<;>intro _)
  conv=>whnf
  refine nW (λ_ _ h=>h) rfl aU (by rw[hm];exact hml.symm) (λx hx=> ?_) (by rw[show lC n o T a=nu n o o T a from rfl,hml];omega)
  obtain⟨q,hq,hx⟩:=List.mem_flatMap.1 hx
  rw[List.mem_range]at hq
  have g:=Jp ⟨ha1,ha2⟩ (l:=T q) (s:=dI n o q) (hT.bd q hq)
  have gf:=hT.few q hq
  have gb:=Ew hn q
  unfold cK at gb
  simp only[List.mem_cons,List.not_mem_nil,or_false]at hx
  unfold i64
  rcases hx with rfl|rfl<;>omega
def CV(av:List Int)(s:Int)(t:Sp):Int:=s+t.1*av.getD t.2.toNat 0
def gF(n:ai)(cnt k:Nat)(T:Nat->List Sp)(av:List Int):List Int:=(List.range k).map λo=>(T o).foldl (CV av) (dI n cnt o)
theorem VR{n i:Nat}{l:List Int}{x:Int}(hl:l.length=i)(hi:i<n):(aN (j5 n (l++[x])))[i]? =some [.int .i64 x]:=by
 subst hl
 rw[eH (by rw[uq acf];exact hi)]
 simp[j5]
theorem aaA{n i:Nat}{l:List Int}{x y:Int}{K:List (List Value)->Prop}(hl:l.length=i)(hi:i<n)(h:K (aN (j5 n (l++[y])))):cO (aN (j5 n (l++[x]))) i 0 [.int .i64 y] K:=by
 refine iW _ (VR hl hi) FW ?_
 have e:(aN (j5 n (l++[x]))).set i (bW [.int .i64 x] 0 [.int .i64 y])=aN (j5 n (l++[y])):=by
  have e2:bW [Value.int .i64 x] 0 [.int .i64 y]=[Value.int .i64 y]:=rfl
  rw[e2]
  subst hl
  unfold j5 aN
  rw[List.length_append,List.length_append,List.length_singleton,List.length_singleton]
  simp
 rw[e];exact h
theorem P5{av:List Int}(ha:∀x∈av,cK x):∀{l:List Sp} {s:Int},(∀t∈l,cK t.1)->s-l.length*1099511627776<=l.foldl (CV av) s/\l.foldl (CV av) s<=s+l.length*1099511627776
 |[],s,_=>by simp
 |t::r,s,h=>by
  have h1:=gH (A:=1048576) (B:=1048576) (h t List.mem_cons_self) (dO ha t.2.toNat)
  have g1:=P5 ha (l:=r) (s:=CV av s t) (λx hx=>h x (List.mem_cons_of_mem _ hx))
  have e1:CV av s t=s+t.1*av.getD t.2.toNat 0:=rfl
  simp only[List.foldl_cons,List.length_cons]
  omega
theorem afq(w:World)(n:ai)(ve:Value)(F:FuncId)(P0:Value)(cnt:Nat)(T:Nat->List Sp)(a b:au)(hT:Qx w F P0 cnt T)(hn:ZG w n cnt)(ha:a.ok w)(hab:∀x∈a.xs,cK x)(hat:∀o,o<cnt->∀s∈T o,0<=s.2/\s.2<a.xs.length):Calls Tryz.prog 146 #[jW n ve (.func (.func F) #[P0] #[]) cnt,a.val,b.val] w (AL w (gF n cnt cnt T a.xs)):=by
 have hk:=hn.ak
 have oz:=hn.few
 refine fH Tryz.func146 [.agg [ax n.ak,ax n.a,ax n.b,.c n.ay.val,ax n.lo,ax n.hi,ax n.size,.c n.data.val,.c n.aM.val,.c ve,.fn (.func F) [.c P0] [],ax (cnt:Int)],.c a.val,.c b.val] ?_
 repeat' ((conv=>whnf)<;>first|(show mJ ..;(refine jC cnt rfl rfl DI aa ?_))|refine aX ?_)
 refine Wp.loop (σ:=Nat) 2 (λo=>[(1,.c a.val),(2,.c b.val),(3,.lp 0 0 0 0),(7,.os 1 cnt),(15,ax cnt),(16,ax o)]) (λo=>[(1,.rows (aN (j5 cnt (gF n cnt o T a.xs))) 1 3),(0,.box [ax n.ak,ax n.a,ax n.b,.c n.ay.val,ax n.lo,ax n.hi,ax n.size,.c n.data.val,.c n.aM.val,.c ve,.fn (.func F) [.c P0] [],ax (cnt:Int)] 104)]) (λ_=>aO w)
  (λo=>o<=cnt) (λo=>cnt-o) 0 [] aY (λs=>⟨rfl,rfl⟩) (Nat.zero_le _) ⟨rfl,⟨rfl,rfl,rfl,rfl,rfl,rfl,trivial⟩,⟨?_,aU,trivial⟩,λ_ _ h=>h⟩ ?_
 ·have:aN (j5 cnt (gF n cnt 0 T a.xs))=List.replicate cnt [Value.int .i64 0]:=by simp[aN,j5,gF]
  show(1,bZ.rows (aN (j5 cnt (gF n cnt 0 T a.xs))) 1 3)∈_
  rw[this]
  exact aU
 rintro o ho
 have hlen:(gF n cnt o T a.xs).length=o:=by simp[gF]
 by_cases hlt:o<cnt
 ·have y_:gF n cnt (o+1) T a.xs=gF n cnt o T a.xs++[(T o).foldl (CV a.xs) (dI n cnt o)]:=by unfold gF;rw[List.range_succ,List.map_append];rfl
  have hbd:=Ew hn o
  have htb:=hT.bd o hlt
  have htf:=hT.few o hlt
  have Iw:=hat o hlt
  have hC:∀{R:Nat->Prop} {w':World},(aO w).holds R w'->Calls Tryz.prog F #[P0,.int .i64 o] w' (pu w' (T o)):=λh=>hT.calls _ _ h o hlt
  repeat' ((conv=>whnf)<;>first|refine WU ?_|refine VM ?_|(show aI _ 108 ..;refine aQ (f:=108) Tryz.call108 (.int .i64 (dI n cnt o)) (λρ w' hw=>Sz w' n (ae hw λR h=>hn.aM.later h) hk ve (.func (.func F) #[P0] #[]) cnt o oz hlt hn.three (λh4=>⟨(hn.four h4).1,(hn.four h4).2.1,(hn.four h4).2.2 o hlt⟩)) ?_)|((show aI _ F _ _ _ _ _);refine KR (T o) hT.enter (λρ w' hw=>ae hw λR h=>hC h) ?_)|refine aX ?_|refine ag ?_ ?_<;>intro _)
  refine Wp.loop (σ:=Nat×Int) 3 (λ⟨j,cur⟩=>[(1,.c a.val),(2,.c b.val),(3,.lp 0 0 0 0),(7,.os 1 cnt),(8,ax o),(15,ax cnt),(16,ax o),(31,.os 2 (T o).length),(32,ax (T o).length),(33,ax j)]) (λ⟨j,cur⟩=>[(2,.rows (d_ (T o)) 2 152),(1,.rows (aN (j5 cnt (gF n cnt o T a.xs++[cur]))) 1 3),(0,.box [ax n.ak,ax n.a,ax n.b,.c n.ay.val,ax n.lo,ax n.hi,ax n.size,.c n.data.val,.c n.aM.val,.c ve,.fn (.func F) [.c P0] [],ax (cnt:Int)] 104)]) (λ_=>aO w)
   (λ⟨j,cur⟩=>j<=(T o).length/\cur=((T o).take j).foldl (CV a.xs) (dI n cnt o)) (λs=>(T o).length-s.1) (0,dI n cnt o) [] aY (λs=>⟨rfl,rfl⟩) ⟨Nat.zero_le _,rfl⟩ ⟨rfl,⟨rfl,rfl,rfl,rfl,rfl,rfl,rfl,rfl,rfl,rfl,trivial⟩,bM,λ_ _ h=>h⟩ ?_
  rintro⟨j,cur⟩ ⟨hj,FU⟩
  by_cases hjl:j<(T o).length
  ·have s1:=EQ (f:=CV a.xs) (s:=dI n cnt o) hjl
   have hrow:=yK hjl
   have hwb:=htb _ (List.getElem_mem hjl)
   have hwa:=Iw _ (List.getElem_mem hjl)
   have g:=P5 hab (l:=(T o).take j) (s:=dI n cnt o) (λx hx=>htb x (List.mem_of_mem_take hx))
   rw[<-FU,List.length_take,Nat.min_eq_left hj]at g
   rw[<-FU]at s1
   generalize (T o)[j]=s at*
   have q1:=gH (A:=1048576) (B:=1048576) hwb (dO hab s.2.toNat)
   unfold cK at hbd
   obtain⟨ua,jD⟩:=ha.base aa
   have hur:∀(R:Nat->Prop) w',(aO w).holds R w'->bu w' (some ua) 1 (aN a.xs):=λR w' h=>by rw[<-jD];exact aA h ha.rows
   repeat' ((conv=>whnf)<;>first|(show di ..;(first|refine bg j rfl hjl acy ?_|refine bg o rfl hlt (by rw[aJ,uq acf];exact Nat.le_refl _) ?_))|refine YN ?_|(show mq ..;refine row_of _ _ (VR hlen hlt) rfl ?_)|(show bV ..;refine ai0 jD aa aa ?_)|(show fT ..;refine bY hur (j:=s.2.toNat) aa ?_)|(show cO ..;refine aaA hlen hlt ?_)|(show b_ _ 10 ..;refine lu [14] _ aia ?_)|refine aX ?_|refine ag ?_ ?_<;>intro _)
   all_goals(conv=>whnf)
   all_goals exact⟨(j+1,_),[],⟨hjl,by rw[s1,CV]⟩,by simp only;omega,rfl,⟨rfl,rfl,rfl,rfl,rfl,rfl,rfl,rfl,rfl,rfl,trivial⟩,bM,λ_ _ h=>h⟩
  ·obtain rfl:j=(T o).length:=by omega
   rw[List.take_of_length_le (Nat.le_refl _)]at FU
   repeat' ((conv=>whnf)<;>first|refine aX ?_|refine ag ?_ ?_<;>intro _)
   conv=>whnf
   exact⟨o+1,[],hlt,by omega,rfl,bM,⟨by
    show(1,bZ.rows (aN (j5 cnt (gF n cnt (o+1) T a.xs))) 1 3)∈_
    rw[y_,<-FU];exact aU,aU,trivial⟩,λ_ _ h=>h⟩
 ·obtain rfl:o=cnt:=by omega
  have hgr:j5 o (gF n o o T a.xs)=gF n o o T a.xs:=by unfold j5;rw[hlen,Nat.sub_self];simp
  repeat' ((conv=>whnf)<;>first|refine aX ?_|refine ag ?_ ?_<;>intro _)
  conv=>whnf
  refine OI hgr (λ_ _ h=>h) rfl aU (by rw[hlen]) (λx hx=> ?_) (by rw[hlen];omega)
  obtain⟨q,hq,rfl⟩:=List.mem_map.1 hx
  rw[List.mem_range]at hq
  have g:=P5 hab (l:=T q) (s:=dI n o q) (hT.bd q hq)
  have gf:=hT.few q hq
  have gb:=Ew hn q
  unfold cK at gb
  unfold i64
  omega
theorem iM{a b c:Int}(h:0<az [a,b,c]):az [a,b,c]=a*b*c:=by
 unfold az at h|-
 rw[if_neg fP]at h|-
 simp only[fF]at h|-
 split at h
 ·simp at h
 ·rename_i h1
  split at h
  ·simp at h
  ·rename_i h2
   split at h
   ·simp at h
   ·rename_i h3
    rw[if_neg h1,if_neg h2,if_neg h3]
    grind
theorem JC{a b c e:Int}(h:0<iV [a,b,c,e]):iV [a,b,c,e]=a*b*c*e:=by
 unfold iV at h|-
 rw[if_pos fP]at h|-
 simp only[nU]at h|-
 split at h
 ·simp at h
 ·rename_i h1
  split at h
  ·simp at h
  ·rename_i h2
   split at h
   ·simp at h
   ·rename_i h3
    split at h
    ·simp at h
    ·rename_i h4
     rw[if_neg h1,if_neg h2,if_neg h3,if_neg h4]
     grind
theorem Q5{o k h w:Int}(ho:o<k*h*w)(hw:0<w)(hh:0<h):o/w/h<k:=
 Int.ediv_lt_of_lt_mul hh (Int.ediv_lt_of_lt_mul hw ho)
theorem ahi{d:List Int}{k1 k2 k3 i1 i2 o:Int}{i:Nat}(h1:1<=k1)(h2:1<=k2/\k2<=i1)(h3:1<=k3/\k3<=i2)(ho:0<=o)(hi:(i:Int)<k1*k2*k3):0<=(gQ d k1 k2 k3 i1 i2 o i).2/\(gQ d k1 k2 k3 i1 i2 o i).2<k1*i1*i2:=by
 have hW:0<i2-k3+1:=by omega
 have hH:0<i1-k2+1:=by omega
 obtain⟨d1,d2,d3,d4⟩:=jG ho hW
 obtain⟨d5,d6,d7,d8⟩:=jG d1 hH
 obtain⟨c1,c2,c3,c4⟩:=jG (x:=(i:Int)) (y:=k3) aa aa
 obtain⟨c5,c6,c7,c8⟩:=jG (x:=(i:Int)/k3) (y:=k2) c1 aa
 have hc:=Q5 (o:=(i:Int)) (k:=k1) (h:=k2) (w:=k3) hi aa aa
 show 0<=((i:Int)/k3/k2*i1+o/(i2-k3+1)%(i1-k2+1)+(i:Int)/k3%k2)*i2+o%(i2-k3+1)+(i:Int)%k3/\((i:Int)/k3/k2*i1+o/(i2-k3+1)%(i1-k2+1)+(i:Int)/k3%k2)*i2+o%(i2-k3+1)+(i:Int)%k3<k1*i1*i2
 generalize (i:Int)/k3/k2=C at*
 generalize o/(i2-k3+1)%(i1-k2+1)=Y at*
 generalize (i:Int)/k3%k2=DY at*
 generalize o%(i2-k3+1)=X at*
 generalize (i:Int)%k3=DX at*
 have e1:C*i1<=(k1-1)*i1:=Int.mul_le_mul_of_nonneg_right aa aa
 rw[Int.sub_mul,Int.one_mul]at e1
 have e0:0<=C*i1:=Int.mul_nonneg c5 aa
 have e2:(C*i1+Y+DY)*i2<=(k1*i1-1)*i2:=Int.mul_le_mul_of_nonneg_right aa aa
 rw[Int.sub_mul,Int.one_mul]at e2
 have e3:0<=(C*i1+Y+DY)*i2:=Int.mul_nonneg aa aa
 omega
theorem agL{z i0 i1 i2 o:Int}{i:Nat}(hz:1<=z)(h1:z<=i1)(h2:z<=i2)(m1:i1%z=0)(m2:i2%z=0)(ho:0<=o/\o<i0*(i1/z)*(i2/z))(hi:(i:Int)<z*z):0<=(iH z i1 i2 o i).2/\(iH z i1 i2 o i).2<i0*i1*i2:=by
 have hW:=oF (x:=i2) (y:=z) aa h2
 have hH:=oF (x:=i1) (y:=z) aa h1
 have q1:=Int.mul_ediv_add_emod i1 z
 have q2:=Int.mul_ediv_add_emod i2 z
 obtain⟨d1,d2,d3,d4⟩:=jG (x:=o) (y:=i2/z) ho.1 aa
 obtain⟨d5,d6,d7,d8⟩:=jG (x:=o/(i2/z)) (y:=i1/z) d1 aa
 obtain⟨c1,c2,c3,c4⟩:=jG (x:=(i:Int)) (y:=z) aa aa
 have hdy:(i:Int)/z<z:=Int.ediv_lt_of_lt_mul aa hi
 have hc:=Q5 (o:=o) (k:=i0) (h:=i1/z) (w:=i2/z) ho.2 aa aa
 show 0<=(o/(i2/z)/(i1/z)*i1+o/(i2/z)%(i1/z)*z+(i:Int)/z)*i2+o%(i2/z)*z+(i:Int)%z/\(o/(i2/z)/(i1/z)*i1+o/(i2/z)%(i1/z)*z+(i:Int)/z)*i2+o%(i2/z)*z+(i:Int)%z<i0*i1*i2
 generalize o/(i2/z)/(i1/z)=C at*
 generalize o/(i2/z)%(i1/z)=Y at*
 generalize o%(i2/z)=X at*
 generalize (i:Int)/z=DY at*
 generalize (i:Int)%z=DX at*
 have y1:Y*z<=(i1/z-1)*z:=Int.mul_le_mul_of_nonneg_right aa aa
 have x1:X*z<=(i2/z-1)*z:=Int.mul_le_mul_of_nonneg_right aa aa
 have y2:(i1/z-1)*z=z*(i1/z)-z:=by rw[Int.sub_mul,Int.one_mul,Int.mul_comm]
 have x2:(i2/z-1)*z=z*(i2/z)-z:=by rw[Int.sub_mul,Int.one_mul,Int.mul_comm]
 have y0:0<=Y*z:=Int.mul_nonneg d7 aa
 have x0:0<=X*z:=Int.mul_nonneg d3 aa
 have y1':Y*z<=i1-z:=by omega
 have x1':X*z<=i2-z:=by omega
 have e1:C*i1<=(i0-1)*i1:=Int.mul_le_mul_of_nonneg_right aa aa
 rw[Int.sub_mul,Int.one_mul]at e1
 have e0:0<=C*i1:=Int.mul_nonneg d5 aa
 have e2:(C*i1+Y*z+DY)*i2<=(i0*i1-1)*i2:=Int.mul_le_mul_of_nonneg_right aa aa
 rw[Int.sub_mul,Int.one_mul]at e2
 have e3:0<=(C*i1+Y*z+DY)*i2:=Int.mul_nonneg aa aa
 omega
def bS(n:ai)(tl:List Int)(o:Nat):List Sp:=
 if n.ak=3 then tJ n o (az tl).toNat
 else if n.ak=4 then pz n.data.xs (n.ay.xs.getD 1 0) (n.ay.xs.getD 2 0) (n.ay.xs.getD 3 0) (tl.getD 1 0) (tl.getD 2 0) o
 else pW n.size (tl.getD 1 0) (tl.getD 2 0) o
theorem af1{n:ai}{at_:Nat}(h:cZ n at_=true)(hk:n.ak=4):(n.data.xs.length:Int)=iV n.ay.xs/\(n.aM.xs.length:Int)=n.ay.xs.getD 0 0:=by
 unfold cZ at h
 repeat(first|rw[if_pos aa]at h|rw[if_neg aa]at h)
 simp only[Bool.and_eq_true,decide_eq_true_eq]at h
 exact⟨h.1.2,h.2⟩
theorem adB{l:List Int}(h:l.length=4):l=[l.getD 0 0,l.getD 1 0,l.getD 2 0,l.getD 3 0]:=by
 match l,h with
 |[a,b,c,d],_=>rfl
structure ahV(n:ai)(t:au)(cnt:Nat)(F:FuncId)(P0:Value):Prop where
 fn:sZ n t.val cnt= .func (.func F) #[P0] #[]
 terms:∀w,t.ok w->n.ok w->Qx w F P0 cnt (bS n t.xs)
 lin:∀w,n.ok w->ZG w n cnt
 at_:∀o,o<cnt->∀s∈bS n t.xs o,0<=s.2/\s.2<az t.xs
theorem aj1{n:ai}{sh:List (List Int)}{s:List Int}{t:au}{cnt:Nat}(hn:ja n sh s)(hk:n.ak=3\/n.ak=4\/n.ak=5)(ht:sh.getD n.a.toNat []=t.xs)(hg:0<az t.xs)(hgs:∀q∈sh,0<az q)(hc:az s=cnt):∃F P0,ahV n t cnt F P0:=by
 have hsh:=hn.ay
 have hfo:=dM hn.form
 have h4:=af1 hn.form
 obtain⟨nd,nb,_,_,_⟩:=r9 hn.near
 have heb:=(dQ t.xs).2
 have hcb:cnt<=64:=by have:=(dQ s).2;omega
 have hsp:=(dQ s).1
 rcases hk with hk|hk|hk
 ·unfold bR at hsh
  rw[if_neg aa,if_pos hk,ht]at hsh
  by_cases hdl:(n.data.xs.length:Int)=n.aM.xs.length*az t.xs
  ·rw[if_pos hdl,Option.some.injEq]at hsh
   obtain⟨b1,b2⟩:=hfo.aM hk
   have he1:az [(n.aM.xs.length:Int)]=n.aM.xs.length:=by
    unfold az
    rw[if_neg fP]
    simp only[fF]
    rw[if_neg aa]
    omega
   rw[<-hsh,he1]at hc
   have hbl:n.aM.xs.length=cnt:=by omega
   obtain⟨size,hsz⟩:∃size:Nat,az t.xs=size:=⟨(az t.xs).toNat,by omega⟩
   have RD:n.data.xs.length=n.aM.xs.length*size:=by
    rw[hsz,<-Int.natCast_mul]at hdl
    exact Int.ofNat.inj hdl
   have hG:∀o,bS n t.xs o=tJ n o size:=λo=>by unfold bS;rw[if_pos hk,hsz];rfl
   refine⟨_,_,if_pos hk,λw hto hno=>⟨Tryz.call104,λR w' hb o ho=> ?_,λo ho=> ?_,λo ho x hx=> ?_⟩,λw hno=>⟨.inl hk,hno.aM,nb,hcb,λ_=>hbl,λh=>by omega⟩,λo ho x hx=> ?_⟩
   ·rw[hG]
    exact Z4 w' n (hno.data.later hb) ⟨b1,b2⟩ (.slice none 0 0) .nilFunc cnt o size aa RD aa
   ·rw[hG];simp[tJ];omega
   ·rw[hG]at hx
    obtain⟨i,_,rfl⟩:=List.mem_map.1 hx
    exact dO nd _
   ·rw[hG]at hx
    obtain⟨i,hi,rfl⟩:=List.mem_map.1 hx
    rw[List.mem_range]at hi
    simp only
    omega
  ·rw[if_neg hdl]at hsh;cases hsh
 ·obtain⟨g1,g2⟩:=h4 hk
  have D6:=hfo.X3 hk
  obtain⟨hl4,UW⟩:=pG D6
  have hsx:=adB hl4
  unfold bR at hsh
  rw[if_neg aa,if_neg aa,if_pos hk,ht]at hsh
  have hG:∀o,bS n t.xs o=pz n.data.xs (n.ay.xs.getD 1 0) (n.ay.xs.getD 2 0) (n.ay.xs.getD 3 0) (t.xs.getD 1 0) (t.xs.getD 2 0) o:=λo=>by unfold bS;rw[if_neg aa,if_pos hk]
  have dm:∀k,k<4->1<=n.ay.xs.getD k 0/\n.ay.xs.getD k 0<=64:=λk hk=>UW _ (dz aa)
  have dm0:=dm 0 aY
  have dm1:=dm 1 aY
  have dm2:=dm 2 aY
  have dm3:=dm 3 aY
  rw[hsx]at g1 D6
  have hke:=JC D6
  rw[hke]at g1
  generalize n.ay.xs.getD 0 0=k0 at*
  generalize n.ay.xs.getD 1 0=k1 at*
  generalize n.ay.xs.getD 2 0=k2 at*
  generalize n.ay.xs.getD 3 0=k3 at*
  by_cases hbad:t.xs.length≠3\/t.xs.getD 0 0≠k1\/t.xs.getD 1 0<k2\/t.xs.getD 2 0<k3
  ·rw[if_pos hbad]at hsh;cases hsh
  rw[if_neg hbad]at hsh
  have hl3:t.xs.length=3:=by omega
  have htx:=Xi hl3
  have KM:=(gM hg).2.2
  have td1:=KM _ (dz (xs:=t.xs) (k:=1) aa)
  have td2:=KM _ (dz (xs:=t.xs) (k:=2) aa)
  have te:az t.xs=k1*t.xs.getD 1 0*t.xs.getD 2 0:=by
   have h0:t.xs.getD 0 0=k1:=by omega
   have:=iM (a:=t.xs.getD 0 0) (b:=t.xs.getD 1 0) (c:=t.xs.getD 2 0) ach
   rw[<-htx,h0]at this
   exact this
  generalize hi0:t.xs.getD 0 0=i0 at*
  generalize t.xs.getD 1 0=i1 at*
  generalize t.xs.getD 2 0=i2 at*
  by_cases hpos:0<az [k0,i1-k2+1,i2-k3+1]
  ·rw[if_pos hpos,Option.some.injEq]at hsh
   have hcv:=iM hpos
   rw[hsh,hc]at hcv
   have hQ:k1*k2*k3<=k1*i1*i2:=by
    have q1:k1*k2<=k1*i1:=Int.mul_le_mul_of_nonneg_left aa aa
    have q0:0<k1*k2:=Int.mul_pos aa aa
    exact Int.mul_le_mul q1 aa aa aa
   have hQ0:0<k1*k2*k3:=Int.mul_pos (Int.mul_pos aa aa) aa
   have hob:∀o:Nat,o<cnt->(o:Int)<k0*(i1-k2+1)*(i2-k3+1):=λo ho=>by rw[<-hcv];omega
   refine⟨_,_,by unfold sZ;rw[if_neg aa,if_pos hk],λw hto hno=>⟨Tryz.call105,λR w' hb o ho=> ?_,λo ho=> ?_,λo ho x hx=> ?_⟩,λw hno=>⟨.inr (.inl hk),hno.aM,nb,hcb,λh=>by omega,λ_=> ?_⟩,λo ho x hx=> ?_⟩
   ·rw[hG]
    exact adQ w' n t (hno.data.later hb) (hno.ay.later hb) (hto.later hb) .nilFunc cnt k0 k1 k2 k3 i1 i2 o ⟨hsx,⟨i0,htx⟩,dm1,by omega,by omega,by omega,by omega,g1,by omega,by omega,Q5 (hob o ho) aa aa⟩
   ·rw[hG];simp only[pz,List.length_map,List.length_range];omega
   ·rw[hG]at hx
    obtain⟨i,_,rfl⟩:=List.mem_map.1 hx
    exact dO nd _
   ·have hw1:0<(i1-k2+1)*(i2-k3+1):=Int.mul_pos aa aa
    obtain⟨A,hA⟩:∃A:Nat,(i1-k2+1)*(i2-k3+1)=A:=⟨((i1-k2+1)*(i2-k3+1)).toNat,by omega⟩
    obtain⟨B,hB⟩:∃B:Nat,k0=B:=⟨k0.toNat,by omega⟩
    have hcA:cnt=B*A:=by
     have:(cnt:Int)=B*A:=by rw[hcv,Int.mul_assoc,hA,hB]
     exact_mod_cast this
    have hbB:n.aM.xs.length=B:=by omega
    have hA1:1<=A:=by omega
    have hB1:1<=B:=by omega
    rw[hbB,hcA]
    refine⟨hB1,Nat.le_mul_of_pos_right B hA1,λo ho=> ?_⟩
    rw[Nat.mul_div_cancel_left A hB1]
    exact(Nat.div_lt_iff_lt_mul hA1).2 ho
   ·rw[hG]at hx
    obtain⟨i,hi,rfl⟩:=List.mem_map.1 hx
    rw[List.mem_range]at hi
    rw[te]
    exact ahi aa aa aa aa aa
  ·rw[if_neg hpos]at hsh;cases hsh
 ·have hz:=hfo.pool hk
  unfold bR at hsh
  rw[if_neg aa,if_neg aa,if_neg aa,if_pos hk,ht]at hsh
  have hG:∀o,bS n t.xs o=pW n.size (t.xs.getD 1 0) (t.xs.getD 2 0) o:=λo=>by unfold bS;rw[if_neg aa,if_neg aa]
  by_cases hbad:t.xs.length≠3\/t.xs.getD 1 0%n.size≠0\/t.xs.getD 2 0%n.size≠0
  ·rw[if_pos hbad]at hsh;cases hsh
  rw[if_neg hbad,Option.some.injEq]at hsh
  have hl3:t.xs.length=3:=by omega
  have htx:=Xi hl3
  have KM:=(gM hg).2.2
  have td0:=KM _ (dz (xs:=t.xs) (k:=0) aa)
  have td1:=KM _ (dz (xs:=t.xs) (k:=1) aa)
  have td2:=KM _ (dz (xs:=t.xs) (k:=2) aa)
  have te:az t.xs=t.xs.getD 0 0*t.xs.getD 1 0*t.xs.getD 2 0:=by
   have:=iM (a:=t.xs.getD 0 0) (b:=t.xs.getD 1 0) (c:=t.xs.getD 2 0) ach
   rw[<-htx]at this
   exact this
  generalize t.xs.getD 0 0=i0 at*
  generalize t.xs.getD 1 0=i1 at*
  generalize t.xs.getD 2 0=i2 at*
  have m1:i1%n.size=0:=by omega
  have m2:i2%n.size=0:=by omega
  have z1:n.size<=i1:=by
   rcases(by omega:i1<n.size\/n.size<=i1)with hlt|hge
   ·rw[Int.emod_eq_of_lt aa hlt]at m1;omega
   ·exact hge
  have z2:n.size<=i2:=by
   rcases(by omega:i2<n.size\/n.size<=i2)with hlt|hge
   ·rw[Int.emod_eq_of_lt aa hlt]at m2;omega
   ·exact hge
  have hpos:0<az [i0,i1/n.size,i2/n.size]:=by
   have:=jF hfo hgs hn.ay rfl
   rw[hsh];exact this
  have hcv:=iM hpos
  rw[hsh,hc]at hcv
  have hQ:n.size*n.size<=i1*i2:=Int.mul_le_mul z1 z2 aa aa
  have hQ2:i1*i2<=i0*i1*i2:=by
   have:1*(i1*i2)<=i0*(i1*i2):=Int.mul_le_mul_of_nonneg_right aa (Int.mul_nonneg aa aa)
   rw[Int.mul_assoc];omega
  have hob:∀o:Nat,o<cnt->(o:Int)<i0*(i1/n.size)*(i2/n.size):=λo ho=>by rw[<-hcv];omega
  refine⟨_,_,by unfold sZ;rw[if_neg aa,if_neg aa],λw hto hno=>⟨Tryz.call106,λR w' hb o ho=> ?_,λo ho=> ?_,λo ho x hx=> ?_⟩,λw hno=>⟨.inr (.inr hk),hno.aM,nb,hcb,λh=>by omega,λh=>by omega⟩,λo ho x hx=> ?_⟩
  ·rw[hG]
   exact ac3 w' n t (hto.later hb) .nilFunc cnt i1 i2 o ⟨⟨i0,htx⟩,by omega,z2,by omega,by omega,by omega⟩
  ·rw[hG];simp only[pW,List.length_map,List.length_range];omega
  ·rw[hG]at hx
   obtain⟨i,_,rfl⟩:=List.mem_map.1 hx
   exact⟨(show(-1048576:Int)<=1 by decide),(show(1:Int)<=1048576 by decide)⟩
  ·rw[hG]at hx
   obtain⟨i,hi,rfl⟩:=List.mem_map.1 hx
   rw[List.mem_range]at hi
   rw[te]
   have hzz:=Int.mul_pos (show 0<n.size by omega) (show 0<n.size by omega)
   exact agL aa z1 z2 m1 m2 ⟨by omega,hob o ho⟩ aa
end Go.Proofs.YtgndjjdeopfdkaaGreat

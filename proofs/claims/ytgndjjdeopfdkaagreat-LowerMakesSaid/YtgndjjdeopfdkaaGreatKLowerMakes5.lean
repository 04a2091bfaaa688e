import Derived.Test.YtgndjjdeopfdkaaGreatRows
import Derived.Test.YtgndjjdeopfdkaaGreatKLowerMakes4
/- texts GO IV of the proof of LowerMakesSaid -/
set_option maxHeartbeats 16000000
set_option maxRecDepth 20000
namespace Go.Proofs.YtgndjjdeopfdkaaGreat
abbrev alu:Go.SX.DT:=(eF [0,1,2,3,4,5,6,7,8,9,10,11,12,13,14,15,16,17,18,19,20,21,122,23] .done)
abbrev alv:Go.SX.DT:=(eF [0,1,2,3,4,5,6,7,8,9,10,11,12,13,14,115,16] .done)
open Go.SX Go.RowKit
def oK(w:World)(n:ai)(l:List aj)(r:Option (List Int))(e:Ending)(w':World):Prop:=
 ∃v:Value,e= .returned v/\Ext w w'/\(r=none->v= .slice none 0 0)/\
  ∀xs,r=some xs->∃u:aj,v=u.val/\u.xs=xs/\(u=n.shape\/u∈l\/(u.a_/\(bn u).holds (λb=>w.heap.size<=b/\b<w'.heap.size) w'))
section
variable {B:Base} {H:Heap} {S:bJ} {nx:Nat} {w:World} {n:ai} {l:List aj} {r:Option (List Int)}
theorem AP(u:aj)(hb:∀R w',S.holds R w'->(aH B.w0).holds R w')(hw0:B.w0=w)(hu:u=n.shape\/u∈l)(hr:r=some u.xs):jE B (.c u.val) H S nx (oK w n l r):=by
 subst hw0 hr
 exact dz λρ w' hw=>⟨_,rfl,aV hw hb,(λh=>by cases h),λxs h=>⟨u,rfl,by simpa using h,hu.elim .inl λh=> .inr (.inl h)⟩⟩
theorem SB(hb:∀R w',S.holds R w'->(aH B.w0).holds R w')(hw0:B.w0=w)(hr:r=none):jE B (.c (.slice none 0 0)) H S nx (oK w n l r):=by
 subst hw0 hr
 exact dz λρ w' hw=>⟨_,rfl,aV hw hb,λ_=>rfl,λxs h=>by cases h⟩
theorem EW{i m:Nat}{xs:List Int}(hb:∀R w',S.holds R w'->(aH B.w0).holds R w')(hw0:B.w0=w)(he:(i,bU.rows (ints xs) 1 3)∈H)(hm:m=xs.length)(hf:∀x∈xs,-9223372036854775808<=x/\x<=9223372036854775807)(hl:xs.length<=1000000)(hr:r=some xs):
 jE B (.os i m) H S nx (oK w n l r):=by
 subst hw0 hr hm
 refine dz λρ w' hw=> ?_
 have hn:=dF hw hb he
 rw[aF]at hn
 obtain⟨u,h1,h2,h3,h4⟩:=tX hn hf hl
 exact⟨_,rfl,aV hw hb,(λh=>by cases h),λys h=>⟨u,h1,by rw[h2];simpa using h,.inr (.inr ⟨h3,h4⟩)⟩⟩
end
theorem sU(w:World)(s:aj)(h:s.ok w):Calls Tryz.prog 42 #[s.val] w λe w'=>e= .returned (.int .i64 (entries s.xs))/\Ext w w':=gT w s.base s.cap s.xs h.rows
theorem adj{n:ai}(h:n.kind=1\/n.kind=2):∃r,qj n.kind=some (false::r)/\(false::r).length=7:=by
 rcases h with h|h<;>rw[h]<;>unfold qj<;>exact⟨_,rfl,rfl⟩
theorem V8{n:ai}{at_:Nat}(hf:zN n at_)(h:¬(n.kind=1\/n.kind=2)):∃r,qj n.kind=some (true::r)/\(true::r).length=7:=by
 have h2:=hf.kind
 have:n.kind=3\/n.kind=4\/n.kind=5\/n.kind=6\/n.kind=7\/n.kind=8\/n.kind=9:=by omega
 rcases this with h|h|h|h|h|h|h<;>rw[h]<;>unfold qj<;>exact⟨_,rfl,rfl⟩
theorem P7(w:World)(n:ai)(hn:n.ok w)(sv:aY)(h12:n.kind=1\/n.kind=2):
 Calls Tryz.prog 80 #[.agg n.cells.toArray,sv.val] w (oK w n sv.l (bM n (sv.l.map (·.xs)))):=by
 have hsp:bM n (sv.l.map (·.xs))=some n.shape.xs:=by unfold bM;rw[if_pos h12]
 obtain⟨r,hm,hr⟩:=adj h12
 refine fq Tryz.func80 [.agg (jM n),.c sv.val] ?_
 (repeat' ((conv=>whnf)<;>first|(show aC _ 133 ..;refine jD (f:=133) (false::r) 7 hr Tryz.call133 (λρ w' hw=>rM w' n.kind _ hm) (λm am hml jq hmn=> ?_))|(show bC ..;refine ax am 0 jq rfl aa ?_)|(show fu ..;(refine bu (j:=0) (λR w' h=>aA hml jq h.2) (by rw[hr];decide) ?_))|refine aZ ?_|refine ag ?_ ?_<;>intro _))
 all_goals(conv=>whnf)
 all_goals exact AP (B:=⟨w,[]⟩) (S:=(aH w).and ((fM m).past w.heap.size)) n.shape (λ_ _ h=>h.1) rfl (.inl rfl) hsp
theorem Kc(w:World)(n:ai)(hn:n.ok w)(sv:aY)(hs:sv.ok w)(hf:zN n sv.l.length)(hg:∀s∈sv.l,0<entries s.xs)(h12:¬(n.kind=1\/n.kind=2)):
 Calls Tryz.prog 80 #[.agg n.cells.toArray,sv.val] w (oK w n sv.l (bM n (sv.l.map (·.xs)))):=by
 obtain⟨r,hm,hr⟩:=V8 hf h12
 obtain⟨ha0,ha1⟩:=hf.a aa aa
 obtain⟨i,hia⟩:=Int.eq_ofNat_of_zero_le ha0
 have hil:i<sv.l.length:=by omega
 obtain⟨s,hi⟩:∃s,sv.l[i]? =some s:=⟨_,List.getElem?_eq_getElem hil⟩
 have hA:(sv.l.map (·.xs)).getD n.a.toNat []=s.xs:=by rw[hia];simp[List.getD,hi]
 have hg:=hg s (List.mem_of_getElem? hi)
 have hso:=hs.each s (List.mem_of_getElem? hi)
 have hri:(aM sv.l)[i]? =some [s.val]:=by rw[dh hil,(List.getElem?_eq_some_iff.1 hi).2]
 obtain⟨b,hb⟩:∃a,sv.base=some a:=aI (j:=i) hs.rows acN
 obtain⟨hl1,hl3,hd⟩:=gJ hg
 obtain⟨a,hsb⟩:=hso.base aa
 have hd0:0<s.xs.length->1<=s.xs.getD 0 0/\s.xs.getD 0 0<=64:=λh=>hd _ (df h)
 have hd1:1<s.xs.length->1<=s.xs.getD 1 0/\s.xs.getD 1 0<=64:=λh=>hd _ (df h)
 have hd2:2<s.xs.length->1<=s.xs.getD 2 0/\s.xs.getD 2 0<=64:=λh=>hd _ (df h)
 have hz:=hf.pool
 have hq1:n.kind=5->1<s.xs.length->0<=s.xs.getD 1 0/n.size/\s.xs.getD 1 0/n.size<=64:=λg h=>by have:=hz g;exact⟨Int.ediv_nonneg aa aa,Int.le_trans (Int.ediv_le_self _ aa) aa⟩
 have hq2:n.kind=5->2<s.xs.length->0<=s.xs.getD 2 0/n.size/\s.xs.getD 2 0/n.size<=64:=λg h=>by have:=hz g;exact⟨Int.ediv_nonneg aa aa,Int.le_trans (Int.ediv_le_self _ aa) aa⟩
 have hbi:=hf.aG
 have hmu:n.kind=3->0<=(n.aG.xs.length:Int)*entries s.xs/\(n.aG.xs.length:Int)*entries s.xs<=4096:=λg=>by
  have h1:=dL s.xs
  have h2:(n.aG.xs.length:Int)*entries s.xs<=64*64:=Int.mul_le_mul (by have:=hbi g;omega) h1.2 h1.1 aa
  have h3:0<=(n.aG.xs.length:Int)*entries s.xs:=Int.mul_nonneg aa h1.1
  omega
 have hkd:n.kind=4->n.shape.xs.length=4/\(1<=n.shape.xs.getD 0 0/\n.shape.xs.getD 0 0<=64)/\(1<=n.shape.xs.getD 1 0/\n.shape.xs.getD 1 0<=64)/\(1<=n.shape.xs.getD 2 0/\n.shape.xs.getD 2 0<=64)/\(1<=n.shape.xs.getD 3 0/\n.shape.xs.getD 3 0<=64):=λg=>by
  obtain⟨hk4,hkd⟩:=pq (hf.V6 g)
  exact⟨hk4,hkd _ (df aa),hkd _ (df aa),hkd _ (df aa),hkd _ (df aa)⟩
 obtain⟨c,hc⟩:=lm hn.shape
 have hE:=dL [n.shape.xs.getD 0 0,s.xs.getD 1 0-n.shape.xs.getD 2 0+1,s.xs.getD 2 0-n.shape.xs.getD 3 0+1]
 by_cases h6:n.kind=6
 ·obtain⟨hb0,hb1⟩:=hf.b h6
  obtain⟨j,hjb⟩:=Int.eq_ofNat_of_zero_le hb0
  have hjl:j<sv.l.length:=by omega
  obtain⟨t,hj⟩:∃t,sv.l[j]? =some t:=⟨_,List.getElem?_eq_getElem hjl⟩
  have hB:(sv.l.map (·.xs)).getD n.b.toNat []=t.xs:=by rw[hjb];simp[List.getD,hj]
  have hto:=hs.each t (List.mem_of_getElem? hj)
  have hrj:(aM sv.l)[j]? =some [t.val]:=by rw[dh hjl,(List.getElem?_eq_some_iff.1 hj).2]
  have hsp:bM n (sv.l.map (·.xs))=if s.xs=t.xs then some s.xs else none:=by
   unfold bM;simp only[hA,hB];repeat(first|rw[if_pos aa]|rw[if_neg aa])
  refine fq Tryz.func80 [.agg (jM n),.c sv.val] ?_
  (repeat' ((conv=>whnf)<;>first|(refine akC ?_;intro m am hml jq hmn)|(show bC ..;(first|refine ax am 0 jq rfl aa ?_|refine ax b i hb hia hil ?_|refine ax b j hb hjb hjl ?_))|(show fu ..;(first|refine bu (j:=0) (λR w' h=>aA hml jq h.2) (by rw[hr];decide) ?_|refine aW (λR w' h=>by rw[<-hb];exact au h.1 hs.rows) _ _ hri rfl ?_|refine aW (λR w' h=>by rw[<-hb];exact au h.1 hs.rows) _ _ hrj rfl ?_))|(show aC _ 20 ..;((refine fE (f:=20) Tryz.call20 _ (λρ w' hw=>qg w' s t (ae hw λR h=>hso.later h.1) (ae hw λR h=>hto.later h.1)) ?_ ?_<;>intro he)))|refine aZ ?_|refine ag ?_ ?_<;>intro _))
  all_goals(conv=>whnf)
  ·exact AP (B:=⟨w,[]⟩) (S:=(aH w).and ((fM m).past w.heap.size)) s (λ_ _ h=>h.1) rfl (.inr (List.mem_of_getElem? hi)) (hsp.trans (if_pos (of_decide_eq_true he)))
  ·exact SB (B:=⟨w,[]⟩) (S:=(aH w).and ((fM m).past w.heap.size)) (λ_ _ h=>h.1) rfl (hsp.trans (if_neg (of_decide_eq_false he)))
 ·refine fq Tryz.func80 [.agg (jM n),.c sv.val] ?_
  (repeat' ((conv=>whnf)<;>first|(refine akC ?_;intro m am hml jq hmn)|(show bC ..;(first|refine ax am 0 jq rfl aa ?_|refine ax b i hb hia hil ?_))|(show fu ..;(first|refine bu (j:=0) (λR w' h=>aA hml jq h.2) (by rw[hr];decide) ?_|refine aW (λR w' h=>by rw[<-hb];exact au h.1 hs.rows) _ _ hri rfl ?_))|(show bC ..;refine ax _ 0 hsb rfl aa ?_)|(show fu ..;refine bO (λR w' h=>hso.at_ hsb R w' h.1) (j:=0) aa ?_)|(show bC ..;refine ax _ 1 hsb rfl aa ?_)|(show fu ..;refine bO (λR w' h=>hso.at_ hsb R w' h.1) (j:=1) aa ?_)|(show bC ..;refine ax _ 2 hsb rfl aa ?_)|(show fu ..;refine bO (λR w' h=>hso.at_ hsb R w' h.1) (j:=2) aa ?_)|(show bC ..;refine ax _ 0 (hc aa) rfl aa ?_)|(show fu ..;refine bO (λR w' h=>hn.shape.at_ (hc aa) R w' h.1) (j:=0) aa ?_)|(show bC ..;refine ax _ 1 (hc aa) rfl aa ?_)|(show fu ..;refine bO (λR w' h=>hn.shape.at_ (hc aa) R w' h.1) (j:=1) aa ?_)|(show bC ..;refine ax _ 2 (hc aa) rfl aa ?_)|(show fu ..;refine bO (λR w' h=>hn.shape.at_ (hc aa) R w' h.1) (j:=2) aa ?_)|(show bC ..;refine ax _ 3 (hc aa) rfl aa ?_)|(show fu ..;refine bO (λR w' h=>hn.shape.at_ (hc aa) R w' h.1) (j:=3) aa ?_)|(show ku _ 42 ..;refine iL (f:=42) Tryz.call42 _ (λρ w' hw=>sU w' s (ae hw λR h=>hso.later h.1)) ?_)|(show aC _ 42 [.c s.val] ..;refine aJ (f:=42) Tryz.call42 _ (λρ w' hw=>sU w' s (ae hw λR h=>hso.later h.1)) ?_)|(show aC _ 42 [.c n.shape.val] ..;refine aJ (f:=42) Tryz.call42 _ (λρ w' hw=>sU w' n.shape (ae hw λR h=>hn.shape.later h.1)) ?_)|(show aC _ 42 [.os 1 3] ..;refine aJ (f:=42) Tryz.call42 _ (λρ w' hw=>gT w' (ρ 1).base (ρ 1).cap [n.shape.xs.getD 0 0,s.xs.getD 1 0-n.shape.xs.getD 2 0+1,s.xs.getD 2 0-n.shape.xs.getD 3 0+1] (ed hw List.mem_cons_self)) ?_)|(show ww ..;refine rO aa aa ?_)|(show qQ ..;refine div_pos rfl aa aa aa ?_)|(show cO _ 15 ..;refine mE [] _ alu ?_)|(show cO _ 22 ..;refine mE [] _ alv ?_)|refine aZ ?_|refine ag ?_ ?_<;>intro _))
  all_goals(conv=>whnf)
  all_goals first
   |exact SB (B:=⟨w,[]⟩) (S:=(aH w).and ((fM m).past w.heap.size)) (λ_ _ h=>h.1) rfl ZL
   |exact AP (B:=⟨w,[]⟩) (S:=(aH w).and ((fM m).past w.heap.size)) s (λ_ _ h=>h.1) rfl (.inr (List.mem_of_getElem? hi)) ZL
   |exact AP (B:=⟨w,[]⟩) (S:=(aH w).and ((fM m).past w.heap.size)) n.shape (λ_ _ h=>h.1) rfl (.inl rfl) ZL
   |exact EW (B:=⟨w,[]⟩) (S:=(aH w).and ((fM m).past w.heap.size)) (xs:=[(n.aG.xs.length:Int)]) (λ_ _ h=>h.1) rfl List.mem_cons_self rfl ahv fC ZL
   |exact EW (B:=⟨w,[]⟩) (S:=(aH w).and ((fM m).past w.heap.size)) (xs:=[s.xs.getD 0 0,s.xs.getD 1 0/n.size,s.xs.getD 2 0/n.size]) (λ_ _ h=>h.1) rfl List.mem_cons_self rfl (mem3 aa aa aa) fC ZL
   |exact EW (B:=⟨w,[]⟩) (S:=(aH w).and ((fM m).past w.heap.size)) (xs:=[n.shape.xs.getD 0 0,s.xs.getD 1 0-n.shape.xs.getD 2 0+1,s.xs.getD 2 0-n.shape.xs.getD 3 0+1]) (λ_ _ h=>h.1) rfl List.mem_cons_self rfl (mem3 aa aa aa) fC ZL
theorem P8(w:World)(n:ai)(hn:n.ok w)(sv:aY)(hs:sv.ok w)(hf:zN n sv.l.length)(hg:∀s∈sv.l,0<entries s.xs):
 Calls Tryz.prog 80 #[.agg n.cells.toArray,sv.val] w (oK w n sv.l (bM n (sv.l.map (·.xs)))):=by
 by_cases h12:n.kind=1\/n.kind=2
 ·exact P7 w n hn sv h12
 ·exact Kc w n hn sv hs hf hg h12
section
variable {H:Heap} {S:bJ} {nx i:Nat} {T:TypeId}
theorem SC{cx:Cx}{f:FuncId}{args:List SV}{K:SV->Heap->bJ->Nat->Prop}{n:ai}{l:List aj}(R0:Option (List Int))(hf:∀ar w,(callFunc f ar).run cx.P w= .ok (.enter f ar) w)
 (hn:∀R w',S.holds R w'->n.shape.ok w') (hl:∀u∈l,∀R w',S.holds R w'->u.ok w') (hpos:∀xs,R0=some xs->0<xs.length)
 (hc:∀ρ w',dY cx.B ρ nx H S w'->Calls cx.P f (SV.d_ ρ args).toArray w' (oK w' n l R0))
 (h0:R0=none->K (.c (.slice none 0 0)) H S nx)
 (h1:∀(a:Addr) (cap:Nat) (xs:List Int) (S':bJ),R0=some xs->(∀R w',S'.holds R w'->S.holds R w'/\(⟨some a,cap,xs⟩:aj).ok w')->(⟨some a,cap,xs⟩:aj).a_->K (.c (.slice (some a) xs.length cap)) H S' nx):aC cx f args H S nx K:=by
 rw[gI]
 refine⟨hf,λρ w hw=>(hc ρ w hw).mono ?_⟩
 rintro e w' ⟨v,rfl,he,hnone,hv⟩
 have hw':=hw.ext he
 cases hr:R0 with
 |none=>
  rw[hnone hr]
  exact⟨.c (.slice none 0 0),ρ,H,S,nx,rfl,λ_ _=>rfl,Nat.le_refl _,SV.ji _,hw',h0 hr⟩
 |some xs=>
  obtain⟨u,rfl,hu,hcase⟩:=hv xs hr
  obtain⟨ub,uc,us⟩:=u
  simp only at hu
  subst hu
  have old:∀(hok:∀R w',S.holds R w'->(⟨ub,uc,us⟩:aj).ok w'),∃v' ρ' H' S' nx',Ending.returned (aj.val ⟨ub,uc,us⟩)= .returned (v'.rf ρ')/\(∀i,i<nx->ρ' i=ρ i)/\nx<=nx'/\v'.lt nx'/\dY cx.B ρ' nx' H' S' w'/\K v' H' S' nx':=λhok=>by
   have h:=ae hw' λR h=>hok R w' h
   obtain⟨a,ha⟩:=h.base (hpos us hr)
   simp only at ha
   subst ha
   exact⟨.c (.slice (some a) us.length uc),ρ,H,S,nx,rfl,λ_ _=>rfl,Nat.le_refl _,SV.ji _,hw',h1 a uc us S hr (λR w'' g=>⟨g,hok R w'' g⟩) h.a_⟩
  rcases hcase with hcase|hcase|⟨uW,hnew⟩
  ·exact old (λR w' h=>hcase▸hn R w' h)
  ·exact old (hl _ hcase)
  ·have hg:=hw.grow (D:=bn ⟨ub,uc,us⟩) he hnew
   have h:(⟨ub,uc,us⟩:aj).ok w':=bP uW hnew
   obtain⟨a,ha⟩:=h.base (hpos us hr)
   simp only at ha
   subst ha
   exact⟨.c (.slice (some a) us.length uc),ρ,H,_,nx,rfl,λ_ _=>rfl,Nat.le_refl _,SV.ji _,hg,h1 a uc us _ hr (λR w'' g=>⟨g.1,bP uW ((bn _).mono g.2 (λb hb=>hb.1))⟩) uW⟩
theorem adk{B:Base}{ρ:Nat->SX.Loc}{w:World}{m:Nat}{R:List (List Value)}{xs:List Int}(hw:dY B ρ nx H S w)(he:(i,bU.rows R 1 T)∈H)(hR:R=ints xs)(hm:m=xs.length)(hf:∀x∈xs,i64 x)(hl:xs.length<=1000000):
 Calls Tryz.prog 81 (SV.d_ ρ [.os i m]).toArray w λe w'=>e= .returned (.bool (qa xs))/\Ext w w':=by
 obtain⟨v,e1,rfl,hv⟩:=J8 hw he hR hm hf hl
 rw[e1];exact zM w v hv
theorem V9(us:List aj)(l:SX.Loc)(xs:List Int):(i,bU.rows (aM (us++[aj.mk l.base l.cap xs])) 1 T)∈(i,bU.rows (List.take us.length (aM us)++[[.slice l.base (0+(ints xs).length) l.cap]]) 1 T)::H:=by
 have e:Value.slice l.base (0+(ints xs).length) l.cap=aj.val ⟨l.base,l.cap,xs⟩:=by rw[aF,Nat.zero_add];rfl
 rw[e]
 exact w_ us _
theorem nJ(w:World)(g:bE)(hg:g.ok w):Calls Tryz.prog 34 #[g.val] w (qZ w (check g)):=by
 by_cases hc:g.l.length<1\/24<g.l.length\/g.out<0\/(g.l.length:Int)<=g.out
 ·have hs:check g=(3,[]):=by unfold check;rw[if_pos hc]
  rw[hs]
  refine fq Tryz.func34 [.agg [.c (.slice g.base g.l.length g.cap),ak g.out]] ?_
  (repeat' ((conv=>whnf)<;>first|refine aN ?_|refine ag ?_ ?_<;>intro _))
  all_goals exact mg (λ_ _ h=>h) rfl rfl aS
 ·have hs:check g=eG g.l []:=by unfold check;rw[if_neg hc]
  rw[hs]
  obtain⟨a,ha⟩:∃a,g.base=some a:=aI (j:=0) hg.rows Db
  refine fq Tryz.func34 [.agg [.c (.slice g.base g.l.length g.cap),ak g.out]] ?_
  (repeat' ((conv=>whnf)<;>first|refine aN ?_|refine ag ?_ ?_<;>intro _))
  refine Wp.loop (σ:=Nat×List aj) 2 (λ⟨k,us⟩=>[(32,.c (.slice g.base g.l.length g.cap)),(33,ak g.l.length),(34,ak k),(4,.os 1 k)]) (λ⟨_,us⟩=>[(1,.rows (aM us) 1 32)]) (λ⟨_,us⟩=>(aH w).and (lS w.heap.size us))
   (λ⟨k,us⟩=>k<=g.l.length/\us.length=k/\(∀u∈us,u.a_/\0<entries u.xs)/\eG g.l []=eG (g.l.drop k) (us.map (·.xs))) (λs=>g.l.length-s.1) (0,[]) [(1,none)] aS (λs=>⟨rfl,rfl⟩) ⟨by simp,rfl,by simp,rfl⟩ ⟨rfl,aU,⟨rfl,trivial⟩,λR w' h=>⟨h,wZ _ _ _⟩⟩ ?_
  rintro⟨k,us⟩ ⟨hk,yf,fP,he⟩
  by_cases hlt:k<g.l.length
  ·rw[drop_at hlt]at he
   have hn:=hg.each _ (List.getElem_mem hlt)
   have hsm:=hg.small _ (List.getElem_mem hlt)
   generalize hnk:g.l[k]=n at*
   have hrow:(bq g.l)[k]? =some n.cells:=by rw[bQ hlt,hnk]
   subst yf
   have hgs:∀s∈us.map (·.xs),0<entries s:=λs hs=>by obtain⟨u,hu,rfl⟩:=List.mem_map.1 hs;exact(fP u hu).2
   have hlm:(us.map (·.xs)).length=us.length:=List.length_map _
   have fL:∀x∈[n.lo,n.hi],i64 x:=by intro x hx;simp at hx;rcases hx with rfl|rfl;exact hn.kE;exact hn.kF
   (repeat' ((conv=>whnf)<;>first|(show bC ..;refine ax a us.length ha rfl hlt ?_)|(show iM ..;(refine dO (λR w' h=>by rw[<-ha];exact au h.1 hg.rows) _ hrow rfl ?_))|(show aC _ 79 ..;((refine fE (f:=79) Tryz.call79 _ (λρ w' hw=>SA w' n (ae hw λR h=>hn.later h.1) us.length) ?_ ?_<;>intro hform)))|(show aC _ 80 ..;(refine SC (f:=80) (n:=n) (l:=us) (bM n (us.map λx:aj=>x.xs)) Tryz.call80 (λR w' h=>hn.shape.later h.1) (λu hu R w' h=>bP (fP u hu).1 ((bn u).mono (h.2 u hu) (λb hb=>hb.1))) (λxs hr=>(gJ (jF (n:=n) (sh:=us.map λx:aj=>x.xs) ahU hgs hr rfl)).1) (λρ w' hw=>P8 w' n (ae hw λR h=>hn.later h.1) ⟨(ρ 1).base,(ρ 1).cap,us⟩ (Ka hw (List.mem_cons_of_mem _ List.mem_cons_self) (λR w' h=>h.2) fP aa) (dH hform) (λs hs=>(fP s hs).2)) (λhr=> ?_) (λua uc xs S' hr hS' uW=> ?_)))|(show aC _ 81 [.c n.data.val] ..;((refine fE (f:=81) Tryz.call81 _ (λρ w' hw=>zM w' n.data (ae hw λR h=>hn.data.later (hS' _ _ h).1.1)) ?_ ?_<;>intro hnd)))|(show aC _ 81 [.c n.aG.val] ..;((refine fE (f:=81) Tryz.call81 _ (λρ w' hw=>zM w' n.aG (ae hw λR h=>hn.aG.later (hS' _ _ h).1.1)) ?_ ?_<;>intro hnb)))|(show aC _ 81 ..;((refine fE (f:=81) Tryz.call81 _ (λρ w' hw=>adk hw List.mem_cons_self (xs:=[n.lo,n.hi]) rfl rfl fL fC) ?_ ?_<;>intro hnl)))|(show l_ ..;(first|refine BK (ti 32 rfl) rfl ?_|refine tL (ti 32 rfl) rfl rfl ?_))|(show tV ..;refine mD (aF xs) (λR w' h=>(hS' R w' h).2.rows) kN ?_)|(show jd _ ((_,bU.rows (_++ints _) _ _)::_) _ _ _;refine kU w.heap.size (λR w' h b hb=>((hS' R w' h).1.1 b hb).1) (λl hl=> ?_))|(show sH ..;(refine fO (by first|exact Nat.zero_le _|(rw[aR];exact Nat.le_refl _)) ?_))|(show fG ..;(refine b_ (by first|(show(us.length+1)*24<=140737488355328;omega)|(show(0+(ints xs).length)*8<=140737488355328;rw[aF];have:=uW.few;simp only at this;omega)) ?_))|refine aN ?_|refine ag ?_ ?_<;>intro _))
   all_goals(conv=>whnf)
   ·exact mg (B:=⟨w,[]⟩) (λ_ _ h=>h.1) rfl (he.trans (qh Ew hr)) aS
   ·exact mg (B:=⟨w,[]⟩) (λR w' h=>(hS' R w' h).1.1) rfl (he.trans (kP Ew hr (by unfold gW;rw[hnd,hnb,hnl,decide_eq_false aa];rfl))) aS
   ·exact⟨(us.length+1,us++[aj.mk l.base l.cap xs]),[(1,some 7)],⟨hlt,by simp,EU fP ⟨uW.fits,by simpa[aF]using hl,uW.few⟩ (jF acL hgs hr rfl),he.trans ((iA Ew hr (by unfold gW;rw[hnd,hnb,hnl,decide_eq_true aa];rfl)).trans (by rw[List.map_append];rfl))⟩,by simp only;omega,rfl,aU,⟨V9 us l xs,trivial⟩,λR w' h=>⟨(hS' R w' h.1).1.1,kW (hS' R w' h.1).1.2 h.2⟩⟩
   ·exact mg (B:=⟨w,[]⟩) (λR w' h=>(hS' R w' h).1.1) rfl (he.trans (kP Ew hr (by unfold gW;rw[hnl];simp))) aS
   ·exact mg (B:=⟨w,[]⟩) (λR w' h=>(hS' R w' h).1.1) rfl (he.trans (kP Ew hr (by unfold gW;rw[hnb];simp))) aS
   ·exact mg (B:=⟨w,[]⟩) (λR w' h=>(hS' R w' h).1.1) rfl (he.trans (kP Ew hr (by unfold gW;rw[hnd];simp))) aS
   ·exact mg (B:=⟨w,[]⟩) (λ_ _ h=>h.1) rfl (he.trans (r_ Ew)) aS
  ·rw[List.drop_of_length_le aa]at he
   subst yf
   (repeat' ((conv=>whnf)<;>first|refine aN ?_|refine ag ?_ ?_<;>intro _))
   conv=>whnf
   exact NY (B:=⟨w,[]⟩) (λ_ _ h=>h.1) (λ_ _ h=>h.2) (λu hu=>(fP u hu).1) rfl List.mem_cons_self rfl he
end
section
variable {w w':World} {R:Nat->Prop} {v:aj} {g:bE} {cx:Cx} {f:FuncId} {args:List SV} {H:Heap} {S:bJ} {nx:Nat} {K:SV->Heap->bJ->Nat->Prop}
structure aj.raw(w:World)(v:aj):Prop where
 rows:bf w v.base 1 (ints v.xs)
 fits:∀x∈v.xs,-9223372036854775808<=x/\x<=9223372036854775807
 room:v.xs.length<=v.cap
structure ai.raw(w:World)(n:ai):Prop where
 shape:n.shape.raw w
 data:n.data.raw w
 aG:n.aG.raw w
 jJ:i64 n.kind
 p9:i64 n.a
 nQ:i64 n.b
 kE:i64 n.lo
 kF:i64 n.hi
 jK:i64 n.size
structure bE.raw(w:World)(g:bE):Prop where
 rows:bf w g.base 9 (bq g.l)
 each:∀n∈g.l,n.raw w
 H7:i64 g.out
theorem aj.raw.later(h:v.raw w)(hb:(aH w).holds R w'):v.raw w':=⟨au hb h.rows,h.fits,h.room⟩
theorem ai.raw.later{n:ai}(h:n.raw w)(hb:(aH w).holds R w'):n.raw w':=
 ⟨h.shape.later hb,h.data.later hb,h.aG.later hb,h.jJ,h.p9,h.nQ,h.kE,h.kF,h.jK⟩
theorem bE.raw.later(h:g.raw w)(hb:(aH w).holds R w'):g.raw w':=⟨au hb h.rows,λn hn=>(h.each n hn).later hb,h.H7⟩
def V_(n:ai):Bool:=decide (n.data.xs.length<=5000/\n.aG.xs.length<=200/\n.shape.xs.length<=20)
def SE(g:bE):Bool:=decide (g.l.length<=40)&&g.l.all V_
theorem aj.raw.ok(h:v.raw w)(hf:v.xs.length<=1000000):v.ok w:=⟨h.rows,h.fits,h.room,hf⟩
theorem ajA(h:g.raw w)(hf:SE g=true):g.ok w:=by
 unfold SE at hf
 simp only[Bool.and_eq_true,decide_eq_true_eq,List.all_eq_true]at hf
 have hn:∀n∈g.l,n.data.xs.length<=5000/\n.aG.xs.length<=200/\n.shape.xs.length<=20:=λn hn=>by simpa[V_]using hf.2 n hn
 exact⟨h.rows,λn hm=>by
  have h1:=h.each n hm
  have h2:=hn n hm
  exact⟨h1.shape.ok aa,h1.data.ok aa,h1.aG.ok aa,h1.jJ,h1.p9,h1.nQ,h1.kE,h1.kF,h1.jK⟩,λn hm=>by have:=hn n hm;exact⟨by omega,by omega⟩,by omega,h.H7⟩
theorem Yg(w:World)(g:bE)(hg:g.raw w):Calls Tryz.prog 8 #[g.val] w λe w'=>e= .returned (.bool (SE g))/\Ext w w':=by
 by_cases hc:g.l.length<=40
 ·have hs:SE g=g.l.all V_:=by unfold SE;rw[decide_eq_true hc,Bool.true_and]
  rw[hs]
  refine fq Tryz.func8 [.agg [.c (.slice g.base g.l.length g.cap),ak g.out]] ?_
  (repeat' ((conv=>whnf)<;>first|refine aN ?_|refine ag ?_ ?_<;>intro _))
  refine Wp.loop (σ:=Nat) 1 (λk=>[(10,.c (.slice g.base g.l.length g.cap)),(11,ak g.l.length),(12,ak k)]) (λ_=>[]) (λ_=>aH w)
   (λk=>k<=g.l.length/\g.l.all V_=(g.l.drop k).all V_) (λk=>g.l.length-k) 0 [] aS (λs=>⟨rfl,rfl⟩) ⟨by simp,rfl⟩ ⟨rfl,aU,trivial,λR w' h=>h⟩ ?_
  rintro k ⟨hk,he⟩
  by_cases hlt:k<g.l.length
  ·obtain⟨a,ha⟩:∃a,g.base=some a:=aI (j:=k) hg.rows Db
   rw[drop_at hlt,List.all_cons]at he
   generalize hnk:g.l[k]=n at*
   have hrow:(bq g.l)[k]? =some n.cells:=by rw[bQ hlt,hnk]
   (repeat' ((conv=>whnf)<;>first|(show bC ..;refine ax a k ha rfl hlt ?_)|(show iM ..;(refine dO (λR w' h=>by rw[<-ha];exact au h hg.rows) _ hrow rfl ?_))|refine aN ?_|refine ag ?_ ?_<;>intro _))
   all_goals first
    |exact aX (λ_ _ h=>h) rfl (by rw[he,show V_ n=false from decide_eq_false aa,Bool.false_and])
    |exact⟨k+1,[],⟨hlt,by rw[he,show V_ n=true from decide_eq_true aa,Bool.true_and]⟩,by omega,rfl,aU,trivial,λR w' h=>h⟩
  ·rw[List.drop_of_length_le aa]at he
   (repeat' ((conv=>whnf)<;>first|refine aN ?_|refine ag ?_ ?_<;>intro _))
   exact aX (λ_ _ h=>h) rfl (by rw[he];rfl)
 ·have hs:SE g=false:=by unfold SE;rw[decide_eq_false hc,Bool.false_and]
  rw[hs]
  refine fq Tryz.func8 [.agg [.c (.slice g.base g.l.length g.cap),ak g.out]] ?_
  (repeat' ((conv=>whnf)<;>first|refine aN ?_|refine ag ?_ ?_<;>intro _))
  exact aX (λ_ _ h=>h) rfl rfl
theorem vU(r:Int×List (List Int))(hf:∀ar w,(callFunc f ar).run cx.P w= .ok (.enter f ar) w)
 (hc:∀ρ w',dY cx.B ρ nx H S w'->Calls cx.P f (SV.d_ ρ args).toArray w' (qZ w' r))
 (h0:r.1≠0->K (.c (.tuple #[.slice none 0 0,.int .i64 r.1])) H S nx)
 (h1:r.1=0->∀sv:aY,sv.l.map (·.xs)=r.2->(∀u∈sv.l,u.a_)->sv.l.length<=sv.cap->K (.c (.tuple #[sv.val,.int .i64 0])) H (S.and ((jy sv).past cx.B.w0.heap.size)) nx):aC cx f args H S nx K:=by
 rw[gI]
 refine⟨hf,λρ w hw=>(hc ρ w hw).mono ?_⟩
 rintro e w' ⟨v,rfl,he,hbad,hgood⟩
 by_cases hr:r.1=0
 ·obtain⟨sv,rfl,hm,hs,hd,hcap⟩:=hgood hr
  rw[hr]
  exact⟨.c (.tuple #[sv.val,.int .i64 0]),ρ,H,_,nx,rfl,λ_ _=>rfl,Nat.le_refl _,SV.ji _,hw.grow he hd,h1 hr sv hm hs hcap⟩
 ·rw[hbad hr]
  exact⟨.c (.tuple #[.slice none 0 0,.int .i64 r.1]),ρ,H,S,nx,rfl,λ_ _=>rfl,Nat.le_refl _,SV.ji _,hw.ext he,h0 hr⟩
theorem oL(r:Int×List (List Int))(hf:∀ar w,(callFunc f ar).run cx.P w= .ok (.enter f ar) w)
 (hc:∀ρ w',dY cx.B ρ nx H S w'->Calls cx.P f (SV.d_ ρ args).toArray w' (qZ w' r))
 (h0:r.1≠0->K (.c (.tuple #[.slice none 0 0,.int .i64 r.1])) H S nx)
 (h1:r.1=0->∀sv:aY,sv.l.map (·.xs)=r.2->(∀u∈sv.l,u.a_)->K (.c (.tuple #[sv.val,.int .i64 0])) H (S.and ((jy sv).past cx.B.w0.heap.size)) nx):aC cx f args H S nx K:=
 vU r hf hc h0 (λe sv hm hs _=>h1 e sv hm hs)
end
structure P9 where
 base:Option Addr
 cap:Nat
 bs:List Nat
def P9.val(v:P9):Value:= .slice v.base v.bs.length v.cap
def ajB(l:List Nat):List (List Value):=l.map λ(x:Nat)=>[Value.int .u8 (x:Int)]
def dW:bJ:=⟨λ_ _=>True,λ_ _ h=>h⟩
theorem NZ(xs:List Int)(x:Int){i:Nat}{T:TypeId}{H:Heap}:(i,bU.rows (ints (xs++[x])) 1 T)∈(i,bU.rows (List.take xs.length (ints xs)++[[.int .i64 x]]) 1 T)::H:=by
 rw[show ints (xs++[x])=List.take xs.length (ints xs)++[[.int .i64 x]] by rw[List.take_of_length_le zf];simp[ints]]
 exact List.mem_cons_self
def ai.jS(n:ai):Value:= .agg n.cells.toArray
def fI:aj:=⟨none,0,[]⟩
theorem Wd(R:Nat->Prop)(w:World):(bn fI).holds R w:=⟨λr hr=>by simp[fI,ints]at hr,.inl rfl⟩
structure Made(n:ai):Prop where
 shape:n.shape.a_
 data:n.data.a_
 aG:n.aG.a_
 alx:n.shape.xs.length<=4
 amT:n.data.xs.length<=1000
 amU:n.aG.xs.length<=200
 jJ:i64 n.kind
 p9:i64 n.a
 nQ:i64 n.b
 kE:i64 n.lo
 kF:i64 n.hi
 jK:i64 n.size
theorem aae:fI.a_:=⟨by simp[fI],Nat.le_refl _,by simp[fI]⟩
structure age(s:List Int):Prop where
 pos:0<entries s
 few:entries s<=18
 three:s.length=3->s.getD 0 0<=2/\s.getD 1 0*s.getD 2 0<=9
theorem z0:i64 0:=⟨by decide,by decide⟩
theorem z1:i64 1:=⟨by decide,by decide⟩
structure aP where
 kind:Int
 a:Int
 b:Int
 shape:List Int
 lo:Int
 hi:Int
 size:Int
 data:List Int
 aG:List Int
def ai.pl(n:ai):aP:=⟨n.kind,n.a,n.b,n.shape.xs,n.lo,n.hi,n.size,n.data.xs,n.aG.xs⟩
def aP.jg(n:aP):ai:=⟨n.kind,n.a,n.b,⟨none,0,n.shape⟩,n.lo,n.hi,n.size,⟨none,0,n.data⟩,⟨none,0,n.aG⟩⟩
theorem EX:∀{l m:List ai} (sh:List (List Int)),l.map ai.pl=m.map ai.pl->eG l sh=eG m sh
 |[],[],_,_=>rfl
 |[],_::_,_,h=>by simp at h
 |_::_,[],_,h=>by simp at h
 |x::l,y::m,sh,h=>by
  simp only[List.map_cons,List.cons.injEq]at h
  have h1:bY x sh.length=bY y sh.length:=by
   have:∀z:ai,bY z sh.length=bY z.pl.jg sh.length:=λz=>by unfold bY jT;rfl
   rw[this x,this y,h.1]
  have h2:bM x sh=bM y sh:=by
   have:∀z:ai,bM z sh=bM z.pl.jg sh:=λz=>rfl
   rw[this x,this y,h.1]
  have h3:gW x=gW y:=by
   have:∀z:ai,gW z=gW z.pl.jg:=λz=>by unfold gW;rfl
   rw[this x,this y,h.1]
  simp only[eG]
  rw[h1,h2,h3]
  split
  ·rfl
  ·cases bM y sh with
   |none=>rfl
   |some s=>
    simp only
    split
    ·rfl
    ·exact EX _ h.2
theorem SF{g h:bE}(hl:g.l.map ai.pl=h.l.map ai.pl)(ho:g.out=h.out):check g=check h:=by
 unfold check
 have e:g.l.length=h.l.length:=by simpa using congrArg List.length hl
 rw[e,ho,EX [] hl]
structure bE.fit(w:World)(g:bE):Prop where
 rows:bf w g.base 9 (bq g.l)
 each:∀n∈g.l,n.ok w
 few:g.l.length<=1000000
theorem bE.fit.later{w w':World}{R:Nat->Prop}{g:bE}(h:g.fit w)(hb:(aH w).holds R w'):g.fit w':=⟨au hb h.rows,λn hn=>(h.each n hn).later hb,h.few⟩
theorem ol:i64 0:=⟨by decide,by decide⟩
theorem SG:i64 1:=⟨by decide,by decide⟩
theorem EY(w:World):(⟨none,0,[]⟩:aj).ok w:=⟨.inl rfl,by simp,Nat.le_refl _,by simp⟩
open Go.ChangeShapes Go.WideShapes Go.ChangeAt
theorem own:ownKnob Tryz.prog.godebug=none:=by kernel_rfl
theorem wf_i64'{x:Int}(h:(Lit.int .i64 x).wf=true): -9223372036854775808<=x/\x<=9223372036854775807:=by
 simp[Lit.wf,IntKind.min,IntKind.max,IntKind.signed,IntKind.bits]at h
 omega
theorem adl{w:World}{v:Value}{base:Option Addr}{cap:Nat}{xs:List Int}(h:aib w v base cap xs):∃u:aj,v=u.val/\u.raw w:=by
 obtain⟨rfl,h1,h2,h3,h4,h5⟩:=h
 exact⟨⟨base,cap,xs⟩,rfl,h1,λx hx=>wf_i64' (h2 x hx),h3⟩
theorem SH(w:World):kw Tryz.prog w 32 λcs=>∃u:aj,cs=[u.val]/\u.raw w:=by
 refine kw.mono (V4 (e:=3) Tryz.underlying32 Tryz.underlying3 jf) ?_
 rintro cs ⟨v,base,cap,xs,rfl,h⟩
 obtain⟨u,rfl,hu⟩:=adl h
 exact⟨u,rfl,hu⟩
abbrev YH:Go.SX.DT:=(eF [0,1,2,3,4] (.alt 5 (eF [6,107,108] .done) (eF [107,105,6,108] .done)))
def jX(n:ai)(uX wM:Value)(c:Int):Value:= .agg #[.int .i64 n.kind,.int .i64 n.a,.int .i64 n.b,n.shape.val,.int .i64 n.lo,.int .i64 n.hi,.int .i64 n.size,n.data.val,n.aG.val,uX,wM,.int .i64 c]
theorem adm(w:World)(n:ai)(sv:aY)(hs:sv.ok w)(i:Nat)(s:aj)(hi:sv.l[i]? =some s)(hk:n.kind≠3/\n.kind≠4/\n.kind≠5):Calls Tryz.prog 50 #[n.jS,sv.val,.int .i64 i] w λe w'=>e= .returned (jX n (.slice none 0 0) .nilFunc (entries s.xs))/\Ext w w':=by
 obtain⟨hlt,hsi⟩:=List.getElem?_eq_some_iff.1 hi
 have nX:=hs.few
 obtain⟨a,ha⟩:∃a,sv.base=some a:=aI (j:=i) hs.rows RN
 have hrow:=dh hlt
 rw[hsi]at hrow
 have hss:=hs.each s (hsi▸List.getElem_mem hlt)
 refine fq Tryz.func50 [.agg (jM n),.c sv.val,ak i] ?_
 (repeat' ((conv=>whnf)<;>first|(show bC ..;refine ax a i ha rfl hlt ?_)|(show fu ..;(refine aW (λR w' h=>by rw[<-ha];exact au h hs.rows) _ _ hrow rfl ?_))|(show aC _ 61 ..;refine aJ (f:=61) Tryz.call61 _ (λρ w' hw=>pV w' s (ae hw λR h=>hss.later h)) ?_)|(show cO _ 1 ..;refine mE [8] _ YH ?_)|refine aN ?_|refine ag ?_ ?_<;>intro _|refine And.intro ?_ ?_))
 all_goals(conv=>whnf)
 all_goals exact bW (λ_ _ h=>h) (λ_=>rfl) rfl
theorem gz{x y A B:Int}(hx: -A<=x/\x<=A)(hy: -B<=y/\y<=B): -(A*B)<=x*y/\x*y<=A*B:=by
 have hA:(0:Int)<=A:=by omega
 have hB:(0:Int)<=B:=by omega
 have h1:x.natAbs<=A.natAbs:=by omega
 have h2:y.natAbs<=B.natAbs:=by omega
 have h3:=Nat.mul_le_mul h1 h2
 rw[<-Int.natAbs_mul,<-Int.natAbs_mul]at h3
 have h4:0<=A*B:=Int.mul_nonneg hA hB
 omega
theorem YI{x y:Int}{K:Int->Prop}(hy:y≠0)(hx: -4611686018427387904<=x/\x<=4611686018427387904)(h:K (x.tdiv y)):qQ .i64 x y K:=by
 rw[Jf]
 refine⟨hy,?_⟩
 have h1:(x.tdiv y).natAbs<=x.natAbs:=by rw[Int.natAbs_tdiv];exact Nat.div_le_self _ _
 have h2:iw .i64 (x.tdiv y) K:=wrap_i64 aa aa h
 rw[o_]at h2
 exact h2
def bX(x:Int):Prop:= -1048576<=x/\x<=1048576
def eX(d:List Int)(v:Int):Int:=d.getD 2 0*v*v+d.getD 1 0*v+d.getD 0 0
theorem P_{a b c v:Int}(ha:bX a)(hb:bX b)(hc:bX c)(hv:bX v):(-1099511627776<=a*v/\a*v<=1099511627776)/\(-1152921504606846976<=a*v*v/\a*v*v<=1152921504606846976)/\(-1099511627776<=b*v/\b*v<=1099511627776):=by
 have h1:=gz (A:=1048576) (B:=1048576) ha hv
 have h2: -1099511627776<=a*v/\a*v<=1099511627776:=h1
 exact⟨h2,gz (A:=1099511627776) (B:=1048576) h2 hv,gz (A:=1048576) (B:=1048576) hb hv⟩
theorem dJ{l:List Int}(h:∀x∈l,bX x)(k:Nat):bX (l.getD k 0):=by
 rcases Nat.lt_or_ge k l.length with hk|hk
 ·exact h _ (df hk)
 ·rw[List.getD_eq_getElem?_getD,List.getElem?_eq_none hk];exact⟨by decide,by decide⟩
theorem uE(w:World)(n:ai)(hd:n.data.ok w)(h3:n.data.xs.length=3)(hb:∀x∈n.data.xs,bX x)(uX wM:Value)(c v:Int)(hv:bX v):Calls Tryz.prog 107 #[jX n uX wM c,.int .i64 v] w λe w'=>e= .returned (.int .i64 (eX n.data.xs v))/\Ext w w':=by
 obtain⟨ua,jr⟩:=hd.base aa
 have hur:∀(R:Nat->Prop) w',(aH w).holds R w'->bf w' (some ua) 1 (ints n.data.xs):=λR w' h=>by rw[<-jr];exact au h hd.rows
 have p0:=dJ hb 0
 have p1:=dJ hb 1
 have p2:=dJ hb 2
 obtain⟨q1,q2,q3⟩:=P_ p2 p1 p0 hv
 unfold bX at p0 p1 p2
 unfold eX
 refine fq Tryz.func107 [.agg [ak n.kind,ak n.a,ak n.b,.c n.shape.val,ak n.lo,ak n.hi,ak n.size,.c n.data.val,.c n.aG.val,.c uX,.c wM,ak c],ak v] ?_
 (repeat' ((conv=>whnf)<;>first|(show bC ..;refine ax _ 0 jr rfl aa ?_)|(show fu ..;refine bO hur (j:=0) aa ?_)|(show bC ..;refine ax _ 1 jr rfl aa ?_)|(show fu ..;refine bO hur (j:=1) aa ?_)|(show bC ..;refine ax _ 2 jr rfl aa ?_)|(show fu ..;refine bO hur (j:=2) aa ?_)|refine aZ ?_))
 conv=>whnf
 exact bW (λ_ _ h=>h) (λ_=>rfl) rfl
abbrev aid:Go.SX.DT:=(eF [0,1,2,3,4,5,6,7,8,9,10,11,12,13,14,15,116,17] .done)
abbrev aie:Go.SX.DT:=(eF [0,1,2,4,5,6,103,107,108,9] .done)
section
variable {i nx:Nat} {H:Heap} {B:Base} {S:bJ} {w:World} {l:List Int}
theorem We(xs:List Int)(x:Int){n:Nat}{T:TypeId}(hn:n=xs.length):(i,bU.rows (ints (xs++[x])) 1 T)∈(i,bU.rows (List.take n (ints xs)++[[.int .i64 x]]) 1 T)::H:=by
 subst hn;exact NZ xs x
abbrev Sp:=Int×Int
def jv(s:Sp):Value:= .agg #[.int .i64 s.1,.int .i64 s.2]
def Hg:Nat->Int->List Int
 |0,_=>[]
 |n+1,v=>v::Hg n (v+1)
def iP(d:List Int):Int:=(0-d.getD 1 0).tdiv (2*d.getD 2 0)
def Wh(d:List Int)(a:Sp):Int:=max a.1 (iP d-1)
def hiI(d:List Int)(a:Sp):Int:=min a.2 (iP d+1)
def eH(n:ai)(a b:Sp):List Int:=
 if n.kind=1 then [n.lo,n.hi]
 else if n.kind=2 then n.data.xs
 else if n.kind=6 then [a.1+b.1,a.2+b.2]
 else if n.kind=7 then [n.data.xs.getD 0 0*a.1,n.data.xs.getD 0 0*a.2]
 else if n.kind=8 then(if n.data.xs.getD 2 0=0 then [eX n.data.xs a.1,eX n.data.xs a.2]else [eX n.data.xs a.1,eX n.data.xs a.2]++(Hg (hiI n.data.xs a-Wh n.data.xs a+1).toNat (Wh n.data.xs a)).map (eX n.data.xs))
 else [a.1,a.2]
def aaf(x:aj×Bool):bJ where
 holds R w:=x.2=false->(bn x.1).holds R w
 stable:=λhR hw h e=>(bn x.1).stable hR hw (h e)
def qp(w:World)(n:ai)(l:List Int)(e:Ending)(w':World):Prop:=
 ∃x:aj×Bool,(x.1.xs=l/\x.1.a_/\(x.2=true->x.1=n.data))/\e= .returned x.1.val/\Ext w w'/\(aaf x).holds (λb=>w.heap.size<=b/\b<w'.heap.size) w'
theorem N7{n:ai}(hb:∀R w',S.holds R w'->(aH B.w0).holds R w')(hw0:B.w0=w)(hs:n.data.a_)(hl:n.data.xs=l):jE B (.c n.data.val) H S nx (qp w n l):=by
 subst hw0
 exact dz λρ w' hw=>⟨(n.data,true),⟨hl,hs,λ_=>rfl⟩,rfl,aV hw hb,λh=>by cases h⟩
theorem nK{m:Nat}{n:ai}(hb:∀R w',S.holds R w'->(aH B.w0).holds R w')(hw0:B.w0=w)(he:(i,bU.rows (ints l) 1 3)∈H)(hm:m=l.length)(hf:∀x∈l,i64 x)(hl:l.length<=1000000):jE B (.os i m) H S nx (qp w n l):=by
 subst hw0 hm
 refine dz λρ w' hw=> ?_
 have hn:=dF hw hb he
 rw[aF]at hn
 obtain⟨u,e1,e2,e3,e4⟩:=tX hn hf hl
 exact⟨(u,false),⟨e2,e3,λh=>by cases h⟩,by rw[e1],aV hw hb,λ_=>e4⟩
structure ajC(n:ai)(a b:Sp):Prop where
 kind:n.kind=1\/n.kind=2\/n.kind=6\/n.kind=7\/n.kind=8\/n.kind=9
 data:∀x∈n.data.xs,bX x
 scale:n.kind=7->n.data.xs.length=1
 power:n.kind=8->n.data.xs.length=3
 lo:bX n.lo
 hi:bX n.hi
 a1:bX a.1
 a2:bX a.2
 b1:bX b.1
 b2:bX b.2
theorem AQ{x y:Int}(hx: -4611686018427387904<=x/\x<=4611686018427387904)(hy: -4611686018427387904<=y/\y<=4611686018427387904):∀z∈[x,y],i64 z:=λz hz=>by
 simp only[List.mem_cons,List.not_mem_nil,or_false]at hz
 unfold i64
 rcases hz with rfl|rfl<;>omega
theorem H8{d:List Int}{v:Int}(hd:∀x∈d,bX x)(hv:bX v): -4611686018427387904<=eX d v/\eX d v<=4611686018427387904:=by
 obtain⟨q1,q2,q3⟩:=P_ (dJ hd 2) (dJ hd 1) (dJ hd 0) hv
 have:=dJ hd 0
 unfold bX at this
 unfold eX
 omega
theorem Wi(w:World)(n:ai)(hd:n.data.ok w)(uX wM:Value)(c:Int)(a b:Sp)(h:ajC n a b):Calls Tryz.prog 51 #[jX n uX wM c,jv a,jv b] w (qp w n (eH n a b)):=by
 obtain⟨hk,hb,hsc,hpo,hlo,hhi,ha1,ha2,hb1,hb2⟩:=h
 unfold bX at ha1 ha2 hb1 hb2 hlo hhi
 rcases hk with hk|hk|hk|hk|hk|hk
 ·have hL:eH n a b=[n.lo,n.hi]:=if_pos hk
  rw[hL]
  refine fq Tryz.func51 [.agg [ak n.kind,ak n.a,ak n.b,.c n.shape.val,ak n.lo,ak n.hi,ak n.size,.c n.data.val,.c n.aG.val,.c uX,.c wM,ak c],.agg [ak a.1,ak a.2],.agg [ak b.1,ak b.2]] ?_
  (repeat' ((conv=>whnf)<;>first|refine aZ ?_|refine ag ?_ ?_<;>intro _))
  conv=>whnf
  exact nK (λ_ _ h=>h) rfl aQ rfl (AQ aa aa) fC
 ·have hL:eH n a b=n.data.xs:=by unfold eH;rw[if_neg aa,if_pos hk]
  rw[hL]
  refine fq Tryz.func51 [.agg [ak n.kind,ak n.a,ak n.b,.c n.shape.val,ak n.lo,ak n.hi,ak n.size,.c n.data.val,.c n.aG.val,.c uX,.c wM,ak c],.agg [ak a.1,ak a.2],.agg [ak b.1,ak b.2]] ?_
  (repeat' ((conv=>whnf)<;>first|refine aZ ?_|refine ag ?_ ?_<;>intro _))
  conv=>whnf
  exact N7 (λ_ _ h=>h) rfl hd.a_ rfl
 ·have hL:eH n a b=[a.1+b.1,a.2+b.2]:=by unfold eH;rw[if_neg aa,if_neg aa,if_pos hk]
  rw[hL]
  refine fq Tryz.func51 [.agg [ak n.kind,ak n.a,ak n.b,.c n.shape.val,ak n.lo,ak n.hi,ak n.size,.c n.data.val,.c n.aG.val,.c uX,.c wM,ak c],.agg [ak a.1,ak a.2],.agg [ak b.1,ak b.2]] ?_
  (repeat' ((conv=>whnf)<;>first|refine aZ ?_|refine ag ?_ ?_<;>intro _))
  conv=>whnf
  exact nK (λ_ _ h=>h) rfl aQ rfl (AQ aa aa) fC
 ·have hL:eH n a b=[n.data.xs.getD 0 0*a.1,n.data.xs.getD 0 0*a.2]:=by unfold eH;rw[if_neg aa,if_neg aa,if_neg aa,if_pos hk]
  rw[hL]
  have hl1:=hsc hk
  obtain⟨ua,jr⟩:=hd.base aa
  have hur:∀(R:Nat->Prop) w',(aH w).holds R w'->bf w' (some ua) 1 (ints n.data.xs):=λR w' h=>by rw[<-jr];exact au h hd.rows
  have q1:=gz (A:=1048576) (B:=1048576) (dJ hb 0) ha1
  have q2:=gz (A:=1048576) (B:=1048576) (dJ hb 0) ha2
  refine fq Tryz.func51 [.agg [ak n.kind,ak n.a,ak n.b,.c n.shape.val,ak n.lo,ak n.hi,ak n.size,.c n.data.val,.c n.aG.val,.c uX,.c wM,ak c],.agg [ak a.1,ak a.2],.agg [ak b.1,ak b.2]] ?_
  (repeat' ((conv=>whnf)<;>first|(show bC ..;refine ax _ 0 jr rfl aa ?_)|(show fu ..;refine bO hur (j:=0) aa ?_)|(show cO _ 9 ..;refine mE [] _ aid ?_)|refine aZ ?_|refine ag ?_ ?_<;>intro _))
  conv=>whnf
  exact nK (λ_ _ h=>h) rfl aQ rfl (AQ aa aa) fC
 ·have hl3:=hpo hk
  obtain⟨ua,jr⟩:=hd.base aa
  have hur:∀(R:Nat->Prop) w',(aH w).holds R w'->bf w' (some ua) 1 (ints n.data.xs):=λR w' h=>by rw[<-jr];exact au h hd.rows
  have p1:=dJ hb 1
  have p2:=dJ hb 2
  unfold bX at p1 p2
  have i1:=H8 hb (v:=a.1) RP
  have i2:=H8 hb (v:=a.2) RP
  refine fq Tryz.func51 [.agg [ak n.kind,ak n.a,ak n.b,.c n.shape.val,ak n.lo,ak n.hi,ak n.size,.c n.data.val,.c n.aG.val,.c uX,.c wM,ak c],.agg [ak a.1,ak a.2],.agg [ak b.1,ak b.2]] ?_
  by_cases hz:n.data.xs.getD 2 0=0
  ·have hL:eH n a b=[eX n.data.xs a.1,eX n.data.xs a.2]:=by unfold eH;rw[if_neg aa,if_neg aa,if_neg aa,if_neg aa,if_pos hk,if_pos hz]
   rw[hL]
   (repeat' ((conv=>whnf)<;>first|(show bC ..;refine ax _ 2 jr rfl aa ?_)|(show fu ..;refine bO hur (j:=2) aa ?_)|((show aC _ 107 [_,ak a.1] _ _ _ _);refine aJ (f:=107) Tryz.call107 (.int .i64 (eX n.data.xs a.1)) (λρ w' hw=>uE w' n (ae hw λR h=>hd.later h) hl3 hb uX wM c a.1 RP) ?_)|((show aC _ 107 [_,ak a.2] _ _ _ _);refine aJ (f:=107) Tryz.call107 (.int .i64 (eX n.data.xs a.2)) (λρ w' hw=>uE w' n (ae hw λR h=>hd.later h) hl3 hb uX wM c a.2 RP) ?_)|(show cO _ 11 ..;refine mE [] _ aie ?_)|refine aZ ?_|refine ag ?_ ?_<;>intro _))
   conv=>whnf
   exact nK (λ_ _ h=>h) rfl aQ rfl (AQ aa aa) fC
  ·have hT: -1048576<=(0-n.data.xs.getD 1 0).tdiv (2*n.data.xs.getD 2 0)/\(0-n.data.xs.getD 1 0).tdiv (2*n.data.xs.getD 2 0)<=1048576:=by
    have h1:((0-n.data.xs.getD 1 0).tdiv (2*n.data.xs.getD 2 0)).natAbs<=(0-n.data.xs.getD 1 0).natAbs:=by rw[Int.natAbs_tdiv];exact Nat.div_le_self _ _
    omega
   (repeat' ((conv=>whnf)<;>first|(show bC ..;refine ax _ 1 jr rfl aa ?_)|(show fu ..;refine bO hur (j:=1) aa ?_)|(show bC ..;refine ax _ 2 jr rfl aa ?_)|(show fu ..;refine bO hur (j:=2) aa ?_)|((show aC _ 107 [_,ak a.1] _ _ _ _);refine aJ (f:=107) Tryz.call107 (.int .i64 (eX n.data.xs a.1)) (λρ w' hw=>uE w' n (ae hw λR h=>hd.later h) hl3 hb uX wM c a.1 RP) ?_)|((show aC _ 107 [_,ak a.2] _ _ _ _);refine aJ (f:=107) Tryz.call107 (.int .i64 (eX n.data.xs a.2)) (λρ w' hw=>uE w' n (ae hw λR h=>hd.later h) hl3 hb uX wM c a.2 RP) ?_)|(show qQ ..;refine YI aa aa ?_)|(show cO _ 11 ..;refine mE [] _ aie ?_)|refine aZ ?_|refine ag ?_ ?_<;>intro _))
   all_goals
    have hL:eH n a b=[eX n.data.xs a.1,eX n.data.xs a.2]++(Hg (hiI n.data.xs a-Wh n.data.xs a+1).toNat (Wh n.data.xs a)).map (eX n.data.xs):=by unfold eH;rw[if_neg aa,if_neg aa,if_neg aa,if_neg aa,if_pos hk,if_neg hz]
    rw[hL]
    have apd:Wh n.data.xs a=max a.1 ((0-n.data.xs.getD 1 0).tdiv (2*n.data.xs.getD 2 0)-1):=rfl
    have ape:hiI n.data.xs a=min a.2 ((0-n.data.xs.getD 1 0).tdiv (2*n.data.xs.getD 2 0)+1):=rfl
    generalize hT0:(0-n.data.xs.getD 1 0).tdiv (2*n.data.xs.getD 2 0)=T at*
    generalize apf:Wh n.data.xs a=L0 at*
    generalize apg:hiI n.data.xs a=H0 at*
    refine Wp.loop (σ:=Int×Nat×List Int) 5 (λ⟨v,m,_⟩=>[(10,ak v),(9,ak T),(7,.os 4 m),(3,.lp 0 0 0 0),(4,.lp 1 0 0 0)]) (λ⟨_,_,acc⟩=>[(4,.rows (ints acc) 1 3),(1,.box [ak a.1,ak a.2] 58),(0,.box [ak n.kind,ak n.a,ak n.b,.c n.shape.val,ak n.lo,ak n.hi,ak n.size,.c n.data.val,.c n.aG.val,.c uX,.c wM,ak c] 104)]) (λ_=>aH w)
     (λ⟨v,m,acc⟩=>acc++(Hg (H0-v+1).toNat v).map (eX n.data.xs)=[eX n.data.xs a.1,eX n.data.xs a.2]++(Hg (H0-L0+1).toNat L0).map (eX n.data.xs)/\m=acc.length/\L0<=v/\v<=1048580/\acc.length+(H0-v+1).toNat<=5/\(∀x∈acc,i64 x)) (λs=>(H0-s.1+1).toNat) (_,2,[eX n.data.xs a.1,eX n.data.xs a.2]) [(4,some 3)] aS (λs=>⟨rfl,rfl⟩)
     ⟨by congr 4<;>omega,rfl,by omega,by omega,by simp only[List.length_cons,List.length_nil];omega,AQ aa aa⟩ ⟨rfl,aU,aU,λ_ _ h=>h⟩ ?_
    rintro⟨v,m,acc⟩ ⟨hacc,hm,hv0,hv1,hcnt,hf⟩
    by_cases hgo:v<=H0
    ·have iv:=H8 hb (v:=v) RP
     have hstep:Hg (H0-v+1).toNat v=v::Hg (H0-(v+1)+1).toNat (v+1):=by
      have:(H0-v+1).toNat=(H0-(v+1)+1).toNat+1:=by omega
      rw[this];rfl
     (repeat' ((conv=>whnf)<;>first|((show aC _ 107 _ _ _ _ _);refine aJ (f:=107) Tryz.call107 (.int .i64 (eX n.data.xs v)) (λρ w' hw=>uE w' n (ae hw λR h=>hd.later h) hl3 hb uX wM c v RP) ?_)|(show sH ..;(refine fO (by rw[aF,hm];exact Nat.le_refl _) ?_))|(show fG ..;(refine b_ acD ?_))|refine aZ ?_|refine ag ?_ ?_<;>intro _))
     all_goals(conv=>whnf)
     all_goals exact⟨(v+1,m+1,acc++[eX n.data.xs v]),[(4,some 6)],⟨by rw[<-hacc,hstep];simp,by rw[hm];simp,by omega,by omega,by rw[List.length_append,List.length_singleton];omega,λx hx=>by
      rcases List.mem_append.1 hx with h|h
      ·exact hf x h
      ·simp at h;subst h;unfold i64;omega⟩,by simp only;omega,rfl,aU,⟨We _ _ hm,aQ,aQ,trivial⟩,λ_ _ h=>h⟩
    ·have hz0:(H0-v+1).toNat=0:=by omega
     rw[hz0]at hacc
     simp only[Hg,List.map_nil,List.append_nil]at hacc
     (repeat' ((conv=>whnf)<;>first|refine aZ ?_|refine ag ?_ ?_<;>intro _))
     all_goals(conv=>whnf)
     all_goals(rw[<-hacc];exact nK (λ_ _ h=>h) rfl aQ hm hf aa)
 ·have hL:eH n a b=[a.1,a.2]:=by unfold eH;rw[if_neg aa,if_neg aa,if_neg aa,if_neg aa,if_neg aa]
  rw[hL]
  refine fq Tryz.func51 [.agg [ak n.kind,ak n.a,ak n.b,.c n.shape.val,ak n.lo,ak n.hi,ak n.size,.c n.data.val,.c n.aG.val,.c uX,.c wM,ak c],.agg [ak a.1,ak a.2],.agg [ak b.1,ak b.2]] ?_
  (repeat' ((conv=>whnf)<;>first|refine aZ ?_|refine ag ?_ ?_<;>intro _))
  conv=>whnf
  exact nK (λ_ _ h=>h) rfl aQ rfl (AQ aa aa) fC
end
section
variable {l:List Int} {y:Int} {acc:List Sp} {R:Nat->Prop} {w:World} {N:Nat}
structure iY(n:ai)(sh:List (List Int))(s:List Int):Prop where
 form:bY n sh.length=true
 shape:bM n sh=some s
 near:gW n=true
theorem N8:∀{l:List ai} {Mt sh:List (List Int)},eG l Mt=(0,sh)->∃q,sh=Mt++q/\q.length=l.length/\∀i n,l[i]? =some n->∃s,q[i]? =some s/\iY n (Mt++q.take i) s
 |[],Mt,sh,h=>by
  obtain rfl:Mt=sh:=by simpa[eG]using h
  exact⟨[],by simp,rfl,λi n hn=>by simp at hn⟩
 |m::r,Mt,sh,h=>by
  by_cases hf:bY m Mt.length=false
  ·rw[r_ hf]at h;simp at h
  have hf:bY m Mt.length=true:=by simpa using hf
  cases hs:bM m Mt with
  |none=>rw[qh hf hs]at h;simp at h
  |some s=>
   by_cases hn:gW m=false
   ·rw[kP hf hs hn]at h;simp at h
   have hn:gW m=true:=by simpa using hn
   rw[iA hf hs hn]at h
   obtain⟨q,hq,hl,ha⟩:=N8 h
   refine⟨s::q,by rw[hq,List.append_assoc];rfl,by simp[hl],λi n hin=> ?_⟩
   cases i with
   |zero=>
    simp only[List.getElem?_cons_zero,Option.some.injEq]at hin
    subst hin
    exact⟨s,rfl,by simpa using hf,by simpa using hs,hn⟩
   |succ i=>
    simp only[List.getElem?_cons_succ]at hin
    obtain⟨t,h1,h2⟩:=ha i n hin
    refine⟨t,by simpa using h1,?_⟩
    rw[List.take_succ_cons,show Mt++s::q.take i=Mt++[s]++q.take i by simp]
    exact h2
theorem gX{g:bE}(h:(check g).1=0):1<=g.l.length/\g.l.length<=24/\(0<=g.out/\g.out<g.l.length)/\(check g).2.length=g.l.length/\∀i n,g.l[i]? =some n->∃s,(check g).2[i]? =some s/\iY n ((check g).2.take i) s:=by
 unfold check at h|-
 split at h
 ·simp at h
 rename_i hc
 rw[if_neg hc]
 obtain⟨q,hq,hl,ha⟩:=N8 (l:=g.l) (Mt:=[]) (sh:=(eG g.l []).2) (Prod.ext h rfl)
 rw[List.nil_append]at hq
 subst hq
 exact⟨by omega,by omega,by omega,hl,λi n hn=>ha i n hn⟩
theorem mW{n:ai}{at_:Nat}(h:bY n at_=true):(0<=n.a/\(n.a<at_\/n.a=0))/\(0<=n.b/\(n.b<at_\/n.b=0))/\(n.kind=7->n.data.xs.length=1)/\(n.kind=8->n.data.xs.length=3)/\(n.kind=2->(n.data.xs.length:Int)=entries n.shape.xs):=by
 have hfo:=dH h
 have hkk:=hfo.kind
 unfold bY at h
 have hk:n.kind=1\/n.kind=2\/n.kind=3\/n.kind=4\/n.kind=5\/n.kind=6\/n.kind=7\/n.kind=8\/n.kind=9:=by omega
 rcases hk with hk|hk|hk|hk|hk|hk|hk|hk|hk
 all_goals repeat(first|rw[if_pos aa]at h|rw[if_neg aa]at h)
 all_goals simp only[jT,jW,Bool.true_or,Bool.false_or,Bool.true_and,Bool.and_true,Bool.and_eq_true,decide_eq_true_eq]at h
 all_goals exact⟨by omega,by omega,by omega,by omega,by omega⟩
theorem rT{n:ai}(h:gW n=true):(∀x∈n.data.xs,bX x)/\(∀x∈n.aG.xs,bX x)/\bX n.lo/\bX n.hi/\n.lo<=n.hi:=by
 unfold gW qa at h
 simp only[Bool.and_eq_true,List.all_eq_true,decide_eq_true_eq]at h
 exact⟨λx hx=>h.1.1.1 x hx,λx hx=>h.1.1.2 x hx,h.1.2 n.lo fC,h.1.2 n.hi fC,h.2⟩
theorem yu:∀(l:List Int) (x:Int),l.foldl min x<=x/\∀y∈l,l.foldl min x<=y
 |[],x=>⟨Int.le_refl _,λy hy=>by simp at hy⟩
 |z::r,x=>by
  obtain⟨h1,h2⟩:=yu r (min x z)
  refine⟨by rw[List.foldl_cons];omega,λy hy=> ?_⟩
  rw[List.foldl_cons]
  rcases List.mem_cons.1 hy with rfl|hy
  ·omega
  ·exact h2 y hy
theorem yw:∀(l:List Int) (x:Int),x<=l.foldl max x/\∀y∈l,y<=l.foldl max x
 |[],x=>⟨Int.le_refl _,λy hy=>by simp at hy⟩
 |z::r,x=>by
  obtain⟨h1,h2⟩:=yw r (max x z)
  refine⟨by rw[List.foldl_cons];omega,λy hy=> ?_⟩
  rw[List.foldl_cons]
  rcases List.mem_cons.1 hy with rfl|hy
  ·omega
  ·exact h2 y hy
theorem iQ(h:y∈l):foldI min l<=y:=by
 cases l with
 |nil=>simp at h
 |cons x r=>
  rcases List.mem_cons.1 h with rfl|h
  ·exact(yu r _).1
  ·exact(yu r x).2 y h
theorem iR(h:y∈l):y<=foldI max l:=by
 cases l with
 |nil=>simp at h
 |cons x r=>
  rcases List.mem_cons.1 h with rfl|h
  ·exact(yw r _).1
  ·exact(yw r x).2 y h
theorem Ke(h:1<=l.length):foldI min l<=foldI max l:=by
 cases l with
 |nil=>simp at h
 |cons x r=>exact Int.le_trans (iQ List.mem_cons_self) (iR List.mem_cons_self)
def dV(l:List Sp):List (List Value):=l.map λs=>[.int .i64 s.1,.int .i64 s.2]
theorem gU(l:List Sp):(dV l).length=l.length:=by simp[dV]
theorem yx{l:List Sp}{k:Nat}(h:k<l.length):(dV l)[k]? =some [.int .i64 l[k].1,.int .i64 l[k].2]:=by simp[dV,h]
def mJ(n:Nat)(acc:List Sp):List Sp:=acc++List.replicate (n-acc.length) (0,0)
theorem pW{n:Nat}(h:acc.length<=n):(mJ n acc).length=n:=by unfold mJ;simp;omega
theorem yz{n j:Nat}(h:acc.length<=n)(hj:j<n):(dV (mJ n acc))[j]? =some [.int .i64 (acc.getD j (0,0)).1,.int .i64 (acc.getD j (0,0)).2]:=by
 rw[yx (by rw[pW h];exact hj)]
 have:(mJ n acc)[j]'(by rw[pW h];exact hj)=acc.getD j (0,0):=by
  unfold mJ
  rw[List.getElem_append]
  split
  ·rename_i hlt;rw[List.getD_eq_getElem?_getD,List.getElem?_eq_getElem hlt];rfl
  ·rename_i hlt;rw[List.getD_eq_getElem?_getD,List.getElem?_eq_none aa];simp
 rw[this]
theorem zO{n i:Nat}{x:Int}{K:List (List Value)->Prop}(hl:acc.length=i)(hi:i<n)(h:K (dV (mJ n (acc++[(x,y)])))):bS (dV (mJ n acc)) i 0 [.int .i64 x,.int .i64 y] K:=by
 subst hl
 refine iV _ (yz (Nat.le_of_lt hi) hi) (by show 0+2<=2;omega) ?_
 have e:(dV (mJ n acc)).set acc.length (bR [.int .i64 (acc.getD acc.length (0,0)).1,.int .i64 (acc.getD acc.length (0,0)).2] 0 [.int .i64 x,.int .i64 y])=dV (mJ n (acc++[(x,y)])):=by
  have e2:bR [.int .i64 (acc.getD acc.length (0,0)).1,.int .i64 (acc.getD acc.length (0,0)).2] 0 [.int .i64 x,.int .i64 y]=[Value.int .i64 x,.int .i64 y]:=rfl
  rw[e2]
  unfold mJ dV
  obtain⟨k,hk⟩:∃k,n-acc.length=k+1:=⟨n-acc.length-1,by omega⟩
  rw[hk,List.length_append,List.length_singleton,show n-(acc.length+1)=k by omega,List.replicate_succ]
  simp only[List.map_append,List.map_cons,List.map_nil]
  rw[List.set_append_right _ _ fC,List.length_map,Nat.sub_self,List.set_cons_zero]
  simp
 rw[e];exact h
theorem oF{sv:aY}(hs:∀u∈sv.l,u.a_)(hl:sv.l.length<=24)(h:((jy sv).past N).holds R w):sv.ok w:=
 ⟨aO h.1,λu hu=>bP (hs u hu) (h.2 u hu),hl⟩
theorem akJ{w':World}{n:ai}{x:aj×Bool}(hn:n.data.ok w)(hs:x.1.a_)(ho:x.2=true->x.1=n.data)(hb:(aH w).holds R w')(h:((aaf x).past N).holds R w'):x.1.ok w':=by
 cases hx:x.2 with
 |true=>rw[ho hx];exact hn.later hb
 |false=>exact bP hs (h hx)
def xh(w:World)(r:Int×List Sp)(e:Ending)(w':World):Prop:=
 (r.1≠0/\e= .returned (.tuple #[.slice none 0 0,.int .i64 r.1])/\Ext w w')\/(r.1=0/\∃v,e= .returned (.tuple #[v,.int .i64 0])/\Ext w w'/\j_ w w' v 2 58 (dV r.2))
end
section
variable {B:Base} {H:Heap} {S:bJ} {nx i:Nat} {w:World} {r:Int×List Sp} {acc:List Sp}
theorem AR{v:SV}(hb:∀R w',S.holds R w'->(aH B.w0).holds R w')(hw0:B.w0=w)(hn:r.1≠0)(hv:∀ρ,v.rf ρ= .tuple #[.slice none 0 0,.int .i64 r.1]):jE B v H S nx (xh w r):=by
 subst hw0
 exact dz λρ w' hw=> .inl ⟨hn,by rw[hv],aV hw hb⟩
theorem Kg{n:Nat}{l:List Sp}(hb:∀R w',S.holds R w'->(aH B.w0).holds R w')(hw0:B.w0=w)(he:(i,bU.rows (dV l) 2 58)∈H)(hn:n=l.length)(hr:r=(0,l)):jE B (.sI [.os i n,ak 0]) H S nx (xh w r):=by
 subst hw0 hn hr
 refine dz λρ w' hw=> .inr ⟨rfl,_,rfl,aV hw hb,?_⟩
 have hh:=dF hw hb he
 rw[gU]at hh
 exact hh
theorem aag{n:ai}{a b:Sp}{at_:Nat}(h:bY n at_=true):1<=(eH n a b).length:=by
 have h1:=(mW h).2.2.2.2
 have hfo:=dH h
 unfold eH
 split
 ·simp
 ·split
  ·rename_i hk
   have:=hfo.own (.inr (.inl hk))
   have:=h1 hk
   omega
  ·split
   ·simp
   ·split
    ·simp
    ·split
     ·split<;>simp
     ·simp
theorem YJ(h:∀s∈acc,bX s.1/\bX s.2)(k:Nat):bX (acc.getD k (0,0)).1/\bX (acc.getD k (0,0)).2:=by
 rcases Nat.lt_or_ge k acc.length with hk|hk
 ·rw[List.getD_eq_getElem?_getD,List.getElem?_eq_getElem hk];exact h _ (List.getElem_mem hk)
 ·rw[List.getD_eq_getElem?_getD,List.getElem?_eq_none hk];exact⟨⟨by decide,by decide⟩,⟨by decide,by decide⟩⟩
theorem SI{n:Nat}{s:Sp}(hl:acc.length=i)(hi:i<n):(dV (mJ n (acc++[s])))[i]? =some [.int .i64 s.1,.int .i64 s.2]:=by
 subst hl
 rw[yz af1 hi]
 simp[List.getD_eq_getElem?_getD]
end
section
variable {b T u v:Int} {d l:List Int}
theorem xk(d:List Int)(u v:Int):eX d v-eX d u=(v-u)*(d.getD 2 0*(u+v)+d.getD 1 0):=by
 unfold eX
 generalize d.getD 2 0=a
 generalize d.getD 1 0=b
 generalize d.getD 0 0=c
 grind
theorem YK{a:Int}(ha:0<a):2*a*((0-b).tdiv (2*a)-1)+b<=0/\0<=2*a*((0-b).tdiv (2*a)+1)+b:=by
 have h1:=Int.mul_tdiv_add_tmod (0-b) (2*a)
 have h2:((0-b).tmod (2*a)).natAbs<(2*a).natAbs:=by
  rw[Int.natAbs_tmod];exact Nat.mod_lt _ aa
 have h3:2*a*((0-b).tdiv (2*a)-1)=2*a*(0-b).tdiv (2*a)-2*a:=by rw[Int.mul_sub,Int.mul_one]
 have h4:2*a*((0-b).tdiv (2*a)+1)=2*a*(0-b).tdiv (2*a)+2*a:=by rw[Int.mul_add,Int.mul_one]
 rw[h3,h4]
 omega
theorem YL{a:Int}(ha:0<a)(hT:0<=2*a*(T+1)+b)(h1:T+1<=u)(h2:u<=v):0<=(v-u)*(a*(u+v)+b):=by
 refine Int.mul_nonneg aa ?_
 have h3:a*(2*(T+1))<=a*(u+v):=Int.mul_le_mul_of_nonneg_left aa aa
 have h4:2*a*(T+1)=a*(2*(T+1)):=by grind
 omega
theorem N9{a:Int}(ha:0<a)(hT:2*a*(T-1)+b<=0)(h1:v<=T-1)(h2:u<=v):(v-u)*(a*(u+v)+b)<=0:=by
 refine Int.mul_nonpos_of_nonneg_of_nonpos aa ?_
 have h3:a*(u+v)<=a*(2*(T-1)):=Int.mul_le_mul_of_nonneg_left aa aa
 have h4:2*a*(T-1)=a*(2*(T-1)):=by grind
 omega
theorem Dw(h:d.getD 2 0≠0):
 ((∀u v,u<=v->v<=iP d-1->eX d v<=eX d u)/\(∀u v,iP d+1<=u->u<=v->eX d u<=eX d v))\/
 ((∀u v,u<=v->v<=iP d-1->eX d u<=eX d v)/\(∀u v,iP d+1<=u->u<=v->eX d v<=eX d u)):=by
 rcases(by omega:0<d.getD 2 0\/d.getD 2 0<0)with ha|ha
 ·obtain⟨t1,t2⟩:=YK (b:=d.getD 1 0) ha
  left
  refine⟨λu v h1 h2=> ?_,λu v h1 h2=> ?_⟩
  ·have:=xk d u v
   have:=N9 ha t1 h2 h1
   omega
  ·have:=xk d u v
   have:=YL ha t2 h1 h2
   omega
 ·have ha':0< -(d.getD 2 0):=by omega
  obtain⟨t1,t2⟩:=YK (b:= -(d.getD 1 0)) ha'
  have hT:(0- -(d.getD 1 0)).tdiv (2* -(d.getD 2 0))=iP d:=by
   unfold iP
   rw[show 0- -(d.getD 1 0)= -(0-d.getD 1 0) by omega,show 2* -(d.getD 2 0)= -(2*d.getD 2 0) by omega,Int.neg_tdiv,Int.tdiv_neg,Int.neg_neg]
  rw[hT]at t1 t2
  have hneg:∀u v:Int,(v-u)*(-(d.getD 2 0)*(u+v)+ -(d.getD 1 0))= -((v-u)*(d.getD 2 0*(u+v)+d.getD 1 0)):=λu v=>by grind
  right
  refine⟨λu v h1 h2=> ?_,λu v h1 h2=> ?_⟩
  ·have:=xk d u v
   have h3:=N9 ha' t1 h2 h1
   rw[hneg]at h3
   omega
  ·have:=xk d u v
   have h3:=YL ha' t2 h1 h2
   rw[hneg]at h3
   omega
theorem Dx:∀{n:Nat} {v x:Int},x∈Hg n v↔v<=x/\x<v+n
 |0,v,x=>by simp[Hg]
 |n+1,v,x=>by
  unfold Hg
  rw[List.mem_cons,Dx]
  omega
def jb(d:List Int)(a:Sp):List Int:=if d.getD 2 0=0 then [eX d a.1,eX d a.2]else [eX d a.1,eX d a.2]++(Hg (hiI d a-Wh d a+1).toNat (Wh d a)).map (eX d)
theorem jY{a:Sp}:eX d a.1∈jb d a:=by unfold jb;split<;>simp
theorem kX{a:Sp}:eX d a.2∈jb d a:=by unfold jb;split<;>simp
theorem yA{a:Sp}(hz:d.getD 2 0≠0)(h1:Wh d a<=v)(h2:v<=hiI d a):eX d v∈jb d a:=by
 unfold jb
 rw[if_neg hz]
 exact List.mem_append_right _ (List.mem_map.2 ⟨v,Dx.2 ⟨h1,by omega⟩,rfl⟩)
theorem SK{a:Sp}(h1:a.1<=v)(h2:v<=a.2):(∃x∈jb d a,x<=eX d v)/\(∃x∈jb d a,eX d v<=x):=by
 by_cases hz:d.getD 2 0=0
 ·have e1:=xk d a.1 v
  have e2:=xk d v a.2
  rw[hz]at e1 e2
  rw[Int.zero_mul,Int.zero_add]at e1 e2
  rcases(by omega:0<=d.getD 1 0\/d.getD 1 0<=0)with hb|hb
  ·have m1:=Int.mul_nonneg (show 0<=v-a.1 by omega) hb
   have m2:=Int.mul_nonneg (show 0<=a.2-v by omega) hb
   exact⟨⟨_,jY,by omega⟩,⟨_,kX,by omega⟩⟩
  ·have m1:=Int.mul_nonpos_of_nonneg_of_nonpos (show 0<=v-a.1 by omega) hb
   have m2:=Int.mul_nonpos_of_nonneg_of_nonpos (show 0<=a.2-v by omega) hb
   exact⟨⟨_,kX,by omega⟩,⟨_,jY,by omega⟩⟩
 ·by_cases hin:Wh d a<=v/\v<=hiI d a
  ·exact⟨⟨_,yA hz hin.1 hin.2,Int.le_refl _⟩,⟨_,yA hz hin.1 hin.2,Int.le_refl _⟩⟩
  ·have hL:Wh d a=max a.1 (iP d-1):=rfl
   have hH:hiI d a=min a.2 (iP d+1):=rfl
   rcases(by omega:v<Wh d a\/hiI d a<v)with hv|hv
   ·have hvT:v<=iP d-1:=by omega
    rcases(by omega:iP d-1<=a.2\/a.2<=iP d-1)with hc|hc
    ·have hm:=yA (a:=a) (v:=iP d-1) hz aa aa
     rcases Dw hz with⟨w1,_⟩|⟨w1,_⟩
     ·exact⟨⟨_,hm,w1 v (iP d-1) hvT (Int.le_refl _)⟩,⟨_,jY,w1 a.1 v h1 hvT⟩⟩
     ·exact⟨⟨_,jY,w1 a.1 v h1 hvT⟩,⟨_,hm,w1 v (iP d-1) hvT (Int.le_refl _)⟩⟩
    ·rcases Dw hz with⟨w1,_⟩|⟨w1,_⟩
     ·exact⟨⟨_,kX,w1 v a.2 h2 hc⟩,⟨_,jY,w1 a.1 v h1 hvT⟩⟩
     ·exact⟨⟨_,jY,w1 a.1 v h1 hvT⟩,⟨_,kX,w1 v a.2 h2 hc⟩⟩
   ·have hvT:iP d+1<=v:=by omega
    rcases(by omega:a.1<=iP d+1\/iP d+1<=a.1)with hc|hc
    ·have hm:=yA (a:=a) (v:=iP d+1) hz aa aa
     rcases Dw hz with⟨_,w2⟩|⟨_,w2⟩
     ·exact⟨⟨_,hm,w2 (iP d+1) v (Int.le_refl _) hvT⟩,⟨_,kX,w2 v a.2 hvT h2⟩⟩
     ·exact⟨⟨_,kX,w2 v a.2 hvT h2⟩,⟨_,hm,w2 (iP d+1) v (Int.le_refl _) hvT⟩⟩
    ·rcases Dw hz with⟨_,w2⟩|⟨_,w2⟩
     ·exact⟨⟨_,jY,w2 a.1 v hc h1⟩,⟨_,kX,w2 v a.2 hvT h2⟩⟩
     ·exact⟨⟨_,kX,w2 v a.2 hvT h2⟩,⟨_,jY,w2 a.1 v hc h1⟩⟩
theorem Kh{a:Sp}(h1:a.1<=v)(h2:v<=a.2):foldI min (jb d a)<=eX d v/\eX d v<=foldI max (jb d a):=by
 obtain⟨⟨x,hx,hx'⟩,⟨y,hy,hy'⟩⟩:=SK (d:=d) h1 h2
 exact⟨Int.le_trans (iQ hx) hx',Int.le_trans hy' (iR hy)⟩
theorem BL:∀(l:List Int) (x:Int),l.foldl min x=x\/l.foldl min x∈l
 |[],x=> .inl rfl
 |z::r,x=>by
  rw[List.foldl_cons]
  rcases BL r (min x z)with h|h
  ·rw[h]
   rcases(by omega:min x z=x\/min x z=z)with h|h
   ·exact .inl h
   ·exact .inr (by rw[h];exact List.mem_cons_self)
  ·exact .inr (List.mem_cons_of_mem _ h)
theorem BM:∀(l:List Int) (x:Int),l.foldl max x=x\/l.foldl max x∈l
 |[],x=> .inl rfl
 |z::r,x=>by
  rw[List.foldl_cons]
  rcases BM r (max x z)with h|h
  ·rw[h]
   rcases(by omega:max x z=x\/max x z=z)with h|h
   ·exact .inl h
   ·exact .inr (by rw[h];exact List.mem_cons_self)
  ·exact .inr (List.mem_cons_of_mem _ h)
theorem rU(h:1<=l.length):foldI min l∈l:=by
 cases l with
 |nil=>simp at h
 |cons x r=>
  rcases BL r x with h|h
  ·rw[foldI,h];exact List.mem_cons_self
  ·exact List.mem_cons_of_mem _ h
theorem rV(h:1<=l.length):foldI max l∈l:=by
 cases l with
 |nil=>simp at h
 |cons x r=>
  rcases BM r x with h|h
  ·rw[foldI,h];exact List.mem_cons_self
  ·exact List.mem_cons_of_mem _ h
end
abbrev YM:Go.SX.DT:=(eF [0,1,2,3,4,5,6,7,8,9,10,11,112] .done)
abbrev aly:Go.SX.DT:=(eF [0,1,2,3,4,5,6,7,8,9,10,11,12,113] .done)
abbrev alz:Go.SX.DT:=(eF [0,1,2,3,4,5,6,107,8,109] .done)
abbrev aif:Go.SX.DT:=(eF [0,1,2,3,4,5,6,7,8,9,10,11,12,13,114] .done)
section
variable {l:List Int} {i m nx:Nat} {B:Base} {H:Heap} {S:bJ} {w:World}
def fo(n:ai)(a b:List Int)(o:Nat):Int:=
 if n.kind=2 then n.data.xs.getD o 0
 else if n.kind=6 then a.getD o 0+b.getD o 0
 else if n.kind=7 then a.getD o 0*n.data.xs.getD 0 0
 else if n.kind=8 then eX n.data.xs (a.getD o 0)
 else a.getD o 0
def numsL(n:ai)(cnt:Nat)(a b:List Int):List Int:=(List.range cnt).map (fo n a b)
def jZ(n:Nat)(l:List Int):List Int:=l++List.replicate (n-l.length) 0
theorem pU{n:Nat}(h:l.length<=n):(jZ n l).length=n:=by unfold jZ;simp;omega
theorem zi{n:Nat}{x:Int}{K:List (List Value)->Prop}(hl:l.length=i)(hi:i<n)(h:K (ints (jZ n (l++[x])))):bS (ints (jZ n l)) i 0 [.int .i64 x] K:=by
 subst hl
 refine iV [.int .i64 0] ?_ Ja ?_
 ·rw[d9 (by rw[pU aa];exact hi)]
  simp[jZ,List.getElem_append]
 ·have e:(ints (jZ n l)).set l.length (bR [.int .i64 0] 0 [.int .i64 x])=ints (jZ n (l++[x])):=by
   have e2:bR [Value.int .i64 0] 0 [.int .i64 x]=[Value.int .i64 x]:=rfl
   rw[e2]
   unfold jZ ints
   obtain⟨k,hk⟩:∃k,n-l.length=k+1:=⟨n-l.length-1,by omega⟩
   rw[hk,List.length_append,List.length_singleton,show n-(l.length+1)=k by omega,List.replicate_succ]
   simp only[List.map_append,List.map_cons,List.map_nil]
   rw[List.set_append_right _ _ fC,List.length_map,Nat.sub_self,List.set_cons_zero]
   simp
  rw[e];exact h
structure Wj(w:World)(n:ai)(cnt:Nat)(a b:aj):Prop where
 kind:n.kind=2\/n.kind=6\/n.kind=7\/n.kind=8\/n.kind=9
 few:cnt<=64
 data:n.data.ok w
 Wl:∀x∈n.data.xs,bX x
 const:n.kind=2->n.data.xs.length=cnt
 scale:n.kind=7->n.data.xs.length=1
 power:n.kind=8->n.data.xs.length=3
 aOk:a.ok w
 bOk:b.ok w
 Ki:n.kind≠2->a.xs.length=cnt
 aai:n.kind=6->b.xs.length=cnt
 aBd:∀x∈a.xs,bX x
 bBd:∀x∈b.xs,bX x
def AU(w:World)(l:List Int)(e:Ending)(w':World):Prop:=
 ∃x:aj,(x.xs=l/\x.a_)/\e= .returned x.val/\Ext w w'/\(bn x).holds (λb=>w.heap.size<=b/\b<w'.heap.size) w'
theorem adn(hb:∀R w',S.holds R w'->(aH B.w0).holds R w')(hw0:B.w0=w)(he:(i,bU.rows (ints l) 1 3)∈H)(hm:m=l.length)(hf:∀x∈l,i64 x)(hl:l.length<=1000000):jE B (.os i m) H S nx (AU w l):=by
 subst hw0 hm
 refine dz λρ w' hw=> ?_
 have hn:=dF hw hb he
 rw[aF]at hn
 obtain⟨u,e1,e2,e3,e4⟩:=tX hn hf hl
 exact⟨u,⟨e2,e3⟩,by rw[e1],aV hw hb,e4⟩
theorem N_{l':List Int}(hl':l'=l)(hb:∀R w',S.holds R w'->(aH B.w0).holds R w')(hw0:B.w0=w)(he:(i,bU.rows (ints l') 1 3)∈H)(hm:m=l.length)(hf:∀x∈l,i64 x)(hl:l.length<=1000000):jE B (.os i m) H S nx (AU w l):=by
 subst hl';exact adn hb hw0 he hm hf hl
theorem SN{n:ai}{cnt:Nat}{a b:aj}(h:Wj w n cnt a b)(o:Nat): -4611686018427387904<=fo n a.xs b.xs o/\fo n a.xs b.xs o<=4611686018427387904:=by
 have h1:=dJ h.Wl o
 have h2:=dJ h.Wl 0
 have h3:=dJ h.aBd o
 have h4:=dJ h.bBd o
 have h5:=gz (A:=1048576) (B:=1048576) h3 h2
 have h6:=H8 h.Wl h3
 unfold bX at h1 h2 h3 h4
 unfold fo
 split
 ·omega
 ·split
  ·omega
  ·split
   ·omega
   ·split<;>omega
theorem Wm(w:World)(n:ai)(uX wM:Value)(cnt:Nat)(a b:aj)(h:Wj w n cnt a b):Calls Tryz.prog 146 #[jX n uX wM cnt,a.val,b.val] w (AU w (numsL n cnt a.xs b.xs)):=by
 have hbd:=SN h
 obtain⟨hk,nX,hd,hdb,hco,hsc,hpo,ha,hb,hal,hbl,hab,hbb⟩:=h
 refine fq Tryz.func146 [.agg [ak n.kind,ak n.a,ak n.b,.c n.shape.val,ak n.lo,ak n.hi,ak n.size,.c n.data.val,.c n.aG.val,.c uX,.c wM,ak (cnt:Int)],.c a.val,.c b.val] ?_
 (repeat' ((conv=>whnf)<;>first|(show kv ..;(refine g_ cnt rfl rfl xY aa ?_))|refine aN ?_))
 refine Wp.loop (σ:=Nat) 2 (λo=>[(1,.c a.val),(2,.c b.val),(3,.lp 0 0 0 0),(7,.os 1 cnt),(15,ak cnt),(16,ak o)]) (λo=>[(1,.rows (ints (jZ cnt (numsL n o a.xs b.xs))) 1 3),(0,.box [ak n.kind,ak n.a,ak n.b,.c n.shape.val,ak n.lo,ak n.hi,ak n.size,.c n.data.val,.c n.aG.val,.c uX,.c wM,ak (cnt:Int)] 104)]) (λ_=>aH w)
  (λo=>o<=cnt) (λo=>cnt-o) 0 [] aS (λs=>⟨rfl,rfl⟩) (Nat.zero_le _) ⟨rfl,aU,⟨?_,aQ,trivial⟩,λ_ _ h=>h⟩ ?_
 ·have:ints (jZ cnt (numsL n 0 a.xs b.xs))=List.replicate cnt [Value.int .i64 0]:=by simp[ints,jZ,numsL]
  show(1,bU.rows (ints (jZ cnt (numsL n 0 a.xs b.xs))) 1 3)∈_
  rw[this]
  exact aQ
 rintro o ho
 have hlen:(numsL n o a.xs b.xs).length=o:=by simp[numsL]
 by_cases hlt:o<cnt
 ·have y8:numsL n (o+1) a.xs b.xs=numsL n o a.xs b.xs++[fo n a.xs b.xs o]:=by unfold numsL;rw[List.range_succ,List.map_append];rfl
  have hbo:=hbd o
  rcases hk with hk|hk|hk|hk|hk
  ·have hN:fo n a.xs b.xs o=n.data.xs.getD o 0:=if_pos hk
   rw[hN]at y8 hbo
   have hcl:=hco hk
   obtain⟨ua,jr⟩:=hd.base aa
   have hur:∀(R:Nat->Prop) w',(aH w).holds R w'->bf w' (some ua) 1 (ints n.data.xs):=λR w' h=>by rw[<-jr];exact au h hd.rows
   (repeat' ((conv=>whnf)<;>first|refine abQ ?_|refine abR ?_|refine abS ?_|refine abT ?_|refine aN ?_|refine ag ?_ ?_<;>intro _))
   conv=>whnf
   exact⟨o+1,[],hlt,by omega,rfl,aU,⟨by rw[y8];exact aQ,aQ,trivial⟩,λ_ _ h=>h⟩
  ·have hN:fo n a.xs b.xs o=a.xs.getD o 0+b.xs.getD o 0:=by unfold fo;rw[if_neg aa,if_pos hk]
   rw[hN]at y8 hbo
   have hcl:=hal aa
   have hbl:=hbl hk
   obtain⟨ua,jr⟩:=ha.base aa
   obtain⟨ub,hub⟩:=hb.base aa
   have hur:∀(R:Nat->Prop) w',(aH w).holds R w'->bf w' (some ua) 1 (ints a.xs):=λR w' h=>by rw[<-jr];exact au h ha.rows
   have Ye:∀(R:Nat->Prop) w',(aH w).holds R w'->bf w' (some ub) 1 (ints b.xs):=λR w' h=>by rw[<-hub];exact au h hb.rows
   (repeat' ((conv=>whnf)<;>first|refine abQ ?_|refine abR ?_|(show bC ..;refine ax _ o hub rfl aa ?_)|(show fu ..;refine bO Ye (j:=o) aa ?_)|refine abS ?_|refine abT ?_|(show cO _ 15 ..;refine mE [12] _ YM ?_)|refine aN ?_|refine ag ?_ ?_<;>intro _))
   all_goals(conv=>whnf)
   all_goals exact⟨o+1,[],hlt,by omega,rfl,aU,⟨by rw[y8];exact aQ,aQ,trivial⟩,λ_ _ h=>h⟩
  ·have hN:fo n a.xs b.xs o=a.xs.getD o 0*n.data.xs.getD 0 0:=by unfold fo;rw[if_neg aa,if_neg aa,if_pos hk]
   rw[hN]at y8 hbo
   have hcl:=hal aa
   have hdl:=hsc hk
   obtain⟨ua,jr⟩:=ha.base aa
   obtain⟨ub,hub⟩:=hd.base aa
   have hur:∀(R:Nat->Prop) w',(aH w).holds R w'->bf w' (some ua) 1 (ints a.xs):=λR w' h=>by rw[<-jr];exact au h ha.rows
   have Ye:∀(R:Nat->Prop) w',(aH w).holds R w'->bf w' (some ub) 1 (ints n.data.xs):=λR w' h=>by rw[<-hub];exact au h hd.rows
   (repeat' ((conv=>whnf)<;>first|refine abQ ?_|refine abR ?_|(show bC ..;refine ax _ 0 hub rfl aa ?_)|(show fu ..;refine bO Ye (j:=0) aa ?_)|refine abS ?_|refine abT ?_|(show cO _ 17 ..;refine mE [13] _ aly ?_)|refine aN ?_|refine ag ?_ ?_<;>intro _))
   all_goals(conv=>whnf)
   all_goals exact⟨o+1,[],hlt,by omega,rfl,aU,⟨by rw[y8];exact aQ,aQ,trivial⟩,λ_ _ h=>h⟩
  ·have hN:fo n a.xs b.xs o=eX n.data.xs (a.xs.getD o 0):=by unfold fo;rw[if_neg aa,if_neg aa,if_neg aa,if_pos hk]
   rw[hN]at y8 hbo
   have hcl:=hal aa
   have hdl:=hpo hk
   obtain⟨ua,jr⟩:=ha.base aa
   have hur:∀(R:Nat->Prop) w',(aH w).holds R w'->bf w' (some ua) 1 (ints a.xs):=λR w' h=>by rw[<-jr];exact au h ha.rows
   (repeat' ((conv=>whnf)<;>first|refine abQ ?_|refine abR ?_|refine abS ?_|refine abT ?_|(show aC _ 107 ..;refine aJ (f:=107) Tryz.call107 (.int .i64 (eX n.data.xs (a.xs.getD o 0))) (λρ w' hw=>uE w' n (ae hw λR h=>hd.later h) hdl hdb uX wM cnt (a.xs.getD o 0) (dJ hab o)) ?_)|(show cO _ 19 ..;refine mE [9] _ alz ?_)|refine aN ?_|refine ag ?_ ?_<;>intro _))
   all_goals(conv=>whnf)
   all_goals exact⟨o+1,[],hlt,by omega,rfl,aU,⟨by rw[y8];exact aQ,aQ,trivial⟩,λ_ _ h=>h⟩
  ·have hN:fo n a.xs b.xs o=a.xs.getD o 0:=by unfold fo;rw[if_neg aa,if_neg aa,if_neg aa,if_neg aa]
   rw[hN]at y8 hbo
   have hcl:=hal aa
   obtain⟨ua,jr⟩:=ha.base aa
   have hur:∀(R:Nat->Prop) w',(aH w).holds R w'->bf w' (some ua) 1 (ints a.xs):=λR w' h=>by rw[<-jr];exact au h ha.rows
   (repeat' ((conv=>whnf)<;>first|refine abQ ?_|refine abR ?_|refine abS ?_|refine abT ?_|refine aN ?_|refine ag ?_ ?_<;>intro _))
   conv=>whnf
   exact⟨o+1,[],hlt,by omega,rfl,aU,⟨by rw[y8];exact aQ,aQ,trivial⟩,λ_ _ h=>h⟩
 ·obtain rfl:o=cnt:=by omega
  have hgr:jZ o (numsL n o a.xs b.xs)=numsL n o a.xs b.xs:=by unfold jZ;rw[hlen,Nat.sub_self];simp
  (repeat' ((conv=>whnf)<;>first|refine aN ?_|refine ag ?_ ?_<;>intro _))
  conv=>whnf
  refine N_ hgr (λ_ _ h=>h) rfl aQ (by rw[hlen]) (λx hx=> ?_) (by rw[hlen];omega)
  obtain⟨k,_,rfl⟩:=List.mem_map.1 hx
  have:=hbd k
  unfold i64;omega
end
section
variable {o cap:Nat} {l:List aj} {w:World} {v:aY}
def within(s:Sp)(l:List Int):Prop:=∀x∈l,s.1<=x/\x<=s.2
theorem pz{s:Sp}{l:List Int}(h:within s l)(ho:o<l.length):s.1<=l.getD o 0/\l.getD o 0<=s.2:=h _ (df ho)
theorem Dy{d a1 a2 v:Int}(h1:a1<=v)(h2:v<=a2):foldI min [d*a1,d*a2]<=v*d/\v*d<=foldI max [d*a1,d*a2]:=by
 have e:v*d=d*v:=Int.mul_comm _ _
 have m1:foldI min [d*a1,d*a2]=min (d*a1) (d*a2):=rfl
 have m2:foldI max [d*a1,d*a2]=max (d*a1) (d*a2):=rfl
 rw[m1,m2,e]
 rcases(by omega:0<=d\/d<=0)with hd|hd
 ·have:=Int.mul_le_mul_of_nonneg_left h1 hd
  have:=Int.mul_le_mul_of_nonneg_left h2 hd
  omega
 ·have:=Int.mul_le_mul_of_nonpos_left hd h1
  have:=Int.mul_le_mul_of_nonpos_left hd h2
  omega
theorem Kj{n:ai}{cnt:Nat}{a b:List Int}{A B:Sp}(hk:n.kind=2\/n.kind=6\/n.kind=7\/n.kind=8\/n.kind=9)(h2:n.kind=2->n.data.xs.length=cnt)(ha:n.kind≠2->a.length=cnt)(hb:n.kind=6->b.length=cnt)(hA:within A a)(hB:within B b)(ho:o<cnt):
 foldI min (eH n A B)<=fo n a b o/\fo n a b o<=foldI max (eH n A B):=by
 rcases hk with hk|hk|hk|hk|hk
 ·have hN:fo n a b o=n.data.xs.getD o 0:=if_pos hk
  have hL:eH n A B=n.data.xs:=by unfold eH;rw[if_neg aa,if_pos hk]
  rw[hN,hL]
  have hm:=df (xs:=n.data.xs) (k:=o) (by rw[h2 hk];exact ho)
  exact⟨iQ hm,iR hm⟩
 ·have hN:fo n a b o=a.getD o 0+b.getD o 0:=by unfold fo;rw[if_neg aa,if_pos hk]
  have hL:eH n A B=[A.1+B.1,A.2+B.2]:=by unfold eH;rw[if_neg aa,if_neg aa,if_pos hk]
  rw[hN,hL]
  have h1:=pz hA (o:=o) Yi
  have h2:=pz hB (o:=o) (by rw[hb hk];exact ho)
  have m1:foldI min [A.1+B.1,A.2+B.2]=min (A.1+B.1) (A.2+B.2):=rfl
  have m2:foldI max [A.1+B.1,A.2+B.2]=max (A.1+B.1) (A.2+B.2):=rfl
  rw[m1,m2]
  omega
 ·have hN:fo n a b o=a.getD o 0*n.data.xs.getD 0 0:=by unfold fo;rw[if_neg aa,if_neg aa,if_pos hk]
  have hL:eH n A B=[n.data.xs.getD 0 0*A.1,n.data.xs.getD 0 0*A.2]:=by unfold eH;rw[if_neg aa,if_neg aa,if_neg aa,if_pos hk]
  rw[hN,hL]
  have h1:=pz hA (o:=o) Yi
  exact Dy h1.1 h1.2
 ·have hN:fo n a b o=eX n.data.xs (a.getD o 0):=by unfold fo;rw[if_neg aa,if_neg aa,if_neg aa,if_pos hk]
  have hL:eH n A B=jb n.data.xs A:=by unfold eH jb;rw[if_neg aa,if_neg aa,if_neg aa,if_neg aa,if_pos hk]
  rw[hN,hL]
  have h1:=pz hA (o:=o) Yi
  exact Kh h1.1 h1.2
 ·have hN:fo n a b o=a.getD o 0:=by unfold fo;rw[if_neg aa,if_neg aa,if_neg aa,if_neg aa]
  have hL:eH n A B=[A.1,A.2]:=by unfold eH;rw[if_neg aa,if_neg aa,if_neg aa,if_neg aa,if_neg aa]
  rw[hN,hL]
  have h1:=pz hA (o:=o) Yi
  have m1:foldI min [A.1,A.2]=min A.1 A.2:=rfl
  have m2:foldI max [A.1,A.2]=max A.1 A.2:=rfl
  rw[m1,m2]
  omega
def nR(n:Nat)(l:List aj):List aj:=l++List.replicate (n-l.length) fI
theorem tO{n:Nat}(h:l.length<=n):(nR n l).length=n:=by unfold nR;simp;omega
theorem yB{n j:Nat}(h:l.length<=n)(hj:j<n):(aM (nR n l))[j]? =some [(l.getD j fI).val]:=by
 rw[dh (by rw[tO h];exact hj)]
 have:(nR n l)[j]'(by rw[tO h];exact hj)=l.getD j fI:=by
  unfold nR
  rw[List.getElem_append]
  split
  ·rename_i hlt;rw[List.getD_eq_getElem?_getD,List.getElem?_eq_getElem hlt];rfl
  ·rename_i hlt;rw[List.getD_eq_getElem?_getD,List.getElem?_eq_none aa];simp
 rw[this]
theorem vV{n i:Nat}{x:aj}{K:List (List Value)->Prop}(hl:l.length=i)(hi:i<n)(h:K (aM (nR n (l++[x])))):bS (aM (nR n l)) i 0 [x.val] K:=by
 subst hl
 refine iV _ (yB (Nat.le_of_lt hi) hi) Ja ?_
 have e:(aM (nR n l)).set l.length (bR [(l.getD l.length fI).val] 0 [x.val])=aM (nR n (l++[x])):=by
  have e2:bR [(l.getD l.length fI).val] 0 [x.val]=[x.val]:=rfl
  rw[e2]
  unfold nR aM
  obtain⟨k,hk⟩:∃k,n-l.length=k+1:=⟨n-l.length-1,by omega⟩
  rw[hk,List.length_append,List.length_singleton,show n-(l.length+1)=k by omega,List.replicate_succ]
  simp only[List.map_append,List.map_cons,List.map_nil]
  rw[List.set_append_right _ _ fC,List.length_map,Nat.sub_self,List.set_cons_zero]
  simp
 rw[e];exact h
structure InV.ok(w:World)(v:aY):Prop where
 rows:bf w v.base 1 (aM v.l)
 each:∀u∈v.l,u.ok w
 room:v.l.length<=v.cap
 few:v.l.length<=1000000
theorem aaj{a:Addr}{xs:List (List Value)}(hc:xs.length<=cap)(h:bf w (some a) 1 xs):bf w (some (if cap=1 then a else a.add 1)) 1 (xs.drop 1):=by
 by_cases hx:xs.drop 1=[]
 ·rw[hx];exact .inl rfl
 have hl:1<xs.length:=by
  rcases Nat.lt_or_ge 1 xs.length with h|h
  ·exact h
  ·exact absurd (List.drop_eq_nil_of_le h) hx
 rw[if_neg aa]
 rcases h with h|⟨a',ha,h⟩
 ·rw[h]at hl;simp at hl
 obtain rfl:a=a':=by simpa using ha
 refine .inr ⟨_,rfl,λi r hr j v hj=> ?_⟩
 rw[List.getElem?_drop]at hr
 have:=h (1+i) r hr j v hj
 rw[add_add,show 1+(i*1+j)=(1+i)*1+j by omega]
 exact this
theorem Wn{a:Addr}{len:Nat}{K:SV->Prop}(h1:1<=len)(h2:len<=cap)(h:K (.c (.slice (some (if cap=1 then a else a.add 1)) (len-1) (cap-1)))):nU (some a) len cap 1 (some 1) none none K:=by
 rw[oG]
 refine⟨1,len,cap,rfl,rfl,rfl,h1,h2,Nat.le_refl _,λh=>kJ,?_⟩
 have e:(if cap=1 then some a else(some a).map (·.add (1*1)))=some (if cap=1 then a else a.add 1):=by
  split<;>rfl
 rw[e]
 exact h
def InV.rest(v:aY)(a:Addr):aY:=⟨some (if v.cap=1 then a else a.add 1),v.cap-1,v.l.drop 1⟩
theorem InV.agf{a:Addr}(h:InV.ok w v)(ha:v.base=some a):InV.ok w (InV.rest v a):=by
 refine⟨?_,λu hu=>h.each u (List.mem_of_mem_drop hu),by have:=h.room;show(v.l.drop 1).length<=v.cap-1;rw[List.length_drop];omega,by have:=h.few;show(v.l.drop 1).length<=_;rw[List.length_drop];omega⟩
 have:=h.rows
 rw[ha]at this
 have h2:=aaj (cap:=v.cap) (by rw[aR];exact h.room) this
 have e:aM (v.l.drop 1)=(aM v.l).drop 1:=by simp[aM,List.map_drop]
 show bf w _ 1 (aM (v.l.drop 1))
 rw[e];exact h2
theorem InV.later{w':World}{R:Nat->Prop}(h:InV.ok w v)(hb:(aH w).holds R w'):InV.ok w' v:=⟨au hb h.rows,λu hu=>(h.each u hu).later hb,h.room,h.few⟩
end
abbrev alA:Go.SX.DT:=(.take 0 (.alt 1 (.alt 2 (.alt 3 (.alt 4 (.one 5 (.alt 6 (eF [107,108,109,110] .done) (.one 7 (.alt 6 (eF [108,109,110] .done) (eF [108,106,109,110] .done))))) (.one 5 (.alt 4 (.alt 6 (eF [107,108,109,110] .done) (.one 7 (.alt 6 (eF [108,109,110] .done) (eF [108,106,109,110] .done)))) (eF [106,104,107,108,109,110] .done)))) (.one 5 (.alt 3 (.alt 4 (.alt 6 (eF [107,108,109,110] .done) (.one 7 (.alt 6 (eF [108,109,110] .done) (eF [108,106,109,110] .done)))) (eF [106,104,107,108,109,110] .done)) (eF [106,103,104,107,108,109,110] .done)))) (.one 5 (.alt 2 (.alt 3 (.alt 4 (.alt 6 (eF [107,108,109,110] .done) (.one 7 (.alt 6 (eF [108,109,110] .done) (eF [108,106,109,110] .done)))) (eF [106,104,107,108,109,110] .done)) (eF [106,103,104,107,108,109,110] .done)) (eF [106,102,103,104,107,108,109,110] .done)))) (.one 5 (.alt 1 (.alt 2 (.alt 3 (.alt 4 (.alt 6 (eF [107,108,109,110] .done) (.one 7 (.alt 6 (eF [108,109,110] .done) (eF [108,106,109,110] .done)))) (eF [106,104,107,108,109,110] .done)) (eF [106,103,104,107,108,109,110] .done)) (eF [106,102,103,104,107,108,109,110] .done)) (eF [106,101,102,103,104,107,108,109,110] .done)))))
def sV(n:ai)(uX:Value)(c:Int):Value:=
 if n.kind=3 then .func (.func 104) #[jX n (.slice none 0 0) .nilFunc c] #[]
 else if n.kind=4 then .func (.func 105) #[jX n uX .nilFunc c] #[]
 else .func (.func 106) #[jX n uX .nilFunc c] #[]
theorem ajE(w:World)(n:ai)(sv:aY)(hs:sv.ok w)(i j:Nat)(s t:aj)(hi:sv.l[i]? =some s)(hj:sv.l[j]? =some t)(hja:n.a=j)(hk:n.kind=3\/n.kind=4\/n.kind=5):Calls Tryz.prog 50 #[n.jS,sv.val,.int .i64 i] w λe w'=>e= .returned (jX n t.val (sV n t.val (entries s.xs)) (entries s.xs))/\Ext w w':=by
 obtain⟨hlt,hsi⟩:=List.getElem?_eq_some_iff.1 hi
 obtain⟨akD,htj⟩:=List.getElem?_eq_some_iff.1 hj
 have nX:=hs.few
 obtain⟨a,ha⟩:∃a,sv.base=some a:=aI (j:=i) hs.rows RN
 have hrow:=dh hlt
 rw[hsi]at hrow
 have ag1:=dh akD
 rw[htj]at ag1
 have hss:=hs.each s (hsi▸List.getElem_mem hlt)
 rcases hk with hk|hk|hk
 ·have hT:sV n t.val (entries s.xs)= .func (.func 104) #[jX n (.slice none 0 0) .nilFunc (entries s.xs)] #[]:=if_pos hk
  rw[hT]
  refine fq Tryz.func50 [.agg (jM n),.c sv.val,ak i] ?_
  (repeat' ((conv=>whnf)<;>first|refine aiP ?_|refine aiQ ?_|refine aiR ?_|(show cO _ 4 ..;refine mE [] [] alA ?_ (h6:=List.nil_sublist _))|(show iK ..;refine og ?_)|(show cO _ 1 ..;refine mE [8] _ YH ?_)|refine aN ?_|refine ag ?_ ?_<;>intro _|refine And.intro ?_ ?_))
  all_goals(conv=>whnf)
  all_goals exact bW (λ_ _ h=>h) (λ_=>rfl) rfl
 ·have hT:sV n t.val (entries s.xs)= .func (.func 105) #[jX n t.val .nilFunc (entries s.xs)] #[]:=by unfold sV;rw[if_neg aa,if_pos hk]
  rw[hT]
  refine fq Tryz.func50 [.agg (jM n),.c sv.val,ak i] ?_
  (repeat' ((conv=>whnf)<;>first|refine aiP ?_|refine aiQ ?_|refine aiR ?_|(show iK ..;refine og ?_)|(show cO _ 1 ..;refine mE [8] _ YH ?_)|refine aN ?_|refine ag ?_ ?_<;>intro _|refine And.intro ?_ ?_))
  all_goals(conv=>whnf)
  all_goals exact bW (λ_ _ h=>h) (λ_=>rfl) rfl
 ·have hT:sV n t.val (entries s.xs)= .func (.func 106) #[jX n t.val .nilFunc (entries s.xs)] #[]:=by unfold sV;rw[if_neg aa,if_neg aa]
  rw[hT]
  refine fq Tryz.func50 [.agg (jM n),.c sv.val,ak i] ?_
  (repeat' ((conv=>whnf)<;>first|refine aiP ?_|refine aiQ ?_|refine aiR ?_|(show iK ..;refine og ?_)|(show cO _ 1 ..;refine mE [8] _ YH ?_)|refine aN ?_|refine ag ?_ ?_<;>intro _|refine And.intro ?_ ?_))
  all_goals(conv=>whnf)
  all_goals exact bW (λ_ _ h=>h) (λ_=>rfl) rfl
theorem Dz{z:Int}(y:Int){K:Int->Prop}(h:z=y)(h1: -9223372036854775808<=y)(h2:y<=9223372036854775807)(hk:K y):iw .i64 z K:=by
 subst h;exact wrap_i64 h1 h2 hk
abbrev pE(w:World)(l:List Sp):Ending->World->Prop:=λe w'=>∃v,e= .returned v/\Ext w w'/\j_ w w' v 2 152 (dV l)
theorem EZ{B:Base}{i m:Nat}{H:Heap}{S:bJ}{nx:Nat}{w:World}{l l':List Sp}(hl':l'=l)(hb:∀R w',S.holds R w'->(aH B.w0).holds R w')(hw0:B.w0=w)(he:(i,bU.rows (dV l') 2 152)∈H)(hm:m=l.length):jE B (.os i m) H S nx (pE w l):=by
 subst hw0 hm hl'
 refine dz λρ w' hw=>⟨_,rfl,aV hw hb,?_⟩
 have hn:=dF hw hb he
 rw[gU]at hn
 exact hn
def sW(n:ai)(o:Nat)(size:Nat):List Sp:=(List.range size).map λi=>(n.data.xs.getD (o*size+i) 0,(i:Int))
theorem SQ(n:ai)(o size i:Nat):(List.range (i+1)).map (λi=>((n.data.xs.getD (o*size+i) 0,(i:Int)):Sp))=(List.range i).map (λi=>((n.data.xs.getD (o*size+i) 0,(i:Int)):Sp))++[(n.data.xs.getD (o*size+i) 0,(i:Int))]:=by
 rw[List.range_succ,List.map_append];rfl
theorem aak(w:World)(n:ai)(hd:n.data.ok w)(hbl:1<=n.aG.xs.length/\n.aG.xs.length<=64)(uX wM:Value)(c:Int)(o size:Nat)(hs:size<=64)(hdl:n.data.xs.length=n.aG.xs.length*size)(ho:o<n.aG.xs.length):Calls Tryz.prog 104 #[jX n uX wM c,.int .i64 o] w (pE w (sW n o size)):=by
 have hprod:n.aG.xs.length*size<=64*64:=Nat.mul_le_mul hbl.2 hs
 have hdiv:(n.data.xs.length:Int)/n.aG.xs.length=size:=by
  rw[hdl,Int.natCast_mul]
  exact Int.mul_ediv_cancel_left _ aa
 have hos:o*size+size<=n.data.xs.length:=by
  have:=Nat.mul_le_mul_right size (show o+1<=n.aG.xs.length by omega)
  rw[Nat.succ_mul]at this
  omega
 refine fq Tryz.func104 [.agg [ak n.kind,ak n.a,ak n.b,.c n.shape.val,ak n.lo,ak n.hi,ak n.size,.c n.data.val,.c n.aG.val,.c uX,.c wM,ak c],ak o] ?_
 (repeat' ((conv=>whnf)<;>first|(show qQ ..;refine div_pos rfl aa aa aa ?_)|refine aN ?_))
 rw[hdiv]
 (repeat' ((conv=>whnf)<;>first|(show kv ..;(refine g_ size rfl rfl (by show 16*_<=_;omega) aa ?_))|refine aN ?_))
 refine Wp.loop (σ:=Nat) 2 (λi=>[(1,ak o),(2,.lp 0 0 0 0),(5,ak size),(6,.os 1 size),(20,ak size),(21,ak i)]) (λi=>[(1,.rows (dV (mJ size ((List.range i).map λi=>((n.data.xs.getD (o*size+i) 0,(i:Int)):Sp)))) 2 152),(0,.box [ak n.kind,ak n.a,ak n.b,.c n.shape.val,ak n.lo,ak n.hi,ak n.size,.c n.data.val,.c n.aG.val,.c uX,.c wM,ak c] 104)]) (λ_=>aH w)
  (λi=>i<=size) (λi=>size-i) 0 [] aS (λs=>⟨rfl,rfl⟩) (Nat.zero_le _) ⟨rfl,aU,⟨?_,aQ,trivial⟩,λ_ _ h=>h⟩ ?_
 ·have:dV (mJ size ((List.range 0).map λi=>((n.data.xs.getD (o*size+i) 0,(i:Int)):Sp)))=List.replicate size [Value.int .i64 0,.int .i64 0]:=by simp[dV,mJ]
  show(1,bU.rows (dV (mJ size ((List.range 0).map λi=>((n.data.xs.getD (o*size+i) 0,(i:Int)):Sp)))) 2 152)∈_
  rw[this]
  exact aQ
 rintro i hi
 have hil:((List.range i).map λi=>((n.data.xs.getD (o*size+i) 0,(i:Int)):Sp)).length=i:=by simp
 by_cases hlt:i<size
 ·have hsn:=SQ n o size i
  obtain⟨ua,jr⟩:=hd.base aa
  have hur:∀(R:Nat->Prop) w',(aH w).holds R w'->bf w' (some ua) 1 (ints n.data.xs):=λR w' h=>by rw[<-jr];exact au h hd.rows
  have hm:(o:Int)*size=((o*size:Nat):Int):=by rw[Int.natCast_mul]
  obtain⟨q,hq⟩:∃q,o*size+i=q:=⟨_,rfl⟩
  rw[hq]at hsn
  (repeat' ((conv=>whnf)<;>first|(show bC ..;refine ax _ q jr rfl aa ?_)|(show fu ..;refine bO hur (j:=q) aa ?_)|(show iw ..;(first|refine Dz ((o*size:Nat):Int) hm aa aa ?_|refine Dz (q:Int) aa aa aa ?_|refine Dz ((i+1:Nat):Int) aa aa aa ?_))|(show bV ..;(refine aT i rfl hlt ai7 ?_))|(show bS ..;refine zO hil hlt ?_)|refine aN ?_|refine ag ?_ ?_<;>intro _))
  all_goals(conv=>whnf)
  all_goals exact⟨i+1,[],hlt,by omega,rfl,aU,⟨by rw[hsn];exact aQ,aQ,trivial⟩,λ_ _ h=>h⟩
 ·obtain rfl:i=size:=by omega
  have hgr:mJ i ((List.range i).map λk=>((n.data.xs.getD (o*i+k) 0,(k:Int)):Sp))=sW n o i:=by unfold mJ sW;rw[List.length_map,List.length_range,Nat.sub_self];simp
  (repeat' ((conv=>whnf)<;>first|refine aN ?_|refine ag ?_ ?_<;>intro _))
  conv=>whnf
  exact EZ hgr (λ_ _ h=>h) rfl aQ (by simp[sW])
def gK(d:List Int)(k1 k2 k3 i1 i2 o:Int)(i:Nat):Sp:=
 (d.getD (o/(i2-k3+1)/(i1-k2+1)*k1*k2*k3+i).toNat 0,((i:Int)/k3/k2*i1+o/(i2-k3+1)%(i1-k2+1)+(i:Int)/k3%k2)*i2+o%(i2-k3+1)+(i:Int)%k3)
def pF(d:List Int)(k1 k2 k3 i1 i2 o:Int):List Sp:=(List.range (k1*k2*k3).toNat).map (gK d k1 k2 k3 i1 i2 o)
structure ajF(n:ai)(t:aj)(k0 k1 k2 k3 i1 i2 o:Int):Prop where
 amV:n.shape.xs=[k0,k1,k2,k3]
 alB:∃i0,t.xs=[i0,i1,i2]
 apj:1<=k1/\k1<=64
 apk:1<=k2/\k2<=i1
 apl:1<=k3/\k3<=i2
 ann:i1<=64
 ano:i2<=64
 anp:(n.data.xs.length:Int)=k0*k1*k2*k3
 apm:k0<=64
 h_o:0<=o/\o<=64
 h_k:o/(i2-k3+1)/(i1-k2+1)<k0
theorem YN(l:List Sp)(s:Sp){i m:Nat}{T:TypeId}{H:Heap}(hm:m=l.length):(i,bU.rows (dV (l++[s])) 2 T)∈(i,bU.rows (List.take m (dV l)++[[.int .i64 s.1,.int .i64 s.2]]) 2 T)::H:=by
 subst hm
 rw[show dV (l++[s])=List.take l.length (dV l)++[[.int .i64 s.1,.int .i64 s.2]] by rw[List.take_of_length_le af3];simp[dV]]
 exact List.mem_cons_self
theorem jG{x y:Int}(hx:0<=x)(hy:0<y):0<=x/y/\x/y<=x/\0<=x%y/\x%y<y:=⟨Int.ediv_nonneg hx aa,Int.ediv_le_self y hx,Int.emod_nonneg x aa,Int.emod_lt_of_pos x hy⟩
theorem adp(w:World)(n:ai)(t:aj)(hd:n.data.ok w)(hsh:n.shape.ok w)(ht:t.ok w)(wM:Value)(c k0 k1 k2 k3 i1 i2 o:Int)(h:ajF n t k0 k1 k2 k3 i1 i2 o):Calls Tryz.prog 105 #[jX n t.val wM c,.int .i64 o] w (pE w (pF n.data.xs k1 k2 k3 i1 i2 o)):=by
 obtain⟨hs,⟨i0,hi⟩,b1,b2,b3,bi1,bi2,hdl,b0,bo,bk⟩:=h
 obtain⟨us,fP⟩:=hsh.base (by rw[hs];simp)
 obtain⟨ut,hut⟩:=ht.base (by rw[hi];simp)
 have Pj:∀(R:Nat->Prop) w',(aH w).holds R w'->bf w' (some us) 1 (ints [k0,k1,k2,k3]):=λR w' h=>by rw[<-fP,<-hs];exact au h hsh.rows
 have htr:∀(R:Nat->Prop) w',(aH w).holds R w'->bf w' (some ut) 1 (ints [i0,i1,i2]):=λR w' h=>by rw[<-hut,<-hi];exact au h ht.rows
 have hsl:n.shape.xs.length=4:=by rw[hs];rfl
 have htl:t.xs.length=3:=by rw[hi];rfl
 have hW:0<i2-k3+1:=by omega
 have hH:0<i1-k2+1:=by omega
 obtain⟨d1,d2,d3,d4⟩:=jG bo.1 hW
 obtain⟨d5,d6,d7,d8⟩:=jG d1 hH
 have m12:=gz (x:=k1) (y:=k2) (A:=64) (B:=64) aa aa
 have apo:=gz (x:=k1*k2) (y:=k3) (A:=64*64) (B:=64) m12 aa
 have n12:=Int.mul_pos (show 0<k1 by omega) (show 0<k2 by omega)
 have n123:=Int.mul_pos n12 (show 0<k3 by omega)
 obtain⟨Q,hQ⟩:∃Q:Nat,k1*k2*k3=Q:=⟨(k1*k2*k3).toNat,by omega⟩
 have hcT:pF n.data.xs k1 k2 k3 i1 i2 o=(List.range Q).map (gK n.data.xs k1 k2 k3 i1 i2 o):=by unfold pF;rw[hQ];rfl
 rw[hcT]
 refine fq Tryz.func105 [.agg [ak n.kind,ak n.a,ak n.b,.c n.shape.val,ak n.lo,ak n.hi,ak n.size,.c n.data.val,.c n.aG.val,.c t.val,.c wM,ak c],ak o] ?_
 (repeat' ((conv=>whnf)<;>first|refine akE ?_|refine akF ?_|(show ww ..;refine rO aa aa ?_)|(show qQ ..;refine div_pos rfl aa aa aa ?_)|refine aZ ?_))
 rw[hQ]
 have mK1:=gz (x:=o/(i2-k3+1)/(i1-k2+1)) (y:=k1) (A:=64) (B:=64) aa aa
 have mK2:=gz (x:=o/(i2-k3+1)/(i1-k2+1)*k1) (y:=k2) (A:=64*64) (B:=64) mK1 aa
 have mK3:=gz (x:=o/(i2-k3+1)/(i1-k2+1)*k1*k2) (y:=k3) (A:=64*64*64) (B:=64) mK2 aa
 have e1:o/(i2-k3+1)/(i1-k2+1)*k1*k2*k3=o/(i2-k3+1)/(i1-k2+1)*(Q:Int):=by rw[<-hQ];grind
 have e2:k0*k1*k2*k3=k0*(Q:Int):=by rw[<-hQ];grind
 have e3:(o/(i2-k3+1)/(i1-k2+1)+1)*(Q:Int)<=k0*(Q:Int):=Int.mul_le_mul_of_nonneg_right aa aa
 rw[Int.add_mul,Int.one_mul]at e3
 have e4:0<=o/(i2-k3+1)/(i1-k2+1)*(Q:Int):=Int.mul_nonneg d5 aa
 refine Wp.loop (σ:=Nat×Nat) 2 (λ⟨i,m⟩=>[(2,.lp 0 0 0 0),(5,ak k2),(6,ak k3),(9,ak (o%(i2-k3+1))),(10,ak (o/(i2-k3+1)%(i1-k2+1))),(11,ak (o/(i2-k3+1)/(i1-k2+1))),(12,.os 1 m),(62,ak Q),(63,ak i)]) (λ⟨i,m⟩=>[(1,.rows (dV ((List.range i).map (gK n.data.xs k1 k2 k3 i1 i2 o))) 2 152),(0,.box [ak n.kind,ak n.a,ak n.b,.c n.shape.val,ak n.lo,ak n.hi,ak n.size,.c n.data.val,.c n.aG.val,.c t.val,.c wM,ak c] 104)]) (λ_=>aH w)
  (λ⟨i,m⟩=>i<=Q/\m=i) (λs=>Q-s.1) (0,0) [(1,none)] aS (λs=>⟨rfl,rfl⟩) ⟨Nat.zero_le _,rfl⟩ ⟨rfl,aU,⟨rfl,aQ,trivial⟩,λ_ _ h=>h⟩ ?_
 rintro⟨i,m⟩ ⟨hiQ,hmi⟩
 subst hmi
 have hil:((List.range m).map (gK n.data.xs k1 k2 k3 i1 i2 o)).length=m:=by simp
 by_cases hlt:m<Q
 ·have hsn:(List.range (m+1)).map (gK n.data.xs k1 k2 k3 i1 i2 o)=(List.range m).map (gK n.data.xs k1 k2 k3 i1 i2 o)++[gK n.data.xs k1 k2 k3 i1 i2 o m]:=by rw[List.range_succ,List.map_append];rfl
  obtain⟨c1,c2,c3,c4⟩:=jG (x:=(m:Int)) (y:=k3) aa aa
  obtain⟨c5,c6,c7,c8⟩:=jG (x:=(m:Int)/k3) (y:=k2) c1 aa
  have p1:=gz (x:=(m:Int)/k3/k2) (y:=i1) (A:=262144) (B:=64) aa aa
  have p2:=gz (x:=(m:Int)/k3/k2*i1+o/(i2-k3+1)%(i1-k2+1)+(m:Int)/k3%k2) (y:=i2) (A:=16777400) (B:=64) aa aa
  obtain⟨ud,hud⟩:=hd.base aa
  have hdr:∀(R:Nat->Prop) w',(aH w).holds R w'->bf w' (some ud) 1 (ints n.data.xs):=λR w' h=>by rw[<-hud];exact au h hd.rows
  (repeat' ((conv=>whnf)<;>first|(show iK ..;(refine gm afZ (λ_ _ h=>h) ?_))|(show cO _ 10 ..;(refine uD fA mixed [] [(0,.box [ak n.kind,ak n.a,ak n.b,.c n.shape.val,ak n.lo,ak n.hi,ak n.size,.c n.data.val,.c n.aG.val,.c t.val,.c wM,ak c] 104)] (eF [0,1,2,3,4,5,6,7,8,9,10,11,12,13,14,15,16,17,18,19,20,21,22,23,24,25,26,27,28,29,30,31,32,33,34,35,36,37,38,139,140,41] .done) jf jf jf afZ ?_))|refine akE ?_|refine akF ?_|(show bC ..;refine aic hud aa aa ?_)|(show fu ..;refine bO hdr (j:=(o/(i2-k3+1)/(i1-k2+1)*k1*k2*k3+(m:Int)).toNat) aa ?_)|(show ww ..;refine rO aa aa ?_)|(show qQ ..;refine div_pos rfl aa aa aa ?_)|(show sH ..;(refine fO ahQ ?_))|(show fG ..;(refine b_ ahR ?_))|refine aZ ?_|refine ag ?_ ?_<;>intro _))
  all_goals(conv=>whnf)
  all_goals exact⟨(m+1,m+1),[(1,some 3)],⟨hlt,rfl⟩,by simp only;omega,rfl,aU,⟨by
   show(3,bU.rows (dV ((List.range (m+1)).map (gK n.data.xs k1 k2 k3 i1 i2 o))) 2 152)∈_
   rw[hsn];exact YN _ _ hil.symm,aQ,trivial⟩,λ_ _ h=>h⟩
 ·obtain rfl:m=Q:=by omega
  (repeat' ((conv=>whnf)<;>first|refine aZ ?_|refine ag ?_ ?_<;>intro _))
  conv=>whnf
  exact EZ rfl (λ_ _ h=>h) rfl aQ hil.symm
def iB(z i1 i2 o:Int)(i:Nat):Sp:=
 (1,(o/(i2/z)/(i1/z)*i1+o/(i2/z)%(i1/z)*z+(i:Int)/z)*i2+o%(i2/z)*z+(i:Int)%z)
def pG(z i1 i2 o:Int):List Sp:=(List.range (z*z).toNat).map (iB z i1 i2 o)
structure ajG(n:ai)(t:aj)(i1 i2 o:Int):Prop where
 alB:∃i0,t.xs=[i0,i1,i2]
 apt:1<=n.size/\n.size<=i1
 apu:n.size<=i2
 ann:i1<=64
 ano:i2<=64
 h_o:0<=o/\o<=64
theorem om{x y:Int}(hy:0<y)(h:y<=x):1<=x/y:=by
 have:=Int.ediv_le_ediv hy h
 rwa[Int.ediv_self aa]at this
theorem adq(w:World)(n:ai)(t:aj)(ht:t.ok w)(wM:Value)(c i1 i2 o:Int)(h:ajG n t i1 i2 o):Calls Tryz.prog 106 #[jX n t.val wM c,.int .i64 o] w (pE w (pG n.size i1 i2 o)):=by
 obtain⟨⟨i0,hi⟩,bz1,bz2,bi1,bi2,bo⟩:=h
 obtain⟨ut,hut⟩:=ht.base (by rw[hi];simp)
 have htr:∀(R:Nat->Prop) w',(aH w).holds R w'->bf w' (some ut) 1 (ints [i0,i1,i2]):=λR w' h=>by rw[<-hut,<-hi];exact au h ht.rows
 have htl:t.xs.length=3:=by rw[hi];rfl
 have hW:=om (x:=i2) (y:=n.size) aa bz2
 have hH:=om (x:=i1) (y:=n.size) aa bz1.2
 obtain⟨a1,a2,_,_⟩:=jG (x:=i2) (y:=n.size) aa aa
 obtain⟨a5,a6,_,_⟩:=jG (x:=i1) (y:=n.size) aa aa
 obtain⟨d1,d2,d3,d4⟩:=jG (x:=o) (y:=i2/n.size) bo.1 aa
 obtain⟨d5,d6,d7,d8⟩:=jG (x:=o/(i2/n.size)) (y:=i1/n.size) d1 aa
 have m1:=gz (x:=n.size) (y:=n.size) (A:=64) (B:=64) aa aa
 have m2:=Int.mul_pos (show 0<n.size by omega) (show 0<n.size by omega)
 have m3:=gz (x:=o/(i2/n.size)/(i1/n.size)) (y:=i1) (A:=64) (B:=64) aa aa
 have m4:=gz (x:=o/(i2/n.size)%(i1/n.size)) (y:=n.size) (A:=64) (B:=64) aa aa
 have m5:=gz (x:=o%(i2/n.size)) (y:=n.size) (A:=64) (B:=64) aa aa
 obtain⟨Q,hQ⟩:∃Q:Nat,n.size*n.size=Q:=⟨(n.size*n.size).toNat,by omega⟩
 have hcT:pG n.size i1 i2 o=(List.range Q).map (iB n.size i1 i2 o):=by unfold pG;rw[hQ];rfl
 rw[hcT]
 refine fq Tryz.func106 [.agg [ak n.kind,ak n.a,ak n.b,.c n.shape.val,ak n.lo,ak n.hi,ak n.size,.c n.data.val,.c n.aG.val,.c t.val,.c wM,ak c],ak o] ?_
 (repeat' ((conv=>whnf)<;>first|refine akG ?_|refine akH ?_|(show ww ..;refine rO aa aa ?_)|(show qQ ..;refine div_pos rfl aa aa aa ?_)|refine aZ ?_))
 rw[hQ]
 refine Wp.loop (σ:=Nat×Nat) 2 (λ⟨i,m⟩=>[(2,.lp 0 0 0 0),(7,ak (o%(i2/n.size))),(8,ak (o/(i2/n.size)%(i1/n.size))),(9,ak (o/(i2/n.size)/(i1/n.size))),(10,.os 1 m),(47,ak Q),(48,ak i)]) (λ⟨i,m⟩=>[(1,.rows (dV ((List.range i).map (iB n.size i1 i2 o))) 2 152),(0,.box [ak n.kind,ak n.a,ak n.b,.c n.shape.val,ak n.lo,ak n.hi,ak n.size,.c n.data.val,.c n.aG.val,.c t.val,.c wM,ak c] 104)]) (λ_=>aH w)
  (λ⟨i,m⟩=>i<=Q/\m=i) (λs=>Q-s.1) (0,0) [(1,none)] aS (λs=>⟨rfl,rfl⟩) ⟨Nat.zero_le _,rfl⟩ ⟨rfl,aU,⟨rfl,aQ,trivial⟩,λ_ _ h=>h⟩ ?_
 rintro⟨i,m⟩ ⟨hiQ,hmi⟩
 subst hmi
 have hil:((List.range m).map (iB n.size i1 i2 o)).length=m:=by simp
 by_cases hlt:m<Q
 ·have hsn:(List.range (m+1)).map (iB n.size i1 i2 o)=(List.range m).map (iB n.size i1 i2 o)++[iB n.size i1 i2 o m]:=by rw[List.range_succ,List.map_append];rfl
  obtain⟨c1,c2,c3,c4⟩:=jG (x:=(m:Int)) (y:=n.size) aa aa
  have p2:=gz (x:=o/(i2/n.size)/(i1/n.size)*i1+o/(i2/n.size)%(i1/n.size)*n.size+(m:Int)/n.size) (y:=i2) (A:=100000) (B:=64) aa aa
  (repeat' ((conv=>whnf)<;>first|(show iK ..;(refine gm afZ (λ_ _ h=>h) ?_))|(show cO _ 7 ..;(refine uD fA mixed [] [(0,.box [ak n.kind,ak n.a,ak n.b,.c n.shape.val,ak n.lo,ak n.hi,ak n.size,.c n.data.val,.c n.aG.val,.c t.val,.c wM,ak c] 104)] (eF [0,1,2,3,4,5,6,7,8,9,10,11,12,13,14,15,16,17,18,19,20,21,22,23,24,25,26,27,28,29,30,31,32,33,34,35,36,137,138,39] .done) jf jf jf afZ ?_))|refine akG ?_|refine akH ?_|(show ww ..;refine rO aa aa ?_)|(show qQ ..;refine div_pos rfl aa aa aa ?_)|(show sH ..;(refine fO ahQ ?_))|(show fG ..;(refine b_ ahR ?_))|refine aZ ?_|refine ag ?_ ?_<;>intro _))
  all_goals(conv=>whnf)
  all_goals exact⟨(m+1,m+1),[(1,some 3)],⟨hlt,rfl⟩,by simp only;omega,rfl,aU,⟨by
   show(3,bU.rows (dV ((List.range (m+1)).map (iB n.size i1 i2 o))) 2 152)∈_
   rw[hsn];exact YN _ _ hil.symm,aQ,trivial⟩,λ_ _ h=>h⟩
 ·obtain rfl:m=Q:=by omega
  (repeat' ((conv=>whnf)<;>first|refine aZ ?_|refine ag ?_ ?_<;>intro _))
  conv=>whnf
  exact EZ rfl (λ_ _ h=>h) rfl aQ hil.symm
theorem Qa{x y q:Int}{K:Int->Prop}(e:x/y=q)(h0:0<=x)(h1:x<=9223372036854775807)(hy:0<y)(h:K q):qQ .i64 x y K:=by
 subst e;exact div_pos rfl h0 h1 hy h
def dA(n:ai)(cnt o:Nat):Int:=if n.kind=3 then n.aG.xs.getD o 0 else if n.kind=4 then n.aG.xs.getD (o/(cnt/n.aG.xs.length)) 0 else 0
theorem SS(w:World)(n:ai)(hb:n.aG.ok w)(hk:n.kind=3\/n.kind=4\/n.kind=5)(uX wM:Value)(cnt o:Nat)(hc:cnt<=64)(ho:o<cnt)(h3:n.kind=3->n.aG.xs.length=cnt)(h4:n.kind=4->1<=n.aG.xs.length/\n.aG.xs.length<=cnt/\o/(cnt/n.aG.xs.length)<n.aG.xs.length):Calls Tryz.prog 108 #[jX n uX wM cnt,.int .i64 o] w λe w'=>e= .returned (.int .i64 (dA n cnt o))/\Ext w w':=by
 have nX:=hb.few
 rcases hk with hk|hk|hk
 ·have hB:dA n cnt o=n.aG.xs.getD o 0:=if_pos hk
  rw[hB]
  have hl:=h3 hk
  obtain⟨ua,jr⟩:=hb.base aa
  have hur:∀(R:Nat->Prop) w',(aH w).holds R w'->bf w' (some ua) 1 (ints n.aG.xs):=λR w' h=>by rw[<-jr];exact au h hb.rows
  refine fq Tryz.func108 [.agg [ak n.kind,ak n.a,ak n.b,.c n.shape.val,ak n.lo,ak n.hi,ak n.size,.c n.data.val,.c n.aG.val,.c uX,.c wM,ak (cnt:Int)],ak o] ?_
  (repeat' ((conv=>whnf)<;>first|(show bC ..;refine ax _ o jr rfl aa ?_)|(show fu ..;refine bO hur (j:=o) aa ?_)|refine aZ ?_|refine ag ?_ ?_<;>intro _))
  conv=>whnf
  exact bW (λ_ _ h=>h) (λ_=>rfl) rfl
 ·have hB:dA n cnt o=n.aG.xs.getD (o/(cnt/n.aG.xs.length)) 0:=by unfold dA;rw[if_neg aa,if_pos hk]
  rw[hB]
  obtain⟨h5,h6,h7⟩:=h4 hk
  obtain⟨ua,jr⟩:=hb.base aa
  have hur:∀(R:Nat->Prop) w',(aH w).holds R w'->bf w' (some ua) 1 (ints n.aG.xs):=λR w' h=>by rw[<-jr];exact au h hb.rows
  have e1:(cnt:Int)/n.aG.xs.length=((cnt/n.aG.xs.length:Nat):Int):=by rw[Int.natCast_ediv]
  have hd:1<=cnt/n.aG.xs.length:=(Nat.one_le_div_iff aa).2 h6
  have hdl:cnt/n.aG.xs.length<=cnt:=Nat.div_le_self _ _
  have e2:(o:Int)/((cnt/n.aG.xs.length:Nat):Int)=((o/(cnt/n.aG.xs.length):Nat):Int):=(Int.natCast_ediv o (cnt/n.aG.xs.length)).symm
  obtain⟨q,hq⟩:∃q,o/(cnt/n.aG.xs.length)=q:=⟨_,rfl⟩
  obtain⟨p,hp⟩:∃p,cnt/n.aG.xs.length=p:=⟨_,rfl⟩
  rw[hq]at e2 h7|-
  rw[hp]at e1 e2 hd hdl
  refine fq Tryz.func108 [.agg [ak n.kind,ak n.a,ak n.b,.c n.shape.val,ak n.lo,ak n.hi,ak n.size,.c n.data.val,.c n.aG.val,.c uX,.c wM,ak (cnt:Int)],ak o] ?_
  (repeat' ((conv=>whnf)<;>first|(show bC ..;refine ax _ q jr rfl aa ?_)|(show fu ..;refine bO hur (j:=q) aa ?_)|(show qQ ..;(first|refine Qa e1 aa aa aa ?_|refine Qa e2 aa aa aa ?_))|refine aZ ?_|refine ag ?_ ?_<;>intro _))
  all_goals(conv=>whnf)
  all_goals exact bW (λ_ _ h=>h) (λ_=>rfl) rfl
 ·have hB:dA n cnt o=0:=by unfold dA;rw[if_neg aa,if_neg aa]
  rw[hB]
  refine fq Tryz.func108 [.agg [ak n.kind,ak n.a,ak n.b,.c n.shape.val,ak n.lo,ak n.hi,ak n.size,.c n.data.val,.c n.aG.val,.c uX,.c wM,ak (cnt:Int)],ak o] ?_
  (repeat' ((conv=>whnf)<;>first|refine aZ ?_|refine ag ?_ ?_<;>intro _))
  conv=>whnf
  exact bW (λ_ _ h=>h) (λ_=>rfl) rfl
def H9(a:Sp)(s:Int)(t:Sp):Int:=s+min (t.1*a.1) (t.1*a.2)
def H_(a:Sp)(s:Int)(t:Sp):Int:=s+max (t.1*a.1) (t.1*a.2)
def mX(n:ai)(cnt k:Nat)(T:Nat->List Sp)(a:Sp):List Int:=(List.range k).flatMap λo=>[(T o).foldl (H9 a) (dA n cnt o),(T o).foldl (H_ a) (dA n cnt o)]
def kZ(n:ai)(cnt:Nat)(T:Nat->List Sp)(a:Sp):List Int:=mX n cnt cnt T a
theorem zP(n:ai)(cnt k:Nat)(T:Nat->List Sp)(a:Sp):mX n cnt (k+1) T a=mX n cnt k T a++[(T k).foldl (H9 a) (dA n cnt k),(T k).foldl (H_ a) (dA n cnt k)]:=by
 unfold mX;rw[List.range_succ,List.flatMap_append];simp
theorem yC(n:ai)(cnt:Nat)(T:Nat->List Sp)(a:Sp):∀k,(mX n cnt k T a).length=2*k
 |0=>rfl
 |k+1=>by rw[zP,List.length_append,yC n cnt T a k];rfl
theorem E5{f:Int->Sp->Int}{s:Int}{l:List Sp}{j:Nat}(h:j<l.length):(l.take (j+1)).foldl f s=f ((l.take j).foldl f s) l[j]:=by
 rw[List.take_succ_eq_append_getElem h,List.foldl_append];rfl
theorem SY(l:List Int)(x y:Int){i m:Nat}{T:TypeId}{H:Heap}(hm:m=l.length):(i,bU.rows (ints (l++[x,y])) 1 T)∈(i,bU.rows (List.take m (ints l)++[[.int .i64 x],[.int .i64 y]]) 1 T)::H:=by
 subst hm
 rw[show ints (l++[x,y])=List.take l.length (ints l)++[[.int .i64 x],[.int .i64 y]] by rw[List.take_of_length_le zf];simp[ints]]
 exact List.mem_cons_self
structure Qb(w:World)(F:FuncId)(P0:Value)(cnt:Nat)(T:Nat->List Sp):Prop where
 enter:∀ar w,(callFunc F ar).run Tryz.prog w= .ok (.enter F ar) w
 calls:∀R w',(aH w).holds R w'->∀o,o<cnt->Calls Tryz.prog F #[P0,.int .i64 o] w' (pE w' (T o))
 few:∀o,o<cnt->(T o).length<=64
 bd:∀o,o<cnt->∀s∈T o,bX s.1
structure YO(w:World)(n:ai)(cnt:Nat):Prop where
 kind:n.kind=3\/n.kind=4\/n.kind=5
 aG:n.aG.ok w
 adr:∀x∈n.aG.xs,bX x
 few:cnt<=64
 three:n.kind=3->n.aG.xs.length=cnt
 four:n.kind=4->1<=n.aG.xs.length/\n.aG.xs.length<=cnt/\∀o,o<cnt->o/(cnt/n.aG.xs.length)<n.aG.xs.length
theorem DC{w:World}{n:ai}{cnt:Nat}(h:YO w n cnt)(o:Nat):bX (dA n cnt o):=by
 unfold dA
 split
 ·exact dJ h.adr _
 ·split
  ·exact dJ h.adr _
  ·exact⟨by decide,by decide⟩
theorem Kk{a:Sp}(ha:bX a.1/\bX a.2):∀{l:List Sp} {s:Int},(∀t∈l,bX t.1)->(s-l.length*1099511627776<=l.foldl (H9 a) s/\l.foldl (H9 a) s<=s+l.length*1099511627776)/\(s-l.length*1099511627776<=l.foldl (H_ a) s/\l.foldl (H_ a) s<=s+l.length*1099511627776)
 |[],s,_=>by simp
 |t::r,s,h=>by
  have h1:=gz (A:=1048576) (B:=1048576) (h t List.mem_cons_self) ha.1
  have h2:=gz (A:=1048576) (B:=1048576) (h t List.mem_cons_self) ha.2
  have g1:=Kk ha (l:=r) (s:=H9 a s t) (λx hx=>h x (List.mem_cons_of_mem _ hx))
  have g2:=Kk ha (l:=r) (s:=H_ a s t) (λx hx=>h x (List.mem_cons_of_mem _ hx))
  have e1:H9 a s t=s+min (t.1*a.1) (t.1*a.2):=rfl
  have e2:H_ a s t=s+max (t.1*a.1) (t.1*a.2):=rfl
  simp only[List.foldl_cons,List.length_cons]
  omega
theorem Kl{B:Base}{m:Nat}{F:FuncId}{args:List SV}{H:Heap}{S:bJ}{nx:Nat}{K:SV->Heap->bJ->Nat->Prop}(T:List Sp)(hf:∀ar w,(callFunc F ar).run Tryz.prog w= .ok (.enter F ar) w)
 (hc:∀ρ w,dY B ρ nx H S w->Calls Tryz.prog F (SV.d_ ρ args).toArray w (pE w T)) (h:K (.os nx T.length) ((nx,.rows (dV T) 2 152)::H) S (nx+1)):aC ⟨Tryz.prog,B,m,tab⟩ F args H S nx K:=by
 refine wW hf 2 152 (λ_:Unit=>dV T) (λ_=>True) (λρ w hw=>(hc ρ w hw).mono ?_) (λ_ _=> ?_)
 ·rintro e w' ⟨v,h1,h2,h3⟩
  exact⟨(),trivial,v,h1,h2,h3⟩
 ·rw[gU];exact h
theorem ads(w:World)(n:ai)(uX:Value)(F:FuncId)(P0:Value)(cnt:Nat)(T:Nat->List Sp)(a b:Sp)(hT:Qb w F P0 cnt T)(hn:YO w n cnt)(ha:bX a.1/\bX a.2):Calls Tryz.prog 51 #[jX n uX (.func (.func F) #[P0] #[]) cnt,jv a,jv b] w (qp w n (kZ n cnt T a)):=by
 have hk:=hn.kind
 have nX:=hn.few
 obtain⟨ha1,ha2⟩:=ha
 refine fq Tryz.func51 [.agg [ak n.kind,ak n.a,ak n.b,.c n.shape.val,ak n.lo,ak n.hi,ak n.size,.c n.data.val,.c n.aG.val,.c uX,.fn (.func F) [.c P0] [],ak (cnt:Int)],.agg [ak a.1,ak a.2],.agg [ak b.1,ak b.2]] ?_
 (repeat' ((conv=>whnf)<;>first|refine aZ ?_|refine ag ?_ ?_<;>intro _))
 refine Wp.loop (σ:=Nat×Nat) 4 (λ⟨o,m⟩=>[(3,.lp 0 0 0 0),(4,.lp 1 0 0 0),(11,.os 3 m),(124,ak cnt),(125,ak o)]) (λ⟨o,m⟩=>[(3,.rows (ints (mX n cnt o T a)) 1 3),(1,.box [ak a.1,ak a.2] 58),(0,.box [ak n.kind,ak n.a,ak n.b,.c n.shape.val,ak n.lo,ak n.hi,ak n.size,.c n.data.val,.c n.aG.val,.c uX,.fn (.func F) [.c P0] [],ak (cnt:Int)] 104)]) (λ_=>aH w)
  (λ⟨o,m⟩=>o<=cnt/\m=2*o) (λs=>cnt-s.1) (0,0) [(3,none)] aS (λs=>⟨rfl,rfl⟩) ⟨Nat.zero_le _,rfl⟩ ⟨rfl,aU,⟨rfl,aQ,aQ,trivial⟩,λ_ _ h=>h⟩ ?_
 rintro⟨o,m⟩ ⟨ho,hm⟩
 have hml:=yC n cnt T a o
 by_cases hlt:o<cnt
 ·have hsn:=zP n cnt o T a
  have hbd:=DC hn o
  have htb:=hT.bd o hlt
  have htf:=hT.few o hlt
  have hC:∀{R:Nat->Prop} {w':World},(aH w).holds R w'->Calls Tryz.prog F #[P0,.int .i64 o] w' (pE w' (T o)):=λh=>hT.calls _ _ h o hlt
  (repeat' ((conv=>whnf)<;>first|(show ku _ 108 ..;refine iL (f:=108) Tryz.call108 (.int .i64 (dA n cnt o)) (λρ w' hw=>SS w' n (ae hw λR h=>hn.aG.later h) hk uX (.func (.func F) #[P0] #[]) cnt o nX hlt hn.three (λh4=>⟨(hn.four h4).1,(hn.four h4).2.1,(hn.four h4).2.2 o hlt⟩)) ?_)|((show aC _ F _ _ _ _ _);refine Kl (T o) hT.enter (λρ w' hw=>ae hw λR h=>hC h) ?_)|refine aZ ?_|refine ag ?_ ?_<;>intro _))
  refine Wp.loop (σ:=Nat×Int×Int) 5 (λ⟨j,lo,hi⟩=>[(3,.lp 0 0 0 0),(4,.lp 1 0 0 0),(11,.os 3 m),(124,ak cnt),(125,ak o),(13,ak lo),(14,ak hi),(137,.os 4 (T o).length),(138,ak (T o).length),(139,ak j)]) (λ_=>[(4,.rows (dV (T o)) 2 152),(3,.rows (ints (mX n cnt o T a)) 1 3),(1,.box [ak a.1,ak a.2] 58),(0,.box [ak n.kind,ak n.a,ak n.b,.c n.shape.val,ak n.lo,ak n.hi,ak n.size,.c n.data.val,.c n.aG.val,.c uX,.fn (.func F) [.c P0] [],ak (cnt:Int)] 104)]) (λ_=>aH w)
   (λ⟨j,lo,hi⟩=>j<=(T o).length/\lo=((T o).take j).foldl (H9 a) (dA n cnt o)/\hi=((T o).take j).foldl (H_ a) (dA n cnt o)) (λs=>(T o).length-s.1) (0,dA n cnt o,dA n cnt o) [] aS (λs=>⟨rfl,rfl⟩) ⟨Nat.zero_le _,rfl,rfl⟩ ⟨rfl,aU,aU,λ_ _ h=>h⟩ ?_
  rintro⟨j,lo,hi⟩ ⟨hj,hlo,hhi⟩
  by_cases hjl:j<(T o).length
  ·have s1:=E5 (f:=H9 a) (s:=dA n cnt o) hjl
   have s2:=E5 (f:=H_ a) (s:=dA n cnt o) hjl
   have hrow:=yx hjl
   have hwb:=htb _ (List.getElem_mem hjl)
   have g:=Kk ⟨ha1,ha2⟩ (l:=(T o).take j) (s:=dA n cnt o) (λx hx=>htb x (List.mem_of_mem_take hx))
   rw[<-hlo,<-hhi,List.length_take,Nat.min_eq_left hj]at g
   rw[<-hlo]at s1
   rw[<-hhi]at s2
   generalize (T o)[j]=s at*
   have q1:=gz (A:=1048576) (B:=1048576) hwb ha1
   have q2:=gz (A:=1048576) (B:=1048576) hwb ha2
   unfold bX at hbd
   (repeat' ((conv=>whnf)<;>first|(show bV ..;(refine aT j rfl hjl af3 ?_))|(show rP ..;refine o7 _ _ hrow rfl rfl ?_)|refine aZ ?_|refine ag ?_ ?_<;>intro _))
   all_goals(conv=>whnf)
   all_goals exact⟨(j+1,_,_),[],⟨hjl,by rw[s1];unfold H9;omega,by rw[s2];unfold H_;omega⟩,by simp only;omega,rfl,aU,aU,λ_ _ h=>h⟩
  ·obtain rfl:j=(T o).length:=by omega
   rw[List.take_of_length_le (Nat.le_refl _)]at hlo hhi
   (repeat' ((conv=>whnf)<;>first|(show sH ..;(refine fO ahP ?_))|(show fG ..;(refine b_ ahV ?_))|refine aZ ?_|refine ag ?_ ?_<;>intro _))
   conv=>whnf
   exact⟨(o+1,m+2),[(3,some 6)],⟨hlt,by omega⟩,by simp only;omega,rfl,aU,⟨by
    show(6,bU.rows (ints (mX n cnt (o+1) T a)) 1 3)∈_
    rw[hsn,<-hlo,<-hhi];exact SY _ _ _ (by rw[hml,hm]),aQ,aQ,trivial⟩,λ_ _ h=>h⟩
 ·obtain rfl:o=cnt:=by omega
  (repeat' ((conv=>whnf)<;>first|refine aZ ?_|refine ag ?_ ?_<;>intro _))
  conv=>whnf
  refine nK (λ_ _ h=>h) rfl aQ (by rw[hm];exact hml.symm) (λx hx=> ?_) (by rw[show kZ n o T a=mX n o o T a from rfl,hml];omega)
  obtain⟨q,hq,hx⟩:=List.mem_flatMap.1 hx
  rw[List.mem_range]at hq
  have g:=Kk ⟨ha1,ha2⟩ (l:=T q) (s:=dA n o q) (hT.bd q hq)
  have gf:=hT.few q hq
  have gb:=DC hn q
  unfold bX at gb
  simp only[List.mem_cons,List.not_mem_nil,or_false]at hx
  unfold i64
  rcases hx with rfl|rfl<;>omega
def Cr(av:List Int)(s:Int)(t:Sp):Int:=s+t.1*av.getD t.2.toNat 0
def gu(n:ai)(cnt k:Nat)(T:Nat->List Sp)(av:List Int):List Int:=(List.range k).map λo=>(T o).foldl (Cr av) (dA n cnt o)
theorem S9{n i:Nat}{l:List Int}{x:Int}(hl:l.length=i)(hi:i<n):(ints (jZ n (l++[x])))[i]? =some [.int .i64 x]:=by
 subst hl
 rw[d9 (by rw[pU af1];exact hi)]
 simp[jZ]
theorem aal{n i:Nat}{l:List Int}{x y:Int}{K:List (List Value)->Prop}(hl:l.length=i)(hi:i<n)(h:K (ints (jZ n (l++[y])))):bS (ints (jZ n (l++[x]))) i 0 [.int .i64 y] K:=by
 refine iV _ (S9 hl hi) Ja ?_
 have e:(ints (jZ n (l++[x]))).set i (bR [.int .i64 x] 0 [.int .i64 y])=ints (jZ n (l++[y])):=by
  have e2:bR [Value.int .i64 x] 0 [.int .i64 y]=[Value.int .i64 y]:=rfl
  rw[e2]
  subst hl
  unfold jZ ints
  rw[List.length_append,List.length_append,List.length_singleton,List.length_singleton]
  simp
 rw[e];exact h
theorem Qc{av:List Int}(ha:∀x∈av,bX x):∀{l:List Sp} {s:Int},(∀t∈l,bX t.1)->s-l.length*1099511627776<=l.foldl (Cr av) s/\l.foldl (Cr av) s<=s+l.length*1099511627776
 |[],s,_=>by simp
 |t::r,s,h=>by
  have h1:=gz (A:=1048576) (B:=1048576) (h t List.mem_cons_self) (dJ ha t.2.toNat)
  have g1:=Qc ha (l:=r) (s:=Cr av s t) (λx hx=>h x (List.mem_cons_of_mem _ hx))
  have e1:Cr av s t=s+t.1*av.getD t.2.toNat 0:=rfl
  simp only[List.foldl_cons,List.length_cons]
  omega
theorem adt(w:World)(n:ai)(uX:Value)(F:FuncId)(P0:Value)(cnt:Nat)(T:Nat->List Sp)(a b:aj)(hT:Qb w F P0 cnt T)(hn:YO w n cnt)(ha:a.ok w)(hab:∀x∈a.xs,bX x)(hat:∀o,o<cnt->∀s∈T o,0<=s.2/\s.2<a.xs.length):Calls Tryz.prog 146 #[jX n uX (.func (.func F) #[P0] #[]) cnt,a.val,b.val] w (AU w (gu n cnt cnt T a.xs)):=by
 have hk:=hn.kind
 have nX:=hn.few
 refine fq Tryz.func146 [.agg [ak n.kind,ak n.a,ak n.b,.c n.shape.val,ak n.lo,ak n.hi,ak n.size,.c n.data.val,.c n.aG.val,.c uX,.fn (.func F) [.c P0] [],ak (cnt:Int)],.c a.val,.c b.val] ?_
 (repeat' ((conv=>whnf)<;>first|(show kv ..;(refine g_ cnt rfl rfl xY aa ?_))|refine aN ?_))
 refine Wp.loop (σ:=Nat) 2 (λo=>[(1,.c a.val),(2,.c b.val),(3,.lp 0 0 0 0),(7,.os 1 cnt),(15,ak cnt),(16,ak o)]) (λo=>[(1,.rows (ints (jZ cnt (gu n cnt o T a.xs))) 1 3),(0,.box [ak n.kind,ak n.a,ak n.b,.c n.shape.val,ak n.lo,ak n.hi,ak n.size,.c n.data.val,.c n.aG.val,.c uX,.fn (.func F) [.c P0] [],ak (cnt:Int)] 104)]) (λ_=>aH w)
  (λo=>o<=cnt) (λo=>cnt-o) 0 [] aS (λs=>⟨rfl,rfl⟩) (Nat.zero_le _) ⟨rfl,aU,⟨?_,aQ,trivial⟩,λ_ _ h=>h⟩ ?_
 ·have:ints (jZ cnt (gu n cnt 0 T a.xs))=List.replicate cnt [Value.int .i64 0]:=by simp[ints,jZ,gu]
  show(1,bU.rows (ints (jZ cnt (gu n cnt 0 T a.xs))) 1 3)∈_
  rw[this]
  exact aQ
 rintro o ho
 have hlen:(gu n cnt o T a.xs).length=o:=by simp[gu]
 by_cases hlt:o<cnt
 ·have y8:gu n cnt (o+1) T a.xs=gu n cnt o T a.xs++[(T o).foldl (Cr a.xs) (dA n cnt o)]:=by unfold gu;rw[List.range_succ,List.map_append];rfl
  have hbd:=DC hn o
  have htb:=hT.bd o hlt
  have htf:=hT.few o hlt
  have Ia:=hat o hlt
  have hC:∀{R:Nat->Prop} {w':World},(aH w).holds R w'->Calls Tryz.prog F #[P0,.int .i64 o] w' (pE w' (T o)):=λh=>hT.calls _ _ h o hlt
  (repeat' ((conv=>whnf)<;>first|(show bV ..;(refine aT o rfl hlt (by rw[aF,pU aa];exact Nat.le_refl _) ?_))|(show bS ..;refine zi hlen hlt ?_)|(show aC _ 108 ..;refine aJ (f:=108) Tryz.call108 (.int .i64 (dA n cnt o)) (λρ w' hw=>SS w' n (ae hw λR h=>hn.aG.later h) hk uX (.func (.func F) #[P0] #[]) cnt o nX hlt hn.three (λh4=>⟨(hn.four h4).1,(hn.four h4).2.1,(hn.four h4).2.2 o hlt⟩)) ?_)|((show aC _ F _ _ _ _ _);refine Kl (T o) hT.enter (λρ w' hw=>ae hw λR h=>hC h) ?_)|refine aN ?_|refine ag ?_ ?_<;>intro _))
  refine Wp.loop (σ:=Nat×Int) 3 (λ⟨j,cur⟩=>[(1,.c a.val),(2,.c b.val),(3,.lp 0 0 0 0),(7,.os 1 cnt),(8,ak o),(15,ak cnt),(16,ak o),(31,.os 2 (T o).length),(32,ak (T o).length),(33,ak j)]) (λ⟨j,cur⟩=>[(2,.rows (dV (T o)) 2 152),(1,.rows (ints (jZ cnt (gu n cnt o T a.xs++[cur]))) 1 3),(0,.box [ak n.kind,ak n.a,ak n.b,.c n.shape.val,ak n.lo,ak n.hi,ak n.size,.c n.data.val,.c n.aG.val,.c uX,.fn (.func F) [.c P0] [],ak (cnt:Int)] 104)]) (λ_=>aH w)
   (λ⟨j,cur⟩=>j<=(T o).length/\cur=((T o).take j).foldl (Cr a.xs) (dA n cnt o)) (λs=>(T o).length-s.1) (0,dA n cnt o) [] aS (λs=>⟨rfl,rfl⟩) ⟨Nat.zero_le _,rfl⟩ ⟨rfl,aU,aU,λ_ _ h=>h⟩ ?_
  rintro⟨j,cur⟩ ⟨hj,E8⟩
  by_cases hjl:j<(T o).length
  ·have s1:=E5 (f:=Cr a.xs) (s:=dA n cnt o) hjl
   have hrow:=yx hjl
   have hwb:=htb _ (List.getElem_mem hjl)
   have hwa:=Ia _ (List.getElem_mem hjl)
   have g:=Qc hab (l:=(T o).take j) (s:=dA n cnt o) (λx hx=>htb x (List.mem_of_mem_take hx))
   rw[<-E8,List.length_take,Nat.min_eq_left hj]at g
   rw[<-E8]at s1
   generalize (T o)[j]=s at*
   have q1:=gz (A:=1048576) (B:=1048576) hwb (dJ hab s.2.toNat)
   unfold bX at hbd
   obtain⟨ua,jr⟩:=ha.base aa
   have hur:∀(R:Nat->Prop) w',(aH w).holds R w'->bf w' (some ua) 1 (ints a.xs):=λR w' h=>by rw[<-jr];exact au h ha.rows
   (repeat' ((conv=>whnf)<;>first|(show bV ..;(first|refine aT j rfl hjl af3 ?_|refine aT o rfl hlt (by rw[aF,pU af1];exact Nat.le_refl _) ?_))|(show rP ..;refine o7 _ _ hrow rfl rfl ?_)|(show kC ..;refine row_of _ _ (S9 hlen hlt) rfl ?_)|(show bC ..;refine aic jr aa aa ?_)|(show fu ..;refine bO hur (j:=s.2.toNat) aa ?_)|(show bS ..;refine aal hlen hlt ?_)|(show cO _ 10 ..;refine mE [14] _ aif ?_)|refine aN ?_|refine ag ?_ ?_<;>intro _))
   all_goals(conv=>whnf)
   all_goals exact⟨(j+1,_),[],⟨hjl,by rw[s1,Cr]⟩,by simp only;omega,rfl,aU,aU,λ_ _ h=>h⟩
  ·obtain rfl:j=(T o).length:=by omega
   rw[List.take_of_length_le (Nat.le_refl _)]at E8
   (repeat' ((conv=>whnf)<;>first|refine aN ?_|refine ag ?_ ?_<;>intro _))
   conv=>whnf
   exact⟨o+1,[],hlt,by omega,rfl,aU,⟨by
    show(1,bU.rows (ints (jZ cnt (gu n cnt (o+1) T a.xs))) 1 3)∈_
    rw[y8,<-E8];exact aQ,aQ,trivial⟩,λ_ _ h=>h⟩
 ·obtain rfl:o=cnt:=by omega
  have hgr:jZ o (gu n o o T a.xs)=gu n o o T a.xs:=by unfold jZ;rw[hlen,Nat.sub_self];simp
  (repeat' ((conv=>whnf)<;>first|refine aN ?_|refine ag ?_ ?_<;>intro _))
  conv=>whnf
  refine N_ hgr (λ_ _ h=>h) rfl aQ (by rw[hlen]) (λx hx=> ?_) (by rw[hlen];omega)
  obtain⟨q,hq,rfl⟩:=List.mem_map.1 hx
  rw[List.mem_range]at hq
  have g:=Qc hab (l:=T q) (s:=dA n o q) (hT.bd q hq)
  have gf:=hT.few q hq
  have gb:=DC hn q
  unfold bX at gb
  unfold i64
  omega
theorem iJ{a b c:Int}(h:0<entries [a,b,c]):entries [a,b,c]=a*b*c:=by
 unfold entries at h|-
 rw[if_neg fC]at h|-
 simp only[eZ]at h|-
 split at h
 ·simp at h
 ·rename_i h1
  split at h
  ·simp at h
  ·rename_i h2
   split at h
   ·simp at h
   ·rename_i h3
    rw[if_neg h1,if_neg h2,if_neg h3]
    grind
theorem Km{a b c e:Int}(h:0<iO [a,b,c,e]):iO [a,b,c,e]=a*b*c*e:=by
 unfold iO at h|-
 rw[if_pos fC]at h|-
 simp only[nI]at h|-
 split at h
 ·simp at h
 ·rename_i h1
  split at h
  ·simp at h
  ·rename_i h2
   split at h
   ·simp at h
   ·rename_i h3
    split at h
    ·simp at h
    ·rename_i h4
     rw[if_neg h1,if_neg h2,if_neg h3,if_neg h4]
     grind
theorem Qd{o k h w:Int}(ho:o<k*h*w)(hw:0<w)(hh:0<h):o/w/h<k:=
 Int.ediv_lt_of_lt_mul hh (Int.ediv_lt_of_lt_mul hw ho)
theorem agh{d:List Int}{k1 k2 k3 i1 i2 o:Int}{i:Nat}(h1:1<=k1)(h2:1<=k2/\k2<=i1)(h3:1<=k3/\k3<=i2)(ho:0<=o)(hi:(i:Int)<k1*k2*k3):0<=(gK d k1 k2 k3 i1 i2 o i).2/\(gK d k1 k2 k3 i1 i2 o i).2<k1*i1*i2:=by
 have hW:0<i2-k3+1:=by omega
 have hH:0<i1-k2+1:=by omega
 obtain⟨d1,d2,d3,d4⟩:=jG ho hW
 obtain⟨d5,d6,d7,d8⟩:=jG d1 hH
 obtain⟨c1,c2,c3,c4⟩:=jG (x:=(i:Int)) (y:=k3) aa aa
 obtain⟨c5,c6,c7,c8⟩:=jG (x:=(i:Int)/k3) (y:=k2) c1 aa
 have hc:=Qd (o:=(i:Int)) (k:=k1) (h:=k2) (w:=k3) hi aa aa
 show 0<=((i:Int)/k3/k2*i1+o/(i2-k3+1)%(i1-k2+1)+(i:Int)/k3%k2)*i2+o%(i2-k3+1)+(i:Int)%k3/\((i:Int)/k3/k2*i1+o/(i2-k3+1)%(i1-k2+1)+(i:Int)/k3%k2)*i2+o%(i2-k3+1)+(i:Int)%k3<k1*i1*i2
 generalize (i:Int)/k3/k2=C at*
 generalize o/(i2-k3+1)%(i1-k2+1)=Y at*
 generalize (i:Int)/k3%k2=DY at*
 generalize o%(i2-k3+1)=X at*
 generalize (i:Int)%k3=DX at*
 have e1:C*i1<=(k1-1)*i1:=Int.mul_le_mul_of_nonneg_right aa aa
 rw[Int.sub_mul,Int.one_mul]at e1
 have e0:0<=C*i1:=Int.mul_nonneg c5 aa
 have e2:(C*i1+Y+DY)*i2<=(k1*i1-1)*i2:=Int.mul_le_mul_of_nonneg_right aa aa
 rw[Int.sub_mul,Int.one_mul]at e2
 have e3:0<=(C*i1+Y+DY)*i2:=Int.mul_nonneg aa aa
 omega
theorem agi{z i0 i1 i2 o:Int}{i:Nat}(hz:1<=z)(h1:z<=i1)(h2:z<=i2)(m1:i1%z=0)(m2:i2%z=0)(ho:0<=o/\o<i0*(i1/z)*(i2/z))(hi:(i:Int)<z*z):0<=(iB z i1 i2 o i).2/\(iB z i1 i2 o i).2<i0*i1*i2:=by
 have hW:=om (x:=i2) (y:=z) aa h2
 have hH:=om (x:=i1) (y:=z) aa h1
 have q1:=Int.mul_ediv_add_emod i1 z
 have q2:=Int.mul_ediv_add_emod i2 z
 obtain⟨d1,d2,d3,d4⟩:=jG (x:=o) (y:=i2/z) ho.1 aa
 obtain⟨d5,d6,d7,d8⟩:=jG (x:=o/(i2/z)) (y:=i1/z) d1 aa
 obtain⟨c1,c2,c3,c4⟩:=jG (x:=(i:Int)) (y:=z) aa aa
 have hdy:(i:Int)/z<z:=Int.ediv_lt_of_lt_mul aa hi
 have hc:=Qd (o:=o) (k:=i0) (h:=i1/z) (w:=i2/z) ho.2 aa aa
 show 0<=(o/(i2/z)/(i1/z)*i1+o/(i2/z)%(i1/z)*z+(i:Int)/z)*i2+o%(i2/z)*z+(i:Int)%z/\(o/(i2/z)/(i1/z)*i1+o/(i2/z)%(i1/z)*z+(i:Int)/z)*i2+o%(i2/z)*z+(i:Int)%z<i0*i1*i2
 generalize o/(i2/z)/(i1/z)=C at*
 generalize o/(i2/z)%(i1/z)=Y at*
 generalize o%(i2/z)=X at*
 generalize (i:Int)/z=DY at*
 generalize (i:Int)%z=DX at*
 have y1:Y*z<=(i1/z-1)*z:=Int.mul_le_mul_of_nonneg_right aa aa
 have x1:X*z<=(i2/z-1)*z:=Int.mul_le_mul_of_nonneg_right aa aa
 have y2:(i1/z-1)*z=z*(i1/z)-z:=by rw[Int.sub_mul,Int.one_mul,Int.mul_comm]
 have x2:(i2/z-1)*z=z*(i2/z)-z:=by rw[Int.sub_mul,Int.one_mul,Int.mul_comm]
 have y0:0<=Y*z:=Int.mul_nonneg d7 aa
 have x0:0<=X*z:=Int.mul_nonneg d3 aa
 have y1':Y*z<=i1-z:=by omega
 have x1':X*z<=i2-z:=by omega
 have e1:C*i1<=(i0-1)*i1:=Int.mul_le_mul_of_nonneg_right aa aa
 rw[Int.sub_mul,Int.one_mul]at e1
 have e0:0<=C*i1:=Int.mul_nonneg d5 aa
 have e2:(C*i1+Y*z+DY)*i2<=(i0*i1-1)*i2:=Int.mul_le_mul_of_nonneg_right aa aa
 rw[Int.sub_mul,Int.one_mul]at e2
 have e3:0<=(C*i1+Y*z+DY)*i2:=Int.mul_nonneg aa aa
 omega
def bN(n:ai)(tl:List Int)(o:Nat):List Sp:=
 if n.kind=3 then sW n o (entries tl).toNat
 else if n.kind=4 then pF n.data.xs (n.shape.xs.getD 1 0) (n.shape.xs.getD 2 0) (n.shape.xs.getD 3 0) (tl.getD 1 0) (tl.getD 2 0) o
 else pG n.size (tl.getD 1 0) (tl.getD 2 0) o
theorem adu{n:ai}{at_:Nat}(h:bY n at_=true)(hk:n.kind=4):(n.data.xs.length:Int)=iO n.shape.xs/\(n.aG.xs.length:Int)=n.shape.xs.getD 0 0:=by
 unfold bY at h
 repeat(first|rw[if_pos aa]at h|rw[if_neg aa]at h)
 simp only[Bool.and_eq_true,decide_eq_true_eq]at h
 exact⟨h.1.2,h.2⟩
theorem adv{l:List Int}(h:l.length=4):l=[l.getD 0 0,l.getD 1 0,l.getD 2 0,l.getD 3 0]:=by
 match l,h with
 |[a,b,c,d],_=>rfl
structure aih(n:ai)(t:aj)(cnt:Nat)(F:FuncId)(P0:Value):Prop where
 fn:sV n t.val cnt= .func (.func F) #[P0] #[]
 terms:∀w,t.ok w->n.ok w->Qb w F P0 cnt (bN n t.xs)
 lin:∀w,n.ok w->YO w n cnt
 at_:∀o,o<cnt->∀s∈bN n t.xs o,0<=s.2/\s.2<entries t.xs
theorem ajH{n:ai}{sh:List (List Int)}{s:List Int}{t:aj}{cnt:Nat}(hn:iY n sh s)(hk:n.kind=3\/n.kind=4\/n.kind=5)(ht:sh.getD n.a.toNat []=t.xs)(hg:0<entries t.xs)(hgs:∀q∈sh,0<entries q)(hc:entries s=cnt):∃F P0,aih n t cnt F P0:=by
 have hsh:=hn.shape
 have hfo:=dH hn.form
 have h4:=adu hn.form
 obtain⟨nd,nb,_,_,_⟩:=rT hn.near
 have heb:=(dL t.xs).2
 have hcb:cnt<=64:=by have:=(dL s).2;omega
 have hsp:=(dL s).1
 rcases hk with hk|hk|hk
 ·unfold bM at hsh
  rw[if_neg aa,if_pos hk,ht]at hsh
  by_cases hdl:(n.data.xs.length:Int)=n.aG.xs.length*entries t.xs
  ·rw[if_pos hdl,Option.some.injEq]at hsh
   obtain⟨b1,b2⟩:=hfo.aG hk
   have he1:entries [(n.aG.xs.length:Int)]=n.aG.xs.length:=by
    unfold entries
    rw[if_neg fC]
    simp only[eZ]
    rw[if_neg aa]
    omega
   rw[<-hsh,he1]at hc
   have hbl:n.aG.xs.length=cnt:=by omega
   obtain⟨size,hsz⟩:∃size:Nat,entries t.xs=size:=⟨(entries t.xs).toNat,by omega⟩
   have Qe:n.data.xs.length=n.aG.xs.length*size:=by
    rw[hsz,<-Int.natCast_mul]at hdl
    exact Int.ofNat.inj hdl
   have hG:∀o,bN n t.xs o=sW n o size:=λo=>by unfold bN;rw[if_pos hk,hsz];rfl
   refine⟨_,_,if_pos hk,λw hto hno=>⟨Tryz.call104,λR w' hb o ho=> ?_,λo ho=> ?_,λo ho x hx=> ?_⟩,λw hno=>⟨.inl hk,hno.aG,nb,hcb,λ_=>hbl,λh=>by omega⟩,λo ho x hx=> ?_⟩
   ·rw[hG]
    exact aak w' n (hno.data.later hb) ⟨b1,b2⟩ (.slice none 0 0) .nilFunc cnt o size aa Qe aa
   ·rw[hG];simp[sW];omega
   ·rw[hG]at hx
    obtain⟨i,_,rfl⟩:=List.mem_map.1 hx
    exact dJ nd _
   ·rw[hG]at hx
    obtain⟨i,hi,rfl⟩:=List.mem_map.1 hx
    rw[List.mem_range]at hi
    simp only
    omega
  ·rw[if_neg hdl]at hsh;cases hsh
 ·obtain⟨g1,g2⟩:=h4 hk
  have DD:=hfo.V6 hk
  obtain⟨hl4,S_⟩:=pq DD
  have hsx:=adv hl4
  unfold bM at hsh
  rw[if_neg aa,if_neg aa,if_pos hk,ht]at hsh
  have hG:∀o,bN n t.xs o=pF n.data.xs (n.shape.xs.getD 1 0) (n.shape.xs.getD 2 0) (n.shape.xs.getD 3 0) (t.xs.getD 1 0) (t.xs.getD 2 0) o:=λo=>by unfold bN;rw[if_neg aa,if_pos hk]
  have dm:∀k,k<4->1<=n.shape.xs.getD k 0/\n.shape.xs.getD k 0<=64:=λk hk=>S_ _ (df aa)
  have dm0:=dm 0 aS
  have dm1:=dm 1 aS
  have dm2:=dm 2 aS
  have dm3:=dm 3 aS
  rw[hsx]at g1 DD
  have hke:=Km DD
  rw[hke]at g1
  generalize n.shape.xs.getD 0 0=k0 at*
  generalize n.shape.xs.getD 1 0=k1 at*
  generalize n.shape.xs.getD 2 0=k2 at*
  generalize n.shape.xs.getD 3 0=k3 at*
  by_cases hbad:t.xs.length≠3\/t.xs.getD 0 0≠k1\/t.xs.getD 1 0<k2\/t.xs.getD 2 0<k3
  ·rw[if_pos hbad]at hsh;cases hsh
  rw[if_neg hbad]at hsh
  have hl3:t.xs.length=3:=by omega
  have htx:=V7 hl3
  have Kn:=(gJ hg).2.2
  have td1:=Kn _ (df (xs:=t.xs) (k:=1) aa)
  have td2:=Kn _ (df (xs:=t.xs) (k:=2) aa)
  have te:entries t.xs=k1*t.xs.getD 1 0*t.xs.getD 2 0:=by
   have h0:t.xs.getD 0 0=k1:=by omega
   have:=iJ (a:=t.xs.getD 0 0) (b:=t.xs.getD 1 0) (c:=t.xs.getD 2 0) Yl
   rw[<-htx,h0]at this
   exact this
  generalize hi0:t.xs.getD 0 0=i0 at*
  generalize t.xs.getD 1 0=i1 at*
  generalize t.xs.getD 2 0=i2 at*
  by_cases hpos:0<entries [k0,i1-k2+1,i2-k3+1]
  ·rw[if_pos hpos,Option.some.injEq]at hsh
   have hcv:=iJ hpos
   rw[hsh,hc]at hcv
   have hQ:k1*k2*k3<=k1*i1*i2:=by
    have q1:k1*k2<=k1*i1:=Int.mul_le_mul_of_nonneg_left aa aa
    have q0:0<k1*k2:=Int.mul_pos aa aa
    exact Int.mul_le_mul q1 aa aa aa
   have hQ0:0<k1*k2*k3:=Int.mul_pos (Int.mul_pos aa aa) aa
   have hob:∀o:Nat,o<cnt->(o:Int)<k0*(i1-k2+1)*(i2-k3+1):=λo ho=>by rw[<-hcv];omega
   refine⟨_,_,by unfold sV;rw[if_neg aa,if_pos hk],λw hto hno=>⟨Tryz.call105,λR w' hb o ho=> ?_,λo ho=> ?_,λo ho x hx=> ?_⟩,λw hno=>⟨.inr (.inl hk),hno.aG,nb,hcb,λh=>by omega,λ_=> ?_⟩,λo ho x hx=> ?_⟩
   ·rw[hG]
    exact adp w' n t (hno.data.later hb) (hno.shape.later hb) (hto.later hb) .nilFunc cnt k0 k1 k2 k3 i1 i2 o ⟨hsx,⟨i0,htx⟩,dm1,by omega,by omega,by omega,by omega,g1,by omega,by omega,Qd (hob o ho) aa aa⟩
   ·rw[hG];simp only[pF,List.length_map,List.length_range];omega
   ·rw[hG]at hx
    obtain⟨i,_,rfl⟩:=List.mem_map.1 hx
    exact dJ nd _
   ·have hw1:0<(i1-k2+1)*(i2-k3+1):=Int.mul_pos aa aa
    obtain⟨A,hA⟩:∃A:Nat,(i1-k2+1)*(i2-k3+1)=A:=⟨((i1-k2+1)*(i2-k3+1)).toNat,by omega⟩
    obtain⟨B,hB⟩:∃B:Nat,k0=B:=⟨k0.toNat,by omega⟩
    have hcA:cnt=B*A:=by
     have:(cnt:Int)=B*A:=by rw[hcv,Int.mul_assoc,hA,hB]
     exact_mod_cast this
    have hbB:n.aG.xs.length=B:=by omega
    have hA1:1<=A:=by omega
    have hB1:1<=B:=by omega
    rw[hbB,hcA]
    refine⟨hB1,Nat.le_mul_of_pos_right B hA1,λo ho=> ?_⟩
    rw[Nat.mul_div_cancel_left A hB1]
    exact(Nat.div_lt_iff_lt_mul hA1).2 ho
   ·rw[hG]at hx
    obtain⟨i,hi,rfl⟩:=List.mem_map.1 hx
    rw[List.mem_range]at hi
    rw[te]
    exact agh aa aa aa aa aa
  ·rw[if_neg hpos]at hsh;cases hsh
 ·have hz:=hfo.pool hk
  unfold bM at hsh
  rw[if_neg aa,if_neg aa,if_neg aa,if_pos hk,ht]at hsh
  have hG:∀o,bN n t.xs o=pG n.size (t.xs.getD 1 0) (t.xs.getD 2 0) o:=λo=>by unfold bN;rw[if_neg aa,if_neg aa]
  by_cases hbad:t.xs.length≠3\/t.xs.getD 1 0%n.size≠0\/t.xs.getD 2 0%n.size≠0
  ·rw[if_pos hbad]at hsh;cases hsh
  rw[if_neg hbad,Option.some.injEq]at hsh
  have hl3:t.xs.length=3:=by omega
  have htx:=V7 hl3
  have Kn:=(gJ hg).2.2
  have td0:=Kn _ (df (xs:=t.xs) (k:=0) aa)
  have td1:=Kn _ (df (xs:=t.xs) (k:=1) aa)
  have td2:=Kn _ (df (xs:=t.xs) (k:=2) aa)
  have te:entries t.xs=t.xs.getD 0 0*t.xs.getD 1 0*t.xs.getD 2 0:=by
   have:=iJ (a:=t.xs.getD 0 0) (b:=t.xs.getD 1 0) (c:=t.xs.getD 2 0) Yl
   rw[<-htx]at this
   exact this
  generalize t.xs.getD 0 0=i0 at*
  generalize t.xs.getD 1 0=i1 at*
  generalize t.xs.getD 2 0=i2 at*
  have m1:i1%n.size=0:=by omega
  have m2:i2%n.size=0:=by omega
  have z1:n.size<=i1:=by
   rcases(by omega:i1<n.size\/n.size<=i1)with hlt|hge
   ·rw[Int.emod_eq_of_lt aa hlt]at m1;omega
   ·exact hge
  have z2:n.size<=i2:=by
   rcases(by omega:i2<n.size\/n.size<=i2)with hlt|hge
   ·rw[Int.emod_eq_of_lt aa hlt]at m2;omega
   ·exact hge
  have hpos:0<entries [i0,i1/n.size,i2/n.size]:=by
   have:=jF hfo hgs hn.shape rfl
   rw[hsh];exact this
  have hcv:=iJ hpos
  rw[hsh,hc]at hcv
  have hQ:n.size*n.size<=i1*i2:=Int.mul_le_mul z1 z2 aa aa
  have hQ2:i1*i2<=i0*i1*i2:=by
   have:1*(i1*i2)<=i0*(i1*i2):=Int.mul_le_mul_of_nonneg_right aa (Int.mul_nonneg aa aa)
   rw[Int.mul_assoc];omega
  have hob:∀o:Nat,o<cnt->(o:Int)<i0*(i1/n.size)*(i2/n.size):=λo ho=>by rw[<-hcv];omega
  refine⟨_,_,by unfold sV;rw[if_neg aa,if_neg aa],λw hto hno=>⟨Tryz.call106,λR w' hb o ho=> ?_,λo ho=> ?_,λo ho x hx=> ?_⟩,λw hno=>⟨.inr (.inr hk),hno.aG,nb,hcb,λh=>by omega,λh=>by omega⟩,λo ho x hx=> ?_⟩
  ·rw[hG]
   exact adq w' n t (hto.later hb) .nilFunc cnt i1 i2 o ⟨⟨i0,htx⟩,by omega,z2,by omega,by omega,by omega⟩
  ·rw[hG];simp only[pG,List.length_map,List.length_range];omega
  ·rw[hG]at hx
   obtain⟨i,_,rfl⟩:=List.mem_map.1 hx
   exact⟨(show(-1048576:Int)<=1 by decide),(show(1:Int)<=1048576 by decide)⟩
  ·rw[hG]at hx
   obtain⟨i,hi,rfl⟩:=List.mem_map.1 hx
   rw[List.mem_range]at hi
   rw[te]
   have hzz:=Int.mul_pos (show 0<n.size by omega) (show 0<n.size by omega)
   exact agi aa z1 z2 m1 m2 ⟨by omega,hob o ho⟩ aa
end Go.Proofs.YtgndjjdeopfdkaaGreat

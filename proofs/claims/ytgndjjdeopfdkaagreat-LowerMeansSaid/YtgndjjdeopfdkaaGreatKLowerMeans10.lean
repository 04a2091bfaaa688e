import Derived.Test.YtgndjjdeopfdkaaGreatKLowerMeans10e
/- texts WA QTa of the proof of LowerMeansSaid -/
set_option maxHeartbeats 16000000
set_option maxRecDepth 20000
set_option linter.unusedVariables false
set_option linter.unusedSimpArgs false
namespace Go.Proofs.YtgndjjdeopfdkaaGreat
open Go.SX Go.RowKit
open Go.ChangeShapes Go.WideShapes Go.ChangeAt
section
abbrev aly(w:World)(sv:aY)(us:List ax):bR:=((aU w).and ((jD sv).past w.heap.size)).and (rT w.heap.size us)
abbrev Yl(w:World)(c:fT)(s:fu):bR:=(aU w).and ((((Mf c).and (wJ c)).and (iQ s.aF)).past w.heap.size)
abbrev GB(N:Nat):Nat->Prop:=λb=>b<N
variable {R:Nat->Prop} {w:World}
theorem Rk{N:Nat}{u:ax}(h:((bX u).past N).holds R w):(Oi N u).holds R w:=h
variable {aV aA:Int} {x:List Int} {r acc:List (List Int)}
theorem Jl(h:(gM x aV aA).2=0):iw aV aA (x::r) acc=iw aV aA r (acc++[(gM x aV aA).1]):=by
 rw[iw,if_neg aa]
theorem Kg(h:(gM x aV aA).2≠0):iw aV aA (x::r) acc=([],(gM x aV aA).2):=by
 rw[iw,if_pos h]
variable {w':World} {c:fT} {s:fu}
theorem aes{n:ak}(hn:n.ok w)(h:(Yl w c s).holds R w'):(TF c s n).holds R w':=by
 have p:(((Mf c).and (wJ c)).and (iQ s.aF)).holds R w':=bR.mono _ h.2 (λb hb=>hb.1);have k:∀{u:ax},u.ok w->(Xn u).holds R w':=λhu=>⟨aU w,h.1,λR2 w2 h2=>aH h2 hu.rows⟩;exact⟨⟨⟨p.2,p.1.2⟩,⟨k hn.az,k hn.data,k hn.aQ⟩⟩,p.1.1⟩
theorem Rz{s':fu}(h:(Yl w c s).holds R w')(hn:((Q6 s.aF s'.aF).off (GB w.heap.size)).holds R w'):(Yl w c s').holds R w':=by
 refine⟨h.1,h.2.1,λu hu=> ?_⟩;rcases hn u hu with h1|h1
 ·exact h.2.2 u h1
 ·exact bR.mono _ h1 (λb hb=>⟨hb.1,aoa hb.2⟩)
theorem agc{B:Base}{H:Heap}{S:bR}{nx:Nat}{last:Int}{out:List Int}{i2 i3 i4 j n2 n3 n4 nj:Nat}{T2 T3 T4 T5:TypeId}{r:yx×Int}(hw0:B.w0=w)(hS:∀R w',S.holds R w'->(Yl w c s).holds R w')(hs:yC c s)(hsp:∀u∈c.di.l,u.bF)(hf:s.code.length<=2048/\s.aF.length<=2048/\s.inputs.length<=2048)(ho:(∀x∈out,i64 x)/\out.length<=1000000)
 (h2:(i2,b_.rows (mq s.inputs) 3 T2)∈H) (h3:(i3,b_.rows (bA s.aF) 1 T3)∈H) (h4:(i4,b_.rows (iX s.code) 5 T4)∈H) (h5:(j,b_.rows (aZ out) 1 T5)∈H) (e2:n2=s.inputs.length) (e3:n3=s.aF.length) (e4:n4=s.code.length) (e5:nj=(aZ out).length) (hr:r=(⟨c.aA,s.pl,last,out⟩,0)):
 jS B (.xg [.agg [aC c.aA,.os i2 n2,.os i3 n3,.os i4 n4,aC last,.os j nj],aC 0]) H S nx (vD w r):=by
 subst hw0 hr e2 e3 e4 e5;refine dK λρ w' hw=> ?_;have hb:∀R w',S.holds R w'->(aU B.w0).holds R w':=λR w' h=>(hS R w' h).1;obtain⟨b2,c2,q2,d2⟩:=ig (fI hw hb h2);obtain⟨b3,c3,q3,d3⟩:=ig (fI hw hb h3);obtain⟨b4,c4,q4,d4⟩:=ig (fI hw hb h4);obtain⟨b5,c5,q5,d5⟩:=ig (fI hw hb h5);obtain⟨l5,g5,F5,_,_,k5,_⟩:=fI hw hb h5;rw[g5]at q5;simp only[Value.slice.injEq]at q5;rw[lJ]at q2;rw[acN]at q3;rw[oF]at q4;have dp:=lW (D:=(iQ s.aF).and (aiG s.inputs)) hw (λR w' h=>⟨(hS R w' h).2.2,λx hx=>(hS R w' h).2.1.2.2 x.aA (hs.inputs x hx).1⟩);refine⟨⟨c.aA,b2,c2,s.inputs,⟨b3,c3,s.aF⟩,b4,c4,s.code,last,⟨b5,c5,out⟩⟩,⟨rfl,⟨hs.aF,λx hx=>⟨hsp _ (hs.inputs x hx).1,(hs.inputs x hx).2⟩,⟨ho.1,by show out.length<=c5;rw[<-q5.2.2];simpa[aP]using k5,ho.2⟩,by show s.aF.length<=_;omega,by show s.inputs.length<=_;omega,by show s.code.length<=_;omega⟩⟩,?_,bG hw hb,⟨⟨⟨d2,dp.2⟩,⟨d3,dp.1⟩⟩,⟨d4,d5⟩⟩⟩;show Ending.returned (.tuple #[.agg #[.int .i64 c.aA,(SV.os i2 s.inputs.length).rf ρ,(SV.os i3 s.aF.length).rf ρ,(SV.os i4 s.code.length).rf ρ,.int .i64 last,(SV.os j (aZ out).length).rf ρ],.int .i64 0])=_;rw[q2,q3,q4,g5,q5.1,q5.2.2,aP]
 rfl
theorem Pm{xs:List Int}(h:(gM xs aV aA).2=0):0<(gM xs aV aA).1.length:=by
 have hb:=dN xs;unfold gM at h|-
 split at h
 ·cases h
 ·rename_i h1;split at h
  ·cases h
  ·rename_i h2;rw[if_neg h1,if_neg h2];show 0<(jN _ _ _).length;rw[fV];omega
theorem ajj{k:Nat}{x:fu}(h:dz k s.pl x.pl):x.aF.length+s.code.length<=s.aF.length+x.code.length/\x.inputs.length+s.code.length<=s.inputs.length+x.code.length:=by
 obtain⟨_,_,h1,h2⟩:=h;simp only[fu.pl,aas]at h1 h2;exact⟨h1,h2⟩
theorem Z5(l:List Int)(x:Int):List.take l.length (aZ l)++[[Value.int .i64 x]]=aZ (l++[x]):=by
 rw[aen oG];simp[aZ]
abbrev LoW(w:World)(r:yx×Int)(k:Nat)(env:Env)(H:Heap)(S:bR)(nx:Nat):Prop:=Wp ⟨Tryz.prog,⟨w,[]⟩,Tryz.f9.ntmps,tab⟩ (abA k (bodyC Tryz.f9)) env H S nx (acw ⟨Tryz.prog,⟨w,[]⟩,Tryz.f9.ntmps,tab⟩ Tryz.f9.results.toList (vD w r))
theorem Qs(w:World)(g:bM)(c:fT)(qs:fu)(vl:List Int)(r:yx×Int)(ho:0<=g.out)(ho1:g.out.toNat<c.di.l.length)(ho2:g.out.toNat<vl.length)(hqo:yC c qs)(hf:qs.code.length<=2048/\qs.aF.length<=2048/\qs.inputs.length<=2048)
 (ajR:∀u∈c.di.l,u.bF/\0<u.xs.length) (hrT:lowerT c g (some (qs.pl,vl))=r):
 LoW w r 8 [(3,.lp 0 0 0 0),(6,.lp 2 0 0 0),(10,.lp 3 0 0 0)]
  ((2,.box [aC 0,.c (.slice none 0 0),.c (.slice none 0 0),.c (.slice none 0 0),aC 0,.c (.slice none 0 0)] 34)::(0,.box [.c (.slice g.base g.l.length g.cap),aC g.out] 24)::yU c qs vl 3 5 6 7 8) (Yl w c qs) 9:=by
 have hrow:=fQ ho1;have hcr:∀R w',(Yl w c qs).holds R w'->bE w' c.di.base 1 (bA c.di.l)/\∀u∈c.di.l,bE w' u.base 1 (aZ u.xs):=λR w' h=>⟨bf h.2.1.2.1,λu hu=>bf (h.2.1.2.2 u hu)⟩;have IZ:=aby ho1;have hux:c.di.l.getD g.out.toNat cK=c.di.l[g.out.toNat]:=by rw[TR,YL ho1];rfl
 generalize c.di.l[g.out.toNat]=u at*;have agk:=(ajR u IZ).1;have anD:=(ajR u IZ).2;refine Wp.know (p:=∃a,c.di.base=some a) (λρ w' hw=>ae hw λR h=>aT (j:=g.out.toNat) (hcr _ _ h).1 (by rw[acN];exact ho1)) ?_;rintro⟨sa,hsa⟩;repeat' ((conv=>whnf)<;>first|(show cO _ 37 ..;refine mV [] [(0,.box [.c (.slice g.base g.l.length g.cap),aC g.out] 24),(5,.rows (aZ vl) 1 3)] (bS [0,1,2,6,7,10,14,15] (.alt 3 (.alt 4 (.alt 5 (bS [8,9,111,112,113,16,17,118,119,120,121,122,123,124,125,126] .done) (.one 11 (.alt 5 (bS [8,9,112,113,16,17,118,119,120,121,122,123,124,125,126] .done) (.one 12 (.alt 5 (bS [8,9,113,16,17,118,119,120,121,122,123,124,125,126] .done) (bS [113,16,17] (.alt 5 (bS [8,9,118,119,120,121,122,123,124,125,126] .done) (bS [118,105,8,9,119,120,121,122,123,124,125,126] .done)))))))) (.one 11 (.alt 4 (.alt 5 (bS [8,9,112,113,16,17,118,119,120,121,122,123,124,125,126] .done) (.one 12 (.alt 5 (bS [8,9,113,16,17,118,119,120,121,122,123,124,125,126] .done) (bS [113,16,17] (.alt 5 (bS [8,9,118,119,120,121,122,123,124,125,126] .done) (bS [118,105,8,9,119,120,121,122,123,124,125,126] .done)))))) (.one 12 (.alt 4 (.alt 5 (bS [8,9,113,16,17,118,119,120,121,122,123,124,125,126] .done) (bS [113,16,17] (.alt 5 (bS [8,9,118,119,120,121,122,123,124,125,126] .done) (bS [118,105,8,9,119,120,121,122,123,124,125,126] .done)))) (bS [113,16,17] (.alt 4 (.alt 5 (bS [8,9,118,119,120,121,122,123,124,125,126] .done) (bS [118,105,8,9,119,120,121,122,123,124,125,126] .done)) (bS [118,104,105,8,9,119,120,121,122,123,124,125,126] .done)))))))) (.one 11 (.alt 3 (.alt 4 (.alt 5 (bS [8,9,112,113,16,17,118,119,120,121,122,123,124,125,126] .done) (.one 12 (.alt 5 (bS [8,9,113,16,17,118,119,120,121,122,123,124,125,126] .done) (bS [113,16,17] (.alt 5 (bS [8,9,118,119,120,121,122,123,124,125,126] .done) (bS [118,105,8,9,119,120,121,122,123,124,125,126] .done)))))) (.one 12 (.alt 4 (.alt 5 (bS [8,9,113,16,17,118,119,120,121,122,123,124,125,126] .done) (bS [113,16,17] (.alt 5 (bS [8,9,118,119,120,121,122,123,124,125,126] .done) (bS [118,105,8,9,119,120,121,122,123,124,125,126] .done)))) (bS [113,16,17] (.alt 4 (.alt 5 (bS [8,9,118,119,120,121,122,123,124,125,126] .done) (bS [118,105,8,9,119,120,121,122,123,124,125,126] .done)) (bS [118,104,105,8,9,119,120,121,122,123,124,125,126] .done)))))) (.one 12 (.alt 3 (.alt 4 (.alt 5 (bS [8,9,113,16,17,118,119,120,121,122,123,124,125,126] .done) (bS [113,16,17] (.alt 5 (bS [8,9,118,119,120,121,122,123,124,125,126] .done) (bS [118,105,8,9,119,120,121,122,123,124,125,126] .done)))) (bS [113,16,17] (.alt 4 (.alt 5 (bS [8,9,118,119,120,121,122,123,124,125,126] .done) (bS [118,105,8,9,119,120,121,122,123,124,125,126] .done)) (bS [118,104,105,8,9,119,120,121,122,123,124,125,126] .done)))) (bS [113,16,17] (.alt 3 (.alt 4 (.alt 5 (bS [8,9,118,119,120,121,122,123,124,125,126] .done) (bS [118,105,8,9,119,120,121,122,123,124,125,126] .done)) (bS [118,104,105,8,9,119,120,121,122,123,124,125,126] .done)) (bS [118,103,104,105,8,9,119,120,121,122,123,124,125,126] .done))))))))) ?_ (h6:=aej _ (aei _ (aej _ (aei _ (amG _))))))|refine eU ?_|(show dn ..;refine aM sa g.out.toNat hsa aa ho1 ?_)|(show gZ ..;(refine bN (λR w' h=>by rw[<-hsa];exact(hcr _ _ h).1) _ _ hrow rfl ?_))|(show eP ..;(refine bY g.out.toNat aa ho2 oG ?_))|(show rQ ..;refine uV ho2 ?_)|(show aJ _ 32 ..;refine jy (f:=32) Tryz.call32 1 3 (λ_:Unit=>aZ u.xs) (λ_=>True) (λρ w' hw=>(Du w' u (ae hw λR h=>⟨(hcr _ _ h).2 u IZ,agk.fits,agk.room,agk.few⟩) anD).mono (λe w2 h=>⟨(),trivial,h⟩)) (λ_ _=> ?_))|refine a_ ?_|refine And.intro ?_ ?_)
 all_goals(conv=>whnf)
 all_goals exact agc (c:=c) (s:=qs) (out:=u.xs) (last:=vl.getD g.out.toNat 0) rfl (λ_ _ h=>h) hqo (λu hu=>(ajR u hu).1) hf ⟨agk.fits,agk.few⟩ aj aj aj aj rfl rfl rfl rfl (by rw[<-hrT];show(_,_)=(_,_);rw[hux])
end
end Go.Proofs.YtgndjjdeopfdkaaGreat

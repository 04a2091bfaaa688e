import Derived.Test.YtgndjjdeopfdkaaGreatKLowerMakes9
/- texts QS UB of the proof of LowerMakesSaid -/
set_option maxHeartbeats 16000000
set_option maxRecDepth 20000
set_option linter.unusedVariables false
set_option linter.unusedSimpArgs false
namespace Go.Proofs.YtgndjjdeopfdkaaGreat
open Go.SX Go.RowKit
def dh(c:dN)(n:ai)(i:Nat)(s:fE)(vl:List Int):fE×Int:=
 if n.ak=1 then lF s n.lo n.hi (c.bO.l.getD i fQ).xs
 else if n.ak=2 then bP (bC c.aj s (c.bO.l.getD i fQ).xs (λe=>n.data.xs.getD e 0)).1 2 0 0 (bC c.aj s (c.bO.l.getD i fQ).xs (λe=>n.data.xs.getD e 0)).2
 else if n.ak=6 then bP s 3 (vl.getD n.a.toNat 0) (vl.getD n.b.toNat 0) 0
 else if n.ak=7 then bP (bC c.aj s (c.bO.l.getD i fQ).xs (λ_=>n.data.xs.getD 0 0)).1 5 (vl.getD n.a.toNat 0) 0 (bC c.aj s (c.bO.l.getD i fQ).xs (λ_=>n.data.xs.getD 0 0)).2
 else if n.ak=8 then lK c.aj s (vl.getD n.a.toNat 0) n.data.xs (c.bO.l.getD i fQ).xs
 else if n.ak=9/\(c.bO.l.getD n.a.toNat fQ).xs=(c.bO.l.getD i fQ).xs then(s,vl.getD n.a.toNat 0)
 else iC c.aj c.giant s (vl.getD n.a.toNat 0) (jA (n0 n) (c.shapes.l.getD n.a.toNat fQ)).1 (c.bO.l.getD n.a.toNat fQ).xs (c.bO.l.getD i fQ).xs
def ig(c:dN):List ai->Nat->fE->List Int->Option (fE×List Int)
 |[],_,s,vl=>some (s,vl)
 |n::r,i,s,vl=>if 2048<(dh c n i s vl).1.code.length then none else ig c r (i+1) (dh c n i s vl).1 (vl++[(dh c n i s vl).2])
def lowerT(c:dN)(g:bG):Option (fE×List Int)->qY×Int
 |none=>(uZ,6)
 |some q=>(⟨c.aj,q.1,q.2.getD g.out.toNat 0,(c.bO.l.getD g.out.toNat fQ).xs⟩,0)
def qd(c:dN)(g:bG):qY×Int:=lowerT c g (ig c g.l 0 ⟨[],[],[]⟩ [])
def gG(aR aj:Int):List (List Int)->List (List Int)->List (List Int)×Int
 |[],acc=>(acc,0)
 |x::r,acc=>if(gz x aR aj).2≠0 then([],(gz x aR aj).2)else gG aR aj r (acc++[(gz x aR aj).1])
theorem dD.power(n:Nat)(s:fE)(x:Int)(data sl:List Int):dD 8 s (lK n s x data sl).1:=by
 have pl:∀(s:fE) (f:Nat->Int) (op a b:Int),dD 1 s (bP (bC n s sl f).1 op a b (bC n s sl f).2).1:=λs f op a b=>dD.plain s _ _ _ _ _
 obtain⟨y,hy⟩:∃y:fE×Option Int,y=(if data.getD 2 0=0 then(s,none)else if data.getD 2 0=1 then((bP s 6 x x 0).1,some (bP s 6 x x 0).2)else((bP (bC n (bP s 6 x x 0).1 sl (λ_=>data.getD 2 0)).1 5 (bP s 6 x x 0).2 0 (bC n (bP s 6 x x 0).1 sl (λ_=>data.getD 2 0)).2).1,some (bP (bC n (bP s 6 x x 0).1 sl (λ_=>data.getD 2 0)).1 5 (bP s 6 x x 0).2 0 (bC n (bP s 6 x x 0).1 sl (λ_=>data.getD 2 0)).2).2)):=⟨_,rfl⟩
 have g1:dD 2 s y.1:=by
  rw[hy]
  split
  ·exact(dD.refl s).mono (Nat.zero_le _)
  ·split
   ·exact(dD.lay _ _ _ _ _).mono aY
   ·exact(dD.lay _ _ _ _ _).trans (pl _ _ _ _ _)
 obtain⟨z,hz⟩:∃z:fE×Option Int,z=(if data.getD 1 0=0 then y else if data.getD 1 0=1 then((lI y.1 y.2 x).1,some (lI y.1 y.2 x).2)else((lI (bP (bC n y.1 sl (λ_=>data.getD 1 0)).1 5 x 0 (bC n y.1 sl (λ_=>data.getD 1 0)).2).1 y.2 (bP (bC n y.1 sl (λ_=>data.getD 1 0)).1 5 x 0 (bC n y.1 sl (λ_=>data.getD 1 0)).2).2).1,some (lI (bP (bC n y.1 sl (λ_=>data.getD 1 0)).1 5 x 0 (bC n y.1 sl (λ_=>data.getD 1 0)).2).1 y.2 (bP (bC n y.1 sl (λ_=>data.getD 1 0)).1 5 x 0 (bC n y.1 sl (λ_=>data.getD 1 0)).2).2).2)):=⟨_,rfl⟩
 have g2:dD 2 y.1 z.1:=by
  rw[hz]
  split
  ·exact(dD.refl _).mono (Nat.zero_le _)
  ·split
   ·exact(dD.add _ _ _).mono aY
   ·exact(pl _ _ _ _ _).trans (dD.add _ _ _)
 obtain⟨o,ho⟩:∃o:fE×Int,o=(match z.2 with|none=>uu n z.1 x|some m=>(z.1,m)):=⟨_,rfl⟩
 have g3:dD 1 z.1 o.1:=by
  rw[ho]
  split
  ·exact dD.plain _ _ _ _ _ _
  ·exact(dD.refl _).mono (Nat.zero_le _)
 have e:lK n s x data sl=(if data.getD 0 0=0 then o else bP (bC n o.1 sl (λ_=>data.getD 0 0)).1 4 o.2 0 (bC n o.1 sl (λ_=>data.getD 0 0)).2):=by
  rw[ho,hz,hy];rfl
 rw[e]
 split
 ·exact((g1.trans g2).trans g3).mono aY
 ·exact(((g1.trans g2).trans g3).trans (pl _ _ _ _ _)).mono aY
theorem dD.input(s:fE)(lo hi:Int)(sl:List Int):dD 1 s (lF s lo hi sl).1:=by
 have e:(lF s lo hi sl).1.code.length=s.code.length+1:=by simp[lF,bP]
 exact⟨by omega,by omega,by rw[e];show s.aF.length+_<=_;omega,by rw[e];show(s.inputs++_).length+_<=_;rw[List.length_append,List.length_singleton];omega⟩
theorem OZ(rows:List (List Int))(fr to:List Int)(n:Nat):(mW rows fr to n).1.length<=n:=by
 by_cases hd:oU rows fr to n
 ·exact Nat.le_of_eq (tX hd)
 ·rw[mW,if_neg hd];exact Nat.zero_le _
theorem dD.af0(n:Nat)(b:Bool)(s:fE)(x:Int)(r:List (List Int)×List Int)(fr to:List Int)(hn:1<=n):dD (5*n+2) s (iC n b s x r fr to).1:=by
 have h:=dD.rows n b s x (mW r.1 fr to n).1 hn (OZ _ _ _ _)
 unfold iC
 dsimp only
 split
 ·exact h.trans (dD.plain _ _ _ _ _ _)
 ·exact h.mono aa
theorem dD.node(c:dN)(n:ai)(i:Nat)(s:fE)(vl:List Int)(hn:1<=c.aj):dD (5*c.aj+8) s (dh c n i s vl).1:=by
 unfold dh
 repeat' split
 ·exact(dD.input _ _ _ _).mono aa
 ·exact(dD.plain _ _ _ _ _ _).mono aa
 ·exact(dD.lay _ _ _ _ _).mono aa
 ·exact(dD.plain _ _ _ _ _ _).mono aa
 ·exact(dD.power _ _ _ _ _).mono aa
 ·exact(dD.refl _).mono (Nat.zero_le _)
 ·exact(dD.af0 _ _ _ _ _ _ _ hn).mono aa
def vw(k:Int):FuncId:=if k=1 then 27 else if k=2 then 28 else if k=6 then 29 else if k=7 then 30 else if k=8 then 31 else 26
theorem Zu(k:Int):(k=1/\vw k=27)\/(k=2/\vw k=28)\/(k=6/\vw k=29)\/(k=7/\vw k=30)\/(k=8/\vw k=31)\/((k≠1/\k≠2/\k≠6/\k≠7/\k≠8)/\vw k=26):=by
 by_cases h1:k=1
 ·subst h1;exact .inl ⟨rfl,rfl⟩
 by_cases h2:k=2
 ·subst h2;exact .inr (.inl ⟨rfl,rfl⟩)
 by_cases h3:k=6
 ·subst h3;exact .inr (.inr (.inl ⟨rfl,rfl⟩))
 by_cases h4:k=7
 ·subst h4;exact .inr (.inr (.inr (.inl ⟨rfl,rfl⟩)))
 by_cases h5:k=8
 ·subst h5;exact .inr (.inr (.inr (.inr (.inl ⟨rfl,rfl⟩))))
 ·exact .inr (.inr (.inr (.inr (.inr ⟨⟨h1,h2,h3,h4,h5⟩,by unfold vw;rw[if_neg h1,if_neg h2,if_neg h3,if_neg h4,if_neg h5]⟩))))
def Dq(c:dN)(n:ai)(i:Nat)(f:FuncId):Prop:=∀(s:dw) (vl:List Int) (w:World) (ρ:Nat->SX.Loc) (F:Nat->Prop),lU c s vl->vl.length=i->iY w ρ F 2 5 (kQ c s vl) (ru c s n)->
 Calls Tryz.prog f (SV.eO ρ [.lp 0 0 0 0,.agg (jN n),ax i]).toArray w (oD w ρ F c s vl (dh c n i s.pl vl))
section
abbrev alX(w:World)(sv:a_)(us:List au):bN:=((aO w).and ((jE sv).past w.heap.size)).and (lZ w.heap.size us)
abbrev Rh(w:World)(c:dN)(s:dw):bN:=(aO w).and ((((Iu c).and (vE c)).and (dW s.aF)).past w.heap.size)
abbrev GB(N:Nat):Nat->Prop:=λb=>b<N
variable {R:Nat->Prop} {w:World}
theorem Fz{N:Nat}{u:au}(h:((bE u).past N).holds R w):(Jg N u).holds R w:=h
variable {aR aj:Int} {x:List Int} {r acc:List (List Int)}
theorem Bq(h:(gz x aR aj).2=0):gG aR aj (x::r) acc=gG aR aj r (acc++[(gz x aR aj).1]):=by
 rw[gG,if_neg aa]
theorem A_(h:(gz x aR aj).2≠0):gG aR aj (x::r) acc=([],(gz x aR aj).2):=by
 rw[gG,if_pos h]
variable {w':World} {c:dN} {s:dw}
theorem adS{n:ai}(hn:n.ok w)(h:(Rh w c s).holds R w'):(ru c s n).holds R w':=by
 have p:(((Iu c).and (vE c)).and (dW s.aF)).holds R w':=bN.mono _ h.2 (λb hb=>hb.1)
 have k:∀{u:au},u.ok w->(tO u).holds R w':=λhu=>⟨aO w,h.1,λR2 w2 h2=>aA h2 hu.rows⟩
 exact⟨⟨⟨p.2,p.1.2⟩,⟨k hn.ay,k hn.data,k hn.aM⟩⟩,p.1.1⟩
theorem EG{s':dw}(h:(Rh w c s).holds R w')(hn:((DV s.aF s'.aF).off (GB w.heap.size)).holds R w'):(Rh w c s').holds R w':=by
 refine⟨h.1,h.2.1,λu hu=> ?_⟩
 rcases hn u hu with h1|h1
 ·exact h.2.2 u h1
 ·exact bN.mono _ h1 (λb hb=>⟨hb.1,Nat.le_of_not_lt hb.2⟩)
theorem afg{B:Base}{H:Heap}{S:bN}{nx:Nat}{last:Int}{out:List Int}{i2 i3 i4 j n2 n3 n4 nj:Nat}{T2 T3 T4 T5:TypeId}{r:qY×Int}(hw0:B.w0=w)(hS:∀R w',S.holds R w'->(Rh w c s).holds R w')(hs:sJ c s)(hsp:∀u∈c.bO.l,u.bq)(hf:s.code.length<=2048/\s.aF.length<=2048/\s.inputs.length<=2048)(ho:(∀x∈out,i64 x)/\out.length<=1000000)
 (h2:(i2,bZ.rows (iP s.inputs) 3 T2)∈H) (h3:(i3,bZ.rows (aS s.aF) 1 T3)∈H) (h4:(i4,bZ.rows (iO s.code) 5 T4)∈H) (h5:(j,bZ.rows (aN out) 1 T5)∈H) (e2:n2=s.inputs.length) (e3:n3=s.aF.length) (e4:n4=s.code.length) (e5:nj=(aN out).length) (hr:r=(⟨c.aj,s.pl,last,out⟩,0)):
 jI B (.sN [.agg [ax c.aj,.os i2 n2,.os i3 n3,.os i4 n4,ax last,.os j nj],ax 0]) H S nx (oI w r):=by
 subst hw0 hr e2 e3 e4 e5
 refine dH λρ w' hw=> ?_
 have hb:∀R w',S.holds R w'->(aO B.w0).holds R w':=λR w' h=>(hS R w' h).1
 obtain⟨b2,c2,q2,d2⟩:=fJ (dK hw hb h2)
 obtain⟨b3,c3,q3,d3⟩:=fJ (dK hw hb h3)
 obtain⟨b4,c4,q4,d4⟩:=fJ (dK hw hb h4)
 obtain⟨b5,c5,q5,d5⟩:=fJ (dK hw hb h5)
 obtain⟨l5,g5,F5,_,_,k5,_⟩:=dK hw hb h5
 rw[g5]at q5
 simp only[Value.slice.injEq]at q5
 rw[nO]at q2
 rw[aW]at q3
 rw[nE]at q4
 have dp:=oC (D:=(dW s.aF).and (acB s.inputs)) hw (λR w' h=>⟨(hS R w' h).2.2,λx hx=>(hS R w' h).2.1.2.2 x.aj (hs.inputs x hx).1⟩)
 refine⟨⟨c.aj,b2,c2,s.inputs,⟨b3,c3,s.aF⟩,b4,c4,s.code,last,⟨b5,c5,out⟩⟩,⟨rfl,⟨hs.aF,λx hx=>⟨hsp _ (hs.inputs x hx).1,(hs.inputs x hx).2⟩,⟨ho.1,by show out.length<=c5;rw[<-q5.2.2];simpa[aJ]using k5,ho.2⟩,by show s.aF.length<=_;omega,by show s.inputs.length<=_;omega,by show s.code.length<=_;omega⟩⟩,?_,aZ hw hb,⟨⟨⟨d2,dp.2⟩,⟨d3,dp.1⟩⟩,⟨d4,d5⟩⟩⟩
 show Ending.returned (.tuple #[.agg #[.int .i64 c.aj,(SV.os i2 s.inputs.length).rf ρ,(SV.os i3 s.aF.length).rf ρ,(SV.os i4 s.code.length).rf ρ,.int .i64 last,(SV.os j (aN out).length).rf ρ],.int .i64 0])=_
 rw[q2,q3,q4,g5,q5.1,q5.2.2,aJ]
 rfl
theorem Lh{xs:List Int}(h:(gz xs aR aj).2=0):0<(gz xs aR aj).1.length:=by
 have hb:=dQ xs
 unfold gz at h|-
 split at h
 ·cases h
 ·rename_i h1
  split at h
  ·cases h
  ·rename_i h2
   rw[if_neg h1,if_neg h2]
   show 0<(iD _ _ _).length
   rw[dU]
   omega
theorem ZU{k:Nat}{x:dw}(h:dD k s.pl x.pl):x.aF.length+s.code.length<=s.aF.length+x.code.length/\x.inputs.length+s.code.length<=s.inputs.length+x.code.length:=by
 obtain⟨_,_,h1,h2⟩:=h
 simp only[dw.pl,List.length_map]at h1 h2
 exact⟨h1,h2⟩
theorem Xr(l:List Int)(x:Int):List.take l.length (aN l)++[[Value.int .i64 x]]=aN (l++[x]):=by
 rw[List.take_of_length_le N7];simp[aN]
abbrev LoW(w:World)(r:qY×Int)(k:Nat)(env:Env)(H:Heap)(S:bN)(nx:Nat):Prop:=Wp ⟨Tryz.prog,⟨w,[]⟩,Tryz.f9.ntmps,tab⟩ (Nr k (bodyC Tryz.f9)) env H S nx (TK ⟨Tryz.prog,⟨w,[]⟩,Tryz.f9.ntmps,tab⟩ Tryz.f9.results.toList (oI w r))
theorem JU(w:World)(g:bG)(c:dN)(qs:dw)(vl:List Int)(r:qY×Int)(ho:0<=g.out)(ho1:g.out.toNat<c.bO.l.length)(ho2:g.out.toNat<vl.length)(hqo:sJ c qs)(hf:qs.code.length<=2048/\qs.aF.length<=2048/\qs.inputs.length<=2048)
 (aki:∀u∈c.bO.l,u.bq/\0<u.xs.length) (hrT:lowerT c g (some (qs.pl,vl))=r):
 LoW w r 8 [(3,.lp 0 0 0 0),(6,.lp 2 0 0 0),(10,.lp 3 0 0 0)]
  ((2,.box [ax 0,.c (.slice none 0 0),.c (.slice none 0 0),.c (.slice none 0 0),ax 0,.c (.slice none 0 0)] 34)::(0,.box [.c (.slice g.base g.l.length g.cap),ax g.out] 24)::wV c qs vl 3 5 6 7 8) (Rh w c qs) 9:=by
 have hrow:=dF ho1
 have hcr:∀R w',(Rh w c qs).holds R w'->bu w' c.bO.base 1 (aS c.bO.l)/\∀u∈c.bO.l,bu w' u.base 1 (aN u.xs):=λR w' h=>⟨aV h.2.1.2.1,λu hu=>aV (h.2.1.2.2 u hu)⟩
 have vY:=List.getElem_mem ho1
 have YF:c.bO.l.getD g.out.toNat fQ=c.bO.l[g.out.toNat]:=by rw[List.getD_eq_getElem?_getD,List.getElem?_eq_getElem ho1];rfl
 generalize c.bO.l[g.out.toNat]=u at*
 have aen:=(aki u vY).1
 have an_:=(aki u vY).2
 refine Wp.know (p:=∃a,c.bO.base=some a) (λρ w' hw=>ae hw λR h=>aP (j:=g.out.toNat) (hcr _ _ h).1 (by rw[aW];exact ho1)) ?_
 rintro⟨sa,hsa⟩
 repeat' ((conv=>whnf)<;>first|(show b_ _ 37 ..;refine lu [] [(0,.box [.c (.slice g.base g.l.length g.cap),ax g.out] 24),(5,.rows (aN vl) 1 3)] (eY [0,1,2,6,7,10,14,15] (.alt 3 (.alt 4 (.alt 5 (eY [8,9,111,112,113,16,17,118,119,120,121,122,123,124,125,126] .done) (.one 11 (.alt 5 (eY [8,9,112,113,16,17,118,119,120,121,122,123,124,125,126] .done) (.one 12 (.alt 5 (eY [8,9,113,16,17,118,119,120,121,122,123,124,125,126] .done) (eY [113,16,17] (.alt 5 (eY [8,9,118,119,120,121,122,123,124,125,126] .done) (eY [118,105,8,9,119,120,121,122,123,124,125,126] .done)))))))) (.one 11 (.alt 4 (.alt 5 (eY [8,9,112,113,16,17,118,119,120,121,122,123,124,125,126] .done) (.one 12 (.alt 5 (eY [8,9,113,16,17,118,119,120,121,122,123,124,125,126] .done) (eY [113,16,17] (.alt 5 (eY [8,9,118,119,120,121,122,123,124,125,126] .done) (eY [118,105,8,9,119,120,121,122,123,124,125,126] .done)))))) (.one 12 (.alt 4 (.alt 5 (eY [8,9,113,16,17,118,119,120,121,122,123,124,125,126] .done) (eY [113,16,17] (.alt 5 (eY [8,9,118,119,120,121,122,123,124,125,126] .done) (eY [118,105,8,9,119,120,121,122,123,124,125,126] .done)))) (eY [113,16,17] (.alt 4 (.alt 5 (eY [8,9,118,119,120,121,122,123,124,125,126] .done) (eY [118,105,8,9,119,120,121,122,123,124,125,126] .done)) (eY [118,104,105,8,9,119,120,121,122,123,124,125,126] .done)))))))) (.one 11 (.alt 3 (.alt 4 (.alt 5 (eY [8,9,112,113,16,17,118,119,120,121,122,123,124,125,126] .done) (.one 12 (.alt 5 (eY [8,9,113,16,17,118,119,120,121,122,123,124,125,126] .done) (eY [113,16,17] (.alt 5 (eY [8,9,118,119,120,121,122,123,124,125,126] .done) (eY [118,105,8,9,119,120,121,122,123,124,125,126] .done)))))) (.one 12 (.alt 4 (.alt 5 (eY [8,9,113,16,17,118,119,120,121,122,123,124,125,126] .done) (eY [113,16,17] (.alt 5 (eY [8,9,118,119,120,121,122,123,124,125,126] .done) (eY [118,105,8,9,119,120,121,122,123,124,125,126] .done)))) (eY [113,16,17] (.alt 4 (.alt 5 (eY [8,9,118,119,120,121,122,123,124,125,126] .done) (eY [118,105,8,9,119,120,121,122,123,124,125,126] .done)) (eY [118,104,105,8,9,119,120,121,122,123,124,125,126] .done)))))) (.one 12 (.alt 3 (.alt 4 (.alt 5 (eY [8,9,113,16,17,118,119,120,121,122,123,124,125,126] .done) (eY [113,16,17] (.alt 5 (eY [8,9,118,119,120,121,122,123,124,125,126] .done) (eY [118,105,8,9,119,120,121,122,123,124,125,126] .done)))) (eY [113,16,17] (.alt 4 (.alt 5 (eY [8,9,118,119,120,121,122,123,124,125,126] .done) (eY [118,105,8,9,119,120,121,122,123,124,125,126] .done)) (eY [118,104,105,8,9,119,120,121,122,123,124,125,126] .done)))) (eY [113,16,17] (.alt 3 (.alt 4 (.alt 5 (eY [8,9,118,119,120,121,122,123,124,125,126] .done) (eY [118,105,8,9,119,120,121,122,123,124,125,126] .done)) (eY [118,104,105,8,9,119,120,121,122,123,124,125,126] .done)) (eY [118,103,104,105,8,9,119,120,121,122,123,124,125,126] .done))))))))) ?_ (h6:=List.Sublist.cons _ (List.Sublist.cons_cons _ (List.Sublist.cons _ (List.Sublist.cons_cons _ (List.nil_sublist _))))))|refine BF ?_|(show bV ..;refine aH sa g.out.toNat hsa aa ho1 ?_)|(show fT ..;(refine bA (λR w' h=>by rw[<-hsa];exact(hcr _ _ h).1) _ _ hrow rfl ?_))|(show di ..;(refine bg g.out.toNat aa ho2 N7 ?_))|(show mq ..;refine qZ ho2 ?_)|(show aI _ 32 ..;refine w_ (f:=32) Tryz.call32 1 3 (λ_:Unit=>aN u.xs) (λ_=>True) (λρ w' hw=>(Bt w' u (ae hw λR h=>⟨(hcr _ _ h).2 u vY,aen.fits,aen.room,aen.few⟩) an_).mono (λe w2 h=>⟨(),trivial,h⟩)) (λ_ _=> ?_))|refine aX ?_|refine And.intro ?_ ?_)
 all_goals(conv=>whnf)
 all_goals exact afg (c:=c) (s:=qs) (out:=u.xs) (last:=vl.getD g.out.toNat 0) rfl (λ_ _ h=>h) hqo (λu hu=>(aki u hu).1) hf ⟨aen.fits,aen.few⟩ aU aU aU aU rfl rfl rfl rfl (by rw[<-hrT];show(_,_)=(_,_);rw[YF])
end
abbrev alu:DT:=(eY [0,1,5,6,7,8] (.alt 2 (.alt 3 (.alt 4 (eY [109,110,111,112,113,114] .done) (.one 9 (.alt 4 (eY [110,111,112,113,114] .done) (eY [110,104,111,112,113,114] .done)))) (.one 9 (.alt 3 (.alt 4 (eY [110,111,112,113,114] .done) (eY [110,104,111,112,113,114] .done)) (eY [110,103,104,111,112,113,114] .done)))) (.one 9 (.alt 2 (.alt 3 (.alt 4 (eY [110,111,112,113,114] .done) (eY [110,104,111,112,113,114] .done)) (eY [110,103,104,111,112,113,114] .done)) (eY [110,102,103,104,111,112,113,114] .done)))))
theorem adm(w:World)(g:bG)(o:Aw)(m:Nat)(hg:g.ok w)(hs:mD o m)(hsp:(bX g).1=0)(htd:o.tidy=false)(r:qY×Int)
 (hbad:(gG o.aR m (check g).2 []).2≠0->r=(uZ,(gG o.aR m (check g).2 []).2))
 (hgood:(gG o.aR m (check g).2 []).2=0->∀c:dN,c.aj=m->c.giant=o.giant->c.shapes.l.map au.xs=(check g).2->(∀u∈c.shapes.l,u.bq)->c.bO.l.map au.xs=(gG o.aR m (check g).2 []).1->(∀u∈c.bO.l,u.bq)->(∀(i:Nat) (n:ai),g.l[i]? =some n->Dq c n i (vw n.ak))/\qd c g=r):
 Calls Tryz.prog 9 #[g.val,o.val,.int .i64 m] w (oI w r):=by
 obtain⟨hck,_,_⟩:=jw hsp
 obtain⟨hl1,wT,hout,hcl,hin⟩:=iq hck
 obtain⟨s1,s2,s3,s4,s5⟩:=hs
 refine fH Tryz.func9 [.agg [.c (.slice g.base g.l.length g.cap),ax g.out],.agg [ax o.aR,.c (.bool o.tidy),.c (.bool o.lazy),.c (.bool o.giant),ax o.rows],ax m] ?_
 repeat' ((conv=>whnf)<;>first|(show Jl ..;refine IK ?_)|(show @eZ _ _ _;(first|refine dA aa ?_))|(show aI _ 22 ..;refine nK (f:=22) (bX g) Tryz.call22 (λρ w' hw=>xw w' g (ae hw λR h=>hg.later h)) (λh=>absurd hsp h) (λ_ qb qc=> ?_))|refine aX ?_)
 refine uU (λ_=>rfl) (λht=> ?_) (λ_=> ?_)
 ·rw[htd]at ht;cases ht
 repeat' ((conv=>whnf)<;>first|(show aI _ 24 ..;refine vZ (f:=24) (check g) Tryz.call24 (λρ w' hw=>pV w' g (ae hw λR h=>hg.later h.1)) (λh=>absurd hck h) (λ_ sv hm hsv hsc=> ?_))|refine aX ?_)
 have hsl:sv.l.length=g.l.length:=by have:=congrArg List.length hm;rw[List.length_map]at this;omega
 obtain⟨Z,UX⟩:∃Z,gG o.aR m ((sv.l.drop 0).map au.xs) []=Z:=⟨_,rfl⟩
 have RG:gG o.aR m (check g).2 []=Z:=by rw[<-UX,List.drop_zero];exact congrArg (λz=>gG o.aR m z []) hm.symm
 rw[RG]at hbad hgood
 refine Wp.loop (σ:=Nat×List au) 5 (λq=>[(2,ax m),(3,.lp 0 0 0 0),(4,.lp 1 0 0 0),(6,.lp 2 0 0 0),(10,.lp 3 0 0 0),(75,.c sv.val),(76,ax sv.l.length),(77,ax q.1)])
  (λq=>[(4,.rows (aS q.2) 1 32),(3,.box [ax m,.c (.slice none 0 0),.c (.slice none 0 0),.c (.slice none 0 0),ax 0,.c (.slice none 0 0),.c (.bool o.giant),.c sv.val,.os 4 q.2.length,.c (.slice none 0 0)] 71),(2,.box [ax 0,.c (.slice none 0 0),.c (.slice none 0 0),.c (.slice none 0 0),ax 0,.c (.slice none 0 0)] 34),(1,.box [ax o.aR,.c (.bool o.tidy),.c (.bool o.lazy),.c (.bool o.giant),ax o.rows] 26),(0,.box [.c (.slice g.base g.l.length g.cap),ax g.out] 24)])
  (λq=>alX w sv q.2) (λq=>q.1<=sv.l.length/\q.2.length=q.1/\(∀u∈q.2,u.bq/\0<u.xs.length)/\gG o.aR m ((sv.l.drop q.1).map au.xs) (q.2.map au.xs)=Z) (λq=>sv.l.length-q.1) (0,[]) [(4,none)] aY (λq=>⟨rfl,rfl⟩) ⟨Nat.zero_le _,rfl,λ_ h=>kP,UX⟩
  ⟨rfl,⟨rfl,rfl,rfl,rfl,rfl,rfl,rfl,rfl,trivial⟩,⟨rfl,aU,aU,aU,aU,trivial⟩,λR w' h=>⟨⟨h.1.1,h.2⟩,λu hu=>by cases hu⟩⟩ ?_
 rintro⟨k,us⟩ ⟨hkl,yJ,fI,hZ⟩
 simp only at hkl yJ fI hZ
 by_cases hlt:k<sv.l.length
 ·rw[List.drop_eq_getElem_cons hlt,List.map_cons]at hZ
  have hrow:=dF hlt
  have vY:=List.getElem_mem hlt
  generalize sv.l[k]=u at*
  refine Wp.know (p:=∃a,sv.base=some a) (λρ w' hw=>ae hw λR h=>aP (j:=k) (aV h.1.2.1) Mw) ?_
  rintro⟨sa,hsa⟩
  by_cases hok:(gz u.xs o.aR m).2=0
  ·rw[Bq hok]at hZ
   repeat' ((conv=>whnf)<;>first|refine Ug ?_|refine T9 ?_|(show @eZ _ _ _;(refine dA (by rw[hok];decide) ?_))|(refine abb ?_;intro x hx hxs)|(show vO ..;(refine gY J9 ?_))|refine ZY ?_|refine ac4 ?_|refine aX ?_|refine ag ?_ ?_<;>intro _)
   all_goals(conv=>whnf)
   all_goals exact⟨(k+1,us++[x]),[(4,some 6)],⟨hlt,by show(us++[x]).length=k+1;rw[List.length_append,yJ];rfl,λv hv=>(List.mem_append.1 hv).elim (fI v) (λhv=>by rw[List.mem_singleton.1 hv];exact⟨hxs,by rw[hx];exact Lh hok⟩),by show gG o.aR m _ ((us++[x]).map au.xs)=Z;rw[List.map_append,List.map_cons,List.map_nil,hx];exact hZ⟩,by show sv.l.length-(k+1)<sv.l.length-k;omega,rfl,⟨rfl,rfl,rfl,rfl,rfl,rfl,rfl,rfl,trivial⟩,bM,λR w' h=>⟨h.1.1,kX h.1.2 (Fz h.2)⟩⟩
  ·rw[A_ hok]at hZ
   repeat' ((conv=>whnf)<;>first|refine Ug ?_|refine T9 ?_|(show @eZ _ _ _;refine cu hok ?_)|(refine abb ?_;intro x hx hxs)|refine aX ?_|refine ag ?_ ?_<;>intro _)
   all_goals(conv=>whnf)
   have e2:Z.2=(gz u.xs o.aR m).2:=by rw[<-hZ]
   all_goals exact nk (λ_ _ h=>h.1.1.1) rfl (by rw[hbad (by rw[e2];exact hok),e2]) (λρ=>rfl)
 obtain rfl:k=sv.l.length:=by omega
 rw[List.drop_length]at hZ
 have hZ:(us.map au.xs,(0:Int))=Z:=hZ
 repeat' ((conv=>whnf)<;>first|refine BD ?_|refine ag ?_ ?_<;>intro _)
 all_goals(conv=>whnf)
 refine Wp.Ie 4 (GB w.heap.size) (k:=1) (xs:=aS us) (T:=32) aU (λR w' h b hb=>(h.1.1 b hb).1) (λfl hfl=> ?_)
 rw[aW]at hfl
 obtain⟨c,hc⟩:∃c:dN,c=⟨m,o.giant,sv,⟨fl.base,fl.cap,us⟩⟩:=⟨_,rfl⟩
 obtain⟨acR,hr⟩:=hgood (by rw[<-hZ]) c Tx Tx (by rw[hc];exact hm) (by rw[hc];exact hsv) (by rw[hc,<-hZ]) (by rw[hc];exactλu hu=>(fI u hu).1)
 repeat' ((conv=>whnf)<;>first|refine aX ?_|refine ag ?_ ?_<;>intro _)
 obtain⟨T,hT0⟩:∃T,ig c (g.l.drop 0) 0 ⟨[],[],[]⟩ []=T:=⟨_,rfl⟩
 have hrT:lowerT c g T=r:=by rw[<-hT0,<-hr];rfl
 have hcs:c.aj=m:=by rw[hc]
 refine Wp.loop (σ:=Nat×dw×List Int) 9 (λq=>[(3,.lp 0 0 0 0),(6,.lp 2 0 0 0),(10,.lp 3 0 0 0),(105,.c (.slice g.base g.l.length g.cap)),(106,ax g.l.length),(107,ax q.1)])
  (λq=>(2,.box [ax 0,.c (.slice none 0 0),.c (.slice none 0 0),.c (.slice none 0 0),ax 0,.c (.slice none 0 0)] 34)::(0,.box [.c (.slice g.base g.l.length g.cap),ax g.out] 24)::wV c q.2.1 q.2.2 3 5 6 7 8)
  (λq=>Rh w c q.2.1) (λq=>q.1<=g.l.length/\q.2.2.length=q.1/\sJ c q.2.1/\q.2.1.code.length<=2048/\q.2.1.aF.length<=q.2.1.code.length/\q.2.1.inputs.length<=q.2.1.code.length/\ig c (g.l.drop q.1) q.1 q.2.1.pl q.2.2=T) (λq=>g.l.length-q.1) (0,⟨[],[],[]⟩,[]) [(5,none),(6,none),(7,none),(8,none)] aY (λq=>⟨rfl,rfl⟩)
  ⟨Nat.zero_le _,rfl,⟨λ_ h=>kP,λ_ h=>kP⟩,Nat.zero_le _,Nat.zero_le _,Nat.zero_le _,hT0⟩ ⟨rfl,⟨rfl,rfl,rfl,rfl,rfl,rfl,trivial⟩,⟨aU,aU,by rw[hc];exact aU,rfl,rfl,rfl,rfl,trivial⟩,λR w' h=>⟨h.1.1.1,⟨by rw[hc];exact h.1.1.2,by rw[hc];exact⟨acv (λb hb=>hb) h.2,h.1.2⟩⟩,λ_ h=>kP⟩⟩ ?_
 rintro⟨i,qs,vl⟩ ⟨hil,hvl,hqo,hqc,hqp,hqi,hT⟩
 simp only at hil hvl hqo hqc hqp hqi hT
 by_cases hlt:i<g.l.length
 ·have hgi:g.l[i]? =some g.l[i]:=List.getElem?_eq_getElem hlt
  have hrow:=bU hlt
  have hNC:=acR i _ hgi
  have hgr:=dD.node c g.l[i] i qs.pl vl aa
  have hnm:=List.getElem_mem hlt
  rw[List.drop_eq_getElem_cons hlt,ig]at hT
  generalize g.l[i]=n at*
  have aoa:=hg.each n hnm
  have hNA:lU c qs vl:=⟨by omega,hqo,by omega,by omega,by omega⟩
  clear acR hbad hgood UX RG hT0 hZ hc hsv hm hnm hgi yJ fI hkl hsl hsc hin hcl
  refine Wp.know (p:=∃a,g.base=some a) (λρ w' hw=>ae hw λR h=>aP (j:=i) (aA h.1 hg.rows) aey) ?_
  rintro⟨ga,hga⟩
  rcases Zu n.ak with⟨hk,hf⟩|⟨hk,hf⟩|⟨hk,hf⟩|⟨hk,hf⟩|⟨hk,hf⟩|⟨⟨hk1,hk2,hk3,hk4,hk5⟩,hf⟩
  all_goals as_aux_lemma=>
   rw[hf]at hNC
   repeat' ((conv=>whnf)<;>first|(show b_ _ 33 ..;refine lu [] [(9,.box (cs n.cells) 41)] alu ?_ (h6:=List.Sublist.cons_cons _ (List.nil_sublist _)))|refine BF ?_|(show bV ..;refine aH ga i hga rfl hlt ?_)|(show mF ..;(refine gL (λR w' h=>by rw[<-hga];exact aA h.1 hg.rows) _ hrow rfl ?_))|refine OQ ?_|(show aI _ _ [.lp 3 0 0 0,_,_] ..;refine dV [(9,.box (cs n.cells) 41),(2,.box [ax 0,.c (.slice none 0 0),.c (.slice none 0 0),.c (.slice none 0 0),ax 0,.c (.slice none 0 0)] 34),(0,.box [.c (.slice g.base g.l.length g.cap),ax g.out] 24)] 3 5 6 7 8 c qs vl (ru c qs n) [.lp 0 0 0 0,.agg (jN n),ax i] _ _ _ _ ahv rfl rfl rfl (λR w' h=>adS aoa h) (GB w.heap.size) (λR w' h b hb=>(h.1 b hb).1) (λw' ρ' F' h'=>hNC qs vl w' ρ' F' hNA hvl h') (λq ⟨hq1,hq2,hq3⟩=> ?_))|refine aez ?_|refine ac_ ?_|refine aeG ?_|refine aX ?_|refine ag ?_ ?_<;>intro _|refine And.intro ?_ ?_)
   all_goals(conv=>whnf)
   all_goals
    rw[<-hq1]at hT hgr
    have hg3:=ZU hgr
    first|exact⟨(i+1,q.1,vl++[q.2]),[(5,some 16),(6,some 12),(7,some 13),(8,some 14)],⟨hlt,by show(vl++[q.2]).length=i+1;rw[List.length_append,hvl];rfl,hq3,by show q.1.code.length<=2048;omega,by show q.1.aF.length<=q.1.code.length;omega,by show q.1.inputs.length<=q.1.code.length;omega,by rw[if_neg ad4,<-hq2]at hT;exact hT⟩,by show g.l.length-(i+1)<g.l.length-i;omega,rfl,bM,bM,λR w' h=>EG h.1 h.2⟩|exact nk (λ_ _ h=>h.1.1) rfl ahU (λρ=>rfl)
 ·obtain rfl:i=g.l.length:=by omega
  rw[List.drop_length,ig]at hT
  rw[<-hT]at hrT
  have ho1:g.out.toNat<c.bO.l.length:=by rw[hc];show g.out.toNat<us.length;omega
  have ho2:g.out.toNat<vl.length:=by omega
  refine Wp.go bQ rfl ?_
  repeat' ((conv=>whnf)<;>first|refine BD ?_|refine ag ?_ ?_<;>intro _)
  refine Wp.go bQ rfl ?_
  repeat' ((conv=>whnf)<;>first|refine BD ?_|refine ag ?_ ?_<;>intro _)
  exact Wp.into 9 [] (JU w g c qs vl r hout.1 ho1 ho2 hqo ⟨hqc,by omega,by omega⟩ (by rw[hc];exact fI) hrT) aY ⟨rfl,rfl⟩ ⟨rfl,⟨rfl,rfl,rfl,trivial⟩,bM,λ_ _ h=>h⟩
section
theorem Ai:∀{l:List ai} {M3 sh:List (List Int)} {n:ai} {s:List Int},eX l M3=(0,sh)->cZ n sh.length=true->bR n sh=some s->g_ n=true->eX (l++[n]) M3=(0,sh++[s])
 |[],M3,sh,n,s,h,h1,h2,h3=>by
  obtain rfl:M3=sh:=by simpa[eX]using h
  rw[List.nil_append,iG h1 h2 h3];rfl
 |m::r,M3,sh,n,s,h,h1,h2,h3=>by
  by_cases hf:cZ m M3.length=false
  ·rw[sH hf]at h;simp at h
  have hf:cZ m M3.length=true:=by simpa using hf
  cases hs:bR m M3 with
  |none=>rw[qF hf hs]at h;simp at h
  |some q=>
   by_cases hn:g_ m=false
   ·rw[kK hf hs hn]at h;simp at h
   have hn:g_ m=true:=by simpa using hn
   rw[iG hf hs hn]at h
   rw[List.cons_append,iG hf hs hn]
   exact Ai h h1 h2 h3
theorem BX:∀(l:List ai) (sh:List (List Int)),(eX l sh).1=0->(eX l sh).2.length=sh.length+l.length
 |[],sh,_=>by simp[eX]
 |n::r,sh,h=>by
  by_cases hf:cZ n sh.length=false
  ·rw[sH hf]at h;simp at h
  have hf:cZ n sh.length=true:=by simpa using hf
  cases hs:bR n sh with
  |none=>rw[qF hf hs]at h;simp at h
  |some s=>
   by_cases hn:g_ n=false
   ·rw[kK hf hs hn]at h;simp at h
   have hn:g_ n=true:=by simpa using hn
   rw[iG hf hs hn]at h|-
   rw[BX r _ h]
   simp;omega
structure Vk(l:List ai):Prop where
 one:1<=l.length
 shapes:∃sh,eX l []=(0,sh)/\∀s∈sh,agv s
 each:∀n∈l,Made n
variable {l:List ai} {sh:List (List Int)}
theorem Wv{n:ai}(h:Vk l)(hsh:eX l []=(0,sh))(hn:Sv n sh)(hok:∀s∈sh,agv s):Vk (l++[n]):=by
 obtain⟨s,hs,hso⟩:=hn.ay
 refine⟨by simp,⟨sh++[s],Ai hsh hn.form hs hn.near,?_⟩,?_⟩
 ·intro x hx
  rcases List.mem_append.1 hx with hx|hx
  ·exact hok x hx
  ·simp at hx;subst hx;exact hso
 ·intro x hx
  rcases List.mem_append.1 hx with hx|hx
  ·exact h.each x hx
  ·simp at hx;subst hx;exact hn.made
theorem Yb{base:Option Addr}{cap:Nat}{out:Int}(h1:1<=l.length)(h24:l.length<=24)(ho:0<=out/\out<l.length)(h:eX l []=(0,sh)):check ⟨base,cap,l,out⟩=(0,sh):=by
 unfold check
 rw[if_neg (by simp only;omega)]
 exact h
end
open Go.ChangeShapes Go.WideShapes Go.ChangeAt
def Qe(w:World)(f:Field)(cs:List Value):Prop:=
 (f.type=3->∃i,(Lit.int .i64 i).wf=true/\cs=[.int .i64 i])/\(f.type=32->∃u:au,cs=[u.val]/\u.raw w)
theorem amc{cs:List Value}(h:cs.length=9):∃a b c d e f g i j,cs=[a,b,c,d,e,f,g,i,j]:=by
 match cs,h with
 |[a,b,c,d,e,f,g,i,j],_=>exact⟨a,b,c,d,e,f,g,i,j,rfl⟩
theorem akV{cs:List Value}(h:cs.length=2):∃a b,cs=[a,b]:=by
 match cs,h with
 |[a,b],_=>exact⟨a,b,rfl⟩
theorem aid:Tryz.prog.cellsOf 3=1:=by kernel_rfl
theorem akx:Tryz.prog.cellsOf 32=1:=by kernel_rfl
theorem WV(w:World):kF Tryz.prog w 41 λcs=>∃n:ai,cs=n.cells/\n.raw w:=by
 have h:=y5 (P:=Tryz.prog) (w:=w) (k:=9) (Q:=Qe w) Tryz.underlying41 ji (by
  intro f hf
  have hi:∀t,t=3->kF Tryz.prog w t λcs=>(t=3->∃i,(Lit.int .i64 i).wf=true/\cs=[.int .i64 i])/\(t=32->∃u:au,cs=[u.val]/\u.raw w):=by
   rintro t rfl
   exact kF.mono (xQ Tryz.underlying3) λcs hc=>⟨λ_=>hc,λh=>kP⟩
  have hs:∀t,t=32->kF Tryz.prog w t λcs=>(t=3->∃i,(Lit.int .i64 i).wf=true/\cs=[.int .i64 i])/\(t=32->∃u:au,cs=[u.val]/\u.raw w):=by
   rintro t rfl
   exact kF.mono (Sl w) λcs hc=>⟨λh=>kP,λ_=>hc⟩
  simp only[List.mem_toArray,List.mem_cons,List.not_mem_nil,or_false]at hf
  rcases hf with rfl|rfl|rfl|rfl|rfl|rfl|rfl|rfl|rfl
  all_goals first|(refine kF.mono (Q':=Qe w _) (hi _ rfl) ?_;intro cs h;exact h)|(refine kF.mono (Q':=Qe w _) (hs _ rfl) ?_;intro cs h;exact h))
 refine kF.mono h ?_
 rintro cs ⟨hl,hf⟩
 obtain⟨a,b,c,d,e,f,g,i,j,rfl⟩:=amc hl
 simp only[List.mem_toArray,List.mem_cons,List.not_mem_nil,or_false,forall_eq_or_imp,forall_eq,Qe,aid,akx,List.drop_zero,List.drop_succ_cons,List.take_succ_cons,List.take_zero,forall_const,true_and,and_true,reduceCtorEq,Nat.reduceEqDiff,false_implies]at hf
 obtain⟨⟨x1,w1,e1⟩,⟨x2,w2,e2⟩,⟨x3,w3,e3⟩,⟨x4,e4,w4⟩,⟨x5,w5,e5⟩,⟨x6,w6,e6⟩,⟨x7,w7,e7⟩,⟨x8,e8,w8⟩,⟨x9,e9,w9⟩⟩:=hf
 simp only[List.cons.injEq,and_true]at e1 e2 e3 e4 e5 e6 e7 e8 e9
 subst e1 e2 e3 e4 e5 e6 e7 e8 e9
 exact⟨⟨x1,x2,x3,x4,x5,x6,x7,x8,x9⟩,rfl,w4,w8,w9,wf_i64' w1,wf_i64' w2,wf_i64' w3,wf_i64' w5,wf_i64' w6,wf_i64' w7⟩
theorem Vj(w:World):kF Tryz.prog w 24 λcs=>∃g:bG,cs=[.slice g.base g.l.length g.cap,.int .i64 g.out]/\g.raw w:=by
 have hns:=Gf (P:=Tryz.prog) (w:=w) (k:=9) Tryz.underlying22 ji (WV w)
 have h:=y5 (P:=Tryz.prog) (w:=w) (k:=2) (Q:=λf cs=>(f.type=3->∃i,(Lit.int .i64 i).wf=true/\cs=[.int .i64 i])/\(f.type=22->acn w 9 (λcs=>∃n:ai,cs=n.cells/\n.raw w) cs)) Tryz.underlying24 ji (by
  intro f hf
  simp only[List.mem_toArray,List.mem_cons,List.not_mem_nil,or_false]at hf
  rcases hf with rfl|rfl
  ·exact kF.mono hns λcs hc=>⟨λh=>kP,λ_=>hc⟩
  ·exact kF.mono (xQ Tryz.underlying3) λcs hc=>⟨λ_=>hc,λh=>kP⟩)
 refine kF.mono h ?_
 rintro cs ⟨hl,hf⟩
 obtain⟨a,b,rfl⟩:=akV hl
 have ahj:Tryz.prog.cellsOf 22=1:=by kernel_rfl
 simp only[List.mem_toArray,List.mem_cons,List.not_mem_nil,or_false,forall_eq_or_imp,forall_eq,aid,ahj,List.drop_zero,List.drop_succ_cons,List.take_succ_cons,List.take_zero,forall_const,true_and,and_true,reduceCtorEq,Nat.reduceEqDiff,false_implies]at hf
 obtain⟨⟨base,cap,xs,e1,hr,hx,_⟩,x2,w2,e2⟩:=hf
 obtain⟨l,rfl,hall⟩:=zz (f:=ai.cells) (p:=λn=>n.raw w) λr hr=>by obtain⟨n,hn,hn'⟩:=(hx r hr).2;exact⟨n,hn',hn⟩
 simp only[List.cons.injEq,and_true]at e1 e2
 subst e1 e2
 exact⟨⟨base,cap,l,x2⟩,by simp,hr,hall,wf_i64' w2⟩
def Fv:List ai->List (List Int)->Prop
 |[],inp=>inp=[]
 |n::r,inp=>if n.ak≠1 then Fv r inp else∃x xs,inp=x::xs/\((x.length:Int)=az n.ay.xs/\∀v∈x,n.lo<=v/\v<=n.hi)/\Fv r xs
section
theorem BS{m:Int}:∀(l:List Int) (x:Int),m<=x->(∀y∈l,m<=y)->m<=l.foldl min x
 |[],x,h,_=>h
 |z::r,x,h,hl=>by
  rw[List.foldl_cons]
  have:=hl z List.mem_cons_self
  exact BS r _ aa λy hy=>hl y (List.mem_cons_of_mem _ hy)
theorem BQ{m:Int}:∀(l:List Int) (x:Int),x<=m->(∀y∈l,y<=m)->l.foldl max x<=m
 |[],x,h,_=>h
 |z::r,x,h,hl=>by
  rw[List.foldl_cons]
  have:=hl z List.mem_cons_self
  exact BQ r _ aa λy hy=>hl y (List.mem_cons_of_mem _ hy)
variable {l:List Int} {m:Int}
theorem aeS(hn:l≠[])(h:∀y∈l,m<=y):m<=foldI min l:=by
 cases l with
 |nil=>exact absurd rfl hn
 |cons x r=>exact BS r x (h x List.mem_cons_self) λy hy=>h y (List.mem_cons_of_mem _ hy)
theorem aaG(hn:l≠[])(h:∀y∈l,y<=m):foldI max l<=m:=by
 cases l with
 |nil=>exact absurd rfl hn
 |cons x r=>exact BQ r x (h x List.mem_cons_self) λy hy=>h y (List.mem_cons_of_mem _ hy)
def mkI(l:List Int):au:=⟨none,l.length,l⟩
theorem U9(h:∀x∈l,cK x)(hl:l.length<=64):(mkI l).bq:=⟨λx hx=>by have:=h x hx;unfold cK at this;show _/\_;omega,Nat.le_refl _,by show l.length<=_;omega⟩
theorem KG{g:bG}(hsp:(bX g).1=0):∀{r:List ai} {k:Nat} {kn:List au} {inp:List (List Int)},k<=g.l.length->g.l.drop k=r->CW g kn k->Fv r inp->∃kn':List au,jf (check g).2 r (kn.map au.xs) inp=(0,kn'.map au.xs)/\CW g kn' g.l.length
 |[],k,kn,inp,hk,hr,hkn,hg=>by
  simp only[Fv]at hg
  subst hg
  have:g.l.length<=k:=List.drop_eq_nil_iff.1 hr
  obtain rfl:k=g.l.length:=by omega
  exact⟨kn,by simp[jf],hkn⟩
 |n::r,k,kn,inp,hk,hr,hkn,hg=>by
  obtain⟨hck,hsl,hsi⟩:=jw hsp
  obtain⟨hl1,wT,hout,hcl,hin⟩:=iq hck
  have hlt:k<g.l.length:=by
   rcases Nat.lt_or_ge k g.l.length with h|h
   ·exact h
   ·rw[List.drop_eq_nil_of_le h]at hr;cases hr
  have hdrop:g.l.drop k=g.l[k]::g.l.drop (k+1):=List.drop_eq_getElem_cons hlt
  rw[hdrop]at hr
  have hgk:g.l[k]? =some n:=by rw[List.getElem?_eq_getElem hlt];simp only[List.cons.injEq]at hr;rw[hr.1]
  have hr2:g.l.drop (k+1)=r:=by simp only[List.cons.injEq]at hr;exact hr.2
  obtain⟨s,hs,hni⟩:=hin k n hgk
  obtain⟨p,hp,hpe,hp1,hp2⟩:=hsi k n hgk
  obtain⟨⟨ha0,aj7,hai⟩,⟨hb0,Xo,hbi⟩,cnt,Ed,hpl⟩:=xZ hck hgk
  have e1:(check g).2.getD k []=s:=by rw[List.getD_eq_getElem?_getD,hs];rfl
  rw[e1]at Ed hpl
  have hcb:=(dQ s).2
  have hkl:=hkn.len
  have aa4:(kn.map au.xs).length=k:=by rw[List.length_map,hkl]
  have hti:((check g).2.take k).length=k:=by rw[List.length_take,hcl];omega
  have hform:=hni.form
  rw[hti]at hform
  simp only[Fv]at hg
  by_cases hk1:n.ak=1
  ·rw[if_neg (λh=>h hk1)]at hg
   obtain⟨x,xs,rfl,⟨hx1,hx2⟩,hg⟩:=hg
   have hsx:s=n.ay.xs:=by
    have:=hni.ay
    unfold bR at this
    rw[if_pos (.inl hk1)]at this
    simpa using this.symm
   have hL:jb (check g).2 n ((bX g).2.take k)=[n.lo,n.hi]:=by
    unfold jb iE
    rw[if_neg (by unfold dX;omega)]
    exact if_pos hk1
   have hwi:within p x:=by
    rw[hpe]
    unfold rT jg
    rw[hL]
    intro z hz
    have m1:foldI min [n.lo,n.hi]=min n.lo n.hi:=rfl
    have m2:foldI max [n.lo,n.hi]=max n.lo n.hi:=rfl
    have:=hx2 z hz
    simp only[m1,m2]
    omega
   have hxl:x.length<=64:=by rw[<-hsx]at hx1;omega
   have hne:x≠[]:=by
    intro e
    have:=hpl.few
    rw[e]at hx1
    rw[<-hsx]at hx1
    simp only[List.length_nil]at hx1
    omega
   have hbad:¬((x.length:Int)≠az s\/foldI min x<n.lo\/n.hi<foldI max x):=by
    rw[hsx]
    have h1:n.lo<=foldI min x:=aeS hne λy hy=>(hx2 y hy).1
    have h2:foldI max x<=n.hi:=aaG hne λy hy=>(hx2 y hy).2
    omega
   have hv:jf (check g).2 (n::r) (kn.map au.xs) (x::xs)=jf (check g).2 r (kn.map au.xs++[x]) xs:=by
    conv=>lhs;unfold jf
    rw[if_neg (λh=>h hk1)]
    simp only
    rw[aa4,e1,if_neg hbad]
   rw[hv]
   have hkn2:=wh hkn (x:=mkI x) (U9 (λy hy=>by have:=hwi y hy;unfold cK;omega) hxl) hp hs hwi (by show(x.length:Int)=_;rw[hsx];exact hx1)
   have:=KG hsp aa hr2 hkn2 hg
   rw[List.map_append]at this
   exact this
  ·rw[if_pos hk1]at hg
   have kA:=o8 hsp hkn aa n.a.toNat
   have kB:=o8 hsp hkn aa n.b.toNat
   have ahr:=Yt hsp hkn aa (dM hform)
   have hpl':fu n ((check g).2.take k) s (mkI ((check g).2.getD n.a.toNat [])).xs cnt:=hpl
   have hwn:=Rm hpl' hk1 ahr kA.1 kB.1
   have hEq:jb (check g).2 n ((bX g).2.take k)=iE n cnt (mkI ((check g).2.getD n.a.toNat [])).xs (((bX g).2.take k).getD n.a.toNat (0,0)) (((bX g).2.take k).getD n.b.toNat (0,0)):=by
    unfold jb
    rw[show((bX g).2.take k).length=k by rw[List.length_take,hsl];omega,e1,Ed];rfl
   have hv:jf (check g).2 (n::r) (kn.map au.xs) inp=jf (check g).2 r (kn.map au.xs++[kN n cnt (mkI ((check g).2.getD n.a.toNat [])).xs (kn.getD n.a.toNat fQ).xs (kn.getD n.b.toNat fQ).xs]) inp:=by
    conv=>lhs;unfold jf
    unfold vg
    rw[if_pos hk1,Bo,Bo,aa4,e1,Ed];rfl
   rw[hv]
   have hwi:within p (kN n cnt (mkI ((check g).2.getD n.a.toNat [])).xs (kn.getD n.a.toNat fQ).xs (kn.getD n.b.toNat fQ).xs):=by
    rw[hpe];unfold rT;rw[hEq];exact hwn.1
   have hkn2:=wh hkn (x:=mkI (kN n cnt (mkI ((check g).2.getD n.a.toNat [])).xs (kn.getD n.a.toNat fQ).xs (kn.getD n.b.toNat fQ).xs)) (U9 (λy hy=>by have:=hwi y hy;unfold cK;omega) (by rw[hwn.2];exact hpl.few.2)) hp hs hwi (by show((kN _ _ _ _ _).length:Int)=_;rw[hwn.2,Ed])
   have:=KG hsp aa hr2 hkn2 hg
   rw[List.map_append]at this
   exact this
end
structure QW.raw(w:World)(t:QW):Prop where
 rows:bu w t.base 1 (akl t.bs)
 fits:∀x∈t.bs,x<=255
theorem Xz{l:List ai}{sh:List (List Int)}(hck:∀base cap out,0<=out->out<(l.length:Int)->check ⟨base,cap,l,out⟩=(0,sh))(base:Option Addr)(cap:Nat)(out:Int)(h0:0<=out)(h1:out<l.length):bX ⟨base,cap,l,out⟩=f_ sh l []/\∀inp,sw ⟨base,cap,l,out⟩ inp=jf sh l [] inp:=by
 unfold bX sw
 rw[hck base cap out h0 h1]
 exact⟨rfl,λ_=>rfl⟩
section
structure zg(l:List ai)(sh:List (List Int)):Prop where
 made:Vk l
 shapes:eX l []=(0,sh)
 ok:∀s∈sh,agv s
variable {l:List ai}
theorem Vk.s(h:Vk l):∃sh,zg l sh:=by
 obtain⟨sh,h1,h2⟩:=h.shapes
 exact⟨sh,h,h1,h2⟩
variable {sh:List (List Int)}
theorem zg.len(h:zg l sh):sh.length=l.length:=by
 have:=BX l [] (by rw[h.shapes])
 rw[h.shapes]at this
 simpa using this
theorem zg.snoc{n:ai}(h:zg l sh)(hn:Sv n sh){s:List Int}(hs:bR n sh=some s):zg (l++[n]) (sh++[s]):=by
 obtain⟨s',h1,h2⟩:=hn.ay
 obtain rfl:s'=s:=by rw[hs]at h1;simpa using h1.symm
 exact⟨Wv h.made h.shapes hn h.ok,Ai h.shapes hn.form hs hn.near,λx hx=>by
  rcases List.mem_append.1 hx with hx|hx
  ·exact h.ok x hx
  ·simp at hx;subst hx;exact h2⟩
theorem zg.check{l:List ai}{sh:List (List Int)}(h:zg l sh)(h24:l.length<=24)(base:Option Addr)(cap:Nat){out:Int}(h0:0<=out)(h1:out<l.length):check ⟨base,cap,l,out⟩=(0,sh):=Yb h.made.one h24 ⟨h0,h1⟩ h.shapes
theorem zg.a{l:List ai}{sh:List (List Int)}(h:zg l sh)(h24:l.length<=24):∀n∈l,n.a.toNat<sh.length:=by
 have h1:=h.made.one
 have hc:=h.check h24 none 0 (out:=0) (Int.le_refl _) aa
 intro n hn
 obtain⟨i,hi⟩:=List.mem_iff_getElem?.1 hn
 have:=(xZ (g:=⟨none,0,l,0⟩) Tx hi).1.2.1
 rw[hc]at this
 exact this
theorem zg.run{inp:List (List Int)}(h:zg l sh)(h24:l.length<=24)(hg:Fv l inp)(hsp:(f_ sh l []).1=0):∃vals,jf sh l [] inp=(0,vals)/\vals.length=l.length/\(∀i,i<l.length->(∀x∈vals.getD i [],cK x)/\((vals.getD i []).length:Int)=az (sh.getD i []))/\∀base cap (out:Int),0<=out->out<l.length->M_ ⟨base,cap,l,out⟩ inp=(0,vals.getD out.toNat []):=by
 have h1:=h.made.one
 have hc:=λbase cap (out:Int) (h0:0<=out) (h1:out<l.length)=>h.check h24 base cap h0 h1
 have hS:=Xz hc
 obtain⟨q1,q2⟩:=hS none 0 0 (Int.le_refl _) aa
 obtain⟨kn,v1,v2⟩:=KG (g:=⟨none,0,l,0⟩) (by rw[q1];exact hsp) (k:=0) (kn:=[]) (Nat.zero_le _) rfl ⟨rfl,λu hu=>by simp at hu,λj u s q hu=>by simp at hu⟩ hg
 rw[hc none 0 0 (Int.le_refl _) aa]at v1
 have hkl:kn.length=l.length:=v2.len
 have v1:jf sh l [] inp=(0,kn.map au.xs):=v1
 refine⟨kn.map au.xs,v1,by rw[List.length_map,hkl],λi hi=> ?_,λbase cap out h0 h1=> ?_⟩
 ·have:=o8 (g:=⟨none,0,l,0⟩) (by rw[q1];exact hsp) v2 (Nat.le_refl _) i
  rw[<-Bo]
  refine⟨this.2.1,?_⟩
  have e:=this.2.2 hi
  rw[hc none 0 0 (Int.le_refl _) aa]at e
  rw[e,List.take_of_length_le (by rw[h.len];exact Nat.le_refl _)]
 ·obtain⟨r1,r2⟩:=hS base cap out h0 h1
  unfold M_
  rw[r1,r2,if_neg aa,v1,if_neg fP]
end
section
def zh(n:Nat)(d:Int)(r:List Int×Bool)(s f w:Int):List Int×Bool:=if(s+d)%n=f then(r.1.set s.toNat w,r.2||decide (w≠0))else r
def Db(n:Nat)(d:Int)(fr row:List Int)(s:Int)(r:List Int×Bool)(k:Nat):List Int×Bool:=(List.range k).foldl (λr i=>zh n d r s (fr.getD i 0) (row.getD i 0)) r
def wI(n:Nat)(d:Int)(rows:List (List Int))(fr to:List Int)(o:Nat):List Int×Bool:=(List.range o).foldl (λr o=>Db n d fr (rows.getD o []) (to.getD o 0) r fr.length) (List.replicate n 0,false)
def ab6(n:Nat)(rows:List (List Int))(fr to:List Int)(d:Nat):List Int:=if(wI n d rows fr to to.length).2 then(wI n d rows fr to to.length).1 else []
theorem VN(n:Nat)(d:Int)(fr row:List Int)(s:Int)(r:List Int×Bool)(k:Nat):Db n d fr row s r (k+1)=zh n d (Db n d fr row s r k) s (fr.getD k 0) (row.getD k 0):=by simp[Db,List.range_succ]
theorem Vg(n:Nat)(d:Int)(rows:List (List Int))(fr to:List Int)(o:Nat):wI n d rows fr to (o+1)=Db n d fr (rows.getD o []) (to.getD o 0) (wI n d rows fr to o) fr.length:=by simp[wI,List.range_succ]
abbrev aj5:=Int×Int×Int
def BM(rows:List (List Int))(fr to:List Int)(o:Nat):List aj5:=(List.range o).flatMap λo=>(List.range fr.length).map λi=>(to.getD o 0,fr.getD i 0,(rows.getD o []).getD i 0)
theorem yO(n:Nat)(rows:List (List Int))(fr to:List Int)(o:Nat):ou n rows fr to o=(BM rows fr to o).foldl (λD t=>qA n D t.1 t.2.1 t.2.2) (List.replicate n []):=by
 simp only[ou,BM,Ay,List.foldl_flatMap,List.foldl_map]
theorem Ey(n:Nat)(d:Int)(rows:List (List Int))(fr to:List Int)(o:Nat):wI n d rows fr to o=(BM rows fr to o).foldl (λr t=>zh n d r t.1 t.2.1 t.2.2) (List.replicate n 0,false):=by
 simp only[wI,BM,Db,List.foldl_flatMap,List.foldl_map]
variable {l:List Int} {k:Nat}
theorem getD_at(h:k<l.length):l.getD k 0=l[k]:=by simp[List.getD,h]
variable {j:Nat}
theorem Lv(h:l.Nodup){i:Nat}(hi:i<l.length)(hj:j<l.length)(hij:i<j):l.getD i 0≠l.getD j 0:=by
 rw[getD_at hi,getD_at hj]
 rw[List.Nodup,List.pairwise_iff_getElem]at h
 exact h i j hi hj hij
variable {rows:List (List Int)} {fr to:List Int}
theorem Gs(hf:fr.Nodup)(ht:to.Nodup):∀o,o<=to.length->(BM rows fr to o).Pairwise (λa b=>¬(a.1=b.1/\a.2.1=b.2.1)):=by
 intro o ho
 induction o with
 |zero=>simp[BM]
 |succ o ih=>
  have e:BM rows fr to (o+1)=BM rows fr to o++(List.range fr.length).map λi=>(to.getD o 0,fr.getD i 0,(rows.getD o []).getD i 0):=by simp[BM,List.range_succ]
  rw[e,List.pairwise_append]
  refine⟨ih aa,?_,?_⟩
  ·rw[List.pairwise_map,List.pairwise_iff_getElem]
   intro i j hi hj hij h
   simp only[List.getElem_range]at h
   rw[List.length_range]at hi hj
   exact Lv hf hi hj hij h.2
  ·intro a ha b hb h
   obtain⟨o',ho',ha⟩:=List.mem_flatMap.1 ha
   obtain⟨i,hi,rfl⟩:=List.mem_map.1 ha
   obtain⟨j,hj,rfl⟩:=List.mem_map.1 hb
   exact Lv ht (by have:=List.mem_range.1 ho';omega) aa (List.mem_range.1 ho') h.1
theorem TU{n:Nat}(hf:∀x∈fr,0<=x/\x<n)(ht:∀x∈to,0<=x/\x<n){o:Nat}(ho:o<=to.length):∀t∈BM rows fr to o,(0<=t.1/\t.1<n)/\0<=t.2.1/\t.2.1<n:=by
 intro t h
 obtain⟨o',ho',h⟩:=List.mem_flatMap.1 h
 obtain⟨i,hi,rfl⟩:=List.mem_map.1 h
 have h1:o'<to.length:=by have:=List.mem_range.1 ho';omega
 have h2:i<fr.length:=List.mem_range.1 hi
 simp only
 rw[getD_at h1,getD_at h2]
 exact⟨ht _ (List.getElem_mem h1),hf _ (List.getElem_mem h2)⟩
theorem modn{x:Int}{n:Nat}(h0:0<=x)(h1:x<2*n):x%n=if x<n then x else x-n:=by
 split
 ·exact Int.emod_eq_of_lt h0 vJ
 ·have:x=x-n+n:=by omega
  rw[this,Int.add_emod_right,Int.emod_eq_of_lt aa aa];omega
variable {s f:Int} {d:Nat}
theorem adj{n:Nat}(hs:0<=s/\s<n)(hf:0<=f/\f<n)(hd:d<n):(s+(d:Int))%n=f↔((f-s+n)%n).toNat=d:=by
 rw[modn (x:=s+d) aa aa,modn (x:=f-s+n) aa aa]
 split<;>split<;>omega
structure Wi(n d:Nat)(D:List (List Int))(r:List Int×Bool):Prop where
 ajI:D.length=n
 len:r.1.length=n
 is:D.getD d []=if r.2 then r.1 else []
 zero:r.2=false->r.1=List.replicate n 0
theorem G6{α:Type}{l:List α}{x y:α}(h:k<l.length):(l.set k x).getD k y=x:=by simp[List.getD,h]
theorem getD_set_ne{α:Type}{l:List α}{x y:α}(h:k≠j):(l.set k x).getD j y=l.getD j y:=by simp[List.getD,List.getElem?_set_ne h]
theorem M8(hk:k<l.length)(h:l.getD k 0=0):l.set k 0=l:=by
 apply List.ext_getElem?
 intro i
 by_cases e:k=i
 ·subst e
  rw[List.getElem?_set_self hk]
  rw[getD_at hk]at h
  rw[List.getElem?_eq_getElem hk,h]
 ·rw[List.getElem?_set_ne e]
theorem Wi.step{n:Nat}(hd:d<n){D:List (List Int)}{r:List Int×Bool}(h:Wi n d D r){w:Int}(hs:0<=s/\s<n)(hf:0<=f/\f<n)(hz:(s+(d:Int))%n=f->r.1.getD s.toNat 0=0):Wi n d (qA n D s f w) (zh n d r s f w):=by
 have hsn:s.toNat<n:=by omega
 have hc:=adj hs hf hd
 obtain⟨l,b⟩:=r
 obtain⟨h1,h2,h3,h4⟩:=h
 simp only at h2 h3 h4 hz
 unfold qA zh
 by_cases hw:w=0
 ·subst hw
  rw[if_pos rfl]
  split
  ·rename_i g
   have:=M8 aa (hz g)
   simp only[this]
   exact⟨h1,h2,by simpa using h3,by simpa using h4⟩
  ·exact⟨h1,h2,h3,h4⟩
 ·rw[if_neg hw]
  have hd2:((f-s+n)%n).toNat<n:=by
   have:=Int.emod_nonneg (f-s+n) (show(n:Int)≠0 by omega)
   have:=Int.emod_lt_of_pos (f-s+n) (show(0:Int)<n by omega)
   omega
  by_cases g:(s+(d:Int))%n=f
  ·rw[if_pos g,hc.1 g]
   refine⟨by rw[List.length_set];exact h1,by rw[List.length_set];exact h2,?_,λe=>by simp[hw]at e⟩
   rw[G6 aa,h3]
   cases b with
   |true=>
    have hne:l≠[]:=λe=>by rw[e]at h2;simp at h2;omega
    simp[hne]
   |false=>
    rw[h4 rfl]
    simp[hw]
  ·rw[if_neg g]
   have hne:((f-s+n)%n).toNat≠d:=λe=>g (hc.2 e)
   exact⟨by rw[List.length_set];exact h1,h2,by rw[getD_set_ne hne];exact h3,h4⟩
theorem KL{n d:Nat}(hd:d<n):∀(T:List aj5) (D:List (List Int)) (r:List Int×Bool),T.Pairwise (λa b=>¬(a.1=b.1/\a.2.1=b.2.1))->(∀t∈T,(0<=t.1/\t.1<n)/\0<=t.2.1/\t.2.1<n)->Wi n d D r->
 (∀t∈T,(t.1+(d:Int))%n=t.2.1->r.1.getD t.1.toNat 0=0)->Wi n d (T.foldl (λD t=>qA n D t.1 t.2.1 t.2.2) D) (T.foldl (λr t=>zh n d r t.1 t.2.1 t.2.2) r)
 |[],D,r,_,_,h,_=>h
 |t::T,D,r,hp,hin,h,hz=>by
  obtain⟨hp1,hp2⟩:=List.pairwise_cons.1 hp
  rw[List.foldl_cons,List.foldl_cons]
  have ht:=hin t List.mem_cons_self
  refine KL hd T _ _ hp2 (λu hu=>hin u (List.mem_cons_of_mem _ hu)) (h.step hd ht.1 ht.2 (hz t List.mem_cons_self)) λu hu hc=> ?_
  have hu0:=hz u (List.mem_cons_of_mem _ hu) hc
  unfold zh
  split
  ·rename_i g
   have hne:t.1.toNat≠u.1.toNat:=λe=>by
    have hti:=hin u (List.mem_cons_of_mem _ hu)
    have e1:t.1=u.1:=by omega
    exact hp1 u hu ⟨e1,by rw[<-g,<-hc,e1]⟩
   simp only
   rw[getD_set_ne hne];exact hu0
  ·exact hu0
theorem abE{n:Nat}(hf:(∀x∈fr,0<=x/\x<n)/\fr.Nodup)(ht:(∀x∈to,0<=x/\x<n)/\to.Nodup):(List.range n).map (ab6 n rows fr to)=ou n rows fr to to.length:=by
 have key:∀d,d<n->Wi n d (ou n rows fr to to.length) (wI n d rows fr to to.length):=λd hd=>by
  rw[yO,Ey]
  refine KL hd _ _ _ (Gs hf.2 ht.2 _ (Nat.le_refl _)) (TU hf.1 ht.1 (Nat.le_refl _)) ⟨by simp,by simp,by simp[List.getD,hd],λ_=>rfl⟩ λt _ _=> ?_
  simp only[List.getD,List.getElem?_replicate]
  split<;>rfl
 have hlen:(ou n rows fr to to.length).length=n:=by
  rcases Nat.eq_zero_or_pos n with h0|h0
  ·subst h0
   rw[yO]
   have:∀(T:List aj5) (D:List (List Int)),(T.foldl (λD t=>qA 0 D t.1 t.2.1 t.2.2) D).length=D.length:=by
    intro T
    induction T with
    |nil=>intro D;rfl
    |cons t T ih=>intro D;rw[List.foldl_cons,ih];unfold qA;split<;>simp
   rw[this];simp
  ·exact(key 0 h0).ajI
 apply List.ext_getElem
 ·simp[hlen]
 ·intro d h1 h2
  have hd:d<n:=by simpa using h1
  have:=(key d hd).is
  rw[List.getElem_map,List.getElem_range,ab6,<-this]
  simp[List.getD,h2]
end
section
def aiO(l:List Int)(aj:Int)(i:Nat):Prop:=(∀k,k<i->0<=l.getD k 0/\l.getD k 0<aj)/\∀j k,j<k->k<i->l.getD j 0≠l.getD k 0
variable {l:List Int} {aj:Int}
theorem XE(h:aiO l aj l.length):jP l aj=true:=by
 rw[jP,decide_eq_true_eq]
 refine⟨λx hx=> ?_,?_⟩
 ·obtain⟨k,hk,rfl⟩:=List.mem_iff_getElem.1 hx
  have:=h.1 k hk
  rwa[getD_at hk]at this
 ·rw[List.Nodup,List.pairwise_iff_getElem]
  intro i j hi hj hij
  have:=h.2 i j hij hj
  rwa[getD_at hi,getD_at hj]at this
variable {k:Nat}
theorem Uy(hk:k<l.length)(h:¬(0<=l.getD k 0/\l.getD k 0<aj)):jP l aj=false:=by
 refine Bool.eq_false_iff.2 λg=>h ?_
 rw[getD_at hk]
 exact(j_ g).1 _ (List.getElem_mem hk)
theorem Va{j:Nat}(hj:j<k)(hk:k<l.length)(h:l.getD j 0=l.getD k 0):jP l aj=false:=by
 refine Bool.eq_false_iff.2 λg=>Lv (j_ g).2 aa hk hj h
theorem aal{base:Option Addr}{len cap size:Nat}{a:Addr}(i:Nat){K:SV->Prop}(hb:base=some a)(hi:i<=len)(hc:len<=cap)(h:K (.c (.slice (some a) i cap))):l7 base len cap size none (some (i:Int)) none K:=by
 rw[oN]
 refine⟨0,i,cap,rfl,rfl,rfl,Nat.zero_le _,by omega,Nat.le_refl _,(λe=>by cases e),?_⟩
 subst hb
 have e:(if cap=0 then some a else(some a).map (·.add (0*size)))=some a:=by
  split
  ·rfl
  ·simp[Addr.add]
 rw[e];exact h
theorem BV(w:World)(u:au)(hu:u.ok w)(aj:Int):Calls Tryz.prog 163 #[u.val,.int .i64 aj] w λe w'=>e= .returned (.bool (jP u.xs aj))/\Ext w w':=by
 have hf:=hu.few
 refine fH Tryz.func163 [.c u.val,ax aj] ?_
 repeat' ((conv=>whnf)<;>first|refine aX ?_|refine ag ?_ ?_<;>intro _)
 refine Wp.loop (σ:=Nat) 0 (λi=>[(0,.c u.val),(1,ax aj),(9,.c u.val),(10,ax u.xs.length),(11,ax i)]) (λ_=>[]) (λ_=>aO w)
  (λi=>i<=u.xs.length/\aiO u.xs aj i) (λi=>u.xs.length-i) 0 [] aY (λ_=>⟨rfl,rfl⟩) ⟨Nat.zero_le _,λk hk=>absurd hk (Nat.not_lt_zero k),λj k _ hk=>absurd hk (Nat.not_lt_zero k)⟩ ⟨rfl,⟨rfl,rfl,rfl,rfl,rfl,trivial⟩,trivial,λ_ _ h=>h⟩ ?_
 rintro i ⟨hi,hpre⟩
 by_cases hlt:i<u.xs.length
 ·obtain⟨ua,jD⟩:=hu.base aa
  have hur:∀(R:Nat->Prop) w',(aO w).holds R w'->bu w' (some ua) 1 (aN u.xs):=λR w' h=>by rw[<-jD];exact aA h hu.rows
  by_cases hin:0<=u.xs.getD i 0/\u.xs.getD i 0<aj
  ·repeat' ((conv=>whnf)<;>first|(show bV ..;refine aH ua i jD rfl hlt ?_)|(show fT ..;refine bY hur (j:=i) hlt ?_)|(show l7 ..;refine aal i jD aa hu.room ?_)|refine aX ?_|refine ag ?_ ?_<;>intro _)
   all_goals(conv=>whnf)
   refine Wp.loop (σ:=Nat) 0 (λj=>[(0,.c u.val),(1,ax aj),(9,.c u.val),(10,ax u.xs.length),(11,ax i),(6,ax (u.xs.getD i 0)),(25,.c (.slice (some ua) i u.cap)),(26,ax i),(27,ax j)]) (λ_=>[]) (λ_=>aO w)
    (λj=>j<=i/\∀k,k<j->u.xs.getD k 0≠u.xs.getD i 0) (λj=>i-j) 0 [] aY (λ_=>⟨rfl,rfl⟩) ⟨Nat.zero_le _,λk hk=>absurd hk (Nat.not_lt_zero k)⟩ ⟨rfl,⟨rfl,rfl,rfl,rfl,rfl,rfl,rfl,rfl,rfl,trivial⟩,trivial,λ_ _ h=>h⟩ ?_
   rintro j ⟨hj,hne⟩
   by_cases hlj:j<i
   ·by_cases he:u.xs.getD j 0=u.xs.getD i 0
    ·repeat' ((conv=>whnf)<;>first|(show bV ..;refine aH ua j rfl rfl hlj ?_)|(show fT ..;refine bY hur (j:=j) aa ?_)|(show @eZ _ _ _;(first|refine cu he ?_|refine cu aa ?_))|refine aX ?_)
     all_goals(conv=>whnf)
     exact bf (λ_ _ h=>h) rfl (Va hlj hlt he)
    ·repeat' ((conv=>whnf)<;>first|(show bV ..;refine aH ua j rfl rfl hlj ?_)|(show fT ..;refine bY hur (j:=j) aa ?_)|(show @eZ _ _ _;(first|refine dA he ?_|refine cu aa ?_))|refine aX ?_)
     all_goals(conv=>whnf)
     refine⟨j+1,[],⟨hlj,λk hk=> ?_⟩,by omega,rfl,bM,trivial,λ_ _ h=>h⟩
     rcases Nat.lt_or_ge k j with g|g
     ·exact hne k g
     ·obtain rfl:k=j:=by omega
      exact he
   ·repeat' ((conv=>whnf)<;>first|refine aX ?_|refine ag ?_ ?_<;>intro _)
    all_goals(conv=>whnf)
    refine⟨i+1,[],⟨hlt,λk hk=> ?_,λj2 k hjk hk=> ?_⟩,by omega,rfl,bM,trivial,λ_ _ h=>h⟩
    ·rcases Nat.lt_or_ge k i with g|g
     ·exact hpre.1 k g
     ·obtain rfl:k=i:=by omega
      exact hin
    ·rcases Nat.lt_or_ge k i with g|g
     ·exact hpre.2 j2 k hjk g
     ·obtain rfl:k=i:=by omega
      exact hne j2 aa
  ·repeat' ((conv=>whnf)<;>first|(show bV ..;refine aH ua i jD rfl hlt ?_)|(show fT ..;refine bY hur (j:=i) hlt ?_)|refine aX ?_|refine ag ?_ ?_<;>intro _)
   all_goals(conv=>whnf)
   all_goals first|(exfalso;omega)|exact bf (λ_ _ h=>h) rfl (Uy hlt hin)
 ·repeat' ((conv=>whnf)<;>first|refine aX ?_|refine ag ?_ ?_<;>intro _)
  all_goals(conv=>whnf)
  obtain rfl:i=u.xs.length:=by omega
  exact bf (λ_ _ h=>h) rfl (XE hpre)
def acr(l:List au)(n i:Nat):Prop:=∀k,k<i->∀h:k<l.length,l[k].xs.length=n
variable {fr to:List Int}
theorem XZ{l:List au}(h1:1<=aj/\aj<=4096)(h2:l.length=to.length)(h3:jP fr aj=true)(h4:jP to aj=true)(h5:acr l fr.length l.length):oU (l.map au.xs) fr to aj:=by
 refine⟨h1.1,h1.2,by rw[List.length_map];exact h2,h3,h4,λr hr=> ?_⟩
 obtain⟨u,hu,rfl⟩:=List.mem_map.1 hr
 obtain⟨k,hk,rfl⟩:=List.mem_iff_getElem.1 hu
 exact h5 k hk hk
def R_(rows:List (List Int))(fr to:List Int)(aj:Int):Int:=if oU rows fr to aj then 0 else 3
theorem Q7{rows:List (List Int)}{w:World}{B:Base}{H:Heap}{S:bN}{nx:Nat}(hno:¬oU rows fr to aj)(hb:∀R w',S.holds R w'->(aO B.w0).holds R w')(hw0:B.w0=w):jI B (ax 3) H S nx (λe w'=>e= .returned (.int .i64 (R_ rows fr to aj))/\Ext w w'):=
 cz hb (λ_=>by rw[R_,if_neg hno];rfl) hw0
theorem xN(w:World)(rv:a_)(hr:rv.okB w)(fv tv:au)(VX:fv.ok w)(X5:tv.ok w)(aj:Int)(hs:i64 aj):
 Calls Tryz.prog 157 #[rv.val,fv.val,tv.val,.int .i64 aj] w λe w'=>e= .returned (.int .i64 (R_ (rv.l.map au.xs) fv.xs tv.xs aj))/\Ext w w':=by
 have hr1:=hr.few
 have hf1:=VX.few
 have ht1:=X5.few
 obtain⟨hs1,hs2⟩:=hs
 have hrl:(rv.l.map au.xs).length=rv.l.length:=List.length_map _
 refine fH Tryz.func157 [.c rv.val,.c fv.val,.c tv.val,ax aj] ?_
 repeat' ((conv=>whnf)<;>first|(show aI _ 163 [.c fv.val,ax aj] ..;refine fK (f:=163) Tryz.call163 _ (λρ w' hw=>BV w' fv (ae hw λR h=>VX.later h) aj) (λhp1=> ?_) (λhp1=> ?_))|(show aI _ 163 [.c tv.val,ax aj] ..;refine fK (f:=163) Tryz.call163 _ (λρ w' hw=>BV w' tv (ae hw λR h=>X5.later h) aj) (λhp2=> ?_) (λhp2=> ?_))|refine aX ?_|refine ag ?_ ?_<;>intro _)
 all_goals(conv=>whnf)
 all_goals first|exact Q7 (λh=>by have:=h.1;have:=h.2.1;have:=h.2.2.1;omega) (λ_ _ h=>h) rfl|exact Q7 (λh=>Bool.false_ne_true (hp1.symm.trans h.2.2.2.1)) (λ_ _ h=>h) rfl|exact Q7 (λh=>Bool.false_ne_true (hp2.symm.trans h.2.2.2.2.1)) (λ_ _ h=>h) rfl|skip
 refine Wp.loop (σ:=Nat) 0 (λi=>[(0,.c rv.val),(1,.c fv.val),(36,.c rv.val),(37,ax rv.l.length),(38,ax i)]) (λ_=>[]) (λ_=>aO w)
  (λi=>i<=rv.l.length/\acr rv.l fv.xs.length i) (λi=>rv.l.length-i) 0 [] aY (λ_=>⟨rfl,rfl⟩) ⟨Nat.zero_le _,λk hk=>absurd hk (Nat.not_lt_zero k)⟩ ⟨rfl,⟨rfl,rfl,rfl,rfl,rfl,trivial⟩,trivial,λ_ _ h=>h⟩ ?_
 rintro i ⟨hi,hpre⟩
 by_cases hlt:i<rv.l.length
 ·obtain⟨ra,hra⟩:∃a,rv.base=some a:=aP (j:=i) hr.rows Mw
  have hou:=hr.each rv.l[i] (List.getElem_mem hlt)
  have hof:=hou.few
  by_cases hne:rv.l[i].xs.length=fv.xs.length
  ·repeat' ((conv=>whnf)<;>first|refine SQ ?_|refine acg ?_|refine OQ ?_|refine aX ?_)
   all_goals(conv=>whnf)
   refine⟨i+1,[],⟨hlt,λk hk h=> ?_⟩,by omega,rfl,bM,trivial,λ_ _ h=>h⟩
   rcases Nat.lt_or_ge k i with g|g
   ·exact hpre k g h
   ·obtain rfl:k=i:=by omega
    exact hne
  ·repeat' ((conv=>whnf)<;>first|refine SQ ?_|refine acg ?_|refine OQ ?_|refine aX ?_)
   all_goals(conv=>whnf)
   exact Q7 (λh=>hne (h.2.2.2.2.2 _ (List.mem_map.2 ⟨_,List.getElem_mem hlt,rfl⟩))) (λ_ _ h=>h) rfl
 ·repeat' ((conv=>whnf)<;>first|refine aX ?_|refine ag ?_ ?_<;>intro _)
  all_goals(conv=>whnf)
  obtain rfl:i=rv.l.length:=by omega
  have hok:=XZ (l:=rv.l) (fr:=fv.xs) (to:=tv.xs) (aj:=aj) ⟨by omega,by omega⟩ aa hp1 hp2 hpre
  exact cz (λ_ _ h=>h) (λ_=>by rw[R_,if_pos hok];rfl) rfl
end
def Er(N:Nat)(l:List au):bN where
 holds R w:=∀u∈l,((bE u).past N).holds R w
 stable:=λhR hw h u hu=>((bE u).past N).stable hR hw (h u hu)
theorem K9{N:Nat}{l:List au}{u:au}{R:Nat->Prop}{w:World}(h:(Er N l).holds R w)(hu:((bE u).past N).holds R w):(Er N (l++[u])).holds R w:=by
 intro v hv
 rcases List.mem_append.1 hv with hv|hv
 ·exact h v hv
 ·rw[List.mem_singleton.1 hv];exact hu
theorem Sg{r:List Int}{k:Nat}{v:Int}{K:List (List Value)->Prop}(hk:k<r.length)(h:K (aN (r.set k v))):cO (aN r) k 0 [.int .i64 v] K:=by
 refine iW _ (eH hk) FW ?_
 have e:(aN r).set k (bW [Value.int .i64 r[k]] 0 [.int .i64 v])=aN (r.set k v):=by
  have e2:bW [Value.int .i64 r[k]] 0 [.int .i64 v]=[Value.int .i64 v]:=rfl
  rw[e2]
  simp[aN,List.map_set]
 rw[e];exact h
theorem KI(us:List au)(base:Option Addr)(cap:Nat)(xs:List Int){m k:Nat}(hm:m=us.length)(hk:k=xs.length){i:Nat}{T:TypeId}{H:Heap}:(i,bZ.rows (aS (us++[au.mk base cap xs])) 1 T)∈(i,bZ.rows (List.take m (aS us)++[[.slice base k cap]]) 1 T)::H:=by
 subst hm hk
 rw[show aS (us++[au.mk base cap xs])=List.take us.length (aS us)++[[.slice base xs.length cap]] by rw[List.take_of_length_le Su];simp[aS,au.val]]
 exact List.mem_cons_self
theorem Wx{n:Nat}{d:Int}{r:List Int×Bool}{s f x:Int}(h:r.1.length=n/\∀y∈r.1,i64 y)(hx:i64 x):(zh n d r s f x).1.length=n/\∀y∈(zh n d r s f x).1,i64 y:=by
 unfold zh
 split
 ·exact⟨by rw[List.length_set];exact h.1,L6 h.2 hx⟩
 ·exact h
theorem abN{w:World}{B:Base}{H:Heap}{S:bN}{nx i m:Nat}{us:List au}{D:List (List Int)}(hb:∀R w',S.holds R w'->(aO B.w0).holds R w'/\(Er B.w0.heap.size us).holds R w')(hw0:B.w0=w)(hD:us.map au.xs=D)(hs:∀u∈us,u.bq)(hm:m=us.length)(hi:(i,bZ.rows (aS us) 1 32)∈H):
 jI B (.sN [.os i m,ax 0]) H S nx (zG w D 0):=by
 subst hw0 hm
 refine dH λρ w' hw=> ?_
 have hn1:=dK hw (λR w' h=>(hb R w' h).1) hi
 obtain⟨base,cap,e,h1,h2⟩:∃base cap,(SV.os i (aS us).length).rf ρ= .slice base us.length cap/\us.length<=cap/\(fC base 1 (aS us)).holds (λb=>B.w0.heap.size<=b/\b<w'.heap.size) w':=by
  obtain⟨base,cap,e,h1⟩:=fJ hn1
  obtain⟨lc,e2,F,hF,hr,hcap,_⟩:=hn1
  rw[e2]at e
  simp only[Value.slice.injEq]at e
  obtain⟨e3,_,e4⟩:=e
  refine⟨base,cap,?_,?_,h1⟩
  ·rw[e2,e3,e4,aW]
  ·rw[<-e4];simpa[aW]using hcap
 rw[aW]at e
 refine⟨⟨base,cap,us⟩,⟨hD,hs,h1⟩,?_,aZ hw (λR w' h=>(hb R w' h).1),h2,λu hu=>oC hw (λR w' h=>(hb R w' h).2 u hu)⟩
 have:(SV.sN [.os i us.length,ax 0]).rf ρ= .tuple #[(SV.os i us.length).rf ρ,.int .i64 0]:=rfl
 rw[this,e];rfl
theorem Ui(w:World)(rv:a_)(hr:rv.okB w)(fv tv:au)(VX:fv.ok w)(X5:tv.ok w)(aj:Int)(hs:i64 aj):
 Calls Tryz.prog 138 #[rv.val,fv.val,tv.val,.int .i64 aj] w (zG w (mW (rv.l.map au.xs) fv.xs tv.xs aj).1 (mW (rv.l.map au.xs) fv.xs tv.xs aj).2):=by
 have hr1:=hr.few
 have hf1:=VX.few
 have ht1:=X5.few
 by_cases hok:oU (rv.l.map au.xs) fv.xs tv.xs aj
 ·rw[mW,if_pos hok]
  have ajV:R_ (rv.l.map au.xs) fv.xs tv.xs aj=0:=by rw[R_,if_pos hok]
  obtain⟨hs1,hs2,hrl,hp1,hp2,hlen⟩:=id hok
  rw[List.length_map]at hrl
  obtain⟨n,hn⟩:∃n:Nat,aj=n:=⟨aj.toNat,by omega⟩
  subst hn
  rw[Int.toNat_natCast,<-abE (j_ hp1) (j_ hp2)]
  have hfr:=(j_ hp1).1
  have hto:=(j_ hp2).1
  refine fH Tryz.func138 [.c rv.val,.c fv.val,.c tv.val,ax n] ?_
  repeat' ((conv=>whnf)<;>first|(show aI _ 157 ..;(refine aQ (f:=157) Tryz.call157 (.int .i64 0) (λρ w' hw=>by have:=xN w' rv (ae hw λR h=>hr.later h) fv tv (ae hw λR h=>VX.later h) (ae hw λR h=>X5.later h) n hs;rw[ajV]at this;exact this) ?_))|refine aX ?_|refine ag ?_ ?_<;>intro _)
  all_goals(conv=>whnf)
  refine Wp.loop (σ:=Nat×List au) 2 (λx=>[(0,.c rv.val),(1,.c fv.val),(2,.c tv.val),(3,ax n),(11,.os 1 x.1),(12,ax x.1)])
   (λx=>[(1,.rows (aS x.2) 1 32)]) (λx=>(aO w).and (Er w.heap.size x.2))
   (λx=>x.1<=n/\x.2.map au.xs=(List.range x.1).map (ab6 n (rv.l.map au.xs) fv.xs tv.xs)/\(∀u∈x.2,u.bq)) (λx=>n-x.1) (0,[]) [(1,none)] aY (λ_=>⟨rfl,rfl⟩)
   ⟨Nat.zero_le _,rfl,λu hu=>by cases hu⟩ ⟨rfl,⟨rfl,rfl,rfl,rfl,rfl,rfl,trivial⟩,⟨rfl,trivial⟩,λ_ _ h=>⟨h,λu hu=>by cases hu⟩⟩ ?_
  rintro⟨d,us⟩ ⟨hd,fI,vC⟩
  dsimp only at hd fI vC
  have yJ:us.length=d:=by have:=congrArg List.length fI;simpa using this
  by_cases hdn:d<n
  ·repeat' ((conv=>whnf)<;>first|(show mJ ..;(refine jC n rfl rfl DI aa ?_))|refine aX ?_|refine ag ?_ ?_<;>intro _)
   all_goals(conv=>whnf)
   refine Wp.loop (σ:=Nat×(List Int×Bool)) 3 (λx=>[(0,.c rv.val),(1,.c fv.val),(2,.c tv.val),(3,ax n),(11,.os 1 d),(12,ax d),(13,.os 2 n),(14,.c (.bool x.2.2)),(34,.c tv.val),(35,ax tv.xs.length),(36,ax x.1)])
    (λx=>[(2,.rows (aN x.2.1) 1 3),(1,.rows (aS us) 1 32)]) (λx=>(aO w).and (Er w.heap.size us))
    (λx=>x.1<=tv.xs.length/\x.2=wI n d (rv.l.map au.xs) fv.xs tv.xs x.1/\(x.2.1.length=n/\∀y∈x.2.1,i64 y)) (λx=>tv.xs.length-x.1) (0,(List.replicate n 0,false)) [] aY (λ_=>⟨rfl,rfl⟩)
    ⟨Nat.zero_le _,rfl,by simp,λy hy=>by rw[(List.mem_replicate.1 hy).2];exact⟨by decide,by decide⟩⟩ ⟨rfl,bM,⟨?_,aU,trivial⟩,λ_ _ h=>h⟩ ?_
   ·show(2,bZ.rows (aN (List.replicate n 0)) 1 3)∈_
    rw[show aN (List.replicate n 0)=List.replicate n [Value.int .i64 0] by simp[aN]]
    exact List.mem_cons_self
   rintro⟨o,r⟩ ⟨ho,hro,hrf⟩
   dsimp only at ho hro hrf
   by_cases hlt:o<tv.xs.length
   ·obtain⟨ta,Iw⟩:=X5.base aa
    have htr:∀(R:Nat->Prop) w',((aO w).and (Er w.heap.size us)).holds R w'->bu w' (some ta) 1 (aN tv.xs):=λR w' h=>by rw[<-Iw];exact aA h.1 X5.rows
    have Fq:o<rv.l.length:=by omega
    have hsb:0<=tv.xs.getD o 0/\tv.xs.getD o 0<n:=by
     rw[getD_at hlt];exact hto _ (List.getElem_mem hlt)
    obtain⟨sv,hsv⟩:∃sv,tv.xs.getD o 0=sv:=⟨_,rfl⟩
    repeat' ((conv=>whnf)<;>first|(show bV ..;refine aH ta o Iw rfl hlt ?_)|(show fT ..;refine bY htr (j:=o) hlt ?_)|refine aX ?_|refine ag ?_ ?_<;>intro _)
    all_goals(conv=>whnf)
    have hrow:(rv.l.map au.xs).getD o []=rv.l[o].xs:=by simp[List.getD,Fq]
    have hrlen:rv.l[o].xs.length=fv.xs.length:=hlen _ (List.mem_map.2 ⟨_,List.getElem_mem Fq,rfl⟩)
    have ajq:=hr.each rv.l[o] (List.getElem_mem Fq)
    obtain⟨ra,hra⟩:∃a,rv.base=some a:=aP (j:=o) hr.rows (by rw[aW];exact Fq)
    rw[hsv]at hsb|-
    obtain⟨sn,hsn⟩:∃k:Nat,sv=k:=⟨sv.toNat,by omega⟩
    have ags:sv.toNat=sn:=by omega
    have aml:sn<n:=by omega
    refine Wp.loop (σ:=Nat×(List Int×Bool)) 3 (λx=>[(0,.c rv.val),(1,.c fv.val),(2,.c tv.val),(3,ax n),(11,.os 1 d),(12,ax d),(13,.os 2 n),(14,.c (.bool x.2.2)),(34,.c tv.val),(35,ax tv.xs.length),(36,ax o),(15,ax o),(16,ax sv),(41,.c fv.val),(42,ax fv.xs.length),(43,ax x.1)])
     (λx=>[(2,.rows (aN x.2.1) 1 3),(1,.rows (aS us) 1 32)]) (λx=>(aO w).and (Er w.heap.size us))
     (λx=>x.1<=fv.xs.length/\x.2=Db n d fv.xs rv.l[o].xs sv r x.1/\(x.2.1.length=n/\∀y∈x.2.1,i64 y)) (λx=>fv.xs.length-x.1) (0,r) [] aY (λ_=>⟨rfl,rfl⟩)
     ⟨Nat.zero_le _,rfl,hrf⟩ ⟨rfl,⟨rfl,rfl,rfl,rfl,rfl,rfl,rfl,rfl,rfl,rfl,rfl,rfl,rfl,rfl,rfl,rfl,trivial⟩,bM,λ_ _ h=>h⟩ ?_
    rintro⟨i,l,b⟩ ⟨hi,ajM,hl1,hl2⟩
    dsimp only at hi ajM hl1 hl2
    by_cases Gm:i<fv.xs.length
    ·obtain⟨fa,hfa⟩:=VX.base aa
     have akk:∀(R:Nat->Prop) w',((aO w).and (Er w.heap.size us)).holds R w'->bu w' (some fa) 1 (aN fv.xs):=λR w' h=>by rw[<-hfa];exact aA h.1 VX.rows
     obtain⟨wa,hwa⟩:=ajq.base aa
     have hwr:∀(R:Nat->Prop) w',((aO w).and (Er w.heap.size us)).holds R w'->bu w' (some wa) 1 (aN rv.l[o].xs):=λR w' h=>by rw[<-hwa];exact aA h.1 ajq.rows
     have mX:0<=fv.xs.getD i 0/\fv.xs.getD i 0<n:=by
      rw[getD_at Gm];exact hfr _ (List.getElem_mem Gm)
     have hwf:=O_ ajq.fits i
     have hstep:=VN n d fv.xs rv.l[o].xs sv r i
     rw[<-ajM]at hstep
     obtain⟨fi,hfi⟩:∃x,fv.xs.getD i 0=x:=⟨_,rfl⟩
     obtain⟨wi,hwi⟩:∃x,rv.l[o].xs.getD i 0=x:=⟨_,rfl⟩
     rw[hfi]at mX hstep
     rw[hwi]at hwf hstep
     have hnf:=Wx (n:=n) (d:=d) (r:=(l,b)) (s:=sv) (f:=fi) (x:=wi) ⟨hl1,hl2⟩ hwf
     rw[<-hstep]at hnf
     by_cases hc:(sv+(d:Int))%n=fi
     ·rw[zh,if_pos hc,ags]at hstep
      by_cases hw0:wi=0
      ·have hdec:decide (wi≠0)=false:=by simp[hw0]
       rw[hdec]at hstep
       cases b with
       |true=>
        repeat' ((conv=>whnf)<;>first|refine O7 ?_|refine Zy ?_|refine F9 ?_|refine ZR ?_|refine ab_ ?_|(show @eZ _ _ _;(first|refine cu hc ?_|refine cu aa ?_|refine dA aa ?_))|refine aX ?_)
        all_goals(conv=>whnf)
        exact⟨(i+1,(l.set sn wi,true)),[],⟨Gm,hstep.symm,by rw[hstep]at hnf;exact hnf⟩,by show fv.xs.length-(i+1)<fv.xs.length-i;omega,rfl,bM,bM,λ_ _ h=>h⟩
       |false=>
        repeat' ((conv=>whnf)<;>first|refine O7 ?_|refine Zy ?_|refine F9 ?_|refine ZR ?_|refine ab_ ?_|(show @eZ _ _ _;(first|refine cu hc ?_|refine dA (λh=>h hw0) ?_|refine cu aa ?_|refine dA aa ?_))|refine aX ?_)
        all_goals(conv=>whnf)
        exact⟨(i+1,(l.set sn wi,false)),[],⟨Gm,hstep.symm,by rw[hstep]at hnf;exact hnf⟩,by show fv.xs.length-(i+1)<fv.xs.length-i;omega,rfl,bM,bM,λ_ _ h=>h⟩
      ·have hdec:decide (wi≠0)=true:=by simp[hw0]
       rw[hdec]at hstep
       cases b with
       |true=>
        repeat' ((conv=>whnf)<;>first|refine O7 ?_|refine Zy ?_|refine F9 ?_|refine ZR ?_|refine ab_ ?_|(show @eZ _ _ _;(first|refine cu hc ?_|refine cu hw0 ?_|refine cu aa ?_|refine dA aa ?_))|refine aX ?_)
        all_goals(conv=>whnf)
        exact⟨(i+1,(l.set sn wi,true)),[],⟨Gm,hstep.symm,by rw[hstep]at hnf;exact hnf⟩,by show fv.xs.length-(i+1)<fv.xs.length-i;omega,rfl,bM,bM,λ_ _ h=>h⟩
       |false=>
        repeat' ((conv=>whnf)<;>first|refine O7 ?_|refine Zy ?_|refine F9 ?_|refine ZR ?_|refine ab_ ?_|(show @eZ _ _ _;(first|refine cu hc ?_|refine cu hw0 ?_|refine cu aa ?_|refine dA aa ?_))|refine aX ?_)
        all_goals(conv=>whnf)
        exact⟨(i+1,(l.set sn wi,true)),[],⟨Gm,hstep.symm,by rw[hstep]at hnf;exact hnf⟩,by show fv.xs.length-(i+1)<fv.xs.length-i;omega,rfl,bM,bM,λ_ _ h=>h⟩
     ·rw[zh,if_neg hc]at hstep
      repeat' ((conv=>whnf)<;>first|refine O7 ?_|refine Zy ?_|refine F9 ?_|(show @eZ _ _ _;(first|refine dA hc ?_|refine cu aa ?_|refine dA aa ?_))|refine aX ?_)
      all_goals(conv=>whnf)
      exact⟨(i+1,(l,b)),[],⟨Gm,hstep.symm,by rw[hstep]at hnf;exact hnf⟩,by show fv.xs.length-(i+1)<fv.xs.length-i;omega,rfl,bM,bM,λ_ _ h=>h⟩
    ·repeat' ((conv=>whnf)<;>first|refine aX ?_|refine ag ?_ ?_<;>intro _)
     all_goals(conv=>whnf)
     have hif:i=fv.xs.length:=by omega
     exact⟨(o+1,(l,b)),[],⟨hlt,by rw[ajM,hif,hro,Vg,hrow,hsv],hl1,hl2⟩,by show tv.xs.length-(o+1)<tv.xs.length-o;omega,rfl,bM,bM,λ_ _ h=>h⟩
   ·have hol:o=tv.xs.length:=by omega
    obtain⟨l,b⟩:=r
    rw[hol]at hro
    have hrow:ab6 n (rv.l.map au.xs) fv.xs tv.xs d=if b then l else []:=by rw[ab6,<-hro]
    have hnext:∀u:au,u.xs=(if b then l else [])->(us++[u]).map au.xs=(List.range (d+1)).map (ab6 n (rv.l.map au.xs) fv.xs tv.xs):=λu hu=>by
     rw[List.map_append,fI,List.range_succ,List.map_append,List.map_cons,List.map_nil,List.map_cons,List.map_nil,hu,hrow]
    have hsn:∀u:au,u.bq->∀v∈us++[u],v.bq:=λu hu v hv=>by
     rcases List.mem_append.1 hv with hv|hv
     ·exact vC v hv
     ·rw[List.mem_singleton.1 hv];exact hu
    refine Wp.yI 2 w.heap.size (k:=1) (xs:=aN l) (T:=3) aU (λR w' h b hb=>(h.1 b hb).1) (λl1 hl1=> ?_)
    rw[aJ,hrf.1]at hl1
    cases b with
    |true=>
     repeat' ((conv=>whnf)<;>first|(show vO ..;refine gY (Nat.le_of_eq (by rw[aW,yJ])) ?_)|(show gP ..;(refine dP ah4 ?_))|refine aX ?_|refine ag ?_ ?_<;>intro _)
     all_goals(conv=>whnf)
     exact⟨(d+1,us++[au.mk l1.base l1.cap l]),[(1,some 4)],⟨hdn,hnext _ rfl,hsn _ ⟨hrf.2,by show l.length<=l1.cap;rw[hrf.1];exact hl1,by show l.length<=1000000;rw[hrf.1];omega⟩⟩,by show n-(d+1)<n-d;omega,rfl,bM,⟨KI us l1.base l1.cap l yJ.symm hrf.1.symm,trivial⟩,λR w' h=>⟨h.1.1,K9 h.1.2 h.2⟩⟩
    |false=>
     repeat' ((conv=>whnf)<;>first|(show vO ..;refine gY (Nat.le_of_eq (by rw[aW,yJ])) ?_)|(show gP ..;(refine dP ah4 ?_))|refine aX ?_|refine ag ?_ ?_<;>intro _)
     all_goals(conv=>whnf)
     exact⟨(d+1,us++[au.mk none 0 []]),[(1,some 4)],⟨hdn,hnext _ rfl,hsn _ ⟨λx hx=>(by cases hx),Nat.le_refl _,by decide⟩⟩,by show n-(d+1)<n-d;omega,rfl,bM,⟨KI us none 0 [] yJ.symm rfl,trivial⟩,λR w' h=>⟨h.1.1,K9 h.1.2 ⟨λr hr=>(by cases hr),.inl rfl⟩⟩⟩
  ·repeat' ((conv=>whnf)<;>first|refine aX ?_|refine ag ?_ ?_<;>intro _)
   all_goals(conv=>whnf)
   obtain rfl:d=n:=by omega
   exact abN (i:=1) (us:=us) (λ_ _ h=>h) rfl fI vC yJ.symm aU
 ·rw[mW,if_neg hok]
  have ajV:R_ (rv.l.map au.xs) fv.xs tv.xs aj=3:=by rw[R_,if_neg hok]
  refine fH Tryz.func138 [.c rv.val,.c fv.val,.c tv.val,ax aj] ?_
  repeat' ((conv=>whnf)<;>first|(show aI _ 157 ..;(refine aQ (f:=157) Tryz.call157 (.int .i64 3) (λρ w' hw=>by have:=xN w' rv (ae hw λR h=>hr.later h) fv tv (ae hw λR h=>VX.later h) (ae hw λR h=>X5.later h) aj hs;rw[ajV]at this;exact this) ?_))|refine aX ?_|refine ag ?_ ?_<;>intro _)
  all_goals(conv=>whnf)
  exact aar (λ_ _ h=>h) rfl
def W64(z:Int):Int:=IntKind.i64.wrap z
theorem Jb(z:Int):W64 z=if z%18446744073709551616>=9223372036854775808 then z%18446744073709551616-18446744073709551616 else z%18446744073709551616:=by
 unfold W64 IntKind.wrap
 simp[IntKind.signed,IntKind.bits]
theorem ag_(z:Int):i64 (W64 z):=by
 rw[Jb]
 constructor<;>split<;>omega
theorem ag4(a b:Int):W64 (W64 a+W64 b)=W64 (a+b):=by
 rw[Jb (W64 a+W64 b),Jb (a+b),Jb a,Jb b]
 split<;>split<;>split<;>split<;>omega
structure aos(n:Nat)(D:List (List Int)):Prop where
 len:D.length=n
 each:∀k,D.getD k []=[]\/(D.getD k []).length=n
theorem aei{α:Type}{l:List α}{k:Nat}{y:α}(h:l.length<=k):l.getD k y=y:=by simp[List.getD,h]
theorem aa_{n s:Nat}:(List.replicate n (0:Int)).getD s 0=0:=by
 simp only[List.getD,List.getElem?_replicate];split<;>rfl
theorem WW{n:Nat}{rows:List (List Int)}{fr to:List Int}(hf:(∀x∈fr,0<=x/\x<n)/\fr.Nodup)(ht:(∀x∈to,0<=x/\x<n)/\to.Nodup)(hn:0<n):aos n (ou n rows fr to to.length):=by
 have key:∀d,d<n->Wi n d (ou n rows fr to to.length) (wI n d rows fr to to.length):=λd hd=>by
  rw[yO,Ey]
  refine KL hd _ _ _ (Gs hf.2 ht.2 _ (Nat.le_refl _)) (TU hf.1 ht.1 (Nat.le_refl _)) ⟨by simp,by simp,by simp[List.getD,hd],λ_=>rfl⟩ λt _ _=>aa_
 refine⟨(key 0 hn).ajI,λk=> ?_⟩
 rcases Nat.lt_or_ge k n with g|g
 ·have h:=key k g
  rw[h.is]
  split
  ·exact .inr h.len
  ·exact .inl rfl
 ·exact .inl (aei (by rw[(key 0 hn).ajI];exact g))
structure Gi(n:Nat)(E:Nat->Int)(l:List Int):Prop where
 len:l.length=n
 at_:∀s,s<n->l.getD s 0=W64 (E s)
theorem Gi.fits{n:Nat}{E:Nat->Int}{l:List Int}(h:Gi n E l):∀x∈l,i64 x:=λx hx=>by
 obtain⟨k,hk,rfl⟩:=List.mem_iff_getElem.1 hx
 have:=h.at_ k (by rw[<-h.len];exact hk)
 rw[getD_at hk]at this
 rw[this];exact ag_ _
theorem Gi.eq{n:Nat}{E E':Nat->Int}{l l':List Int}(h:Gi n E l)(h':Gi n E' l')(he:∀s,s<n->E s=E' s):l=l':=by
 apply List.ext_getElem
 ·rw[h.len,h'.len]
 ·intro k h1 h2
  have a1:=h.at_ k aea
  have a2:=h'.at_ k aea
  rw[getD_at h1]at a1
  rw[getD_at h2]at a2
  rw[a1,a2,he k aea]
theorem Gi.step{n:Nat}{E E':Nat->Int}{l:List Int}(h:Gi n E l){s:Nat}(hs:s<n){p:Int}(he:E' s=E s+p)(hne:∀j,j≠s->E' j=E j):Gi n E' (l.set s (W64 (l.getD s 0+W64 p))):=by
 refine⟨by rw[List.length_set];exact h.len,λj hj=> ?_⟩
 by_cases e:s=j
 ·subst e
  rw[G6 (by rw[h.len];exact hs),h.at_ s hs,ag4,he]
 ·rw[getD_set_ne e,h.at_ j hj,hne j (λg=>e g.symm)]
def Wl(n:ai):ai:={n with a:=0}
theorem VT{n:ai}(hk:dX n\/n.ak=9){m:Nat}(h:cZ n m=true):cZ (Wl n) 1=true:=by
 unfold dX at hk
 unfold cZ at h|-
 unfold kg jX at h|-
 simp only[Wl]
 rcases hk with(h3|h4|h5)|h9
 ·simp only[h3]at h|-;simp at h|-;grind
 ·simp only[h4]at h|-;simp at h|-;grind
 ·simp only[h5]at h|-;simp at h|-;grind
 ·simp only[h9]at h|-;simp at h|-;grind
theorem abx{n:ai}(hk:dX n\/n.ak=9){sh:List (List Int)}{t s:List Int}(ht:sh.getD n.a.toNat []=t)(h:bR n sh=some s):bR (Wl n) [t]=some s:=by
 subst ht
 unfold dX at hk
 unfold bR at h|-
 rcases hk with(h3|h4|h5)|h9
 ·simp only[Wl,h3]at h|-;simpa using h
 ·simp only[Wl,h4]at h|-;simpa using h
 ·simp only[Wl,h5]at h|-;simpa using h
 ·simp only[Wl,h9]at h|-;simpa using h
theorem aft{n:ai}(h:g_ n=true):g_ (Wl n)=true:=by
 unfold g_ at h|-;exact h
theorem aaK{t:au}(h:0<az t.xs)(m:Nat):cZ (inpN t) m=true:=by
 unfold cZ kg
 simp[inpN,afN,h]
theorem aaC(t:au):g_ (inpN t)=true:=by
 unfold g_ qz
 simp[inpN,afN]
theorem rows_ok{n:ai}{sh:List (List Int)}{s:List Int}{t:au}{m:Nat}(hk:dX n\/n.ak=9)(hf:cZ n m=true)(ht:sh.getD n.a.toNat []=t.xs)(hs:bR n sh=some s)(hn:g_ n=true)(hp:0<az t.xs):nD (Wl n) t/\(wN (Wl n) t).2=[t.xs,s]:=by
 have hc:wN (Wl n) t=(0,[t.xs,s]):=by
  unfold wN check
  rw[if_neg fP]
  show eX [inpN t,Wl n] []=_
  rw[iG (aaK hp _) (show bR (inpN t) []=some t.xs by unfold bR;rw[if_pos (.inl rfl)];rfl) (aaC t)]
  show eX [Wl n] [t.xs]=_
  rw[iG (VT hk hf) (abx hk ht hs) (aft hn)]
  rfl
 refine⟨⟨?_,rfl,by rw[hc]⟩,by rw[hc]⟩
 unfold dX at hk|-
 exact hk
section
variable {aR:Int}
theorem Nc{xs:List Int}{m:Nat}(h:(gz xs aR m).2=0):jP (gz xs aR m).1 m=true/\(gz xs aR m).1.length=(az xs).toNat/\0<az xs:=by
 have hb:=dQ xs
 unfold gz at h|-
 split at h
 ·cases h
 ·rename_i h1
  split at h
  ·cases h
  ·rename_i h2
   rw[if_neg h1,if_neg h2]
   have hne:az xs≠0:=by omega
   obtain⟨c,s,p,g1,g2,g3,g4,g5,g6,g7,g8,_⟩:=FL (aR:=aR) hne
   rw[g2,g3]at h2|-
   refine⟨decide_eq_true ⟨λx hx=> ?_,?_⟩,dU _ _ _,by omega⟩
   ·obtain⟨i,hi,rfl⟩:=List.mem_map.1 hx
    have hi:=List.mem_range.1 hi
    have k1:=Ar g5 g6 (show i<=(az xs).toNat-1 by omega)
    have k2:=oM (s:=s) (p:=p) i
    omega
   ·have hlt:∀{i j:Nat},i<j->gT s p i<gT s p j:=λ{i j} hij=>by
     have k1:=Ns (i:=i) g5 g6
     have k2:=Ar (i:=i+1) (j:=j) g5 g6 hij
     omega
    unfold iD
    rw[List.Nodup,List.pairwise_map]
    exact(List.pairwise_lt_range (n:=(az xs).toNat)).imp (λ{i j} hij he=>by have:=hlt hij;omega)
theorem K8{aR:Int}{m:Int}:∀{l acc:List (List Int)},(gG aR m l acc).2=0->(gG aR m l acc).1=acc++l.map (λx=>(gz x aR m).1)/\∀x∈l,(gz x aR m).2=0
 |[],acc,_=>⟨by simp[gG],λx hx=>by cases hx⟩
 |x::r,acc,h=>by
  by_cases h1:(gz x aR m).2=0
  ·rw[Bq h1]at h|-
   obtain⟨h2,h3⟩:=K8 h
   refine⟨by rw[h2];simp,λy hy=> ?_⟩
   rcases List.mem_cons.1 hy with rfl|hy
   ·exact h1
   ·exact h3 y hy
  ·rw[A_ h1]at h
   exact absurd h h1
theorem CU{w:World}{ρ:Nat->SX.Loc}{F:Nat->Prop}{k n0:Nat}{H0:Heap}{A A':bN}(h:iY w ρ F k n0 H0 A)(hA:∀R w,A.holds R w->A'.holds R w):iY w ρ F k n0 H0 A':=by
 obtain⟨R,φ,hw⟩:=h.abs
 exact⟨⟨R,φ,⟨hw.os,hw.tape,hw.output,hw.size,hw.pin,hw.ro,⟨hA R w hw.tq.1,hw.tq.2⟩,hw.key,hw.kV,hw.apart,hw.sep⟩⟩⟩
structure zR(c:dN)(aR:Int)(sh:List (List Int))(g:List ai):Prop where
 aj:1<=c.aj/\c.aj<=4096
 len:sh.length=g.length
 each:∀(i:Nat) (n:ai),g[i]? =some n->n.iJ/\n.small/\∃s,sh[i]? =some s/\ja n (sh.take i) s
 shapes:c.shapes.l.map au.xs=sh
 shS:∀u∈c.shapes.l,u.bq
 bO:c.bO.l.map au.xs=sh.map (λx=>(gz x aR c.aj).1)
 spS:∀u∈c.bO.l,u.bq
 good:∀x∈sh,(gz x aR c.aj).2=0
variable {c:dN} {sh:List (List Int)} {g:List ai} {i:Nat}
theorem zR.at_(h:zR c aR sh g)(hi:i<g.length):∃(t u:au),c.shapes.l[i]? =some t/\t.bq/\c.bO.l[i]? =some u/\u.bq/\c.shapes.l.getD i fQ=t/\c.bO.l.getD i fQ=u/\sh.getD i []=t.xs/\sh[i]? =some t.xs/\u.xs=(gz t.xs aR c.aj).1/\jP u.xs c.aj=true/\u.xs.length=(az t.xs).toNat/\0<az t.xs:=by
 have l1:c.shapes.l.length=g.length:=by have:=congrArg List.length h.shapes;rw[List.length_map]at this;rw[this,h.len]
 have l2:c.bO.l.length=g.length:=by have:=congrArg List.length h.bO;rw[List.length_map,List.length_map]at this;rw[this,h.len]
 have i1:i<c.shapes.l.length:=by omega
 have i2:i<c.bO.l.length:=by omega
 have e1:=congrArg (λl:List (List Int)=>l[i]?) h.shapes
 have e2:=congrArg (λl:List (List Int)=>l[i]?) h.bO
 simp only[List.getElem?_map,List.getElem?_eq_getElem i1,List.getElem?_eq_getElem i2,Option.map_some]at e1 e2
 rw[<-e1]at e2
 have e3:c.bO.l[i].xs=(gz c.shapes.l[i].xs aR c.aj).1:=by simpa using e2
 have hm:c.shapes.l[i].xs∈sh:=List.mem_of_getElem? e1.symm
 obtain⟨p1,p2,p3⟩:=Nc (h.good _ hm)
 refine⟨c.shapes.l[i],c.bO.l[i],List.getElem?_eq_getElem i1,h.shS _ (List.getElem_mem i1),List.getElem?_eq_getElem i2,h.spS _ (List.getElem_mem i2),by rw[List.getD_eq_getElem?_getD,List.getElem?_eq_getElem i1];rfl,by rw[List.getD_eq_getElem?_getD,List.getElem?_eq_getElem i2];rfl,by rw[List.getD_eq_getElem?_getD,<-e1];rfl,e1.symm,e3,by rw[e3];exact p1,by rw[e3];exact p2,p3⟩
variable {m:Int}
theorem KC{l:List Int}(h:jP l m=true):∀x∈l,0<=x/\x<m:=(of_decide_eq_true h).1
theorem zR.formed(h:zR c aR sh g){n:ai}(hi:g[i]? =some n):i<g.length/\Aa n i/\∃s,sh[i]? =some s/\ja n (sh.take i) s:=by
 have hl:=(List.getElem?_eq_some_iff.1 hi).1
 obtain⟨_,_,s,h1,h2⟩:=h.each i n hi
 have e:(sh.take i).length=i:=by rw[List.length_take,h.len];omega
 exact⟨hl,by have:=dM h2.form;rwa[e]at this,s,h1,h2⟩
theorem Hl(h:zR c aR sh g){n:ai}(hi:g[i]? =some n)(hk:n.ak=1):Dq c n i (vw n.ak):=by
 obtain⟨hl,_,_⟩:=h.formed hi
 obtain⟨hn,_,_⟩:=h.each i n hi
 obtain⟨t,u,_,_,hu,_,_,eu,_⟩:=h.at_ hl
 intro s vl w ρ F hN hvl hO
 have e:dh c n i s.pl vl=lF s.pl n.lo n.hi u.xs:=by unfold dh;rw[if_pos hk,eu]
 have hF:vw n.ak=27:=by rw[hk];rfl
 rw[e,hF]
 exact aai c s vl n i u hN hn.kH hn.kJ hu w ρ F (CU hO (λR w h=>h.1))
theorem BR(h:zR c aR sh g){n:ai}(hi:g[i]? =some n)(hk:dX n\/n.ak=9):Dq c n i (vw n.ak):=by
 obtain⟨hl,hF,s,hs,hin⟩:=h.formed hi
 obtain⟨hn,hsm,_⟩:=h.each i n hi
 have hk1:n.ak≠1/\n.ak≠2/\n.ak≠6/\n.ak≠7/\n.ak≠8:=by rcases hk with hk|hk;(unfold dX at hk;omega);omega
 obtain⟨h0,ha⟩:=hF.a hk1.1 hk1.2.1
 have hal:n.a.toNat<g.length:=by omega
 obtain⟨t,fr,ht,hts,hfr,CX,et,efr,gt_,_,_,fp,fl,fe⟩:=h.at_ hal
 obtain⟨t2,to,ht2,_,hto,tF,_,eto,_,gt2,_,tp,tl,te⟩:=h.at_ hl
 have es:s=t2.xs:=by rw[hs]at gt2;simpa using gt2
 have eta:(sh.take i).getD n.a.toNat []=t.xs:=by
  rw[<-gt_,List.getD_eq_getElem?_getD,List.getD_eq_getElem?_getD,List.getElem?_take,if_pos aa]
 obtain⟨hok,hc2⟩:=rows_ok hk hin.form eta hin.ay hin.near fe
 have hcnt:wD (n0 n) t=(az s).toNat:=by show(az ((wN (Wl n) t).2.getD 1 [])).toNat=_;rw[hc2];rfl
 have hr:jA (n0 n) t=((tQ (n0 n) t.xs (wD (n0 n) t),(List.range (wD (n0 n) t)).map (dI (n0 n) (wD (n0 n) t))),0):=by unfold jA;exact if_pos hok
 intro q vl w ρ F hN hvl hO
 have hav:n.a.toNat<vl.length:=by omega
 have hF:vw n.ak=26:=by unfold vw;rw[if_neg hk1.1,if_neg hk1.2.1,if_neg hk1.2.2.1,if_neg hk1.2.2.2.1,if_neg hk1.2.2.2.2]
 rw[hF]
 by_cases hft:n.ak=9/\fr.xs=to.xs
 ·have e:dh c n i q.pl vl=(q.pl,vl.getD n.a.toNat 0):=by
   unfold dh;rw[if_neg hk1.1,if_neg hk1.2.1,if_neg hk1.2.2.1,if_neg hk1.2.2.2.1,if_neg hk1.2.2.2.2,efr,eto,if_pos hft]
  rw[e]
  exact adU c q vl n i fr to hN h0 hav hfr CX hto tF hft.1 hft.2 w ρ F hO
 ·have e:dh c n i q.pl vl=iC c.aj c.giant q.pl (vl.getD n.a.toNat 0) (jA (n0 n) t).1 fr.xs to.xs:=by
   unfold dh;rw[if_neg hk1.1,if_neg hk1.2.1,if_neg hk1.2.2.1,if_neg hk1.2.2.2.1,if_neg hk1.2.2.2.2,efr,eto,if_neg hft,et]
  rw[e]
  refine Sb c q vl n i t fr to (jA (n0 n) t).1 hN h0 hav hn hsm ht hts hfr CX hto tF hft rfl ?_ ?_ w ρ F hO
  ·rw[hr]
   refine⟨by have:=h.aj.1;omega,by have:=h.aj.2;omega,?_,fp,tp,λr hr=> ?_⟩
   ·show(tQ _ _ _).length=_
    rw[tl,<-es,<-hcnt];simp[tQ]
   ·obtain⟨o,_,rfl⟩:=List.mem_map.1 hr
    rw[jQ,fl]
  ·rw[hr]
   show _<=(List.map _ _).length
   rw[tl,<-es,<-hcnt];simp
end
theorem aep{n n':ai}{t t':au}(h:n.pl=n'.pl)(ht:t.xs=t'.xs):jA n t=jA n' t':=by
 have hc:wN n t=wN n' t':=Vo (g:=⟨none,0,[inpN t,n],1⟩) (h:=⟨none,0,[inpN t',n'],1⟩) (by simp only[List.map_cons,List.map_nil,h];congr 1;simp[ai.pl,inpN,ht]) rfl
 have hk:n.ak=n'.ak:=congrArg aT.ak h
 have ha:n.a=n'.a:=congrArg aT.a h
 have hok:nD n t↔nD n' t':=by unfold nD dX;rw[hc,hk,ha]
 have hcn:wD n t=wD n' t':=by unfold wD;rw[hc]
 unfold jA
 by_cases ho:nD n t
 ·rw[if_pos ho,if_pos (hok.1 ho),hcn,ht]
  obtain⟨k,a,b,⟨_,_,sx⟩,lo,hi,sz,⟨_,_,dx⟩,⟨_,_,bx⟩⟩:=n
  obtain⟨k',a',b',⟨_,_,sx'⟩,lo',hi',sz',⟨_,_,dx'⟩,⟨_,_,bx'⟩⟩:=n'
  simp only[ai.pl,aT.mk.injEq]at h
  obtain⟨rfl,rfl,rfl,rfl,rfl,rfl,rfl,rfl,rfl⟩:=h
  rfl
 ·rw[if_neg ho,if_neg (λg=>ho (hok.2 g))]
theorem I4(l:List au)(i:Nat):(l.getD i fQ).xs=(l.map au.xs).getD i []:=by
 rw[List.getD_eq_getElem?_getD,List.getD_eq_getElem?_getD,List.getElem?_map]
 cases l[i]? <;>rfl
structure afB(c c':dN):Prop where
 aj:c.aj=c'.aj
 giant:c.giant=c'.giant
 shapes:c.shapes.l.map au.xs=c'.shapes.l.map au.xs
 bO:c.bO.l.map au.xs=c'.bO.l.map au.xs
theorem Vb{c c':dN}{n n':ai}(hc:afB c c')(h:n.pl=n'.pl)(i:Nat)(s:fE)(vl:List Int):dh c n i s vl=dh c' n' i s vl:=by
 have hk:n.ak=n'.ak:=congrArg aT.ak h
 have ha:n.a=n'.a:=congrArg aT.a h
 have hb:n.b=n'.b:=congrArg aT.b h
 have hlo:n.lo=n'.lo:=congrArg aT.lo h
 have hhi:n.hi=n'.hi:=congrArg aT.hi h
 have hd:n.data.xs=n'.data.xs:=congrArg aT.data h
 have hr:jA (n0 n) (c.shapes.l.getD n.a.toNat fQ)=jA (n0 n') (c'.shapes.l.getD n'.a.toNat fQ):=by
  refine aep ?_ (by rw[I4,I4,hc.shapes,ha])
  have e:∀m:ai,(n0 m).pl={m.pl with a:=0}:=λm=>rfl
  rw[e,e,h]
 unfold dh
 rw[hr]
 simp only[I4,hc.aj,hc.giant,hc.bO,hk,ha,hb,hlo,hhi,hd]
theorem Gx{c c':dN}(hc:afB c c'):∀{l l':List ai} (i:Nat) (s:fE) (vl:List Int),l.map ai.pl=l'.map ai.pl->ig c l i s vl=ig c' l' i s vl
 |[],[],_,_,_,_=>rfl
 |[],_::_,_,_,_,h=>by simp at h
 |_::_,[],_,_,_,h=>by simp at h
 |x::l,y::m,i,s,vl,h=>by
  simp only[List.map_cons,List.cons.injEq]at h
  unfold ig
  rw[Vb hc h.1]
  split
  ·rfl
  ·exact Gx hc _ _ _ h.2
theorem Ba{c c':dN}{g g':bG}(hc:afB c c')(hl:g.l.map ai.pl=g'.l.map ai.pl)(ho:g.out=g'.out):qd c g=qd c' g':=by
 unfold qd
 rw[Gx hc 0 _ _ hl]
 cases ig c' g'.l 0 ⟨[],[],[]⟩ []with
 |none=>rfl
 |some q=>simp only[lowerT,I4,hc.aj,hc.bO,ho]
def aek(l:List (List Int)):a_:=⟨none,0,l.map (au.mk none 0)⟩
theorem Bh(l:List (List Int)):(aek l).l.map au.xs=l:=by
 show List.map au.xs (List.map _ l)=l
 rw[List.map_map]
 exact(List.map_congr_left (λ_ _=>rfl)).trans (List.map_id l)
def kG(g:bG)(aR:Int)(giant:Bool)(m:Nat):qY×Int:=
 if(gG aR m (check g).2 []).2≠0 then(uZ,(gG aR m (check g).2 []).2)
 else qd ⟨m,giant,aek (check g).2,aek (gG aR m (check g).2 []).1⟩ g
theorem Nk{g g':bG}(hl:g.l.map ai.pl=g'.l.map ai.pl)(ho:g.out=g'.out)(aR:Int)(giant:Bool)(m:Nat):kG g aR giant m=kG g' aR giant m:=by
 unfold kG
 rw[Vo hl ho]
 split
 ·rfl
 ·exact Ba ⟨rfl,rfl,rfl,rfl⟩ hl ho
theorem PY{w:World}{g:bG}(hg:g.ok w)(hck:(check g).1=0){aR:Int}{m:Nat}(hm:4<=m/\m<=2048)(hz:(gG aR m (check g).2 []).2=0){c:dN}(hs:c.aj=m)(h1:c.shapes.l.map au.xs=(check g).2)(h2:∀u∈c.shapes.l,u.bq)(h3:c.bO.l.map au.xs=(gG aR m (check g).2 []).1)(h4:∀u∈c.bO.l,u.bq):zR c aR (check g).2 g.l:=by
 obtain⟨_,_,_,hcl,hin⟩:=iq hck
 obtain⟨e,hall⟩:=K8 hz
 subst hs
 refine⟨by omega,hcl,λi n hi=> ?_,h1,h2,by rw[h3,e,List.nil_append],h4,hall⟩
 have hm:=List.mem_of_getElem? hi
 exact⟨(hg.each n hm).iJ,hg.small n hm,hin i n hi⟩
theorem Xc(w:World)(g:bG)(o:Aw)(m:Nat)(hg:g.ok w)(hs:mD o m)(hsp:(bX g).1=0)(htd:o.tidy=false)
 (hC:∀c:dN,zR c o.aR (check g).2 g.l->∀(i:Nat) (n:ai),g.l[i]? =some n->Dq c n i (vw n.ak)):
 Calls Tryz.prog 9 #[g.val,o.val,.int .i64 m] w (oI w (kG g o.aR o.giant m)):=by
 have hck:=(jw hsp).1
 refine adm w g o m hg hs hsp htd _ (λh=>by unfold kG;rw[if_pos h]) (λhz c h1 h2 h3 h4 h5 h6=> ?_)
 have hS:=PY hg hck (by unfold mD at hs;omega) hz h1 h3 h4 h5 h6
 refine⟨hC c hS,?_⟩
 unfold kG
 rw[if_neg (λh=>h hz)]
 exact Ba ⟨h1,h2,by rw[h3,Bh],by rw[h5,Bh]⟩ rfl rfl
theorem Dc{cx:Cx}{f:FuncId}{args:List SV}{H:Heap}{S:bN}{nx:Nat}{K:SV->Heap->bN->Nat->Prop}(r:qY×Int)(hf:∀ar w,(callFunc f ar).run cx.P w= .ok (.enter f ar) w)
 (hc:∀ρ w,eD cx.B ρ nx H S w->Calls cx.P f (SV.eO ρ args).toArray w (oI w r)) (h:∀v:zn,v.pl=r.1->v.bq->K (.c (.tuple #[v.val,.int .i64 r.2])) H (S.and ((VZ v).past cx.B.w0.heap.size)) nx):aI cx f args H S nx K:=by
 refine gX hf (λv:zn=> .tuple #[v.val,.int .i64 r.2]) VZ (λv=>v.pl=r.1/\v.bq) (λρ w' hw=>(hc ρ w' hw).mono ?_) (λv hv=>h v hv.1 hv.2)
 rintro e w2 ⟨v,h1,h2,h3,h4⟩
 exact⟨v,h1,h2,h3,h4⟩
abbrev amO:DT:=(eY [0,1,2,3,4,5,6,7,8,9,10,11,12,13,14,15,16,117,118,119,120,21,122] .done)
def akb(c:dN)(s:dw):List SV:=[ax c.aj,.os 1 s.inputs.length,.os 2 s.aF.length,.os 3 s.code.length,ax 0,.c (.slice none 0 0),.c (.bool c.giant)]
abbrev lX(c:dN)(s:dw):Heap:=[(0,.box (akb c s) 79),(1,.rows (iP s.inputs) 3 92),(2,.rows (aS s.aF) 1 32),(3,.rows (iO s.code) 5 43)]
abbrev v_{α:Type}(w:World)(ρ:Nat->SX.Loc)(F:Nat->Prop)(val:α->SV)(H1:α->Heap)(D:α->bN)(p:α->Prop):=yl w ρ F 1 4 val H1 D p
def Fh(c:dN)(s:dw)(d i1 i2 i3:Nat):Heap:=[(d,.box [ax c.aj,.os i1 s.inputs.length,.os i2 s.aF.length,.os i3 s.code.length,ax 0,.c (.slice none 0 0),.c (.bool c.giant)] 79),(i1,.rows (iP s.inputs) 3 92),(i2,.rows (aS s.aF) 1 32),(i3,.rows (iO s.code) 5 43)]
abbrev agy(d i1 i2 i3:Nat):Map:=[(0,some d),(1,some i1),(2,some i2),(3,some i3)]
theorem dR{cx:Cx}{f:FuncId}{args:List SV}{S:bN}{nx:Nat}{K:SV->Heap->bN->Nat->Prop}{α:Type}(rest:Heap)(d i1 i2 i3:Nat)(c:dN)(s:dw)(A:bN)(ol:List SV)(val:α->Value)(s':α->dw)(D:α->bN)(p:α->Prop)
 (hf:∀ar w,(callFunc f ar).run cx.P w= .ok (.enter f ar) w) (hm:vM 0 (agy d i1 i2 i3) (lX c s)=true) (hl:tN (agy d i1 i2 i3) (lX c s) (rest++Fh c s d i1 i2 i3)=rest)
 (ha:args=SV.t_ (agy d i1 i2 i3).app ol) (hA:∀R w,S.holds R w->A.holds R w) (G:Nat->Prop) (hG:∀R w,S.holds R w->∀b,G b->R b)
 (hc:∀w ρ F,iY w ρ F 1 4 (lX c s) A->Calls cx.P f (SV.eO ρ ol).toArray w (v_ w ρ F (λx=> .c (val x)) (λx=>lX c (s' x)) D p))
 (h:∀x,p x->K (.c (val x)) (rest++Fh c (s' x) d (nx+1) (nx+2) (nx+3)) (S.and ((D x).off G)) (nx+4)):aI cx f args (rest++Fh c s d i1 i2 i3) S nx K:=by
 have hin:∀q∈Fh c s d i1 i2 i3,q∈rest++Fh c s d i1 i2 i3:=λq hq=>List.mem_append.2 (.inr hq)
 refine z8 (agy d i1 i2 i3) 1 4 (lX c s) A ol (λx=> .c (val x)) (λx=>lX c (s' x)) D p hf hm rfl ⟨hin _ aU,hin _ aU,hin _ aU,hin _ aU,trivial⟩ (λi hi=> ?_) aY ha hA G hG hc (λx hx=> ?_)
 ·obtain rfl:i=0:=by omega
  exact⟨d,_,rfl,aU⟩
 ·rw[hl]
  exact h x hx
theorem mi(c:dN)(s:dw)(op a b k:Int)(hl:s.code.length<=1000000)(w:World)(ρ:Nat->SX.Loc)(F:Nat->Prop)(h:iY w ρ F 1 4 (lX c s) ed):
 Calls Tryz.prog 82 (SV.eO ρ [.lp 0 0 0 0,ax op,ax a,ax b,ax k]).toArray w (v_ w ρ F (λ_:Unit=>ax s.code.length) (λ_=>lX c (dn s op a b k)) (λ_=>ed) (λ_=>True)):=by
 have e1:((s.code++[qX.mk op s.code.length a b k]).length:Int)-1=s.code.length:=by rw[List.length_append];simp
 refine Ez Tryz.func82 (mI 1 ρ) ρ [.lp 0 0 0 0,ax op,ax a,ax b,ax k] (lX c s) (ed.and (gu w F)) 4 h.abs ?_
 repeat' ((conv=>whnf)<;>first|(show b_ _ 1 ..;refine lu [22] _ amO ?_ (h6:=List.Sublist.cons_cons _ (List.Sublist.cons_cons _ (List.Sublist.cons_cons _ (List.nil_sublist _)))))|refine BF ?_|(show iL ..;refine je (s.code.length:Int) e1 aa aa ?_)|(show vO ..;(refine gY afJ ?_))|(show gP ..;(refine dP aie ?_))|refine aiF ?_|refine aX ?_)
 all_goals(conv=>whnf)
 all_goals exact fw _ _ _ _ () [(3,some 5)] trivial aY rfl rfl rfl rfl bM (λR w' h=>⟨h.2,trivial⟩)
theorem ag8{l:List au}{k:Nat}(h:k<l.length):(aS l)[k]? =some [l[k].val]:=dF h
theorem EX(c:dN)(s:dw)(u:au)(hu:u.bq)(hs:∀p∈s.aF,p.bq)(hl:s.aF.length<=1000000)(w:World)(ρ:Nat->SX.Loc)(F:Nat->Prop)(h:iY w ρ F 1 4 (lX c s) ((dW s.aF).and (bE u))):
 Calls Tryz.prog 135 (SV.eO ρ [.lp 0 0 0 0,.c u.val]).toArray w (v_ w ρ F (λ_:Unit=>ax (aC s u).2) (λ_=>lX c (aC s u).1) (λ_=>ed) (λ_=>True)):=by
 refine Ez Tryz.func135 (mI 1 ρ) ρ [.lp 0 0 0 0,.c u.val] (lX c s) (((dW s.aF).and (bE u)).and (gu w F)) 4 h.abs ?_
 repeat' ((conv=>whnf)<;>first|refine aX ?_)
 refine Wp.loop (σ:=Nat) 4 (λk=>[(0,.lp 0 0 0 0),(1,.c u.val),(11,.os 2 s.aF.length),(12,ax s.aF.length),(13,ax k)]) (λ_=>lX c s) (λ_=>((dW s.aF).and (bE u)).and (gu w F))
  (λk=>k<=s.aF.length/\CS u.xs ((s.aF.drop k).map au.xs) k=CS u.xs (s.aF.map au.xs) 0) (λk=>s.aF.length-k) 0 [] aY (λ_=>⟨rfl,rfl⟩) ⟨by simp,rfl⟩ ⟨rfl,⟨rfl,rfl,rfl,rfl,rfl,trivial⟩,bM,λR w' h=>h⟩ ?_
 rintro k ⟨hkl,he⟩
 by_cases hlt:k<s.aF.length
 ·rw[List.drop_eq_getElem_cons hlt,List.map_cons,Ol]at he
  have hrow:=ag8 hlt
  have hxm:=List.getElem_mem hlt
  generalize s.aF[k]=x at*
  by_cases hsx:x.xs=u.xs
  ·rw[if_pos hsx]at he
   repeat' ((conv=>whnf)<;>first|(show di ..;(refine bg k rfl hlt Su ?_))|(show mq ..;refine row_of _ _ hrow rfl ?_)|(show aI _ 20 ..;(refine aQ (f:=20) Tryz.call20 (.bool true) (λρ w' hw=>by have:=qK w' x u (ae hw λR h=>bT (hs x hxm) (h.1.1 x hxm)) (ae hw λR h=>bT hu h.1.2);rw[decide_eq_true hsx]at this;exact this) ?_))|refine aX ?_|refine ag ?_ ?_<;>intro _)
   all_goals(conv=>whnf)
   have e:aC s u=(s,(k:Int)):=by unfold aC;rw[<-he]
   rw[e]
   all_goals exact fw _ _ _ _ () [] trivial aY rfl rfl rfl rfl bM (λR w' h=>⟨h.2,trivial⟩)
  ·rw[if_neg hsx]at he
   repeat' ((conv=>whnf)<;>first|(show di ..;(refine bg k rfl hlt Su ?_))|(show mq ..;refine row_of _ _ hrow rfl ?_)|(show aI _ 20 ..;(refine aQ (f:=20) Tryz.call20 (.bool false) (λρ w' hw=>by have:=qK w' x u (ae hw λR h=>bT (hs x hxm) (h.1.1 x hxm)) (ae hw λR h=>bT hu h.1.2);rw[decide_eq_false hsx]at this;exact this) ?_))|refine aX ?_|refine ag ?_ ?_<;>intro _)
   all_goals(conv=>whnf)
   all_goals exact⟨k+1,[],⟨hlt,he⟩,by omega,rfl,bM,bM,λR w' h=>h⟩
 ·rw[List.drop_of_length_le aa]at he
  have e:aC s u=(⟨s.inputs,s.aF++[u],s.code⟩,(s.aF.length:Int)):=by unfold aC;rw[<-he];rfl
  have e1:((s.aF++[u]).length:Int)-1=s.aF.length:=by rw[List.length_append];simp
  rw[e]
  repeat' ((conv=>whnf)<;>first|(show iL ..;refine je (s.aF.length:Int) e1 aa aa ?_)|refine afu ?_|(show gP ..;(refine dP ag9 ?_))|refine aiB ?_|refine aX ?_|refine ag ?_ ?_<;>intro _)
  all_goals(conv=>whnf)
  all_goals exact fw _ _ _ _ () [(2,some 5)] trivial aY rfl rfl rfl rfl bM (λR w' h=>⟨h.2,trivial⟩)
theorem Ul(c:dN)(s:dw)(x:Int)(hn:c.aj<=4096)(hs:∀p∈s.aF,p.bq)(hl:s.aF.length<=1000000)(hcl:s.code.length<=1000000)(w:World)(ρ:Nat->SX.Loc)(F:Nat->Prop)(h:iY w ρ F 1 4 (lX c s) (dW s.aF)):
 Calls Tryz.prog 137 (SV.eO ρ [.lp 0 0 0 0,ax x]).toArray w (v_ w ρ F (λ_:au=>ax s.code.length) (λu=>lX c (zeroV s u x)) (λu=>bE u) (λu=>u.xs=List.replicate c.aj 0/\u.bq)):=by
 refine Ez Tryz.func137 (mI 1 ρ) ρ [.lp 0 0 0 0,ax x] (lX c s) ((dW s.aF).and (gu w F)) 4 h.abs ?_
 repeat' ((conv=>whnf)<;>first|refine Qd ?_|(refine ahR ?_;intro u hu fI)|(show aI _ 135 ..;refine dR [] 0 1 2 3 c s ((dW s.aF).and (bE u)) [.lp 0 0 0 0,.c u.val] _ _ _ _ Tryz.call135 rfl rfl rfl (λR w' h=>⟨h.1.1,jO h.2⟩) (dZ w F) (λR w' h b hb=>(h.1.2 b hb).1) (λw' ρ' F' h'=>EX c s u fI hs hl w' ρ' F' h') (λ_ _=> ?_))|(show aI _ 82 ..;(refine dR [] 0 6 7 8 c (aC s u).1 ed [.lp 0 0 0 0,ax 5,ax x,ax 0,ax (aC s u).2] _ _ _ _ Tryz.call82 rfl rfl rfl (λR w' h=>trivial) (dZ w F) (λR w' h b hb=>(h.1.1.2 b hb).1) (λw' ρ' F' h'=>mi c (aC s u).1 5 x 0 (aC s u).2 (by rw[iX];exact hcl) w' ρ' F' h') (λ_ _=> ?_)))|refine aX ?_)
 all_goals(conv=>whnf)
 all_goals exact fw _ _ _ _ u [(1,some 10),(2,some 11),(3,some 12)] ⟨hu,fI⟩ aY (by rw[iX];rfl) rfl rfl rfl bM (λR w' h=>⟨h.1.1.1.2,h.1.1.2⟩)
def yw:Option Int->Int
 |none=> -1
 |some a=>a
def p8(s:dw)(m:Option Int)(v:Int):dw×Int:=match m with
 |none=>(s,v)
 |some a=>(dn s 3 a v 0,s.code.length)
theorem Dz(s:dw)(m:Option Int)(v:Int):((p8 s m v).1.pl,(p8 s m v).2)=lI s.pl m v:=by
 cases m<;>rfl
theorem El(c:dN)(s:dw)(m:Option Int)(hm:∀a,m=some a->0<=a)(v:Int)(hcl:s.code.length<=1000000)(w:World)(ρ:Nat->SX.Loc)(F:Nat->Prop)(h:iY w ρ F 1 4 (lX c s) ed):
 Calls Tryz.prog 136 (SV.eO ρ [.lp 0 0 0 0,ax (yw m),ax v]).toArray w (v_ w ρ F (λ_:Unit=>ax (p8 s m v).2) (λ_=>lX c (p8 s m v).1) (λ_=>ed) (λ_=>True)):=by
 refine Ez Tryz.func136 (mI 1 ρ) ρ [.lp 0 0 0 0,ax (yw m),ax v] (lX c s) (ed.and (gu w F)) 4 h.abs ?_
 cases m with
 |none=>
  repeat' ((conv=>whnf)<;>first|(show @eZ _ _ _;refine cu aY ?_)|refine aX ?_)
  all_goals(conv=>whnf)
  all_goals exact fw _ _ _ _ () [] trivial aY rfl rfl rfl rfl bM (λR w' h=>⟨h.2,trivial⟩)
 |some a=>
  have ha:=hm a rfl
  repeat' ((conv=>whnf)<;>first|(show @eZ _ _ _;refine dA (show¬a<0 by omega) ?_)|(show aI _ 82 ..;refine dR [] 0 1 2 3 c s ed [.lp 0 0 0 0,ax 3,ax a,ax v,ax 0] _ _ _ _ Tryz.call82 rfl rfl rfl (λR w' h=>trivial) (dZ w F) (λR w' h b hb=>(h.2 b hb).1) (λw' ρ' F' h'=>mi c s 3 a v 0 hcl w' ρ' F' h') (λ_ _=> ?_))|refine aX ?_)
  all_goals(conv=>whnf)
  all_goals exact fw _ _ _ _ () [(1,some 5),(2,some 6),(3,some 7)] trivial aY rfl rfl rfl rfl bM (λR w' h=>⟨h.1.2,trivial⟩)
theorem Lc{f g:Nat->Int}:∀{l:List Int} {e:Nat} {row:List Int},(∀k,k<e+l.length->f k=g k)->nT f l e row=nT g l e row
 |[],_,_,_=>rfl
 |s::r,e,row,h=>by
  unfold nT
  rw[h e Ze]
  exact Lc (λk hk=>h k Ze)
theorem wL{n:Nat}{l:List Int}{f g:Nat->Int}(h:∀k,k<l.length->f k=g k):jl n l f=jl n l g:=Lc (λk hk=>h k aa)
theorem tZ{S:bN}{p:World->Prop}{R:Nat->Prop}{w:World}(h:S.holds R w)(hp:∀R w,S.holds R w->p w):(vX p).holds R w:=⟨S,h,hp⟩
theorem uH{u:au}{R:Nat->Prop}{w:World}(h:(bE u).holds R w):(tO u).holds R w:=tZ h (λ_ _ h=>aV h)
theorem Zz(c:dN)(s:dw)(xs:List (List Value))(T:TypeId):q9 5 ((4,.rows xs 1 T)::lX c s)=true:=rfl
theorem J7(c:dN)(s:dw)(v sp:au)(hv:v.bq)(hv0:0<v.xs.length)(hn:c.aj<=4096)(hs:∀p∈s.aF,p.bq)(hl:s.aF.length<=1000000)(zo:sp.bq)(hb:∀x∈sp.xs,0<=x/\x<c.aj)
 (w:World) (ρ:Nat->SX.Loc) (F:Nat->Prop) (h:iY w ρ F 1 4 (lX c s) (((dW s.aF).and (tO v)).and (bE sp))):
 Calls Tryz.prog 83 (SV.eO ρ [.lp 0 0 0 0,.c v.val,.c sp.val]).toArray w (v_ w ρ F (λu:au=>ax (aC s u).2) (λu=>lX c (aC s u).1) (λu=>bE u) (λu=>u.xs=jl c.aj sp.xs (λe=>v.xs.getD (e%v.xs.length) 0)/\u.bq)):=by
 obtain⟨f,hf⟩:∃f:Nat->Int,f=λe=>v.xs.getD (e%v.xs.length) 0:=⟨_,rfl⟩
 have hff:∀e,i64 (f e):=λe=>by
  have hm:=Nat.mod_lt e hv0
  rw[hf];show i64 (v.xs.getD (e%v.xs.length) 0)
  rw[List.getD_eq_getElem?_getD,List.getElem?_eq_getElem hm]
  exact hv.fits _ (List.getElem_mem hm)
 rw[<-hf]
 refine Ez Tryz.func83 (mI 1 ρ) ρ [.lp 0 0 0 0,.c v.val,.c sp.val] (lX c s) ((((dW s.aF).and (tO v)).and (bE sp)).and (gu w F)) 4 h.abs ?_
 refine Wp.know (p:=∃a,v.base=some a) (λρ w' hw=>ae hw λR h=>aP (j:=0) (fV h.1.1.2) (by rw[aJ];exact hv0)) ?_
 rintro⟨va,hva⟩
 repeat' ((conv=>whnf)<;>first|refine Qd ?_|refine aX ?_)
 refine Wp.loop (σ:=Nat) 5 (λe=>[(0,.lp 0 0 0 0),(1,.c v.val),(7,.os 4 c.aj),(16,.c sp.val),(17,ax sp.xs.length),(18,ax e)]) (λe=>(4,.rows (aN (nT f (sp.xs.take e) 0 (List.replicate c.aj 0))) 1 3)::lX c s) (λ_=>(((dW s.aF).and (tO v)).and (bE sp)).and (gu w F)) (λe=>e<=sp.xs.length) (λe=>sp.xs.length-e) 0 [] aY (λe=>⟨rfl,Zz _ _ _ _⟩)
  (Nat.zero_le _) ⟨rfl,⟨rfl,rfl,rfl,rfl,rfl,rfl,trivial⟩,⟨?_,aU,aU,aU,aU,trivial⟩,λR w' h=>h⟩ ?_
 ·show(4,bZ.rows (aN (List.replicate c.aj 0)) 1 3)∈_
  rw[<-xC]
  exact aU
 rintro e he
 have hrl:(nT f (sp.xs.take e) 0 (List.replicate c.aj 0)).length=c.aj:=by rw[zX,List.length_replicate]
 by_cases hlt:e<sp.xs.length
 ·have htk:sp.xs.take (e+1)=sp.xs.take e++[sp.xs[e]]:=by rw[List.take_add_one,List.getElem?_eq_getElem hlt];rfl
  have hsn:nT f (sp.xs.take (e+1)) 0 (List.replicate c.aj 0)=(nT f (sp.xs.take e) 0 (List.replicate c.aj 0)).set sp.xs[e].toNat (f e):=by
   rw[htk,FK,List.length_take,Nat.min_eq_left aa,Nat.zero_add]
  have hbe:=hb _ (List.getElem_mem hlt)
  have hxg:sp.xs.getD e 0=sp.xs[e]:=by rw[List.getD_eq_getElem?_getD,List.getElem?_eq_getElem hlt];rfl
  have oz:=zo.few
  have hem:(e:Int)%(v.xs.length:Int)=((e%v.xs.length:Nat):Int):=(Int.natCast_emod _ _).symm
  have hml:=Nat.mod_lt e hv0
  have hfe:v.xs.getD (e%v.xs.length) 0=f e:=by rw[hf]
  have anl:(v.xs.length:Int)≠0:=by omega
  generalize sp.xs[e]=z at*
  generalize nT f (sp.xs.take e) 0 (List.replicate c.aj 0)=row at*
  refine Wp.know (p:=∃a,sp.base=some a) (λρ w' hw=>ae hw λR h=>aP (j:=e) (aV h.1.2) abP) ?_
  rintro⟨pa,hpa⟩
  repeat' ((conv=>whnf)<;>first|(show CQ ..;refine Ig (Int.natCast_nonneg _) anl hem ?_)|(show bV ..;(first|refine aH pa e hpa rfl hlt ?_|refine aH va (e%v.xs.length) hva rfl hml ?_))|(show fT ..;(first|refine kz (λR w' h=>by rw[<-hpa];exact aV h.1.2) (j:=e) hlt hxg ?_|refine kz (λR w' h=>by rw[<-hva];exact fV h.1.1.2) (j:=e%v.xs.length) hml hfe ?_))|(show di ..;(refine bg z.toNat aa aa ahP ?_))|(show cO ..;refine ints_set aa ?_)|refine aX ?_|refine ag ?_ ?_<;>intro _)
  all_goals(conv=>whnf)
  all_goals exact⟨e+1,[],hlt,by omega,rfl,bM,⟨by rw[hsn];exact aU,aU,aU,aU,aU,trivial⟩,λR w' h=>h⟩
 ·obtain rfl:e=sp.xs.length:=by omega
  rw[List.take_length]at hrl
  have aaI:∀x∈nT f (sp.xs.take sp.xs.length) 0 (List.replicate c.aj 0),i64 x:=by
   rw[List.take_length]
   exact Md (Q9 _) (λk hk=>hff k)
  refine Wp.Ie 4 (dZ w F) (k:=1) (xs:=aN (nT f (sp.xs.take sp.xs.length) 0 (List.replicate c.aj 0))) (T:=3) aU (λR w' h b hb=>(h.2 b hb).1) (λfl hfl=> ?_)
  rw[List.take_length]at aaI hfl|-
  rw[aJ,hrl]at hfl
  obtain⟨u,hu⟩:∃u:au,u=⟨fl.base,fl.cap,nT f sp.xs 0 (List.replicate c.aj 0)⟩:=⟨_,rfl⟩
  have YF:u.xs=nT f sp.xs 0 (List.replicate c.aj 0):=by rw[hu]
  have fI:u.bq:=⟨by rw[YF];exact aaI,by rw[YF,hrl,hu];exact hfl,by rw[YF,hrl];omega⟩
  have huv:Value.slice fl.base c.aj fl.cap=u.val:=by rw[hu];show _=Value.slice _ (nT f sp.xs 0 (List.replicate c.aj 0)).length _;rw[hrl]
  have jD:∀{R:Nat->Prop} {w':World},((fC fl.base 1 (aN (nT f sp.xs 0 (List.replicate c.aj 0)))).off (dZ w F)).holds R w'->((bE u).off (dZ w F)).holds R w':=λh=>by rw[hu];exact h
  repeat' ((conv=>whnf)<;>first|(show aI _ 135 ..;(refine dR [] 0 1 2 3 c s ((dW s.aF).and (bE u)) [.lp 0 0 0 0,.c u.val] _ _ _ _ Tryz.call135 rfl rfl (by rw[<-huv];rfl) (λR w' h=>⟨h.1.1.1.1,jO (jD h.2)⟩) (dZ w F) (λR w' h b hb=>(h.1.2 b hb).1) (λw' ρ' F' h'=>EX c s u fI hs hl w' ρ' F' h') (λ_ _=> ?_)))|refine aX ?_|refine ag ?_ ?_<;>intro _)
  all_goals(conv=>whnf)
  all_goals exact fw _ _ _ _ u [(1,some 6),(2,some 7),(3,some 8)] ⟨YF,fI⟩ aY rfl rfl rfl rfl bM (λR w' h=>⟨h.1.1.2,jD h.1.2⟩)
end Go.Proofs.YtgndjjdeopfdkaaGreat

import Derived.Test.YtgndjjdeopfdkaaGreatKLowerMakes10
/- texts UD UJ of the proof of LowerMakesSaid -/
set_option maxHeartbeats 16000000
set_option maxRecDepth 20000
namespace Go.Proofs.YtgndjjdeopfdkaaGreat
open Go.SX Go.RowKit
theorem aa9{rows:List (List Int)}{fr to:List Int}{n:Nat}(hd:oQ rows fr to n):∀r∈(mK rows fr to n).1,r=[]\/r.length=n:=by
 obtain⟨h1,h2,h3,h4,h5,h6⟩:=id hd
 have hD:=Xp (rows:=rows) (j5 h4) (j5 h5) (show 0<n by omega)
 intro r hr
 rw[mK,if_pos hd]at hr
 obtain⟨k,hk,rfl⟩:=List.mem_iff_getElem.1 hr
 have:=hD.each k
 rw[Int.toNat_natCast]at hk
 rw[List.getD_eq_getElem?_getD,List.getElem?_eq_getElem hk]at this
 exact this
theorem aeW(c:dM)(s:cZ)(x:Int)(rv:aY)(fr to:aj)(hs:1<=c.slots/\c.slots<=4096)(z:lJ c 500000 s)(hx:0<=x)(hfr:fr.a_)(hto:to.a_)(hd:oQ (rv.l.map aj.xs) fr.xs to.xs c.slots)
 (w:World) (ρ:Nat->SX.Loc) (F:Nat->Prop) (h:iW w ρ F 1 4 (lQ c s) (((dP s.ay).and (vZ λw=>rv.okB w)).and ((bn fr).and (bn to)))):
 Calls Tryz.prog 86 (SV.d_ ρ [.lp 0 0 0 0,ak x,.c rv.val,.c fr.val,.c to.val]).toArray w (Iy w ρ F c s (jl c.slots c.giant s.pl x (mK (rv.l.map aj.xs) fr.xs to.xs c.slots).1)):=by
 have hn1:=hs.1
 have hn2:=hs.2
 refine Es Tryz.func86 (mq 1 ρ) ρ [.lp 0 0 0 0,ak x,.c rv.val,.c fr.val,.c to.val] (lQ c s) ((((dP s.ay).and (vZ λw=>rv.okB w)).and ((bn fr).and (bn to))).and (f_ w F)) 4 h.abs ?_
 (repeat' ((conv=>whnf)<;>first|(show aC _ 138 ..;(refine aaW (mK (rv.l.map aj.xs) fr.xs to.xs c.slots) Tryz.call138 (λρ w' hw=>UR w' rv (ae hw λR h=>fK h.1.1.2) fr to (ae hw λR h=>bP hfr h.1.2.1) (ae hw λR h=>bP hto h.1.2.2) c.slots (by unfold i64;omega)) (λd hdI hdb=> ?_)))|refine aZ ?_))
 have hdl:d.l.length=c.slots:=by have:=congrArg List.length hdI.rows;rw[List.length_map]at this;rw[this];exact uq hd
 have hde:∀u∈d.l,u.xs=[]\/u.xs.length=c.slots:=λu hu=>aa9 hd u.xs (by rw[<-hdI.rows];exact List.mem_map_of_mem hu)
 have hR:qd c s x d:=⟨hs,z,hx,hdl,hde,hdI.a_⟩
 have hF:∀{R:Nat->Prop} {w':World},(((((dP s.ay).and (vZ λw=>rv.okB w)).and ((bn fr).and (bn to))).and (f_ w F)).and ((ni d).past w.heap.size)).holds R w'->(((dP s.ay).and (ni d)).and (f_ w F)).holds R w':=λh=>⟨⟨h.1.1.1.1,(ni d).mono h.2 (λ_ hb=>hb.1)⟩,h.1.2⟩
 rw[<-hdI.rows]
 (repeat' ((conv=>whnf)<;>first|refine aZ ?_))
 refine vg (λ_=>rfl) (λhg=> ?_) (λhg=> ?_)
 ·(repeat' ((conv=>whnf)<;>first|refine aZ ?_))
  refine Wp.loop (σ:=Nat×Nat) 4 (λq=>[(0,.lp 0 0 0 0),(1,ak x),(11,.c d.val),(13,ak c.slots),(14,ak q.2)]) (λ_=>lQ c s) (λ_=>((dP s.ay).and (ni d)).and (f_ w F)) (λq=>stepG q.1 c.slots q.2=stepG c.slots c.slots 1/\c.slots<=q.2+q.1/\1<=q.2/\q.2<=128) (λq=>q.1) (c.slots,1) [] aS (λq=>⟨rfl,rfl⟩) ⟨rfl,by omega,Nat.le_refl _,(by decide:1<=128)⟩ ⟨rfl,aU,aU,λR w' h=>hF h⟩ ?_
  rintro⟨f,g⟩ ⟨hgs,hgf,hg1,hg2⟩
  simp only at hgs hgf hg1 hg2
  have hgg:g*g<=128*128:=Nat.mul_le_mul hg2 hg2
  have hgc:((g*g:Nat):Int)=(g:Int)*g:=by push_cast;rfl
  by_cases hlt:g*g<c.slots
  ·obtain⟨f',rfl,e⟩:=TW hlt hgf hg1
   have:=TY hlt hn2
   have h2g:2*(g:Int)=((2*g:Nat):Int):=by push_cast;rfl
   (repeat' ((conv=>whnf)<;>first|(show @dR _ _ _;(refine bA He ?_))|(show iw ..;(first|refine jc ((2*g:Nat):Int) h2g aa aa ?_|refine wrap_i64 He He ?_))|refine aZ ?_))
   all_goals(conv=>whnf)
   exact⟨(f',2*g),[],⟨by rw[<-hgs,e],by show c.slots<=2*g+f';omega,by show 1<=2*g;omega,by show 2*g<=128;omega⟩,Nat.lt_succ_self f',rfl,aU,aU,λR w' h=>h⟩
  rw[stepG_end hlt]at hgs
  have hgv:oC c.giant c.slots=g:=by rw[hg];exact hgs.symm
  iterate 2
   refine Wp.go fA rfl ?_
   (repeat' ((conv=>whnf)<;>first|(show @dR _ _ _;(refine cK He ?_))|(show iw ..;(refine wrap_i64 He He ?_))))
  exact Wp.into 4 [] (O1 c s x d g hg1 aa hgv hR w ρ F) aS ⟨rfl,rfl⟩ ⟨rfl,aU,aU,λR w' h=>h⟩
 ·have hgv:oC c.giant c.slots=c.slots:=by rw[hg];rfl
  (repeat' ((conv=>whnf)<;>first|fail))
  exact Wp.into 4 [] (O1 c s x d c.slots hn1 hn2 hgv hR w ρ F) aS ⟨rfl,rfl⟩ ⟨rfl,aU,aU,λR w' h=>hF h⟩
def Zq(n:Nat)(s:fF)(x a:Int)(sl:List Int):fF×Option Int:=if a=0 then(s,none)else if a=1 then((bI s 6 x x 0).1,some (bI s 6 x x 0).2)else
 ((bI (bg n (bI s 6 x x 0).1 sl (λ_=>a)).1 5 (bI s 6 x x 0).2 0 (bg n (bI s 6 x x 0).1 sl (λ_=>a)).2).1,some (bI (bg n (bI s 6 x x 0).1 sl (λ_=>a)).1 5 (bI s 6 x x 0).2 0 (bg n (bI s 6 x x 0).1 sl (λ_=>a)).2).2)
def Xt(n:Nat)(y:fF×Option Int)(x b:Int)(sl:List Int):fF×Option Int:=if b=0 then y else if b=1 then((lq y.1 y.2 x).1,some (lq y.1 y.2 x).2)else
 ((lq (bI (bg n y.1 sl (λ_=>b)).1 5 x 0 (bg n y.1 sl (λ_=>b)).2).1 y.2 (bI (bg n y.1 sl (λ_=>b)).1 5 x 0 (bg n y.1 sl (λ_=>b)).2).2).1,some (lq (bI (bg n y.1 sl (λ_=>b)).1 5 x 0 (bg n y.1 sl (λ_=>b)).2).1 y.2 (bI (bg n y.1 sl (λ_=>b)).1 5 x 0 (bg n y.1 sl (λ_=>b)).2).2).2)
def Xu(n:Nat)(z:fF×Option Int)(x:Int):fF×Int:=match z.2 with
 |none=>tZ n z.1 x
 |some m=>(z.1,m)
def pw4(n:Nat)(o:fF×Int)(c:Int)(sl:List Int):fF×Int:=if c=0 then o else bI (bg n o.1 sl (λ_=>c)).1 4 o.2 0 (bg n o.1 sl (λ_=>c)).2
theorem Q8(n:Nat)(s:fF)(x:Int)(data sl:List Int):lu n s x data sl=pw4 n (Xu n (Xt n (Zq n s x (data.getD 2 0) sl) x (data.getD 1 0) sl) x) (data.getD 0 0) sl:=rfl
abbrev agF(w:World)(ρ:Nat->SX.Loc)(F:Nat->Prop)(c:dM)(s:cZ)(k:Nat)(env:Env)(H:Heap)(S:bJ)(nx:Nat)(r:fF×Int):Prop:=Wp ⟨Tryz.prog,⟨w,mq 1 ρ⟩,Tryz.f84.ntmps,tab⟩ (OX k (bodyC Tryz.f84)) env H S nx (Sn ⟨Tryz.prog,⟨w,mq 1 ρ⟩,Tryz.f84.ntmps,tab⟩ Tryz.f84.results.toList (Iy w ρ F c s r))
abbrev agG(w:World)(F:Nat->Prop)(s0:cZ)(sp:aj)(s:cZ):bJ:=(((dP s.ay).and ((D6 s0.ay s.ay).off (dU w F))).and (bn sp)).and (f_ w F)
structure O3(c:dM)(q:cZ)(k:Nat)(x:Int)(sp:aj):Prop where
 slots:1<=c.slots/\c.slots<=4096
 low:lJ c k q
 few:k<=600000
 hx:0<=x
 hsp:sp.a_
 places:∀z∈sp.xs,0<=z/\z<c.slots
theorem CU{n:Nat}{sl:List Int}{v:Int}{u w:aj}(hu:u.xs=[v])(hw:w.xs=jk n sl (λe=>u.xs.getD (e%u.xs.length) 0)):w.xs=jk n sl (λ_=>v):=by
 rw[hw]
 refine wK (λk _=> ?_)
 rw[hu]
 show [v].getD (k%1) 0=v
 rw[Nat.mod_one];rfl
theorem Q9{v:Int}(h:i64 v):∀z∈[v],i64 z:=λz hz=>by rw[List.mem_singleton.1 hz];exact h
theorem aiD(c:dM)(s q:cZ)(k:Nat)(x v o:Int)(sp:aj)(hP:O3 c q k x sp)(h64:i64 v)(w:World)(ρ:Nat->SX.Loc)(F:Nat->Prop):
 agF w ρ F c s 6 [(0,.lp 0 0 0 0),(1,ak x),(3,.c sp.val),(9,ak v),(12,ak o)] (FC c q 0 80 81 82) (agG w F s sp q) 83 (pw4 c.slots (q.pl,o) v sp.xs):=by
 obtain⟨hs,z0,hk,hx,hsp,hpl⟩:=hP
 unfold pw4
 by_cases hv:v=0
 ·rw[if_pos hv]
  (repeat' ((conv=>whnf)<;>first|refine aZ ?_|refine ag ?_ ?_<;>intro _))
  all_goals(conv=>whnf)
  all_goals exact eU _ _ _ _ (q,o) [(1,some 80),(2,some 81),(3,some 82)] ⟨rfl,rfl,z0.ok⟩ aS rfl rfl rfl rfl aU (λR w' h=>⟨h.2,h.1.1.2⟩)
 ·rw[if_neg hv]
  (repeat' ((conv=>whnf)<;>first|(show jd ..;refine rq [v] (dU w F) (λR w' h b hb=>(h.2 b hb).1) rfl rfl (Q9 h64) (show 1<=1000000 by decide) (λu hu fP=> ?_))|(show aC _ 83 ..;(refine dK [] 0 80 81 82 c q (((dP q.ay).and (tC u)).and (bn sp)) [.lp 0 0 0 0,.c u.val,.c sp.val] _ _ _ _ Tryz.call83 rfl rfl rfl (λR w' h=>⟨⟨h.1.1.1.1,uK (jN h.2)⟩,h.1.1.2⟩) (dU w F) (λR w' h b hb=>(h.1.2 b hb).1) (λw' ρ' F' h'=>I8 c q u sp fP acP hs.2 z0.ok.ay RO hsp hpl w' ρ' F' h') (λm ⟨hm,hms⟩=> ?_)))|(show aC _ 82 ..;(refine dK [] 0 85 86 87 c (az q m).1 dW [.lp 0 0 0 0,ak 4,ak o,ak 0,ak (az q m).2] _ _ _ _ Tryz.call82 rfl rfl rfl (λR w' h=>trivial) (dU w F) (λR w' h b hb=>(h.1.1.2 b hb).1) (λw' ρ' F' h'=>l8 c (az q m).1 4 o 0 (az q m).2 (by rw[iT];have:=z0.lM;omega) w' ρ' F' h') (λ_ _=> ?_)))|refine aZ ?_|refine ag ?_ ?_<;>intro _))
  all_goals(conv=>whnf)
  have hS:=h_ (s:=q) (CU hu hm)
  rw[hS]
  exact eU _ _ _ _ (cu (az q m).1 4 o 0 (az q m).2,((az q m).1.code.length:Int)) [(1,some 89),(2,some 90),(3,some 91)] ⟨rfl,rfl,qA (nN z0.ok hms) _ _ _ _⟩ aS rfl rfl rfl rfl aU (λR w' h=>⟨h.1.1.1.2,gQ h.1.1.1.1.1.2 h.1.2⟩)
theorem aeX(c:dM)(s q:cZ)(k:Nat)(x v:Int)(m:Option Int)(sp:aj)(hP:O3 c q k x sp)(hk:k<=599000)(hm:∀a,m=some a->0<=a)(h64:i64 v)(w:World)(ρ:Nat->SX.Loc)(F:Nat->Prop):
 agF w ρ F c s 5 [(0,.lp 0 0 0 0),(1,ak x),(3,.c sp.val),(9,ak v),(12,ak (yR m))] (FC c q 0 60 61 62) (agG w F s sp q) 63 (pw4 c.slots (Xu c.slots (q.pl,m) x) v sp.xs):=by
 obtain⟨hs,z0,_,hx,hsp,hpl⟩:=hP
 rcases m with _|a
 ·iterate 2
   refine Wp.go fA rfl ?_
   (repeat' ((conv=>whnf)<;>first|(show @dR _ _ _;refine bA (show(-1:Int)<0 by decide) ?_)|(show aC _ 137 ..;(refine dK [] 0 60 61 62 c q (dP q.ay) [.lp 0 0 0 0,ak x] _ _ _ _ Tryz.call137 rfl rfl rfl (λR w' h=>h.1.1.1) (dU w F) (λR w' h b hb=>(h.2 b hb).1) (λw' ρ' F' h'=>UW c q x hs.2 z0.ok.ay RO G_ w' ρ' F' h') (λu ⟨hu,fP⟩=> ?_)))))
  have e:Xu c.slots (q.pl,none) x=((zeroV q u x).pl,(q.code.length:Int)):=yJ hu
  rw[e]
  exact Wp.into 83 [(80,some 64),(81,some 65),(82,some 66)] (aiD c s (zeroV q u x) (k+2) x v q.code.length sp ⟨hs,z0.zero fP x,by omega,hx,hsp,hpl⟩ h64 w ρ F) aS ⟨rfl,rfl⟩ ⟨rfl,aU,aU,λR w' h=>⟨⟨⟨mr h.1.1.1.1 (jN h.2),gQ h.1.1.1.2 h.2⟩,h.1.1.2⟩,h.1.2⟩⟩
 ·have ha:=hm a rfl
  iterate 2
   refine Wp.go fA rfl ?_
   (repeat' ((conv=>whnf)<;>first|(show @dR _ _ _;refine cK (show¬a<0 by omega) ?_)))
  exact Wp.into 83 [(80,some 60),(81,some 61),(82,some 62)] (aiD c s q k x v a sp ⟨hs,z0,by omega,hx,hsp,hpl⟩ h64 w ρ F) aS ⟨rfl,rfl⟩ ⟨rfl,aU,aU,λR w' h=>h⟩
theorem aeY(c:dM)(s q:cZ)(k:Nat)(x v b:Int)(m:Option Int)(sp:aj)(hP:O3 c q k x sp)(hk:k<=598000)(hm:∀a,m=some a->0<=a)(h64:i64 v)(Hy:i64 b)(w:World)(ρ:Nat->SX.Loc)(F:Nat->Prop):
 agF w ρ F c s 4 [(0,.lp 0 0 0 0),(1,ak x),(3,.c sp.val),(9,ak v),(10,ak b),(12,ak (yR m))] (FC c q 0 40 41 42) (agG w F s sp q) 43 (pw4 c.slots (Xu c.slots (Xt c.slots (q.pl,m) x b sp.xs) x) v sp.xs):=by
 obtain⟨hs,z0,_,hx,hsp,hpl⟩:=hP
 unfold Xt
 by_cases h0:b=0
 ·rw[if_pos h0]
  iterate 2
   refine Wp.go fA rfl ?_
   (repeat' ((conv=>whnf)<;>first|refine Vz ?_|refine ag ?_ ?_<;>intro _))
  exact Wp.into 63 [(60,some 40),(61,some 41),(62,some 42)] (aeX c s q k x v m sp ⟨hs,z0,by omega,hx,hsp,hpl⟩ aa hm h64 w ρ F) aS ⟨rfl,rfl⟩ ⟨rfl,aU,aU,λR w' h=>h⟩
 rw[if_neg h0]
 by_cases h1:b=1
 ·rw[if_pos h1]
  iterate 5
   refine Wp.go fA rfl ?_
   (repeat' ((conv=>whnf)<;>first|(show aC _ 136 ..;(refine dK [] 0 40 41 42 c q dW [.lp 0 0 0 0,ak (yR m),ak x] _ _ _ _ Tryz.call136 rfl rfl rfl (λR w' h=>trivial) (dU w F) (λR w' h b hb=>(h.2 b hb).1) (λw' ρ' F' h'=>Ef c q m hm x G_ w' ρ' F' h') (λ_ _=> ?_)))|refine Vz ?_|refine ag ?_ ?_<;>intro _))
  have aeZ:(pR q m x).1.ay=q.ay:=sF _ _ _
  rw[<-Ee q m x]
  exact Wp.into 63 [(60,some 44),(61,some 45),(62,some 46)] (aeX c s (pR q m x).1 (k+1) x v (some (pR q m x).2) sp ⟨hs,z0.sum m x,by omega,hx,hsp,hpl⟩ aa (λa h=>by simp only[Option.some.injEq]at h;rw[<-h];exact sD hx) h64 w ρ F) aS ⟨rfl,rfl⟩ ⟨rfl,aU,aU,λR w' h=>⟨⟨⟨by rw[aeZ];exact h.1.1.1.1,by rw[aeZ];exact h.1.1.1.2⟩,h.1.1.2⟩,h.1.2⟩⟩
 ·rw[if_neg h1]
  iterate 5
   refine Wp.go fA rfl ?_
   (repeat' ((conv=>whnf)<;>first|(show jd ..;refine rq [b] (dU w F) (λR w' h b hb=>(h.2 b hb).1) rfl rfl (Q9 Hy) (show 1<=1000000 by decide) (λu hu fP=> ?_))|(show aC _ 83 ..;(refine dK [] 0 40 41 42 c q (((dP (q).ay).and (tC u)).and (bn sp)) [.lp 0 0 0 0,.c u.val,.c sp.val] _ _ _ _ Tryz.call83 rfl rfl rfl (λR w' h=>⟨⟨h.1.1.1.1,uK (jN h.2)⟩,h.1.1.2⟩) (dU w F) (λR w' h b hb=>(h.1.2 b hb).1) (λw' ρ' F' h'=>I8 c q u sp fP acP hs.2 z0.ok.ay RO hsp hpl w' ρ' F' h') (λm1 ⟨hm1,hms⟩=> ?_)))|(show aC _ 82 ..;(refine dK [] 0 45 46 47 c (az q m1).1 dW [.lp 0 0 0 0,ak 5,ak x,ak 0,ak (az q m1).2] _ _ _ _ Tryz.call82 rfl rfl rfl (λR w' h=>trivial) (dU w F) (λR w' h b hb=>(h.1.1.2 b hb).1) (λw' ρ' F' h'=>l8 c (az q m1).1 5 x 0 (az q m1).2 (by rw[iT];have:=z0.lM;omega) w' ρ' F' h') (λ_ _=> ?_)))|(show aC _ 136 ..;(refine dK [] 0 49 50 51 c (cu (az q m1).1 5 x 0 (az q m1).2) dW [.lp 0 0 0 0,ak (yR m),ak (az q m1).1.code.length] _ _ _ _ Tryz.call136 rfl rfl rfl (λR w' h=>trivial) (dU w F) (λR w' h b hb=>(h.1.1.1.2 b hb).1) (λw' ρ' F' h'=>Ef c (cu (az q m1).1 5 x 0 (az q m1).2) m hm (az q m1).1.code.length (by have:=((z0.plain hms).lay 5 x 0 (az q m1).2).lM;omega) w' ρ' F' h') (λ_ _=> ?_)))|refine Vz ?_|refine ag ?_ ?_<;>intro _))
  have hS:=h_ (s:=q) (CU hu hm1)
  have aeZ:(pR (cu (az q m1).1 5 x 0 (az q m1).2) m (az q m1).1.code.length).1.ay=(az q m1).1.ay:=sF _ _ _
  dsimp only
  rw[hS,nO,<-Ee]
  exact Wp.into 63 [(60,some 53),(61,some 54),(62,some 55)] (aeX c s (pR (cu (az q m1).1 5 x 0 (az q m1).2) m (az q m1).1.code.length).1 (k+3) x v (some (pR (cu (az q m1).1 5 x 0 (az q m1).2) m (az q m1).1.code.length).2) sp ⟨hs,((z0.plain hms).lay 5 x 0 (az q m1).2).sum m (az q m1).1.code.length,by omega,hx,hsp,hpl⟩ aa (λa h=>by simp only[Option.some.injEq]at h;rw[<-h];exact sD (Int.natCast_nonneg _)) h64 w ρ F) aS ⟨rfl,rfl⟩ ⟨rfl,aU,aU,λR w' h=>⟨⟨⟨by rw[aeZ];exact mr h.1.1.1.1.1.1.1 (jN h.1.1.2),by rw[aeZ];exact gQ h.1.1.1.1.1.1.2 h.1.1.2⟩,h.1.1.1.1.1.2⟩,h.1.1.1.1.2⟩⟩
theorem amj(c:dM)(s:cZ)(x v b a:Int)(sp:aj)(hP:O3 c s 500000 x sp)(h64:i64 v)(Hy:i64 b)(aka:i64 a)(w:World)(ρ:Nat->SX.Loc)(F:Nat->Prop):
 agF w ρ F c s 3 [(0,.lp 0 0 0 0),(1,ak x),(3,.c sp.val),(9,ak v),(10,ak b),(11,ak a),(12,ak (-1))] (FC c s 0 1 2 3) (agG w F s sp s) 4 (pw4 c.slots (Xu c.slots (Xt c.slots (Zq c.slots s.pl x a sp.xs) x b sp.xs) x) v sp.xs):=by
 obtain⟨hs,z0,_,hx,hsp,hpl⟩:=hP
 unfold Zq
 by_cases h0:a=0
 ·rw[if_pos h0]
  iterate 2
   refine Wp.go fA rfl ?_
   (repeat' ((conv=>whnf)<;>first|refine Vz ?_|refine ag ?_ ?_<;>intro _))
  exact Wp.into 43 [(40,some 1),(41,some 2),(42,some 3)] (aeY c s s 500000 x v b none sp ⟨hs,z0,by omega,hx,hsp,hpl⟩ aa (λa h=>by cases h) h64 Hy w ρ F) aS ⟨rfl,rfl⟩ ⟨rfl,aU,aU,λR w' h=>h⟩
 rw[if_neg h0]
 by_cases h1:a=1
 ·rw[if_pos h1]
  iterate 4
   refine Wp.go fA rfl ?_
   (repeat' ((conv=>whnf)<;>first|(show aC _ 82 ..;(refine dK [] 0 1 2 3 c s dW [.lp 0 0 0 0,ak 6,ak x,ak x,ak 0] _ _ _ _ Tryz.call82 rfl rfl rfl (λR w' h=>trivial) (dU w F) (λR w' h b hb=>(h.2 b hb).1) (λw' ρ' F' h'=>l8 c s 6 x x 0 G_ w' ρ' F' h') (λ_ _=> ?_)))|refine Vz ?_|refine ag ?_ ?_<;>intro _))
  exact Wp.into 43 [(40,some 5),(41,some 6),(42,some 7)] (aeY c s (cu s 6 x x 0) 500001 x v b (some s.code.length) sp ⟨hs,z0.lay 6 x x 0,by omega,hx,hsp,hpl⟩ aa (λa h=>by simp only[Option.some.injEq]at h;omega) h64 Hy w ρ F) aS ⟨rfl,rfl⟩ ⟨rfl,aU,aU,λR w' h=>h.1⟩
 ·rw[if_neg h1]
  iterate 4
   refine Wp.go fA rfl ?_
   (repeat' ((conv=>whnf)<;>first|(show aC _ 82 [_,ak 6,_,_,_] ..;(refine dK [] 0 1 2 3 c s dW [.lp 0 0 0 0,ak 6,ak x,ak x,ak 0] _ _ _ _ Tryz.call82 rfl rfl rfl (λR w' h=>trivial) (dU w F) (λR w' h b hb=>(h.2 b hb).1) (λw' ρ' F' h'=>l8 c s 6 x x 0 G_ w' ρ' F' h') (λ_ _=> ?_)))|(show jd ..;refine rq [a] (dU w F) (λR w' h b hb=>(h.1.2 b hb).1) rfl rfl (Q9 aka) (show 1<=1000000 by decide) (λu hu fP=> ?_))|(show aC _ 83 ..;(refine dK [] 0 5 6 7 c (cu s 6 x x 0) (((dP ((cu s 6 x x 0)).ay).and (tC u)).and (bn sp)) [.lp 0 0 0 0,.c u.val,.c sp.val] _ _ _ _ Tryz.call83 rfl rfl rfl (λR w' h=>⟨⟨h.1.1.1.1.1,uK (jN h.2)⟩,h.1.1.1.2⟩) (dU w F) (λR w' h b hb=>(h.1.1.2 b hb).1) (λw' ρ' F' h'=>I8 c (cu s 6 x x 0) u sp fP acP hs.2 (z0.lay 6 x x 0).ok.ay (by have:=(z0.lay 6 x x 0).qM;omega) hsp hpl w' ρ' F' h') (λm1 ⟨hm1,hms⟩=> ?_)))|(show aC _ 82 [_,ak 5,_,_,_] ..;(refine dK [] 0 10 11 12 c (az (cu s 6 x x 0) m1).1 dW [.lp 0 0 0 0,ak 5,ak s.code.length,ak 0,ak (az (cu s 6 x x 0) m1).2] _ _ _ _ Tryz.call82 rfl rfl rfl (λR w' h=>trivial) (dU w F) (λR w' h b hb=>(h.1.1.1.2 b hb).1) (λw' ρ' F' h'=>l8 c (az (cu s 6 x x 0) m1).1 5 s.code.length 0 (az (cu s 6 x x 0) m1).2 (by rw[iT];have:=(z0.lay 6 x x 0).lM;omega) w' ρ' F' h') (λ_ _=> ?_)))|refine Vz ?_|refine ag ?_ ?_<;>intro _))
  have hS:=h_ (s:=cu s 6 x x 0) (CU hu hm1)
  rw[nO]
  dsimp only
  rw[hS]
  exact Wp.into 43 [(40,some 14),(41,some 15),(42,some 16)] (aeY c s (cu (az (cu s 6 x x 0) m1).1 5 s.code.length 0 (az (cu s 6 x x 0) m1).2) 500003 x v b (some (az (cu s 6 x x 0) m1).1.code.length) sp ⟨hs,((z0.lay 6 x x 0).plain hms).lay 5 s.code.length 0 (az (cu s 6 x x 0) m1).2,by omega,hx,hsp,hpl⟩ aa (λa h=>by simp only[Option.some.injEq]at h;omega) h64 Hy w ρ F) aS ⟨rfl,rfl⟩ ⟨rfl,aU,aU,λR w' h=>⟨⟨⟨mr h.1.1.1.1.1.1.1 (jN h.1.2),gQ h.1.1.1.1.1.1.2 h.1.2⟩,h.1.1.1.1.1.2⟩,h.1.1.1.1.2⟩⟩
theorem aba(c:dM)(s:cZ)(x:Int)(d sp:aj)(hP:O3 c s 500000 x sp)(hd:d.xs.length=3)(hds:d.a_)(w:World)(ρ:Nat->SX.Loc)(F:Nat->Prop)(h:iW w ρ F 1 4 (lQ c s) (((dP s.ay).and (tC d)).and (bn sp))):
 Calls Tryz.prog 84 (SV.d_ ρ [.lp 0 0 0 0,ak x,.c d.val,.c sp.val]).toArray w (Iy w ρ F c s (lu c.slots s.pl x d.xs sp.xs)):=by
 have h64:∀j,j<d.xs.length->i64 (d.xs.getD j 0):=λj hj=>by
  rw[List.getD_eq_getElem?_getD,List.getElem?_eq_getElem hj];exact hds.fits _ (List.getElem_mem hj)
 have agH:=h64 0 aa
 have agI:=h64 1 aa
 have agJ:=h64 2 aa
 rw[Q8]
 obtain⟨a,ha⟩:∃a,d.xs.getD 2 0=a:=⟨_,rfl⟩
 obtain⟨b,hb⟩:∃b,d.xs.getD 1 0=b:=⟨_,rfl⟩
 obtain⟨v,hv⟩:∃v,d.xs.getD 0 0=v:=⟨_,rfl⟩
 rw[ha]at agJ|-
 rw[hb]at agI|-
 rw[hv]at agH|-
 refine Es Tryz.func84 (mq 1 ρ) ρ [.lp 0 0 0 0,ak x,.c d.val,.c sp.val] (lQ c s) ((((dP s.ay).and (tC d)).and (bn sp)).and (f_ w F)) 4 h.abs ?_
 refine Wp.know (p:=∃a,d.base=some a) (λρ w' hw=>ae hw λR h=>aI (j:=0) (fK h.1.1.2) vD) ?_
 rintro⟨da,hda⟩
 iterate 3
  refine Wp.go fA rfl ?_
  (repeat' ((conv=>whnf)<;>first|(show bC ..;(first|refine ax da 0 hda rfl aa ?_|refine ax da 1 hda rfl aa ?_|refine ax da 2 hda rfl aa ?_))|(show fu ..;(first|refine j6 (λR w' h=>by rw[<-hda];exact fK h.1.1.2) (j:=0) aa hv ?_|refine j6 (λR w' h=>by rw[<-hda];exact fK h.1.1.2) (j:=1) aa hb ?_|refine j6 (λR w' h=>by rw[<-hda];exact fK h.1.1.2) (j:=2) aa ha ?_))|refine Vz ?_))
 all_goals exact Wp.into 4 [] (amj c s x v b a sp hP agH agI agJ w ρ F) aS ⟨rfl,rfl⟩ ⟨rfl,aU,aU,λR w' h=>⟨⟨⟨h.1.1.1,lG _ _ _⟩,h.1.2⟩,h.2⟩⟩
section
variable {s s':fF} {v x:Int} {m:Option Int} {t:Int->Option Int} {i base:Nat} {y:oo} {all:List (List Int)} {c:dM}
def nC(s:fF):Nat:=s.code.length+s.ay.length+s.inputs.length+4096
def InB(N:Nat)(x:oN):Prop:=(0<=x.op/\x.op<=N)/\(0<=x.to_/\x.to_<=N)/\(0<=x.a/\x.a<=N)/\(0<=x.b/\x.b<=N)/\0<=x.k/\x.k<=N
def rJ(s:fF)(v:Int):Prop:=0<=v/\v<=nC s
structure mM(s s':fF):Prop where
 fit:∀x∈s'.code,InB (nC s') x
 le:nC s<=nC s'
theorem rJ.mono(h:rJ s v)(hl:nC s<=nC s'):rJ s' v:=⟨h.1,by have:=h.2;omega⟩
theorem rJ.small(h0:0<=v)(h:v<=4096):rJ s v:=⟨h0,by unfold nC;omega⟩
theorem InB.mono{N M:Nat}{x:oN}(h:InB N x)(hl:N<=M):InB M x:=by
 obtain⟨⟨a,b⟩,⟨c,d⟩,⟨e,f⟩,⟨g,i⟩,j,k⟩:=h
 exact⟨⟨a,by omega⟩,⟨c,by omega⟩,⟨e,by omega⟩,⟨g,by omega⟩,j,by omega⟩
theorem mM.trans{s'':fF}(h:mM s s')(k:mM s' s''):mM s s'':=⟨k.fit,Nat.le_trans h.le k.le⟩
theorem mM.here(h:mM s s'):mM s' s':=⟨h.fit,Nat.le_refl _⟩
theorem agK(s:fF)(op a b k:Int):nC (bI s op a b k).1=nC s+1:=by
 unfold nC bI;dsimp only;rw[List.length_append,List.length_singleton];omega
theorem yS{op a b k:Int}(h:mM s s)(h1:0<=op/\op<=8)(ha:rJ s a)(hb:rJ s b)(hk:rJ s k):mM s (bI s op a b k).1/\rJ (bI s op a b k).1 (bI s op a b k).2:=by
 have e:=agK s op a b k
 have hc:s.code.length<=nC s:=by unfold nC;omega
 have h8:4096<=nC s:=by unfold nC;omega
 refine⟨⟨λx hx=> ?_,by omega⟩,Int.natCast_nonneg _,by rw[e];show(s.code.length:Int)<=_;omega⟩
 rw[e]
 rcases List.mem_append.1 (show x∈s.code++[⟨op,s.code.length,a,b,k⟩]from hx)with hx|hx
 ·exact(h.fit x hx).mono aa
 ·rw[List.mem_singleton.1 hx]
  obtain⟨a1,a2⟩:=ha
  obtain⟨b1,b2⟩:=hb
  obtain⟨k1,k2⟩:=hk
  exact⟨⟨h1.1,by show op<=_;omega⟩,⟨by show(0:Int)<=(s.code.length:Int);omega,by show(s.code.length:Int)<=_;omega⟩,⟨a1,by show a<=_;omega⟩,⟨b1,by show b<=_;omega⟩,k1,by show k<=_;omega⟩
theorem Zr{r:List Int}:∀(l:List (List Int)) (k j:Nat),Cw r l k=some j->j<=k+l.length
 |[],_,_,h=>by cases h
 |x::l,k,j,h=>by
  unfold Cw at h
  split at h
  ·injection h with h;simp only[List.length_cons];omega
  ·have:=Zr l (k+1) j h;simp only[List.length_cons];omega
theorem abb(r:List Int)(h:mM s s):mM s (fZ s r).1/\rJ (fZ s r).1 (fZ s r).2:=by
 have hp:s.ay.length<=nC s:=by unfold nC;omega
 unfold fZ
 cases e:Cw r s.ay 0 with
 |some k=>exact⟨h,Int.natCast_nonneg _,by have:=Zr _ _ _ e;show(k:Int)<=(nC s:Int);omega⟩
 |none=>
  have e2:nC ⟨s.inputs,s.ay++[r],s.code⟩=nC s+1:=by unfold nC;dsimp only;rw[List.length_append,List.length_singleton];omega
  refine⟨⟨λx hx=> ?_,?_⟩,Int.natCast_nonneg _,?_⟩
  ·show InB (nC ⟨s.inputs,s.ay++[r],s.code⟩) x;rw[e2];exact(h.fit x hx).mono aa
  ·show _<=nC ⟨s.inputs,s.ay++[r],s.code⟩;omega
  ·show(s.ay.length:Int)<=nC ⟨s.inputs,s.ay++[r],s.code⟩;omega
theorem Aq(r:List Int)(op a:Int)(h:mM s s)(h1:0<=op/\op<=8)(ha:rJ s a):mM s (bI (fZ s r).1 op a 0 (fZ s r).2).1/\rJ (bI (fZ s r).1 op a 0 (fZ s r).2).1 (bI (fZ s r).1 op a 0 (fZ s r).2).2:=by
 obtain⟨p1,p2⟩:=abb r h
 obtain⟨q1,q2⟩:=yS p1.here h1 (ha.mono p1.le) (rJ.small (Int.le_refl 0) aS) p2
 exact⟨p1.trans q1,q2⟩
theorem U0{n:Nat}(h:mM s s)(hx:rJ s x):mM s (tZ n s x).1/\rJ (tZ n s x).1 (tZ n s x).2:=Aq _ 5 x h aS hx
theorem Iz(h:mM s s)(hm:∀a,m=some a->rJ s a)(hv:rJ s v):mM s (lq s m v).1/\rJ (lq s m v).1 (lq s m v).2:=by
 cases m with
 |none=>exact⟨h,hv⟩
 |some a=>exact yS h aS (hm a rfl) hv (rJ.small (Int.le_refl 0) aS)
theorem agL{n:Nat}{data sl:List Int}(h:mM s s)(hx:rJ s x):mM s (lu n s x data sl).1/\rJ (lu n s x data sl).1 (lu n s x data sl).2:=by
 rw[Q8]
 have z:∀t:fF,rJ t 0:=λt=>rJ.small (Int.le_refl 0) aS
 have g1:mM s (Zq n s x (data.getD 2 0) sl).1/\∀a,(Zq n s x (data.getD 2 0) sl).2=some a->rJ (Zq n s x (data.getD 2 0) sl).1 a:=by
  unfold Zq
  split
  ·exact⟨h,λa ha=>by cases ha⟩
  ·have q:=yS h (op:=6) aS hx hx (z s)
   split
   ·exact⟨q.1,λa ha=>by injection ha with ha;rw[<-ha];exact q.2⟩
   ·have r:=Aq (jk n sl λ_=>data.getD 2 0) 5 _ q.1.here aS q.2
    exact⟨q.1.trans r.1,λa ha=>by injection ha with ha;rw[<-ha];exact r.2⟩
 generalize Zq n s x (data.getD 2 0) sl=y at g1
 have g2:mM s (Xt n y x (data.getD 1 0) sl).1/\∀a,(Xt n y x (data.getD 1 0) sl).2=some a->rJ (Xt n y x (data.getD 1 0) sl).1 a:=by
  have hy:=hx.mono g1.1.le
  unfold Xt
  split
  ·exact g1
  ·split
   ·have q:=Iz g1.1.here g1.2 hy
    exact⟨g1.1.trans q.1,λa ha=>by injection ha with ha;rw[<-ha];exact q.2⟩
   ·have r:=Aq (jk n sl λ_=>data.getD 1 0) 5 x g1.1.here aS hy
    have q:=Iz r.1.here (λa ha=>(g1.2 a ha).mono r.1.le) r.2
    exact⟨(g1.1.trans r.1).trans q.1,λa ha=>by injection ha with ha;rw[<-ha];exact q.2⟩
 generalize Xt n y x (data.getD 1 0) sl=u at g2
 have g3:mM s (Xu n u x).1/\rJ (Xu n u x).1 (Xu n u x).2:=by
  unfold Xu
  split
  ·have q:=U0 (n:=n) g2.1.here (hx.mono g2.1.le)
   exact⟨g2.1.trans q.1,q.2⟩
  ·rename_i m e
   exact⟨g2.1,g2.2 m e⟩
 unfold pw4
 split
 ·exact g3
 ·have r:=Aq (jk n sl λ_=>data.getD 0 0) 4 _ g3.1.here aS g3.2
  exact⟨g3.1.trans r.1,r.2⟩
def Lp(s:fF)(t:Int->Option Int):Prop:=∀z a,t z=some a->rJ s a
def agM(s:fF)(m:Option Int):Prop:=∀a,m=some a->rJ s a
theorem Lp.mono(h:Lp s t)(hl:nC s<=nC s'):Lp s' t:=λz a e=>(h z a e).mono hl
theorem agM.mono(h:agM s m)(hl:nC s<=nC s'):agM s' m:=λa e=>(h a e).mono hl
theorem ae0(h:mM s s)(ht:Lp s t)(hx:rJ s x)(hi:i<=4096):mM s (qw s t x i).1/\Lp (qw s t x i).1 (qw s t x i).2.1/\rJ (qw s t x i).1 (qw s t x i).2.2:=by
 unfold qw
 split
 ·rename_i a e
  exact⟨h,ht,ht _ _ e⟩
 ·have q:=yS (op:=8) (k:=(i:Int)) h aS hx (rJ.small (Int.le_refl 0) aS) (rJ.small (Int.natCast_nonneg _) aa)
  refine⟨q.1,λz a e=> ?_,q.2⟩
  dsimp only at e
  split at e
  ·injection e with e;rw[<-e];exact q.2
  ·exact(ht z a e).mono q.1.le
structure Gs(s:fF)(y:oo):Prop where
 fit:mM s y.s
 turn:Lp y.s y.t
 sum:agM y.s y.m
theorem abd{n:Nat}{d:List Int}(h:Gs s y)(hx:rJ s x)(hi:i<=4096):Gs s (q9 n base x y i d):=by
 unfold q9
 split
 ·exact h
 ·have q:=ae0 h.fit.here h.turn (hx.mono h.fit.le) hi
  have p:=Aq (jH n base d) 5 _ q.1.here aS q.2.2
  have a:=Iz p.1.here (λb hb=>(h.sum b hb).mono (Nat.le_trans q.1.le p.1.le)) p.2
  exact⟨((h.fit.trans q.1).trans p.1).trans a.1,q.2.1.mono (Nat.le_trans p.1.le a.1.le),λb hb=>by injection hb with hb;rw[<-hb];exact a.2⟩
theorem Lr{n:Nat}(hx:rJ s x):∀(l:List (List Int)) (i:Nat) (y:oo),Gs s y->i+l.length<=4096->Gs s (mZ n base x l i y)
 |[],_,_,h,_=>h
 |d::r,i,y,h,hl=>by
  simp only[List.length_cons]at hl
  exact Lr hx r (i+1) _ (abd h hx aa) aa
theorem abe{n:Nat}{ds:List (List Int)}(h:Gs s y)(hx:rJ s x)(hb:base<=4096)(hd:ds.length<=4096):Gs s (sZ n base x y ds):=by
 have z:=Lr (n:=n) (base:=base) (hx.mono h.fit.le) ds 0 ⟨y.s,y.t,none⟩ ⟨h.fit.here,h.turn,λa e=>by cases e⟩ aa
 unfold sZ
 dsimp only
 generalize mZ n base x ds 0 ⟨y.s,y.t,none⟩=q at z
 split
 ·exact⟨h.fit.trans z.fit,z.turn,h.sum.mono z.fit.le⟩
 ·rename_i a e
  have ha:=z.sum a e
  have u:mM q.s (if 0<base then bI q.s 8 a 0 base else(q.s,a)).1/\rJ (if 0<base then bI q.s 8 a 0 base else(q.s,a)).1 (if 0<base then bI q.s 8 a 0 base else(q.s,a)).2:=by
   split
   ·exact yS z.fit.here aS ha (rJ.small (Int.le_refl 0) aS) (rJ.small (Int.natCast_nonneg _) aa)
   ·exact⟨z.fit.here,ha⟩
  generalize (if 0<base then bI q.s 8 a 0 base else(q.s,a))=u' at u
  have v:=Iz u.1.here (λb hb=>(h.sum b hb).mono (Nat.le_trans z.fit.le u.1.le)) u.2
  exact⟨((h.fit.trans z.fit).trans u.1).trans v.1,z.turn.mono (Nat.le_trans u.1.le v.1.le),λb hb=>by injection hb with hb;rw[<-hb];exact v.2⟩
theorem Ls{n g:Nat}(hx:rJ s x)(hn:n<=4096)(ha:all.length<=4096):∀(f base:Nat) (y:oo),Gs s y->Gs s (kG n g x all f base y)
 |0,_,_,h=>h
 |f+1,base,y,h=>by
  unfold kG
  split
  ·exact Ls hx hn ha f _ _ (abe h hx aa (by rw[List.length_take,List.length_drop];omega))
  ·exact h
theorem ae1{n:Nat}{giant:Bool}(h:mM s s)(hx:rJ s x)(hn:n<=4096)(ha:all.length<=4096):mM s (jl n giant s x all).1/\rJ (jl n giant s x all).1 (jl n giant s x all).2:=by
 have ht:Lp s (mG x):=λz a e=>by
  unfold mG at e
  split at e
  ·injection e with e;rw[<-e];exact hx
  ·cases e
 have z:=Ls (g:=oC giant n) hx hn ha n 0 ⟨s,mG x,none⟩ ⟨h,ht,λa e=>by cases e⟩
 unfold jl
 dsimp only
 generalize kG n (oC giant n) x all n 0 ⟨s,mG x,none⟩=y at z
 split
 ·have q:=U0 (n:=n) z.fit.here (hx.mono z.fit.le)
  exact⟨z.fit.trans q.1,q.2⟩
 ·rename_i a e
  exact⟨z.fit,z.sum a e⟩
theorem abf(lo hi:Int)(sl:List Int)(h:mM s s):mM s (lI s lo hi sl).1/\rJ (lI s lo hi sl).1 (lI s lo hi sl).2:=by
 have e:nC ⟨s.inputs++[⟨lo,hi,sl⟩],s.ay,s.code⟩=nC s+1:=by unfold nC;dsimp only;rw[List.length_append,List.length_singleton];omega
 have hI:s.inputs.length<=nC s:=by unfold nC;omega
 have h1:mM ⟨s.inputs++[⟨lo,hi,sl⟩],s.ay,s.code⟩ ⟨s.inputs++[⟨lo,hi,sl⟩],s.ay,s.code⟩:=⟨λx hx=>by rw[e];exact(h.fit x hx).mono aa,Nat.le_refl _⟩
 have z:∀t:fF,rJ t 0:=λt=>rJ.small (Int.le_refl 0) aS
 have q:=yS (op:=1) (k:=(s.inputs.length:Int)) h1 aS (z _) (z _) ⟨Int.natCast_nonneg _,by rw[e];omega⟩
 exact⟨⟨q.1.fit,Nat.le_trans aa q.1.le⟩,q.2⟩
theorem ae2{n:ai}{vl:List Int}(hn:c.slots<=4096)(h:mM s s)(hv:∀v∈vl,rJ s v):mM s (cz c n i s vl).1/\rJ (cz c n i s vl).1 (cz c n i s vl).2:=by
 have z:∀t:fF,rJ t 0:=λt=>rJ.small (Int.le_refl 0) aS
 have hg:∀k,rJ s (vl.getD k 0):=λk=>by
  by_cases hk:k<vl.length
  ·rw[List.getD_eq_getElem?_getD,List.getElem?_eq_getElem hk];exact hv _ (List.getElem_mem hk)
  ·rw[List.getD_eq_getElem?_getD,List.getElem?_eq_none aa];exact z s
 unfold cz
 repeat' split
 ·exact abf _ _ _ h
 ·exact Aq _ 2 0 h aS (z s)
 ·exact yS h aS (hg _) (hg _) (z s)
 ·exact Aq _ 5 _ h aS (hg _)
 ·exact agL h (hg _)
 ·exact⟨h,hg _⟩
 ·have q:=ae1 (n:=c.slots) (giant:=c.giant) (all:=(mK (jC (n0 n) (c.shapes.l.getD n.a.toNat fI)).1.1 (c.bH.l.getD n.a.toNat fI).xs (c.bH.l.getD i fI).xs c.slots).1) h (hg n.a.toNat) hn (Nat.le_trans (OW _ _ _ _) hn)
  unfold iq
  dsimp only
  split
  ·have r:=Aq (jk c.slots (c.bH.l.getD i fI).xs λe=>(jC (n0 n) (c.shapes.l.getD n.a.toNat fI)).1.2.getD e 0) 4 _ q.1.here aS q.2
   exact⟨q.1.trans r.1,r.2⟩
  ·exact q
theorem O4(hn:c.slots<=4096):∀(l:List ai) (i:Nat) (s:fF) (vl:List Int) (r:fF×List Int),mM s s->(∀v∈vl,rJ s v)->gZ c l i s vl=some r->mM r.1 r.1/\∀v∈r.2,rJ r.1 v
 |[],_,_,_,_,h,hv,e=>by injection e with e;rw[<-e];exact⟨h,hv⟩
 |n::l,i,s,vl,r,h,hv,e=>by
  unfold gZ at e
  split at e
  ·cases e
  ·have q:=ae2 (n:=n) (i:=i) hn h hv
   refine O4 hn l (i+1) _ _ r q.1.here (λv hv'=> ?_) e
   rcases List.mem_append.1 hv' with hv'|hv'
   ·exact(hv v hv').mono q.1.le
   ·rw[List.mem_singleton.1 hv'];exact q.2
end
section
variable {w w':World} {R:Nat->Prop}
structure aj.lies(w:World)(u:aj):Prop where
 rows:bf w u.base 1 (ints u.xs)
 a_:u.a_
structure aY.lies(w:World)(v:aY):Prop where
 rows:bf w v.base 1 (aM v.l)
 each:∀u∈v.l,u.lies w
 few:v.l.length<=1000000
theorem aj.lies.later{u:aj}(h:u.lies w)(hb:(aH w).holds R w'):u.lies w':=⟨au hb h.rows,h.a_⟩
theorem aY.lies.later{v:aY}(h:v.lies w)(hb:(aH w).holds R w'):v.lies w':=⟨au hb h.rows,λu hu=>(h.each u hu).later hb,h.few⟩
theorem yT(w:World)(x y:aY)(hx:x.lies w)(hy:y.lies w)(he:x.l.map aj.xs=y.l.map aj.xs):Calls Tryz.prog 38 #[x.val,y.val] w λe w'=>e= .returned (.bool true)/\Ext w w':=by
 have hl:x.l.length=y.l.length:=by have:=congrArg List.length he;simpa using this
 have hx1:=hx.few
 have hy1:=hy.few
 refine fq Tryz.func38 [.c x.val,.c y.val] ?_
 (repeat' ((conv=>whnf)<;>first|refine aZ ?_|refine ag ?_ ?_<;>intro _))
 all_goals(conv=>whnf)
 all_goals first|(exfalso;omega)|skip
 refine Wp.loop (σ:=Nat) 0 (λi=>[(0,.c x.val),(1,.c y.val),(13,ak x.l.length),(14,ak i)]) (λ_=>[]) (λ_=>aH w)
  (λi=>i<=x.l.length) (λi=>x.l.length-i) 0 [] aS (λ_=>⟨rfl,rfl⟩) (Nat.zero_le _) ⟨rfl,aU,trivial,λ_ _ h=>h⟩ ?_
 intro i hi
 by_cases hlt:i<x.l.length
 ·have hlt2:i<y.l.length:=by omega
  obtain⟨xa,hxa⟩:∃a,x.base=some a:=aI (j:=i) hx.rows RN
  obtain⟨ya,hya⟩:∃a,y.base=some a:=aI (j:=i) hy.rows (by rw[aR];exact hlt2)
  have hxy:x.l[i].xs=y.l[i].xs:=by
   have:=congrArg (λl:List (List Int)=>l[i]?) he
   simpa[hlt,hlt2]using this
  have PK:=dh hlt
  have hyr:=dh hlt2
  have hxs:=hx.each _ (List.getElem_mem hlt)
  have hys:=hy.each _ (List.getElem_mem hlt2)
  generalize x.l[i]=u at*
  generalize y.l[i]=v at*
  have huv:u.xs.length=v.xs.length:=congrArg List.length hxy
  have hu1:=hxs.a_.few
  (repeat' ((conv=>whnf)<;>first|(show bC ..;(first|refine ax xa i hxa rfl hlt ?_|refine ax ya i hya rfl hlt2 ?_))|(show fu ..;(first|refine aW (xs:=aM x.l) (λR w' h=>by rw[<-hxa];exact au h hx.rows) _ _ PK rfl ?_|refine aW (xs:=aM y.l) (λR w' h=>by rw[<-hya];exact au h hy.rows) _ _ hyr rfl ?_))|(show @dR _ _ _;refine cK aa ?_)|refine aZ ?_|refine ag ?_ ?_<;>intro _))
  all_goals(conv=>whnf)
  refine Wp.loop (σ:=Nat) 2 (λk=>[(0,.c x.val),(1,.c y.val),(5,ak i),(13,ak x.l.length),(14,ak i),(32,ak u.xs.length),(33,ak k)]) (λ_=>[]) (λ_=>aH w)
   (λk=>k<=u.xs.length) (λk=>u.xs.length-k) 0 [] aS (λ_=>⟨rfl,rfl⟩) (Nat.zero_le _) ⟨rfl,aU,trivial,λ_ _ h=>h⟩ ?_
  intro k hk
  by_cases hkt:k<u.xs.length
  ·have ae3:k<v.xs.length:=by omega
   obtain⟨ua,jr⟩:∃a,u.base=some a:=aI (j:=k) hxs.rows (by rw[aF];exact hkt)
   obtain⟨va,hva⟩:∃a,v.base=some a:=aI (j:=k) hys.rows (by rw[aF];exact ae3)
   obtain⟨z,hz⟩:∃z,u.xs.getD k 0=z:=⟨_,rfl⟩
   have hz2:v.xs.getD k 0=z:=by rw[<-hxy];exact hz
   (repeat' ((conv=>whnf)<;>first|(show bC ..;(first|refine ax xa i hxa rfl hlt ?_|refine ax ya i hya rfl hlt2 ?_|refine ax ua k jr rfl hkt ?_|refine ax va k hva rfl ae3 ?_))|(show fu ..;(first|refine aW (xs:=aM x.l) (λR w' h=>by rw[<-hxa];exact au h hx.rows) _ _ PK rfl ?_|refine aW (xs:=aM y.l) (λR w' h=>by rw[<-hya];exact au h hy.rows) _ _ hyr rfl ?_|refine j6 (λR w' h=>by rw[<-jr];exact au h hxs.rows) (j:=k) hkt hz ?_|refine j6 (λR w' h=>by rw[<-hva];exact au h hys.rows) (j:=k) ae3 hz2 ?_))|(show @dR _ _ _;refine cK (λh=>h rfl) ?_)|refine aZ ?_|refine ag ?_ ?_<;>intro _))
   all_goals(conv=>whnf)
   exact⟨k+1,[],hkt,by omega,rfl,aU,trivial,λ_ _ h=>h⟩
  ·(repeat' ((conv=>whnf)<;>first|refine aZ ?_|refine ag ?_ ?_<;>intro _))
   all_goals(conv=>whnf)
   exact⟨i+1,[],hlt,by omega,rfl,aU,trivial,λ_ _ h=>h⟩
 ·(repeat' ((conv=>whnf)<;>first|refine aZ ?_|refine ag ?_ ?_<;>intro _))
  all_goals(conv=>whnf)
  exact aX (λ_ _ h=>h) rfl rfl
end
abbrev aml:Go.SX.DT:=(eF [0,1,2,3,4,5,6,7,8,9,10,11,12,13,14,15,16,17,18,19,20,21,22,23,24,25,26,27,28,29,31,32,33,34,35] (.alt 30 (eF [136,137,38,39] .done) (eF [136,130,137,38,39] .done)))
theorem Lt{l:List oq}{k:Nat}(h:k<l.length):(iF l)[k]? =some l[k].cells:=by simp[iF,h]
theorem xN{w:World}{N:Nat}{R:Nat->Prop}{u:aj}{b:Option Addr}{c:Nat}(h:((eY b 1 (aM [u])).past N).holds R w)(hu:u.lies w):aY.lies w ⟨b,c,[u]⟩:=⟨aO ((eY b 1 (aM [u])).mono h (λb hb=>hb.1)),λv hv=>by rw[List.mem_singleton.1 hv];exact hu,Nat.le_of_ble_eq_true rfl⟩
theorem Q_(w:World)(xb:Option Addr)(xc:Nat)(x:List oq)(yb:Option Addr)(yc:Nat)(y:List oq)(hx:bf w xb 3 (iF x))(hy:bf w yb 3 (iF y))(hxs:∀e∈x,e.slots.lies w)(hys:∀e∈y,e.slots.lies w)(nX:x.length<=1000000)(he:x.map oq.pl=y.map oq.pl):Calls Tryz.prog 37 #[.slice xb x.length xc,.slice yb y.length yc] w λe w'=>e= .returned (.bool true)/\Ext w w':=by
 have hl:x.length=y.length:=by have:=congrArg List.length he;simpa using this
 refine fq Tryz.func37 [.c (.slice xb x.length xc),.c (.slice yb y.length yc)] ?_
 (repeat' ((conv=>whnf)<;>first|refine aN ?_|refine ag ?_ ?_<;>intro _))
 all_goals(conv=>whnf)
 all_goals first|(exfalso;omega)|skip
 refine Wp.loop (σ:=Nat) 0 (λi=>[(0,.c (.slice xb x.length xc)),(1,.c (.slice yb y.length yc)),(12,ak x.length),(13,ak i)]) (λ_=>[]) (λ_=>aH w)
  (λi=>i<=x.length) (λi=>x.length-i) 0 [] aS (λ_=>⟨rfl,rfl⟩) (Nat.zero_le _) ⟨rfl,aU,trivial,λ_ _ h=>h⟩ ?_
 intro i hi
 by_cases hlt:i<x.length
 ·have hlt2:i<y.length:=by omega
  obtain⟨xa,hxa⟩:∃a,xb=some a:=aI (j:=i) hx (by rw[mQ];exact hlt)
  obtain⟨ya,hya⟩:∃a,yb=some a:=aI (j:=i) hy (by rw[mQ];exact hlt2)
  have hxy:x[i].pl=y[i].pl:=by
   have:=congrArg (λl:List aap=>l[i]?) he
   simpa[hlt,hlt2]using this
  have PK:=Lt hlt
  have hyr:=Lt hlt2
  have hxu:=hxs _ (List.getElem_mem hlt)
  have hyu:=hys _ (List.getElem_mem hlt2)
  generalize x[i]=u at*
  generalize y[i]=v at*
  obtain⟨lo,hi',us⟩:=u
  obtain⟨lo2,hi2,vs⟩:=v
  have h1:lo=lo2:=congrArg aap.lo hxy
  have h2:hi'=hi2:=congrArg aap.hi hxy
  have h3:us.xs=vs.xs:=congrArg aap.slots hxy
  subst h1 h2
  (repeat' ((conv=>whnf)<;>first|(show jd ..;(first|refine lD (w0:=w) [us] (λR w' h=>h) rfl rfl (λb1 c1 _=> ?_)|refine lD (w0:=w) [us] (λR w' h=>h.1) rfl rfl (λb1 c1 _=> ?_)|refine lD (w0:=w) [vs] (λR w' h=>h) rfl rfl (λb2 c2 _=> ?_)|refine lD (w0:=w) [vs] (λR w' h=>h.1) rfl rfl (λb2 c2 _=> ?_)))|(show aC _ 38 ..;(first|refine aJ (f:=38) Tryz.call38 (.bool true) (λρ w' hw=>yT w' ⟨b1,c1,[us]⟩ ⟨b2,c2,[vs]⟩ (ae hw λR h=>xN h.1.2 (hxu.later h.1.1)) (ae hw λR h=>xN h.2 (hyu.later h.1.1)) (congrArg (λz=>[z]) h3)) ?_|refine aJ (f:=38) Tryz.call38 (.bool true) (λρ w' hw=>yT w' ⟨b1,c1,[us]⟩ ⟨b2,c2,[vs]⟩ (ae hw λR h=>xN h.2 (hxu.later h.1.1)) (ae hw λR h=>xN h.1.2 (hyu.later h.1.1)) (congrArg (λz=>[z]) h3)) ?_))|(show bC ..;(first|refine ax xa i hxa rfl hlt ?_|refine ax ya i hya rfl hlt2 ?_))|(show fu ..;(first|refine PS (xs:=iF x) (λR w' h=>by rw[<-hxa];exact au h hx) _ _ PK rfl ?_|refine PS (xs:=iF y) (λR w' h=>by rw[<-hya];exact au h hy) _ _ hyr rfl ?_|refine aW (xs:=iF x) (λR w' h=>by rw[<-hxa];exact au h hx) _ _ PK rfl ?_|refine aW (xs:=iF y) (λR w' h=>by rw[<-hya];exact au h hy) _ _ hyr rfl ?_))|(show @dR _ _ _;refine cK (λh=>h rfl) ?_)|(show cO _ 6 ..;refine mE [] _ aml ?_)|refine aN ?_|refine ag ?_ ?_<;>intro _|refine And.intro ?_ ?_))
  all_goals(conv=>whnf)
  all_goals exact⟨i+1,[],hlt,by omega,rfl,aU,trivial,λ_ _ h=>h.1.1⟩
 ·(repeat' ((conv=>whnf)<;>first|refine aN ?_|refine ag ?_ ?_<;>intro _))
  all_goals(conv=>whnf)
  exact aX (λ_ _ h=>h) rfl rfl
abbrev amm:Go.SX.DT:=(eF [0,1,2,3,4,5,6,107,108] .done)
section
variable {f:Int->Int->Int} {l:List Int}
theorem Lu{x:Int}{i:Nat}(h:i<l.length):(l.take (i+1)).foldl f x=f ((l.take i).foldl f x) (l.getD i 0):=by
 have e:l.getD i 0=l[i]:=by rw[List.getD_eq_getElem?_getD,List.getElem?_eq_getElem h];rfl
 rw[List.take_succ_eq_append_getElem h,List.foldl_append,e];rfl
theorem Lv(hf:∀x,f x x=x)(h:1<=l.length):l.foldl f (l.getD 0 0)=foldI f l:=by
 cases l with
 |nil=>simp at h
 |cons x r=>show(r.foldl f (f x x))=r.foldl f x;rw[hf]
theorem xO(w:World)(l:aj)(hl:l.ok w)(h1:1<=l.xs.length):Calls Tryz.prog 89 #[l.val] w λe w'=>e= .returned (jv (foldI min l.xs,foldI max l.xs))/\Ext w w':=by
 obtain⟨ua,jr⟩:=hl.base h1
 have hur:∀(R:Nat->Prop) w',(aH w).holds R w'->bf w' (some ua) 1 (ints l.xs):=λR w' h=>by rw[<-jr];exact au h hl.rows
 have hf:=hl.few
 refine fq Tryz.func89 [.c l.val] ?_
 (repeat' ((conv=>whnf)<;>first|(show bC ..;refine ax ua 0 jr rfl aa ?_)|(show fu ..;refine bO hur (j:=0) aa ?_)|(show cO _ 1 ..;refine mE [8] _ amm ?_)|refine aN ?_))
 all_goals refine Wp.loop (σ:=Nat) 2 (λi=>[(2,.lp 0 0 0 0),(3,.lp 1 0 0 0),(13,.c l.val),(14,ak l.xs.length),(15,ak i)]) (λi=>[(1,.box [ak ((l.xs.take i).foldl min (l.xs.getD 0 0)),ak ((l.xs.take i).foldl max (l.xs.getD 0 0))] 58),(0,.box [ak 0,ak 0] 58)]) (λ_=>aH w) (λi=>i<=l.xs.length) (λi=>l.xs.length-i) 0 [] aS (λs=>⟨rfl,rfl⟩) (Nat.zero_le _) ⟨rfl,aU,aU,λ_ _ h=>h⟩ ?_
 all_goals rintro i hi
 all_goals by_cases hlt:i<l.xs.length
 ·(repeat' ((conv=>whnf)<;>first|(show bC ..;refine ax ua i jr rfl hlt ?_)|(show fu ..;refine bO hur (j:=i) hlt ?_)|refine aN ?_|refine ag ?_ ?_<;>intro _))
  all_goals(conv=>whnf)
  all_goals exact⟨i+1,[],hlt,by omega,rfl,aU,⟨by rw[Lu hlt,Lu hlt];first|(rw[Int.min_eq_left aa,Int.max_eq_left aa];exact aQ)|(rw[Int.min_eq_left aa,Int.max_eq_right aa];exact aQ)|(rw[Int.min_eq_right aa,Int.max_eq_left aa];exact aQ)|(rw[Int.min_eq_right aa,Int.max_eq_right aa];exact aQ),aQ,trivial⟩,λ_ _ h=>h⟩
 ·obtain rfl:i=l.xs.length:=by omega
  rw[List.take_of_length_le (Nat.le_refl _),Lv aa h1,Lv aa h1]
  (repeat' ((conv=>whnf)<;>first|refine aN ?_|refine ag ?_ ?_<;>intro _))
  all_goals(conv=>whnf)
  all_goals exact bW (λ_ _ h=>h) (λ_=>rfl) rfl
theorem CV(w:World)(k:Int):Calls Tryz.prog 90 #[.int .i64 k] w λe w'=>e= .returned (.bool (decide (k=3\/k=4\/k=5)))/\Ext w w':=by
 refine fq Tryz.func90 [ak k] ?_
 (repeat' ((conv=>whnf)<;>first|refine aN ?_|refine ag ?_ ?_<;>intro _))
 all_goals(conv=>whnf)
 all_goals exact bW (λ_ _ h=>h) (λ_=>by first|(rw[decide_eq_true aa];rfl)|(rw[decide_eq_false aa];rfl)) rfl
theorem Lx(w:World)(c b a v:Int)(hc:bX c)(hb:bX b)(ha:bX a)(hv:bX v):Calls Tryz.prog 92 #[.int .i64 c,.int .i64 b,.int .i64 a,.int .i64 v] w λe w'=>e= .returned (.int .i64 (a*v*v+b*v+c))/\Ext w w':=by
 obtain⟨h1,h2,h3⟩:=P_ ha hb hc hv
 unfold bX at hc
 refine fq Tryz.func92 [ak c,ak b,ak a,ak v] ?_
 (repeat' ((conv=>whnf)<;>first|refine aN ?_|refine ag ?_ ?_<;>intro _))
 all_goals(conv=>whnf)
 all_goals exact bW (λ_ _ h=>h) (λ_=>rfl) rfl
end
section
variable {sh:List (List Int)} {s t tl:List Int} {cnt o N:Nat} {x:K3} {w w':World} {R:Nat->Prop}
theorem LD{cx:Cx}{f:FuncId}{args:List SV}{H:Heap}{S:bJ}{nx:Nat}{K:SV->Heap->bJ->Nat->Prop}(n:ai)(tl:List Int)(cnt:Nat)(hf:∀ar w,(callFunc f ar).run cx.P w= .ok (.enter f ar) w)
 (hc:∀ρ w',dY cx.B ρ nx H S w'->Calls cx.P f (SV.d_ ρ args).toArray w' (uk w' n tl cnt))
 (h:∀x:K3,BP n tl cnt x->K (.c x.val) H (S.and ((vG x).past cx.B.w0.heap.size)) nx):aC cx f args H S nx K:=by
 rw[gI]
 refine⟨hf,λρ w hw=>(hc ρ w hw).mono ?_⟩
 rintro e w' ⟨x,hx,rfl,he,hD⟩
 exact⟨.c x.val,ρ,H,_,nx,rfl,λ_ _=>rfl,Nat.le_refl _,SV.ji _,hw.grow he hD,h x hx⟩
theorem Zt(g:Nat->Int->Int)(B:Int):∀{l:List Int} {i:Nat},(∀k w,w∈l-> -B<=g k w/\g k w<=B)-> -(l.length*B)<=lZ g i l/\lZ g i l<=l.length*B
 |[],i,_=>by simp[lZ]
 |x::r,i,h=>by
  have h1:=h i x List.mem_cons_self
  have h2:=Zt g B (l:=r) (i:=i+1) (λk w hw=>h k w (List.mem_cons_of_mem _ hw))
  rw[lZ,List.length_cons,Int.natCast_add,Int.add_mul]
  simp only[Int.natCast_one,Int.one_mul]
  omega
theorem FI(g:Nat->Int->Int){l:List Int}{j:Nat}(hj:j<=64)(h:∀k w,w∈l-> -1099511627776<=g k w/\g k w<=1099511627776): -70368744177664<=lZ g 0 (l.take j)/\lZ g 0 (l.take j)<=70368744177664:=by
 have:=Zt g 1099511627776 (l:=l.take j) (i:=0) (λk w hw=>h k w (List.mem_of_mem_take hw))
 rw[List.length_take]at this
 have e:((min j l.length:Nat):Int)<=64:=by omega
 omega
theorem O5{n:ai}(h:eT n sh s t cnt)(hk:n.kind=3)(ho:o<cnt):o*(entries t).toNat+(entries t).toNat<=n.data.xs.length:=by
 have hsh:=h.node.shape
 have hc:=h.cnt
 obtain⟨hf,hgp⟩:=h.first (.inl hk)
 obtain⟨b1,b2⟩:=(dH h.node.form).aG hk
 unfold bM at hsh
 rw[if_neg aa,if_pos hk,hf]at hsh
 split at hsh
 ·rename_i hdl
  rw[Option.some.injEq]at hsh
  have he1:entries [(n.aG.xs.length:Int)]=n.aG.xs.length:=by
   unfold entries
   rw[if_neg fC]
   simp only[eZ]
   rw[if_neg aa]
   omega
  rw[<-hsh,he1]at hc
  obtain⟨size,hsz⟩:∃size:Nat,entries t=size:=⟨(entries t).toNat,by omega⟩
  have Qe:n.data.xs.length=n.aG.xs.length*size:=by
   rw[hsz,<-Int.natCast_mul]at hdl
   exact Int.ofNat.inj hdl
  rw[hsz,Int.toNat_natCast]
  have:(o+1)*size<=n.aG.xs.length*size:=Nat.mul_le_mul_right _ aa
  rw[Nat.add_mul,Nat.one_mul]at this
  omega
 ·cases hsh
theorem Zu{n:ai}(h:eT n sh s t cnt)(ho:o<cnt):(iH n t o).length=(entries t).toNat:=by
 unfold iH
 split
 ·rename_i hk
  have:=O5 h hk ho
  rw[List.length_take,List.length_drop];omega
 ·rw[ug,List.length_replicate]
theorem ae4{n:ai}{t:aj}(h:eT n sh s t.xs cnt)(hl:dQ n)(o:Nat):∀x∈iH n t.xs o,bX x:=by
 obtain⟨nd,nb,_,_,_⟩:=rT h.node.near
 intro x hx
 unfold iH at hx
 split at hx
 ·exact nd x (List.mem_of_mem_drop (List.mem_of_mem_take hx))
 ·rename_i hk3
  refine Qw _ _ (λy hy=>by rw[(List.mem_replicate.1 hy).2];exact⟨by decide,by decide⟩) (λu hu=> ?_) x hx
  unfold bN at hu
  rw[if_neg hk3]at hu
  split at hu
  ·exact Ue nd rfl u hu
  ·exact Uc rfl u hu
theorem IK{n:ai}(nb:∀x∈n.aG.xs,bX x)(cnt o:Nat):bX (dA n cnt o):=by
 unfold dA
 split
 ·exact dJ nb _
 ·split
  ·exact dJ nb _
  ·exact⟨by decide,by decide⟩
theorem BP.row{n:ai}(h:BP n tl cnt x)(ho:o<x.rows.l.length):x.rows.l.length=cnt/\x.rows.l[o].xs=iH n tl o/\x.aG.xs.length=cnt/\x.aG.xs.getD o 0=dA n cnt o:=by
 have h1:x.rows.l.length=cnt:=by
  have:=congrArg List.length h.rows
  simpa[yM]using this
 have h2:(x.rows.l.map aj.xs)[o]? =((List.range cnt).map (iH n tl))[o]? :=by rw[h.rows];rfl
 rw[List.getElem?_map,List.getElem?_eq_getElem ho,List.getElem?_map,List.getElem?_range aa]at h2
 have h3:x.aG.xs.length=cnt:=by rw[h.aG];simp[uj]
 refine⟨h1,by simpa using h2,h3,?_⟩
 rw[h.aG,uj,List.getD_eq_getElem?_getD,List.getElem?_map,List.getElem?_range aa];rfl
theorem BP.count{n:ai}(h:BP n tl cnt x):x.rows.l.length=cnt:=by
 have:=congrArg List.length h.rows
 simpa[yM]using this
theorem BP.Ra{n:ai}(h:BP n tl cnt x)(hno:n.ok w')(hD:((vG x).past N).holds R w'):∀u∈x.rows.l,u.ok w':=λu hu=>by
 cases hx:x.own with
 |true=>exact bP (h.a_ u hu) ((hD.2 hx).1 u hu)
 |false=>exact(h.old hx).2 w' hno.data u hu
theorem BP.Rb{n:ai}(h:BP n tl cnt x)(hno:n.ok w')(hD:((vG x).past N).holds R w'):x.aG.ok w':=by
 cases hx:x.own with
 |true=>exact bP h.xK (hD.2 hx).2
 |false=>rw[(h.old hx).1];exact hno.aG
end
section
variable {sh:List (List Int)} {s t:List Int} {cnt:Nat}
structure Zv(n:ai)(r:List (List Int)×List Int)(x:K3):Prop where
 rows:x.rows.l.map aj.xs=r.1
 aG:x.aG.xs=r.2
 a_:∀u∈x.rows.l,u.a_
 xK:x.aG.a_
 old:x.own=false->x.aG=n.aG/\∀w,n.data.ok w->∀u∈x.rows.l,u.ok w
def IL(w:World)(n:ai)(r:(List (List Int)×List Int)×Int)(e:Ending)(w':World):Prop:=
 ∃x:K3,Zv n r.1 x/\e= .returned (.tuple #[x.rows.val,x.aG.val,.int .i64 r.2])/\Ext w w'/\(vG x).holds (λb=>w.heap.size<=b/\b<w'.heap.size) w'
theorem Xv{n:ai}(h:eT n sh s t cnt)(hl:dQ n){o:Nat}(ho:o<cnt):(iH n t o).length=(entries t).toNat:=by
 unfold iH
 split
 ·rename_i hk
  have:=O5 h hk ho
  rw[List.length_take,List.length_drop];omega
 ·rw[ug,List.length_replicate]
theorem abg{n:ai}(h:eT n sh s t cnt)(hl:dQ n):yM n t cnt=tJ n t cnt:=by
 have h9:n.kind≠9:=by rcases hl with g|g|g<;>omega
 have hb:=dL t
 unfold yM tJ
 refine List.map_congr_left λo ho=> ?_
 have ho':=List.mem_range.1 ho
 have hl1:=Xv h hl ho'
 apply List.ext_getElem
 ·rw[hl1,jQ]
 ·intro i h1 h2
  rw[jQ]at h2
  have:=W_ h hl (o:=o) (i:=i) aa
  have e1:(iH n t o).getD i 0=(iH n t o)[i]:=by simp[List.getD,h1]
  rw[e1]at this
  rw[this]
  simp[D9,h9]
def ko(E o:Nat):List Int:=(List.replicate E 0).set o 1
theorem Xw{n:ai}(h9:n.kind=9){E:Nat}(hE:(entries t).toNat=E):tJ n t E=(List.range E).map (ko E):=by
 unfold tJ
 refine List.map_congr_left λo ho=> ?_
 apply List.ext_getElem
 ·rw[jQ,hE];simp[ko]
 ·intro i h1 h2
  rw[jQ,hE]at h1
  have e:(D9 n t o)[i]=QW o i:=by simp[D9,h9]
  rw[e]
  have e2:(ko E o)[i]=if o=i then 1 else 0:=by
   simp only[ko,List.getElem_set]
   split
   ·rfl
   ·simp
  rw[e2]
  unfold QW
  by_cases g:o=i
  ·rw[if_pos (by rw[g]),if_pos g]
  ·rw[if_neg aa,if_neg g]
theorem abh{n:ai}(h9:n.kind=9)(E:Nat):(List.range E).map (dA n E)=List.replicate E 0:=by
 apply List.ext_getElem
 ·simp
 ·intro i h1 h2
  simp[dA,h9]
theorem ae5{n:ai}(h:RowsIn n t s cnt)(ha:n.a=0)(h9:n.kind=9):(entries t).toNat=cnt:=by
 have hsh:=h.place.node.shape
 have hc:=h.place.cnt
 unfold bM at hsh
 rw[if_neg aa,if_neg aa,if_neg aa,if_neg aa,if_neg aa,if_pos h9,ha]at hsh
 split at hsh
 ·rename_i he
  have:n.shape.xs=s:=Option.some.inj hsh
  rw[this]at he
  have e2:([t]:List (List Int)).getD (Int.toNat 0) []=t:=rfl
  rw[e2]at he
  omega
 ·cases hsh
end
abbrev amn:Go.SX.DT:=(eF [0,1,3,102,4,5] .done)
theorem Gt{w w':World}{n:ai}{r:(List (List Int)×List Int)×Int}{e:Ending}(h:qI w r e w'):IL w n r e w':=by
 obtain⟨x,y,⟨h1,h2,h3⟩,h4,h5,h6,h7⟩:=h
 exact⟨⟨x,y,true⟩,⟨h1.rows,h2,h1.a_,h3,λe=>(by cases e)⟩,h4,h5,h6.1,λ_=>⟨h6.2,h7⟩⟩
theorem Xx(w:World)(n:ai)(t:aj)(hn:n.ok w)(hsm:n.small)(ht:t.ok w)(hno:¬nu n t):Calls Tryz.prog 85 #[n.jS,t.val] w (qI w (jC n t)):=by
 by_cases hk:(dQ n\/n.kind=9)/\n.a=0
 ·have hkk:=hk
  unfold dQ at hk
  refine fq Tryz.func85 [.agg (jM n),.c t.val] ?_
  (repeat' ((conv=>whnf)<;>first|refine qP ?_|refine ag ?_ ?_<;>intro _))
  all_goals first|(exfalso;omega)|skip
  all_goals
   (repeat' ((conv=>whnf)<;>first|refine qP ?_|refine ag ?_ ?_<;>intro _))
   refine kU 0 (λ_ _ _ _ hb=>absurd hb (Nat.not_lt_zero _)) (λl1 hl1=> ?_)
   (repeat' ((conv=>whnf)<;>first|(show aC _ 34 ..;(refine v_ (f:=34) (vH n t) Tryz.call34 (λρ w' hw=>by have:=nJ w' ⟨l1.base,l1.cap,[inpN t,n],1⟩ (ae hw λR h=>K8 (hn.later h.1) hsm (ht.later h.1) h.2);rw[D_]at this;exact this) (λhne=> ?_) (λhe sv hm hsv hsb=>absurd ⟨hkk.1,hkk.2,he⟩ hno)))|(show @dR _ _ _;(first|refine bA aa ?_|refine cK (λh=>h rfl) ?_))|refine qP ?_))
   all_goals(conv=>whnf)
   all_goals first|exact uI hno (λ_ _ h=>h.1) rfl|exact uI hno (λ_ _ h=>h.1.1) rfl
 ·unfold dQ at hk
  refine fq Tryz.func85 [.agg (jM n),.c t.val] ?_
  (repeat' ((conv=>whnf)<;>first|refine qP ?_|refine ag ?_ ?_<;>intro _))
  all_goals first|(exfalso;omega)|skip
  all_goals(conv=>whnf)
  all_goals first|(exfalso;omega)|exact uI hno (λ_ _ h=>h) rfl
theorem U1(w:World)(n:ai)(t:aj)(hn:n.ok w)(hsm:n.small)(ht:t.ok w)(hok:nu n t)(hl:dQ n):Calls Tryz.prog 85 #[n.jS,t.val] w (IL w n (jC n t)):=by
 obtain⟨s,hsh,hcs,hR⟩:=DU hok
 rw[jC,if_pos hok]
 obtain⟨cnt,hce⟩:∃c,wI n t=c:=⟨_,rfl⟩
 rw[hce]at hcs hR|-
 have ha:=hok.2.1
 have hl':=hl
 unfold dQ at hl'
 refine fq Tryz.func85 [.agg (jM n),.c t.val] ?_
 (repeat' ((conv=>whnf)<;>first|refine qP ?_|refine ag ?_ ?_<;>intro _))
 all_goals first|(exfalso;omega)|skip
 all_goals
  (repeat' ((conv=>whnf)<;>first|refine qP ?_|refine ag ?_ ?_<;>intro _))
  refine kU 0 (λ_ _ _ _ hb=>absurd hb (Nat.not_lt_zero _)) (λl1 hl1=> ?_)
  (repeat' ((conv=>whnf)<;>first|(show aC _ 34 ..;(refine v_ (f:=34) (vH n t) Tryz.call34 (λρ w' hw=>by have:=nJ w' ⟨l1.base,l1.cap,[inpN t,n],1⟩ (ae hw λR h=>K8 (hn.later h.1) hsm (ht.later h.1) h.2);rw[D_]at this;exact this) (λhne=>absurd hok.2.2 hne) (λhe sv hm hsv hsb=> ?_)))|(show @dR _ _ _;(first|refine bA aa ?_|refine cK (λh=>h rfl) ?_))|(show aC _ 91 ..;refine LD n t.xs cnt Tryz.call91 (λρ w' hw=>QV w' n [t.xs] s t cnt hR.place hl (ae hw λR h=>hn.later h.1.1) (ae hw λR h=>ht.later h.1.1)) (λx hx=> ?_))|refine qP ?_))
  all_goals(conv=>whnf)
  refine dz λρ w' hw=>⟨x,⟨by rw[hx.rows];exact abg hR.place hl,hx.aG,hx.a_,hx.xK,hx.old⟩,rfl,aV hw (λ_ _ h=>h.1.1.1),oh hw λR w' h=>h.2⟩
section
variable {E o:Nat} {L:List iX} {l:SX.Loc}
structure Bj(E o:Nat)(L:List iX):Prop where
 len:L.length=E
 is:∀k p,L[k]? =some p->if k<o then(∃b off,p.1.base=some ⟨b,off,none⟩)/\E<=p.1.cap/\p.2=ko E k else p=(⟨none,0⟩,[])
theorem Bj.next(h:Bj E o L)(ho:o<E)(hl:∃b off,l.base=some ⟨b,off,none⟩)(hc:E<=l.cap):Bj E (o+1) (L.set o (l,ko E o)):=by
 refine⟨by rw[List.length_set];exact h.len,λk p hp=> ?_⟩
 rw[List.getElem?_set]at hp
 by_cases e:o=k
 ·rw[if_pos e,if_pos (by rw[h.len];exact ho)]at hp
  have:(l,ko E o)=p:=by simpa using hp
  subst this
  rw[if_pos aa]
  exact⟨hl,hc,by rw[e]⟩
 ·rw[if_neg e]at hp
  have:=h.is k p hp
  by_cases g:k<o
  ·rw[if_pos g]at this;rw[if_pos aa];exact this
  ·rw[if_neg g]at this;rw[if_neg aa];exact this
theorem Bj.take{x:List Int}(h:Bj E o L)(ho:o<E):(L.set o (l,x)).take (o+1)=L.take o++[(l,x)]:=by
 have hl:o<L.length:=by rw[h.len];exact ho
 rw[List.take_succ_eq_append_getElem (by rw[List.length_set];exact hl),List.getElem_set_self,List.take_set_of_le (Nat.le_refl _)]
theorem Xy(L:List iX)(l:SX.Loc)(x:List Int){m k:Nat}(hm:m=L.length)(hk:k=x.length){i:Nat}{T:TypeId}{H:Heap}:(i,bU.rows (gF (L++[(l,x)])) 1 T)∈(i,bU.rows (List.take m (gF L)++[[.slice l.base k l.cap]]) 1 T)::H:=by
 subst hm hk
 rw[show gF (L++[(l,x)])=List.take L.length (gF L)++[[.slice l.base x.length l.cap]] by rw[List.take_of_length_le (by rw[uf];exact Nat.le_refl _)];simp[gF,Hr]]
 exact List.mem_cons_self
theorem Xz(b off k:Nat):(⟨b,off,none⟩:Addr).add (k*1)=⟨b,off+k,none⟩:=by simp[Addr.add]
theorem wm(E o:Nat):(ko E o).length=E:=by simp[ko]
theorem Rc(w:World)(n:ai)(t:aj)(hn:n.ok w)(hsm:n.small)(ht:t.ok w)(hok:nu n t)(h9:n.kind=9):Calls Tryz.prog 85 #[n.jS,t.val] w (qI w (jC n t)):=by
 obtain⟨s,hsh,hcs,hR⟩:=DU hok
 have hfc:=ae5 hR hok.2.1 h9
 rw[jC,if_pos hok]
 obtain⟨E,hce⟩:∃c,wI n t=c:=⟨_,rfl⟩
 rw[hce]at hcs hR hfc|-
 have ha:=hok.2.1
 have hcnt:=hR.place.few
 have hE:entries t.xs=(E:Int):=by have:=hR.size;omega
 rw[Xw h9 hfc,abh h9]
 refine fq Tryz.func85 [.agg (jM n),.c t.val] ?_
 (repeat' ((conv=>whnf)<;>first|refine qP ?_|refine ag ?_ ?_<;>intro _))
 all_goals first|(exfalso;omega)|skip
 (repeat' ((conv=>whnf)<;>first|refine qP ?_|refine ag ?_ ?_<;>intro _))
 refine kU 0 (λ_ _ _ _ hb=>absurd hb (Nat.not_lt_zero _)) (λl1 hl1=> ?_)
 (repeat' ((conv=>whnf)<;>first|(show aC _ 34 ..;(refine v_ (f:=34) (vH n t) Tryz.call34 (λρ w' hw=>by have:=nJ w' ⟨l1.base,l1.cap,[inpN t,n],1⟩ (ae hw λR h=>K8 (hn.later h.1) hsm (ht.later h.1) h.2);rw[D_]at this;exact this) (λhne=>absurd hok.2.2 hne) (λhe sv hm hsv hsb=> ?_)))|(show @dR _ _ _;(first|refine bA aa ?_|refine cK (λh=>h rfl) ?_|refine cK (λh=>h h9) ?_))|(show aC _ 42 ..;(refine aJ (f:=42) Tryz.call42 (.int .i64 (E:Nat)) (λρ w' hw=>by have:=gT w' t.base t.cap t.xs (ae hw λR h=>au h.1.1 ht.rows);rw[hE]at this;exact this) ?_))|refine qP ?_))
 all_goals(conv=>whnf)
 refine Wp.grp 3 E ?_
 refine Wp.loop (σ:=Nat×List iX) 6 (λx=>[(12,ak (E:Nat)),(13,.os 5 x.1),(14,ak x.1)]) (λx=>[(5,.rows (gF (x.2.take x.1)) 1 32),(3,.ext (mh 3 (kr x.2)))]) (λ_=>aH w)
  (λx=>x.1<=E/\Bj E x.1 x.2) (λx=>E-x.1) (0,xI E) [(5,none)] aS (λ_=>⟨rfl,rfl⟩)
  ⟨Nat.zero_le _,by simp[xI],λk p hp=>by rw[if_neg (Nat.not_lt_zero k)];exact(List.mem_replicate.1 (List.mem_of_getElem? hp)).2⟩ ⟨rfl,aU,⟨rfl,?_,trivial⟩,λ_ _ h=>h.1.1⟩ ?_
 ·show(3,bU.ext (mh 3 (kr (xI E))))∈_
  rw[KT]
  exact aQ
 rintro⟨o,L⟩ ⟨ho,hL⟩
 dsimp only at ho hL
 by_cases hoE:o<E
 ·have hoL:o<L.length:=by rw[hL.len];exact hoE
  have hq:L[o]? =some (⟨none,0⟩,[]):=by
   have h1:L[o]? =some L[o]:=List.getElem?_eq_getElem hoL
   have:=hL.is o _ h1
   rw[if_neg (Nat.lt_irrefl o)]at this
   rw[h1,this]
  (repeat' ((conv=>whnf)<;>first|(show kv ..;(refine g_ E rfl rfl xY aa ?_))|refine qP ?_|refine ag ?_ ?_<;>intro _))
  all_goals(conv=>whnf)
  refine Fs (T:=3) (g:=3) (d:=o) (us:=[]) (l0:=⟨none,0⟩) (L:=kr L) (vs:=List.replicate E (.int .i64 0)) ?_ (z_ hq) rfl rfl (by rw[qF,List.map_replicate]) VL (λl hlc hlb=> ?_)
  ·exact aQ
  rw[List.length_replicate]at hlc
  have hnext:=hL.next hoE hlb hlc
  have htake:=hL.take (l:=l) (x:=ko E o) hoE
  obtain⟨b,off,hlb⟩:=hlb
  have hgs:((kr L).set o (l,List.replicate E (.int .i64 0)))[o]? =some (l,List.replicate E (.int .i64 0)):=List.getElem?_set_self (by rw[kr,List.length_map];exact hoL)
  have eg:kr (L.set o (l,ko E o))=((kr L).set o (l,List.replicate E (.int .i64 0))).set o (l,(List.replicate E (Value.int .i64 0)).set o (.int .i64 1)):=by
   rw[Aa,List.set_set];simp[ko,List.map_set]
  (repeat' ((conv=>whnf)<;>first|(show bC ..;refine ax ⟨b,off,none⟩ o hlb rfl aa ?_)|(show wrK ..;(refine KG (g:=3) (d:=o) (s:=o) (l:=l) (vs:=List.replicate E (.int .i64 0)) (List.mem_cons_of_mem _ List.mem_cons_self:(3,bU.ext (mh 3 ((kr L).set o (l,List.replicate E (.int .i64 0)))))∈[(5,bU.rows (gF (L.take o)) 1 32),(3,bU.ext (mh 3 ((kr L).set o (l,List.replicate E (.int .i64 0)))))]) hgs hlb VL (Xz b off o) ?_))|(show sH ..;(refine fO (by first|exact Nat.le_refl _|(rw[uf,List.length_take];exact Nat.le_min.2 ⟨Nat.le_refl _,Nat.le_of_lt hoL⟩)) ?_))|(show fG ..;(first|refine b_ (show(o+1)*24<=140737488355328 by omega) ?_|refine b_ (show 1*24<=140737488355328 by decide) ?_))|refine aN ?_))
  all_goals(conv=>whnf)
  refine⟨(o+1,L.set o (l,ko E o)),[(5,some 8)],⟨hoE,hnext⟩,by show E-(o+1)<E-o;omega,rfl,aU,⟨?_,?_,trivial⟩,λ_ _ h=>h⟩
  ·show(8,bU.rows (gF ((L.set o (l,ko E o)).take (o+1))) 1 32)∈_
   rw[htake]
   exact Xy _ _ _ (by rw[List.length_take];exact(Nat.min_eq_left (Nat.le_of_lt hoL)).symm) (wm E o).symm
  ·show(3,bU.ext (mh 3 (kr (L.set o (l,ko E o)))))∈_
   rw[eg]
   exact aQ
 ·have hoe:o=E:=by omega
  subst hoe
  have htk:L.take o=L:=List.take_of_length_le (by rw[hL.len];exact Nat.le_refl _)
  rw[htk]
  have hall:∀p∈L,∃k,k<o/\(∃b off,p.1.base=some ⟨b,off,none⟩)/\o<=p.1.cap/\p.2=ko o k:=λp hp=>by
   obtain⟨k,hk⟩:=List.mem_iff_getElem?.1 hp
   have hkl:=(List.getElem?_eq_some_iff.1 hk).1
   rw[hL.len]at hkl
   have:=hL.is k p hk
   rw[if_pos hkl]at this
   exact⟨k,hkl,this⟩
  have hrows:L.map Prod.snd=(List.range o).map (ko o):=by
   apply List.ext_getElem
   ·simp[hL.len]
   ·intro k h1 h2
    have hk:k<L.length:=by simpa using h1
    have:=hL.is k _ (List.getElem?_eq_getElem hk)
    rw[if_pos (by rw[<-hL.len];exact hk)]at this
    simp[this.2.2]
  have hfl:∀k,∀x∈ko o k,i64 x:=λk x hx=>by
   rcases List.mem_or_eq_of_mem_set hx with hx|hx
   ·rw[(List.mem_replicate.1 hx).2];exact⟨by decide,by decide⟩
   ·rw[hx];exact⟨by decide,by decide⟩
  (repeat' ((conv=>whnf)<;>first|(show kv ..;(refine g_ o rfl rfl xY aa ?_))|(show cO _ 18 ..;refine mE [] _ amn ?_)|refine aN ?_|refine ag ?_ ?_<;>intro _))
  all_goals(conv=>whnf)
  exact Ul (i:=5) (g:=3) (j:=6) (bs:=List.replicate o 0) (λ_ _ h=>h) rfl (λp hp=>by obtain⟨k,hk,h1,h2,h3⟩:=hall p hp;exact .inr ⟨h1,λe=>by rw[e]at h3;have:=congrArg List.length h3;rw[wm]at this;simp at this;omega,by rw[h3,wm];exact h2⟩) (λp hp=>by obtain⟨k,hk,h1,h2,h3⟩:=hall p hp;rw[h3];exact⟨hfl k,by rw[wm];omega⟩) hL.len.symm fC (λx hx=>by rw[(List.mem_replicate.1 hx).2];exact⟨by decide,by decide⟩) wy aQ aQ (by rw[show ints (List.replicate o 0)=List.replicate o [Value.int .i64 0] by simp[ints]];exact aQ) (by rw[hrows])
theorem U2(w:World)(n:ai)(t:aj)(hn:n.ok w)(hsm:n.small)(ht:t.ok w):Calls Tryz.prog 85 #[n.jS,t.val] w (IL w n (jC n t)):=by
 by_cases hok:nu n t
 ·rcases hok.1 with hl|h9
  ·exact U1 w n t hn hsm ht hok hl
  ·exact(Rc w n t hn hsm ht hok h9).mono λe w' h=>Gt h
 ·exact(Xx w n t hn hsm ht hok).mono λe w' h=>Gt h
end
theorem Re{cx:Cx}{f:FuncId}{args:List SV}{H:Heap}{S:bJ}{nx:Nat}{K:SV->Heap->bJ->Nat->Prop}(n:ai)(r:(List (List Int)×List Int)×Int)(hf:∀ar w,(callFunc f ar).run cx.P w= .ok (.enter f ar) w)
 (hc:∀ρ w,dY cx.B ρ nx H S w->Calls cx.P f (SV.d_ ρ args).toArray w (IL w n r)) (h:∀x:K3,Zv n r.1 x->K (.c (.tuple #[x.rows.val,x.aG.val,.int .i64 r.2])) H (S.and ((vG x).past cx.B.w0.heap.size)) nx):aC cx f args H S nx K:=by
 refine gP hf (λx:K3=> .tuple #[x.rows.val,x.aG.val,.int .i64 r.2]) vG (λx=>Zv n r.1 x) (λρ w' hw=>(hc ρ w' hw).mono ?_) (λx hx=>h x hx)
 rintro e w2 ⟨x,h1,h2,h3,h4⟩
 exact⟨x,h1,h2,h3,h4⟩
theorem abj(n:ai)(t:aj):(jC n t).1.1.length<=1000000:=by
 unfold jC
 split
 ·rename_i h
  obtain⟨s,hsh,hcs,hR⟩:=DU h
  have:=hR.place.few
  simp[tJ];omega
 ·simp
theorem agN{n:ai}{r:List (List Int)×List Int}{x:K3}{R:Nat->Prop}{w:World}(hx:Zv n r x)(hl:r.1.length<=1000000)(hn:n.ok w)(h:(vG x).holds R w):x.rows.okB w/\x.aG.ok w:=by
 have hlen:x.rows.l.length<=1000000:=by have:=congrArg List.length hx.rows;rw[List.length_map]at this;omega
 by_cases ho:x.own=true
 ·exact⟨⟨aO h.1,λu hu=>bP (hx.a_ u hu) ((h.2 ho).1 u hu),hlen⟩,bP hx.xK (h.2 ho).2⟩
 ·obtain⟨h1,h2⟩:=hx.old (by simpa using ho)
  exact⟨⟨aO h.1,λu hu=>h2 w hn.data u hu,hlen⟩,by rw[h1];exact hn.aG⟩
abbrev amo:Go.SX.DT:=(eF [0,1,2,3,4,5,6,7,108,109,10] .done)
abbrev amq:Go.SX.DT:=(eF [0,1,2,3,4,5,6,7,8,9,10,11,12,13,14,115,116,117,118,19,120] .done)
abbrev amr:Go.SX.DT:=(eF [0,1,2,3,4,5,6,7,8,9,10,11,12,113,114,15] .done)
abbrev ams:Go.SX.DT:=(eF [0,1,2,3,4,5,6,7,8,9,10,11,112,13] .done)
section
variable {d sl:List Int}
abbrev vI(c:dM)(s:cZ)(vl:List Int):Heap:=(1,.rows (ints vl) 1 3)::FC c s 0 2 3 4
abbrev sG(w:World)(ρ:Nat->SX.Loc)(F:Nat->Prop)(c:dM)(s:cZ)(vl:List Int)(r:fF×Int):=yH w ρ F 2 5 (λx:cZ×Int=>ak x.2) (λx=>vI c x.1 vl) (λx=>D6 s.ay x.1.ay) (λx=>x.1.pl=r.1/\x.2=r.2/\sw c x.1)
theorem U3{n:Nat}(h:sl.length<=d.length):jk n sl (λe=>d.getD (e%d.length) 0)=jk n sl (λe=>d.getD e 0):=wK (λk hk=>by rw[Nat.mod_eq_of_lt aa])
theorem mod_one{n:Nat}(h:d.length=1):jk n sl (λe=>d.getD (e%d.length) 0)=jk n sl (λ_=>d.getD 0 0):=wK (λk hk=>by rw[h,Nat.mod_one])
theorem abk{cx:Cx}{f:FuncId}{args:List SV}{H:Heap}{S:bJ}{nx:Nat}{K:SV->Heap->bJ->Nat->Prop}{α:Type}(θ:Map)(c:dM)(s:cZ)(A:bJ)(nT:List SV)(val:α->SV)(s':α->cZ)(D:α->bJ)(p:α->Prop)
 (hf:∀ar w,(callFunc f ar).run cx.P w= .ok (.enter f ar) w) (hm:vR 0 θ (lQ c s)=true) (hin:kL θ H (lQ c s)) (h0:∃j,θ.app 0=some j) (ha:args=SV.tQ θ.app nT) (hA:∀R w,S.holds R w->A.holds R w) (G:Nat->Prop) (hG:∀R w,S.holds R w->∀b,G b->R b)
 (hc:∀w ρ F,iW w ρ F 1 4 (lQ c s) A->Calls cx.P f (SV.d_ ρ nT).toArray w (wh w ρ F val (λx=>lQ c (s' x)) D p))
 (h:∀x,p x->K ((val x).ren (xA 1 nx θ)) (tF θ (lQ c s) H++MC (xA 1 nx θ) (lQ c (s' x))) (S.and ((D x).off G)) (nx+4)):aC cx f args H S nx K:=by
 refine zV θ 1 4 (lQ c s) A nT val (λx=>lQ c (s' x)) D p hf hm rfl hin (λi hi=> ?_) aS ha hA G hG hc h
 obtain rfl:i=0:=by omega
 obtain⟨j,hj⟩:=h0
 exact⟨j,_,hj,aQ⟩
theorem abl(c:dM)(s:cZ)(vl:List Int)(n:ai)(i:Nat)(hk:n.kind=2)(hN:lH c s vl)(sp:aj)(hi:c.bH.l[i]? =some sp)(zb:sp.a_)(hb:∀x∈sp.xs,0<=x/\x<c.slots)(hd:sp.xs.length<=n.data.xs.length)(hd0:0<n.data.xs.length)(hds:n.data.a_)(w:World)(ρ:Nat->SX.Loc)(F:Nat->Prop)(h:iW w ρ F 2 5 (vI c s vl) (rH c s n)):
 Calls Tryz.prog 36 (SV.d_ ρ [.lp 0 0 0 0,.agg (jM n),ak i,.c c.shapes.val,.c c.bH.val,.os 1 vl.length]).toArray w (sG w ρ F c s vl (bI (bg c.slots s.pl sp.xs (λe=>n.data.xs.getD e 0)).1 2 0 0 (bg c.slots s.pl sp.xs (λe=>n.data.xs.getD e 0)).2)):=by
 have hcl:=hN.lM
 have hpl:=hN.qM
 have hil:=hN.Ho
 refine Es Tryz.func36 (mq 2 ρ) ρ [.lp 0 0 0 0,.agg (jM n),ak i,.c c.shapes.val,.c c.bH.val,.os 1 vl.length] (vI c s vl) ((rH c s n).and (f_ w F)) 5 h.abs ?_
 have VJ:=(List.getElem?_eq_some_iff.1 hi).1
 have hrow:(aM c.bH.l)[i]? =some [sp.val]:=by unfold aM;rw[List.getElem?_map,hi];rfl
 refine Wp.know (p:=∃a,c.bH.base=some a) (λρ w' hw=>ae hw λR h=>aI (j:=i) (aO h.1.1.1.2.1) acz) ?_
 rintro⟨sa,hsa⟩
 (repeat' ((conv=>whnf)<;>first|(show cO _ 6 ..;refine mE [] [(5,.box (cs n.cells) 41)] amo ?_ (h6:=List.Sublist.cons_cons _ (List.nil_sublist _)))|refine X4 ?_|refine X5 ?_|refine X6 ?_|(refine ag9 ?_;intro m ⟨hm,hms⟩)|(show aC _ 82 ..;(refine dK [(5,.box (cs n.cells) 41),(1,.rows (ints vl) 1 3)] 0 7 8 9 c (az s m).1 dW [.lp 0 0 0 0,ak 2,ak 0,ak 0,ak (az s m).2] _ _ _ _ Tryz.call82 rfl rfl rfl (λR w' h=>trivial) (dU w F) (λR w' h b hb=>(h.1.2 b hb).1) (λw' ρ' F' h'=>l8 c (az s m).1 2 0 0 (az s m).2 RQ w' ρ' F' h') (λ_ _=> ?_)))|refine aZ ?_|refine ag ?_ ?_<;>intro _))
 all_goals(conv=>whnf)
 have hS:=h_ (s:=s) (hm.trans (U3 hd))
 rw[hS]
 all_goals exact eU _ _ _ _ (cu (az s m).1 2 0 0 (az s m).2,((az s m).1.code.length:Int)) [(2,some 11),(3,some 12),(4,some 13)] ⟨rfl,rfl,qA (nN hN.ok hms) _ _ _ _⟩ aS rfl rfl rfl rfl aU (λR w' h=>⟨h.1.1.2,qC h.1.2⟩)
theorem agO(c:dM)(s:cZ)(vl:List Int)(n:ai)(i:Nat)(hk:n.kind=6)(hN:lH c s vl)(h0:0<=n.a/\0<=n.b)(ha:n.a.toNat<vl.length)(hb:n.b.toNat<vl.length)(w:World)(ρ:Nat->SX.Loc)(F:Nat->Prop)(h:iW w ρ F 2 5 (vI c s vl) (rH c s n)):
 Calls Tryz.prog 36 (SV.d_ ρ [.lp 0 0 0 0,.agg (jM n),ak i,.c c.shapes.val,.c c.bH.val,.os 1 vl.length]).toArray w (sG w ρ F c s vl (bI s.pl 3 (vl.getD n.a.toNat 0) (vl.getD n.b.toNat 0) 0)):=by
 have hcl:=hN.lM
 have hpl:=hN.qM
 have hil:=hN.Ho
 refine Es Tryz.func36 (mq 2 ρ) ρ [.lp 0 0 0 0,.agg (jM n),ak i,.c c.shapes.val,.c c.bH.val,.os 1 vl.length] (vI c s vl) ((rH c s n).and (f_ w F)) 5 h.abs ?_
 (repeat' ((conv=>whnf)<;>first|(show cO _ 8 ..;refine mE [] [(5,.box (cs n.cells) 41),(1,.rows (ints vl) 1 3)] aii ?_ (h6:=List.Sublist.cons_cons _ (List.Sublist.cons_cons _ (List.nil_sublist _))))|refine X4 ?_|(show bV ..;(first|refine aT n.a.toNat aa ha zf ?_|refine aT n.b.toNat aa hb zf ?_))|(show kC ..;(first|refine lY ha ?_|refine lY hb ?_))|(show aC _ 82 ..;refine dK [(5,.box (cs n.cells) 41),(1,.rows (ints vl) 1 3)] 0 2 3 4 c s dW [.lp 0 0 0 0,ak 3,ak (vl.getD n.a.toNat 0),ak (vl.getD n.b.toNat 0),ak 0] _ _ _ _ Tryz.call82 rfl rfl rfl (λR w' h=>trivial) (dU w F) (λR w' h b hb=>(h.2 b hb).1) (λw' ρ' F' h'=>l8 c s 3 (vl.getD n.a.toNat 0) (vl.getD n.b.toNat 0) 0 aa w' ρ' F' h') (λ_ _=> ?_))|refine aZ ?_|refine ag ?_ ?_<;>intro _))
 all_goals(conv=>whnf)
 all_goals exact eU _ _ _ _ (cu s 3 (vl.getD n.a.toNat 0) (vl.getD n.b.toNat 0) 0,(s.code.length:Int)) [(2,some 7),(3,some 8),(4,some 9)] ⟨rfl,rfl,qA hN.ok _ _ _ _⟩ aS rfl rfl rfl rfl aU (λR w' h=>⟨h.1.2,lG _ _ _⟩)
theorem XA(c:dM)(s:cZ)(vl:List Int)(n:ai)(i:Nat)(hk:n.kind=7)(hN:lH c s vl)(h0:0<=n.a)(ha:n.a.toNat<vl.length)(sp:aj)(hi:c.bH.l[i]? =some sp)(zb:sp.a_)(hb:∀x∈sp.xs,0<=x/\x<c.slots)(hd:n.data.xs.length=1)(hds:n.data.a_)(w:World)(ρ:Nat->SX.Loc)(F:Nat->Prop)(h:iW w ρ F 2 5 (vI c s vl) (rH c s n)):
 Calls Tryz.prog 36 (SV.d_ ρ [.lp 0 0 0 0,.agg (jM n),ak i,.c c.shapes.val,.c c.bH.val,.os 1 vl.length]).toArray w (sG w ρ F c s vl (bI (bg c.slots s.pl sp.xs (λ_=>n.data.xs.getD 0 0)).1 5 (vl.getD n.a.toNat 0) 0 (bg c.slots s.pl sp.xs (λ_=>n.data.xs.getD 0 0)).2)):=by
 have hd0:0<n.data.xs.length:=by omega
 have hcl:=hN.lM
 have hpl:=hN.qM
 have hil:=hN.Ho
 refine Es Tryz.func36 (mq 2 ρ) ρ [.lp 0 0 0 0,.agg (jM n),ak i,.c c.shapes.val,.c c.bH.val,.os 1 vl.length] (vI c s vl) ((rH c s n).and (f_ w F)) 5 h.abs ?_
 have VJ:=(List.getElem?_eq_some_iff.1 hi).1
 have hrow:(aM c.bH.l)[i]? =some [sp.val]:=by unfold aM;rw[List.getElem?_map,hi];rfl
 refine Wp.know (p:=∃a,c.bH.base=some a) (λρ w' hw=>ae hw λR h=>aI (j:=i) (aO h.1.1.1.2.1) acz) ?_
 rintro⟨sa,hsa⟩
 (repeat' ((conv=>whnf)<;>first|(show cO _ 10 ..;refine mE [] [(5,.box (cs n.cells) 41),(1,.rows (ints vl) 1 3)] amr ?_ (h6:=List.Sublist.cons_cons _ (List.Sublist.cons_cons _ (List.nil_sublist _))))|refine X4 ?_|refine X5 ?_|refine X6 ?_|refine ab5 ?_|(show kC ..;refine lY ha ?_)|(refine ag9 ?_;intro m ⟨hm,hms⟩)|(show aC _ 82 ..;(refine dK [(5,.box (cs n.cells) 41),(1,.rows (ints vl) 1 3)] 0 7 8 9 c (az s m).1 dW [.lp 0 0 0 0,ak 5,ak (vl.getD n.a.toNat 0),ak 0,ak (az s m).2] _ _ _ _ Tryz.call82 rfl rfl rfl (λR w' h=>trivial) (dU w F) (λR w' h b hb=>(h.1.2 b hb).1) (λw' ρ' F' h'=>l8 c (az s m).1 5 (vl.getD n.a.toNat 0) 0 (az s m).2 RQ w' ρ' F' h') (λ_ _=> ?_)))|refine aZ ?_|refine ag ?_ ?_<;>intro _))
 all_goals(conv=>whnf)
 have hS:=h_ (s:=s) (hm.trans (mod_one hd))
 rw[hS]
 all_goals exact eU _ _ _ _ (cu (az s m).1 5 (vl.getD n.a.toNat 0) 0 (az s m).2,((az s m).1.code.length:Int)) [(2,some 11),(3,some 12),(4,some 13)] ⟨rfl,rfl,qA (nN hN.ok hms) _ _ _ _⟩ aS rfl rfl rfl rfl aU (λR w' h=>⟨h.1.1.2,qC h.1.2⟩)
theorem abm(c:dM)(s:cZ)(vl:List Int)(n:ai)(i:Nat)(hk:n.kind=8)(hN:lH c s vl)(h0:0<=n.a)(ha:n.a.toNat<vl.length)(hx0:0<=vl.getD n.a.toNat 0)(sp:aj)(hi:c.bH.l[i]? =some sp)(zb:sp.a_)(hb:∀x∈sp.xs,0<=x/\x<c.slots)(hd:n.data.xs.length=3)(hds:n.data.a_)(w:World)(ρ:Nat->SX.Loc)(F:Nat->Prop)(h:iW w ρ F 2 5 (vI c s vl) (rH c s n)):
 Calls Tryz.prog 36 (SV.d_ ρ [.lp 0 0 0 0,.agg (jM n),ak i,.c c.shapes.val,.c c.bH.val,.os 1 vl.length]).toArray w (sG w ρ F c s vl (lu c.slots s.pl (vl.getD n.a.toNat 0) n.data.xs sp.xs)):=by
 have hP:O3 c s 500000 (vl.getD n.a.toNat 0) sp:=⟨hN.slots,⟨hN.ok,hN.qM,hN.lM⟩,by decide,hx0,zb,hb⟩
 have hcl:=hN.lM
 have hpl:=hN.qM
 have hil:=hN.Ho
 refine Es Tryz.func36 (mq 2 ρ) ρ [.lp 0 0 0 0,.agg (jM n),ak i,.c c.shapes.val,.c c.bH.val,.os 1 vl.length] (vI c s vl) ((rH c s n).and (f_ w F)) 5 h.abs ?_
 have VJ:=(List.getElem?_eq_some_iff.1 hi).1
 have hrow:(aM c.bH.l)[i]? =some [sp.val]:=by unfold aM;rw[List.getElem?_map,hi];rfl
 refine Wp.know (p:=∃a,c.bH.base=some a) (λρ w' hw=>ae hw λR h=>aI (j:=i) (aO h.1.1.1.2.1) acz) ?_
 rintro⟨sa,hsa⟩
 (repeat' ((conv=>whnf)<;>first|(show cO _ 12 ..;refine mE [] [(5,.box (cs n.cells) 41),(1,.rows (ints vl) 1 3)] ams ?_ (h6:=List.Sublist.cons_cons _ (List.Sublist.cons_cons _ (List.nil_sublist _))))|refine X4 ?_|refine X5 ?_|refine X6 ?_|refine ab5 ?_|(show kC ..;refine lY ha ?_)|(show aC _ 84 ..;refine dK [(5,.box (cs n.cells) 41),(1,.rows (ints vl) 1 3)] 0 2 3 4 c s (((dP s.ay).and (tC n.data)).and (bn sp)) [.lp 0 0 0 0,ak (vl.getD n.a.toNat 0),.c n.data.val,.c sp.val] _ _ _ _ Tryz.call84 rfl rfl rfl (λR w' h=>⟨⟨h.1.1.1.1,h.1.1.2.2.1⟩,h.1.1.1.2.2 sp (List.mem_of_getElem? hi)⟩) (dU w F) (λR w' h b hb=>(h.2 b hb).1) (λw' ρ' F' h'=>aba c s (vl.getD n.a.toNat 0) n.data sp hP hd hds w' ρ' F' h') (λq ⟨hq1,hq2,hq3⟩=> ?_))|refine aZ ?_|refine ag ?_ ?_<;>intro _))
 all_goals(conv=>whnf)
 all_goals exact eU _ _ _ _ (q.1,q.2) [(2,some 7),(3,some 8),(4,some 9)] ⟨hq1,hq2,hq3⟩ aS rfl rfl rfl rfl aU (λR w' h=>⟨h.1.2,h.2⟩)
theorem abn(c:dM)(s:cZ)(vl:List Int)(n:ai)(i:Nat)(hk:n.kind=1)(hN:lH c s vl)(hlo:i64 n.lo)(hhi:i64 n.hi)(sp:aj)(hi:c.bH.l[i]? =some sp)(w:World)(ρ:Nat->SX.Loc)(F:Nat->Prop)(h:iW w ρ F 2 5 (vI c s vl) (rH c s n)):
 Calls Tryz.prog 36 (SV.d_ ρ [.lp 0 0 0 0,.agg (jM n),ak i,.c c.shapes.val,.c c.bH.val,.os 1 vl.length]).toArray w (sG w ρ F c s vl (lI s.pl n.lo n.hi sp.xs)):=by
 have hz:(((s.inputs++[oq.mk n.lo n.hi sp]).length:Nat):Int)-1=s.inputs.length:=by rw[List.length_append,List.length_singleton];omega
 have hcl:=hN.lM
 have hpl:=hN.qM
 have hil:=hN.Ho
 refine Es Tryz.func36 (mq 2 ρ) ρ [.lp 0 0 0 0,.agg (jM n),ak i,.c c.shapes.val,.c c.bH.val,.os 1 vl.length] (vI c s vl) ((rH c s n).and (f_ w F)) 5 h.abs ?_
 have VJ:=(List.getElem?_eq_some_iff.1 hi).1
 have hrow:(aM c.bH.l)[i]? =some [sp.val]:=by unfold aM;rw[List.getElem?_map,hi];rfl
 refine Wp.know (p:=∃a,c.bH.base=some a) (λρ w' hw=>ae hw λR h=>aI (j:=i) (aO h.1.1.1.2.1) acz) ?_
 rintro⟨sa,hsa⟩
 (repeat' ((conv=>whnf)<;>first|(show cO _ 3 ..;refine mE [20] _ amq ?_ (h6:=List.Sublist.cons_cons _ (List.Sublist.cons_cons _ (List.Sublist.cons_cons _ (List.Sublist.cons _ (List.Sublist.refl _))))))|(show iK ..;refine og ?_)|refine X5 ?_|refine X6 ?_|(show iw ..;refine jc (s.inputs.length:Int) hz aa aa ?_)|(show sH ..;(refine fO acG ?_))|(show fG ..;(refine b_ ahB ?_))|(show jd _ ((_,.rows (List.take s.inputs.length _++_) _ _)::_) _ _ _;refine iG (ys:=iF (s.inputs++[oq.mk n.lo n.hi sp])) (m:=(s.inputs++[oq.mk n.lo n.hi sp]).length) ?_ (Tv s.inputs (oq.mk n.lo n.hi sp)) ahC)|(show aC _ 82 ..;(refine abk [(0,some 0),(1,some 7),(2,some 3),(3,some 4)] c (inpV s n.lo n.hi sp) dW [.lp 0 0 0 0,ak 1,ak 0,ak 0,ak s.inputs.length] _ _ _ _ Tryz.call82 rfl aU ⟨_,rfl⟩ rfl (λR w' h=>trivial) (dU w F) (λR w' h b hb=>(h.2 b hb).1) (λw' ρ' F' h'=>l8 c (inpV s n.lo n.hi sp) 1 0 0 s.inputs.length (by show s.code.length<=_;omega) w' ρ' F' h') (λ_ _=> ?_)))|refine aZ ?_|refine ag ?_ ?_<;>intro _))
 all_goals(conv=>whnf)
 all_goals exact eU _ _ _ _ (cu (inpV s n.lo n.hi sp) 1 0 0 s.inputs.length,(s.code.length:Int)) [(2,some 9),(3,some 10),(4,some 11)] ⟨by unfold lI bI cu inpV cZ.pl;simp[oq.pl],rfl,⟨hN.ok.ay,λx hx=>by
  rcases List.mem_append.1 hx with hx|hx
  ·exact hN.ok.inputs x hx
  ·rw[List.mem_singleton.1 hx];exact⟨List.mem_of_getElem? hi,hlo,hhi⟩⟩⟩ aS rfl rfl rfl rfl aU (λR w' h=>⟨h.1.2,lG _ _ _⟩)
theorem ae6(c:dM)(s:cZ)(vl:List Int)(n:ai)(i:Nat)(fr to:aj)(hk:n.kind=9)(hN:lH c s vl)(h0:0<=n.a)(ha:n.a.toNat<vl.length)(hfr:c.bH.l[n.a.toNat]? =some fr)(CO:fr.a_)(hto:c.bH.l[i]? =some to)(tu:to.a_)(hft:fr.xs=to.xs)(w:World)(ρ:Nat->SX.Loc)(F:Nat->Prop)(h:iW w ρ F 2 5 (vI c s vl) (rH c s n)):
 Calls Tryz.prog 36 (SV.d_ ρ [.lp 0 0 0 0,.agg (jM n),ak i,.c c.shapes.val,.c c.bH.val,.os 1 vl.length]).toArray w (sG w ρ F c s vl (s.pl,vl.getD n.a.toNat 0)):=by
 have Vx:∀{j:Nat} {u:aj} {l:List aj},l[j]? =some u->(aM l)[j]? =some [u.val]:=λh=>by unfold aM;rw[List.getElem?_map,h];rfl
 have ln:∀{j:Nat} {u:aj} {l:List aj},l[j]? =some u->j<l.length:=λh=>(List.getElem?_eq_some_iff.1 h).1
 refine Es Tryz.func36 (mq 2 ρ) ρ [.lp 0 0 0 0,.agg (jM n),ak i,.c c.shapes.val,.c c.bH.val,.os 1 vl.length] (vI c s vl) ((rH c s n).and (f_ w F)) 5 h.abs ?_
 refine Wp.know (p:=∃a,c.bH.base=some a) (λρ w' hw=>ae hw λR h=>aI (j:=i) (aO h.1.1.1.2.1) af5) ?_
 rintro⟨sa,hsa⟩
 (repeat' ((conv=>whnf)<;>first|(show bC ..;(first|refine ax sa n.a.toNat hsa aa (ln hfr) ?_|refine ax sa i hsa rfl (ln hto) ?_))|(show fu ..;(first|refine aW (λR w' h=>by rw[<-hsa];exact aO h.1.1.1.2.1) _ _ (Vx hfr) rfl ?_|refine aW (λR w' h=>by rw[<-hsa];exact aO h.1.1.1.2.1) _ _ (Vx hto) rfl ?_))|refine ab5 ?_|(show kC ..;refine lY ha ?_)|(show ku _ 20 ..;(refine iL (f:=20) Tryz.call20 (.bool true) (λρ w' hw=>by have:=qg w' fr to (ae hw λR h=>bP CO (h.1.1.1.2.2 _ (List.mem_of_getElem? hfr))) (ae hw λR h=>bP tu (h.1.1.1.2.2 _ (List.mem_of_getElem? hto)));rw[decide_eq_true hft]at this;exact this) ?_))|refine aZ ?_|refine ag ?_ ?_<;>intro _))
 all_goals(conv=>whnf)
 all_goals exact eU _ _ _ _ (s,vl.getD n.a.toNat 0) [] ⟨rfl,rfl,hN.ok⟩ aS rfl rfl rfl rfl aU (λR w' h=>⟨h.2,lG _ _ _⟩)
end
abbrev amt:Go.SX.DT:=(eF [0,1,2,3,4,5,106,7,8,9,10,11,12,13] .done)
theorem U4(c:dM)(s:cZ)(vl:List Int)(n:ai)(i:Nat)(sh fr to:aj)(r:List (List Int)×List Int)(hk5:n.kind≠1/\n.kind≠2/\n.kind≠6/\n.kind≠7/\n.kind≠8)(hN:lH c s vl)(h0:0<=n.a)(ha:n.a.toNat<vl.length)(hx0:0<=vl.getD n.a.toNat 0)(hn:n.iI)(hsm:n.small)(hsh:c.shapes.l[n.a.toNat]? =some sh)(zh:sh.a_)(hfr:c.bH.l[n.a.toNat]? =some fr)(CO:fr.a_)(hto:c.bH.l[i]? =some to)(tu:to.a_)(hk:¬(n.kind=9/\fr.xs=to.xs))(hr:(jC (n0 n) sh).1=r)(hd:oQ r.1 fr.xs to.xs c.slots)(hb:to.xs.length<=r.2.length)(hpl:∀z∈to.xs,0<=z/\z<c.slots)
 (w:World) (ρ:Nat->SX.Loc) (F:Nat->Prop) (h:iW w ρ F 2 5 (vI c s vl) (rH c s n)):
 Calls Tryz.prog 36 (SV.d_ ρ [.lp 0 0 0 0,.agg (jM n),ak i,.c c.shapes.val,.c c.bH.val,.os 1 vl.length]).toArray w (sG w ρ F c s vl (iq c.slots c.giant s.pl (vl.getD n.a.toNat 0) r fr.xs to.xs)):=by
 have hcl:=hN.lM
 have hpp:=hN.qM
 have hn1:=hN.slots.1
 have hn2:=hN.slots.2
 obtain⟨k1,k2,k6,k7,k8⟩:=hk5
 have Vx:∀{j:Nat} {u:aj} {l:List aj},l[j]? =some u->(aM l)[j]? =some [u.val]:=λh=>by unfold aM;rw[List.getElem?_map,h];rfl
 have ln:∀{j:Nat} {u:aj} {l:List aj},l[j]? =some u->j<l.length:=λh=>(List.getElem?_eq_some_iff.1 h).1
 refine Es Tryz.func36 (mq 2 ρ) ρ [.lp 0 0 0 0,.agg (jM n),ak i,.c c.shapes.val,.c c.bH.val,.os 1 vl.length] (vI c s vl) ((rH c s n).and (f_ w F)) 5 h.abs ?_
 refine Wp.know (p:=(∃a,c.bH.base=some a)/\∃a,c.shapes.base=some a) (λρ w' hw=>ae hw λR h=>⟨aI (j:=i) (aO h.1.1.1.2.1) af5,aI (j:=n.a.toNat) (aO h.1.2.1) (by rw[aR];exact ln hsh)⟩) ?_
 rintro⟨⟨sa,hsa⟩,⟨ta,Ia⟩⟩
 have hk9:n.kind≠9\/(n.kind=9/\fr.xs≠to.xs):=by
  by_cases h9:n.kind=9
  ·exact .inr ⟨h9,λe=>hk ⟨h9,e⟩⟩
  ·exact .inl h9
 rcases hk9 with h9|⟨h9,hft⟩
 all_goals(repeat' ((conv=>whnf)<;>first|(show cO _ 17 ..;refine mE [] [(6,.box (cs (n0 n).cells) 41),(5,.box (cs n.cells) 41)] amt ?_ (h6:=List.Sublist.cons_cons _ (List.Sublist.cons_cons _ (List.nil_sublist _))))|(show @dR _ _ _;(first|refine cK aa ?_|refine bA aa ?_))|(show bC ..;(first|refine ax sa n.a.toNat hsa aa (ln hfr) ?_|refine ax sa i hsa rfl (ln hto) ?_|refine ax ta n.a.toNat Ia aa (ln hsh) ?_))|(show fu ..;(first|refine aW (λR w' h=>by rw[<-hsa];exact aO h.1.1.1.2.1) _ _ (Vx hfr) rfl ?_|refine aW (λR w' h=>by rw[<-hsa];exact aO h.1.1.1.2.1) _ _ (Vx hto) rfl ?_|refine aW (λR w' h=>by rw[<-Ia];exact aO h.1.2.1) _ _ (Vx hsh) rfl ?_))|(show ku _ 20 ..;(refine iL (f:=20) Tryz.call20 (.bool false) (λρ w' hw=>by have:=qg w' fr to (ae hw λR h=>bP CO (h.1.1.1.2.2 _ (List.mem_of_getElem? hfr))) (ae hw λR h=>bP tu (h.1.1.1.2.2 _ (List.mem_of_getElem? hto)));rw[decide_eq_false hft]at this;exact this) ?_))|refine aZ ?_))
 all_goals
  refine Re (n0 n) (jC (n0 n) sh) Tryz.call85 (λρ w' hw=>U2 w' (n0 n) sh (ae hw λR h=>aeD hn h.1.1.2) ⟨hsm.data,hsm.aG⟩ (ae hw λR h=>bP zh (h.1.2.2 _ (List.mem_of_getElem? hsh)))) (λx hxI=> ?_)
  have hkn:∀{R:Nat->Prop} {w':World},(((rH c s n).and (f_ w F)).and ((vG x).past w.heap.size)).holds R w'->x.rows.okB w'/\x.aG.ok w':=λh=>agN hxI (abj _ _) (aeD hn h.1.1.1.2) ((vG x).mono h.2 (λ_ hb=>hb.1))
  have PK:x.rows.l.map aj.xs=r.1:=by rw[hxI.rows,hr]
  have hxb:x.aG.xs=r.2:=by rw[hxI.aG,hr]
  rw[<-PK]at hd
  rw[<-hxb]at hb
  have hz0:lJ c 500000 s:=⟨hN.ok,hpp,hcl⟩
  (repeat' ((conv=>whnf)<;>first|(show iK ..;refine og ?_)|(show cO _ 18 ..;refine mE [] [(6,.box (cs (n0 n).cells) 41),(5,.box (cs n.cells) 41),(1,.rows (ints vl) 1 3)] aid ?_ (h6:=List.Sublist.cons_cons _ (List.Sublist.cons_cons _ (List.Sublist.cons_cons _ (List.nil_sublist _)))))|(show bC ..;(first|refine ax sa n.a.toNat hsa aa (ln hfr) ?_|refine ax sa i hsa rfl (ln hto) ?_))|(show fu ..;(first|refine aW (λR w' h=>by rw[<-hsa];exact aO h.1.1.1.1.2.1) _ _ (Vx hfr) rfl ?_|refine aW (λR w' h=>by rw[<-hsa];exact aO h.1.1.1.1.2.1) _ _ (Vx hto) rfl ?_))|(show bV ..;(refine aT n.a.toNat aa ha zf ?_))|(show kC ..;refine lY ha ?_)|(show aC _ 86 ..;refine dK [(6,.box (cs (n0 n).cells) 41),(5,.box (cs n.cells) 41),(1,.rows (ints vl) 1 3)] 0 2 3 4 c s (((dP s.ay).and (vZ λw=>x.rows.okB w)).and ((bn fr).and (bn to))) [.lp 0 0 0 0,ak (vl.getD n.a.toNat 0),.c x.rows.val,.c fr.val,.c to.val] _ _ _ _ Tryz.call86 rfl rfl rfl (λR w' h=>⟨⟨h.1.1.1.1.1,uu h (λ_ _ h=>(hkn h).1)⟩,h.1.1.1.1.2.2 fr (List.mem_of_getElem? hfr),h.1.1.1.1.2.2 to (List.mem_of_getElem? hto)⟩) (dU w F) (λR w' h b hb=>(h.1.2 b hb).1) (λw' ρ' F' h'=>aeW c s (vl.getD n.a.toNat 0) x.rows fr to hN.slots hz0 hx0 CO tu hd w' ρ' F' h') (λq ⟨hq1,hq2,hq3⟩=> ?_))|refine aZ ?_))
  all_goals(conv=>whnf)
  have hgrow:=dn.rows c.slots c.giant s.pl (vl.getD n.a.toNat 0) (mK (x.rows.l.map aj.xs) fr.xs to.xs c.slots).1 hn1 (Nat.le_of_eq (uq hd))
  rw[<-hq1]at hgrow
  have hg3:=Zo hgrow
  have hgf:q.1.code.length<=s.code.length+(5*c.slots+1):=hgrow.few
  have zq:lJ c 600000 q.1:=⟨hq3,by omega,by omega⟩
  clear hgrow hg3 hgf
  refine Wp.loop (σ:=Nat×Bool) 11 (λz=>[(0,.lp 0 0 0 0),(2,ak i),(4,.c c.bH.val),(15,.c x.aG.val),(17,ak q.2),(18,.c (.bool z.2)),(162,.c x.aG.val),(163,ak x.aG.xs.length),(164,ak z.1)]) (λ_=>(6,.box (cs (n0 n).cells) 41)::(5,.box (cs n.cells) 41)::(1,.rows (ints vl) 1 3)::FC c q.1 0 8 9 10) (λ_=>(((rH c s n).and (f_ w F)).and ((vG x).past w.heap.size)).and ((D6 s.ay q.1.ay).off (dU w F)))
   (λz=>z.1<=x.aG.xs.length/\z.2=(x.aG.xs.take z.1).any (λb=>decide (b≠0))) (λz=>x.aG.xs.length-z.1) (0,false) [] aS (λ_=>⟨rfl,rfl⟩) ⟨Nat.zero_le _,rfl⟩ ⟨rfl,aU,aU,λR w' h=>h⟩ ?_
  rintro⟨k,sb⟩ ⟨hkl,hsb⟩
  simp only at hkl hsb
  have hbf:=hxI.xK.few
  by_cases hlt:k<x.aG.xs.length
  ·have hxv:x.aG.xs.getD k 0=x.aG.xs[k]:=by rw[List.getD_eq_getElem?_getD,List.getElem?_eq_getElem hlt];rfl
   have hany:(x.aG.xs.take (k+1)).any (λb=>decide (b≠0))=(sb||decide (x.aG.xs[k]≠0)):=by rw[List.take_succ_eq_append_getElem hlt,List.any_append,<-hsb];simp
   generalize x.aG.xs[k]=v at*
   refine Wp.know (p:=∃a,x.aG.base=some a) (λρ w' hw=>ae hw λR h=>aI (j:=k) (hkn h.1).2.rows Yj) ?_
   rintro⟨ba,hba⟩
   obtain⟨sb2,agP⟩:∃b2,(sb||decide (v≠0))=b2:=⟨_,rfl⟩
   have hcase:(sb=true/\sb2=true)\/(sb=false/\v≠0/\sb2=true)\/(sb=false/\v=0/\sb2=false):=by
    cases sb with
    |true=>exact .inl ⟨rfl,by rw[<-agP];rfl⟩
    |false=>
     by_cases hv:v=0
     ·exact .inr (.inr ⟨rfl,hv,by rw[<-agP,hv];rfl⟩)
     ·exact .inr (.inl ⟨rfl,hv,by rw[<-agP];simp[hv]⟩)
   rcases hcase with⟨e1,e2⟩|⟨e1,hv,e2⟩|⟨e1,hv,e2⟩
   all_goals
    subst e1 e2
    (repeat' ((conv=>whnf)<;>first|(show bC ..;refine ax ba k hba rfl hlt ?_)|(show fu ..;(refine j6 (λR w' h=>by rw[<-hba];exact(hkn h.1).2.rows) (j:=k) hlt hxv ?_))|refine aZ ?_|refine ag ?_ ?_<;>intro _))
    all_goals(conv=>whnf)
    all_goals exact⟨(k+1,_),[],⟨hlt,by show _=(x.aG.xs.take (k+1)).any _;rw[hany,agP]⟩,by show x.aG.xs.length-(k+1)<x.aG.xs.length-k;omega,rfl,aU,aU,λR w' h=>h⟩
  obtain rfl:k=x.aG.xs.length:=by omega
  rw[List.take_length,hxb]at hsb
  cases sb with
  |false=>
   (repeat' ((conv=>whnf)<;>first|refine aZ ?_|refine ag ?_ ?_<;>intro _))
   all_goals(conv=>whnf)
   have e:iq c.slots c.giant s.pl (vl.getD n.a.toNat 0) r fr.xs to.xs=(q.1.pl,q.2):=by
    unfold iq;rw[<-hsb,if_neg aS,<-PK];exact Prod.ext hq1.symm hq2.symm
   exact eU _ _ _ _ q [(2,some 8),(3,some 9),(4,some 10)] ⟨(congrArg Prod.fst e).symm,(congrArg Prod.snd e).symm,hq3⟩ aS rfl rfl rfl rfl aU (λR w' h=>⟨h.1.1.2,h.2⟩)
  |true=>
   have hb0:0<x.aG.xs.length:=by
    rw[hxb];rcases Nat.eq_zero_or_pos r.2.length with e|e
    ·rw[List.eq_nil_of_length_eq_zero e]at hsb;cases hsb
    ·exact e
   (repeat' ((conv=>whnf)<;>first|(show bC ..;refine ax sa i hsa rfl (ln hto) ?_)|(show fu ..;(refine aW (λR w' h=>by rw[<-hsa];exact aO h.1.1.1.1.1.2.1) _ _ (Vx hto) rfl ?_))|(show aC _ 83 ..;(refine dK [(6,.box (cs (n0 n).cells) 41),(5,.box (cs n.cells) 41),(1,.rows (ints vl) 1 3)] 0 8 9 10 c q.1 (((dP q.1.ay).and (tC x.aG)).and (bn to)) [.lp 0 0 0 0,.c x.aG.val,.c to.val] _ _ _ _ Tryz.call83 rfl rfl rfl (λR w' h=>⟨⟨OD h.1.1.1.1.1.1 h.2,uu h (λ_ _ h=>(hkn h.1).2.rows)⟩,h.1.1.1.1.1.2.2 to (List.mem_of_getElem? hto)⟩) (dU w F) (λR w' h b hb=>(h.1.1.2 b hb).1) (λw' ρ' F' h'=>I8 c q.1 x.aG to hxI.xK hb0 hn2 hq3.ay (by have:=zq.qM;omega) tu hpl w' ρ' F' h') (λm ⟨hm,hms⟩=> ?_)))|(show aC _ 82 ..;(refine dK [(6,.box (cs (n0 n).cells) 41),(5,.box (cs n.cells) 41),(1,.rows (ints vl) 1 3)] 0 12 13 14 c (az q.1 m).1 dW [.lp 0 0 0 0,ak 4,ak q.2,ak 0,ak (az q.1 m).2] _ _ _ _ Tryz.call82 rfl rfl rfl (λR w' h=>trivial) (dU w F) (λR w' h b hb=>(h.1.1.1.2 b hb).1) (λw' ρ' F' h'=>l8 c (az q.1 m).1 4 q.2 0 (az q.1 m).2 (by rw[iT];have:=zq.lM;omega) w' ρ' F' h') (λ_ _=> ?_)))|refine aZ ?_|refine ag ?_ ?_<;>intro _))
   all_goals(conv=>whnf)
   have hS:=h_ (s:=q.1) (hm.trans (U3 hb))
   have e:iq c.slots c.giant s.pl (vl.getD n.a.toNat 0) r fr.xs to.xs=((cu (az q.1 m).1 4 q.2 0 (az q.1 m).2).pl,((az q.1 m).1.code.length:Int)):=by
    unfold iq
    rw[<-hsb,if_pos rfl,<-PK,<-hq1,<-hq2,<-hxb]
    dsimp only
    rw[hS];rfl
   exact eU _ _ _ _ (cu (az q.1 m).1 4 q.2 0 (az q.1 m).2,((az q.1 m).1.code.length:Int)) [(2,some 16),(3,some 17),(4,some 18)] ⟨(congrArg Prod.fst e).symm,(congrArg Prod.snd e).symm,qA (nN hq3 hms) _ _ _ _⟩ aS rfl rfl rfl rfl aU (λR w' h=>⟨h.1.1.1.1.2,gQ h.1.1.2 h.1.2⟩)
section
variable {s:fF} {x:Int} {i base:Nat} {y:oo} {all:List (List Int)} {c:dM}
theorem LF{m:Option Int}{v:Int}(hv:0<=v):0<=(lq s m v).2:=by
 cases m with
 |none=>exact hv
 |some a=>exact Int.natCast_nonneg _
theorem agQ{t:Int->Option Int}(h:∀k a,t k=some a->0<=a):(∀k a,(qw s t x i).2.1 k=some a->0<=a)/\0<=(qw s t x i).2.2:=by
 unfold qw
 cases e:t i with
 |some a=>exact⟨h,h i a e⟩
 |none=>
  refine⟨λk a hk=> ?_,Int.natCast_nonneg _⟩
  dsimp only at hk
  split at hk
  ·simp only[Option.some.injEq]at hk;rw[<-hk];exact Int.natCast_nonneg _
  ·exact h k a hk
theorem ae7{n:Nat}{d:List Int}(h:NonNeg y.t y.m):NonNeg (q9 n base x y i d).t (q9 n base x y i d).m:=by
 unfold q9
 split
 ·exact h
 ·exact⟨(agQ h.t).1,λa ha=>by simp only[Option.some.injEq]at ha;rw[<-ha];exact LF (Int.natCast_nonneg _)⟩
theorem O6{n:Nat}:∀(l:List (List Int)) (i:Nat) (y:oo),NonNeg y.t y.m->NonNeg (mZ n base x l i y).t (mZ n base x l i y).m
 |[],_,_,h=>h
 |d::r,i,y,h=>O6 r (i+1) _ (ae7 h)
theorem ae8{n:Nat}{ds:List (List Int)}(h:NonNeg y.t y.m):NonNeg (sZ n base x y ds).t (sZ n base x y ds).m:=by
 have hz:=O6 (n:=n) (base:=base) (x:=x) ds 0 ⟨y.s,y.t,none⟩ ⟨h.t,λa ha=>by cases ha⟩
 unfold sZ
 dsimp only
 split
 ·exact⟨hz.t,h.m⟩
 ·rename_i a ha
  refine⟨hz.t,λb hb=> ?_⟩
  simp only[Option.some.injEq]at hb
  rw[<-hb]
  split
  ·exact LF (Int.natCast_nonneg _)
  ·exact LF (hz.m a ha)
theorem O7{n g:Nat}:∀(f base:Nat) (y:oo),NonNeg y.t y.m->NonNeg (kG n g x all f base y).t (kG n g x all f base y).m
 |0,_,_,h=>h
 |f+1,base,y,h=>by
  unfold kG
  split
  ·exact O7 f _ _ (ae8 h)
  ·exact h
theorem agR{n:Nat}{giant:Bool}(hx:0<=x):0<=(jl n giant s x all).2:=by
 have h:=O7 (n:=n) (g:=oC giant n) (x:=x) (all:=all) n 0 ⟨s,mG x,none⟩ (Eh hx)
 unfold jl
 dsimp only
 split
 ·exact Int.natCast_nonneg _
 ·rename_i a ha
  exact h.m a ha
theorem agS{n:ai}{vl:List Int}(h:∀v∈vl,0<=v):0<=(cz c n i s vl).2:=by
 have hg:∀k,0<=vl.getD k 0:=λk=>by
  by_cases hk:k<vl.length
  ·rw[List.getD_eq_getElem?_getD,List.getElem?_eq_getElem hk];exact h _ (List.getElem_mem hk)
  ·rw[List.getD_eq_getElem?_getD,List.getElem?_eq_none aa];exact Int.le_refl 0
 have hp:∀x data sl,0<=x->0<=(lu c.slots s x data sl).2:=λx data sl hx=>by
  rw[Q8]
  have h1:∀a,(Zq c.slots s x (data.getD 2 0) sl).2=some a->0<=a:=λa ha=>by
   unfold Zq at ha
   split at ha
   ·cases ha
   ·split at ha<;>(simp only[Option.some.injEq]at ha;rw[<-ha];exact Int.natCast_nonneg _)
  have h2:∀a,(Xt c.slots (Zq c.slots s x (data.getD 2 0) sl) x (data.getD 1 0) sl).2=some a->0<=a:=λa ha=>by
   unfold Xt at ha
   split at ha
   ·exact h1 a ha
   ·split at ha<;>(simp only[Option.some.injEq]at ha;rw[<-ha];first|exact LF hx|exact LF (Int.natCast_nonneg _))
  have h3:0<=(Xu c.slots (Xt c.slots (Zq c.slots s x (data.getD 2 0) sl) x (data.getD 1 0) sl) x).2:=by
   unfold Xu
   split
   ·exact Int.natCast_nonneg _
   ·rename_i m hm;exact h2 m hm
  unfold pw4
  split
  ·exact h3
  ·exact Int.natCast_nonneg _
 unfold cz
 repeat' split
 ·exact Int.natCast_nonneg _
 ·exact Int.natCast_nonneg _
 ·exact Int.natCast_nonneg _
 ·exact Int.natCast_nonneg _
 ·exact hp _ _ _ (hg _)
 ·exact hg _
 ·unfold iq
  dsimp only
  split
  ·exact Int.natCast_nonneg _
  ·exact agR (hg _)
def an_(c:dM)(n:ai)(i:Nat):Prop:=∀(s:cZ) (vl:List Int) (w:World) (ρ:Nat->SX.Loc) (F:Nat->Prop),lH c s vl->vl.length=i->(∀v∈vl,0<=v)->iW w ρ F 2 5 (vI c s vl) (rH c s n)->
 Calls Tryz.prog 36 (SV.d_ ρ [.lp 0 0 0 0,.agg (jM n),ak i,.c c.shapes.val,.c c.bH.val,.os 1 vl.length]).toArray w (sG w ρ F c s vl (cz c n i s.pl vl))
theorem aoa{layout:Int}{sh:List (List Int)}{g:List ai}(h:Ap c layout sh g){n:ai}(hi:g[i]? =some n):an_ c n i:=by
 obtain⟨hl,hF,s0,hs0,hin⟩:=h.formed hi
 obtain⟨hn,hsm,_⟩:=h.each i n hi
 obtain⟨t2,to,ht2,_,hto,tu,_,eto,_,gt2,_,tp,tl,te⟩:=h.at_ hl
 have hsi:=Li tp
 have es:s0=t2.xs:=by rw[hs0]at gt2;simpa using gt2
 have hah:=mW hin.form
 have hkk:=hF.kind
 intro s vl w ρ F hN hvl hnn hO
 have hg:∀k,0<=vl.getD k 0:=λk=>by
  by_cases hk:k<vl.length
  ·rw[List.getD_eq_getElem?_getD,List.getElem?_eq_getElem hk];exact hnn _ (List.getElem_mem hk)
  ·rw[List.getD_eq_getElem?_getD,List.getElem?_eq_none aa];exact Int.le_refl 0
 have hdata:n.kind=2->n.shape.xs=s0:=λhk=>by
  have:=hin.shape;unfold bM at this;rw[if_pos (.inr hk)]at this;simpa using this
 have hA:n.kind≠1->n.kind≠2->0<=n.a/\n.a.toNat<vl.length:=λh1 h2=>by have:=hF.a h1 h2;omega
 by_cases k1:n.kind=1
 ·have e:cz c n i s.pl vl=lI s.pl n.lo n.hi to.xs:=by unfold cz;rw[if_pos k1,eto]
  rw[e];exact abn c s vl n i k1 hN hn.kE hn.kF to hto w ρ F hO
 by_cases k2:n.kind=2
 ·have e:cz c n i s.pl vl=bI (bg c.slots s.pl to.xs (λe=>n.data.xs.getD e 0)).1 2 0 0 (bg c.slots s.pl to.xs (λe=>n.data.xs.getD e 0)).2:=by unfold cz;rw[if_neg k1,if_pos k2,eto]
  have hd:=hah.2.2.2.2 k2
  rw[hdata k2,es]at hd
  rw[e];exact abl c s vl n i k2 hN to hto tu hsi aa aa hn.data w ρ F hO
 obtain⟨h0,ha⟩:=hA k1 k2
 by_cases k6:n.kind=6
 ·have e:cz c n i s.pl vl=bI s.pl 3 (vl.getD n.a.toNat 0) (vl.getD n.b.toNat 0) 0:=by unfold cz;rw[if_neg k1,if_neg k2,if_pos k6]
  have hb:=hF.b k6
  rw[e];exact agO c s vl n i k6 hN ⟨h0,hb.1⟩ ha aa w ρ F hO
 by_cases k7:n.kind=7
 ·have e:cz c n i s.pl vl=bI (bg c.slots s.pl to.xs (λ_=>n.data.xs.getD 0 0)).1 5 (vl.getD n.a.toNat 0) 0 (bg c.slots s.pl to.xs (λ_=>n.data.xs.getD 0 0)).2:=by unfold cz;rw[if_neg k1,if_neg k2,if_neg k6,if_pos k7,eto]
  rw[e];exact XA c s vl n i k7 hN h0 ha to hto tu hsi (hah.2.2.1 k7) hn.data w ρ F hO
 by_cases k8:n.kind=8
 ·have e:cz c n i s.pl vl=lu c.slots s.pl (vl.getD n.a.toNat 0) n.data.xs to.xs:=by unfold cz;rw[if_neg k1,if_neg k2,if_neg k6,if_neg k7,if_pos k8,eto]
  rw[e];exact abm c s vl n i k8 hN h0 ha (hg _) to hto tu hsi (hah.2.2.2.1 k8) hn.data w ρ F hO
 have hk:dQ n\/n.kind=9:=by unfold dQ;omega
 have hal:n.a.toNat<g.length:=by omega
 obtain⟨t,fr,ht,hts,hfr,CO,et,efr,gt_,_,_,fp,fl,fe⟩:=h.at_ hal
 by_cases hft:n.kind=9/\fr.xs=to.xs
 ·have e:cz c n i s.pl vl=(s.pl,vl.getD n.a.toNat 0):=by unfold cz;rw[if_neg k1,if_neg k2,if_neg k6,if_neg k7,if_neg k8,efr,eto,if_pos hft]
  rw[e];exact ae6 c s vl n i fr to hft.1 hN h0 ha hfr CO hto tu hft.2 w ρ F hO
 have eta:(sh.take i).getD n.a.toNat []=t.xs:=by
  rw[<-gt_,List.getD_eq_getElem?_getD,List.getD_eq_getElem?_getD,List.getElem?_take,if_pos aa]
 obtain⟨hok,hc2⟩:=rows_ok hk hin.form eta hin.shape hin.near fe
 have hcnt:wI (n0 n) t=(entries s0).toNat:=by show(entries ((vH (Xq n) t).2.getD 1 [])).toNat=_;rw[hc2];rfl
 have hr:jC (n0 n) t=((tJ (n0 n) t.xs (wI (n0 n) t),(List.range (wI (n0 n) t)).map (dA (n0 n) (wI (n0 n) t))),0):=by unfold jC;exact if_pos hok
 have e:cz c n i s.pl vl=iq c.slots c.giant s.pl (vl.getD n.a.toNat 0) (jC (n0 n) t).1 fr.xs to.xs:=by
  unfold cz;rw[if_neg k1,if_neg k2,if_neg k6,if_neg k7,if_neg k8,efr,eto,if_neg hft,et]
 rw[e]
 refine U4 c s vl n i t fr to (jC (n0 n) t).1 ⟨k1,k2,k6,k7,k8⟩ hN h0 ha (hg _) hn hsm ht hts hfr CO hto tu hft rfl ?_ ?_ hsi w ρ F hO
 ·rw[hr]
  refine⟨by have:=h.slots.1;omega,by have:=h.slots.2;omega,?_,fp,tp,λr hr=> ?_⟩
  ·show(tJ _ _ _).length=_
   rw[tl,<-es,<-hcnt];simp[tJ]
  ·obtain⟨o,_,rfl⟩:=List.mem_map.1 hr
   rw[jQ,fl]
 ·rw[hr]
  show _<=(List.map _ _).length
  rw[tl,<-es,<-hcnt];simp
end
section
variable {S:bJ} {nx:Nat} {w:World} {c:dM} {s:cZ}
def O8(c:dM)(s:cZ)(vl:List Int)(d v i2 i3 i4:Nat):Heap:=(v,.rows (ints vl) 1 3)::FC c s d i2 i3 i4
theorem XB{cx:Cx}{f:FuncId}{args:List SV}{K:SV->Heap->bJ->Nat->Prop}{α:Type}(rest:Heap)(d v i2 i3 i4:Nat)(c:dM)(s:cZ)(vl:List Int)(A:bJ)(nT:List SV)(val:α->Value)(s':α->cZ)(D:α->bJ)(p:α->Prop)
 (hf:∀ar w,(callFunc f ar).run cx.P w= .ok (.enter f ar) w) (hm:vR 0 (CJ d v i2 i3 i4) (vI c s vl)=true) (hl:tF (CJ d v i2 i3 i4) (vI c s vl) (rest++O8 c s vl d v i2 i3 i4)=rest)
 (ha:args=SV.tQ (CJ d v i2 i3 i4).app nT) (hA:∀R w,S.holds R w->A.holds R w) (G:Nat->Prop) (hG:∀R w,S.holds R w->∀b,G b->R b)
 (hc:∀w ρ F,iW w ρ F 2 5 (vI c s vl) A->Calls cx.P f (SV.d_ ρ nT).toArray w (yH w ρ F 2 5 (λx=> .c (val x)) (λx=>vI c (s' x) vl) D p))
 (h:∀x,p x->K (.c (val x)) (rest++O8 c (s' x) vl d v (nx+2) (nx+3) (nx+4)) (S.and ((D x).off G)) (nx+5)):aC cx f args (rest++O8 c s vl d v i2 i3 i4) S nx K:=by
 have hin:∀q∈O8 c s vl d v i2 i3 i4,q∈rest++O8 c s vl d v i2 i3 i4:=λq hq=>List.mem_append.2 (.inr hq)
 refine zV (CJ d v i2 i3 i4) 2 5 (vI c s vl) A nT (λx=> .c (val x)) (λx=>vI c (s' x) vl) D p hf hm rfl ⟨hin _ aQ,hin _ aQ,hin _ aQ,hin _ aQ,hin _ aQ,trivial⟩ (λi hi=> ?_) aS ha hA G hG hc (λx hx=> ?_)
 ·have:i=0\/i=1:=by omega
  rcases this with rfl|rfl
  ·exact⟨d,_,rfl,aQ⟩
  ·exact⟨v,_,rfl,aQ⟩
 ·rw[hl]
  exact h x hx
abbrev ae9(w:World)(g:bE)(c:dM)(s:cZ):bJ:=(Q0 w c s).and (vZ λw=>g.ok w)
theorem U5{w':World}{g:bE}{n:ai}{R:Nat->Prop}(hn:n∈g.l)(h:(ae9 w g c s).holds R w'):(rH c s n).holds R w':=by
 have p:(((Ir c).and (u7 c)).and (dP s.ay)).holds R w':=bJ.mono _ h.1.2 (λb hb=>hb.1)
 exact⟨⟨⟨p.2,p.1.2⟩,⟨uu h.2 (λ_ _ h=>((fK h).each n hn).shape.rows),uu h.2 (λ_ _ h=>((fK h).each n hn).data.rows),uu h.2 (λ_ _ h=>((fK h).each n hn).aG.rows)⟩⟩,p.1.1⟩
theorem abo{B:Base}{H:Heap}{last:Int}{out:aj}{i2 i3 i4 n2 n3 n4:Nat}{T2 T3 T4:TypeId}{r:qO×Int}(hw0:B.w0=w)(hS:∀R w',S.holds R w'->(Q0 w c s).holds R w')(hs:sw c s)(hsp:∀u∈c.bH.l,u.a_)(hf:s.code.length<=2048/\s.ay.length<=2048/\s.inputs.length<=2048)(ho:out∈c.bH.l)
 (h2:(i2,bU.rows (iF s.inputs) 3 T2)∈H) (h3:(i3,bU.rows (aM s.ay) 1 T3)∈H) (h4:(i4,bU.rows (iE s.code) 5 T4)∈H) (e2:n2=s.inputs.length) (e3:n3=s.ay.length) (e4:n4=s.code.length) (hr:r=(⟨c.slots,s.pl,last,out.xs⟩,0)):
 jE B (.sI [.agg [ak c.slots,.os i2 n2,.os i3 n3,.os i4 n4,ak last,.c out.val],ak 0]) H S nx (oD w r):=by
 subst hw0 hr e2 e3 e4
 refine dz λρ w' hw=> ?_
 have hb:∀R w',S.holds R w'->(aH B.w0).holds R w':=λR w' h=>(hS R w' h).1
 obtain⟨b2,c2,q2,d2⟩:=fw (dF hw hb h2)
 obtain⟨b3,c3,q3,d3⟩:=fw (dF hw hb h3)
 obtain⟨b4,c4,q4,d4⟩:=fw (dF hw hb h4)
 rw[mQ]at q2
 rw[aR]at q3
 rw[mP]at q4
 have dp:=oh (D:=((dP s.ay).and (aeF s.inputs)).and (bn out)) hw (λR w' h=>⟨⟨(hS R w' h).2.2,λx hx=>(hS R w' h).2.1.2.2 x.slots (hs.inputs x hx).1⟩,(hS R w' h).2.1.2.2 out ho⟩)
 refine⟨⟨c.slots,b2,c2,s.inputs,⟨b3,c3,s.ay⟩,b4,c4,s.code,last,out⟩,⟨rfl,⟨hs.ay,λx hx=>⟨hsp _ (hs.inputs x hx).1,(hs.inputs x hx).2⟩,hsp out ho,by show s.ay.length<=_;omega,by show s.inputs.length<=_;omega,by show s.code.length<=_;omega⟩⟩,?_,aV hw hb,⟨⟨⟨d2,dp.1.2⟩,⟨d3,dp.1.1⟩⟩,⟨d4,dp.2⟩⟩⟩
 show Ending.returned (.tuple #[.agg #[.int .i64 c.slots,(SV.os i2 s.inputs.length).rf ρ,(SV.os i3 s.ay.length).rf ρ,(SV.os i4 s.code.length).rf ρ,.int .i64 last,out.val],.int .i64 0])=_
 rw[q2,q3,q4]
 rfl
abbrev aiE(w:World)(r:qO×Int)(k:Nat)(env:Env)(H:Heap)(S:bJ)(nx:Nat):Prop:=Wp ⟨Tryz.prog,⟨w,[]⟩,Tryz.f10.ntmps,tab⟩ (OX k (bodyC Tryz.f10)) env H S nx (Sn ⟨Tryz.prog,⟨w,[]⟩,Tryz.f10.ntmps,tab⟩ Tryz.f10.results.toList (oD w r))
theorem agT(w:World)(g:bE)(o:Am)(c:dM)(layout:Int)(hS:Ap c layout (check g).2 g.l)(hm:c.slots<=2048)(hgi:c.giant=o.giant)(hl1:1<=g.l.length/\g.l.length<=24)(hout:0<=g.out/\g.out<g.l.length):
 aiE w (qJ c g) 9 [(2,ak c.slots),(3,.lp 0 0 0 0),(4,.lp 1 0 0 0),(6,.lp 2 0 0 0),(12,.c c.shapes.val),(14,.c c.bH.val)] [(2,.box [ak 0,.c (.slice none 0 0),.c (.slice none 0 0),.c (.slice none 0 0),ak 0,.c (.slice none 0 0)] 34),(1,.box [ak o.layout,.c (.bool o.tidy),.c (.bool o.lazy),.c (.bool o.giant),ak o.rows] 26),(0,.box [.c (.slice g.base g.l.length g.cap),ak g.out] 24)] (ae9 w g c ⟨[],[],[]⟩) 4:=by
 obtain⟨hm1,_⟩:=hS.slots
 (repeat' ((conv=>whnf)<;>first|refine aN ?_))
 all_goals(conv=>whnf)
 obtain⟨T,hT0⟩:∃T,gZ c (g.l.drop 0) 0 ⟨[],[],[]⟩ []=T:=⟨_,rfl⟩
 have hrT:qJ c g=lowerT c g T:=by rw[<-hT0];rfl
 rw[hrT]
 refine Wp.loop (σ:=Nat×cZ×List Int) 9 (λq=>[(3,.lp 0 0 0 0),(6,.lp 2 0 0 0),(12,.c c.shapes.val),(14,.c c.bH.val),(19,.lp 4 0 0 0),(20,.os 5 q.2.2.length),(97,.c (.slice g.base g.l.length g.cap)),(98,ak g.l.length),(99,ak q.1)])
  (λq=>(2,.box [ak 0,.c (.slice none 0 0),.c (.slice none 0 0),.c (.slice none 0 0),ak 0,.c (.slice none 0 0)] 34)::(0,.box [.c (.slice g.base g.l.length g.cap),ak g.out] 24)::O8 c q.2.1 q.2.2 4 5 6 7 8)
  (λq=>ae9 w g c q.2.1) (λq=>q.1<=g.l.length/\q.2.2.length=q.1/\sw c q.2.1/\q.2.1.code.length<=2048/\q.2.1.ay.length<=q.2.1.code.length/\q.2.1.inputs.length<=q.2.1.code.length/\(∀v∈q.2.2,0<=v)/\gZ c (g.l.drop q.1) q.1 q.2.1.pl q.2.2=T) (λq=>g.l.length-q.1) (0,⟨[],[],[]⟩,[]) [(5,none),(6,none),(7,none),(8,none)] aS (λq=>⟨rfl,rfl⟩)
  ⟨Nat.zero_le _,rfl,⟨λ_ h=>kJ,λ_ h=>kJ⟩,Nat.zero_le _,Nat.zero_le _,Nat.zero_le _,λ_ h=>kJ,hT0⟩ ⟨rfl,aU,⟨aQ,aQ,rfl,by rw[hgi];exact aQ,rfl,rfl,rfl,trivial⟩,λR w' h=>h⟩ ?_
 rintro⟨i,qs,vl⟩ ⟨hil,hvl,hqo,hqc,hqp,hqi,hnn,hT⟩
 simp only at hil hvl hqo hqc hqp hqi hnn hT
 by_cases hlt:i<g.l.length
 ·have hgn:g.l[i]? =some g.l[i]:=List.getElem?_eq_getElem hlt
  have hrow:=bQ hlt
  have hD:=aoa hS hgn
  have hgr:=dn.node c g.l[i] i qs.pl vl aa
  have hnm:=List.getElem_mem hlt
  have hv0:=agS (c:=c) (n:=g.l[i]) (i:=i) (s:=qs.pl) hnn
  rw[List.drop_eq_getElem_cons hlt,gZ]at hT
  generalize g.l[i]=n at*
  have hNA:lH c qs vl:=⟨by omega,hqo,by omega,by omega,by omega⟩
  refine Wp.know (p:=∃a,g.base=some a) (λρ w' hw=>ae hw λR h=>aI (j:=i) (fK h.2).rows acM) ?_
  rintro⟨ga,hga⟩
  (repeat' ((conv=>whnf)<;>first|(show bC ..;refine ax ga i hga rfl hlt ?_)|(show iM ..;(refine dO (λR w' h=>by rw[<-hga];exact(fK h.2).rows) _ hrow rfl ?_))|(show aC _ 36 ..;refine XB [(9,.box (cs n.cells) 41),(2,.box [ak 0,.c (.slice none 0 0),.c (.slice none 0 0),.c (.slice none 0 0),ak 0,.c (.slice none 0 0)] 34),(0,.box [.c (.slice g.base g.l.length g.cap),ak g.out] 24)] 4 5 6 7 8 c qs vl (rH c qs n) [.lp 0 0 0 0,.agg (jM n),ak i,.c c.shapes.val,.c c.bH.val,.os 1 vl.length] _ _ _ _ Tryz.call36 rfl rfl rfl (λR w' h=>U5 hnm h) (GB w.heap.size) (λR w' h b hb=>(h.1.1 b hb).1) (λw' ρ' F' h'=>hD qs vl w' ρ' F' hNA hvl hnn h') (λq ⟨hq1,hq2,hq3⟩=> ?_))|(show sH ..;(refine fO zf ?_))|(show fG ..;(refine b_ aja ?_))|(show jd _ ((_,.rows (List.take vl.length _++_) _ _)::_) _ _ _;refine iG (ys:=ints (vl++[q.2])) (m:=(vl++[q.2]).length) ?_ (CP vl q.2) ai_)|refine aN ?_|refine ag ?_ ?_<;>intro _))
  all_goals(conv=>whnf)
  all_goals
   rw[<-hq1]at hT hgr
   rw[<-hq2]at hv0
   have hg3:=Zo hgr
   first|exact⟨(i+1,q.1,vl++[q.2]),[(5,some 16),(6,some 12),(7,some 13),(8,some 14)],⟨hlt,by show(vl++[q.2]).length=i+1;rw[List.length_append,hvl];rfl,hq3,by show q.1.code.length<=2048;omega,by show q.1.ay.length<=q.1.code.length;omega,by show q.1.inputs.length<=q.1.code.length;omega,λv hv=>(List.mem_append.1 hv).elim (hnn v) (λhv=>by rw[List.mem_singleton.1 hv];exact hv0),by rw[if_neg acH,<-hq2]at hT;exact hT⟩,by show g.l.length-(i+1)<g.l.length-i;omega,rfl,aU,aU,λR w' h=>⟨Fz h.1.1 h.2,h.1.2⟩⟩|exact nA (λ_ _ h=>h.1.1.1) rfl (by rw[if_pos alb]at hT;rw[<-hT];rfl) (λρ=>rfl)
 ·obtain rfl:i=g.l.length:=by omega
  rw[List.drop_length,gZ]at hT
  rw[<-hT]
  have hol:g.out.toNat<g.l.length:=by omega
  obtain⟨t2,u,_,_,hu,_,_,eu,_⟩:=hS.at_ hol
  have ho1:=(List.getElem?_eq_some_iff.1 hu).1
  have ho2:g.out.toNat<vl.length:=by omega
  have hrow:(aM c.bH.l)[g.out.toNat]? =some [u.val]:=by unfold aM;rw[List.getElem?_map,hu];rfl
  have wN:=List.mem_of_getElem? hu
  refine Wp.know (p:=∃a,c.bH.base=some a) (λρ w' hw=>ae hw λR h=>aI (j:=g.out.toNat) (aO h.1.2.1.2.1) (by rw[aR];exact ho1)) ?_
  rintro⟨sa,hsa⟩
  (repeat' ((conv=>whnf)<;>first|(show bC ..;refine ax sa g.out.toNat hsa aa ho1 ?_)|(show fu ..;(refine aW (λR w' h=>by rw[<-hsa];exact aO h.1.2.1.2.1) _ _ hrow rfl ?_))|(show bV ..;(refine aT g.out.toNat aa ho2 zf ?_))|(show kC ..;refine lY ho2 ?_)|refine aN ?_|refine ag ?_ ?_<;>intro _))
  all_goals(conv=>whnf)
  all_goals exact abo (c:=c) (s:=qs) (out:=u) (last:=vl.getD g.out.toNat 0) rfl (λ_ _ h=>h.1) hqo hS.spS ⟨hqc,by omega,by omega⟩ wN aQ aQ aQ rfl rfl rfl (by show(_,_)=(_,_);rw[eu])
end
abbrev aiF(w:World)(g:bE)(sv:aY)(us:List aj):bJ:=(((aH w).and (vZ λw=>g.ok w)).and ((jy sv).past w.heap.size)).and (lS w.heap.size us)
theorem Zw(w:World)(g:bE)(o:Am)(m:Nat)(hm:4<=m/\m<=2048)(hsp:(bT g).1=0):
 aiE w (kD g o.layout o.giant m) 6 [(2,ak m),(3,.lp 0 0 0 0),(4,.lp 1 0 0 0),(6,.lp 2 0 0 0)] [(2,.box [ak 0,.c (.slice none 0 0),.c (.slice none 0 0),.c (.slice none 0 0),ak 0,.c (.slice none 0 0)] 34),(1,.box [ak o.layout,.c (.bool o.tidy),.c (.bool o.lazy),.c (.bool o.giant),ak o.rows] 26),(0,.box [.c (.slice g.base g.l.length g.cap),ak g.out] 24)] ((aH w).and (vZ λw=>g.ok w)) 3:=by
 obtain⟨hck,_,_⟩:=jA hsp
 obtain⟨hl1,xn,hout,hcl,hin⟩:=gX hck
 refine Wp.know (p:=∃w',g.ok w') (λρ w' hw=>⟨w',ae hw λR h=>fK h.2⟩) ?_
 rintro⟨wg,hg⟩
 (repeat' ((conv=>whnf)<;>first|(show aC _ 34 ..;refine vU (f:=34) (check g) Tryz.call34 (λρ w' hw=>nJ w' g (ae hw λR h=>fK h.2)) (λh=>absurd hck h) (λ_ sv hsm hsv hsc=> ?_))|refine aN ?_))
 all_goals(conv=>whnf)
 have hsl:sv.l.length=g.l.length:=by have:=congrArg List.length hsm;rw[List.length_map]at this;omega
 obtain⟨Z,TZ⟩:∃Z,gy o.layout m ((sv.l.drop 0).map aj.xs) []=Z:=⟨_,rfl⟩
 have Rn:gy o.layout m (check g).2 []=Z:=by rw[<-TZ,List.drop_zero];exact congrArg (λz=>gy o.layout m z []) hsm.symm
 refine Wp.loop (σ:=Nat×List aj) 4 (λq=>[(2,ak m),(3,.lp 0 0 0 0),(4,.lp 1 0 0 0),(6,.lp 2 0 0 0),(12,.c sv.val),(14,.os 3 q.2.length),(67,.c sv.val),(68,ak sv.l.length),(69,ak q.1)])
  (λq=>[(3,.rows (aM q.2) 1 32),(2,.box [ak 0,.c (.slice none 0 0),.c (.slice none 0 0),.c (.slice none 0 0),ak 0,.c (.slice none 0 0)] 34),(1,.box [ak o.layout,.c (.bool o.tidy),.c (.bool o.lazy),.c (.bool o.giant),ak o.rows] 26),(0,.box [.c (.slice g.base g.l.length g.cap),ak g.out] 24)])
  (λq=>aiF w g sv q.2) (λq=>q.1<=sv.l.length/\q.2.length=q.1/\(∀u∈q.2,u.a_)/\gy o.layout m ((sv.l.drop q.1).map aj.xs) (q.2.map aj.xs)=Z) (λq=>sv.l.length-q.1) (0,[]) [(3,none)] aS (λq=>⟨rfl,rfl⟩) ⟨Nat.zero_le _,rfl,λ_ h=>kJ,TZ⟩
  ⟨rfl,aU,⟨rfl,aQ,aQ,aQ,trivial⟩,λR w' h=>⟨h,λu hu=>by cases hu⟩⟩ ?_
 rintro⟨k,us⟩ ⟨hkl,yf,fP,hZ⟩
 simp only at hkl yf fP hZ
 by_cases hlt:k<sv.l.length
 ·rw[List.drop_eq_getElem_cons hlt,List.map_cons]at hZ
  have hrow:=dh hlt
  have wN:=List.getElem_mem hlt
  generalize sv.l[k]=u at*
  refine Wp.know (p:=∃a,sv.base=some a) (λρ w' hw=>ae hw λR h=>aI (j:=k) (aO h.1.2.1) RN) ?_
  rintro⟨sa,hsa⟩
  by_cases hok:(fT u.xs o.layout m).2=0
  ·rw[Bf hok]at hZ
   (repeat' ((conv=>whnf)<;>first|(show bC ..;refine ax sa k hsa rfl hlt ?_)|(show fu ..;(refine aW (λR w' h=>by rw[<-hsa];exact aO h.1.2.1) _ _ hrow rfl ?_))|(show @dR _ _ _;(refine cK (by rw[hok];decide) ?_))|(refine ag_ ?_;intro x hx hxs)|(show sH ..;(refine fO Pq ?_))|(show fG ..;(refine b_ af2 ?_))|(show jd _ ((_,.rows (List.take us.length _++_) _ _)::_) _ _ _;refine iG (ys:=aM (us++[x])) (m:=(us++[x]).length) ?_ (D5 us x) ai9)|refine aN ?_|refine ag ?_ ?_<;>intro _))
   all_goals(conv=>whnf)
   all_goals exact⟨(k+1,us++[x]),[(3,some 5)],⟨hlt,by show(us++[x]).length=k+1;rw[List.length_append,yf];rfl,λv hv=>(List.mem_append.1 hv).elim (fP v) (λhv=>by rw[List.mem_singleton.1 hv];exact hxs),by show gy o.layout m _ ((us++[x]).map aj.xs)=Z;rw[List.map_append,List.map_cons,List.map_nil,hx];exact hZ⟩,by show sv.l.length-(k+1)<sv.l.length-k;omega,rfl,aU,aU,λR w' h=>⟨h.1.1,kW h.1.2 (Fy h.2)⟩⟩
  ·rw[Bg hok]at hZ
   (repeat' ((conv=>whnf)<;>first|(show bC ..;refine ax sa k hsa rfl hlt ?_)|(show fu ..;(refine aW (λR w' h=>by rw[<-hsa];exact aO h.1.2.1) _ _ hrow rfl ?_))|(show @dR _ _ _;refine bA hok ?_)|(refine ag_ ?_;intro x hx hxs)|refine aN ?_|refine ag ?_ ?_<;>intro _))
   all_goals(conv=>whnf)
   have e2:Z.2=(fT u.xs o.layout m).2:=by rw[<-hZ]
   all_goals exact nA (λ_ _ h=>h.1.1.1.1) rfl ahx (λρ=>rfl)
 obtain rfl:k=sv.l.length:=by omega
 rw[List.drop_length]at hZ
 have hZ:(us.map aj.xs,(0:Int))=Z:=hZ
 refine Wp.yE 3 w.heap.size (k:=1) (xs:=aM us) (T:=32) aQ (λR w' h b hb=>(h.1.1.1 b hb).1) (λfl hfl=> ?_)
 have hz2:(gy o.layout m (check g).2 []).2=0:=by rw[Rn,<-hZ]
 obtain⟨c,hc⟩:∃c:dM,c=⟨m,o.giant,sv,⟨fl.base,fl.cap,us⟩⟩:=⟨_,rfl⟩
 have hS:Ap c o.layout (check g).2 g.l:=Q6 hg hck hm hz2 Ni (by rw[hc];exact hsm) (by rw[hc];exact hsv) (by rw[hc,Rn,<-hZ]) (by rw[hc];exact fP)
 have hr:kD g o.layout o.giant m=qJ c g:=by
  unfold kD
  rw[if_neg (λh=>h hz2)]
  exact Bh ⟨by rw[hc],by rw[hc],by rw[Bi,hc];exact hsm.symm,by rw[Bi,Rn,<-hZ,hc]⟩ rfl rfl
 rw[hr]
 have h9:=agT w g o c o.layout hS (by rw[hc];exact hm.2) Ni ⟨hl1,xn⟩ hout
 iterate 2
  refine Wp.go fA rfl ?_
  (repeat' ((conv=>whnf)<;>first|refine Bu ?_|refine ag ?_ ?_<;>intro _))
 exact Wp.into 4 [] h9 aS ⟨rfl,rfl⟩ ⟨rfl,⟨by rw[hc];rfl,rfl,rfl,rfl,by rw[hc];rfl,by rw[hc];rfl,trivial⟩,aU,λR w' h=>⟨⟨h.1.1.1.1,⟨by rw[hc];exact h.1.1.2,by rw[hc];exact⟨h.2,h.1.2⟩⟩,λ_ h=>kJ⟩,h.1.1.1.2⟩⟩
end Go.Proofs.YtgndjjdeopfdkaaGreat

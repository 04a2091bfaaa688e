import Derived.Test.YtgndjjdeopfdkaaGreatRows
import Derived.Test.YtgndjjdeopfdkaaGreatKLowerMakes13
/- texts VA LV of the proof of LowerMakesSaid -/
set_option maxHeartbeats 16000000
set_option maxRecDepth 20000
namespace Go.Proofs.YtgndjjdeopfdkaaGreat
abbrev amK:Go.SX.DT:=(eF [0,1,2,3,4,5,6,7,8,9,11,110,12] .done)
open Go.SX Go.RowKit
abbrev LpW(w:World)(ρ:Nat->SX.Loc)(F:Nat->Prop)(c:dM)(s:cZ)(vl:List Int)(k:Nat)(env:Env)(H:Heap)(S:bJ)(nx:Nat)(r:fF×Int):Prop:=Wp ⟨Tryz.prog,⟨w,mq 2 ρ⟩,Tryz.f31.ntmps,tab⟩ (OX k (bodyC Tryz.f31)) env H S nx (Sn ⟨Tryz.prog,⟨w,mq 2 ρ⟩,Tryz.f31.ntmps,tab⟩ Tryz.f31.results.toList (ou w ρ F c s vl r))
abbrev lpF(w:World)(F:Nat->Prop)(s0:cZ)(c:dM)(n:ai)(s:cZ):bJ:=((((dP s.ay).and ((D6 s0.ay s.ay).off (dU w F))).and (u7 c)).and (TM n)).and (f_ w F)
structure afD(c:dM)(q:cZ)(k:Nat)(n:ai)(i:Nat)(sp:aj):Prop where
 slots:1<=c.slots/\c.slots<=4096
 low:lJ c k q
 few:k<=600000
 hi:c.bH.l[i]? =some sp
 hsp:sp.a_
 places:∀z∈sp.xs,0<=z/\z<c.slots
 data:n.data.xs.length=3
theorem aiL(c:dM)(s q:cZ)(vl:List Int)(k:Nat)(o:Int)(sb:Bool)(n:ai)(i:Nat)(x v:Int)(sp:aj)(hP:afD c q k n i sp)(hv:n.data.xs.getD 0 0=v)(h64:i64 v)(w:World)(ρ:Nat->SX.Loc)(F:Nat->Prop):
 LpW w ρ F c s vl 5 [(0,.lp 0 0 0 0),(2,ak i),(4,.lp 5 0 0 0),(7,ak x),(8,.lp 6 0 0 0)] ((6,.box ([.lp 0 0 0 0,ak o,.c (.bool sb)]) 129)::(5,.box (cs n.cells) 41)::xG c q vl 0 1 80 81 82) (lpF w F s c n q) 83 (pw4 c.slots (q.pl,o) v sp.xs):=by
 obtain⟨hs,z0,hk,hi,hsp,hpl,hd⟩:=hP
 refine Wp.know (p:=∃a,n.data.base=some a) (λρ w' hw=>ae hw λR h=>aI (j:=0) (fK h.1.2.2.1) vD) ?_
 rintro⟨da,hda⟩
 unfold pw4
 by_cases h0:v=0
 ·rw[if_pos h0]
  (repeat' ((conv=>whnf)<;>first|(show bC ..;refine ax da 0 hda rfl aa ?_)|refine ahs ?_|refine aN ?_|refine ag ?_ ?_<;>intro _))
  all_goals(conv=>whnf)
  all_goals exact eU _ _ _ _ (q,o) [(2,some 80),(3,some 81),(4,some 82)] ⟨rfl,rfl,z0.ok⟩ aS rfl rfl rfl rfl aU (λR w' h=>⟨h.2,h.1.1.1.2⟩)
 ·rw[if_neg h0]
  (repeat' ((conv=>whnf)<;>first|(show cO _ 18 ..;refine mE [14] [(6,.box [.lp 0 0 0 0,ak o,.c (.bool sb)] 129)] (eF [0,1,2,3,4,5,6,7,8,109,110,111,112,13,114] .done) ?_ (h6:=List.Sublist.cons_cons _ (List.nil_sublist _)))|(show iK ..;refine og ?_)|(show bC ..;refine ax da 0 hda rfl aa ?_)|refine ahs ?_|refine Yf ?_|refine I_ ?_|(show aC _ 69 ..;(refine qE rfl [(6,.box ([.lp 0 0 0 0,ak o,.c (.bool sb)]) 129),(5,.box (cs n.cells) 41)] 83 0 1 80 81 82 c (q) vl 132 [.int .i64 (v)] 3 i (λ_=>v) dW sp hs.2 (z0).ok.ay acS hi hsp hpl (λ_ _=>h64) Tryz.call132 (λR w' bb ee _ hh _=>xE w' bb ee (v) _ hh) rfl rfl rfl (λR w' h=>⟨⟨h.1.1.1.1,h.1.1.2⟩,trivial⟩) (dU w F) (λR w' h b hb=>((h).2 b hb).1) (λu hu fP=> ?_)))|(show aC _ 68 [_,ak 4,_,_,_] ..;(refine dN [(6,.box ([.lp 0 0 0 0,ak o,.c (.bool sb)]) 129),(5,.box (cs n.cells) 41)] 0 1 86 87 88 c ((az q u).1) vl dW [.lp 0 0 0 0,ak 4,ak (o),ak (0),ak ((az q u).2)] _ _ _ _ Tryz.call68 rfl rfl rfl (λR w' h=>trivial) (dU w F) (λR w' h b hb=>((h.1).2 b hb).1) (λw' ρ' F' h'=>gN c ((az q u).1) vl 4 (o) (0) ((az q u).2) acJ w' ρ' F' h') (λ_ _=> ?_)))|refine aN ?_|refine ag ?_ ?_<;>intro _))
  all_goals(conv=>whnf)
  have hS:=h_ (s:=q) hu
  rw[hS]
  exact eU _ _ _ _ (cu (az q u).1 4 o 0 (az q u).2,((az q u).1.code.length:Int)) [(2,some 92),(3,some 93),(4,some 94)] ⟨rfl,rfl,qA (nN z0.ok fP) _ _ _ _⟩ aS rfl rfl rfl rfl aU (λR w' h=>⟨h.1.1.2,gQ h.1.1.1.1.1.2 h.1.2⟩)
theorem Vv(c:dM)(s q:cZ)(vl:List Int)(k:Nat)(m:Option Int)(n:ai)(i:Nat)(x v:Int)(sp:aj)(hP:afD c q k n i sp)(hk:k<=599000)(hv:n.data.xs.getD 0 0=v)(h64:i64 v)(w:World)(ρ:Nat->SX.Loc)(F:Nat->Prop):
 LpW w ρ F c s vl 4 [(0,.lp 0 0 0 0),(2,ak i),(4,.lp 5 0 0 0),(7,ak x),(8,.lp 6 0 0 0)] ((6,.box (jL m) 129)::(5,.box (cs n.cells) 41)::xG c q vl 0 1 60 61 62) (lpF w F s c n q) 63 (pw4 c.slots (Xu c.slots (q.pl,m) x) v sp.xs):=by
 obtain⟨hs,z0,_,hi,hsp,hpl,hd⟩:=hP
 rcases m with _|a
 ·iterate 2
   refine Wp.go fA rfl ?_
   (repeat' ((conv=>whnf)<;>first|(show aC _ 74 ..;(refine dN [(6,.box (jL none) 129),(5,.box (cs n.cells) 41)] 0 1 60 61 62 c q vl (dP q.ay) [.lp 0 0 0 0,ak x] _ _ _ _ Tryz.call74 rfl rfl rfl (λR w' h=>h.1.1.1.1) (dU w F) (λR w' h b hb=>(h.2 b hb).1) (λw' ρ' F' h'=>Ty c q vl x hs.2 z0.ok.ay RO G_ w' ρ' F' h') (λu ⟨hu,fP⟩=> ?_)))))
  have e:Xu c.slots (q.pl,none) x=((zeroV q u x).pl,(q.code.length:Int)):=yJ hu
  rw[e]
  exact Wp.into 83 [(80,some 65),(81,some 66),(82,some 67)] (aiL c s (zeroV q u x) vl (k+2) q.code.length false n i x v sp ⟨hs,z0.zero fP x,by omega,hi,hsp,hpl,hd⟩ hv h64 w ρ F) aS ⟨rfl,rfl⟩ ⟨rfl,aU,aU,λR w' h=>⟨⟨⟨⟨mr h.1.1.1.1.1 (jN h.2),gQ h.1.1.1.1.2 h.2⟩,h.1.1.1.2⟩,h.1.1.2⟩,h.1.2⟩⟩
 ·iterate 2
   refine Wp.go fA rfl ?_
   (repeat' ((conv=>whnf)<;>first|fail))
  exact Wp.into 83 [(80,some 60),(81,some 61),(82,some 62)] (aiL c s q vl k a true n i x v sp ⟨hs,z0,by omega,hi,hsp,hpl,hd⟩ hv h64 w ρ F) aS ⟨rfl,rfl⟩ ⟨rfl,aU,aU,λR w' h=>h⟩
theorem afE(c:dM)(s q:cZ)(vl:List Int)(k:Nat)(b:Int)(m:Option Int)(n:ai)(i:Nat)(x v:Int)(sp:aj)(hP:afD c q k n i sp)(hk:k<=598000)(hv:n.data.xs.getD 0 0=v)(h64:i64 v)(hb:n.data.xs.getD 1 0=b)(Hy:i64 b)(w:World)(ρ:Nat->SX.Loc)(F:Nat->Prop):
 LpW w ρ F c s vl 3 [(0,.lp 0 0 0 0),(2,ak i),(4,.lp 5 0 0 0),(7,ak x),(8,.lp 6 0 0 0)] ((6,.box (jL m) 129)::(5,.box (cs n.cells) 41)::xG c q vl 0 1 40 41 42) (lpF w F s c n q) 43 (pw4 c.slots (Xu c.slots (Xt c.slots (q.pl,m) x b sp.xs) x) v sp.xs):=by
 obtain⟨hs,z0,_,hi,hsp,hpl,hd⟩:=hP
 refine Wp.know (p:=∃a,n.data.base=some a) (λρ w' hw=>ae hw λR h=>aI (j:=0) (fK h.1.2.2.1) vD) ?_
 rintro⟨da,hda⟩
 unfold Xt
 by_cases h0:b=0
 ·rw[if_pos h0]
  iterate 4
   refine Wp.go fA rfl ?_
   (repeat' ((conv=>whnf)<;>first|refine RH ?_|refine RI ?_|refine Bu ?_|refine ag ?_ ?_<;>intro _))
  exact Wp.into 63 [(60,some 40),(61,some 41),(62,some 42)] (Vv c s q vl k m n i x v sp ⟨hs,z0,by omega,hi,hsp,hpl,hd⟩ aa hv h64 w ρ F) aS ⟨rfl,rfl⟩ ⟨rfl,aU,aU,λR w' h=>h⟩
 rw[if_neg h0]
 by_cases h1:b=1
 ·rw[if_pos h1,<-Ee q m x]
  rcases m with _|a
  ·iterate 8
    refine Wp.go fA rfl ?_
    (repeat' ((conv=>whnf)<;>first|refine RH ?_|refine RI ?_|refine Ng ?_|refine I_ ?_|refine Bu ?_|refine ag ?_ ?_<;>intro _))
   exact Wp.into 63 [(60,some 40),(61,some 41),(62,some 42)] (Vv c s q vl k (some x) n i x v sp ⟨hs,z0,by omega,hi,hsp,hpl,hd⟩ aa hv h64 w ρ F) aS ⟨rfl,rfl⟩ ⟨rfl,aU,aU,λR w' h=>h⟩
  ·iterate 8
    refine Wp.go fA rfl ?_
    (repeat' ((conv=>whnf)<;>first|refine RH ?_|refine RI ?_|refine Ng ?_|(show cO _ 1 ..;refine mE [9,10] _ abX ?_)|refine I_ ?_|(show aC _ 68 [_,ak 3,_,_,_] ..;(refine dN [(6,.box (jL (some a)) 129),(5,.box (cs n.cells) 41)] 0 1 40 41 42 c (q) vl dW [.lp 0 0 0 0,ak 3,ak (a),ak (x),ak (0)] _ _ _ _ Tryz.call68 rfl rfl rfl (λR w' h=>trivial) (dU w F) (λR w' h b hb=>((h).2 b hb).1) (λw' ρ' F' h'=>gN c (q) vl 3 (a) (x) (0) acT w' ρ' F' h') (λ_ _=> ?_)))|refine Bu ?_|refine ag ?_ ?_<;>intro _))
   exact Wp.into 63 [(60,some 45),(61,some 46),(62,some 47)] (Vv c s (cu q 3 a x 0) vl (k+1) (some q.code.length) n i x v sp ⟨hs,z0.lay 3 a x 0,by omega,hi,hsp,hpl,hd⟩ aa hv h64 w ρ F) aS ⟨rfl,rfl⟩ ⟨rfl,aU,aU,λR w' h=>h.1⟩
 ·rw[if_neg h1]
  rcases m with _|a
  ·iterate 11
    refine Wp.go fA rfl ?_
    (repeat' ((conv=>whnf)<;>first|refine RH ?_|refine RI ?_|refine Ng ?_|refine Yf ?_|refine I_ ?_|(show aC _ 69 ..;(refine qE rfl [(6,.box (jL none) 129),(5,.box (cs n.cells) 41)] 43 0 1 40 41 42 c (q) vl 132 [.int .i64 (b)] 3 i (λ_=>b) dW sp hs.2 (z0).ok.ay acS hi hsp hpl (λ_ _=>Hy) Tryz.call132 (λR w' bb ee _ hh _=>xE w' bb ee (b) _ hh) rfl rfl rfl (λR w' h=>⟨⟨h.1.1.1.1,h.1.1.2⟩,trivial⟩) (dU w F) (λR w' h b hb=>((h).2 b hb).1) (λu hu fP=> ?_)))|(show aC _ 68 [_,ak 5,_,_,_] ..;(refine dN [(6,.box (jL none) 129),(5,.box (cs n.cells) 41)] 0 1 46 47 48 c ((az q u).1) vl dW [.lp 0 0 0 0,ak 5,ak (x),ak (0),ak ((az q u).2)] _ _ _ _ Tryz.call68 rfl rfl rfl (λR w' h=>trivial) (dU w F) (λR w' h b hb=>((h.1).2 b hb).1) (λw' ρ' F' h'=>gN c ((az q u).1) vl 5 (x) (0) ((az q u).2) acJ w' ρ' F' h') (λ_ _=> ?_)))|refine Bu ?_|refine ag ?_ ?_<;>intro _))
   have hS:=h_ (s:=q) hu
   dsimp only
   rw[hS,nO,<-Ee]
   exact Wp.into 63 [(60,some 52),(61,some 53),(62,some 54)] (Vv c s (cu (az q u).1 5 x 0 (az q u).2) vl (k+2) (some (az q u).1.code.length) n i x v sp ⟨hs,(z0.plain fP).lay 5 x 0 (az q u).2,by omega,hi,hsp,hpl,hd⟩ aa hv h64 w ρ F) aS ⟨rfl,rfl⟩ ⟨rfl,aU,aU,λR w' h=>⟨⟨⟨⟨mr h.1.1.1.1.1.1 (jN h.1.2),gQ h.1.1.1.1.1.2 h.1.2⟩,h.1.1.1.1.2⟩,h.1.1.1.2⟩,h.1.1.2⟩⟩
  ·iterate 11
    refine Wp.go fA rfl ?_
    (repeat' ((conv=>whnf)<;>first|refine RH ?_|refine RI ?_|refine Ng ?_|(show cO _ 1 ..;refine mE [9,10] _ abX ?_)|refine Yf ?_|refine I_ ?_|(show aC _ 69 ..;(refine qE rfl [(6,.box (jL (some a)) 129),(5,.box (cs n.cells) 41)] 43 0 1 40 41 42 c (q) vl 132 [.int .i64 (b)] 3 i (λ_=>b) dW sp hs.2 (z0).ok.ay acS hi hsp hpl (λ_ _=>Hy) Tryz.call132 (λR w' bb ee _ hh _=>xE w' bb ee (b) _ hh) rfl rfl rfl (λR w' h=>⟨⟨h.1.1.1.1,h.1.1.2⟩,trivial⟩) (dU w F) (λR w' h b hb=>((h).2 b hb).1) (λu hu fP=> ?_)))|(show aC _ 68 [_,ak 5,_,_,_] ..;(refine dN [(6,.box (jL (some a)) 129),(5,.box (cs n.cells) 41)] 0 1 46 47 48 c ((az q u).1) vl dW [.lp 0 0 0 0,ak 5,ak (x),ak (0),ak ((az q u).2)] _ _ _ _ Tryz.call68 rfl rfl rfl (λR w' h=>trivial) (dU w F) (λR w' h b hb=>((h.1).2 b hb).1) (λw' ρ' F' h'=>gN c ((az q u).1) vl 5 (x) (0) ((az q u).2) acJ w' ρ' F' h') (λ_ _=> ?_)))|(show aC _ 68 [_,ak 3,_,_,_] ..;(refine dN [(6,.box (jL (some a)) 129),(5,.box (cs n.cells) 41)] 0 1 52 53 54 c (cu (az q u).1 5 x 0 (az q u).2) vl dW [.lp 0 0 0 0,ak 3,ak (a),ak ((az q u).1.code.length),ak (0)] _ _ _ _ Tryz.call68 rfl rfl rfl (λR w' h=>trivial) (dU w F) (λR w' h b hb=>((h.1.1).2 b hb).1) (λw' ρ' F' h'=>gN c (cu (az q u).1 5 x 0 (az q u).2) vl 3 (a) ((az q u).1.code.length) (0) (by have:=((z0.plain fP).lay 5 x 0 (az q u).2).lM;omega) w' ρ' F' h') (λ_ _=> ?_)))|refine Bu ?_|refine ag ?_ ?_<;>intro _))
   have hS:=h_ (s:=q) hu
   dsimp only
   rw[hS,nO,<-Ee]
   exact Wp.into 63 [(60,some 57),(61,some 58),(62,some 59)] (Vv c s (cu (cu (az q u).1 5 x 0 (az q u).2) 3 a (az q u).1.code.length 0) vl (k+3) (some (cu (az q u).1 5 x 0 (az q u).2).code.length) n i x v sp ⟨hs,((z0.plain fP).lay 5 x 0 (az q u).2).lay 3 a (az q u).1.code.length 0,by omega,hi,hsp,hpl,hd⟩ aa hv h64 w ρ F) aS ⟨rfl,rfl⟩ ⟨rfl,aU,aU,λR w' h=>⟨⟨⟨⟨mr h.1.1.1.1.1.1.1 (jN h.1.1.2),gQ h.1.1.1.1.1.1.2 h.1.1.2⟩,h.1.1.1.1.1.2⟩,h.1.1.1.1.2⟩,h.1.1.1.2⟩⟩
theorem amL(c:dM)(q:cZ)(vl:List Int)(a b:Int)(n:ai)(i:Nat)(x v:Int)(sp:aj)(hP:afD c q 500000 n i sp)(hv:n.data.xs.getD 0 0=v)(h64:i64 v)(hb:n.data.xs.getD 1 0=b)(Hy:i64 b)(ha:n.data.xs.getD 2 0=a)(aka:i64 a)(w:World)(ρ:Nat->SX.Loc)(F:Nat->Prop):
 LpW w ρ F c q vl 2 [(0,.lp 0 0 0 0),(2,ak i),(4,.lp 5 0 0 0),(7,ak x),(8,.lp 6 0 0 0)] ((6,.box (jL none) 129)::(5,.box (cs n.cells) 41)::xG c q vl 0 1 2 3 4) (lpF w F q c n q) 7 (pw4 c.slots (Xu c.slots (Xt c.slots (Zq c.slots q.pl x a sp.xs) x b sp.xs) x) v sp.xs):=by
 obtain⟨hs,z0,_,hi,hsp,hpl,hd⟩:=hP
 refine Wp.know (p:=∃a,n.data.base=some a) (λρ w' hw=>ae hw λR h=>aI (j:=0) (fK h.1.2.2.1) vD) ?_
 rintro⟨da,hda⟩
 unfold Zq
 by_cases h0:a=0
 ·rw[if_pos h0]
  iterate 3
   refine Wp.go fA rfl ?_
   (repeat' ((conv=>whnf)<;>first|(show bC ..;refine ax da 2 hda rfl aa ?_)|refine acr ?_|refine Bu ?_|refine ag ?_ ?_<;>intro _))
  exact Wp.into 43 [(40,some 2),(41,some 3),(42,some 4)] (afE c q q vl 500000 b none n i x v sp ⟨hs,z0,by omega,hi,hsp,hpl,hd⟩ aa hv h64 hb Hy w ρ F) aS ⟨rfl,rfl⟩ ⟨rfl,aU,aU,λR w' h=>h⟩
 rw[if_neg h0]
 by_cases h1:a=1
 ·rw[if_pos h1]
  iterate 9
   refine Wp.go fA rfl ?_
   (repeat' ((conv=>whnf)<;>first|(show bC ..;refine ax da 2 hda rfl aa ?_)|refine acr ?_|refine Ng ?_|refine I_ ?_|(show aC _ 68 [_,ak 6,_,_,_] ..;(refine dN [(6,.box (jL none) 129),(5,.box (cs n.cells) 41)] 0 1 2 3 4 c (q) vl dW [.lp 0 0 0 0,ak 6,ak (x),ak (x),ak (0)] _ _ _ _ Tryz.call68 rfl rfl rfl (λR w' h=>trivial) (dU w F) (λR w' h b hb=>((h).2 b hb).1) (λw' ρ' F' h'=>gN c (q) vl 6 (x) (x) (0) acT w' ρ' F' h') (λ_ _=> ?_)))|refine Bu ?_|refine ag ?_ ?_<;>intro _))
  exact Wp.into 43 [(40,some 9),(41,some 10),(42,some 11)] (afE c q (cu q 6 x x 0) vl 500001 b (some q.code.length) n i x v sp ⟨hs,z0.lay 6 x x 0,by omega,hi,hsp,hpl,hd⟩ aa hv h64 hb Hy w ρ F) aS ⟨rfl,rfl⟩ ⟨rfl,aU,aU,λR w' h=>h.1⟩
 ·rw[if_neg h1]
  iterate 12
   refine Wp.go fA rfl ?_
   (repeat' ((conv=>whnf)<;>first|(show bC ..;refine ax da 2 hda rfl aa ?_)|refine acr ?_|refine Ng ?_|(show aC _ 68 [_,ak 6,_,_,_] ..;(refine dN [(6,.box (jL none) 129),(5,.box (cs n.cells) 41)] 0 1 2 3 4 c (q) vl dW [.lp 0 0 0 0,ak 6,ak (x),ak (x),ak (0)] _ _ _ _ Tryz.call68 rfl rfl rfl (λR w' h=>trivial) (dU w F) (λR w' h b hb=>((h).2 b hb).1) (λw' ρ' F' h'=>gN c (q) vl 6 (x) (x) (0) acT w' ρ' F' h') (λ_ _=> ?_)))|refine Yf ?_|refine I_ ?_|(show aC _ 69 ..;(refine qE rfl [(6,.box (jL none) 129),(5,.box (cs n.cells) 41)] 12 0 1 9 10 11 c (cu q 6 x x 0) vl 132 [.int .i64 (a)] 3 i (λ_=>a) dW sp hs.2 (z0.lay 6 x x 0).ok.ay (by have:=(z0.lay 6 x x 0).qM;omega) hi hsp hpl (λ_ _=>aka) Tryz.call132 (λR w' bb ee _ hh _=>xE w' bb ee (a) _ hh) rfl rfl rfl (λR w' h=>⟨⟨h.1.1.1.1.1,h.1.1.1.2⟩,trivial⟩) (dU w F) (λR w' h b hb=>((h.1).2 b hb).1) (λu hu fP=> ?_)))|(show aC _ 68 [_,ak 5,_,_,_] ..;(refine dN [(6,.box (jL none) 129),(5,.box (cs n.cells) 41)] 0 1 15 16 17 c ((az (cu q 6 x x 0) u).1) vl dW [.lp 0 0 0 0,ak 5,ak (q.code.length),ak (0),ak ((az (cu q 6 x x 0) u).2)] _ _ _ _ Tryz.call68 rfl rfl rfl (λR w' h=>trivial) (dU w F) (λR w' h b hb=>((h.1.1).2 b hb).1) (λw' ρ' F' h'=>gN c ((az (cu q 6 x x 0) u).1) vl 5 (q.code.length) (0) ((az (cu q 6 x x 0) u).2) (by have:=((z0.lay 6 x x 0).plain fP).lM;omega) w' ρ' F' h') (λ_ _=> ?_)))|refine Bu ?_|refine ag ?_ ?_<;>intro _))
  have hS:=h_ (s:=cu q 6 x x 0) hu
  rw[nO]
  dsimp only
  rw[hS]
  exact Wp.into 43 [(40,some 21),(41,some 22),(42,some 23)] (afE c q (cu (az (cu q 6 x x 0) u).1 5 q.code.length 0 (az (cu q 6 x x 0) u).2) vl 500003 b (some (az (cu q 6 x x 0) u).1.code.length) n i x v sp ⟨hs,((z0.lay 6 x x 0).plain fP).lay 5 q.code.length 0 (az (cu q 6 x x 0) u).2,by omega,hi,hsp,hpl,hd⟩ aa hv h64 hb Hy w ρ F) aS ⟨rfl,rfl⟩ ⟨rfl,aU,aU,λR w' h=>⟨⟨⟨⟨mr h.1.1.1.1.1.1.1 (jN h.1.2),gQ h.1.1.1.1.1.1.2 h.1.2⟩,h.1.1.1.1.1.2⟩,h.1.1.1.1.2⟩,h.1.1.1.2⟩⟩
theorem abE(c:dM)(s:cZ)(vl:List Int)(n:ai)(i:Nat)(sp:aj)(hN:lH c s vl)(h0:0<=n.a)(hna:n.a.toNat<vl.length)(hd:n.data.xs.length=3)(hds:n.data.a_)(hi:c.bH.l[i]? =some sp)(zb:sp.a_)(hpl:∀x∈sp.xs,0<=x/\x<c.slots)(w:World)(ρ:Nat->SX.Loc)(F:Nat->Prop)(h:iW w ρ F 2 5 (kR c s vl) (BO c s n)):
 Calls Tryz.prog 31 (SV.d_ ρ [.lp 0 0 0 0,.agg (jM n),ak i]).toArray w (ou w ρ F c s vl (lu c.slots s.pl (vl.getD n.a.toNat 0) n.data.xs sp.xs)):=by
 have h64:∀j,j<n.data.xs.length->i64 (n.data.xs.getD j 0):=λj hj=>by
  rw[List.getD_eq_getElem?_getD,List.getElem?_eq_getElem hj];exact hds.fits _ (List.getElem_mem hj)
 have agH:=h64 0 aa
 have agI:=h64 1 aa
 have agJ:=h64 2 aa
 obtain⟨x,hx⟩:∃x,vl.getD n.a.toNat 0=x:=⟨_,rfl⟩
 rw[Q8,hx]
 have hP:afD c s 500000 n i sp:=⟨hN.slots,⟨hN.ok,hN.qM,hN.lM⟩,by omega,hi,zb,hpl,hd⟩
 refine Es Tryz.func31 (mq 2 ρ) ρ [.lp 0 0 0 0,.agg (jM n),ak i] (kR c s vl) ((BO c s n).and (f_ w F)) 5 h.abs ?_
 iterate 2
  refine Wp.go fA rfl ?_
  (repeat' ((conv=>whnf)<;>first|(show cO _ 1 ..;refine mE [] _ amK ?_)|(show iK ..;refine og ?_)|(show bV ..;(refine aT n.a.toNat aa hna zf ?_))|(show kC ..;refine Il hna hx ?_)))
 all_goals exact Wp.into 7 [] (amL c s vl (n.data.xs.getD 2 0) (n.data.xs.getD 1 0) n i x (n.data.xs.getD 0 0) sp hP rfl agH rfl agI rfl agJ w ρ F) aS ⟨rfl,rfl⟩ ⟨rfl,aU,aU,λR w' h=>⟨⟨⟨⟨h.1.1.1,lG _ _ _⟩,h.1.1.2⟩,h.1.2⟩,h.2⟩⟩
theorem abF{c:dM}{layout:Int}{sh:List (List Int)}{g:List ai}(h:Ap c layout sh g){i:Nat}{n:ai}(hi:g[i]? =some n):Eb c n i (vv n.kind):=by
 obtain⟨hl,hF,s0,hs0,hin⟩:=h.formed hi
 obtain⟨hn,hsm,_⟩:=h.each i n hi
 obtain⟨t2,to,ht2,_,hto,tu,_,eto,_,gt2,_,tp,tl,te⟩:=h.at_ hl
 have hsi:=Li tp
 have es:s0=t2.xs:=by rw[hs0]at gt2;simpa using gt2
 have hah:=mW hin.form
 have hkk:=hF.kind
 by_cases k1:n.kind=1
 ·exact Gq h hi k1
 by_cases k9:dQ n\/n.kind=9
 ·exact BX h hi k9
 have hkind:n.kind=2\/n.kind=6\/n.kind=7\/n.kind=8:=by unfold dQ at k9;omega
 intro s vl w ρ F hN hvl hO
 have hw:iW w ρ F 2 5 (kR c s vl) (BO c s n):=CR hO (λR w h=>h.1)
 have hdata:n.kind=2->n.shape.xs=s0:=λhk=>by
  have:=hin.shape;unfold bM at this;rw[if_pos (.inr hk)]at this;simpa using this
 by_cases k2:n.kind=2
 ·have e:cz c n i s.pl vl=bI (bg c.slots s.pl to.xs (λe=>n.data.xs.getD e 0)).1 2 0 0 (bg c.slots s.pl to.xs (λe=>n.data.xs.getD e 0)).2:=by unfold cz;rw[if_neg k1,if_pos k2,eto]
  have hd:=hah.2.2.2.2 k2
  have f:vv n.kind=28:=by rw[k2];rfl
  rw[hdata k2,es]at hd
  rw[e,f];exact aaF c s vl n i to hN aa hn.data hto tu hsi w ρ F hw
 have hA:=hF.a k1 k2
 have h0:0<=n.a:=hA.1
 have ha:n.a.toNat<vl.length:=by omega
 by_cases k6:n.kind=6
 ·have e:cz c n i s.pl vl=bI s.pl 3 (vl.getD n.a.toNat 0) (vl.getD n.b.toNat 0) 0:=by unfold cz;rw[if_neg k1,if_neg k2,if_pos k6]
  have f:vv n.kind=29:=by rw[k6];rfl
  have hb:=hF.b k6
  rw[e,f];exact agp c s vl n i hN ⟨h0,hb.1⟩ ha aa w ρ F (CR hO (λR w h=>trivial))
 by_cases k7:n.kind=7
 ·have e:cz c n i s.pl vl=bI (bg c.slots s.pl to.xs (λ_=>n.data.xs.getD 0 0)).1 5 (vl.getD n.a.toNat 0) 0 (bg c.slots s.pl to.xs (λ_=>n.data.xs.getD 0 0)).2:=by unfold cz;rw[if_neg k1,if_neg k2,if_neg k6,if_pos k7,eto]
  have f:vv n.kind=30:=by rw[k7];rfl
  rw[e,f];exact WO c s vl n i to hN h0 ha (hah.2.2.1 k7) hn.data hto tu hsi w ρ F hw
 have k8:n.kind=8:=by omega
 have e:cz c n i s.pl vl=lu c.slots s.pl (vl.getD n.a.toNat 0) n.data.xs to.xs:=by unfold cz;rw[if_neg k1,if_neg k2,if_neg k6,if_neg k7,if_pos k8,eto]
 have f:vv n.kind=31:=by rw[k8];rfl
 rw[e,f];exact abE c s vl n i to hN h0 ha (hah.2.2.2.1 k8) hn.data hto tu hsi w ρ F hw
theorem abG(w:World)(g:bE)(o:Am)(slots:Int)(hg:g.ok w)(h64:i64 slots):Calls Tryz.prog 9 #[g.val,o.val,.int .i64 slots] w (oD w (nZ g o slots)):=
 abD w g o slots hg h64 (λ_ _ h _ _ hi=>abF h hi)
theorem Er(w:World)(g:bE)(hg:g.raw w)(o:Am)(slots:Int)(h64:i64 slots):Calls Tryz.prog 3 #[g.val,o.val,.int .i64 slots] w λe w'=>e= .returned (.bool true)/\Ext w w':=by
 cases hf:SE g with
 |false=>
  refine fq Tryz.func3 [.agg [.c (.slice g.base g.l.length g.cap),ak g.out],.agg [ak o.layout,.c (.bool o.tidy),.c (.bool o.lazy),.c (.bool o.giant),ak o.rows],ak slots] ?_
  (repeat' ((conv=>whnf)<;>first|refine acs ?_|(show aC _ 8 ..;(refine aJ (f:=8) Tryz.call8 (.bool false) (λρ w' hw=>by have:=Yg w' g (ae hw λR h=>hg.later h);rw[hf]at this;exact this) ?_))|refine aN ?_))
  all_goals(conv=>whnf)
  all_goals exact aX (λR w' h=>h) rfl rfl
 |true=>
  have hgo:=ajA hg hf
  refine fq Tryz.func3 [.agg [.c (.slice g.base g.l.length g.cap),ak g.out],.agg [ak o.layout,.c (.bool o.tidy),.c (.bool o.lazy),.c (.bool o.giant),ak o.rows],ak slots] ?_
  by_cases hs:128<slots
  ·(repeat' ((conv=>whnf)<;>first|refine acs ?_|refine aht ?_|(show @dR _ _ _;(first|refine bA aa ?_|refine cK aa ?_))|refine aN ?_))
   all_goals(conv=>whnf)
   all_goals exact aX (λR w' h=>h) rfl rfl
  ·(repeat' ((conv=>whnf)<;>first|refine acs ?_|refine aht ?_|(show @dR _ _ _;(first|refine bA aa ?_|refine cK aa ?_))|refine aN ?_))
   refine CS (nZ g o slots) Tryz.call9 (λρ w' hw=>abG w' g o slots (ae hw λR h=>hgo.later h) h64) (λa ha has=> ?_)
   (repeat' ((conv=>whnf)<;>first|refine aN ?_))
   refine CS (nZ g o slots) Tryz.call10 (λρ w' hw=>Rk w' g o slots (ae hw λR h=>hgo.later h.1) h64) (λb hb hbs=> ?_)
   have aiM:=Vr g o slots
   generalize nZ g o slots=r at*
   (repeat' ((conv=>whnf)<;>first|(show @dR _ _ _;refine bA rfl ?_)|(show aC _ 11 ..;refine aJ (f:=11) Tryz.call11 (.bool true) (λρ w' hw=>akm w' a b (ae hw λR h=>Vt h.1.2 aiM ha has) (ae hw λR h=>Vt h.2 aiM hb hbs) (ha.trans hb.symm)) ?_)|refine aN ?_))
   all_goals(conv=>whnf)
   all_goals exact aX (λR w' h=>h.1.1) rfl rfl
open Go.ChangeShapes Go.WideShapes Go.ChangeAt
section
variable {H:Type} {w:World} {base:Nat} {held:Bool} {ps:List MemPlace}
theorem aos:ownKnob Tryz.prog.godebug=none:=by kernel_rfl
theorem afF:laidOutB Tryz.prog=true:=by kernel_rfl
theorem FO{enc:TypeId×Value->H}{P:Program}{t:TypeId}{Q:List Value->Prop}{sp:Nat->Bool}{v:Value}{d:DataW H}(h:kw P w t Q)(ht:DataW.Trod enc P w base sp held t v d ps):Q v.cells.toList:=by
 obtain⟨n,hn⟩:=ht
 exact h.out enc base sp held n _ _ hn
structure aj.amM(w:World)(v:aj):Prop where
 rows:bf w v.base 1 (ints v.xs)
 fits:∀x∈v.xs,-9223372036854775808<=x/\x<=9223372036854775807
 room:v.xs.length<=v.cap
theorem aj.amM.ok{v:aj}(h:v.amM w)(hf:v.xs.length<=1000000):v.ok w:=⟨h.rows,h.fits,h.room,hf⟩
theorem Mg{enc:TypeId×Value->H}{P:Program}{spare:Nat->Bool}{t0 t1 t2:TypeId}{args:Array Value}{ds:List (DataW H)}(h:DataW.TrodAll enc P w base spare held [t0,t1,t2] args.toList ds ps):
 ∃v0 v1 v2 d0 d1 d2 p0 p1 p2,args= #[v0,v1,v2]/\ds=[d0,d1,d2]/\DataW.Trod enc P w base spare held t0 v0 d0 p0/\DataW.Trod enc P w base spare held t1 v1 d1 p1/\DataW.Trod enc P w base spare held t2 v2 d2 p2:=by
 obtain⟨v0,vs0,d0,ds0,p0,q0,e0,rfl,rfl,h0,r0⟩:=trodAll_cons h
 obtain⟨v1,vs1,d1,ds1,p1,q1,rfl,rfl,rfl,h1,r1⟩:=trodAll_cons r0
 obtain⟨v2,vs2,d2,ds2,p2,q2,rfl,rfl,rfl,h2,r2⟩:=trodAll_cons r1
 obtain⟨rfl,rfl,rfl⟩:=trodAll_nil r2
 exact⟨v0,v1,v2,d0,d1,d2,p0,p1,p2,by cases args;simp_all,rfl,h0,h1,h2⟩
end
end Go.Proofs.YtgndjjdeopfdkaaGreat

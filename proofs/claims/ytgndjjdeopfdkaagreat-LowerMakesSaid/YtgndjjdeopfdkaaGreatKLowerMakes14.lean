import Derived.Test.YtgndjjdeopfdkaaGreatRows
import Derived.Test.YtgndjjdeopfdkaaGreatKLowerMakes13
/- texts VA LV of the proof of LowerMakesSaid -/
set_option maxHeartbeats 16000000
set_option maxRecDepth 20000
set_option linter.unusedVariables false
set_option linter.unusedSimpArgs false
namespace Go.Proofs.YtgndjjdeopfdkaaGreat
open Go.SX Go.RowKit
abbrev alB:DT:=(eY [0,1,2,3,4,5,6,7,8,9,11,110,12] .done)
abbrev LpW(w:World)(ρ:Nat->SX.Loc)(F:Nat->Prop)(c:dN)(s:dw)(vl:List Int)(k:Nat)(env:Env)(H:Heap)(S:bN)(nx:Nat)(r:fE×Int):Prop:=Wp ⟨Tryz.prog,⟨w,mI 2 ρ⟩,Tryz.f31.ntmps,tab⟩ (Nr k (bodyC Tryz.f31)) env H S nx (TK ⟨Tryz.prog,⟨w,mI 2 ρ⟩,Tryz.f31.ntmps,tab⟩ Tryz.f31.results.toList (oD w ρ F c s vl r))
abbrev lpF(w:World)(F:Nat->Prop)(s0:dw)(c:dN)(n:ai)(s:dw):bN:=((((dW s.aF).and ((DV s0.aF s.aF).off (dZ w F))).and (vE c)).and (U8 n)).and (gu w F)
structure acp(c:dN)(q:dw)(k:Nat)(n:ai)(i:Nat)(sp:au):Prop where
 aj:1<=c.aj/\c.aj<=4096
 low:lJ c k q
 few:k<=600000
 hi:c.bO.l[i]? =some sp
 hsp:sp.bq
 places:∀z∈sp.xs,0<=z/\z<c.aj
 data:n.data.xs.length=3
theorem ahw(c:dN)(s q:dw)(vl:List Int)(k:Nat)(o:Int)(sb:Bool)(n:ai)(i:Nat)(x v:Int)(sp:au)(hP:acp c q k n i sp)(hv:n.data.xs.getD 0 0=v)(h64:i64 v)(w:World)(ρ:Nat->SX.Loc)(F:Nat->Prop):
 LpW w ρ F c s vl 5 [(0,.lp 0 0 0 0),(2,ax i),(4,.lp 5 0 0 0),(7,ax x),(8,.lp 6 0 0 0)] ((6,.box ([.lp 0 0 0 0,ax o,.c (.bool sb)]) 129)::(5,.box (cs n.cells) 41)::wV c q vl 0 1 80 81 82) (lpF w F s c n q) 83 (pw4 c.aj (q.pl,o) v sp.xs):=by
 obtain⟨hs,z0,hk,hi,hsp,hpl,hd⟩:=hP
 refine Wp.know (p:=∃a,n.data.base=some a) (λρ w' hw=>ae hw λR h=>aP (j:=0) (fV h.1.2.2.1) vK) ?_
 rintro⟨da,hda⟩
 unfold pw4
 by_cases h0:v=0
 ·rw[if_pos h0]
  repeat' ((conv=>whnf)<;>first|(show bV ..;refine aH da 0 hda rfl aa ?_)|(show fT ..;(refine kz (λR w' h=>by rw[<-hda];exact fV h.1.2.2.1) (j:=0) aa hv ?_))|refine aX ?_|refine ag ?_ ?_<;>intro _)
  all_goals(conv=>whnf)
  all_goals exact fw _ _ _ _ (q,o) [(2,some 80),(3,some 81),(4,some 82)] ⟨rfl,rfl,z0.ok⟩ aY rfl rfl rfl rfl bM (λR w' h=>⟨h.2,h.1.1.1.2⟩)
 ·rw[if_neg h0]
  repeat' ((conv=>whnf)<;>first|(show b_ _ 18 ..;refine lu [14] [(6,.box [.lp 0 0 0 0,ax o,.c (.bool sb)] 129)] (eY [0,1,2,3,4,5,6,7,8,109,110,111,112,13,114] .done) ?_ (h6:=List.Sublist.cons_cons _ (List.nil_sublist _)))|refine BF ?_|(show bV ..;refine aH da 0 hda rfl aa ?_)|(show fT ..;(refine kz (λR w' h=>by rw[<-hda];exact fV h.1.2.2.1) (j:=0) aa hv ?_))|refine Zo ?_|(show sG ..;refine l6 ?_)|(show aI _ 69 ..;(refine qj rfl [(6,.box ([.lp 0 0 0 0,ax o,.c (.bool sb)]) 129),(5,.box (cs n.cells) 41)] 83 0 1 80 81 82 c (q) vl 132 [.int .i64 (v)] 3 i (λ_=>v) ed sp hs.2 (z0).ok.aF afn hi hsp hpl (λ_ _=>h64) Tryz.call132 (λR w' bb ee _ hh _=>xK w' bb ee (v) _ hh) rfl rfl rfl (λR w' h=>⟨⟨h.1.1.1.1,h.1.1.2⟩,trivial⟩) (dZ w F) (λR w' h b hb=>((h).2 b hb).1) (λu hu fI=> ?_)))|(show aI _ 68 [_,ax 4,_,_,_] ..;(refine dV [(6,.box ([.lp 0 0 0 0,ax o,.c (.bool sb)]) 129),(5,.box (cs n.cells) 41)] 0 1 86 87 88 c ((aC q u).1) vl ed [.lp 0 0 0 0,ax 4,ax (o),ax (0),ax ((aC q u).2)] _ _ _ _ Tryz.call68 rfl rfl rfl (λR w' h=>trivial) (dZ w F) (λR w' h b hb=>((h.1).2 b hb).1) (λw' ρ' F' h'=>gV c ((aC q u).1) vl 4 (o) (0) ((aC q u).2) aef w' ρ' F' h') (λ_ _=> ?_)))|refine aX ?_|refine ag ?_ ?_<;>intro _)
  all_goals(conv=>whnf)
  have hS:=iB (s:=q) hu
  rw[hS]
  exact fw _ _ _ _ (dn (aC q u).1 4 o 0 (aC q u).2,((aC q u).1.code.length:Int)) [(2,some 92),(3,some 93),(4,some 94)] ⟨rfl,rfl,qL (nR z0.ok fI) _ _ _ _⟩ aY rfl rfl rfl rfl bM (λR w' h=>⟨h.1.1.2,gW h.1.1.1.1.1.2 h.1.2⟩)
theorem VQ(c:dN)(s q:dw)(vl:List Int)(k:Nat)(m:Option Int)(n:ai)(i:Nat)(x v:Int)(sp:au)(hP:acp c q k n i sp)(hk:k<=599000)(hv:n.data.xs.getD 0 0=v)(h64:i64 v)(w:World)(ρ:Nat->SX.Loc)(F:Nat->Prop):
 LpW w ρ F c s vl 4 [(0,.lp 0 0 0 0),(2,ax i),(4,.lp 5 0 0 0),(7,ax x),(8,.lp 6 0 0 0)] ((6,.box (jL m) 129)::(5,.box (cs n.cells) 41)::wV c q vl 0 1 60 61 62) (lpF w F s c n q) 63 (pw4 c.aj (WZ c.aj (q.pl,m) x) v sp.xs):=by
 obtain⟨hs,z0,_,hi,hsp,hpl,hd⟩:=hP
 rcases m with _|a
 ·iterate 2
   refine Wp.go bQ rfl ?_
   repeat' ((conv=>whnf)<;>first|(show aI _ 74 ..;(refine dV [(6,.box (jL none) 129),(5,.box (cs n.cells) 41)] 0 1 60 61 62 c q vl (dW q.aF) [.lp 0 0 0 0,ax x] _ _ _ _ Tryz.call74 rfl rfl rfl (λR w' h=>h.1.1.1.1) (dZ w F) (λR w' h b hb=>(h.2 b hb).1) (λw' ρ' F' h'=>SC c q vl x hs.2 z0.ok.aF MC Fu w' ρ' F' h') (λu ⟨hu,fI⟩=> ?_))))
  have e:WZ c.aj (q.pl,none) x=((zeroV q u x).pl,(q.code.length:Int)):=yM hu
  rw[e]
  exact Wp.into 83 [(80,some 65),(81,some 66),(82,some 67)] (ahw c s (zeroV q u x) vl (k+2) q.code.length false n i x v sp ⟨hs,z0.zero fI x,by omega,hi,hsp,hpl,hd⟩ hv h64 w ρ F) aY ⟨rfl,rfl⟩ ⟨rfl,⟨rfl,rfl,rfl,rfl,rfl,trivial⟩,bM,λR w' h=>⟨⟨⟨⟨mP h.1.1.1.1.1 (jO h.2),gW h.1.1.1.1.2 h.2⟩,h.1.1.1.2⟩,h.1.1.2⟩,h.1.2⟩⟩
 ·iterate 2
   refine Wp.go bQ rfl ?_
   repeat' ((conv=>whnf)<;>first|fail)
  exact Wp.into 83 [(80,some 60),(81,some 61),(82,some 62)] (ahw c s q vl k a true n i x v sp ⟨hs,z0,by omega,hi,hsp,hpl,hd⟩ hv h64 w ρ F) aY ⟨rfl,rfl⟩ ⟨rfl,⟨rfl,rfl,rfl,rfl,rfl,trivial⟩,bM,λR w' h=>h⟩
theorem afr(c:dN)(s q:dw)(vl:List Int)(k:Nat)(b:Int)(m:Option Int)(n:ai)(i:Nat)(x v:Int)(sp:au)(hP:acp c q k n i sp)(hk:k<=598000)(hv:n.data.xs.getD 0 0=v)(h64:i64 v)(hb:n.data.xs.getD 1 0=b)(HY:i64 b)(w:World)(ρ:Nat->SX.Loc)(F:Nat->Prop):
 LpW w ρ F c s vl 3 [(0,.lp 0 0 0 0),(2,ax i),(4,.lp 5 0 0 0),(7,ax x),(8,.lp 6 0 0 0)] ((6,.box (jL m) 129)::(5,.box (cs n.cells) 41)::wV c q vl 0 1 40 41 42) (lpF w F s c n q) 43 (pw4 c.aj (WZ c.aj (Xm c.aj (q.pl,m) x b sp.xs) x) v sp.xs):=by
 obtain⟨hs,z0,_,hi,hsp,hpl,hd⟩:=hP
 refine Wp.know (p:=∃a,n.data.base=some a) (λρ w' hw=>ae hw λR h=>aP (j:=0) (fV h.1.2.2.1) vK) ?_
 rintro⟨da,hda⟩
 unfold Xm
 by_cases h0:b=0
 ·rw[if_pos h0]
  iterate 4
   refine Wp.go bQ rfl ?_
   repeat' ((conv=>whnf)<;>first|refine ZI ?_|refine ZN ?_|refine BD ?_|refine ag ?_ ?_<;>intro _)
  exact Wp.into 63 [(60,some 40),(61,some 41),(62,some 42)] (VQ c s q vl k m n i x v sp ⟨hs,z0,by omega,hi,hsp,hpl,hd⟩ aa hv h64 w ρ F) aY ⟨rfl,rfl⟩ ⟨rfl,⟨rfl,rfl,rfl,rfl,rfl,trivial⟩,bM,λR w' h=>h⟩
 rw[if_neg h0]
 by_cases h1:b=1
 ·rw[if_pos h1,<-Dz q m x]
  rcases m with _|a
  ·iterate 8
    refine Wp.go bQ rfl ?_
    repeat' ((conv=>whnf)<;>first|refine ZI ?_|refine ZN ?_|refine SS ?_|(show sG ..;refine l6 ?_)|refine BD ?_|refine ag ?_ ?_<;>intro _)
   exact Wp.into 63 [(60,some 40),(61,some 41),(62,some 42)] (VQ c s q vl k (some x) n i x v sp ⟨hs,z0,by omega,hi,hsp,hpl,hd⟩ aa hv h64 w ρ F) aY ⟨rfl,rfl⟩ ⟨rfl,⟨rfl,rfl,rfl,rfl,rfl,trivial⟩,bM,λR w' h=>h⟩
  ·iterate 8
    refine Wp.go bQ rfl ?_
    repeat' ((conv=>whnf)<;>first|refine ZI ?_|refine ZN ?_|refine SS ?_|(show b_ _ 1 ..;refine lu [9,10] _ ww ?_)|(show sG ..;refine l6 ?_)|(show aI _ 68 [_,ax 3,_,_,_] ..;(refine dV [(6,.box (jL (some a)) 129),(5,.box (cs n.cells) 41)] 0 1 40 41 42 c (q) vl ed [.lp 0 0 0 0,ax 3,ax (a),ax (x),ax (0)] _ _ _ _ Tryz.call68 rfl rfl rfl (λR w' h=>trivial) (dZ w F) (λR w' h b hb=>((h).2 b hb).1) (λw' ρ' F' h'=>gV c (q) vl 3 (a) (x) (0) aeu w' ρ' F' h') (λ_ _=> ?_)))|refine BD ?_|refine ag ?_ ?_<;>intro _)
   exact Wp.into 63 [(60,some 45),(61,some 46),(62,some 47)] (VQ c s (dn q 3 a x 0) vl (k+1) (some q.code.length) n i x v sp ⟨hs,z0.lay 3 a x 0,by omega,hi,hsp,hpl,hd⟩ aa hv h64 w ρ F) aY ⟨rfl,rfl⟩ ⟨rfl,⟨rfl,rfl,rfl,rfl,rfl,trivial⟩,bM,λR w' h=>h.1⟩
 ·rw[if_neg h1]
  rcases m with _|a
  ·iterate 11
    refine Wp.go bQ rfl ?_
    repeat' ((conv=>whnf)<;>first|refine ZI ?_|refine ZN ?_|refine SS ?_|refine Zo ?_|(show sG ..;refine l6 ?_)|(show aI _ 69 ..;(refine qj rfl [(6,.box (jL none) 129),(5,.box (cs n.cells) 41)] 43 0 1 40 41 42 c (q) vl 132 [.int .i64 (b)] 3 i (λ_=>b) ed sp hs.2 (z0).ok.aF afn hi hsp hpl (λ_ _=>HY) Tryz.call132 (λR w' bb ee _ hh _=>xK w' bb ee (b) _ hh) rfl rfl rfl (λR w' h=>⟨⟨h.1.1.1.1,h.1.1.2⟩,trivial⟩) (dZ w F) (λR w' h b hb=>((h).2 b hb).1) (λu hu fI=> ?_)))|(show aI _ 68 [_,ax 5,_,_,_] ..;(refine dV [(6,.box (jL none) 129),(5,.box (cs n.cells) 41)] 0 1 46 47 48 c ((aC q u).1) vl ed [.lp 0 0 0 0,ax 5,ax (x),ax (0),ax ((aC q u).2)] _ _ _ _ Tryz.call68 rfl rfl rfl (λR w' h=>trivial) (dZ w F) (λR w' h b hb=>((h.1).2 b hb).1) (λw' ρ' F' h'=>gV c ((aC q u).1) vl 5 (x) (0) ((aC q u).2) aef w' ρ' F' h') (λ_ _=> ?_)))|refine BD ?_|refine ag ?_ ?_<;>intro _)
   have hS:=iB (s:=q) hu
   dsimp only
   rw[hS,nQ,<-Dz]
   exact Wp.into 63 [(60,some 52),(61,some 53),(62,some 54)] (VQ c s (dn (aC q u).1 5 x 0 (aC q u).2) vl (k+2) (some (aC q u).1.code.length) n i x v sp ⟨hs,(z0.plain fI).lay 5 x 0 (aC q u).2,by omega,hi,hsp,hpl,hd⟩ aa hv h64 w ρ F) aY ⟨rfl,rfl⟩ ⟨rfl,⟨rfl,rfl,rfl,rfl,rfl,trivial⟩,bM,λR w' h=>⟨⟨⟨⟨mP h.1.1.1.1.1.1 (jO h.1.2),gW h.1.1.1.1.1.2 h.1.2⟩,h.1.1.1.1.2⟩,h.1.1.1.2⟩,h.1.1.2⟩⟩
  ·iterate 11
    refine Wp.go bQ rfl ?_
    repeat' ((conv=>whnf)<;>first|refine ZI ?_|refine ZN ?_|refine SS ?_|(show b_ _ 1 ..;refine lu [9,10] _ ww ?_)|refine Zo ?_|(show sG ..;refine l6 ?_)|(show aI _ 69 ..;(refine qj rfl [(6,.box (jL (some a)) 129),(5,.box (cs n.cells) 41)] 43 0 1 40 41 42 c (q) vl 132 [.int .i64 (b)] 3 i (λ_=>b) ed sp hs.2 (z0).ok.aF afn hi hsp hpl (λ_ _=>HY) Tryz.call132 (λR w' bb ee _ hh _=>xK w' bb ee (b) _ hh) rfl rfl rfl (λR w' h=>⟨⟨h.1.1.1.1,h.1.1.2⟩,trivial⟩) (dZ w F) (λR w' h b hb=>((h).2 b hb).1) (λu hu fI=> ?_)))|(show aI _ 68 [_,ax 5,_,_,_] ..;(refine dV [(6,.box (jL (some a)) 129),(5,.box (cs n.cells) 41)] 0 1 46 47 48 c ((aC q u).1) vl ed [.lp 0 0 0 0,ax 5,ax (x),ax (0),ax ((aC q u).2)] _ _ _ _ Tryz.call68 rfl rfl rfl (λR w' h=>trivial) (dZ w F) (λR w' h b hb=>((h.1).2 b hb).1) (λw' ρ' F' h'=>gV c ((aC q u).1) vl 5 (x) (0) ((aC q u).2) aef w' ρ' F' h') (λ_ _=> ?_)))|(show aI _ 68 [_,ax 3,_,_,_] ..;(refine dV [(6,.box (jL (some a)) 129),(5,.box (cs n.cells) 41)] 0 1 52 53 54 c (dn (aC q u).1 5 x 0 (aC q u).2) vl ed [.lp 0 0 0 0,ax 3,ax (a),ax ((aC q u).1.code.length),ax (0)] _ _ _ _ Tryz.call68 rfl rfl rfl (λR w' h=>trivial) (dZ w F) (λR w' h b hb=>((h.1.1).2 b hb).1) (λw' ρ' F' h'=>gV c (dn (aC q u).1 5 x 0 (aC q u).2) vl 3 (a) ((aC q u).1.code.length) (0) (by have:=((z0.plain fI).lay 5 x 0 (aC q u).2).lW;omega) w' ρ' F' h') (λ_ _=> ?_)))|refine BD ?_|refine ag ?_ ?_<;>intro _)
   have hS:=iB (s:=q) hu
   dsimp only
   rw[hS,nQ,<-Dz]
   exact Wp.into 63 [(60,some 57),(61,some 58),(62,some 59)] (VQ c s (dn (dn (aC q u).1 5 x 0 (aC q u).2) 3 a (aC q u).1.code.length 0) vl (k+3) (some (dn (aC q u).1 5 x 0 (aC q u).2).code.length) n i x v sp ⟨hs,((z0.plain fI).lay 5 x 0 (aC q u).2).lay 3 a (aC q u).1.code.length 0,by omega,hi,hsp,hpl,hd⟩ aa hv h64 w ρ F) aY ⟨rfl,rfl⟩ ⟨rfl,⟨rfl,rfl,rfl,rfl,rfl,trivial⟩,bM,λR w' h=>⟨⟨⟨⟨mP h.1.1.1.1.1.1.1 (jO h.1.1.2),gW h.1.1.1.1.1.1.2 h.1.1.2⟩,h.1.1.1.1.1.2⟩,h.1.1.1.1.2⟩,h.1.1.1.2⟩⟩
theorem amX(c:dN)(q:dw)(vl:List Int)(a b:Int)(n:ai)(i:Nat)(x v:Int)(sp:au)(hP:acp c q 500000 n i sp)(hv:n.data.xs.getD 0 0=v)(h64:i64 v)(hb:n.data.xs.getD 1 0=b)(HY:i64 b)(ha:n.data.xs.getD 2 0=a)(ajw:i64 a)(w:World)(ρ:Nat->SX.Loc)(F:Nat->Prop):
 LpW w ρ F c q vl 2 [(0,.lp 0 0 0 0),(2,ax i),(4,.lp 5 0 0 0),(7,ax x),(8,.lp 6 0 0 0)] ((6,.box (jL none) 129)::(5,.box (cs n.cells) 41)::wV c q vl 0 1 2 3 4) (lpF w F q c n q) 7 (pw4 c.aj (WZ c.aj (Xm c.aj (Yq c.aj q.pl x a sp.xs) x b sp.xs) x) v sp.xs):=by
 obtain⟨hs,z0,_,hi,hsp,hpl,hd⟩:=hP
 refine Wp.know (p:=∃a,n.data.base=some a) (λρ w' hw=>ae hw λR h=>aP (j:=0) (fV h.1.2.2.1) vK) ?_
 rintro⟨da,hda⟩
 unfold Yq
 by_cases h0:a=0
 ·rw[if_pos h0]
  iterate 3
   refine Wp.go bQ rfl ?_
   repeat' ((conv=>whnf)<;>first|(show bV ..;refine aH da 2 hda rfl aa ?_)|refine aeJ ?_|refine BD ?_|refine ag ?_ ?_<;>intro _)
  exact Wp.into 43 [(40,some 2),(41,some 3),(42,some 4)] (afr c q q vl 500000 b none n i x v sp ⟨hs,z0,by omega,hi,hsp,hpl,hd⟩ aa hv h64 hb HY w ρ F) aY ⟨rfl,rfl⟩ ⟨rfl,⟨rfl,rfl,rfl,rfl,rfl,trivial⟩,bM,λR w' h=>h⟩
 rw[if_neg h0]
 by_cases h1:a=1
 ·rw[if_pos h1]
  iterate 9
   refine Wp.go bQ rfl ?_
   repeat' ((conv=>whnf)<;>first|(show bV ..;refine aH da 2 hda rfl aa ?_)|refine aeJ ?_|refine SS ?_|(show sG ..;refine l6 ?_)|(show aI _ 68 [_,ax 6,_,_,_] ..;(refine dV [(6,.box (jL none) 129),(5,.box (cs n.cells) 41)] 0 1 2 3 4 c (q) vl ed [.lp 0 0 0 0,ax 6,ax (x),ax (x),ax (0)] _ _ _ _ Tryz.call68 rfl rfl rfl (λR w' h=>trivial) (dZ w F) (λR w' h b hb=>((h).2 b hb).1) (λw' ρ' F' h'=>gV c (q) vl 6 (x) (x) (0) aeu w' ρ' F' h') (λ_ _=> ?_)))|refine BD ?_|refine ag ?_ ?_<;>intro _)
  exact Wp.into 43 [(40,some 9),(41,some 10),(42,some 11)] (afr c q (dn q 6 x x 0) vl 500001 b (some q.code.length) n i x v sp ⟨hs,z0.lay 6 x x 0,by omega,hi,hsp,hpl,hd⟩ aa hv h64 hb HY w ρ F) aY ⟨rfl,rfl⟩ ⟨rfl,⟨rfl,rfl,rfl,rfl,rfl,trivial⟩,bM,λR w' h=>h.1⟩
 ·rw[if_neg h1]
  iterate 12
   refine Wp.go bQ rfl ?_
   repeat' ((conv=>whnf)<;>first|(show bV ..;refine aH da 2 hda rfl aa ?_)|refine aeJ ?_|refine SS ?_|(show aI _ 68 [_,ax 6,_,_,_] ..;(refine dV [(6,.box (jL none) 129),(5,.box (cs n.cells) 41)] 0 1 2 3 4 c (q) vl ed [.lp 0 0 0 0,ax 6,ax (x),ax (x),ax (0)] _ _ _ _ Tryz.call68 rfl rfl rfl (λR w' h=>trivial) (dZ w F) (λR w' h b hb=>((h).2 b hb).1) (λw' ρ' F' h'=>gV c (q) vl 6 (x) (x) (0) aeu w' ρ' F' h') (λ_ _=> ?_)))|refine Zo ?_|(show sG ..;refine l6 ?_)|(show aI _ 69 ..;(refine qj rfl [(6,.box (jL none) 129),(5,.box (cs n.cells) 41)] 12 0 1 9 10 11 c (dn q 6 x x 0) vl 132 [.int .i64 (a)] 3 i (λ_=>a) ed sp hs.2 (z0.lay 6 x x 0).ok.aF (by have:=(z0.lay 6 x x 0).qW;omega) hi hsp hpl (λ_ _=>ajw) Tryz.call132 (λR w' bb ee _ hh _=>xK w' bb ee (a) _ hh) rfl rfl rfl (λR w' h=>⟨⟨h.1.1.1.1.1,h.1.1.1.2⟩,trivial⟩) (dZ w F) (λR w' h b hb=>((h.1).2 b hb).1) (λu hu fI=> ?_)))|(show aI _ 68 [_,ax 5,_,_,_] ..;(refine dV [(6,.box (jL none) 129),(5,.box (cs n.cells) 41)] 0 1 15 16 17 c ((aC (dn q 6 x x 0) u).1) vl ed [.lp 0 0 0 0,ax 5,ax (q.code.length),ax (0),ax ((aC (dn q 6 x x 0) u).2)] _ _ _ _ Tryz.call68 rfl rfl rfl (λR w' h=>trivial) (dZ w F) (λR w' h b hb=>((h.1.1).2 b hb).1) (λw' ρ' F' h'=>gV c ((aC (dn q 6 x x 0) u).1) vl 5 (q.code.length) (0) ((aC (dn q 6 x x 0) u).2) (by have:=((z0.lay 6 x x 0).plain fI).lW;omega) w' ρ' F' h') (λ_ _=> ?_)))|refine BD ?_|refine ag ?_ ?_<;>intro _)
  have hS:=iB (s:=dn q 6 x x 0) hu
  rw[nQ]
  dsimp only
  rw[hS]
  exact Wp.into 43 [(40,some 21),(41,some 22),(42,some 23)] (afr c q (dn (aC (dn q 6 x x 0) u).1 5 q.code.length 0 (aC (dn q 6 x x 0) u).2) vl 500003 b (some (aC (dn q 6 x x 0) u).1.code.length) n i x v sp ⟨hs,((z0.lay 6 x x 0).plain fI).lay 5 q.code.length 0 (aC (dn q 6 x x 0) u).2,by omega,hi,hsp,hpl,hd⟩ aa hv h64 hb HY w ρ F) aY ⟨rfl,rfl⟩ ⟨rfl,⟨rfl,rfl,rfl,rfl,rfl,trivial⟩,bM,λR w' h=>⟨⟨⟨⟨mP h.1.1.1.1.1.1.1 (jO h.1.2),gW h.1.1.1.1.1.1.2 h.1.2⟩,h.1.1.1.1.1.2⟩,h.1.1.1.1.2⟩,h.1.1.1.2⟩⟩
theorem aa9(c:dN)(s:dw)(vl:List Int)(n:ai)(i:Nat)(sp:au)(hN:lU c s vl)(h0:0<=n.a)(hna:n.a.toNat<vl.length)(hd:n.data.xs.length=3)(hds:n.data.bq)(hi:c.bO.l[i]? =some sp)(zo:sp.bq)(hpl:∀x∈sp.xs,0<=x/\x<c.aj)(w:World)(ρ:Nat->SX.Loc)(F:Nat->Prop)(h:iY w ρ F 2 5 (kQ c s vl) (BH c s n)):
 Calls Tryz.prog 31 (SV.eO ρ [.lp 0 0 0 0,.agg (jN n),ax i]).toArray w (oD w ρ F c s vl (lK c.aj s.pl (vl.getD n.a.toNat 0) n.data.xs sp.xs)):=by
 have h64:∀j,j<n.data.xs.length->i64 (n.data.xs.getD j 0):=λj hj=>by
  rw[List.getD_eq_getElem?_getD,List.getElem?_eq_getElem hj];exact hds.fits _ (List.getElem_mem hj)
 have agX:=h64 0 aa
 have ahs:=h64 1 aa
 have ahm:=h64 2 aa
 obtain⟨x,hx⟩:∃x,vl.getD n.a.toNat 0=x:=⟨_,rfl⟩
 rw[PI,hx]
 have hP:acp c s 500000 n i sp:=⟨hN.aj,⟨hN.ok,hN.qW,hN.lW⟩,by omega,hi,zo,hpl,hd⟩
 refine Ez Tryz.func31 (mI 2 ρ) ρ [.lp 0 0 0 0,.agg (jN n),ax i] (kQ c s vl) ((BH c s n).and (gu w F)) 5 h.abs ?_
 iterate 2
  refine Wp.go bQ rfl ?_
  repeat' ((conv=>whnf)<;>first|(show b_ _ 1 ..;refine lu [] _ alB ?_)|refine BF ?_|(show di ..;(refine bg n.a.toNat aa hna N7 ?_))|(show mq ..;refine Io hna hx ?_))
 all_goals exact Wp.into 7 [] (amX c s vl (n.data.xs.getD 2 0) (n.data.xs.getD 1 0) n i x (n.data.xs.getD 0 0) sp hP rfl agX rfl ahs rfl ahm w ρ F) aY ⟨rfl,rfl⟩ ⟨rfl,⟨rfl,rfl,rfl,rfl,rfl,trivial⟩,bM,λR w' h=>⟨⟨⟨⟨h.1.1.1,lQ _ _ _⟩,h.1.1.2⟩,h.1.2⟩,h.2⟩⟩
theorem abm{c:dN}{aR:Int}{sh:List (List Int)}{g:List ai}(h:zR c aR sh g){i:Nat}{n:ai}(hi:g[i]? =some n):Dq c n i (vw n.ak):=by
 obtain⟨hl,hF,s0,hs0,hin⟩:=h.formed hi
 obtain⟨hn,hsm,_⟩:=h.each i n hi
 obtain⟨t2,to,ht2,_,hto,tF,_,eto,_,gt2,_,tp,tl,te⟩:=h.at_ hl
 have hsi:=KC tp
 have es:s0=t2.xs:=by rw[hs0]at gt2;simpa using gt2
 have hah:=nG hin.form
 have hkk:=hF.ak
 by_cases k1:n.ak=1
 ·exact Hl h hi k1
 by_cases k9:dX n\/n.ak=9
 ·exact BR h hi k9
 have hkind:n.ak=2\/n.ak=6\/n.ak=7\/n.ak=8:=by unfold dX at k9;omega
 intro s vl w ρ F hN hvl hO
 have hw:iY w ρ F 2 5 (kQ c s vl) (BH c s n):=CU hO (λR w h=>h.1)
 have hdata:n.ak=2->n.ay.xs=s0:=λhk=>by
  have:=hin.ay;unfold bR at this;rw[if_pos (.inr hk)]at this;simpa using this
 by_cases k2:n.ak=2
 ·have e:dh c n i s.pl vl=bP (bC c.aj s.pl to.xs (λe=>n.data.xs.getD e 0)).1 2 0 0 (bC c.aj s.pl to.xs (λe=>n.data.xs.getD e 0)).2:=by unfold dh;rw[if_neg k1,if_pos k2,eto]
  have hd:=hah.2.2.2.2 k2
  have f:vw n.ak=28:=by rw[k2];rfl
  rw[hdata k2,es]at hd
  rw[e,f];exact abe c s vl n i to hN aa hn.data hto tF hsi w ρ F hw
 have hA:=hF.a k1 k2
 have h0:0<=n.a:=hA.1
 have ha:n.a.toNat<vl.length:=by omega
 by_cases k6:n.ak=6
 ·have e:dh c n i s.pl vl=bP s.pl 3 (vl.getD n.a.toNat 0) (vl.getD n.b.toNat 0) 0:=by unfold dh;rw[if_neg k1,if_neg k2,if_pos k6]
  have f:vw n.ak=29:=by rw[k6];rfl
  have hb:=hF.b k6
  rw[e,f];exact agR c s vl n i hN ⟨h0,hb.1⟩ ha aa w ρ F (CU hO (λR w h=>trivial))
 by_cases k7:n.ak=7
 ·have e:dh c n i s.pl vl=bP (bC c.aj s.pl to.xs (λ_=>n.data.xs.getD 0 0)).1 5 (vl.getD n.a.toNat 0) 0 (bC c.aj s.pl to.xs (λ_=>n.data.xs.getD 0 0)).2:=by unfold dh;rw[if_neg k1,if_neg k2,if_neg k6,if_pos k7,eto]
  have f:vw n.ak=30:=by rw[k7];rfl
  rw[e,f];exact XG c s vl n i to hN h0 ha (hah.2.2.1 k7) hn.data hto tF hsi w ρ F hw
 have k8:n.ak=8:=by omega
 have e:dh c n i s.pl vl=lK c.aj s.pl (vl.getD n.a.toNat 0) n.data.xs to.xs:=by unfold dh;rw[if_neg k1,if_neg k2,if_neg k6,if_neg k7,if_pos k8,eto]
 have f:vw n.ak=31:=by rw[k8];rfl
 rw[e,f];exact aa9 c s vl n i to hN h0 ha (hah.2.2.2.1 k8) hn.data hto tF hsi w ρ F hw
theorem aaT(w:World)(g:bG)(o:Aw)(aj:Int)(hg:g.ok w)(h64:i64 aj):Calls Tryz.prog 9 #[g.val,o.val,.int .i64 aj] w (oI w (ow g o aj)):=
 aaz w g o aj hg h64 (λ_ _ h _ _ hi=>abm h hi)
theorem Eu(w:World)(g:bG)(hg:g.raw w)(o:Aw)(aj:Int)(h64:i64 aj):Calls Tryz.prog 3 #[g.val,o.val,.int .i64 aj] w λe w'=>e= .returned (.bool true)/\Ext w w':=by
 cases hf:SI g with
 |false=>
  refine fH Tryz.func3 [.agg [.c (.slice g.base g.l.length g.cap),ax g.out],.agg [ax o.aR,.c (.bool o.tidy),.c (.bool o.lazy),.c (.bool o.giant),ax o.rows],ax aj] ?_
  repeat' ((conv=>whnf)<;>first|refine ad3 ?_|(show aI _ 8 ..;(refine aQ (f:=8) Tryz.call8 (.bool false) (λρ w' hw=>by have:=Yn w' g (ae hw λR h=>hg.later h);rw[hf]at this;exact this) ?_))|refine aX ?_)
  all_goals(conv=>whnf)
  all_goals exact bf (λR w' h=>h) rfl rfl
 |true=>
  have hgo:=aj4 hg hf
  refine fH Tryz.func3 [.agg [.c (.slice g.base g.l.length g.cap),ax g.out],.agg [ax o.aR,.c (.bool o.tidy),.c (.bool o.lazy),.c (.bool o.giant),ax o.rows],ax aj] ?_
  by_cases hs:128<aj
  ·repeat' ((conv=>whnf)<;>first|refine ad3 ?_|refine ahl ?_|refine OQ ?_|refine aX ?_)
   all_goals(conv=>whnf)
   all_goals exact bf (λR w' h=>h) rfl rfl
  ·repeat' ((conv=>whnf)<;>first|refine ad3 ?_|refine ahl ?_|refine OQ ?_|refine aX ?_)
   refine Dc (ow g o aj) Tryz.call9 (λρ w' hw=>aaT w' g o aj (ae hw λR h=>hgo.later h) h64) (λa ha has=> ?_)
   repeat' ((conv=>whnf)<;>first|refine aX ?_)
   refine Dc (ow g o aj) Tryz.call10 (λρ w' hw=>Qs w' g o aj (ae hw λR h=>hgo.later h.1) h64) (λb hb hbs=> ?_)
   have air:=Vm g o aj
   generalize ow g o aj=r at*
   repeat' ((conv=>whnf)<;>first|(show @eZ _ _ _;refine cu rfl ?_)|(show aI _ 11 ..;refine aQ (f:=11) Tryz.call11 (.bool true) (λρ w' hw=>ajL w' a b (ae hw λR h=>Ub h.1.2 air ha has) (ae hw λR h=>Ub h.2 air hb hbs) (ha.trans hb.symm)) ?_)|refine aX ?_)
   all_goals(conv=>whnf)
   all_goals exact bf (λR w' h=>h.1.1) rfl rfl
open Go.ChangeShapes Go.WideShapes Go.ChangeAt
section
theorem an4:ownKnob Tryz.prog.godebug=none:=by kernel_rfl
theorem aco:laidOutB Tryz.prog=true:=by kernel_rfl
variable {H:Type} {w:World} {base:Nat} {held:Bool} {ps:List MemPlace}
theorem E8{enc:TypeId×Value->H}{P:Program}{t:TypeId}{Q:List Value->Prop}{sp:Nat->Bool}{v:Value}{d:DataW H}(h:kF P w t Q)(ht:DataW.Trod enc P w base sp held t v d ps):Q v.cells.toList:=by
 obtain⟨n,hn⟩:=ht
 exact h.out enc base sp held n _ _ hn
structure au.amw(w:World)(v:au):Prop where
 rows:bu w v.base 1 (aN v.xs)
 fits:∀x∈v.xs,-9223372036854775808<=x/\x<=9223372036854775807
 room:v.xs.length<=v.cap
theorem au.amw.ok{w:World}{v:au}(h:v.amw w)(hf:v.xs.length<=1000000):v.ok w:=⟨h.rows,h.fits,h.room,hf⟩
theorem Jr{enc:TypeId×Value->H}{P:Program}{spare:Nat->Bool}{t0 t1 t2:TypeId}{args:Array Value}{ds:List (DataW H)}(h:DataW.TrodAll enc P w base spare held [t0,t1,t2] args.toList ds ps):
 ∃v0 v1 v2 d0 d1 d2 p0 p1 p2,args= #[v0,v1,v2]/\ds=[d0,d1,d2]/\DataW.Trod enc P w base spare held t0 v0 d0 p0/\DataW.Trod enc P w base spare held t1 v1 d1 p1/\DataW.Trod enc P w base spare held t2 v2 d2 p2:=by
 obtain⟨v0,vs0,d0,ds0,p0,q0,e0,rfl,rfl,h0,r0⟩:=trodAll_cons h
 obtain⟨v1,vs1,d1,ds1,p1,q1,rfl,rfl,rfl,h1,r1⟩:=trodAll_cons r0
 obtain⟨v2,vs2,d2,ds2,p2,q2,rfl,rfl,rfl,h2,r2⟩:=trodAll_cons r1
 obtain⟨rfl,rfl,rfl⟩:=trodAll_nil r2
 exact⟨v0,v1,v2,d0,d1,d2,p0,p1,p2,by cases args;simp_all,rfl,h0,h1,h2⟩
end
end Go.Proofs.YtgndjjdeopfdkaaGreat

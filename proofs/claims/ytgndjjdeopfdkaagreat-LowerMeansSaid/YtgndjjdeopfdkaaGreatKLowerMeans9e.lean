import Derived.Test.YtgndjjdeopfdkaaGreatKLowerMeans9d
/- texts MH MD of the proof of LowerMeansSaid -/
set_option maxHeartbeats 16000000
set_option maxRecDepth 20000
set_option linter.unusedVariables false
set_option linter.unusedSimpArgs false
namespace Go.Proofs.YtgndjjdeopfdkaaGreat
open Go.SX Go.RowKit
section
abbrev akC:DT:=(bS [0,1,2,3,4,5,6,7,8] (.alt 9 (bS [10,11,12,13,114,15,116,17] .done) (bS [114,109,10,11,12,13,15,116,17] .done)))
abbrev alz:DT:=(bS [0,1,2,3,4,5,6,7,8,9,10,11,12,13,14,15,16,17,18,19,20,121,22,23,24,25,26] .done)
def ku(n:Nat)(giant:Bool)(s:dL)(x:Int)(r:List (List Int)×List Int)(fr to:List Int):dL×Int:=
 let q:=nG n giant s x (vk r.1 fr to n).1
 if r.2.any (λb=>decide (b≠0))=true then
  let p:=bH n q.1 to (λe=>r.2.getD e 0)
  bI p.1 4 q.2 0 p.2
 else q
def Mf(c:fT):bR:=(f_ c.shapes.base 1 (bA c.shapes.l)).and (iQ c.shapes.l)
abbrev TF(c:fT)(s:fu)(n:ak):bR:=(D6 c s n).and (Mf c)
def n0(n:ak):ak:={n with a:=0}
variable {cx:Cx} {f:FuncId} {args:List SV} {H:Heap} {S:bR} {nx:Nat} {K:SV->Heap->bR->Nat->Prop}
theorem ZR(n:Nat)(r:List (List Int)×Int)(hf:∀ar w,(callFunc f ar).run cx.P w= .ok (.enter f ar) w)
 (hc:∀ρ w,dO cx.B ρ nx H S w->Calls cx.P f (SV.dW ρ args).toArray w (tu w n r.1 r.2)) (h:∀x:aY,BO r.1 x->abK n x->K (.c (.tuple #[x.val,.int .i64 r.2])) H (S.and ((wm x).past cx.B.w0.heap.size)) nx):aJ cx f args H S nx K:=by
 refine jU hf (λx:aY=> .tuple #[x.val,.int .i64 r.2]) wm (λx=>BO r.1 x/\abK n x) (λρ w' hw=>(hc ρ w' hw).mono ?_) (λx hx=>h x hx.1 hx.2);rintro e w2 ⟨x,h1,h2,h3,h4⟩;exact⟨x,h1,h2,h3,h4⟩
def agE(p:aY×ax):bR:=(wm p.1).and (bX p.2)
theorem Zj(r:(List (List Int)×List Int)×Int)(hf:∀ar w,(callFunc f ar).run cx.P w= .ok (.enter f ar) w)
 (hc:∀ρ w,dO cx.B ρ nx H S w->Calls cx.P f (SV.dW ρ args).toArray w (yY w r)) (h:∀(x:aY) (y:ax),BO r.1.1 x->y.xs=r.1.2->y.bF->K (.c (.tuple #[x.val,y.val,.int .i64 r.2])) H (S.and ((agE (x,y)).past cx.B.w0.heap.size)) nx):aJ cx f args H S nx K:=by
 refine jU hf (λp:aY×ax=> .tuple #[p.1.val,p.2.val,.int .i64 r.2]) agE (λp=>BO r.1.1 p.1/\p.2.xs=r.1.2/\p.2.bF) (λρ w' hw=>(hc ρ w' hw).mono ?_) (λp hp=>h p.1 p.2 hp.1 hp.2.1 hp.2.2);rintro e w2 ⟨x,y,h1,h2,h3,h4,h5⟩;exact⟨(x,y),h1,h2,h3,h4,h5⟩
variable {R:Nat->Prop} {w:World}
theorem Xr{n:ak}(hn:n.uB)(h:(Xp n).holds R w):n.ok w:=⟨⟨iO h.1,hn.az.fits,hn.az.room,hn.az.few⟩,⟨iO h.2.1,hn.data.fits,hn.data.room,hn.data.few⟩,⟨iO h.2.2,hn.aQ.fits,hn.aQ.room,hn.aQ.few⟩,hn.lQ,hn.Cr,hn.yh,hn.nk,hn.ng,hn.lV⟩
theorem akL{n:ak}(hn:n.uB)(h:(Xp n).holds R w):(n0 n).ok w:=by
 have:=Xr hn h;exact⟨this.az,this.data,this.aQ,hn.lQ,by show i64 0;unfold i64;omega,hn.yh,hn.nk,hn.ng,hn.lV⟩
theorem JD{α:Type}{f:List (List Int)->α->List (List Int)}(h:∀D a,(f D a).length=D.length):∀(l:List α) (D:List (List Int)),(l.foldl f D).length=D.length
 |[],_=>rfl
 |a::l,D=>by rw[ahb,JD h l,h]
theorem Hg{rows:List (List Int)}{fr to:List Int}{n:Nat}(hd:Bd rows fr to n):(vk rows fr to n).1.length=n:=by
 rw[vk,if_pos hd];show(pQ _ _ _ _ _).length=n;unfold pQ;rw[JD]
 ·simp
 ·intro D a;unfold Ct;refine JD (λD a=> ?_) _ _;unfold nu;split<;>simp
theorem YP(c:fT)(s:fu)(vl:List Int)(n:ak)(i:Nat)(sh fr to:ax)(r:List (List Int)×List Int)(hN:wT c s vl)(h0:0<=n.a)(ha:n.a.toNat<vl.length)(hn:n.uB)(hsm:n.small)(hsh:c.shapes.l[n.a.toNat]? =some sh)(ani:sh.bF)(hfr:c.di.l[n.a.toNat]? =some fr)(aaQ:fr.bF)(hto:c.di.l[i]? =some to)(Jk:to.bF)(hk:¬(n.ai=9/\fr.xs=to.xs))(hr:(pu (n0 n) sh).1=r)(hd:Bd r.1 fr.xs to.xs c.aA)(hb:to.xs.length<=r.2.length)
 (w:World) (ρ:Nat->SX.Loc) (F:Nat->Prop) (h:qF w ρ F 2 5 (kG c s vl) (TF c s n)):
 Calls Tryz.prog 26 (SV.dW ρ [.lp 0 0 0 0,.agg (vo n),aC i]).toArray w (pz w ρ F c s vl (ku c.aA c.giant s.pl (vl.getD n.a.toNat 0) r fr.xs to.xs)):=by
 have hcl:=hN.y9;have hpl:=hN.yF;have hn1:=hN.aA.1;have hn2:=hN.aA.2;have fsl:∀{j:Nat} {u:ax} {l:List ax},l[j]? =some u->(bA l)[j]? =some [u.val]:=λh=>by unfold bA;rw[ab5,h];rfl
 have ln:∀{j:Nat} {u:ax} {l:List ax},l[j]? =some u->j<l.length:=λh=>(abH.1 h).1;refine zzF Tryz.func26 (yZ 2 ρ) ρ [.lp 0 0 0 0,.agg (vo n),aC i] (kG c s vl) ((TF c s n).and (l8 w F)) 5 h.abs ?_;refine Wp.know (p:=∃a,c.di.base=some a) (λρ w' hw=>ae hw λR h=>aT (j:=i) (bf h.1.1.1.2.1) (by rw[acN];exact ln hto)) ?_;rintro⟨sa,hsa⟩;refine Wp.know (p:=∃a,c.shapes.base=some a) (λρ w' hw=>ae hw λR h=>aT (j:=n.a.toNat) (bf h.1.2.1) (by rw[acN];exact ln hsh)) ?_;rintro⟨ha',hha⟩;by_cases hk9:n.ai=9
 all_goals
  repeat' ((conv=>whnf)<;>first|(show cO _ 6 ..;refine mV [] _ akC ?_)|(show cO _ 7 ..;refine mV [] _ alz ?_)|refine eU ?_|refine bn ?_|(show dn ..;(first|refine aM sa n.a.toNat hsa aa (ln hfr) ?_|refine aM sa i hsa rfl (ln hto) ?_|refine aM ha' n.a.toNat hha aa (ln hsh) ?_))|(show gZ ..;(first|refine bN (λR w' h=>by rw[<-hsa];first|exact bf h.1.1.1.2.1|exact bf h.1.1.1.1.2.1) _ _ (fsl hfr) rfl ?_|refine bN (λR w' h=>by rw[<-hsa];first|exact bf h.1.1.1.2.1|exact bf h.1.1.1.1.2.1) _ _ (fsl hto) rfl ?_|refine bN (λR w' h=>by rw[<-hha];exact bf h.1.2.1) _ _ (fsl hsh) rfl ?_))|refine FX ?_|(show rQ ..;refine uV ha ?_)|(show jQ _ 62 ..;(refine jo (f:=62) Tryz.call62 (.bool false) (λρ w' hw=>by have:=tK w' fr to (ae hw λR h=>dw aaQ (h.1.1.1.2.2 _ (adu hfr))) (ae hw λR h=>dw Jk (h.1.1.1.2.2 _ (adu hto)));rw[decide_eq_false (λe=>hk ⟨hk9,e⟩)]at this;exact this) ?_))|(show aJ _ 63 ..;refine Zj (pu (n0 n) sh) Tryz.call63 (λρ w' hw=>VL w' (n0 n) sh (ae hw λR h=>akL hn h.1.1.2) ⟨hsm.data,hsm.aQ⟩ (ae hw λR h=>dw ani (h.1.2.2 _ (adu hsh)))) (λx y hx hy hys=> ?_))|(show aJ _ 64 ..;(refine ZR c.aA (vk (x.l.map ax.xs) fr.xs to.xs c.aA) Tryz.call64 (λρ w' hw=>acU w' x (ae hw λR h=>afg hx (by rw[hr,hd.2.2.1];exact Jk.few) ((wm x).mono h.2.1 (λ_ hb=>hb.1))) fr to (ae hw λR h=>dw aaQ (h.1.1.1.1.2.2 _ (adu hfr))) (ae hw λR h=>dw Jk (h.1.1.1.1.2.2 _ (adu hto))) c.aA ⟨by omega,by omega⟩) (λd hdx hdn=> ?_)))|refine bV ?_|refine And.intro ?_ ?_)
 all_goals
  have hdl:d.l.length=c.aA:=by have:=congrArg List.length hdx.rows;rw[aas,hx.rows,hr,Hg hd]at this;exact this
  have hDr:d.l.map ax.xs=(vk r.1 fr.xs to.xs c.aA).1:=by rw[hdx.rows,hx.rows,hr]
  have hG:=dz.rows c.aA c.giant s.pl (vl.getD n.a.toNat 0) (d.l.map ax.xs) hn1 vZ;refine dM [(7,.box [.c y.val] 32),(6,.box [aC n.ai,aC 0,aC n.b,.c n.az.val,aC n.lo,aC n.hi,aC n.size,.c n.data.val,.c n.aQ.val] 41),(5,.box (cs n.cells) 41)] 0 1 2 3 4 c s vl ((iQ s.aF).and (wm d)) [.lp 0 0 0 0,aC (vl.getD n.a.toNat 0),.c d.val] _ _ _ _ Tryz.call65 rfl rfl rfl (λR w' h=>⟨h.1.1.1.1.1.1,(wm d).mono h.2 (λ_ hb=>hb.1)⟩) (iV w F) (λR w' h b hb=>(h.1.1.2 b hb).1) (λw' ρ' F' h'=>afX c s vl (vl.getD n.a.toNat 0) d hN hdl hdn hdx.bF hdx.room w' ρ' F' h') (λq ⟨hq1,hq2,hq3⟩=> ?_);rw[<-hq1]at hG;have hGf:q.1.code.length<=s.code.length+(5*c.aA+1):=hG.few;have hGp:q.1.aF.length<=1000000:=by
   have:=hG.aF;have e1:q.1.pl.aF.length=q.1.aF.length:=aas _;have e2:s.pl.aF.length=s.aF.length:=aas _;have e3:q.1.pl.code.length=q.1.code.length:=rfl;have e4:s.pl.code.length=s.code.length:=rfl;omega
  have hyr:y.xs=r.2:=by rw[hy,hr]
  have hw0:∀v,nG c.aA c.giant s.pl (vl.getD n.a.toNat 0) (d.l.map ax.xs)=v->ku c.aA c.giant s.pl (vl.getD n.a.toNat 0) r fr.xs to.xs=(if y.xs.any (λb=>decide (b≠0))=true then bI (bH c.aA v.1 to.xs (λe=>y.xs.getD e 0)).1 4 v.2 0 (bH c.aA v.1 to.xs (λe=>y.xs.getD e 0)).2 else v):=λv hv=>by unfold ku;rw[<-hDr,hv,hyr]
  have hw1:=hw0 (q.1.pl,q.2) (Prod.ext hq1.symm hq2.symm);by_cases hnz:y.xs.any (λb=>decide (b≠0))=true
  ·rw[if_pos hnz]at hw1;rw[hw1];repeat' ((conv=>whnf)<;>first|(show aJ _ 66 ..;(refine aR (f:=66) Tryz.call66 (.bool true) (λρ w' hw=>by have:=CR w' y (ae hw λR h=>dw hys ((bX y).mono h.1.1.2.2 (λ_ hb=>hb.1)));rw[hnz]at this;exact this) ?_))|refine bV ?_)
   refine ru rfl [(6,.box [aC n.ai,aC 0,aC n.b,.c n.az.val,aC n.lo,aC n.hi,aC n.size,.c n.data.val,.c n.aQ.val] 41),(5,.box (cs n.cells) 41)] 7 0 1 10 11 12 c q.1 vl 70 [y.val] 32 i (λe=>y.xs.getD e 0) (bX y) to hn2 hq3.aF hGp hto Jk (wL hd.2.2.2.2.1).1 (λe he=>by rw[TR,YL (by rw[hyr];omega)];exact hys.fits _ (aby _)) Tryz.call70 (λR w' b e he hh hA=>Y4 w' b e y _ (by rw[hyr];omega) (bf hA) hh) rfl rfl rfl (λR w' h=>⟨⟨adl h.1.1.1.1.1.1.1 h.2,h.1.1.1.1.1.1.2⟩,(bX y).mono h.1.1.2.2 (λ_ hb=>hb.1)⟩) (iV w F) (λR w' h b hb=>(h.1.1.1.2 b hb).1) (λu hu iL=> ?_);repeat' ((conv=>whnf)<;>first|refine bV ?_)
   refine dM [(6,.box [aC n.ai,aC 0,aC n.b,.c n.az.val,aC n.lo,aC n.hi,aC n.size,.c n.data.val,.c n.aQ.val] 41),(5,.box (cs n.cells) 41)] 0 1 15 16 17 c (aS q.1 u).1 vl iK [.lp 0 0 0 0,aC 4,aC q.2,aC 0,aC (aS q.1 u).2] _ _ _ _ Tryz.call68 rfl rfl rfl (λR w' h=>trivial) (iV w F) (λR w' h b hb=>(h.1.1.1.1.2 b hb).1) (λw' ρ' F' h'=>gQ c (aS q.1 u).1 vl 4 q.2 0 (aS q.1 u).2 Fe w' ρ' F' h') (λ_ _=> ?_);repeat' ((conv=>whnf)<;>first|refine bV ?_)
   all_goals(conv=>whnf)
   exact lH _ _ _ _ (eH (aS q.1 u).1 4 q.2 0 (aS q.1 u).2,((aS q.1 u).1.code.length:Int)) [(2,some 21),(3,some 22),(4,some 23)] ⟨by rw[oU hu,sU],by rw[oU hu,sU],De (y_ hq3 iL) _ _ _ _⟩ ay rfl rfl rfl rfl fE (λR w' h=>⟨h.1.1.1.1.1.2,lY h.1.1.2 h.1.2⟩)
  ·rw[if_neg hnz]at hw1;rw[hw1];have hnf:=Bool.eq_false_iff.2 hnz;repeat' ((conv=>whnf)<;>first|(show aJ _ 66 ..;(refine aR (f:=66) Tryz.call66 (.bool false) (λρ w' hw=>by have:=CR w' y (ae hw λR h=>dw hys ((bX y).mono h.1.1.2.2 (λ_ hb=>hb.1)));rw[hnf]at this;exact this) ?_))|refine bV ?_)
   all_goals(conv=>whnf)
   exact lH _ _ _ _ q [(2,some 10),(3,some 11),(4,some 12)] ⟨rfl,rfl,hq3⟩ ay rfl rfl rfl rfl fE (λR w' h=>⟨h.1.1.1.2,h.2⟩)
end
theorem aeo(c:fT)(s:fu)(vl:List Int)(n:ak)(i:Nat)(fr to:ax)(hN:wT c s vl)(h0:0<=n.a)(ha:n.a.toNat<vl.length)(hfr:c.di.l[n.a.toNat]? =some fr)(aaQ:fr.bF)(hto:c.di.l[i]? =some to)(Jk:to.bF)(hk9:n.ai=9)(hft:fr.xs=to.xs)
 (w:World) (ρ:Nat->SX.Loc) (F:Nat->Prop) (h:qF w ρ F 2 5 (kG c s vl) (TF c s n)):
 Calls Tryz.prog 26 (SV.dW ρ [.lp 0 0 0 0,.agg (vo n),aC i]).toArray w (pz w ρ F c s vl (s.pl,vl.getD n.a.toNat 0)):=by
 have fsl:∀{j:Nat} {u:ax} {l:List ax},l[j]? =some u->(bA l)[j]? =some [u.val]:=λh=>by unfold bA;rw[ab5,h];rfl
 have ln:∀{j:Nat} {u:ax} {l:List ax},l[j]? =some u->j<l.length:=λh=>(abH.1 h).1;refine zzF Tryz.func26 (yZ 2 ρ) ρ [.lp 0 0 0 0,.agg (vo n),aC i] (kG c s vl) ((TF c s n).and (l8 w F)) 5 h.abs ?_;refine Wp.know (p:=∃a,c.di.base=some a) (λρ w' hw=>ae hw λR h=>aT (j:=i) (bf h.1.1.1.2.1) (by rw[acN];exact ln hto)) ?_;rintro⟨sa,hsa⟩;repeat' ((conv=>whnf)<;>first|(show @iG _ _ _;refine gJ aa ?_)|(show dn ..;(first|refine aM sa n.a.toNat hsa aa (ln hfr) ?_|refine aM sa i hsa rfl (ln hto) ?_))|(show gZ ..;(first|refine bN (λR w' h=>by rw[<-hsa];exact bf h.1.1.1.2.1) _ _ (fsl hfr) rfl ?_|refine bN (λR w' h=>by rw[<-hsa];exact bf h.1.1.1.2.1) _ _ (fsl hto) rfl ?_))|refine FX ?_|(show rQ ..;refine uV ha ?_)|(show jQ _ 62 ..;(refine jo (f:=62) Tryz.call62 (.bool true) (λρ w' hw=>by have:=tK w' fr to (ae hw λR h=>dw aaQ (h.1.1.1.2.2 _ (adu hfr))) (ae hw λR h=>dw Jk (h.1.1.1.2.2 _ (adu hto)));rw[decide_eq_true hft]at this;exact this) ?_))|refine bV ?_)
 all_goals(conv=>whnf)
 all_goals exact lH _ _ _ _ (s,vl.getD n.a.toNat 0) [] ⟨rfl,rfl,hN.ok⟩ ay rfl rfl rfl rfl fE (λR w' h=>⟨h.2,vP _ _ _⟩)
structure l7 where
 aA:Int
 ib:Option Addr
 ic:Nat
 inputs:List nN
 aF:aY
 cb:Option Addr
 cc:Nat
 code:List jf
 last:Int
 out:ax
structure yx where
 aA:Int
 low:dL
 last:Int
 out:List Int
def l7.val(v:l7):Value:= .agg #[.int .i64 v.aA,.slice v.ib v.inputs.length v.ic,v.aF.val,.slice v.cb v.code.length v.cc,.int .i64 v.last,v.out.val]
def l7.pl(v:l7):yx:=⟨v.aA,⟨v.inputs.map nN.pl,v.aF.l.map ax.xs,v.code⟩,v.last,v.out.xs⟩
structure l7.bF(v:l7):Prop where
 aF:∀p∈v.aF.l,p.bF
 inputs:∀x∈v.inputs,x.aA.bF/\i64 x.lo/\i64 x.hi
 out:v.out.bF
 yF:v.aF.l.length<=1000000
 aaK:v.inputs.length<=1000000
 y9:v.code.length<=1000000
def aiG(l:List nN):bR where
 holds R w:=∀x∈l,(bX x.aA).holds R w
 stable:=λhR hw h x hx=>(bX x.aA).stable hR hw (h x hx)
def LD(v:l7):bR:=(((f_ v.ib 3 (mq v.inputs)).and (aiG v.inputs)).and ((f_ v.aF.base 1 (bA v.aF.l)).and (iQ v.aF.l))).and ((f_ v.cb 5 (iX v.code)).and (bX v.out))
def Ca:yx:=⟨0,⟨[],[],[]⟩,0,[]⟩
def vD(w:World)(r:yx×Int):Ending->World->Prop:=λe w'=>∃v:l7,(v.pl=r.1/\v.bF)/\e= .returned (.tuple #[v.val,.int .i64 r.2])/\Ext w w'/\(LD v).holds (λb=>w.heap.size<=b/\b<w'.heap.size) w'
structure DZ where
 aV:Int
 tidy:Bool
 lazy:Bool
 giant:Bool
 rows:Int
def DZ.val(o:DZ):Value:= .agg #[.int .i64 o.aV,.bool o.tidy,.bool o.lazy,.bool o.giant,.int .i64 o.rows]
def nJ(o:DZ)(aA:Int):Prop:=0<=o.aV/\o.aV<=1/\4<=aA/\aA<=2048/\bitsOf .and .i64 aA (aA-1)=0
instance(o:DZ)(aA:Int):Decidable (nJ o aA):=by unfold nJ;infer_instance
theorem G5{op:BinOp}{k:IntKind}{x y:Int}{K:Int->Prop}(h:K (bitsOf op k x y)):Ci op k x y K:=by rw[vN];exact h
theorem yz{w:World}{B:Base}{H:Heap}{S:bR}{nx:Nat}{er:Int}{v:SV}{r:yx×Int}(hb:∀R w',S.holds R w'->(aU B.w0).holds R w')(hw0:B.w0=w)(hr:r=(Ca,er))(hv:∀ρ,v.rf ρ= .tuple #[.agg #[.int .i64 0,.slice none 0 0,.slice none 0 0,.slice none 0 0,.int .i64 0,.slice none 0 0],.int .i64 er]):jS B v H S nx (vD w r):=by
 subst hw0 hr;refine dK λρ w' hw=>⟨⟨0,none,0,[],⟨none,0,[]⟩,none,0,[],0,⟨none,0,[]⟩⟩,⟨rfl,⟨λ_ h=>bT,λ_ h=>bT,⟨λ_ h=>bT,Tw _,aae _⟩,aae _,aae _,aae _⟩⟩,by rw[hv];rfl,bG hw hb,?_⟩;have z:∀k,(f_ none k []).holds (λb=>B.w0.heap.size<=b/\b<w'.heap.size) w':=λk=>⟨λ_ h=>bT,.inl rfl⟩;exact⟨⟨⟨z 3,λ_ h=>bT⟩,⟨z 1,λ_ h=>bT⟩⟩,⟨z 5,z 1⟩⟩
theorem acV(w:World)(g:bM)(o:DZ)(aA:Int)(hg:g.ok w)(h64:i64 aA)(hbad:¬nJ o aA\/(cZ g).1≠0):Calls Tryz.prog 9 #[g.val,o.val,.int .i64 aA] w (vD w (Ca,if nJ o aA then(cZ g).1 else 1)):=by
 obtain⟨h1,h2⟩:=h64;by_cases hs:nJ o aA
 ·rw[if_pos hs];have hne:=hbad.resolve_left (λh=>h hs);obtain⟨s1,s2,s3,s4,s5⟩:=hs;refine fH Tryz.func9 [.agg [.c (.slice g.base g.l.length g.cap),aC g.out],.agg [aC o.aV,.c (.bool o.tidy),.c (.bool o.lazy),.c (.bool o.giant),aC o.rows],aC aA] ?_;repeat' ((conv=>whnf)<;>first|(show Ci ..;refine G5 ?_)|(show @iG _ _ _;(first|refine jc aa ?_|refine gJ hne ?_))|(show aJ _ 22 ..;refine wZ (f:=22) (cZ g) Tryz.call22 (λρ w' hw=>yj w' g (ae hw λR h=>hg.later h)) (λ_=> ?_) (λhsp=>absurd hsp hne))|refine a_ ?_)
  all_goals(conv=>whnf)
  exact yz (λ_ _ h=>h) rfl rfl (λρ=>rfl)
 ·rw[if_neg hs];refine fH Tryz.func9 [.agg [.c (.slice g.base g.l.length g.cap),aC g.out],.agg [aC o.aV,.c (.bool o.tidy),.c (.bool o.lazy),.c (.bool o.giant),aC o.rows],aC aA] ?_;repeat' ((conv=>whnf)<;>first|(show Ci ..;refine G5 ?_)|(show @iG _ _ _;((refine ag ?_ ?_<;>intro _)))|(show aJ _ 22 ..;((exfalso;exact hs ⟨by omega,by omega,by omega,by omega,by omega⟩)))|refine a_ ?_)
  all_goals(conv=>whnf)
  all_goals exact yz (λ_ _ h=>h) rfl rfl (λρ=>rfl)
section
def eT(xs:List Int):List (List Value):=xs.map λx=>[.int .u64 x]
theorem eG(xs:List Int):(eT xs).length=xs.length:=by simp[eT]
variable {xs:List Int}
theorem R6{k:Nat}(h:k<xs.length):(eT xs)[k]? =some [.int .u64 (xs.getD k 0)]:=by
 unfold eT;rw[ab5,YL h,TR,YL h];rfl
theorem acQ(xs:List Int)(j:Nat)(z:Int):eT (xs.set j z)=(eT xs).set j [.int .u64 z]:=by simp[eT,alq]
variable {j:Nat}
theorem BL{z:Int}{K:List (List Value)->Prop}(hj:j<xs.length)(h:K (eT (xs.set j z))):dH (eT xs) j 0 [.int .u64 z] K:=by
 refine jq _ (R6 hj) kQ ?_;have e2:cB [Value.int .u64 (xs.getD j 0)] 0 [.int .u64 z]=[Value.int .u64 z]:=rfl;rw[e2,<-acQ];exact h
theorem Fs(n:Nat):List.replicate n [Value.int .u64 0]=eT (List.replicate n 0):=by simp[eT]
def HZ(f:Nat->Int)(n i:Nat):List Int:=(List.range n).map λk=>if k<i then f k else 0
theorem Bz(f:Nat->Int)(n i:Nat):(HZ f n i).length=n:=by simp[HZ]
theorem Jw(f:Nat->Int)(n:Nat):HZ f n 0=List.replicate n 0:=by
 apply alQ
 ·simp[HZ]
 ·intro k h1 h2;simp[HZ]
theorem Jm(f:Nat->Int)(n:Nat):HZ f n n=(List.range n).map f:=
 anA λk hk=>if_pos (ahe.1 hk)
theorem Nu{f:Nat->Int}{n i:Nat}:(HZ f n i).set i (f i)=HZ f n (i+1):=by
 apply alQ
 ·simp[HZ]
 ·intro k h1 h2;rw[List.getElem_set];by_cases e:i=k
  ·subst e;rw[if_pos rfl];simp[HZ]
  ·rw[if_neg e];simp only[HZ,anm,am3];by_cases h:k<i
   ·rw[if_pos h,if_pos aa]
   ·rw[if_neg h,if_neg aa]
def Z_(v:l7)(t:Nat)(ins:aY)(kv:Value):List Value:=[.int .i64 v.aA,.slice v.ib v.inputs.length v.ic,v.aF.val,.slice v.cb v.code.length v.cc,.int .i64 v.last,v.out.val,.int .u64 t,ins.val,kv]
def r_(v:l7)(t:Nat)(ins:aY)(kv:Value)(b:Nat)(w:World):Prop:=w.heap[b]? =some (.cells (Z_ v t ins kv).toArray 96 (0,0))
theorem r_.cell{v:l7}{t:Nat}{ins:aY}{kv:Value}{b:Nat}{w:World}(h:r_ v t ins kv b w){j:Nat}{x:Value}(hx:(Z_ v t ins kv)[j]? =some x):w.cell? ⟨b,j,none⟩=some x:=by
 unfold r_ at h;simp[World.cell?,h,hx]
variable {v:l7} {t b:Nat} {ins:aY} {kv:Value} {w:World}
theorem r_.later{w':World}{R:Nat->Prop}(h:r_ v t ins kv b w)(hb:(aU w).holds R w'):r_ v t ins kv b w':=by
 have hl:b<w.heap.size:=by
  unfold r_ at h;exact(alu.1 h).1
 unfold r_ at*;rw[(hb b hl).2];exact h
variable {x:Value}
theorem rD(h:r_ v t ins kv b w){S:bR}{K:SV->Prop}(hS:∀R w',S.holds R w'->(aU w).holds R w')(hx:(Z_ v t ins kv)[j]? =some x)(hk:K (.c x)):gZ ⟨b,j,none⟩ S K:=by
 have hc:=h.cell hx;refine A9 (λR w' hR=> ?_) hk;rw[jE ((hS R w' hR) _ (iA hc)).2];exact hc
abbrev og(w:World)(xs:List Int):Ending->World->Prop:=λe w'=>∃r,e= .returned r/\Ext w w'/\je w w' r 1 59 (eT xs)
theorem aeG(w:World)(b:Nat)(v:l7)(t n:Nat)(ins:aY)(kv:Value)(hm:r_ v t ins kv b w)(hn:v.aA=n)(hn2:n<=2048)(ht:0<t)(ht2:t<=1073741824)(l:ax)(hl:l.ok w)(hll:l.xs.length=n):
 Calls Tryz.prog 141 #[.pointer (some ⟨b,0,none⟩),l.val] w (og w ((List.range n).map λk=>l.xs.getD k 0%t)):=by
 refine fH Tryz.func141 [.c (.pointer (some ⟨b,0,none⟩)),.c (.slice l.base l.xs.length l.cap)] ?_;repeat' ((conv=>whnf)<;>first|(show gZ ..;refine rD hm (j:=0) (λR w' h=>h) rfl ?_)|(show pg ..;(refine lD n hn hn AB aa ?_))|refine a_ ?_)
 refine Wp.loop (σ:=Nat) 2 (λi=>[(0,.c (.pointer (some ⟨b,0,none⟩))),(5,.os 0 n),(14,.c (.slice l.base l.xs.length l.cap)),(15,aC l.xs.length),(16,aC i)]) (λi=>[(0,.rows (eT (HZ (λk=>l.xs.getD k 0%t) n i)) 1 59)]) (λ_=>aU w)
  (λi=>i<=n) (λi=>n-i) 0 [] ay (λ_=>⟨rfl,rfl⟩) (aae _) ⟨rfl,⟨rfl,rfl,rfl,rfl,rfl,trivial⟩,⟨by rw[Jw,<-Fs];exact YV,trivial⟩,λR w' h=>h⟩ ?_
 rintro i hi;by_cases hlt:i<n
 ·obtain⟨la,hla⟩:=hl.base aa;have hlr:∀(R:Nat->Prop) w',(aU w).holds R w'->bE w' (some la) 1 (aZ l.xs):=λR w' h=>by rw[<-hla];exact aH h hl.rows
  have hfit: -9223372036854775808<=l.xs.getD i 0/\l.xs.getD i 0<=9223372036854775807:=hl.fits _ (cu aa);have hlen:=Bz (λk=>l.xs.getD k 0%(t:Int)) n i;repeat' ((conv=>whnf)<;>first|refine bn ?_|(show dn ..;refine aM la i hla rfl aa ?_)|(show gZ ..;(first|refine dP hlr (j:=i) aa ?_|refine rD hm (j:=6) (λR w' h=>h) rfl ?_))|(show aJ _ 142 ..;refine aR (f:=142) Tryz.call142 (.int .u64 (l.xs.getD i 0%t)) (λρ w' _=>WZ w' _ t hfit ht ht2) ?_)|(show eP ..;(refine bY i rfl hlt PU ?_))|(show dH ..;(refine BL (by rw[hlen];exact hlt) ?_))|refine nU ?_|refine a_ ?_)
  all_goals(conv=>whnf)
  all_goals exact⟨i+1,[],hlt,by show n-(i+1)<n-i;omega,rfl,fE,⟨by rw[<-Nu (f:=λk=>l.xs.getD k 0%(t:Int))];exact YV,trivial⟩,λ_ _ h=>h⟩
 ·obtain rfl:i=n:=by omega
  repeat' ((conv=>whnf)<;>first|refine bn ?_|refine a_ ?_)
  all_goals(conv=>whnf)
  all_goals exact gT (λ_ _ h=>h) rfl (show(0,b_.rows (eT ((List.range i).map λk=>l.xs.getD k 0%(t:Int))) 1 59)∈_ by rw[<-Jm];exact YV) Mv
end
section
def Sd(n:Nat)(d:Int)(r:List Int×Bool)(s f w:Int):List Int×Bool:=if(s+d)%n=f then(r.1.set s.toNat w,r.2||decide (w≠0))else r
def aey(n:Nat)(d:Int)(fr row:List Int)(s:Int)(r:List Int×Bool)(k:Nat):List Int×Bool:=(List.range k).foldl (λr i=>Sd n d r s (fr.getD i 0) (row.getD i 0)) r
def aaa(n:Nat)(d:Int)(rows:List (List Int))(fr to:List Int)(o:Nat):List Int×Bool:=(List.range o).foldl (λr o=>aey n d fr (rows.getD o []) (to.getD o 0) r fr.length) (List.replicate n 0,false)
abbrev agA:=Int×Int×Int
def qo(rows:List (List Int))(fr to:List Int)(o:Nat):List agA:=(List.range o).flatMap λo=>(List.range fr.length).map λi=>(to.getD o 0,fr.getD i 0,(rows.getD o []).getD i 0)
theorem Hf(n:Nat)(rows:List (List Int))(fr to:List Int)(o:Nat):pQ n rows fr to o=(qo rows fr to o).foldl (λD t=>nu n D t.1 t.2.1 t.2.2) (List.replicate n []):=by
 simp only[pQ,qo,Ct,List.foldl_flatMap,List.foldl_map]
theorem TH(n:Nat)(d:Int)(rows:List (List Int))(fr to:List Int)(o:Nat):aaa n d rows fr to o=(qo rows fr to o).foldl (λr t=>Sd n d r t.1 t.2.1 t.2.2) (List.replicate n 0,false):=by
 simp only[aaa,qo,aey,List.foldl_flatMap,List.foldl_map]
variable {l:List Int} {k:Nat}
theorem getD_at(h:k<l.length):l.getD k 0=l[k]:=by simp[List.getD,h]
variable {j:Nat}
theorem Hr(h:l.Nodup){i:Nat}(hi:i<l.length)(hj:j<l.length)(hij:i<j):l.getD i 0≠l.getD j 0:=by
 rw[getD_at hi,getD_at hj];rw[List.Nodup,amA]at h;exact h i j hi hj hij
variable {rows:List (List Int)} {fr to:List Int}
theorem K8(hf:fr.Nodup)(ht:to.Nodup):∀o,o<=to.length->(qo rows fr to o).Pairwise (λa b=>¬(a.1=b.1/\a.2.1=b.2.1)):=by
 intro o ho;induction o with
 |zero=>simp[qo]
 |succ o ih=>
  have e:qo rows fr to (o+1)=qo rows fr to o++(List.range fr.length).map λi=>(to.getD o 0,fr.getD i 0,(rows.getD o []).getD i 0):=by simp[qo,ait]
  rw[e,List.pairwise_append];refine⟨ih aa,?_,?_⟩
  ·rw[aj3,amA];intro i j hi hj hij h;simp only[am3]at h;rw[amj]at hi hj;exact Hr hf hi hj hij h.2
  ·intro a ha b hb h;obtain⟨o',ho',ha⟩:=am5.1 ha;obtain⟨i,hi,rfl⟩:=abl.1 ha;obtain⟨j,hj,rfl⟩:=abl.1 hb;exact Hr ht (by have:=ahe.1 ho';omega) aa (ahe.1 ho') h.1
theorem VI{n:Nat}(hf:∀x∈fr,0<=x/\x<n)(ht:∀x∈to,0<=x/\x<n){o:Nat}(ho:o<=to.length):∀t∈qo rows fr to o,(0<=t.1/\t.1<n)/\0<=t.2.1/\t.2.1<n:=by
 intro t h;obtain⟨o',ho',h⟩:=am5.1 h;obtain⟨i,hi,rfl⟩:=abl.1 h;have h1:o'<to.length:=by have:=ahe.1 ho';omega
 have h2:i<fr.length:=ahe.1 hi;simp only;rw[getD_at h1,getD_at h2];exact⟨ht _ (aby h1),hf _ (aby h2)⟩
theorem modn{x:Int}{n:Nat}(h0:0<=x)(h1:x<2*n):x%n=if x<n then x else x-n:=by
 split
 ·exact anc h0 fw
 ·have:x=x-n+n:=by omega
  rw[this,Int.add_emod_right,anc aa aa];omega
variable {s f:Int} {d:Nat}
theorem Gs{n:Nat}(hs:0<=s/\s<n)(hf:0<=f/\f<n)(hd:d<n):(s+(d:Int))%n=f↔((f-s+n)%n).toNat=d:=by
 rw[modn (x:=s+d) aa aa,modn (x:=f-s+n) aa aa];split<;>split<;>omega
structure aco(n d:Nat)(D:List (List Int))(r:List Int×Bool):Prop where
 akO:D.length=n
 len:r.1.length=n
 is:D.getD d []=if r.2 then r.1 else []
 zero:r.2=false->r.1=List.replicate n 0
theorem qh{α:Type}{l:List α}{x y:α}(h:k<l.length):(l.set k x).getD k y=x:=by simp[List.getD,h]
theorem getD_set_ne{α:Type}{l:List α}{x y:α}(h:k≠j):(l.set k x).getD j y=l.getD j y:=by simp[List.getD,amy h]
theorem QZ(hk:k<l.length)(h:l.getD k 0=0):l.set k 0=l:=by
 apply an_;intro i;by_cases e:k=i
 ·subst e;rw[anI hk];rw[getD_at hk]at h;rw[YL hk,h]
 ·rw[amy e]
theorem aco.step{n:Nat}(hd:d<n){D:List (List Int)}{r:List Int×Bool}(h:aco n d D r){w:Int}(hs:0<=s/\s<n)(hf:0<=f/\f<n)(hz:(s+(d:Int))%n=f->r.1.getD s.toNat 0=0):aco n d (nu n D s f w) (Sd n d r s f w):=by
 have hsn:s.toNat<n:=by omega
 have hc:=Gs hs hf hd;obtain⟨l,b⟩:=r;obtain⟨h1,h2,h3,h4⟩:=h;simp only at h2 h3 h4 hz;unfold nu Sd;by_cases hw:w=0
 ·subst hw;rw[if_pos rfl];split
  ·rename_i g;have:=QZ aa (hz g);simp only[this];exact⟨h1,h2,by simpa using h3,by simpa using h4⟩
  ·exact⟨h1,h2,h3,h4⟩
 ·rw[if_neg hw];have hd2:((f-s+n)%n).toNat<n:=by
   have:=alL (f-s+n) (show(n:Int)≠0 by omega);have:=akS (f-s+n) (show(0:Int)<n by omega);omega
  by_cases g:(s+(d:Int))%n=f
  ·rw[if_pos g,hc.1 g];refine⟨by rw[ajc];exact h1,by rw[ajc];exact h2,?_,λe=>by simp[hw]at e⟩;rw[qh aa,h3];cases b with
   |true=>
    have hne:l≠[]:=λe=>by rw[e]at h2;simp at h2;omega
    simp[hne]
   |false=>
    rw[h4 rfl];simp[hw]
  ·rw[if_neg g];have hne:((f-s+n)%n).toNat≠d:=λe=>g (hc.2 e);exact⟨by rw[ajc];exact h1,h2,by rw[getD_set_ne hne];exact h3,h4⟩
theorem VV{n d:Nat}(hd:d<n):∀(T:List agA) (D:List (List Int)) (r:List Int×Bool),T.Pairwise (λa b=>¬(a.1=b.1/\a.2.1=b.2.1))->(∀t∈T,(0<=t.1/\t.1<n)/\0<=t.2.1/\t.2.1<n)->aco n d D r->
 (∀t∈T,(t.1+(d:Int))%n=t.2.1->r.1.getD t.1.toNat 0=0)->aco n d (T.foldl (λD t=>nu n D t.1 t.2.1 t.2.2) D) (T.foldl (λr t=>Sd n d r t.1 t.2.1 t.2.2) r)
 |[],D,r,_,_,h,_=>h
 |t::T,D,r,hp,hin,h,hz=>by
  obtain⟨hp1,hp2⟩:=aiN.1 hp;rw[ahb,ahb];have ht:=hin t YV;refine VV hd T _ _ hp2 (λu hu=>hin u (aeg _ hu)) (h.step hd ht.1 ht.2 (hz t YV)) λu hu hc=> ?_;have hu0:=hz u (aeg _ hu) hc;unfold Sd;split
  ·rename_i g;have hne:t.1.toNat≠u.1.toNat:=λe=>by
    have hti:=hin u (aeg _ hu);have e1:t.1=u.1:=by omega
    exact hp1 u hu ⟨e1,by rw[<-g,<-hc,e1]⟩
   simp only;rw[getD_set_ne hne];exact hu0
  ·exact hu0
end
end Go.Proofs.YtgndjjdeopfdkaaGreat

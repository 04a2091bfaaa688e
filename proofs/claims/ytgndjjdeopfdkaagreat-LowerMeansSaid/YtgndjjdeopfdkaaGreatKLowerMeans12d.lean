import Derived.DeepKeys
import Derived.Test.YtgndjjdeopfdkaaGreatKLowerMeans12c
/- texts UK PI of the proof of LowerMeansSaid -/
set_option maxHeartbeats 16000000
set_option maxRecDepth 20000
set_option linter.unusedVariables false
set_option linter.unusedSimpArgs false
namespace Go.Proofs.YtgndjjdeopfdkaaGreat
open Go.SX Go.RowKit
def inL(l:List Int):Nat->Bool:=λk=>decide ((k:Int)∈l)
theorem afH(l:List Int){k:Nat}{x:Int}(hx:x=k):inL (l++[x])=jM (inL l) k:=by
 funext j
 unfold inL jM;subst hx;by_cases h1:(j:Int)∈l
 ·simp[h1]
 ·by_cases h2:j=k
  ·subst h2;simp
  ·simp[h1,h2];omega
theorem KL(w:World)(u:ax)(hu:u.ok w)(n:Nat)(hp:Sl n u.xs):Calls Tryz.prog 48 #[u.val,.int .i64 n] w λe w'=>e= .returned (.bool true)/\Ext w w':=by
 have ug:=hu.few;refine fH Tryz.func48 [.c (.slice u.base u.xs.length u.cap),aC n] ?_;repeat' ((conv=>whnf)<;>first|(show xA ..;refine O1 (λr=> ?_))|refine a_ ?_)
 have h0:inL []=λ_=>false:=by funext j;simp[inL]
 refine Wp.loop (σ:=Nat) 2 (λi=>[(1,aC n),(5,.c (.map (some r))),(9,.c (.slice u.base u.xs.length u.cap)),(10,aC u.xs.length),(11,aC i)]) (λi=>[(0,.ext (lC r (uZ (inL (u.xs.take i)))))]) (λ_=>aU w)
  (λi=>i<=u.xs.length) (λi=>u.xs.length-i) 0 [] ay (λ_=>⟨rfl,rfl⟩) (aae _) ⟨rfl,⟨rfl,rfl,rfl,rfl,rfl,trivial⟩,⟨by rw[List.take_zero,h0];exact YV,trivial⟩,λR w' h=>h⟩ ?_
 rintro i hi;by_cases hlt:i<u.xs.length
 ·obtain⟨ua,rO⟩:=hu.base aa;have hur:∀(R:Nat->Prop) w',(aU w).holds R w'->bE w' (some ua) 1 (aZ u.xs):=λR w' hR=>by rw[<-rO];exact aH hR hu.rows
  have hb:=hp.bd _ (cu hlt);obtain⟨k,hk⟩:∃k:Nat,u.xs.getD i 0=k:=⟨(u.xs.getD i 0).toNat,by omega⟩;have al5:inL (u.xs.take i) k=false:=by
   unfold inL;rw[decide_eq_false_iff_not];intro hm;obtain⟨j,hj,he⟩:=am0.1 hm;rw[List.getElem_take]at he;rw[aek]at hj;have:=Hr hp.nodup (i:=j) (j:=i) aa hlt aa;rw[getD_at (show j<u.xs.length by omega),he,hk]at this;exact this rfl
  have htk:jM (inL (u.xs.take i)) k=inL (u.xs.take (i+1)):=by
   rw[ajP hlt,afH _ (x:=u.xs[i]) (by rw[<-getD_at hlt,hk])]
  repeat' ((conv=>whnf)<;>first|refine bn ?_|(show dn ..;refine aM ua i rO rfl hlt ?_)|(show gZ ..;refine qQ hur hlt hk ?_)|(show Ce ..;(refine Oo aj al5 ?_))|refine zY ?_|refine nU ?_|refine a_ ?_)
  all_goals(conv=>whnf)
  all_goals exact⟨i+1,[],hlt,by show u.xs.length-(i+1)<u.xs.length-i;omega,rfl,fE,⟨by rw[<-htk];exact YV,trivial⟩,λ_ _ h=>h⟩
 ·repeat' ((conv=>whnf)<;>first|refine bn ?_|refine a_ ?_)
  all_goals(conv=>whnf)
  all_goals exact bq (λ_ _ h=>h) rfl rfl
theorem ZY(w:World)(b i:Nat)(k:Int)(T:TypeId)(h:w.heap[b]? =some (.cells [Value.int .i64 (i:Int)].toArray T (0,0)))(hk:0<=k/\k<i):Calls Tryz.prog 102 #[.int .i64 k,.pointer (some ⟨b,0,none⟩)] w λen w'=>en= .returned (.bool true)/\Ext w w':=by
 have hc:w.cell? ⟨b,0,none⟩=some (.int .i64 i):=by simp[World.cell?,h]
 obtain⟨k0,k1⟩:=hk;refine fH Tryz.func102 [aC k,.c (.pointer (some ⟨b,0,none⟩))] ?_;repeat' ((conv=>whnf)<;>first|refine bn ?_|refine F7 ?_|refine a_ ?_)
 all_goals(conv=>whnf)
 all_goals exact bq (λ_ _ h=>h) rfl rfl
theorem Mw(w:World)(k:Int)(n:Nat)(hk:0<=k/\k<n):Calls Tryz.prog 103 #[.int .i64 k,.int .i64 n] w λen w'=>en= .returned (.bool true)/\Ext w w':=by
 obtain⟨k0,k1⟩:=hk;refine fH Tryz.func103 [aC k,aC n] ?_;repeat' ((conv=>whnf)<;>first|refine bn ?_|refine a_ ?_)
 all_goals(conv=>whnf)
 all_goals exact bq (λ_ _ h=>h) rfl rfl
theorem EQ{B:Base}{ρ:Nat->SX.Loc}{nx:Nat}{H:Heap}{S:bR}{w:World}{j i:Nat}{k:Int}{T:TypeId}(hw:dO B ρ nx H S w)(he:(j,b_.box [aC (i:Int)] T)∈H)(hk:0<=k/\k<i):
 Calls Tryz.prog 102 (SV.dW ρ [aC k,.lp j 0 0 0]).toArray w λen w'=>en= .returned (.bool true)/\Ext w w':=by
 obtain⟨R,φ,hw⟩:=hw;obtain⟨b,h1,h2,h3⟩:=hw.jA _ he;simp only at h1;have ha:(SV.dW ρ [aC k,.lp j 0 0 0]).toArray= #[.int .i64 k,.pointer (some ⟨b,0,none⟩)]:=by
  simp[SV.dW,SV.rf,h1,Addr.add]
 rw[ha];exact ZY w b i k T h3 hk
theorem aeb(w:World)(x:jf)(i:Nat)(v:l7)(n:Nat)(hn:v.aA=n)(hx:xk n v.aF.l.length v.inputs.length i x):Calls Tryz.prog 49 #[Wm x,.int .i64 i,v.val] w λen w'=>en= .returned (.bool true)/\Ext w w':=by
 obtain⟨ht,hx⟩:=hx;refine fH Tryz.func49 [.agg [aC x.op,aC x.KD,aC x.a,aC x.b,aC x.k],aC i,.agg [aC v.aA,.c (.slice v.ib v.inputs.length v.ic),.c v.aF.val,.c (.slice v.cb v.code.length v.cc),aC v.last,.c v.out.val]] ?_;rcases hx with(⟨ho,ha,hb,k0,k1⟩|⟨ho,ha,hb,k0,k1⟩)|⟨ho,ha,hb,hk⟩|⟨ho,ha,hb,k0,k1⟩|⟨ho,ha,hb,k0,k1⟩
 ·repeat' ((conv=>whnf)<;>first|refine bn ?_|(show aJ _ 103 ..;refine aR (f:=103) Tryz.call103 (.bool true) (λρ w' _=>Mw w' x.k v.inputs.length ⟨k0,k1⟩) ?_)|refine a_ ?_)
  all_goals(conv=>whnf)
  all_goals exact bq (λ_ _ h=>h) rfl rfl
 ·repeat' ((conv=>whnf)<;>first|refine bn ?_|refine Ng ?_|refine a_ ?_)
  all_goals(conv=>whnf)
  all_goals exact bq (λ_ _ h=>h) rfl rfl
 ·rcases ho with ho|ho
  all_goals
   repeat' ((conv=>whnf)<;>first|refine bn ?_|(show aJ _ 102 [aC x.a,_] ..;(refine aR (f:=102) Tryz.call102 (.bool true) (λρ w' hw=>EQ hw (i:=i) (T:=3) aj ha) ?_))|(show aJ _ 102 [aC x.b,_] ..;(refine aR (f:=102) Tryz.call102 (.bool true) (λρ w' hw=>EQ hw (i:=i) (T:=3) aj hb) ?_))|refine a_ ?_)
   all_goals(conv=>whnf)
   all_goals exact bq (λ_ _ h=>h) rfl rfl
 ·rcases ho with ho|ho
  all_goals
   repeat' ((conv=>whnf)<;>first|refine bn ?_|refine O8 ?_|refine Ng ?_|refine a_ ?_)
   all_goals(conv=>whnf)
   all_goals exact bq (λ_ _ h=>h) rfl rfl
 ·repeat' ((conv=>whnf)<;>first|refine bn ?_|refine O8 ?_|refine a_ ?_)
  all_goals(conv=>whnf)
  all_goals exact bq (λ_ _ h=>h) rfl rfl
structure KE(w:World)(v:l7)(n:Nat):Prop where
 aA:v.aA=n
 n2:4<=n/\n<=2048
 pow:bitsOf .and .i64 (n:Int) ((n:Int)-1)=0
 few:1<=v.code.length/\v.code.length<=2048
 last:0<=v.last/\v.last<v.code.length
 out:v.out.ok w/\Sl n v.out.xs
 xm:bE w v.aF.base 1 (bA v.aF.l)
 aF:∀u∈v.aF.l,u.ok w/\u.xs.length=n
 tO:bE w v.ib 3 (mq v.inputs)
 inputs:∀x∈v.inputs,x.aA.ok w/\Sl n x.aA.xs
 Yr:bE w v.cb 5 (iX v.code)
 form:∀i x,v.code[i]? =some x->xk n v.aF.l.length v.inputs.length i x
 yF:v.aF.l.length<=1000000
 aaK:v.inputs.length<=1000000
theorem OV{l:List jf}{k:Nat}{x:jf}(h:l[k]? =some x):(iX l)[k]? =some (uI x):=by
 unfold iX;rw[ab5,h];rfl
theorem KE.later{w w':World}{R:Nat->Prop}{v:l7}{n:Nat}(h:KE w v n)(hb:(aU w).holds R w'):KE w' v n:=
 ⟨h.aA,h.n2,h.pow,h.few,h.last,⟨h.out.1.later hb,h.out.2⟩,aH hb h.xm,λu hu=>⟨(h.aF u hu).1.later hb,(h.aF u hu).2⟩,aH hb h.tO,λx hx=>⟨(h.inputs x hx).1.later hb,(h.inputs x hx).2⟩,aH hb h.Yr,h.form,h.yF,h.aaK⟩
theorem CO(w:World)(v:l7)(n:Nat)(h:KE w v n):Calls Tryz.prog 19 #[v.val] w λen w'=>en= .returned (.int .i64 0)/\Ext w w':=by
 obtain⟨n4,n2⟩:=h.n2;obtain⟨f1,f2⟩:=h.few;obtain⟨l1,l2⟩:=h.last;have hn:=h.aA;have ant:=h.pow;rw[<-hn]at ant;have hfp:=h.yF;have hfi:=h.aaK;refine fH Tryz.func19 [.agg [aC v.aA,.c (.slice v.ib v.inputs.length v.ic),.c v.aF.val,.c (.slice v.cb v.code.length v.cc),aC v.last,.c v.out.val]] ?_;repeat' ((conv=>whnf)<;>first|refine bn ?_|(show Ci ..;refine G5 ?_)|(show fF ..;refine pF (v.aA-1) rfl aa aa ?_)|(show aJ _ 48 ..;(refine aR (f:=48) Tryz.call48 (.bool true) (λρ w' hw=>by rw[hn];exact KL w' v.out (ae hw λR hR=>h.out.1.later hR) n h.out.2) ?_))|refine a_ ?_)
 refine Wp.loop (σ:=Nat) 1 (λi=>[(1,.lp 0 0 0 0),(60,.c v.aF.val),(61,aC v.aF.l.length),(62,aC i)]) (λi=>[(0,(.box [aC v.aA,.c (.slice v.ib v.inputs.length v.ic),.c v.aF.val,.c (.slice v.cb v.code.length v.cc),aC v.last,.c v.out.val] 34))]) (λ_=>aU w)
  (λi=>i<=v.aF.l.length) (λi=>v.aF.l.length-i) 0 [] ay (λ_=>⟨rfl,rfl⟩) (aae _) ⟨rfl,⟨rfl,rfl,rfl,rfl,trivial⟩,⟨aj,trivial⟩,λR w' h=>h⟩ ?_
 rintro i hi;by_cases hlt:i<v.aF.l.length
 ·obtain⟨pa,Gm⟩:∃a,v.aF.base=some a:=aT (j:=i) h.xm pM;have hrow:=oQ (l:=v.aF.l) (YL hlt);have hu:=h.aF _ (aby hlt);generalize v.aF.l[i]=u at*;obtain⟨_,I4⟩:=hu;repeat' ((conv=>whnf)<;>first|refine bn ?_|(show dn ..;refine aM pa i Gm rfl hlt ?_)|(show gZ ..;(refine bN (λR w' hR=>by rw[<-Gm];exact aH hR h.xm) _ _ (j:=i) hrow rfl ?_))|refine nU ?_|refine a_ ?_)
  all_goals(conv=>whnf)
  all_goals exact⟨i+1,[],hlt,by show v.aF.l.length-(i+1)<v.aF.l.length-i;omega,rfl,fE,⟨aj,trivial⟩,λ_ _ h=>h⟩
 repeat' ((conv=>whnf)<;>first|refine bn ?_|refine a_ ?_)
 refine Wp.loop (σ:=Nat) 1 (λi=>[(1,.lp 0 0 0 0),(73,.c (.slice v.ib v.inputs.length v.ic)),(74,aC v.inputs.length),(75,aC i)]) (λi=>[(0,(.box [aC v.aA,.c (.slice v.ib v.inputs.length v.ic),.c v.aF.val,.c (.slice v.cb v.code.length v.cc),aC v.last,.c v.out.val] 34))]) (λ_=>aU w)
  (λi=>i<=v.inputs.length) (λi=>v.inputs.length-i) 0 [] ay (λ_=>⟨rfl,rfl⟩) (aae _) ⟨rfl,⟨rfl,rfl,rfl,rfl,trivial⟩,⟨aj,trivial⟩,λR w' h=>h⟩ ?_
 clear hi hlt i;rintro i hi;by_cases hlt:i<v.inputs.length
 ·obtain⟨pa,Gm⟩:∃a,v.ib=some a:=aT (j:=i) h.tO (by rw[lJ];exact hlt);have hrow:=Cy (l:=v.inputs) (YL hlt);have hu:=h.inputs _ (aby hlt);generalize v.inputs[i]=u at*;obtain⟨Lx,iL⟩:=hu;repeat' ((conv=>whnf)<;>first|refine bn ?_|(show dn ..;refine aM pa i Gm rfl hlt ?_)|(show lK ..;(refine gI (λR w' hR=>by rw[<-Gm];exact aH hR h.tO) _ hrow rfl ?_))|(show aJ _ 48 ..;(refine aR (f:=48) Tryz.call48 (.bool true) (λρ w' hw=>by rw[hn];exact KL w' u.aA (ae hw λR hR=>Lx.later hR) n iL) ?_))|refine nU ?_|refine a_ ?_)
  all_goals(conv=>whnf)
  all_goals exact⟨i+1,[],hlt,by show v.inputs.length-(i+1)<v.inputs.length-i;omega,rfl,fE,⟨aj,trivial⟩,λ_ _ h=>h⟩
 repeat' ((conv=>whnf)<;>first|refine bn ?_|refine a_ ?_)
 refine Wp.loop (σ:=Nat) 1 (λi=>[(1,.lp 0 0 0 0),(87,.c (.slice v.cb v.code.length v.cc)),(88,aC v.code.length),(89,aC i)]) (λi=>[(0,(.box [aC v.aA,.c (.slice v.ib v.inputs.length v.ic),.c v.aF.val,.c (.slice v.cb v.code.length v.cc),aC v.last,.c v.out.val] 34))]) (λ_=>aU w)
  (λi=>i<=v.code.length) (λi=>v.code.length-i) 0 [] ay (λ_=>⟨rfl,rfl⟩) (aae _) ⟨rfl,⟨rfl,rfl,rfl,rfl,trivial⟩,⟨aj,trivial⟩,λR w' h=>h⟩ ?_
 clear hi hlt i;rintro i hi;by_cases hlt:i<v.code.length
 ·obtain⟨pa,Gm⟩:∃a,v.cb=some a:=aT (j:=i) h.Yr EG;have hrow:=OV (l:=v.code) (YL hlt);have hx:=h.form i _ (YL hlt);generalize v.code[i]=x at*;repeat' ((conv=>whnf)<;>first|refine bn ?_|(show dn ..;refine aM pa i Gm rfl hlt ?_)|(show lK ..;(refine gI (λR w' hR=>by rw[<-Gm];exact aH hR h.Yr) _ hrow rfl ?_))|(show aJ _ 49 ..;refine aR (f:=49) Tryz.call49 (.bool true) (λρ w' hw=>aeb w' x i v n hn hx) ?_)|refine nU ?_|refine a_ ?_)
  all_goals(conv=>whnf)
  all_goals exact⟨i+1,[],hlt,by show v.code.length-(i+1)<v.code.length-i;omega,rfl,fE,⟨aj,trivial⟩,λ_ _ h=>h⟩
 repeat' ((conv=>whnf)<;>first|refine bn ?_|refine a_ ?_)
 all_goals(conv=>whnf)
 all_goals exact bZ (λ_ _ h=>h) (λ_=>rfl) rfl
structure ae7(w:World)(v:l7)(ins:aY):Prop where
 rows:bE w ins.base 1 (bA ins.l)
 each:∀u∈ins.l,u.ok w
 mat:Fh (v.inputs.map nN.pl) (ins.l.map ax.xs)
def Iu(n:Nat)(v:l7)(ins:aY):List (List Int):=xh n (v.inputs.map nN.pl) (ins.l.map ax.xs)
def plI(v:l7):List (List Int):=v.aF.l.map ax.xs
theorem Wz(n:Nat):∀(I:List BZ) (V:List (List Int)) (r:List Int),r∈xh n I V->r.length=n
 |[],_,r,h=>by cases h
 |_::_,[],r,h=>by cases h
 |p::I,q::V,r,h=>by
  rcases abr.1 h with h|h
  ·rw[h,dA]
  ·exact Wz n I V r h
theorem l6{l:List (List Int)}{n k:Nat}(h:∀r∈l,r.length=n)(hk:k<l.length):(l.getD k []).length=n:=by
 rw[TR,YL hk];exact h _ (aby hk)
theorem agO{n:Nat}{pl I acc:List (List Int)}{x:jf}(hx:xk n pl.length I.length acc.length x)(hp:∀r∈pl,r.length=n)(hI:∀r∈I,r.length=n)(ha:∀r∈acc,r.length=n):(rR pl I acc x).length=n:=by
 obtain⟨_,hx⟩:=hx;unfold rR;rcases hx with(⟨ho,_,_,k0,k1⟩|⟨ho,_,_,k0,k1⟩)|⟨ho,⟨a0,a1⟩,⟨b0,b1⟩,_⟩|⟨ho,⟨a0,a1⟩,_,k0,k1⟩|⟨ho,⟨a0,a1⟩,_,k0,k1⟩
 ·rw[if_pos ho];exact l6 hI aa
 ·rw[if_neg aa,if_pos ho];exact l6 hp aa
 ·rcases ho with ho|ho
  ·rw[if_neg aa,if_neg aa,if_pos ho];exact xu (l6 ha aa) (l6 ha aa)
  ·rw[if_neg aa,if_neg aa,if_neg aa,if_neg aa,if_neg aa,if_pos ho];exact uE (l6 ha aa) (l6 ha aa)
 ·rcases ho with ho|ho
  ·rw[if_neg aa,if_neg aa,if_neg aa,if_pos ho];exact xu (l6 ha aa) (l6 hp aa)
  ·rw[if_neg aa,if_neg aa,if_neg aa,if_neg aa,if_pos ho];exact uE (l6 ha aa) (l6 hp aa)
 ·rw[if_neg aa,if_neg aa,if_neg aa,if_neg aa,if_neg aa,if_neg aa,BF];exact l6 ha aa
def xV(u:ax):bR:=f_ u.base 1 (eT u.xs)
def aa0(N:Nat)(l:List ax):bR where
 holds R w:=∀u∈l,((xV u).past N).holds R w
 stable:=λhR hw h u hu=>((xV u).past N).stable hR hw (h u hu)
theorem agb{w w':World}{v:Value}{xs:List Int}(h:je w w' v 1 59 (eT xs)):∃u:ax,v=u.val/\u.xs=xs/\u.xs.length<=u.cap/\(xV u).holds (λb=>w.heap.size<=b/\b<w'.heap.size) w':=by
 obtain⟨base,cap,e,h1⟩:=ig h;obtain⟨l,e2,F,hF,hr,hcap,_⟩:=h;rw[e2]at e;simp only[Value.slice.injEq]at e;obtain⟨e3,_,e4⟩:=e;refine⟨⟨base,cap,xs⟩,?_,rfl,?_,h1⟩
 ·rw[e2,e3,e4,eG];rfl
 ·show xs.length<=cap;rw[<-e4];simpa[eG]using hcap
theorem af6{w:World}{v:l7}{t n:Nat}{ins:aY}{us:List ax}{acc:List (List Int)}(h:KE w v n)(hi:ae7 w v ins)(ht:0<t/\t<=1073741824)(x:jf)(hx:xk n v.aF.l.length v.inputs.length us.length x)(hacc:us.map ax.xs=acc.map (List.map (λz:Int=>z%(t:Int))))(hl:∀r∈acc,r.length=n)(iL:∀u∈us,u.xs.length<=u.cap)
 {ρ:Nat->SX.Loc} {nx:Nat} {H:Heap} {S:bR} {w':World} {j k m:Nat} {T:TypeId} (hw:dO ⟨w,[]⟩ ρ nx H S w') (hS:∀R w',S.holds R w'->(aU w).holds R w'/\(aa0 w.heap.size us).holds R w') (hj:(j,b_.box ([aC v.aA,.c (.slice v.ib v.inputs.length v.ic),.c v.aF.val,.c (.slice v.cb v.code.length v.cc),aC v.last,.c v.out.val]++[.c (.int .u64 t),.c ins.val,.os k m]) 96)∈H) (hk:(k,b_.rows (bA us) 1 T)∈H) (hm:m=us.length):
 Calls Tryz.prog 46 (SV.dW ρ [.lp j 0 0 0,.agg [aC x.op,aC x.KD,aC x.a,aC x.b,aC x.k]]).toArray w' (og w' ((rR (plI v) (Iu n v ins) acc x).map (λz:Int=>z%(t:Int)))):=by
 subst hm;have hkr:=eZ hw hk;obtain⟨R,φ,lF⟩:=hw;obtain⟨b,h1,h2,h3⟩:=lF.jA _ hj;simp only at h1;have hSS:=hS _ _ lF.qL;have hv:=h.later hSS.1;have aoX:acc.length=us.length:=by have:=congrArg List.length hacc;simpa using this.symm
 have hM:za w' b v t n ins (ρ k).base (ρ k).cap us:=⟨h3,hv.aA,hv.n2,ht,hv.xm,hv.aF,hv.tO,hv.inputs,aH hSS.1 hi.rows,λu hu=>(hi.each u hu).later hSS.1,hi.mat,hkr,λu hu=>⟨bf ((xV u).mono (hSS.2 u hu) (λb hb=>hb.1)),iL u hu,by
  have:u.xs∈acc.map (List.map (λz:Int=>z%(t:Int))):=by rw[<-hacc];exact abl.2 ⟨u,hu,rfl⟩
  obtain⟨r,hr,e⟩:=abl.1 this;rw[<-e,aas];exact hl r hr,by
  have:u.xs∈acc.map (List.map (λz:Int=>z%(t:Int))):=by rw[<-hacc];exact abl.2 ⟨u,hu,rfl⟩
  obtain⟨r,hr,e⟩:=abl.1 this;rw[<-e];exact Ug ht.1⟩⟩
 have ha:(SV.dW ρ [.lp j 0 0 0,.agg [aC x.op,aC x.KD,aC x.a,aC x.b,aC x.k]]).toArray= #[.pointer (some ⟨b,0,none⟩),Wm x]:=by
  simp[SV.dW,SV.rf,h1,Addr.add,Wm]
 rw[ha];exact ac8 hM x hx hacc hl
def qJ(t:Nat)(r:List Int):List Int:=r.map λz=>qj t (z%t)
theorem afK{t:Nat}(ht:0<t/\t<=1073741824)(z:Int): -1073741824<=qj t (z%t)/\qj t (z%t)<=1073741824:=by
 have h1:=alL z (show(t:Int)≠0 by omega);have h2:=akS z (show(0:Int)<t by omega);unfold qj;split<;>omega
theorem Zl(us:List ax)(v:ax){val:Value}(hv:v.val=val){i:Nat}{T:TypeId}{H:Heap}:(i,b_.rows (bA (us++[v])) 1 T)∈(i,b_.rows (List.take us.length (bA us)++[[val]]) 1 T)::H:=by
 subst hv;exact yA us v
theorem Zh(n:Nat):List.replicate n [Value.int .i64 0]=aZ (List.replicate n 0):=by simp[aZ]
theorem KR(n:Nat):∀(I:List BZ) (V:List (List Int)) {m:Nat},Fh I V->I.length=m->(xh n I V).length=m
 |[],[],_,_,h=>h
 |[],_::_,_,h,_=>h.elim
 |_::_,[],_,h,_=>h.elim
 |p::I,q::V,m,h,hm=>by
  show(xh n I V).length+1=m;rw[KR n I V h.2 rfl];simpa using hm
theorem adU{w:World}{xs z:List Int}{t:Nat}(hz:xs=z):∀(e:Ending) (w':World),og w (xs.map (λz:Int=>z%(t:Int))) e w'->∃u:ax,(u.xs=z.map (λz:Int=>z%(t:Int))/\u.xs.length<=u.cap)/\e= .returned u.val/\Ext w w'/\(xV u).holds (λb=>w.heap.size<=b/\b<w'.heap.size) w':=by
 rintro e w' ⟨r,rfl,he,hn⟩;obtain⟨u,rfl,h1,h2,h3⟩:=agb hn;exact⟨u,⟨by rw[h1,hz],h2⟩,rfl,he,h3⟩
theorem agK(w:World)(v:l7)(n:Nat)(h:KE w v n)(ins:aY)(hi:ae7 w v ins)(t:Nat)(ht:2<=t/\t<=1073741824):Calls Tryz.prog 18 #[v.val,ins.val,.int .u64 t] w (oW w (0,(qM (plI v) (Iu n v ins) v.code).map (qJ t))):=by
 obtain⟨t1,t2⟩:=ht;have hlen:=hi.mat.len;rw[aas,aas]at hlen;have hfi:=h.aaK;obtain⟨f1,f2⟩:=h.few;refine fH Tryz.func18 [.agg [aC v.aA,.c (.slice v.ib v.inputs.length v.ic),.c v.aF.val,.c (.slice v.cb v.code.length v.cc),aC v.last,.c v.out.val],.c ins.val,.c (.int .u64 t)] ?_;repeat' ((conv=>whnf)<;>first|refine bn ?_|(show aJ _ 19 ..;refine aR (f:=19) Tryz.call19 (.int .i64 0) (λρ w' hw=>CO w' v n (ae hw λR hR=>h.later hR)) ?_)|refine a_ ?_)
 refine Wp.loop (σ:=Nat) 1 (λi=>[(1,.c ins.val),(2,.c (.int .u64 t)),(3,.lp 0 0 0 0),(36,.c ins.val),(37,aC ins.l.length),(38,aC i)]) (λi=>[(0,(.box [aC v.aA,.c (.slice v.ib v.inputs.length v.ic),.c v.aF.val,.c (.slice v.cb v.code.length v.cc),aC v.last,.c v.out.val] 34))]) (λ_=>aU w)
  (λi=>i<=ins.l.length) (λi=>ins.l.length-i) 0 [] ay (λ_=>⟨rfl,rfl⟩) (aae _) ⟨rfl,⟨rfl,rfl,rfl,rfl,rfl,rfl,trivial⟩,⟨aj,trivial⟩,λR w' h=>h⟩ ?_
 rintro i hil;by_cases hlt:i<ins.l.length
 ·obtain⟨pa,Gm⟩:∃a,ins.base=some a:=aT (j:=i) hi.rows pM;obtain⟨ia,hia⟩:∃a,v.ib=some a:=aT (j:=i) h.tO (by rw[lJ];omega);have hrow:=oQ (l:=ins.l) (YL hlt);have hrow2:=Cy (l:=v.inputs) (YL (show i<v.inputs.length by omega));have hm:=hi.mat.at_ (k:=i) (x:=v.inputs[i].pl) (y:=ins.l[i].xs) (by rw[ab5,YL aa];rfl) (by rw[ab5,YL hlt];rfl);have hm2:ins.l[i].xs.length=v.inputs[i].aA.xs.length:=hm;generalize ins.l[i]=u at*;generalize v.inputs[i]=y at*;repeat' ((conv=>whnf)<;>first|refine bn ?_|(show dn ..;(first|refine aM pa i Gm rfl hlt ?_|refine aM ia i hia rfl aa ?_))|(show gZ ..;(first|refine bN (λR w' hR=>by rw[<-Gm];exact aH hR hi.rows) _ _ (j:=i) hrow rfl ?_|refine Us (λR w' hR=>by rw[<-hia];exact aH hR h.tO) _ _ hrow2 (f:=2) rfl ?_))|refine nU ?_|refine a_ ?_)
  all_goals(conv=>whnf)
  all_goals exact⟨i+1,[],hlt,by show ins.l.length-(i+1)<ins.l.length-i;omega,rfl,fE,⟨aj,trivial⟩,λ_ _ h=>h⟩
 repeat' ((conv=>whnf)<;>first|refine bn ?_|refine a_ ?_)
 refine Wp.loop (σ:=Nat×List ax×List ax) 4 (λ⟨i,us,os⟩=>[(2,.c (.int .u64 t)),(10,.lp 1 0 0 0),(11,.os 3 i),(60,.c (.slice v.cb v.code.length v.cc)),(61,aC v.code.length),(62,aC i)]) (λ⟨i,us,os⟩=>[(2,.rows (bA us) 1 89),(3,.rows (bA os) 1 32),(1,.box ([aC v.aA,.c (.slice v.ib v.inputs.length v.ic),.c v.aF.val,.c (.slice v.cb v.code.length v.cc),aC v.last,.c v.out.val]++[.c (.int .u64 t),.c ins.val,.os 2 i]) 96)]) (λ⟨_,us,os⟩=>((aU w).and (aa0 w.heap.size us)).and (rT w.heap.size os))
  (λ⟨i,us,os⟩=>i<=v.code.length/\us.length=i/\os.length=i/\us.map ax.xs=(qM (plI v) (Iu n v ins) (v.code.take i)).map (List.map (λz:Int=>z%(t:Int)))/\os.map ax.xs=(qM (plI v) (Iu n v ins) (v.code.take i)).map (qJ t)/\(∀r∈qM (plI v) (Iu n v ins) (v.code.take i),r.length=n)/\(∀u∈us,u.xs.length<=u.cap)/\∀u∈os,u.bF) (λs=>v.code.length-s.1) (0,[],[]) [(2,none),(3,none)] ay (λ_=>⟨rfl,rfl⟩) ⟨aae _,rfl,rfl,rfl,rfl,λr hr=>(by cases hr),λu hu=>(by cases hu),λu hu=>(by cases hu)⟩ ⟨rfl,⟨rfl,rfl,rfl,rfl,rfl,rfl,trivial⟩,⟨rfl,rfl,aj,trivial⟩,λR w' h=>⟨⟨h,λu hu=>(by cases hu)⟩,yD _ _ _⟩⟩ ?_
 clear hlt hil i;rintro⟨i,us,os⟩ ⟨hil,I4,hol,hacc,hos,hal,hur,akB⟩;by_cases hlt:i<v.code.length
 ·obtain⟨ca,hca⟩:∃a,v.cb=some a:=aT (j:=i) h.Yr EG;have hrow:=OV (l:=v.code) (YL hlt);have hx:=h.form i _ (YL hlt);have htk:=ajP hlt;generalize v.code[i]=x at*;have hz:=RN (plI v) (Iu n v ins) (v.code.take i) x;rw[<-htk]at hz;have hzl:(rR (plI v) (Iu n v ins) (qM (plI v) (Iu n v ins) (v.code.take i)) x).length=n:=agO (by
   have e1:(plI v).length=v.aF.l.length:=aas _;have e2:(Iu n v ins).length=v.inputs.length:=KR n _ _ hi.mat (aas _);rw[e1,e2,uw,aek,ajY aa];exact hx) (λr hr=>by
   obtain⟨u,hu,rfl⟩:=abl.1 hr;exact(h.aF u hu).2) (Wz n _ _) hal
  generalize hzz:rR (plI v) (Iu n v ins) (qM (plI v) (Iu n v ins) (v.code.take i)) x=z at*;have hn2:=h.n2;subst I4;repeat' ((conv=>whnf)<;>first|refine bn ?_|(show dn ..;refine aM ca us.length hca rfl hlt ?_)|(show lK ..;(refine gI (λR w' hR=>by rw[<-hca];exact aH hR.1.1 h.Yr) _ hrow rfl ?_))|(show aJ _ 46 ..;(refine jU Tryz.call46 ax.val xV (λu=>u.xs=z.map (λz:Int=>z%(t:Int))/\u.xs.length<=u.cap) (λρ w' hw=>((af6 h hi ⟨by omega,t2⟩ x hx hacc hal hur hw (λR w' hR=>hR.1) (T:=89) aj aj rfl).mono (adU hzz))) (λu hu=> ?_)))|refine zT ?_|refine rX ?_|(show pg ..;(refine lD n (by rw[hu.1,aas,hzl]) (by rw[hu.1,aas,hzl]) AB aa ?_))|(show qN _ ((_,.rows (List.take us.length (bA us)++_) _ _)::_) _ _ _;refine uM (ys:=bA (us++[u])) (m:=us.length+1) ?_ (Vk us u) rfl)|refine a_ ?_)
  have huz:=hu.1;have anH:u.xs.length=n:=by rw[huz,aas,hzl]
  have hub:=Ug (l:=z) (t:=t) aa;rw[<-huz]at hub;refine Wp.know (p:=∃a,u.base=some a) (λρ w' hw=>ae hw λR hR=>aT (j:=0) (bf ((xV u).mono hR.2 (λb hb=>hb.1))) AC) ?_;rintro⟨ua,rO⟩;have huR:∀(R:Nat->Prop) w',(((((aU w).and (aa0 w.heap.size us)).and (rT w.heap.size os)).and ((xV u).past w.heap.size))).holds R w'->bE w' (some ua) 1 (eT u.xs):=λR w' hR=>by rw[<-rO];exact bf ((xV u).mono hR.2 (λb hb=>hb.1))
  refine Wp.loop (σ:=Nat) 8 (λj=>[(2,.c (.int .u64 t)),(10,.lp 1 0 0 0),(11,.os 3 us.length),(15,.os 7 n),(60,.c (.slice v.cb v.code.length v.cc)),(61,aC v.code.length),(62,aC us.length),(82,.c u.val),(83,aC u.xs.length),(84,aC j)]) (λj=>[(7,.rows (aZ (HZ (λk=>qj t (u.xs.getD k 0)) n j)) 1 3),(6,.rows (bA (us++[u])) 1 89),(3,.rows (bA os) 1 32),(1,.box ([aC v.aA,.c (.slice v.ib v.inputs.length v.ic),.c v.aF.val,.c (.slice v.cb v.code.length v.cc),aC v.last,.c v.out.val]++[.c (.int .u64 t),.c ins.val,.os 6 (us.length+1)]) 96)]) (λ_=>(((aU w).and (aa0 w.heap.size us)).and (rT w.heap.size os)).and ((xV u).past w.heap.size))
   (λj=>j<=n) (λj=>n-j) 0 [] ay (λ_=>⟨rfl,rfl⟩) (aae _) ⟨rfl,⟨rfl,rfl,rfl,rfl,rfl,rfl,rfl,rfl,rfl,rfl,trivial⟩,⟨by rw[Jw,<-Zh];exact YV,aj,aj,aj,trivial⟩,λR w' h=>h⟩ ?_
  rintro j hj;by_cases hjl:j<n
  ·have hlen:=Bz (λk=>qj t (u.xs.getD k 0)) n j;have hb:=hub _ (cu (k:=j) aa);obtain⟨a,ha⟩:∃a:Nat,u.xs.getD j 0=a:=⟨(u.xs.getD j 0).toNat,by omega⟩;have anS:∀w',Calls Tryz.prog 47 #[.int .u64 (u.xs.getD j 0),.int .u64 t] w' λe w''=>e= .returned (.int .i64 (qj t (u.xs.getD j 0)))/\Ext w' w'':=λw'=>by rw[ha];exact aaE w' a t aa aa t2
   repeat' ((conv=>whnf)<;>first|refine bn ?_|(show dn ..;refine aM ua j rO rfl aa ?_)|(show gZ ..;refine T9 huR (j:=j) aa ?_)|(show aJ _ 47 ..;refine aR (f:=47) Tryz.call47 (.int .i64 (qj t (u.xs.getD j 0))) (λρ w' _=>anS w') ?_)|(show eP ..;(refine bY j rfl hjl (by rw[aP,hlen];exact Tw _) ?_))|(show dH ..;(refine aai (by rw[hlen];exact hjl) ?_))|(show fF ..;refine pF ((j+1:Nat):Int) aa aa aa ?_)|refine a_ ?_)
   all_goals(conv=>whnf)
   all_goals exact⟨j+1,[],hjl,by show n-(j+1)<n-j;omega,rfl,fE,⟨by rw[<-Nu (f:=λk=>qj t (u.xs.getD k 0))];exact YV,aj,aj,aj,trivial⟩,λ_ _ h=>h⟩
  ·obtain rfl:j=n:=by omega
   have htold:(List.range j).map (λk=>qj t (u.xs.getD k 0))=qJ t z:=by
    rw[DL anH (qj t),huz,List.map_map];rfl
   refine Wp.Vh 7 w.heap.size (k:=1) (xs:=aZ (qJ t z)) (T:=3) (by rw[<-htold,<-Jm];exact YV) (λR w' h b hb=>(h.1.1.1 b hb).1) (λl1 hl1=> ?_);repeat' ((conv=>whnf)<;>first|refine bn ?_|(show Gn ..;(refine mg (by rw[acN,hol];exact Tw _) ?_))|refine rX ?_|(show fF ..;refine pF ((us.length+1:Nat):Int) aa aa aa ?_)|refine a_ ?_)
   all_goals(conv=>whnf)
   have anN:(qJ t z).length=j:=by unfold qJ;rw[aas,hzl]
   exact⟨(us.length+1,us++[u],os++[⟨l1.base,l1.cap,qJ t z⟩]),[(2,some 6),(3,some 9)],⟨hlt,by simp,by rw[adx,hol];rfl,by rw[hz,afn,afn,hacc,afY,aiK,huz];rfl,by rw[hz,afn,afn,hos];rfl,λr hr=>by
    rw[hz]at hr;rcases aeh.1 hr with hr|hr
    ·exact hal r hr
    ·rw[afe.1 hr];exact hzl,λq hq=>by
    rcases aeh.1 hq with hq|hq
    ·exact hur q hq
    ·rw[afe.1 hq];exact hu.2,λq hq=>by
    rcases aeh.1 hq with hq|hq
    ·exact akB q hq
    ·rw[afe.1 hq];exact⟨λy hy=>by
      obtain⟨c,_,rfl⟩:=abl.1 hy;have:=afK (t:=t) ⟨by omega,t2⟩ c;omega,by simpa[aP]using hl1,by show(qJ t z).length<=_;omega⟩⟩,by show v.code.length-(us.length+1)<v.code.length-us.length;omega,rfl,⟨rfl,rfl,rfl,rfl,rfl,rfl,trivial⟩,⟨aj,by rw[<-hol];exact Zl os ⟨l1.base,l1.cap,qJ t z⟩ (show Value.slice l1.base (qJ t z).length l1.cap= .slice l1.base j l1.cap by rw[anN]),aj,trivial⟩,λR w' h=>⟨⟨h.1.1.1.1,λq hq=>by
    rcases aeh.1 hq with hq|hq
    ·exact h.1.1.1.2 q hq
    ·rw[afe.1 hq];exact h.1.2⟩,mR (u:=ax.mk l1.base l1.cap (qJ t z)) h.1.1.2 h.2⟩⟩
 ·obtain rfl:i=v.code.length:=by omega
  rw[aen (Tw _)]at hos;repeat' ((conv=>whnf)<;>first|refine bn ?_|refine a_ ?_)
  all_goals(conv=>whnf)
  exact aoW (λ_ _ h=>h.1.1) (λ_ _ h=>h.2) akB rfl aj hol.symm (by rw[hos])
end Go.Proofs.YtgndjjdeopfdkaaGreat

import Derived.DeepKeys
import Derived.Test.YtgndjjdeopfdkaaGreatKLowerMeans11
/- texts UK PI of the proof of LowerMeansSaid -/
set_option maxHeartbeats 16000000
set_option maxRecDepth 20000
set_option linter.unusedVariables false
set_option linter.unusedSimpArgs false
namespace Go.Proofs.YtgndjjdeopfdkaaGreat
open Go.SX Go.RowKit
def mO(p:aN):Prop:=p.data.length<=5000/\p.aQ.length<=5000
theorem ac0(s:List Int)(row:List aN)(n:aN):(lm s row n).length<=5000:=by
 have hb:=dN s;have e:(lm s row n).length=(au s).toNat:=by
  unfold lm gH jh o5;split<;>simp
 omega
theorem Lh{st:List Nat}{n:aN}(h:mO n):mO (bu st n):=by
 unfold bu;split
 ·exact h
 ·split<;>exact h
theorem YZ{s:List Int}{row:List aN}{n:aN}(h:mO n):mO (kg s row n):=by
 unfold kg;split
 ·exact⟨ac0 _ _ _,aae _⟩
 ·exact h
theorem NE{row:List aN}{n:aN}(h:∀p∈row,mO p)(hn:mO n):∀p∈row++[n],mO p:=λp hp=>by
 rcases aeh.1 hp with hp|hp
 ·exact h p hp
 ·rw[afe.1 hp];exact hn
theorem YW{s:List Int}{x:List aN×List Nat}{n:aN}(h:∀p∈x.1,mO p)(hn:mO n):∀p∈(o8 s x n).1,mO p:=by
 show∀p∈(Bt x.1 (kg s x.1 (bu x.2 n))).1,mO p;unfold Bt;split
 ·exact h
 ·exact NE h (YZ (Lh hn))
theorem Ld:∀(l:List aN) (sh:List (List Int)) (x:List aN×List Nat),(∀p∈l,mO p)->(∀p∈x.1,mO p)->∀p∈(rG l sh x).1,mO p
 |[],_,x,_,h=>by unfold rG;exact h
 |n::r,[],x,_,h=>by unfold rG;exact h
 |n::r,s::ss,x,hl,h=>by
  unfold rG;exact Ld r ss _ (λp hp=>hl p (aeg _ hp)) (YW h (hl n YV))
theorem SC{need:Nat->Bool}:∀(l:List aN) (i:Nat) (x:List aN×List Nat),(∀p∈l,mO p)->(∀p∈x.1,mO p)->∀p∈(ve need l i x).1,mO p
 |[],_,x,_,h=>by unfold ve;exact h
 |n::r,i,x,hl,h=>by
  unfold ve;refine SC r (i+1) _ (λp hp=>hl p (aeg _ hp)) ?_;split
  ·exact NE h (Lh (hl n YV))
  ·exact h
theorem Xw{l:List aN}{sh:List (List Int)}{out:Nat}(hl:∀p∈l,mO p):∀p∈(jl l sh out).1,mO p:=
 SC _ _ _ (Ld _ _ _ hl (λ_ h=>by cases h)) (λ_ h=>by cases h)
def Lg(g:bM):bM:=⟨none,0,(jl (g.l.map ak.pl) (check g).2 g.out.toNat).1.map aN.toV,(jl (g.l.map ak.pl) (check g).2 g.out.toNat).2⟩
theorem aj8(l:List aN):(l.map aN.toV).map ak.pl=l:=by
 rw[List.map_map];exact(anA (λ_ _=>rfl)).trans (List.map_id l)
structure A8(g t:bM):Prop where
 l:t.l.map ak.pl=(jl (g.l.map ak.pl) (check g).2 g.out.toNat).1
 out:t.out=(jl (g.l.map ak.pl) (check g).2 g.out.toNat).2
 bF:∀n∈t.l,n.uB
theorem A8.spans{g t:bM}(h:A8 g t)(hsp:(cZ g).1=0):(cZ t).1=0:=by
 have hR:=CK hsp;obtain⟨hck,_,_⟩:=jC hsp;obtain⟨hl1,Ez,hout,hcl,_⟩:=gK hck;obtain⟨df,dU,h1,h2,h3,_⟩:=Yb hR (out:=g.out.toNat) vZ;rw[aas]at h3;have:=h1.spans aa h.l (by rw[h.out];exact aof _) (by rw[h.out];omega);rw[this]
theorem A8.lower{g t:bM}(h:A8 g t)(aV:Int)(giant:Bool)(m:Nat):mr t aV giant m=mr (Lg g) aV giant m:=
 Rs (by rw[h.l];exact(aj8 _).symm) h.out aV giant m
theorem A8.ok{g t:bM}(h:A8 g t)(hg:∀n∈g.l,n.small)(hl:g.l.length<=24){w:World}(hr:bE w t.base 9 (bO t.l))(he:∀n∈t.l,n.ok w)(hsp:(cZ g).1=0):t.ok w:=by
 obtain⟨hck,_,_⟩:=jC (h.spans hsp);obtain⟨hl1,Ez,hout,_,_⟩:=gK hck;refine⟨hr,he,λn hn=> ?_,by omega,by unfold i64;omega⟩;have hm:n.pl∈(jl (g.l.map ak.pl) (check g).2 g.out.toNat).1:=by rw[<-h.l];exact abl.2 ⟨n,hn,rfl⟩
 have:=Xw (λp hp=>by obtain⟨m,hm,rfl⟩:=abl.1 hp;exact⟨(hg m hm).data,(hg m hm).aQ⟩) n.pl hm;exact⟨this.1,this.2⟩
def ake(l:List ak):bR where
 holds R w:=∀n∈l,(bX n.az).holds R w/\(bX n.data).holds R w/\(bX n.aQ).holds R w
 stable:=λhR hw h n hn=>⟨(bX n.az).stable hR hw (h n hn).1,(bX n.data).stable hR hw (h n hn).2.1,(bX n.aQ).stable hR hw (h n hn).2.2⟩
theorem aaJ{cx:Cx}{f:FuncId}{args:List SV}{H:Heap}{S:bR}{nx:Nat}{K:SV->Heap->bR->Nat->Prop}(g:bM)(hsp:(cZ g).1=0)(hsm:∀n∈g.l,n.small)(hl:g.l.length<=24)(hf:∀ar w,(callFunc f ar).run cx.P w= .ok (.enter f ar) w)
 (hc:∀ρ w',dO cx.B ρ nx H S w'->Calls cx.P f (SV.dW ρ args).toArray w' (MB w' (cZ g).1 (jl (g.l.map ak.pl) (check g).2 g.out.toNat)))
 (h:∀t:bM,A8 g t->K (.c (.tuple #[t.val,.int .i64 0])) H (S.and ((Eg λw=>t.ok w).past cx.B.w0.heap.size)) nx):aJ cx f args H S nx K:=by
 refine jU hf (λt:bM=> .tuple #[t.val,.int .i64 0]) (λt=>Eg λw=>t.ok w) (λt=>A8 g t) (λρ w' hw=>(hc ρ w' hw).mono ?_) (λt ht=>h t ht);rintro e w2 (⟨hr,_⟩|⟨_,l,base,cap,hx,hko,hcap,rfl,he,F,G,hF,hG,hFG,hn,hrow⟩)
 ·exact absurd hsp hr
 ·have hT:A8 g ⟨base,cap,l,(jl (g.l.map ak.pl) (check g).2 g.out.toNat).2⟩:=⟨hx,rfl,λn hn=>(hko n hn).1⟩;refine⟨⟨base,cap,l,(jl (g.l.map ak.pl) (check g).2 g.out.toNat).2⟩,hT,rfl,he,(f_ base 9 (bO l)).and (ake l),⟨(f_ base 9 (bO l)).mono hrow hG,λn hn2=>⟨Dh ((xJ n.az).mono (hn n hn2).1 hF),Dh ((xJ n.data).mono (hn n hn2).2.1 hF),Dh ((xJ n.aQ).mono (hn n hn2).2.2 hF)⟩⟩,λR w h=>hT.ok hsm hl (bf h.1) (λn hn2=>Xr (hko n hn2).1 ⟨J4 (h.2 n hn2).1,J4 (h.2 n hn2).2.1,J4 (h.2 n hn2).2.2⟩) hsp⟩
def jX(g:bM)(o:DZ)(aA:Int):yx×Int:=if nJ o aA then(if(cZ g).1≠0 then(Ca,(cZ g).1)else mr (if o.tidy=true then Lg g else g) o.aV o.giant aA.toNat)else(Ca,1)
section
theorem aa8:Tryz.prog.cellsOf 43=5:=by kernel_rfl
def kT(x:jf):Value:= .agg (uI x).toArray
def sG(x:jf):Prop:=i64 x.op/\i64 x.KD/\i64 x.a/\i64 x.b/\i64 x.k
theorem ain(x y:jf):x=y↔(x.op=y.op/\x.KD=y.KD/\x.a=y.a/\x.b=y.b/\x.k=y.k):=by
 obtain⟨a,b,c,d,e⟩:=x;obtain⟨a',b',c',d',e'⟩:=y;simp
instance:DecidableEq jf:=λx y=>decidable_of_iff _ (ain x y).symm
variable {k:Nat}
theorem xq{l:List jf}(h:k<l.length):(iX l)[k]? =some (uI l[k]):=by simp[iX,h]
def Dc(x:jf):List Lit:=[.int .i64 x.op,.int .i64 x.KD,.int .i64 x.a,.int .i64 x.b,.int .i64 x.k]
theorem M8(x:jf)(hx:sG x):Tryz.prog.keyLits 2 43 (uI x)=some (Dc x):=by
 obtain⟨h1,h2,h3,h4,h5⟩:=hx;simp[Program.keyLits,Tryz.underlying43,aa8,uI,List.mapM_cons,Tryz.underlying3,agx,EN h1,EN h2,EN h3,EN h4,EN h5]
 rfl
theorem Uz(x y:jf)(hx:sG x)(hy:sG y)(w:World):(Op.equal 43 (kT x) (kT y)).run Tryz.prog w= .ok (decide (x=y)) w:=by
 obtain⟨r,h1,h2⟩:=run_equalIn_deep (P:=Tryz.prog) 9998 2 43 bg w 2 2 (kT x) (kT y) (Dc x) (Dc y) P7 P7 (M8 x hx) (M8 y hy);have e:r=decide (x=y):=by
  have:Dc x=Dc y↔x=y:=by
   obtain⟨a,b,c,d,e⟩:=x;obtain⟨a',b',c',d',e'⟩:=y;simp[Dc]
  rw[this]at h2;cases r with
  |true=>exact(decide_eq_true (h2.1 rfl)).symm
  |false=>exact(decide_eq_false (λh=>by have:=h2.2 h;cases this)).symm
 rw[<-e];exact h1
theorem aih:Tryz.prog.eqGuardType Tryz.prog.depth 43=false:=by kernel_rfl
variable {x y:jf} {ox oy:Operand} {K:SV->Prop}
theorem RU(hx:sG x)(hy:sG y)(h:K (.c (.bool (!decide (x=y))))):mi Tryz.prog (do eqGuard .neq 43 ox oy (kT x) (kT y);binOp .neq 43 (kT x) (kT y)) K:=by
 rw[yR];refine⟨_,λw=> ?_,h⟩;have h1:(eqGuard .neq 43 ox oy (kT x) (kT y)).run Tryz.prog w= .ok () w:=by
  simp[eqGuard,kT,aih]
 have h2:=Uz x y hx hy w;simp only[Sem.run_bind,h1,Result.andThen_ok];simp[kT,binOp]at h2|-
 rw[h2];rfl
theorem ZN(hx:sG x)(hy:sG y)(he:x=y)(h:K (.c (.bool false))):mi Tryz.prog (do eqGuard .neq 43 ox oy (kT x) (kT y);binOp .neq 43 (kT x) (kT y)) K:=RU hx hy (by rw[decide_eq_true he];exact h)
theorem Xg(hx:sG x)(hy:sG y)(he:x≠y)(h:K (.c (.bool true))):mi Tryz.prog (do eqGuard .neq 43 ox oy (kT x) (kT y);binOp .neq 43 (kT x) (kT y)) K:=RU hx hy (by rw[decide_eq_false he];exact h)
theorem ZP{α:Type}{xs ys:List α}(hx:k<xs.length)(hy:k<ys.length)(h:xs.take k=ys.take k)(he:xs[k]=ys[k]):xs.take (k+1)=ys.take (k+1):=by
 rw[ajP hx,ajP hy,h,he]
theorem Ua(w:World)(ub:Option Addr)(uc:Nat)(ul:List jf)(vb:Option Addr)(vc:Nat)(vl:List jf)(hu:bE w ub 5 (iX ul))(hv:bE w vb 5 (iX vl))(ug:ul.length<=1000000)(hfu:∀x∈ul,sG x)(hfv:∀x∈vl,sG x):Calls Tryz.prog 21 #[.slice ub ul.length uc,.slice vb vl.length vc] w λe w'=>e= .returned (.bool (decide (ul=vl)))/\Ext w w':=by
 refine fH Tryz.func21 [.c (.slice ub ul.length uc),.c (.slice vb vl.length vc)] ?_;repeat' ((conv=>whnf)<;>first|refine bV ?_|refine ag ?_ ?_<;>intro _)
 ·exact bq (λ_ _ h=>h) rfl (decide_eq_false (λh=>by rename_i hne;rw[h]at hne;exact hne rfl))
 rename_i hne;refine Wp.loop (σ:=Nat) 0 (λk=>[(0,.c (.slice ub ul.length uc)),(1,.c (.slice vb vl.length vc)),(12,aC ul.length),(13,aC k)]) (λ_=>[]) (λ_=>aU w)
  (λk=>k<=ul.length/\ul.take k=vl.take k) (λk=>ul.length-k) 0 [] (Tw _) (λs=>⟨rfl,rfl⟩) ⟨by simp,by simp⟩ ⟨rfl,⟨rfl,rfl,rfl,rfl,trivial⟩,trivial,λ_ _ h=>h⟩ ?_
 rintro k ⟨hk,he⟩;by_cases hlt:k<ul.length
 ·have hlt2:k<vl.length:=by omega
  obtain⟨a,ha⟩:=aT (j:=k) hu EG;obtain⟨b,hb⟩:=aT (j:=k) hv (by rw[oF];exact hlt2);have hur:∀R w',(aU w).holds R w'->bE w' (some a) 5 (iX ul):=λR w' h=>ha▸aH h hu;have hvr:∀R w',(aU w).holds R w'->bE w' (some b) 5 (iX vl):=λR w' h=>hb▸aH h hv;rw[ha,hb];have hux:=hfu _ (aby hlt);have hvx:=hfv _ (aby hlt2);by_cases hxy:ul[k]=vl[k]
  ·repeat' ((conv=>whnf)<;>first|(show dn ..;(first|refine aM a k rfl rfl hlt ?_|refine aM b k rfl rfl hlt2 ?_))|(show lK ..;(first|refine gI hur _ (xq hlt) rfl ?_|refine gI hvr _ (xq hlt2) rfl ?_))|(show mi ..;refine ZN hux hvx hxy ?_)|refine bV ?_|refine ag ?_ ?_<;>intro _)
   conv=>whnf
   exact⟨k+1,[],⟨hlt,ZP hlt hlt2 he hxy⟩,by omega,rfl,fE,trivial,λ_ _ h=>h⟩
  ·repeat' ((conv=>whnf)<;>first|(show dn ..;(first|refine aM a k rfl rfl hlt ?_|refine aM b k rfl rfl hlt2 ?_))|(show lK ..;(first|refine gI hur _ (xq hlt) rfl ?_|refine gI hvr _ (xq hlt2) rfl ?_))|(show mi ..;refine Xg hux hvx hxy ?_)|refine bV ?_|refine ag ?_ ?_<;>intro _)
   exact bq (λ_ _ h=>h) rfl (decide_eq_false (λh=>hxy (by simp only[h])))
 ·have hkl:ul=vl:=by rw[aen aa,aen aa]at he;exact he
  repeat' ((conv=>whnf)<;>first|refine bV ?_|refine ag ?_ ?_<;>intro _)
  exact bq (λ_ _ h=>h) rfl (decide_eq_true hkl)
end
section
theorem A7(f:Nat->Int):∀(l:List Int) (e:Nat) (row:List Int),(l9 f l e row).length=row.length
 |[],_,_=>rfl
 |x::l,e,row=>by
  show(l9 f l (e+1) _).length=_;rw[A7 f l,ajc]
theorem PZ{f:Nat->Int}{s:Nat}:∀(l:List Int) (e:Nat) (row:List Int),(∀x∈l,x.toNat≠s)->(l9 f l e row).getD s 0=row.getD s 0
 |[],_,_,_=>rfl
 |x::l,e,row,h=>by
  show(l9 f l (e+1) _).getD s 0=_;rw[PZ l _ _ (λy hy=>h y (aeg _ hy)),getD_set_ne (h x YV)]
theorem abI{f:Nat->Int}:∀(l:List Int) (e:Nat) (row:List Int) (j:Nat),l.Nodup->(∀x∈l,0<=x/\x<row.length)->j<l.length->(l9 f l e row).getD (l.getD j 0).toNat 0=f (e+j)
 |x::l,e,row,0,hn,hb,_=>by
  show(l9 f l (e+1) _).getD x.toNat 0=f e;have hx:=hb x YV;rw[PZ l _ _ (λy hy he=>by
   have hy2:=hb y (aeg _ hy);have:y=x:=by omega
   subst this;exact(List.nodup_cons.1 hn).1 hy),qh aa]
 |x::l,e,row,j+1,hn,hb,hj=>by
  show(l9 f l (e+1) _).getD (l.getD j 0).toNat 0=_;rw[abI l _ _ j (List.nodup_cons.1 hn).2 (λy hy=>by rw[ajc];exact hb y (aeg _ hy)) (by simpa using hj),show e+1+j=e+(j+1) by omega]
theorem dA(n:Nat)(sl:List Int)(f:Nat->Int):(bU n sl f).length=n:=by
 unfold bU;rw[A7,aiS]
structure Sl(n:Nat)(sl:List Int):Prop where
 bd:∀x∈sl,0<=x/\x<n
 nodup:sl.Nodup
theorem aaV{l:List Int}{n:Nat}(h:lG l n=true):Sl n l:=⟨(wL h).1,(wL h).2⟩
variable {sl:List Int}
theorem oC{n:Nat}(h:Sl n sl)(f:Nat->Int){j:Nat}(hj:j<sl.length):(bU n sl f).getD (sl.getD j 0).toNat 0=f j:=by
 unfold bU;rw[abI sl 0 _ j h.nodup (λx hx=>by rw[aiS];exact h.bd x hx) hj,aiD]
variable {s:Nat}
theorem qG{n:Nat}(f:Nat->Int)(hs:∀x∈sl,x.toNat≠s):(bU n sl f).getD s 0=0:=by
 unfold bU;rw[PZ sl 0 _ hs,oL]
variable {f:Nat->Int}
theorem zg{n:Nat}(h:Sl n sl){q:List Int}(hq:q.length=n)(h1:∀j,j<sl.length->q.getD (sl.getD j 0).toNat 0=f j)(h2:∀s,s<n->(∀x∈sl,x.toNat≠s)->q.getD s 0=0):q=bU n sl f:=by
 refine TT (by rw[hq,dA]) λs hs=> ?_;by_cases hx:∃x∈sl,x.toNat=s
 ·obtain⟨x,hx,rfl⟩:=hx;obtain⟨j,hj,rfl⟩:=am0.1 hx;have e:sl.getD j 0=sl[j]:=getD_at hj;rw[<-e,h1 j hj,oC h f hj]
 ·have ho:∀x∈sl,x.toNat≠s:=λx hx2 he=>hx ⟨x,hx2,he⟩;rw[h2 s aa ho,qG f ho]
theorem zz{n:Nat}(h:Sl n sl)(f g:Nat->Int):Km (bU n sl f) (bU n sl g)=bU n sl λe=>f e+g e:=by
 have e:(bU n sl f).length=(bU n sl g).length:=by rw[dA,dA]
 refine zg h (xu (dA _ _ _) (dA _ _ _)) (λj hj=> ?_) (λs _ ho=> ?_)
 ·rw[Mm e,oC h f hj,oC h g hj]
 ·rw[Mm e,qG f ho,qG g ho];rfl
theorem zq{n:Nat}(h:Sl n sl)(f g:Nat->Int):mulR (bU n sl f) (bU n sl g)=bU n sl λe=>f e*g e:=by
 have e:(bU n sl f).length=(bU n sl g).length:=by rw[dA,dA]
 refine zg h (uE (dA _ _ _) (dA _ _ _)) (λj hj=> ?_) (λs _ ho=> ?_)
 ·rw[Mi e,oC h f hj,oC h g hj]
 ·rw[Mi e,qG f ho,qG g ho];rfl
theorem V9{n:Nat}(h:Sl n sl):List.replicate n 0=bU n sl λ_=>0:=
 zg h aiS (λ_ _=>oL) (λ_ _ _=>oL)
theorem gG{n:Nat}(h:Sl n sl){g:Nat->Int}(he:∀j,j<sl.length->f j=g j):bU n sl f=bU n sl g:=
 zg h (dA _ _ _) (λj hj=>by rw[oC h f hj,he j hj]) (λs _ ho=>qG f ho)
def Uo(X:Nat->Int)(fr row:List Int):Nat->Int
 |0=>0
 |k+1=>Uo X fr row k+row.getD k 0*X (fr.getD k 0).toNat
theorem Tv(X:Nat->Int)(fr row:List Int)(k:Nat):Uo X fr row (k+1)=Uo X fr row k+row.getD k 0*X (fr.getD k 0).toNat:=rfl
theorem XH(X:Nat->Int)(rows:List (List Int))(fr to:List Int)(o s:Nat):∀i,wC X (xN rows fr to o i) s=wC X (qo rows fr to o) s+(if(to.getD o 0).toNat=s then Uo X fr (rows.getD o []) i else 0)
 |0=>by rw[Ur];unfold Uo;split<;>omega
 |i+1=>by
  rw[Zr,XH X rows fr to o s i,Tv];split<;>omega
theorem R9(X:Nat->Int)(rows:List (List Int))(fr to:List Int)(o s:Nat):wC X (qo rows fr to (o+1)) s=wC X (qo rows fr to o) s+(if(to.getD o 0).toNat=s then Uo X fr (rows.getD o []) fr.length else 0):=by
 rw[<-UQ,XH]
theorem EM(X:Nat->Int)(rows:List (List Int))(fr to:List Int){s:Nat}:∀m,m<=to.length->(∀o,o<m->(to.getD o 0).toNat≠s)->wC X (qo rows fr to m) s=0
 |0,_,_=>rfl
 |m+1,hm,h=>by
  rw[R9,EM X rows fr to m aa (λo ho=>h o aa),if_neg (h m (amD m))];rfl
theorem VZ(X:Nat->Int)(rows:List (List Int))(fr:List Int){to:List Int}{n:Nat}(hto:Sl n to){o:Nat}:∀m,m<=to.length->o<m->wC X (qo rows fr to m) (to.getD o 0).toNat=Uo X fr (rows.getD o []) fr.length
 |m+1,hm,h=>by
  have ne:∀i j,i<j->j<to.length->(to.getD i 0).toNat≠(to.getD j 0).toNat:=λi j hij hj=>by
   have h1:=Hr hto.nodup aa hj hij;have b1:=hto.bd _ (cu (show i<to.length by omega));have b2:=hto.bd _ (cu hj);omega
  rw[R9];by_cases e:o=m
  ·subst e;rw[EM X rows fr to o aa (λi hi=>ne i o hi aa),if_pos rfl,Int.zero_add]
  ·rw[VZ X rows fr hto m aa aa,if_neg (λh=>ne o m aa aa h.symm),amE]
variable {fr:List Int}
theorem aeH{X:Nat->Int}{row a:List Int}(hl:row.length=fr.length)(hX:∀i,i<fr.length->X (fr.getD i 0).toNat=a.getD i 0):Uo X fr row fr.length=pO (Lm a) 0 row:=by
 have key:∀k,k<=row.length->Uo X fr row k=pO (Lm a) 0 (row.take k):=by
  intro k;induction k with
  |zero=>intro _;rw[List.take_zero];rfl
  |succ k ih=>
   intro hk;rw[ajP aa,CU,<-ih aa,Tv,hX k aa,getD_at (show k<row.length by omega)];simp[pO,Lm,aek,ajY (show k<=row.length by omega)]
 rw[<-hl,key _ (Tw _),aen (Tw _)]
variable {to:List Int}
theorem afs{n:Nat}(hn:0<n)(hn4:n<=4096)(giant:Bool){ins:List (List Int)}{s:dL}(h:Bv n s){x:Int}{a v:List Int}(hfr:Sl n fr)(hto:Sl n to)(hx:kR ins s x (bU n fr λe=>a.getD e 0)){rows:List (List Int)}{aQ:List Int}
 (hrl:rows.length=to.length) (hre:∀r∈rows,r.length=fr.length) (hb:aQ.length=to.length) (hv:∀o,o<to.length->aQ.getD o 0+pO (Lm a) 0 (rows.getD o [])=v.getD o 0):
 nX n ins s (ku n giant s x (rows,aQ) fr to).1 (ku n giant s x (rows,aQ) fr to).2 (bU n to λe=>v.getD e 0):=by
 have hok:Bd rows fr to n:=⟨by omega,by omega,hrl,by simpa[lG]using⟨hfr.bd,hfr.nodup⟩,by simpa[lG]using⟨hto.bd,hto.nodup⟩,hre⟩;have hD:(vk rows fr to n).1=pQ n rows fr to to.length:=by unfold vk;rw[if_pos hok,ahh]
 have hlen:=YT (rows:=rows) ⟨hfr.bd,hfr.nodup⟩ ⟨hto.bd,hto.nodup⟩ hn;obtain⟨q,q1,q2,q3⟩:=al_ hn giant h hx (dA _ _ _) hlen;have hq:q=bU n to λe=>pO (Lm a) 0 (rows.getD e []):=by
  refine zg hto q2 (λj hj=> ?_) (λs hs ho=> ?_)
  ·have b:=hto.bd _ (cu hj);rw[q3 _ aa,SK ⟨hfr.bd,hfr.nodup⟩ ⟨hto.bd,hto.nodup⟩,VZ _ rows fr hto to.length (Tw _) hj];refine aeH (hre _ (by rw[TR,YL aa];exact aby _)) λi hi=> ?_;exact oC hfr _ hi
  ·rw[q3 _ hs,SK ⟨hfr.bd,hfr.nodup⟩ ⟨hto.bd,hto.nodup⟩,EM _ rows fr to to.length (Tw _) (λo ho2=>ho _ (cu ho2))]
 unfold ku;dsimp only;rw[hD];split
 ·have k:=ajf q1.ok q1.val (dA n to λe=>aQ.getD e 0);refine⟨k.ok,q1.ext.trans k.ext,k.val.eq ?_⟩;rw[hq,zz hto];exact gG hto λj hj=>by rw[<-hv j hj];omega
 ·rename_i hno;refine q1.eq ?_;rw[hq];refine gG hto λj hj=> ?_;have:aQ.getD j 0=0:=by
   have hno:¬(aQ.any λb=>decide (b≠0))=true:=hno;rw[anK]at hno;rw[getD_at aa];by_cases e:aQ[j]=0
   ·exact e
   ·exact absurd ⟨aQ[j],aby _,by simpa using e⟩ hno
  have:=hv j hj;omega
end
section
variable {ins:List (List Int)} {s:dL}
theorem akt{n:Nat}(h:Bv n s){x:Int}{sl data a:List Int}(hsl:Sl n sl)(hx:kR ins s x (bU n sl λe=>a.getD e 0)):
 nX n ins s (rM n s x data sl).1 (rM n s x data sl).2 (bU n sl λe=>iF data (a.getD e 0)):=by
 rw[Z9];have sp:∀f:Nat->Int,(bU n sl f).length=n:=dA n sl;have g1:∃f:Nat->Int,(∀e,f e=data.getD 2 0*a.getD e 0*a.getD e 0)/\Bv n (pw1 n s x (data.getD 2 0) sl).1/\oM s (pw1 n s x (data.getD 2 0) sl).1/\Jd n ins (pw1 n s x (data.getD 2 0) sl).1 (pw1 n s x (data.getD 2 0) sl).2 λj=>(bU n sl f).getD j 0:=by
  refine⟨λe=>data.getD 2 0*a.getD e 0*a.getD e 0,λ_=>rfl,?_⟩;unfold pw1;by_cases h0:data.getD 2 0=0
  ·rw[if_pos h0];refine⟨h,oM.refl s,λj _=> ?_⟩;show(bU n sl λe=>data.getD 2 0*a.getD e 0*a.getD e 0).getD j 0=0;rw[gG hsl (g:=λ_=>0) (λe _=>by rw[h0,Int.zero_mul,Int.zero_mul]),<-V9 hsl,oL]
  ·rw[if_neg h0];have q:=amU h hx hx;rw[zq hsl]at q;by_cases h1:data.getD 2 0=1
   ·rw[if_pos h1];exact⟨q.ok,q.ext,_,q.val.eq (gG hsl (g:=λe=>data.getD 2 0*a.getD e 0*a.getD e 0) λe _=>by rw[h1,age]),sp _,λj _=>rfl⟩
   ·rw[if_neg h1];have r:=XY q.ok q.val (sp λ_=>data.getD 2 0);rw[zq hsl]at r;exact⟨r.ok,q.ext.trans r.ext,_,r.val.eq (gG hsl (g:=λe=>data.getD 2 0*a.getD e 0*a.getD e 0) λe _=>by rw[ajF _ (data.getD 2 0),ank]),sp _,λj _=>rfl⟩
 obtain⟨f1,e1,k1,k2,k3⟩:=g1;generalize pw1 n s x (data.getD 2 0) sl=y at k1 k2 k3;have g2:∃f:Nat->Int,(∀e,f e=data.getD 2 0*a.getD e 0*a.getD e 0+data.getD 1 0*a.getD e 0)/\Bv n (pw2 n y x (data.getD 1 0) sl).1/\oM s (pw2 n y x (data.getD 1 0) sl).1/\Jd n ins (pw2 n y x (data.getD 1 0) sl).1 (pw2 n y x (data.getD 1 0) sl).2 λj=>(bU n sl f).getD j 0:=by
  have hxy:=hx.mono h k2;have add:∀{u:dL} {m:Option Int} {v:Int},Bv n u->oM s u->Jd n ins u m (λj=>(bU n sl f1).getD j 0)->kR ins u v (bU n sl λe=>data.getD 1 0*a.getD e 0)->∃f:Nat->Int,(∀e,f e=data.getD 2 0*a.getD e 0*a.getD e 0+data.getD 1 0*a.getD e 0)/\Bv n (iU u m v).1/\oM s (iU u m v).1/\Jd n ins (iU u m v).1 (some (iU u m v).2) λj=>(bU n sl f).getD j 0:=λ{u m v} h1 h2 h3 h4=>by
   obtain⟨a1,a2,a3⟩:=aj0 h1 h3 h4 (sp _);refine⟨λe=>f1 e+data.getD 1 0*a.getD e 0,λe=>by show f1 e+_=_;rw[e1],a1,h2.trans a2,a3.congr λj _=> ?_⟩;show(bU n sl f1).getD j 0+(bU n sl λe=>data.getD 1 0*a.getD e 0).getD j 0=(bU n sl λe=>f1 e+data.getD 1 0*a.getD e 0).getD j 0;rw[<-Mm (by rw[sp,sp]),zz hsl]
  unfold pw2;by_cases h0:data.getD 1 0=0
  ·rw[if_pos h0];exact⟨f1,λe=>by rw[e1,h0,Int.zero_mul,amE],k1,k2,k3⟩
  ·rw[if_neg h0];by_cases h1:data.getD 1 0=1
   ·rw[if_pos h1];exact add k1 k2 k3 (hxy.eq (gG hsl λe _=>by rw[h1,age]))
   ·rw[if_neg h1];have r:=XY k1 hxy (sp λ_=>data.getD 1 0);rw[zq hsl]at r;exact add r.ok (k2.trans r.ext) (k3.mono k1 r.ext) (r.val.eq (gG hsl λe _=>ajF _ _))
 clear k3;obtain⟨f2,e2,m1,m2,m3⟩:=g2;generalize pw2 n y x (data.getD 1 0) sl=u at m1 m2 m3;have g3:nX n ins s (pw3 n u x).1 (pw3 n u x).2 (bU n sl f2):=by
  unfold pw3;obtain⟨us,um⟩:=u;cases um with
  |none=>
   have z:=aiJ m1 (hx.mono h m2) (sp _);refine⟨z.ok,m2.trans z.ext,z.val.eq (TT (by rw[aiS,sp]) λj hj=> ?_)⟩;rw[aiS]at hj;rw[oL];exact(m3 j hj).symm
  |some b=>
   obtain⟨q,q1,q2,q3⟩:=m3;exact⟨m1,m2,q1.eq (TT (by rw[q2,sp]) λj hj=>q3 j aa)⟩
 clear m3;unfold pw4;by_cases h0:data.getD 0 0=0
 ·rw[if_pos h0];refine g3.eq (gG hsl λe _=> ?_);unfold iF;rw[e2,h0,amE]
 ·rw[if_neg h0];have r:=ajf g3.ok g3.val (sp λ_=>data.getD 0 0);rw[zz hsl]at r;refine⟨r.ok,g3.ext.trans r.ext,r.val.eq (gG hsl λe _=> ?_)⟩;unfold iF;rw[e2]
theorem P6{n:ak}{sh:List (List Int)}{s:List Int}(h:bP n sh=some s)(hk:n.ai=6\/n.ai=7\/n.ai=8):sh.getD n.a.toNat []=s/\(n.ai=6->sh.getD n.b.toNat []=s):=by
 unfold bP at h;rw[if_neg aa,if_neg aa,if_neg aa,if_neg aa]at h;by_cases h6:n.ai=6
 ·rw[if_pos h6]at h;split at h
  ·rename_i he;injection h with h
   exact⟨h,λ_=>by rw[<-he,h]⟩
  ·cases h
 ·rw[if_neg h6,if_neg aa]at h;injection h with h
  exact⟨h,λh=>absurd h h6⟩
theorem tY{n:ak}{cnt:Nat}{t a b:List Int}(h:¬eF n){e:Nat}(he:e<cnt):(gH n cnt t a b).getD e 0=gu n a b e:=by
 rw[KP h,TR,ab5,am7 he];rfl
variable {i:Nat}
theorem FY{α:Type}{l:List α}{d:α}{k:Nat}(h:k<i):(l.take i).getD k d=l.getD k d:=by
 rw[TR,TR,al2,if_pos h]
structure Tu(c:fT)(aV:Int)(g:bM):Prop where
 aA:1<=c.aA/\c.aA<=4096
 shapes:c.shapes.l.map ax.xs=(check g).2
 di:c.di.l.map ax.xs=(check g).2.map (λx=>(gM x aV c.aA).1)
 good:∀x∈(check g).2,(gM x aV c.aA).2=0
variable {c:fT} {aV:Int} {g:bM}
theorem Tu.at_(hck:(check g).1=0)(h:Tu c aV g)(hi:i<g.l.length):∃(t u:ax),c.shapes.l.getD i cK=t/\c.di.l.getD i cK=u/\(check g).2.getD i []=t.xs/\(check g).2[i]? =some t.xs/\u.xs=(gM t.xs aV c.aA).1/\lG u.xs c.aA=true/\u.xs.length=(au t.xs).toNat/\0<au t.xs:=by
 obtain⟨_,_,_,hcl,_⟩:=gK hck;have l1:c.shapes.l.length=g.l.length:=by have:=congrArg List.length h.shapes;rw[aas]at this;rw[this,hcl]
 have l2:c.di.l.length=g.l.length:=by have:=congrArg List.length h.di;rw[aas,aas]at this;rw[this,hcl]
 have i1:i<c.shapes.l.length:=by omega
 have i2:i<c.di.l.length:=by omega
 have e1:=congrArg (λl:List (List Int)=>l[i]?) h.shapes;have e2:=congrArg (λl:List (List Int)=>l[i]?) h.di;simp only[ab5,YL i1,YL i2,amk]at e1 e2;rw[<-e1]at e2;have e3:c.di.l[i].xs=(gM c.shapes.l[i].xs aV c.aA).1:=by simpa using e2
 have hm:c.shapes.l[i].xs∈(check g).2:=adu e1.symm;obtain⟨p1,p2,p3⟩:=Es (h.good _ hm);refine⟨c.shapes.l[i],c.di.l[i],by rw[TR,YL i1];rfl,by rw[TR,YL i2];rfl,by rw[TR,<-e1];rfl,e1.symm,e3,by rw[e3];exact p1,by rw[e3];exact p2,p3⟩
theorem aaZ(hck:(check g).1=0){n:ak}(hi:g.l[i]? =some n):i<g.l.length/\Ac n i/\∃s,(check g).2[i]? =some s/\jb n ((check g).2.take i) s:=by
 obtain⟨_,_,_,hcl,hin⟩:=gK hck;have hl:=(abH.1 hi).1;obtain⟨s,h1,h2⟩:=hin i n hi;have e:((check g).2.take i).length=i:=by rw[aek,hcl];omega
 exact⟨hl,by have:=dJ h2.form;rwa[e]at this,s,h1,h2⟩
theorem ale(hck:(check g).1=0)(h:Tu c aV g){n:ak}(hn:g.l[i]? =some n)(hk1:n.ai≠1){vl:List Int}{known:List (List Int)}(hok:Bv c.aA s)(hkl:known.length=i)
 (hval:∀j,j<i->kR ins s (vl.getD j 0) (bU c.aA (c.di.l.getD j cK).xs λe=>(known.getD j []).getD e 0)):
 nX c.aA ins s (d_ c n i s vl).1 (d_ c n i s vl).2 (bU c.aA (c.di.l.getD i cK).xs λe=>(gy (check g).2 n known).getD e 0):=by
 obtain⟨hl,hF,sI,hsI,hin⟩:=aaZ hck hn;obtain⟨t2,to,_,eto,gt2,akJ,eu2,tp,tl,te⟩:=h.at_ hck hl;have es:sI=t2.xs:=by rw[hsI]at akJ;simpa using akJ
 have hcnt:(au ((check g).2.getD known.length [])).toNat=to.xs.length:=by rw[hkl,gt2,tl]
 have hsl:Sl c.aA to.xs:=aaV tp;have acA:gy (check g).2 n known=gH n to.xs.length ((check g).2.getD n.a.toNat []) (known.getD n.a.toNat []) (known.getD n.b.toNat []):=by unfold gy;rw[hcnt]
 rw[acA,eto];have hkind:=hF.ai;unfold d_;rw[if_neg hk1,eto];by_cases k2:n.ai=2
 ·rw[if_pos k2];refine(ahD hok (dA _ _ _)).eq (gG hsl λe he=> ?_);rw[tY jF he];unfold gu;rw[if_pos k2]
 rw[if_neg k2];obtain⟨ha0,hai⟩:=hF.a hk1 k2;have hat:n.a.toNat<i:=by omega
 obtain⟨t,fr,et,efr,gt_,_,eu,fp,fl,fe⟩:=h.at_ hck (i:=n.a.toNat) aa;have va:=hval n.a.toNat hat;rw[efr]at va;have same:(n.ai=6\/n.ai=7\/n.ai=8)->fr.xs=to.xs:=λhk=>by
  have:=(P6 hin.az hk).1;rw[FY hat,gt_,es]at this;rw[eu,eu2,this]
 by_cases k6:n.ai=6
 ·rw[if_pos k6];have hb:=hF.b k6;have hbt:n.b.toNat<i:=by omega
  obtain⟨tb,fb,_,efb,gtb,_,eub,_⟩:=h.at_ hck (i:=n.b.toNat) aa;have vb:=hval n.b.toNat hbt;have eb:fb.xs=to.xs:=by
   have:=(P6 hin.az (.inl k6)).2 k6;rw[FY hbt,gtb,es]at this;rw[eub,eu2,this]
  rw[efb,eb]at vb;rw[same (.inl k6)]at va;have k:=akA hok va vb;rw[zz hsl]at k;refine k.eq (gG hsl λe he=> ?_);rw[tY jF he];unfold gu;rw[if_neg k2,if_pos k6]
 rw[if_neg k6];by_cases k7:n.ai=7
 ·rw[if_pos k7];rw[same (.inr (.inl k7))]at va;have k:=XY hok va (dA c.aA to.xs λ_=>n.data.xs.getD 0 0);rw[zq hsl]at k;refine k.eq (gG hsl λe he=> ?_);rw[tY jF he];unfold gu;rw[if_neg k2,if_neg k6,if_pos k7]
 rw[if_neg k7];by_cases k8:n.ai=8
 ·rw[if_pos k8];rw[same (.inr (.inr k8))]at va;refine(akt hok hsl va).eq (gG hsl λe he=> ?_);rw[tY jF he];unfold gu;rw[if_neg k2,if_neg k6,if_neg k7,if_pos k8]
 rw[if_neg k8,efr];by_cases k9:n.ai=9/\fr.xs=to.xs
 ·rw[if_pos k9];rw[k9.2]at va;refine⟨hok,oM.refl s,va.eq (gG hsl λe he=> ?_)⟩;have k91:=k9.1;rw[tY jF he];unfold gu;rw[if_neg k2,if_neg k6,if_neg k7,if_neg k8]
 rw[if_neg k9,et];have hk:eF n\/n.ai=9:=by unfold eF;omega
 have eta:((check g).2.take i).getD n.a.toNat []=t.xs:=by rw[FY hat,gt_]
 obtain⟨rok,hc2⟩:=rows_ok hk hin.form eta hin.az hin.near fe;have hcr:zw (n0 n) t=to.xs.length:=by
  show(au ((zB (at0 n) t).2.getD 1 [])).toNat=_;rw[hc2];show(au sI).toNat=_;rw[es,tl]
 have hr:(pu (n0 n) t).1=(yu n t.xs to.xs.length,(List.range to.xs.length).map (dV n to.xs.length)):=by
  have:pu (n0 n) t=((yu (n0 n) t.xs (zw (n0 n) t),(List.range (zw (n0 n) t)).map (dV (n0 n) (zw (n0 n) t))),0):=by unfold pu;exact if_pos rok
  rw[this,hcr];rfl
 obtain⟨_,_,cnt,hcn,hp⟩:=yl hck hn;have amR:cnt=to.xs.length:=by
  rw[gt2]at hcn;omega
 rw[gt_]at hp;subst amR;have h9:n.ai=9->(au t.xs).toNat=to.xs.length:=λk=>by
  have hnl:¬eF n:=by unfold eF;omega
  have:=(Oa hin.az hnl aa hk1).2.1 aa;rw[eta,es]at this;rw[this,tl]
 have akm:=h.aA;rw[hr];refine(afs aa akm.2 c.giant hok (aaV fp) hsl va (v:=gH n to.xs.length ((check g).2.getD n.a.toNat []) (known.getD n.a.toNat []) (known.getD n.b.toNat [])) (by simp[yu]) (λr hr=> ?_) aI (λo ho=> ?_)).eq rfl
 ·obtain⟨o,_,rfl⟩:=abl.1 hr;unfold Bu;rw[aas,amj,fl]
 ·have e1:((List.range to.xs.length).map (dV n to.xs.length)).getD o 0=dV n to.xs.length o:=by rw[TR,ab5,am7 ho];rfl
  have e2:(yu n t.xs to.xs.length).getD o []=Bu n t.xs o:=by unfold yu;rw[TR,ab5,am7 ho];rfl
  rw[e1,e2,gt_];exact aeL hp hk h9 _ _ ho
end
end Go.Proofs.YtgndjjdeopfdkaaGreat

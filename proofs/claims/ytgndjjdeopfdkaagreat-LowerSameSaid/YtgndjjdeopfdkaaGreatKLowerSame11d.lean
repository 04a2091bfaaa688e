import Derived.DeepKeys
import Derived.Test.YtgndjjdeopfdkaaGreatKLowerSame11c
/- texts QT WE of the proof of LowerSameSaid -/
set_option maxHeartbeats 16000000
set_option maxRecDepth 20000
set_option linter.unusedVariables false
set_option linter.unusedSimpArgs false
namespace Go.Proofs.YtgndjjdeopfdkaaGreat
open Go.SX Go.RowKit
def mO(p:aN):Prop:=p.data.length<=5000/\p.aQ.length<=5000
theorem ac0(s:List Int)(row:List aN)(n:aN):(lm s row n).length<=5000:=by
 have hb:=dN s
 have e:(lm s row n).length=(au s).toNat:=by
  unfold lm gH jh o5
  split<;>simp
 omega
theorem Lh{st:List Nat}{n:aN}(h:mO n):mO (bu st n):=by
 unfold bu
 split
 ·exact h
 ·split<;>exact h
theorem YZ{s:List Int}{row:List aN}{n:aN}(h:mO n):mO (kg s row n):=by
 unfold kg
 split
 ·exact⟨ac0 _ _ _,Nat.zero_le _⟩
 ·exact h
theorem NE{row:List aN}{n:aN}(h:∀p∈row,mO p)(hn:mO n):∀p∈row++[n],mO p:=λp hp=>by
 rcases List.mem_append.1 hp with hp|hp
 ·exact h p hp
 ·rw[List.mem_singleton.1 hp];exact hn
theorem YW{s:List Int}{x:List aN×List Nat}{n:aN}(h:∀p∈x.1,mO p)(hn:mO n):∀p∈(o8 s x n).1,mO p:=by
 show∀p∈(Bt x.1 (kg s x.1 (bu x.2 n))).1,mO p
 unfold Bt
 split
 ·exact h
 ·exact NE h (YZ (Lh hn))
theorem Ld:∀(l:List aN) (sh:List (List Int)) (x:List aN×List Nat),(∀p∈l,mO p)->(∀p∈x.1,mO p)->∀p∈(rG l sh x).1,mO p
 |[],_,x,_,h=>by unfold rG;exact h
 |n::r,[],x,_,h=>by unfold rG;exact h
 |n::r,s::ss,x,hl,h=>by
  unfold rG
  exact Ld r ss _ (λp hp=>hl p (List.mem_cons_of_mem _ hp)) (YW h (hl n List.mem_cons_self))
theorem SC{need:Nat->Bool}:∀(l:List aN) (i:Nat) (x:List aN×List Nat),(∀p∈l,mO p)->(∀p∈x.1,mO p)->∀p∈(ve need l i x).1,mO p
 |[],_,x,_,h=>by unfold ve;exact h
 |n::r,i,x,hl,h=>by
  unfold ve
  refine SC r (i+1) _ (λp hp=>hl p (List.mem_cons_of_mem _ hp)) ?_
  split
  ·exact NE h (Lh (hl n List.mem_cons_self))
  ·exact h
theorem Xw{l:List aN}{sh:List (List Int)}{out:Nat}(hl:∀p∈l,mO p):∀p∈(jl l sh out).1,mO p:=
 SC _ _ _ (Ld _ _ _ hl (λ_ h=>by cases h)) (λ_ h=>by cases h)
def Lg(g:bM):bM:=⟨none,0,(jl (g.l.map ak.pl) (check g).2 g.out.toNat).1.map aN.fo,(jl (g.l.map ak.pl) (check g).2 g.out.toNat).2⟩
theorem aj8(l:List aN):(l.map aN.fo).map ak.pl=l:=by
 rw[List.map_map]
 exact(List.map_congr_left (λ_ _=>rfl)).trans (List.map_id l)
structure A8(g t:bM):Prop where
 l:t.l.map ak.pl=(jl (g.l.map ak.pl) (check g).2 g.out.toNat).1
 out:t.out=(jl (g.l.map ak.pl) (check g).2 g.out.toNat).2
 bF:∀n∈t.l,n.uB
theorem A8.spans{g t:bM}(h:A8 g t)(hsp:(cZ g).1=0):(cZ t).1=0:=by
 have hR:=CK hsp
 obtain⟨hck,_,_⟩:=jC hsp
 obtain⟨hl1,Ez,hout,hcl,_⟩:=gK hck
 obtain⟨df,dU,h1,h2,h3,_⟩:=Yb hR (out:=g.out.toNat) vZ
 rw[List.length_map]at h3
 have:=h1.spans aa h.l (by rw[h.out];exact Int.natCast_nonneg _) (by rw[h.out];omega)
 rw[this]
theorem A8.lower{g t:bM}(h:A8 g t)(aV:Int)(giant:Bool)(m:Nat):mr t aV giant m=mr (Lg g) aV giant m:=
 Rs (by rw[h.l];exact(aj8 _).symm) h.out aV giant m
theorem A8.ok{g t:bM}(h:A8 g t)(hg:∀n∈g.l,n.small)(hl:g.l.length<=24){w:World}(hr:bE w t.base 9 (bO t.l))(he:∀n∈t.l,n.ok w)(hsp:(cZ g).1=0):t.ok w:=by
 obtain⟨hck,_,_⟩:=jC (h.spans hsp)
 obtain⟨hl1,Ez,hout,_,_⟩:=gK hck
 refine⟨hr,he,λn hn=> ?_,by omega,by unfold i64;omega⟩
 have hm:n.pl∈(jl (g.l.map ak.pl) (check g).2 g.out.toNat).1:=by rw[<-h.l];exact List.mem_map.2 ⟨n,hn,rfl⟩
 have:=Xw (λp hp=>by obtain⟨m,hm,rfl⟩:=List.mem_map.1 hp;exact⟨(hg m hm).data,(hg m hm).aQ⟩) n.pl hm
 exact⟨this.1,this.2⟩
def ake(l:List ak):bR where
 holds R w:=∀n∈l,(bX n.az).holds R w/\(bX n.data).holds R w/\(bX n.aQ).holds R w
 stable:=λhR hw h n hn=>⟨(bX n.az).stable hR hw (h n hn).1,(bX n.data).stable hR hw (h n hn).2.1,(bX n.aQ).stable hR hw (h n hn).2.2⟩
theorem aaJ{cx:Cx}{f:FuncId}{args:List SV}{H:Heap}{S:bR}{nx:Nat}{K:SV->Heap->bR->Nat->Prop}(g:bM)(hsp:(cZ g).1=0)(hsm:∀n∈g.l,n.small)(hl:g.l.length<=24)(hf:∀ar w,(callFunc f ar).run cx.P w= .ok (.enter f ar) w)
 (hc:∀ρ w',dO cx.B ρ nx H S w'->Calls cx.P f (SV.dW ρ args).toArray w' (MB w' (cZ g).1 (jl (g.l.map ak.pl) (check g).2 g.out.toNat)))
 (h:∀t:bM,A8 g t->K (.c (.tuple #[t.val,.int .i64 0])) H (S.and ((Eg λw=>t.ok w).past cx.B.w0.heap.size)) nx):aJ cx f args H S nx K:=by
 refine jU hf (λt:bM=> .tuple #[t.val,.int .i64 0]) (λt=>Eg λw=>t.ok w) (λt=>A8 g t) (λρ w' hw=>(hc ρ w' hw).mono ?_) (λt ht=>h t ht)
 rintro e w2 (⟨hr,_⟩|⟨_,l,base,cap,hx,hko,hcap,rfl,he,F,G,hF,hG,hFG,hn,hrow⟩)
 ·exact absurd hsp hr
 ·have hT:A8 g ⟨base,cap,l,(jl (g.l.map ak.pl) (check g).2 g.out.toNat).2⟩:=⟨hx,rfl,λn hn=>(hko n hn).1⟩
  refine⟨⟨base,cap,l,(jl (g.l.map ak.pl) (check g).2 g.out.toNat).2⟩,hT,rfl,he,(f_ base 9 (bO l)).and (ake l),⟨(f_ base 9 (bO l)).mono hrow hG,λn hn2=>⟨Dh ((xJ n.az).mono (hn n hn2).1 hF),Dh ((xJ n.data).mono (hn n hn2).2.1 hF),Dh ((xJ n.aQ).mono (hn n hn2).2.2 hF)⟩⟩,λR w h=>hT.ok hsm hl (bf h.1) (λn hn2=>Xr (hko n hn2).1 ⟨J4 (h.2 n hn2).1,J4 (h.2 n hn2).2.1,J4 (h.2 n hn2).2.2⟩) hsp⟩
def jX(g:bM)(o:DZ)(aA:Int):yx×Int:=if nJ o aA then(if(cZ g).1≠0 then(Ca,(cZ g).1)else mr (if o.tidy=true then Lg g else g) o.aV o.giant aA.toNat)else(Ca,1)
section
theorem aa8:Tryz.prog.cellsOf 43=5:=by kernel_rfl
def kT(x:jf):Value:= .agg (uI x).toArray
def sG(x:jf):Prop:=i64 x.op/\i64 x.KD/\i64 x.a/\i64 x.b/\i64 x.k
theorem ain(x y:jf):x=y↔(x.op=y.op/\x.KD=y.KD/\x.a=y.a/\x.b=y.b/\x.k=y.k):=by
 obtain⟨a,b,c,d,e⟩:=x
 obtain⟨a',b',c',d',e'⟩:=y
 simp
instance:DecidableEq jf:=λx y=>decidable_of_iff _ (ain x y).symm
variable {k:Nat}
theorem xq{l:List jf}(h:k<l.length):(iX l)[k]? =some (uI l[k]):=by simp[iX,h]
def Dc(x:jf):List Lit:=[.int .i64 x.op,.int .i64 x.KD,.int .i64 x.a,.int .i64 x.b,.int .i64 x.k]
theorem M8(x:jf)(hx:sG x):Tryz.prog.keyLits 2 43 (uI x)=some (Dc x):=by
 obtain⟨h1,h2,h3,h4,h5⟩:=hx
 simp[Program.keyLits,Tryz.underlying43,aa8,uI,List.mapM_cons,Tryz.underlying3,agx,EN h1,EN h2,EN h3,EN h4,EN h5]
 rfl
theorem Uz(x y:jf)(hx:sG x)(hy:sG y)(w:World):(Op.equal 43 (kT x) (kT y)).run Tryz.prog w= .ok (decide (x=y)) w:=by
 obtain⟨r,h1,h2⟩:=run_equalIn_deep (P:=Tryz.prog) 9998 2 43 bg w 2 2 (kT x) (kT y) (Dc x) (Dc y) P7 P7 (M8 x hx) (M8 y hy)
 have e:r=decide (x=y):=by
  have:Dc x=Dc y↔x=y:=by
   obtain⟨a,b,c,d,e⟩:=x
   obtain⟨a',b',c',d',e'⟩:=y
   simp[Dc]
  rw[this]at h2
  cases r with
  |true=>exact(decide_eq_true (h2.1 rfl)).symm
  |false=>exact(decide_eq_false (λh=>by have:=h2.2 h;cases this)).symm
 rw[<-e];exact h1
theorem aih:Tryz.prog.eqGuardType Tryz.prog.depth 43=false:=by kernel_rfl
variable {x y:jf} {ox oy:Operand} {K:SV->Prop}
theorem RU(hx:sG x)(hy:sG y)(h:K (.c (.bool (!decide (x=y))))):mi Tryz.prog (do eqGuard .neq 43 ox oy (kT x) (kT y);binOp .neq 43 (kT x) (kT y)) K:=by
 rw[yR]
 refine⟨_,λw=> ?_,h⟩
 have h1:(eqGuard .neq 43 ox oy (kT x) (kT y)).run Tryz.prog w= .ok () w:=by
  simp[eqGuard,kT,aih]
 have h2:=Uz x y hx hy w
 simp only[Sem.run_bind,h1,Result.andThen_ok]
 simp[kT,binOp]at h2|-
 rw[h2];rfl
theorem ZN(hx:sG x)(hy:sG y)(he:x=y)(h:K (.c (.bool false))):mi Tryz.prog (do eqGuard .neq 43 ox oy (kT x) (kT y);binOp .neq 43 (kT x) (kT y)) K:=RU hx hy (by rw[decide_eq_true he];exact h)
theorem Xg(hx:sG x)(hy:sG y)(he:x≠y)(h:K (.c (.bool true))):mi Tryz.prog (do eqGuard .neq 43 ox oy (kT x) (kT y);binOp .neq 43 (kT x) (kT y)) K:=RU hx hy (by rw[decide_eq_false he];exact h)
theorem ZP{α:Type}{xs ys:List α}(hx:k<xs.length)(hy:k<ys.length)(h:xs.take k=ys.take k)(he:xs[k]=ys[k]):xs.take (k+1)=ys.take (k+1):=by
 rw[List.take_succ_eq_append_getElem hx,List.take_succ_eq_append_getElem hy,h,he]
theorem Ua(w:World)(ub:Option Addr)(uc:Nat)(ul:List jf)(vb:Option Addr)(vc:Nat)(vl:List jf)(hu:bE w ub 5 (iX ul))(hv:bE w vb 5 (iX vl))(ug:ul.length<=1000000)(hfu:∀x∈ul,sG x)(hfv:∀x∈vl,sG x):Calls Tryz.prog 21 #[.slice ub ul.length uc,.slice vb vl.length vc] w λe w'=>e= .returned (.bool (decide (ul=vl)))/\Ext w w':=by
 refine fH Tryz.func21 [.c (.slice ub ul.length uc),.c (.slice vb vl.length vc)] ?_
 repeat' ((conv=>whnf)<;>first|refine bV ?_|refine ag ?_ ?_<;>intro _)
 ·exact bq (λ_ _ h=>h) rfl (decide_eq_false (λh=>by rename_i hne;rw[h]at hne;exact hne rfl))
 rename_i hne
 refine Wp.loop (σ:=Nat) 0 (λk=>[(0,.c (.slice ub ul.length uc)),(1,.c (.slice vb vl.length vc)),(12,aC ul.length),(13,aC k)]) (λ_=>[]) (λ_=>aU w)
  (λk=>k<=ul.length/\ul.take k=vl.take k) (λk=>ul.length-k) 0 [] (Nat.le_refl _) (λs=>⟨rfl,rfl⟩) ⟨by simp,by simp⟩ ⟨rfl,⟨rfl,rfl,rfl,rfl,trivial⟩,trivial,λ_ _ h=>h⟩ ?_
 rintro k ⟨hk,he⟩
 by_cases hlt:k<ul.length
 ·have hlt2:k<vl.length:=by omega
  obtain⟨a,ha⟩:=aT (j:=k) hu EG
  obtain⟨b,hb⟩:=aT (j:=k) hv (by rw[oF];exact hlt2)
  have hur:∀R w',(aU w).holds R w'->bE w' (some a) 5 (iX ul):=λR w' h=>ha▸aH h hu
  have hvr:∀R w',(aU w).holds R w'->bE w' (some b) 5 (iX vl):=λR w' h=>hb▸aH h hv
  rw[ha,hb]
  have hux:=hfu _ (List.getElem_mem hlt)
  have hvx:=hfv _ (List.getElem_mem hlt2)
  by_cases hxy:ul[k]=vl[k]
  ·repeat' ((conv=>whnf)<;>first|(show dn ..;(first|refine aM a k rfl rfl hlt ?_|refine aM b k rfl rfl hlt2 ?_))|(show lK ..;(first|refine gI hur _ (xq hlt) rfl ?_|refine gI hvr _ (xq hlt2) rfl ?_))|(show mi ..;refine ZN hux hvx hxy ?_)|refine bV ?_|refine ag ?_ ?_<;>intro _)
   conv=>whnf
   exact⟨k+1,[],⟨hlt,ZP hlt hlt2 he hxy⟩,by omega,rfl,fE,trivial,λ_ _ h=>h⟩
  ·repeat' ((conv=>whnf)<;>first|(show dn ..;(first|refine aM a k rfl rfl hlt ?_|refine aM b k rfl rfl hlt2 ?_))|(show lK ..;(first|refine gI hur _ (xq hlt) rfl ?_|refine gI hvr _ (xq hlt2) rfl ?_))|(show mi ..;refine Xg hux hvx hxy ?_)|refine bV ?_|refine ag ?_ ?_<;>intro _)
   exact bq (λ_ _ h=>h) rfl (decide_eq_false (λh=>hxy (by simp only[h])))
 ·have hkl:ul=vl:=by rw[List.take_of_length_le aa,List.take_of_length_le aa]at he;exact he
  repeat' ((conv=>whnf)<;>first|refine bV ?_|refine ag ?_ ?_<;>intro _)
  exact bq (λ_ _ h=>h) rfl (decide_eq_true hkl)
end
section
theorem A7(f:Nat->Int):∀(l:List Int) (e:Nat) (row:List Int),(l9 f l e row).length=row.length
 |[],_,_=>rfl
 |x::l,e,row=>by
  show(l9 f l (e+1) _).length=_
  rw[A7 f l,List.length_set]
theorem PZ{f:Nat->Int}{s:Nat}:∀(l:List Int) (e:Nat) (row:List Int),(∀x∈l,x.toNat≠s)->(l9 f l e row).getD s 0=row.getD s 0
 |[],_,_,_=>rfl
 |x::l,e,row,h=>by
  show(l9 f l (e+1) _).getD s 0=_
  rw[PZ l _ _ (λy hy=>h y (List.mem_cons_of_mem _ hy)),getD_set_ne (h x List.mem_cons_self)]
theorem abI{f:Nat->Int}:∀(l:List Int) (e:Nat) (row:List Int) (j:Nat),l.Nodup->(∀x∈l,0<=x/\x<row.length)->j<l.length->(l9 f l e row).getD (l.getD j 0).toNat 0=f (e+j)
 |x::l,e,row,0,hn,hb,_=>by
  show(l9 f l (e+1) _).getD x.toNat 0=f e
  have hx:=hb x List.mem_cons_self
  rw[PZ l _ _ (λy hy he=>by
   have hy2:=hb y (List.mem_cons_of_mem _ hy)
   have:y=x:=by omega
   subst this
   exact(List.nodup_cons.1 hn).1 hy),qh aa]
 |x::l,e,row,j+1,hn,hb,hj=>by
  show(l9 f l (e+1) _).getD (l.getD j 0).toNat 0=_
  rw[abI l _ _ j (List.nodup_cons.1 hn).2 (λy hy=>by rw[List.length_set];exact hb y (List.mem_cons_of_mem _ hy)) (by simpa using hj),show e+1+j=e+(j+1) by omega]
theorem dA(n:Nat)(sl:List Int)(f:Nat->Int):(bU n sl f).length=n:=by
 unfold bU;rw[A7,List.length_replicate]
structure Sl(n:Nat)(sl:List Int):Prop where
 bd:∀x∈sl,0<=x/\x<n
 nodup:sl.Nodup
theorem aaV{l:List Int}{n:Nat}(h:lG l n=true):Sl n l:=⟨(wL h).1,(wL h).2⟩
variable {sl:List Int}
theorem oC{n:Nat}(h:Sl n sl)(f:Nat->Int){j:Nat}(hj:j<sl.length):(bU n sl f).getD (sl.getD j 0).toNat 0=f j:=by
 unfold bU
 rw[abI sl 0 _ j h.nodup (λx hx=>by rw[List.length_replicate];exact h.bd x hx) hj,Nat.zero_add]
variable {s:Nat}
theorem qG{n:Nat}(f:Nat->Int)(hs:∀x∈sl,x.toNat≠s):(bU n sl f).getD s 0=0:=by
 unfold bU;rw[PZ sl 0 _ hs,oL]
variable {f:Nat->Int}
theorem zg{n:Nat}(h:Sl n sl){q:List Int}(hq:q.length=n)(h1:∀j,j<sl.length->q.getD (sl.getD j 0).toNat 0=f j)(h2:∀s,s<n->(∀x∈sl,x.toNat≠s)->q.getD s 0=0):q=bU n sl f:=by
 refine TT (by rw[hq,dA]) λs hs=> ?_
 by_cases hx:∃x∈sl,x.toNat=s
 ·obtain⟨x,hx,rfl⟩:=hx
  obtain⟨j,hj,rfl⟩:=List.mem_iff_getElem.1 hx
  have e:sl.getD j 0=sl[j]:=getD_at hj
  rw[<-e,h1 j hj,oC h f hj]
 ·have ho:∀x∈sl,x.toNat≠s:=λx hx2 he=>hx ⟨x,hx2,he⟩
  rw[h2 s aa ho,qG f ho]
theorem zz{n:Nat}(h:Sl n sl)(f g:Nat->Int):Km (bU n sl f) (bU n sl g)=bU n sl λe=>f e+g e:=by
 have e:(bU n sl f).length=(bU n sl g).length:=by rw[dA,dA]
 refine zg h (xu (dA _ _ _) (dA _ _ _)) (λj hj=> ?_) (λs _ ho=> ?_)
 ·rw[Mm e,oC h f hj,oC h g hj]
 ·rw[Mm e,qG f ho,qG g ho];rfl
theorem zq{n:Nat}(h:Sl n sl)(f g:Nat->Int):mulR (bU n sl f) (bU n sl g)=bU n sl λe=>f e*g e:=by
 have e:(bU n sl f).length=(bU n sl g).length:=by rw[dA,dA]
 refine zg h (uE (dA _ _ _) (dA _ _ _)) (λj hj=> ?_) (λs _ ho=> ?_)
 ·rw[Mi e,oC h f hj,oC h g hj]
 ·rw[Mi e,qG f ho,qG g ho];rfl
theorem V9{n:Nat}(h:Sl n sl):List.replicate n 0=bU n sl λ_=>0:=
 zg h List.length_replicate (λ_ _=>oL) (λ_ _ _=>oL)
theorem gG{n:Nat}(h:Sl n sl){g:Nat->Int}(he:∀j,j<sl.length->f j=g j):bU n sl f=bU n sl g:=
 zg h (dA _ _ _) (λj hj=>by rw[oC h f hj,he j hj]) (λs _ ho=>qG f ho)
def Uo(X:Nat->Int)(fr row:List Int):Nat->Int
 |0=>0
 |k+1=>Uo X fr row k+row.getD k 0*X (fr.getD k 0).toNat
theorem Tv(X:Nat->Int)(fr row:List Int)(k:Nat):Uo X fr row (k+1)=Uo X fr row k+row.getD k 0*X (fr.getD k 0).toNat:=rfl
theorem XH(X:Nat->Int)(rows:List (List Int))(fr to:List Int)(o s:Nat):∀i,wC X (xN rows fr to o i) s=wC X (qo rows fr to o) s+(if(to.getD o 0).toNat=s then Uo X fr (rows.getD o []) i else 0)
 |0=>by rw[Ur];unfold Uo;split<;>omega
 |i+1=>by
  rw[Zr,XH X rows fr to o s i,Tv]
  split<;>omega
theorem R9(X:Nat->Int)(rows:List (List Int))(fr to:List Int)(o s:Nat):wC X (qo rows fr to (o+1)) s=wC X (qo rows fr to o) s+(if(to.getD o 0).toNat=s then Uo X fr (rows.getD o []) fr.length else 0):=by
 rw[<-UQ,XH]
theorem EM(X:Nat->Int)(rows:List (List Int))(fr to:List Int){s:Nat}:∀m,m<=to.length->(∀o,o<m->(to.getD o 0).toNat≠s)->wC X (qo rows fr to m) s=0
 |0,_,_=>rfl
 |m+1,hm,h=>by
  rw[R9,EM X rows fr to m aa (λo ho=>h o aa),if_neg (h m (Nat.lt_succ_self m))];rfl
theorem VZ(X:Nat->Int)(rows:List (List Int))(fr:List Int){to:List Int}{n:Nat}(hto:Sl n to){o:Nat}:∀m,m<=to.length->o<m->wC X (qo rows fr to m) (to.getD o 0).toNat=Uo X fr (rows.getD o []) fr.length
 |m+1,hm,h=>by
  have ne:∀i j,i<j->j<to.length->(to.getD i 0).toNat≠(to.getD j 0).toNat:=λi j hij hj=>by
   have h1:=Hr hto.nodup aa hj hij
   have b1:=hto.bd _ (cu (show i<to.length by omega))
   have b2:=hto.bd _ (cu hj)
   omega
  rw[R9]
  by_cases e:o=m
  ·subst e
   rw[EM X rows fr to o aa (λi hi=>ne i o hi aa),if_pos rfl,Int.zero_add]
  ·rw[VZ X rows fr hto m aa aa,if_neg (λh=>ne o m aa aa h.symm),Int.add_zero]
variable {fr:List Int}
theorem aeH{X:Nat->Int}{row a:List Int}(hl:row.length=fr.length)(hX:∀i,i<fr.length->X (fr.getD i 0).toNat=a.getD i 0):Uo X fr row fr.length=pO (Lm a) 0 row:=by
 have key:∀k,k<=row.length->Uo X fr row k=pO (Lm a) 0 (row.take k):=by
  intro k
  induction k with
  |zero=>intro _;rw[List.take_zero];rfl
  |succ k ih=>
   intro hk
   rw[List.take_succ_eq_append_getElem aa,CU,<-ih aa,Tv,hX k aa,getD_at (show k<row.length by omega)]
   simp[pO,Lm,List.length_take,Nat.min_eq_left (show k<=row.length by omega)]
 rw[<-hl,key _ (Nat.le_refl _),List.take_of_length_le (Nat.le_refl _)]
variable {to:List Int}
theorem afs{n:Nat}(hn:0<n)(hn4:n<=4096)(giant:Bool){ins:List (List Int)}{s:dL}(h:Bv n s){x:Int}{a v:List Int}(hfr:Sl n fr)(hto:Sl n to)(hx:kR ins s x (bU n fr λe=>a.getD e 0)){rows:List (List Int)}{aQ:List Int}
 (hrl:rows.length=to.length) (hre:∀r∈rows,r.length=fr.length) (hb:aQ.length=to.length) (hv:∀o,o<to.length->aQ.getD o 0+pO (Lm a) 0 (rows.getD o [])=v.getD o 0):
 nX n ins s (ku n giant s x (rows,aQ) fr to).1 (ku n giant s x (rows,aQ) fr to).2 (bU n to λe=>v.getD e 0):=by
 have hok:Bd rows fr to n:=⟨by omega,by omega,hrl,by simpa[lG]using⟨hfr.bd,hfr.nodup⟩,by simpa[lG]using⟨hto.bd,hto.nodup⟩,hre⟩
 have hD:(vk rows fr to n).1=pQ n rows fr to to.length:=by unfold vk;rw[if_pos hok,Int.toNat_natCast]
 have hlen:=YT (rows:=rows) ⟨hfr.bd,hfr.nodup⟩ ⟨hto.bd,hto.nodup⟩ hn
 obtain⟨q,q1,q2,q3⟩:=al_ hn giant h hx (dA _ _ _) hlen
 have hq:q=bU n to λe=>pO (Lm a) 0 (rows.getD e []):=by
  refine zg hto q2 (λj hj=> ?_) (λs hs ho=> ?_)
  ·have b:=hto.bd _ (cu hj)
   rw[q3 _ aa,SK ⟨hfr.bd,hfr.nodup⟩ ⟨hto.bd,hto.nodup⟩,VZ _ rows fr hto to.length (Nat.le_refl _) hj]
   refine aeH (hre _ (by rw[List.getD_eq_getElem?_getD,List.getElem?_eq_getElem aa];exact List.getElem_mem _)) λi hi=> ?_
   exact oC hfr _ hi
  ·rw[q3 _ hs,SK ⟨hfr.bd,hfr.nodup⟩ ⟨hto.bd,hto.nodup⟩,EM _ rows fr to to.length (Nat.le_refl _) (λo ho2=>ho _ (cu ho2))]
 unfold ku
 dsimp only
 rw[hD]
 split
 ·have k:=ajf q1.ok q1.val (dA n to λe=>aQ.getD e 0)
  refine⟨k.ok,q1.ext.trans k.ext,k.val.eq ?_⟩
  rw[hq,zz hto]
  exact gG hto λj hj=>by rw[<-hv j hj];omega
 ·rename_i hno
  refine q1.eq ?_
  rw[hq]
  refine gG hto λj hj=> ?_
  have:aQ.getD j 0=0:=by
   have hno:¬(aQ.any λb=>decide (b≠0))=true:=hno
   rw[List.any_eq_true]at hno
   rw[getD_at aa]
   by_cases e:aQ[j]=0
   ·exact e
   ·exact absurd ⟨aQ[j],List.getElem_mem _,by simpa using e⟩ hno
  have:=hv j hj
  omega
end
end Go.Proofs.YtgndjjdeopfdkaaGreat

import Derived.DeepKeys
import Derived.Test.YtgndjjdeopfdkaaGreatKLowerMeans12b
/- texts UK PI of the proof of LowerMeansSaid -/
set_option maxHeartbeats 16000000
set_option maxRecDepth 20000
set_option linter.unusedVariables false
set_option linter.unusedSimpArgs false
namespace Go.Proofs.YtgndjjdeopfdkaaGreat
open Go.SX Go.RowKit
section
abbrev al1:DT:=(bS [0,1,2,5,6,7] (.alt 3 (.alt 4 (bS [108,109,10] .done) (bS [108,104,109,10] .done)) (bS [108,103,104,109,10] .done)))
theorem Zi(w:World)(u:ax)(hr:bE w u.base 1 (eT u.xs))(hs:0<u.xs.length)(hl:u.xs.length<=1000000):
 Calls Tryz.prog 143 #[u.val] w (og w u.xs):=by
 obtain⟨ab,ac,xs⟩:=u;simp only[ax.val]at*;obtain⟨a,rfl⟩:∃a,ab=some a:=aT (j:=0) hr (by rw[eG];exact hs);refine fH Tryz.func143 [.c (.slice (some a) xs.length ac)] ?_;repeat' ((conv=>whnf)<;>first|refine ji (ti 89 rfl) rfl ?_|refine a_ ?_)
 have hil:=eG xs;repeat' ((conv=>whnf)<;>first|refine kF (eG xs) (λR w' h=>aH h hr) RQ ?_|refine a_ ?_)
 exact gT (λ_ _ h=>h) rfl (.head _) (by simp[eG])
variable {u:ax} {w:World}
theorem PM{l h:Nat}(hr:bE w u.base 1 (eT u.xs))(h3:u.xs.length<=u.cap):bE w (cutV u l h).base 1 (eT (cutV u l h).xs):=by
 have:=ET l (h-l) (by rw[eG];exact h3) hr
 rwa[show((eT u.xs).drop l).take (h-l)=eT ((u.xs.drop l).take (h-l)) by simp[eT,anY,List.map_take]]at this
theorem acr{b:Nat}{v:l7}{t n:Nat}{ins:aY}{kb:Option Addr}{kc:Nat}{us:List ax}(h:za w b v t n ins kb kc us)(x:jf){j k:Nat}(hj:x.a=j)(hk:x.k=k)(hk0:0<k/\k<n)(hu:us[j]? =some u):
 Calls Tryz.prog 98 #[.pointer (some ⟨b,0,none⟩),Wm x] w (og w (w9 k u.xs)):=by
 have hjl:=(abH.1 hu).1;obtain⟨pa,Gm⟩:∃a,kb=some a:=aT (j:=j) h.Ck (by rw[acN];exact hjl);have hw:=h.words (adu hu);obtain⟨k0,k1⟩:=hk0;obtain⟨n4,n2⟩:=h.n2;have I4:=hw.len;have c1:(cutV u k n).xs.length=n-k:=uy aa;have c2:(cutV u 0 k).xs.length=k:=by rw[uy aa];omega
 have r1:bE w (cutV u k n).base 1 (eT (cutV u k n).xs):=PM hw.rows hw.room;have r2:bE w (cutV u 0 k).base 1 (eT (cutV u 0 k).xs):=PM hw.rows hw.room;obtain⟨ca,hca⟩:∃a,(cutV u 0 k).base=some a:=aT (j:=0) r2 AC;have r3:∀(R:Nat->Prop) w',(aU w).holds R w'->bE w' (some ca) 1 (eT (cutV u 0 k).xs):=λR w' hR=>by rw[<-hca];exact aH hR r2
 have amc:eT (cutV u k n).xs++eT (cutV u 0 k).xs=eT (w9 k u.xs):=by
  have e1:(cutV u k n).xs=u.xs.drop k:=by show(u.xs.drop k).take (n-k)=_;rw[aen zW]
  have e2:(cutV u 0 k).xs=u.xs.take k:=by show(u.xs.drop 0).take (k-0)=_;rw[List.drop_zero,am4]
  rw[e1,e2];simp[eT,w9]
 have hsl1:∀{K:SV->Prop},K (.c (cutV u k n).val)->ny u.base u.xs.length u.cap 1 (some x.k) none none K:=λ{K} hK=>kS (l:=k) (h:=n) hk (by show n=_;omega) aa aa hw.room hK;have hsl2:∀{K:SV->Prop},K (.c (.slice (some ca) k (cutV u 0 k).cap))->ny u.base u.xs.length u.cap 1 none (some x.k) none K:=λ{K} hK=>kS (l:=0) (h:=k) rfl hk aa aa hw.room (by
  have e:(cutV u 0 k).val= .slice (some ca) k (cutV u 0 k).cap:=by unfold ax.val;rw[hca,c2]
  rw[e];exact hK)
 have hcl:∀w',bE w' (cutV u k n).base 1 (eT (cutV u k n).xs)->Calls Tryz.prog 143 #[(cutV u k n).val] w' (og w' (cutV u k n).xs):=λw' hr=>Zi w' _ hr aa aa;have c1u:(eT (cutV u k n).xs).length=n-k:=by rw[eG,c1]
 have c2u:(eT (cutV u 0 k).xs).length=k:=by rw[eG,c2]
 refine fH Tryz.func98 [.c (.pointer (some ⟨b,0,none⟩)),.agg [aC x.op,aC x.KD,aC x.a,aC x.b,aC x.k]] ?_;repeat' ((conv=>whnf)<;>first|(show gZ ..;(first|refine rD h.at_ (j:=8) (λR w' h=>h) rfl ?_|refine bN (λR w' hR=>by rw[<-Gm];exact aH hR h.Ck) _ _ (j:=j) (oQ hu) rfl ?_))|(show dn ..;refine aM pa j Gm hj hjl ?_)|(show tV ..;refine kF c2u r3 RQ ?_)|(show ny ..;(first|refine hsl1 ?_|refine hsl2 ?_))|(show cO _ 2 ..;refine mV [] _ al1 ?_)|(show aJ _ 143 ..;refine jy Tryz.call143 1 59 (λ_:Unit=>eT (cutV u k n).xs) (λ_=>True) (λρ w' hw=>((hcl w' (ae hw λR hR=>aH hR r1)).mono λe w2 he=>⟨(),trivial,he⟩)) (λ_ _=> ?_))|refine bV ?_|refine And.intro ?_ ?_)
 all_goals(conv=>whnf)
 all_goals exact gT (xs:=eT (w9 k u.xs)) (λ_ _ h=>h) rfl (abr.2 (.inl (by rw[aen (Tw _),amc]))) (by rw[<-amc,adx])
theorem Xq(g:Int->Int)(f:Nat->Int):∀(l:List Int) (e:Nat) (row:List Int),(l9 f l e row).map g=l9 (λe=>g (f e)) l e (row.map g)
 |[],_,_=>rfl
 |x::l,e,row=>by
  show(l9 f l (e+1) _).map g=l9 _ l (e+1) _;rw[Xq g f l,alq]
variable {g:Int->Int}
theorem Zp(hg:g 0=0)(n:Nat)(sl:List Int)(f:Nat->Int):(bU n sl f).map g=bU n sl λe=>g (f e):=by
 unfold bU;rw[Xq,List.map_replicate,hg]
variable {l:List Int}
theorem DL{n:Nat}(hl:l.length=n)(g:Int->Int):((List.range n).map λk=>g (l.getD k 0))=l.map g:=by
 subst hl;apply alQ
 ·simp
 ·intro k h1 h2;simp only[aas,amj]at h1;simp[List.getD,h1]
theorem zip_map{f:Int->Int->Int}{a b:List Int}{n:Nat}(ha:a.length=n)(hb:b.length=n):((List.range n).map λk=>g (f (a.getD k 0) (b.getD k 0)))=(List.zipWith f a b).map g:=by
 apply alQ
 ·simp[ha,hb]
 ·intro k h1 h2;simp only[aas,amj]at h1;have k1:k<a.length:=by omega
  have k2:k<b.length:=by omega
  simp[List.getD,k1,k2]
theorem zb(hg:g 0=0)(k:Nat):(l.map g).getD k 0=g (l.getD k 0):=by
 rw[TR,ab5,TR];cases l[k]? with
 |none=>exact hg.symm
 |some x=>rfl
theorem aft(x y:Int)(t:Nat):(x%t+y%t)%(t:Int)=(x+y)%t:=(Int.add_emod x y t).symm
theorem afd(x y:Int)(t:Nat):(x%t*(y%t))%(t:Int)=(x*y)%t:=(Int.mul_emod x y t).symm
theorem X7(w:World)(x y:Int)(t:Nat)(ht:0<t/\t<=1073741824)(hx:0<=x/\x<t)(hy:0<=y/\y<t):Calls Tryz.prog 95 #[.int .u64 x,.int .u64 y,.int .u64 t] w λe w'=>e= .returned (.int .u64 ((x+y)%t))/\Ext w w':=by
 obtain⟨a,rfl⟩:∃a:Nat,x=a:=⟨x.toNat,by omega⟩;obtain⟨b,rfl⟩:∃b:Nat,y=b:=⟨y.toNat,by omega⟩;exact afQ w a b t ht.1 ht.2
theorem VQ(w:World)(x y:Int)(t:Nat)(ht:0<t/\t<=1073741824)(hx:0<=x/\x<t)(hy:0<=y/\y<t):Calls Tryz.prog 100 #[.int .u64 x,.int .u64 y,.int .u64 t] w λe w'=>e= .returned (.int .u64 ((x*y)%t))/\Ext w w':=by
 obtain⟨a,rfl⟩:∃a:Nat,x=a:=⟨x.toNat,by omega⟩;obtain⟨b,rfl⟩:∃b:Nat,y=b:=⟨y.toNat,by omega⟩;have:=aeY w a b t aa aa ht.1 aa
 rwa[show((a*b%t:Nat):Int)=((a:Int)*b)%t by rw[Int.natCast_emod,akv]]at this
end
section
abbrev abO:DT:=(bS [0,1,2,3,4,5,6,7,8,9,10,12,111,113,14] .done)
theorem aqo(n:Nat):∀{I:List BZ} {V:List (List Int)} {k:Nat} {x:BZ} {y:List Int},I[k]? =some x->V[k]? =some y->(xh n I V).getD k []=bU n x.aA λe=>y.getD e 0
 |[],_,_,_,_,h,_=>by simp at h
 |_::_,[],_,_,_,_,h=>by simp at h
 |p::I,q::V,0,x,y,h1,h2=>by
  obtain rfl:p=x:=by simpa using h1
  obtain rfl:q=y:=by simpa using h2
  rfl
 |p::I,q::V,k+1,x,y,h1,h2=>aqo n (I:=I) (V:=V) (by simpa using h1) (by simpa using h2)
section
variable {w:World} {b:Nat} {v:l7} {t n:Nat} {ins:aY} {kb:Option Addr} {kc:Nat} {us:List ax} {acc:List (List Int)}
variable {k:Nat}
theorem Ip(hacc:us.map ax.xs=acc.map (List.map (λz:Int=>z%(t:Int))))(hl:∀r∈acc,r.length=n)(hk:k<us.length):∃u,us[k]? =some u/\u.xs=(acc.getD k []).map (λz:Int=>z%(t:Int))/\(acc.getD k []).length=n:=by
 have hal:acc.length=us.length:=by have:=congrArg List.length hacc;simpa using this.symm
 have e:=congrArg (λl:List (List Int)=>l[k]?) hacc;simp only[ab5,YL hk,YL (show k<acc.length by omega),amk,Option.some.injEq]at e;have g:acc.getD k []=acc[k]:=by rw[TR,YL (show k<acc.length by omega)];rfl
 exact⟨us[k],YL hk,by rw[g];exact e,by rw[g];exact hl _ (aby _)⟩
theorem Vx(h:za w b v t n ins kb kc us)(hk:k<v.aF.l.length):∃u,v.aF.l[k]? =some u/\(v.aF.l.map ax.xs).getD k []=u.xs/\u.xs.length=n:=by
 refine⟨v.aF.l[k],YL hk,?_,(h.aF _ (aby hk)).2⟩;rw[TR,ab5,YL hk];rfl
theorem afo(h:za w b v t n ins kb kc us)(hk:k<v.inputs.length):∃y u,v.inputs[k]? =some y/\ins.l[k]? =some u/\(xh n (v.inputs.map nN.pl) (ins.l.map ax.xs)).getD k []=bU n y.aA.xs λe=>u.xs.getD e 0:=by
 have hl:=h.mat.len;rw[aas,aas]at hl;refine⟨v.inputs[k],ins.l[k],YL hk,YL aa,?_⟩;exact aqo n (x:=v.inputs[k].pl) (y:=ins.l[k].xs) (by rw[ab5,YL hk];rfl) (by rw[ab5,YL aa];rfl)
end
variable {ρ:Nat->SX.Loc} {nx i m:Nat} {H:Heap} {S:bR} {T:TypeId} {xs:List Int}
theorem adO{B:Base}{w:World}(hw:dO B ρ nx H S w)(he:(i,b_.rows (eT xs) 1 T)∈H)(hm:m=xs.length):∃u:ax,u.xs=xs/\(SV.os i m).rf ρ=u.val/\bE w u.base 1 (eT u.xs)/\u.xs.length<=u.cap:=by
 subst hm;have hr:=eZ hw he;obtain⟨R,φ,hw⟩:=hw;have hcap:=(hw.jA _ he).2.1;exact⟨⟨(ρ i).base,(ρ i).cap,xs⟩,rfl,rfl,hr,by simpa[eG]using hcap⟩
variable {q:List Int}
theorem Xd{p P Q:List Int}{n t:Nat}(hp:p=P.map (λz:Int=>z%(t:Int)))(hq:q=Q.map (λz:Int=>z%(t:Int)))(hP:P.length=n)(hQ:Q.length=n):((List.range n).map λk=>(p.getD k 0+q.getD k 0)%(t:Int))=(Km P Q).map (λz:Int=>z%(t:Int)):=by
 subst hp hq;rw[show Km P Q=List.zipWith (·+·) P Q from rfl,<-zip_map hP hQ];refine anA λk _=> ?_;rw[zb (g:=(λz:Int=>z%(t:Int))) (Int.zero_emod _),zb (g:=(λz:Int=>z%(t:Int))) (Int.zero_emod _)];exact aft _ _ _
theorem Sg{p P Q:List Int}{n t:Nat}(hp:p=P.map (λz:Int=>z%(t:Int)))(hq:q=Q.map (λz:Int=>z%(t:Int)))(hP:P.length=n)(hQ:Q.length=n):((List.range n).map λk=>(p.getD k 0*q.getD k 0)%(t:Int))=(mulR P Q).map (λz:Int=>z%(t:Int)):=by
 subst hp hq;rw[show mulR P Q=List.zipWith (·*·) P Q from rfl,<-zip_map hP hQ];refine anA λk _=> ?_;rw[zb (g:=(λz:Int=>z%(t:Int))) (Int.zero_emod _),zb (g:=(λz:Int=>z%(t:Int))) (Int.zero_emod _)];exact afd _ _ _
theorem Ug{l:List Int}{t:Nat}(ht:0<t):∀x∈l.map (λz:Int=>z%(t:Int)),0<=x/\x<t:=λx hx=>by
 obtain⟨z,_,rfl⟩:=abl.1 hx;exact⟨alL _ aa,akS _ aa⟩
theorem Wv{w:World}{b:Nat}{v:l7}{t n:Nat}{ins:aY}{kv:Value}(hm:r_ v t ins kv b w)(hn2:0<n/\n<=2048)(F:FuncId)(f:Int->Int->Int)(hF:∀ar w,(callFunc F ar).run Tryz.prog w= .ok (.enter F ar) w)
 (hf:∀(w':World) (x y:Int),(0<=x/\x<t)->(0<=y/\y<t)->Calls Tryz.prog F #[.int .u64 x,.int .u64 y,.int .u64 t] w' λe w''=>e= .returned (.int .u64 (f x y))/\Ext w' w'') (p:ax) (hp:zL w p t n) (hx:xs.length=n) (hb:∀x∈xs,0<=x/\x<t)
 {w':World} (hw:dO ⟨w,[]⟩ ρ nx H S w') (hS:∀R w',S.holds R w'->(aU w).holds R w') (he:(i,b_.rows (eT xs) 1 T)∈H) (hmm:m=xs.length):
 Calls Tryz.prog 101 (SV.dW ρ [.c (.pointer (some ⟨b,0,none⟩)),.c p.val,.os i m,.c (.func (.func F) #[] #[])]).toArray w' (og w' ((List.range n).map λk=>f (p.xs.getD k 0) (xs.getD k 0))):=by
 obtain⟨r,rfl,r2,r3,r4⟩:=adO hw he hmm;have hc:=Jy (ae hw λR hR=>hm.later (hS R w' hR)) hn2 F f hF hf p r (ae hw λR hR=>hp.later (hS R w' hR)) ⟨r3,r4,hx,hb⟩;rw[<-r2]at hc;exact hc
theorem ac8{w:World}{b:Nat}{v:l7}{t n:Nat}{ins:aY}{kb:Option Addr}{kc:Nat}{us:List ax}(h:za w b v t n ins kb kc us)(x:jf)(hx:xk n v.aF.l.length v.inputs.length us.length x){acc:List (List Int)}(hacc:us.map ax.xs=acc.map (List.map (λz:Int=>z%(t:Int))))(hl:∀r∈acc,r.length=n):
 Calls Tryz.prog 46 #[.pointer (some ⟨b,0,none⟩),Wm x] w (og w ((rR (v.aF.l.map ax.xs) (xh n (v.inputs.map nN.pl) (ins.l.map ax.xs)) acc x).map (λz:Int=>z%(t:Int)))):=by
 obtain⟨n4,n2⟩:=h.n2;have ht:=h.t2;have hz0:(0:Int)%(t:Int)=0:=Int.zero_emod _;obtain⟨_,hx⟩:=hx;have h8:∀w' R,(aU w).holds R w'->za w' b v t n ins kb kc us:=λw' R hb=>⟨h.at_.later hb,h.aA,h.n2,h.t2,aH hb h.xm,λu hu=>⟨(h.aF u hu).1.later hb,(h.aF u hu).2⟩,aH hb h.tO,λy hy=>⟨(h.inputs y hy).1.later hb,(h.inputs y hy).2⟩,aH hb h.xh,λu hu=>(h.alY u hu).later hb,h.mat,aH hb h.Ck,λu hu=>⟨aH hb (h.known u hu).1,(h.known u hu).2⟩⟩;rcases hx with(⟨ho,_,_,k0,k1⟩|⟨ho,_,_,k0,k1⟩)|⟨ho,⟨a0,a1⟩,⟨b0,b1⟩,_⟩|⟨ho,⟨a0,a1⟩,_,k0,k1⟩|⟨ho,⟨a0,a1⟩,_,k0,k1⟩
 ·
  obtain⟨y,u,hy,hu,e⟩:=afo h (k:=x.k.toNat) aa;have hz:(rR (v.aF.l.map ax.xs) (xh n (v.inputs.map nN.pl) (ins.l.map ax.xs)) acc x).map (λz:Int=>z%(t:Int))=bU n y.aA.xs λe=>u.xs.getD e 0%(t:Int):=by
   unfold rR;rw[if_pos ho,e];exact Zp hz0 _ _ _
  rw[hz];refine fH Tryz.func46 [.c (.pointer (some ⟨b,0,none⟩)),.agg [aC x.op,aC x.KD,aC x.a,aC x.b,aC x.k]] ?_;repeat' ((conv=>whnf)<;>first|refine bn ?_|(show aJ _ 97 ..;refine jy Tryz.call97 1 59 (λ_:Unit=>eT (bU n y.aA.xs λe=>u.xs.getD e 0%(t:Int))) (λ_=>True) (λρ w' hw=>((Zb (ae hw λR hR=>h8 w' R hR) x aa hy hu).mono λe w2 he=>⟨(),trivial,he⟩)) (λ_ _=> ?_))|refine bV ?_)
  all_goals(conv=>whnf)
  all_goals exact gT (λ_ _ h=>h) rfl YV rfl
 ·
  obtain⟨u,hu,e,eu⟩:=Vx h (k:=x.k.toNat) aa;have hz:(rR (v.aF.l.map ax.xs) (xh n (v.inputs.map nN.pl) (ins.l.map ax.xs)) acc x).map (λz:Int=>z%(t:Int))=(List.range n).map λk=>u.xs.getD k 0%(t:Int):=by
   unfold rR;rw[if_neg aa,if_pos ho,e];exact(DL eu (λz:Int=>z%(t:Int))).symm
  rw[hz];refine fH Tryz.func46 [.c (.pointer (some ⟨b,0,none⟩)),.agg [aC x.op,aC x.KD,aC x.a,aC x.b,aC x.k]] ?_;repeat' ((conv=>whnf)<;>first|refine bn ?_|(show aJ _ 96 ..;refine jy Tryz.call96 1 59 (λ_:Unit=>eT ((List.range n).map λk=>u.xs.getD k 0%(t:Int))) (λ_=>True) (λρ w' hw=>((FQ (ae hw λR hR=>h8 w' R hR) x (k:=x.k.toNat) aa hu).mono λe w2 he=>⟨(),trivial,he⟩)) (λ_ _=> ?_))|refine bV ?_)
  all_goals(conv=>whnf)
  all_goals exact gT (λ_ _ h=>h) rfl YV rfl
 ·
  obtain⟨u,hu,eu,I4⟩:=Ip hacc hl (k:=x.a.toNat) aa;obtain⟨q,hq,eq,Tn⟩:=Ip hacc hl (k:=x.b.toNat) aa;have hkl:=(abH.1 hu).1;obtain⟨pa,Gm⟩:∃a,kb=some a:=aT (j:=x.a.toNat) h.Ck AX;rcases ho with ho|ho
  ·have hz:(rR (v.aF.l.map ax.xs) (xh n (v.inputs.map nN.pl) (ins.l.map ax.xs)) acc x).map (λz:Int=>z%(t:Int))=(List.range n).map λk=>(u.xs.getD k 0+q.xs.getD k 0)%(t:Int):=by
    unfold rR;rw[if_neg aa,if_neg aa,if_pos ho];exact(Xd eu eq I4 Tn).symm
   rw[hz];have agL:=λ(w':World) (hm:za w' b v t n ins kb kc us)=>Jy hm.at_ ⟨by omega,n2⟩ 95 (λx y=>(x+y)%(t:Int)) Tryz.call95 (λw' x y hx hy=>X7 w' x y t ht hx hy) u q (hm.words (adu hu)) (hm.words (adu hq));refine fH Tryz.func46 [.c (.pointer (some ⟨b,0,none⟩)),.agg [aC x.op,aC x.KD,aC x.a,aC x.b,aC x.k]] ?_;repeat' ((conv=>whnf)<;>first|refine bn ?_|refine zo ?_|refine zZ ?_|(show cO _ 15 ..;refine mV [] _ abO ?_)|refine OD ?_|(show aJ _ 101 ..;refine jy Tryz.call101 1 59 (λ_:Unit=>eT ((List.range n).map λk=>(u.xs.getD k 0+q.xs.getD k 0)%(t:Int))) (λ_=>True) (λρ w' hw=>((agL w' (ae hw λR hR=>h8 w' R hR)).mono λe w2 he=>⟨(),trivial,he⟩)) (λ_ _=> ?_))|refine bV ?_)
   all_goals(conv=>whnf)
   all_goals exact gT (λ_ _ h=>h) rfl YV rfl
  ·have hz:(rR (v.aF.l.map ax.xs) (xh n (v.inputs.map nN.pl) (ins.l.map ax.xs)) acc x).map (λz:Int=>z%(t:Int))=(List.range n).map λk=>(u.xs.getD k 0*q.xs.getD k 0)%(t:Int):=by
    unfold rR;rw[if_neg aa,if_neg aa,if_neg aa,if_neg aa,if_neg aa,if_pos ho];exact(Sg eu eq I4 Tn).symm
   rw[hz];have agL:=λ(w':World) (hm:za w' b v t n ins kb kc us)=>Jy hm.at_ ⟨by omega,n2⟩ 100 (λx y=>(x*y)%(t:Int)) Tryz.call100 (λw' x y hx hy=>VQ w' x y t ht hx hy) u q (hm.words (adu hu)) (hm.words (adu hq));refine fH Tryz.func46 [.c (.pointer (some ⟨b,0,none⟩)),.agg [aC x.op,aC x.KD,aC x.a,aC x.b,aC x.k]] ?_;repeat' ((conv=>whnf)<;>first|refine bn ?_|refine zo ?_|refine zZ ?_|(show cO _ 15 ..;refine mV [] _ abO ?_)|refine OD ?_|(show aJ _ 101 ..;refine jy Tryz.call101 1 59 (λ_:Unit=>eT ((List.range n).map λk=>(u.xs.getD k 0*q.xs.getD k 0)%(t:Int))) (λ_=>True) (λρ w' hw=>((agL w' (ae hw λR hR=>h8 w' R hR)).mono λe w2 he=>⟨(),trivial,he⟩)) (λ_ _=> ?_))|refine bV ?_)
   all_goals(conv=>whnf)
   all_goals exact gT (λ_ _ h=>h) rfl YV rfl
 ·
  obtain⟨u,hu,eu,I4⟩:=Ip hacc hl (k:=x.a.toNat) aa;obtain⟨q,hq,eq,Tn⟩:=Vx h (k:=x.k.toNat) aa;have hkl:=(abH.1 hu).1;obtain⟨pa,Gm⟩:∃a,kb=some a:=aT (j:=x.a.toNat) h.Ck AX;rcases ho with ho|ho
  ·have hz:(rR (v.aF.l.map ax.xs) (xh n (v.inputs.map nN.pl) (ins.l.map ax.xs)) acc x).map (λz:Int=>z%(t:Int))=(List.range n).map λk=>(u.xs.getD k 0+(q.xs.map (λz:Int=>z%(t:Int))).getD k 0)%(t:Int):=by
    unfold rR;rw[if_neg aa,if_neg aa,if_neg aa,if_pos ho,eq];exact(Xd eu rfl I4 Tn).symm
   rw[hz];refine fH Tryz.func46 [.c (.pointer (some ⟨b,0,none⟩)),.agg [aC x.op,aC x.KD,aC x.a,aC x.b,aC x.k]] ?_;repeat' ((conv=>whnf)<;>first|refine bn ?_|refine zo ?_|refine zZ ?_|(show cO _ 15 ..;refine mV [] _ abO ?_)|(show aJ _ 96 ..;(refine jy Tryz.call96 1 59 (λ_:Unit=>eT (q.xs.map (λz:Int=>z%(t:Int)))) (λ_=>True) (λρ w' hw=>((FQ (ae hw λR hR=>h8 w' R hR) x (k:=x.k.toNat) aa hq).mono λe w2 he=>⟨(),trivial,by rw[DL Tn (λz:Int=>z%(t:Int))]at he;exact he⟩)) (λ_ _=> ?_)))|(show aJ _ 101 ..;(refine jy Tryz.call101 1 59 (λ_:Unit=>eT ((List.range n).map λk=>(u.xs.getD k 0+(q.xs.map (λz:Int=>z%(t:Int))).getD k 0)%(t:Int))) (λ_=>True) (λρ w' hw=>((Wv h.at_ ⟨by omega,n2⟩ 95 (λx y=>(x+y)%(t:Int)) Tryz.call95 (λw' x y hx hy=>X7 w' x y t ht hx hy) u (h.words (adu hu)) (by rw[aas,Tn]) (Ug ht.1) hw (λ_ _ hR=>hR) (T:=59) (xs:=q.xs.map (λz:Int=>z%(t:Int))) aj (eG _)).mono λe w2 he=>⟨(),trivial,he⟩)) (λ_ _=> ?_)))|refine bV ?_)
   all_goals(conv=>whnf)
   all_goals exact gT (λ_ _ h=>h) rfl YV rfl
  ·have hz:(rR (v.aF.l.map ax.xs) (xh n (v.inputs.map nN.pl) (ins.l.map ax.xs)) acc x).map (λz:Int=>z%(t:Int))=(List.range n).map λk=>(u.xs.getD k 0*(q.xs.map (λz:Int=>z%(t:Int))).getD k 0)%(t:Int):=by
    unfold rR;rw[if_neg aa,if_neg aa,if_neg aa,if_neg aa,if_pos ho,eq];exact(Sg eu rfl I4 Tn).symm
   rw[hz];refine fH Tryz.func46 [.c (.pointer (some ⟨b,0,none⟩)),.agg [aC x.op,aC x.KD,aC x.a,aC x.b,aC x.k]] ?_;repeat' ((conv=>whnf)<;>first|refine bn ?_|refine zo ?_|refine zZ ?_|(show cO _ 15 ..;refine mV [] _ abO ?_)|(show aJ _ 96 ..;(refine jy Tryz.call96 1 59 (λ_:Unit=>eT (q.xs.map (λz:Int=>z%(t:Int)))) (λ_=>True) (λρ w' hw=>((FQ (ae hw λR hR=>h8 w' R hR) x (k:=x.k.toNat) aa hq).mono λe w2 he=>⟨(),trivial,by rw[DL Tn (λz:Int=>z%(t:Int))]at he;exact he⟩)) (λ_ _=> ?_)))|(show aJ _ 101 ..;(refine jy Tryz.call101 1 59 (λ_:Unit=>eT ((List.range n).map λk=>(u.xs.getD k 0*(q.xs.map (λz:Int=>z%(t:Int))).getD k 0)%(t:Int))) (λ_=>True) (λρ w' hw=>((Wv h.at_ ⟨by omega,n2⟩ 100 (λx y=>(x*y)%(t:Int)) Tryz.call100 (λw' x y hx hy=>VQ w' x y t ht hx hy) u (h.words (adu hu)) (by rw[aas,Tn]) (Ug ht.1) hw (λ_ _ hR=>hR) (T:=59) (xs:=q.xs.map (λz:Int=>z%(t:Int))) aj (eG _)).mono λe w2 he=>⟨(),trivial,he⟩)) (λ_ _=> ?_)))|refine bV ?_)
   all_goals(conv=>whnf)
   all_goals exact gT (λ_ _ h=>h) rfl YV rfl
 ·
  obtain⟨u,hu,e,eu⟩:=Ip hacc hl (k:=x.a.toNat) aa;have hz:(rR (v.aF.l.map ax.xs) (xh n (v.inputs.map nN.pl) (ins.l.map ax.xs)) acc x).map (λz:Int=>z%(t:Int))=w9 x.k.toNat u.xs:=by
   unfold rR;rw[if_neg aa,if_neg aa,if_neg aa,if_neg aa,if_neg aa,if_neg aa,e];simp[w9,anY,List.map_take]
  rw[hz];refine fH Tryz.func46 [.c (.pointer (some ⟨b,0,none⟩)),.agg [aC x.op,aC x.KD,aC x.a,aC x.b,aC x.k]] ?_;repeat' ((conv=>whnf)<;>first|refine bn ?_|(show aJ _ 98 ..;refine jy Tryz.call98 1 59 (λ_:Unit=>eT (w9 x.k.toNat u.xs)) (λ_=>True) (λρ w' hw=>((acr (ae hw λR hR=>h8 w' R hR) x (j:=x.a.toNat) (k:=x.k.toNat) aa aa ⟨by omega,by omega⟩ hu).mono λe w2 he=>⟨(),trivial,he⟩)) (λ_ _=> ?_))|refine bV ?_)
  all_goals(conv=>whnf)
  all_goals exact gT (λ_ _ h=>h) rfl YV rfl
end
end Go.Proofs.YtgndjjdeopfdkaaGreat

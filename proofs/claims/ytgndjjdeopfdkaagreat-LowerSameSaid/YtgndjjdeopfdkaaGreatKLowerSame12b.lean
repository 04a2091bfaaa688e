import Derived.Test.YtgndjjdeopfdkaaGreatKLowerSame12a
/- texts WJ VA of the proof of LowerSameSaid -/
set_option maxHeartbeats 16000000
set_option maxRecDepth 20000
set_option linter.unusedVariables false
set_option linter.unusedSimpArgs false
namespace Go.Proofs.YtgndjjdeopfdkaaGreat
open Go.SX Go.RowKit
section
abbrev abO:DT:=(bS [0,1,2,3,4,5,6,7,8,9,10,12,111,113,14] .done)
theorem YA(n:Nat):∀{I:List BZ} {V:List (List Int)} {k:Nat} {x:BZ} {y:List Int},I[k]? =some x->V[k]? =some y->(xh n I V).getD k []=bU n x.aA λe=>y.getD e 0
 |[],_,_,_,_,h,_=>by simp at h
 |_::_,[],_,_,_,_,h=>by simp at h
 |p::I,q::V,0,x,y,h1,h2=>by
  obtain rfl:p=x:=by simpa using h1
  obtain rfl:q=y:=by simpa using h2
  rfl
 |p::I,q::V,k+1,x,y,h1,h2=>YA n (I:=I) (V:=V) (by simpa using h1) (by simpa using h2)
section
variable {w:World} {b:Nat} {v:l7} {t n:Nat} {ins:aY} {kb:Option Addr} {kc:Nat} {us:List ax} {acc:List (List Int)}
variable {k:Nat}
theorem Ip(hacc:us.map ax.xs=acc.map (List.map (λz:Int=>z%(t:Int))))(hl:∀r∈acc,r.length=n)(hk:k<us.length):∃u,us[k]? =some u/\u.xs=(acc.getD k []).map (λz:Int=>z%(t:Int))/\(acc.getD k []).length=n:=by
 have hal:acc.length=us.length:=by have:=congrArg List.length hacc;simpa using this.symm
 have e:=congrArg (λl:List (List Int)=>l[k]?) hacc
 simp only[List.getElem?_map,List.getElem?_eq_getElem hk,List.getElem?_eq_getElem (show k<acc.length by omega),Option.map_some,Option.some.injEq]at e
 have g:acc.getD k []=acc[k]:=by rw[List.getD_eq_getElem?_getD,List.getElem?_eq_getElem (show k<acc.length by omega)];rfl
 exact⟨us[k],List.getElem?_eq_getElem hk,by rw[g];exact e,by rw[g];exact hl _ (List.getElem_mem _)⟩
theorem Vx(h:za w b v t n ins kb kc us)(hk:k<v.aF.l.length):∃u,v.aF.l[k]? =some u/\(v.aF.l.map ax.xs).getD k []=u.xs/\u.xs.length=n:=by
 refine⟨v.aF.l[k],List.getElem?_eq_getElem hk,?_,(h.aF _ (List.getElem_mem hk)).2⟩
 rw[List.getD_eq_getElem?_getD,List.getElem?_map,List.getElem?_eq_getElem hk];rfl
theorem afo(h:za w b v t n ins kb kc us)(hk:k<v.inputs.length):∃y u,v.inputs[k]? =some y/\ins.l[k]? =some u/\(xh n (v.inputs.map nN.pl) (ins.l.map ax.xs)).getD k []=bU n y.aA.xs λe=>u.xs.getD e 0:=by
 have hl:=h.mat.len
 rw[List.length_map,List.length_map]at hl
 refine⟨v.inputs[k],ins.l[k],List.getElem?_eq_getElem hk,List.getElem?_eq_getElem aa,?_⟩
 exact YA n (x:=v.inputs[k].pl) (y:=ins.l[k].xs) (by rw[List.getElem?_map,List.getElem?_eq_getElem hk];rfl) (by rw[List.getElem?_map,List.getElem?_eq_getElem aa];rfl)
end
variable {ρ:Nat->SX.Loc} {nx i m:Nat} {H:Heap} {S:bR} {T:TypeId} {xs:List Int}
theorem adO{B:Base}{w:World}(hw:dO B ρ nx H S w)(he:(i,b_.rows (eT xs) 1 T)∈H)(hm:m=xs.length):∃u:ax,u.xs=xs/\(SV.os i m).rf ρ=u.val/\bE w u.base 1 (eT u.xs)/\u.xs.length<=u.cap:=by
 subst hm
 have hr:=eZ hw he
 obtain⟨R,φ,hw⟩:=hw
 have hcap:=(hw.jA _ he).2.1
 exact⟨⟨(ρ i).base,(ρ i).cap,xs⟩,rfl,rfl,hr,by simpa[eG]using hcap⟩
variable {q:List Int}
theorem Xd{p P Q:List Int}{n t:Nat}(hp:p=P.map (λz:Int=>z%(t:Int)))(hq:q=Q.map (λz:Int=>z%(t:Int)))(hP:P.length=n)(hQ:Q.length=n):((List.range n).map λk=>(p.getD k 0+q.getD k 0)%(t:Int))=(Km P Q).map (λz:Int=>z%(t:Int)):=by
 subst hp hq
 rw[show Km P Q=List.zipWith (·+·) P Q from rfl,<-zip_map hP hQ]
 refine List.map_congr_left λk _=> ?_
 rw[zb (g:=(λz:Int=>z%(t:Int))) (Int.zero_emod _),zb (g:=(λz:Int=>z%(t:Int))) (Int.zero_emod _)]
 exact aft _ _ _
theorem Sg{p P Q:List Int}{n t:Nat}(hp:p=P.map (λz:Int=>z%(t:Int)))(hq:q=Q.map (λz:Int=>z%(t:Int)))(hP:P.length=n)(hQ:Q.length=n):((List.range n).map λk=>(p.getD k 0*q.getD k 0)%(t:Int))=(mulR P Q).map (λz:Int=>z%(t:Int)):=by
 subst hp hq
 rw[show mulR P Q=List.zipWith (·*·) P Q from rfl,<-zip_map hP hQ]
 refine List.map_congr_left λk _=> ?_
 rw[zb (g:=(λz:Int=>z%(t:Int))) (Int.zero_emod _),zb (g:=(λz:Int=>z%(t:Int))) (Int.zero_emod _)]
 exact afd _ _ _
theorem Ug{l:List Int}{t:Nat}(ht:0<t):∀x∈l.map (λz:Int=>z%(t:Int)),0<=x/\x<t:=λx hx=>by
 obtain⟨z,_,rfl⟩:=List.mem_map.1 hx
 exact⟨Int.emod_nonneg _ aa,Int.emod_lt_of_pos _ aa⟩
theorem Wv{w:World}{b:Nat}{v:l7}{t n:Nat}{ins:aY}{kv:Value}(hm:r_ v t ins kv b w)(hn2:0<n/\n<=2048)(F:FuncId)(f:Int->Int->Int)(hF:∀ar w,(callFunc F ar).run Tryz.prog w= .ok (.enter F ar) w)
 (hf:∀(w':World) (x y:Int),(0<=x/\x<t)->(0<=y/\y<t)->Calls Tryz.prog F #[.int .u64 x,.int .u64 y,.int .u64 t] w' λe w''=>e= .returned (.int .u64 (f x y))/\Ext w' w'') (p:ax) (hp:zL w p t n) (hx:xs.length=n) (hb:∀x∈xs,0<=x/\x<t)
 {w':World} (hw:dO ⟨w,[]⟩ ρ nx H S w') (hS:∀R w',S.holds R w'->(aU w).holds R w') (he:(i,b_.rows (eT xs) 1 T)∈H) (hmm:m=xs.length):
 Calls Tryz.prog 101 (SV.dW ρ [.c (.pointer (some ⟨b,0,none⟩)),.c p.val,.os i m,.c (.func (.func F) #[] #[])]).toArray w' (og w' ((List.range n).map λk=>f (p.xs.getD k 0) (xs.getD k 0))):=by
 obtain⟨r,rfl,r2,r3,r4⟩:=adO hw he hmm
 have hc:=Jy (ae hw λR hR=>hm.later (hS R w' hR)) hn2 F f hF hf p r (ae hw λR hR=>hp.later (hS R w' hR)) ⟨r3,r4,hx,hb⟩
 rw[<-r2]at hc
 exact hc
theorem ac8{w:World}{b:Nat}{v:l7}{t n:Nat}{ins:aY}{kb:Option Addr}{kc:Nat}{us:List ax}(h:za w b v t n ins kb kc us)(x:jf)(hx:xk n v.aF.l.length v.inputs.length us.length x){acc:List (List Int)}(hacc:us.map ax.xs=acc.map (List.map (λz:Int=>z%(t:Int))))(hl:∀r∈acc,r.length=n):
 Calls Tryz.prog 46 #[.pointer (some ⟨b,0,none⟩),Wm x] w (og w ((rR (v.aF.l.map ax.xs) (xh n (v.inputs.map nN.pl) (ins.l.map ax.xs)) acc x).map (λz:Int=>z%(t:Int)))):=by
 obtain⟨n4,n2⟩:=h.n2
 have ht:=h.t2
 have hz0:(0:Int)%(t:Int)=0:=Int.zero_emod _
 obtain⟨_,hx⟩:=hx
 have h8:∀w' R,(aU w).holds R w'->za w' b v t n ins kb kc us:=λw' R hb=>⟨h.at_.later hb,h.aA,h.n2,h.t2,aH hb h.xm,λu hu=>⟨(h.aF u hu).1.later hb,(h.aF u hu).2⟩,aH hb h.tO,λy hy=>⟨(h.inputs y hy).1.later hb,(h.inputs y hy).2⟩,aH hb h.xh,λu hu=>(h.alY u hu).later hb,h.mat,aH hb h.Ck,λu hu=>⟨aH hb (h.known u hu).1,(h.known u hu).2⟩⟩
 rcases hx with(⟨ho,_,_,k0,k1⟩|⟨ho,_,_,k0,k1⟩)|⟨ho,⟨a0,a1⟩,⟨b0,b1⟩,_⟩|⟨ho,⟨a0,a1⟩,_,k0,k1⟩|⟨ho,⟨a0,a1⟩,_,k0,k1⟩
 ·
  obtain⟨y,u,hy,hu,e⟩:=afo h (k:=x.k.toNat) aa
  have hz:(rR (v.aF.l.map ax.xs) (xh n (v.inputs.map nN.pl) (ins.l.map ax.xs)) acc x).map (λz:Int=>z%(t:Int))=bU n y.aA.xs λe=>u.xs.getD e 0%(t:Int):=by
   unfold rR;rw[if_pos ho,e];exact Zp hz0 _ _ _
  rw[hz]
  refine fH Tryz.func46 [.c (.pointer (some ⟨b,0,none⟩)),.agg [aC x.op,aC x.KD,aC x.a,aC x.b,aC x.k]] ?_
  repeat' ((conv=>whnf)<;>first|refine bn ?_|(show aJ _ 97 ..;refine jy Tryz.call97 1 59 (λ_:Unit=>eT (bU n y.aA.xs λe=>u.xs.getD e 0%(t:Int))) (λ_=>True) (λρ w' hw=>((Zb (ae hw λR hR=>h8 w' R hR) x aa hy hu).mono λe w2 he=>⟨(),trivial,he⟩)) (λ_ _=> ?_))|refine bV ?_)
  all_goals(conv=>whnf)
  all_goals exact gT (λ_ _ h=>h) rfl List.mem_cons_self rfl
 ·
  obtain⟨u,hu,e,eu⟩:=Vx h (k:=x.k.toNat) aa
  have hz:(rR (v.aF.l.map ax.xs) (xh n (v.inputs.map nN.pl) (ins.l.map ax.xs)) acc x).map (λz:Int=>z%(t:Int))=(List.range n).map λk=>u.xs.getD k 0%(t:Int):=by
   unfold rR;rw[if_neg aa,if_pos ho,e];exact(DL eu (λz:Int=>z%(t:Int))).symm
  rw[hz]
  refine fH Tryz.func46 [.c (.pointer (some ⟨b,0,none⟩)),.agg [aC x.op,aC x.KD,aC x.a,aC x.b,aC x.k]] ?_
  repeat' ((conv=>whnf)<;>first|refine bn ?_|(show aJ _ 96 ..;refine jy Tryz.call96 1 59 (λ_:Unit=>eT ((List.range n).map λk=>u.xs.getD k 0%(t:Int))) (λ_=>True) (λρ w' hw=>((FQ (ae hw λR hR=>h8 w' R hR) x (k:=x.k.toNat) aa hu).mono λe w2 he=>⟨(),trivial,he⟩)) (λ_ _=> ?_))|refine bV ?_)
  all_goals(conv=>whnf)
  all_goals exact gT (λ_ _ h=>h) rfl List.mem_cons_self rfl
 ·
  obtain⟨u,hu,eu,I4⟩:=Ip hacc hl (k:=x.a.toNat) aa
  obtain⟨q,hq,eq,Tn⟩:=Ip hacc hl (k:=x.b.toNat) aa
  have hkl:=(List.getElem?_eq_some_iff.1 hu).1
  obtain⟨pa,Gm⟩:∃a,kb=some a:=aT (j:=x.a.toNat) h.Ck AX
  rcases ho with ho|ho
  ·have hz:(rR (v.aF.l.map ax.xs) (xh n (v.inputs.map nN.pl) (ins.l.map ax.xs)) acc x).map (λz:Int=>z%(t:Int))=(List.range n).map λk=>(u.xs.getD k 0+q.xs.getD k 0)%(t:Int):=by
    unfold rR;rw[if_neg aa,if_neg aa,if_pos ho];exact(Xd eu eq I4 Tn).symm
   rw[hz]
   have agL:=λ(w':World) (hm:za w' b v t n ins kb kc us)=>Jy hm.at_ ⟨by omega,n2⟩ 95 (λx y=>(x+y)%(t:Int)) Tryz.call95 (λw' x y hx hy=>X7 w' x y t ht hx hy) u q (hm.words (List.mem_of_getElem? hu)) (hm.words (List.mem_of_getElem? hq))
   refine fH Tryz.func46 [.c (.pointer (some ⟨b,0,none⟩)),.agg [aC x.op,aC x.KD,aC x.a,aC x.b,aC x.k]] ?_
   repeat' ((conv=>whnf)<;>first|refine bn ?_|refine zo ?_|refine zZ ?_|(show cO _ 15 ..;refine mV [] _ abO ?_)|refine OD ?_|(show aJ _ 101 ..;refine jy Tryz.call101 1 59 (λ_:Unit=>eT ((List.range n).map λk=>(u.xs.getD k 0+q.xs.getD k 0)%(t:Int))) (λ_=>True) (λρ w' hw=>((agL w' (ae hw λR hR=>h8 w' R hR)).mono λe w2 he=>⟨(),trivial,he⟩)) (λ_ _=> ?_))|refine bV ?_)
   all_goals(conv=>whnf)
   all_goals exact gT (λ_ _ h=>h) rfl List.mem_cons_self rfl
  ·have hz:(rR (v.aF.l.map ax.xs) (xh n (v.inputs.map nN.pl) (ins.l.map ax.xs)) acc x).map (λz:Int=>z%(t:Int))=(List.range n).map λk=>(u.xs.getD k 0*q.xs.getD k 0)%(t:Int):=by
    unfold rR;rw[if_neg aa,if_neg aa,if_neg aa,if_neg aa,if_neg aa,if_pos ho];exact(Sg eu eq I4 Tn).symm
   rw[hz]
   have agL:=λ(w':World) (hm:za w' b v t n ins kb kc us)=>Jy hm.at_ ⟨by omega,n2⟩ 100 (λx y=>(x*y)%(t:Int)) Tryz.call100 (λw' x y hx hy=>VQ w' x y t ht hx hy) u q (hm.words (List.mem_of_getElem? hu)) (hm.words (List.mem_of_getElem? hq))
   refine fH Tryz.func46 [.c (.pointer (some ⟨b,0,none⟩)),.agg [aC x.op,aC x.KD,aC x.a,aC x.b,aC x.k]] ?_
   repeat' ((conv=>whnf)<;>first|refine bn ?_|refine zo ?_|refine zZ ?_|(show cO _ 15 ..;refine mV [] _ abO ?_)|refine OD ?_|(show aJ _ 101 ..;refine jy Tryz.call101 1 59 (λ_:Unit=>eT ((List.range n).map λk=>(u.xs.getD k 0*q.xs.getD k 0)%(t:Int))) (λ_=>True) (λρ w' hw=>((agL w' (ae hw λR hR=>h8 w' R hR)).mono λe w2 he=>⟨(),trivial,he⟩)) (λ_ _=> ?_))|refine bV ?_)
   all_goals(conv=>whnf)
   all_goals exact gT (λ_ _ h=>h) rfl List.mem_cons_self rfl
 ·
  obtain⟨u,hu,eu,I4⟩:=Ip hacc hl (k:=x.a.toNat) aa
  obtain⟨q,hq,eq,Tn⟩:=Vx h (k:=x.k.toNat) aa
  have hkl:=(List.getElem?_eq_some_iff.1 hu).1
  obtain⟨pa,Gm⟩:∃a,kb=some a:=aT (j:=x.a.toNat) h.Ck AX
  rcases ho with ho|ho
  ·have hz:(rR (v.aF.l.map ax.xs) (xh n (v.inputs.map nN.pl) (ins.l.map ax.xs)) acc x).map (λz:Int=>z%(t:Int))=(List.range n).map λk=>(u.xs.getD k 0+(q.xs.map (λz:Int=>z%(t:Int))).getD k 0)%(t:Int):=by
    unfold rR;rw[if_neg aa,if_neg aa,if_neg aa,if_pos ho,eq];exact(Xd eu rfl I4 Tn).symm
   rw[hz]
   refine fH Tryz.func46 [.c (.pointer (some ⟨b,0,none⟩)),.agg [aC x.op,aC x.KD,aC x.a,aC x.b,aC x.k]] ?_
   repeat' ((conv=>whnf)<;>first|refine bn ?_|refine zo ?_|refine zZ ?_|(show cO _ 15 ..;refine mV [] _ abO ?_)|(show aJ _ 96 ..;(refine jy Tryz.call96 1 59 (λ_:Unit=>eT (q.xs.map (λz:Int=>z%(t:Int)))) (λ_=>True) (λρ w' hw=>((FQ (ae hw λR hR=>h8 w' R hR) x (k:=x.k.toNat) aa hq).mono λe w2 he=>⟨(),trivial,by rw[DL Tn (λz:Int=>z%(t:Int))]at he;exact he⟩)) (λ_ _=> ?_)))|(show aJ _ 101 ..;(refine jy Tryz.call101 1 59 (λ_:Unit=>eT ((List.range n).map λk=>(u.xs.getD k 0+(q.xs.map (λz:Int=>z%(t:Int))).getD k 0)%(t:Int))) (λ_=>True) (λρ w' hw=>((Wv h.at_ ⟨by omega,n2⟩ 95 (λx y=>(x+y)%(t:Int)) Tryz.call95 (λw' x y hx hy=>X7 w' x y t ht hx hy) u (h.words (List.mem_of_getElem? hu)) (by rw[List.length_map,Tn]) (Ug ht.1) hw (λ_ _ hR=>hR) (T:=59) (xs:=q.xs.map (λz:Int=>z%(t:Int))) aj (eG _)).mono λe w2 he=>⟨(),trivial,he⟩)) (λ_ _=> ?_)))|refine bV ?_)
   all_goals(conv=>whnf)
   all_goals exact gT (λ_ _ h=>h) rfl List.mem_cons_self rfl
  ·have hz:(rR (v.aF.l.map ax.xs) (xh n (v.inputs.map nN.pl) (ins.l.map ax.xs)) acc x).map (λz:Int=>z%(t:Int))=(List.range n).map λk=>(u.xs.getD k 0*(q.xs.map (λz:Int=>z%(t:Int))).getD k 0)%(t:Int):=by
    unfold rR;rw[if_neg aa,if_neg aa,if_neg aa,if_neg aa,if_pos ho,eq];exact(Sg eu rfl I4 Tn).symm
   rw[hz]
   refine fH Tryz.func46 [.c (.pointer (some ⟨b,0,none⟩)),.agg [aC x.op,aC x.KD,aC x.a,aC x.b,aC x.k]] ?_
   repeat' ((conv=>whnf)<;>first|refine bn ?_|refine zo ?_|refine zZ ?_|(show cO _ 15 ..;refine mV [] _ abO ?_)|(show aJ _ 96 ..;(refine jy Tryz.call96 1 59 (λ_:Unit=>eT (q.xs.map (λz:Int=>z%(t:Int)))) (λ_=>True) (λρ w' hw=>((FQ (ae hw λR hR=>h8 w' R hR) x (k:=x.k.toNat) aa hq).mono λe w2 he=>⟨(),trivial,by rw[DL Tn (λz:Int=>z%(t:Int))]at he;exact he⟩)) (λ_ _=> ?_)))|(show aJ _ 101 ..;(refine jy Tryz.call101 1 59 (λ_:Unit=>eT ((List.range n).map λk=>(u.xs.getD k 0*(q.xs.map (λz:Int=>z%(t:Int))).getD k 0)%(t:Int))) (λ_=>True) (λρ w' hw=>((Wv h.at_ ⟨by omega,n2⟩ 100 (λx y=>(x*y)%(t:Int)) Tryz.call100 (λw' x y hx hy=>VQ w' x y t ht hx hy) u (h.words (List.mem_of_getElem? hu)) (by rw[List.length_map,Tn]) (Ug ht.1) hw (λ_ _ hR=>hR) (T:=59) (xs:=q.xs.map (λz:Int=>z%(t:Int))) aj (eG _)).mono λe w2 he=>⟨(),trivial,he⟩)) (λ_ _=> ?_)))|refine bV ?_)
   all_goals(conv=>whnf)
   all_goals exact gT (λ_ _ h=>h) rfl List.mem_cons_self rfl
 ·
  obtain⟨u,hu,e,eu⟩:=Ip hacc hl (k:=x.a.toNat) aa
  have hz:(rR (v.aF.l.map ax.xs) (xh n (v.inputs.map nN.pl) (ins.l.map ax.xs)) acc x).map (λz:Int=>z%(t:Int))=w9 x.k.toNat u.xs:=by
   unfold rR;rw[if_neg aa,if_neg aa,if_neg aa,if_neg aa,if_neg aa,if_neg aa,e]
   simp[w9,List.map_drop,List.map_take]
  rw[hz]
  refine fH Tryz.func46 [.c (.pointer (some ⟨b,0,none⟩)),.agg [aC x.op,aC x.KD,aC x.a,aC x.b,aC x.k]] ?_
  repeat' ((conv=>whnf)<;>first|refine bn ?_|(show aJ _ 98 ..;refine jy Tryz.call98 1 59 (λ_:Unit=>eT (w9 x.k.toNat u.xs)) (λ_=>True) (λρ w' hw=>((acr (ae hw λR hR=>h8 w' R hR) x (j:=x.a.toNat) (k:=x.k.toNat) aa aa ⟨by omega,by omega⟩ hu).mono λe w2 he=>⟨(),trivial,he⟩)) (λ_ _=> ?_))|refine bV ?_)
  all_goals(conv=>whnf)
  all_goals exact gT (λ_ _ h=>h) rfl List.mem_cons_self rfl
end
end Go.Proofs.YtgndjjdeopfdkaaGreat

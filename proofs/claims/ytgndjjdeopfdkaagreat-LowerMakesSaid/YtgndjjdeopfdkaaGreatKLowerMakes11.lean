import Derived.Test.YtgndjjdeopfdkaaGreatKLowerMakes10
/- texts UC UH of the proof of LowerMakesSaid -/
set_option maxHeartbeats 16000000
set_option maxRecDepth 20000
set_option linter.unusedVariables false
set_option linter.unusedSimpArgs false
namespace Go.Proofs.YtgndjjdeopfdkaaGreat
open Go.SX Go.RowKit
abbrev amf:DT:=(eY [0,1,2,3,4,5,6,7,8,109,110,111,12] .done)
abbrev H8(w:World)(ρ:Nat->SX.Loc)(F:Nat->Prop)(c:dN)(s:dw)(r:fE×Int):=v_ w ρ F (λx:dw×Int=>ax x.2) (λx=>lX c x.1) (λx=>DV s.aF x.1.aF) (λx=>x.1.pl=r.1/\x.2=r.2/\sJ c x.1)
def pO(M:List Int)(e:Nat):List Int:=M.take e++List.replicate (M.length-e) 0
theorem Jj(M:List Int):pO M 0=List.replicate M.length 0:=by simp[pO]
theorem Oo(M:List Int):pO M M.length=M:=by simp[pO]
theorem Dv{M:List Int}{e:Nat}(h:e<=M.length):(pO M e).length=M.length:=by
 unfold pO
 rw[List.length_append,List.length_take,List.length_replicate];omega
theorem Px{M:List Int}{e:Nat}(h:e<M.length):(pO M e).set e (M.getD e 0)=pO M (e+1):=by
 unfold pO
 have e1:M.length-e=(M.length-(e+1))+1:=by omega
 have e2:M.getD e 0=M[e]:=by rw[List.getD_eq_getElem?_getD,List.getElem?_eq_getElem h];rfl
 have e3:(M.take e).length=e:=by rw[List.length_take];omega
 rw[e1,List.replicate_succ,List.set_append,if_neg aa,e3,Nat.sub_self,List.set_cons_zero,e2,List.take_succ_eq_append_getElem h,List.append_assoc]
 rfl
theorem Rc{n base:Nat}{d:List Int}(hd:d.length=n)(hb:base<=n):(jH n base d).length=n:=by
 unfold jH
 rw[List.length_append,List.length_drop,List.length_take];omega
theorem Z9{n base e:Nat}{d:List Int}(hd:d.length=n)(hb:base<n)(he:e<n):d.getD ((e+n-base)%n) 0=(jH n base d).getD e 0:=by
 unfold jH
 rw[List.getD_eq_getElem?_getD,List.getD_eq_getElem?_getD]
 congr 1
 by_cases h:e<base
 ·rw[List.getElem?_append_left ady,List.getElem?_drop,Nat.mod_eq_of_lt aa]
  congr 1;omega
 ·rw[List.getElem?_append_right ady,List.length_drop,List.getElem?_take,if_pos aa]
  have e1:e+n-base=(e-base)+n:=by omega
  rw[e1,Nat.add_mod_right,Nat.mod_eq_of_lt aa]
  congr 1;omega
structure MF(n:Nat)(t:Int->Option Int)(bl:List Int):Prop where
 len:bl.length=n
 at_:∀i:Nat,i<n->bl.getD i 0=yw (t i)
theorem FN(l:List Int)(i:Nat)(v:Int)(j:Nat)(hi:i<l.length):(l.set i v).getD j 0=if i=j then v else l.getD j 0:=by
 rw[List.getD_eq_getElem?_getD,List.getD_eq_getElem?_getD,List.getElem?_set]
 by_cases h:i=j
 ·rw[if_pos h,if_pos h,if_pos aa];rfl
 ·rw[if_neg h,if_neg h]
theorem MF.start{n:Nat}(hn:1<=n)(x:Int):MF n (mU x) ((List.replicate n (-1)).set 0 x):=by
 refine⟨by simp,λi hi=> ?_⟩
 rw[FN _ _ _ _ yL]
 unfold mU
 by_cases h:0=i
 ·subst h;rfl
 ·rw[if_neg h,if_neg aa,List.getD_eq_getElem?_getD,List.getElem?_replicate,if_pos hi];rfl
theorem MF.put{n:Nat}{t:Int->Option Int}{bl:List Int}(h:MF n t bl){i:Nat}(hi:i<n)(v:Int):MF n (λz=>if z=(i:Int)then some v else t z) (bl.set i v):=by
 refine⟨by rw[List.length_set];exact h.len,λj hj=> ?_⟩
 rw[FN _ _ _ _ (by rw[h.len];exact hi)]
 by_cases e:i=j
 ·subst e;rw[if_pos rfl,if_pos rfl];rfl
 ·rw[if_neg e,if_neg aa];exact h.at_ j hj
structure NonNeg(t:Int->Option Int)(m:Option Int):Prop where
 t:∀k a,t k=some a->0<=a
 m:∀a,m=some a->0<=a
theorem Dm{x:Int}(hx:0<=x):NonNeg (mU x) none:=by
 refine⟨λk a h=> ?_,λa h=>by cases h⟩
 unfold mU at h
 split at h
 ·simp only[Option.some.injEq]at h;omega
 ·cases h
theorem EN(s:dw)(t:Int->Option Int)(m:Option Int)(v:Int):Aj s t m v=⟨(p8 s m v).1,t,some (p8 s m v).2⟩:=by
 cases m<;>rfl
theorem sD{s:dw}{m:Option Int}{v:Int}(hv:0<=v):0<=(p8 s m v).2:=by
 cases m with
 |none=>exact hv
 |some a=>exact Int.natCast_nonneg _
theorem lJ.sum{c:dN}{k:Nat}{s:dw}(h:lJ c k s)(m:Option Int)(v:Int):lJ c (k+1) (p8 s m v).1:=by
 cases m with
 |none=>exact h.mono (Nat.le_succ _)
 |some a=>exact h.lay _ _ _ _
theorem su(s:dw)(m:Option Int)(v:Int):(p8 s m v).1.aF=s.aF:=by
 cases m<;>rfl
abbrev Ll(bl:List Int)(c:dN)(s:dw)(d i1 i2 i3:Nat):Heap:=(4,.rows (aN bl) 1 3)::Fh c s d i1 i2 i3
abbrev aeM(w:World)(ρ:Nat->SX.Loc)(F:Nat->Prop)(c:dN)(s:dw)(r:fE×Int)(k:Nat)(env:Env)(H:Heap)(S:bN)(nx:Nat):Prop:=Wp ⟨Tryz.prog,⟨w,mI 1 ρ⟩,Tryz.f86.ntmps,tab⟩ (Nr k (bodyC Tryz.f86)) env H S nx (TK ⟨Tryz.prog,⟨w,mI 1 ρ⟩,Tryz.f86.ntmps,tab⟩ Tryz.f86.results.toList (H8 w ρ F c s r))
structure qN(c:dN)(s:dw)(x:Int)(d:a_):Prop where
 aj:1<=c.aj/\c.aj<=4096
 low:lJ c 500000 s
 x:0<=x
 len:d.l.length=c.aj
 each:∀u∈d.l,u.xs=[]\/u.xs.length=c.aj
 bq:∀u∈d.l,u.bq
theorem Pv(c:dN)(s:dw)(x:Int)(d:a_)(g:Nat)(hg1:1<=g)(hg4:g<=4096)(hgv:oK c.giant c.aj=g)(hN:qN c s x d)(w:World)(ρ:Nat->SX.Loc)(F:Nat->Prop):
 aeM w ρ F c s (jm c.aj c.giant s.pl x (d.l.map au.xs)) 5 [(0,.lp 0 0 0 0),(1,ax x),(11,.c d.val),(13,ax c.aj),(14,ax g)] (lX c s) (((dW s.aF).and (nM d)).and (gu w F)) 4:=by
 have hN0:=hN
 obtain⟨⟨hn1,hn2⟩,z00,hx0,hdl,hdn,hds⟩:=hN
 repeat' ((conv=>whnf)<;>first|refine Qd ?_|refine bn ?_)
 all_goals(conv=>whnf)
 have hml:(List.replicate c.aj (-1:Int)).length=c.aj:=List.length_replicate
 refine Wp.loop (σ:=Nat) 5 (λk=>[(0,.lp 0 0 0 0),(1,ax x),(11,.c d.val),(13,ax c.aj),(14,ax g),(15,.os 4 c.aj),(56,ax c.aj),(57,ax k)]) (λk=>(4,.rows (aN (pO (List.replicate c.aj (-1)) k)) 1 3)::lX c s) (λ_=>((dW s.aF).and (nM d)).and (gu w F)) (λk=>k<=c.aj) (λk=>c.aj-k) 0 [] aY (λe=>⟨rfl,Zz _ _ _ _⟩)
  (Nat.zero_le _) ⟨rfl,⟨rfl,rfl,rfl,rfl,rfl,rfl,rfl,rfl,trivial⟩,⟨?_,aU,aU,aU,aU,trivial⟩,λR w' h=>h⟩ ?_
 ·show(4,bZ.rows (aN (pO (List.replicate c.aj (-1)) 0)) 1 3)∈_
  rw[Jj,hml,<-xC]
  exact aU
 intro k hk
 by_cases hlt:k<c.aj
 ·have hfs:(pO (List.replicate c.aj (-1)) k).set k (-1)=pO (List.replicate c.aj (-1)) (k+1):=by
   rw[<-Px (by rw[hml];exact hlt)]
   congr 1
   rw[List.getD_eq_getElem?_getD,List.getElem?_replicate,if_pos hlt];rfl
  have hfl:(pO (List.replicate c.aj (-1)) k).length=c.aj:=by rw[Dv (by rw[hml];exact hk),hml]
  repeat' ((conv=>whnf)<;>first|(show di ..;(refine bg k rfl hlt agj ?_))|(show cO ..;(refine ints_set (by rw[hfl];exact hlt) ?_))|refine bn ?_|refine ag ?_ ?_<;>intro _)
  all_goals(conv=>whnf)
  exact⟨k+1,[],hlt,by omega,rfl,bM,⟨by rw[<-hfs];exact aU,aU,aU,aU,aU,trivial⟩,λR w' h=>h⟩
 obtain rfl:k=c.aj:=by omega
 have hfa:pO (List.replicate c.aj (-1)) c.aj=List.replicate c.aj (-1):=by have:=Oo (List.replicate c.aj (-1));rwa[hml]at this
 rw[hfa]
 clear hfa hlt hk
 repeat' ((conv=>whnf)<;>first|(show di ..;(refine bg 0 rfl hn1 (by rw[aJ,hml];exact Nat.le_refl _) ?_))|(show cO ..;(refine ints_set (by rw[hml];exact hn1) ?_))|refine bn ?_|refine ag ?_ ?_<;>intro _)
 all_goals(conv=>whnf)
 have hlen:=hN0.len
 obtain⟨Y,hY0⟩:∃Y,kI c.aj g x (d.l.map au.xs) c.aj (0*g) ⟨s.pl,mU x,none⟩=Y:=⟨_,rfl⟩
 refine Wp.loop (σ:=Nat×Nat×yN×List Int) 8 (λq=>[(0,.lp 0 0 0 0),(1,ax x),(11,.c d.val),(13,ax c.aj),(14,ax g),(15,.os 4 c.aj),(17,ax (yw q.2.2.1.m)),(18,ax q.1)]) (λq=>Ll q.2.2.2 c q.2.2.1.s 0 5 6 7) (λq=>X0 w F s d q.2.2.1.s)
  (λq=>kI c.aj g x (d.l.map au.xs) q.2.1 (q.1*g) q.2.2.1.pl=Y/\c.aj<=q.1*g+q.2.1/\q.1*g<=8192/\q.1<=8192/\lJ c (500000+6*(q.1*g)) q.2.2.1.s/\MF c.aj q.2.2.1.t q.2.2.2/\NonNeg q.2.2.1.t q.2.2.1.m) (λq=>c.aj-q.1*g) (0,c.aj,⟨s,mU x,none⟩,(List.replicate c.aj (-1)).set 0 x) [(5,some 1),(6,some 2),(7,some 3)] aY (λq=>⟨rfl,rfl⟩)
  ⟨hY0,by show c.aj<=0*g+c.aj;omega,by show 0*g<=_;omega,Nat.zero_le _,z00.mono aa,MF.start hn1 x,Dm hx0⟩
  ⟨rfl,⟨rfl,rfl,rfl,rfl,rfl,rfl,rfl,rfl,trivial⟩,bM,λR w' h=>⟨⟨⟨h.1.1,lQ _ _ _⟩,h.1.2⟩,h.2⟩⟩ ?_
 rintro⟨j,f,⟨ys,yt,ym⟩,bl⟩ ⟨hY,hf,hb8,hj8,z0,hB,hNN⟩
 simp only at hY hf hb8 hj8 z0 hB hNN
 obtain⟨base,hbase⟩:∃base,j*g=base:=⟨_,rfl⟩
 have hjg:(j:Int)*g=base:=by rw[<-hbase];push_cast;rfl
 rw[hbase]at hY hf hb8 z0
 by_cases hlt:base<c.aj
 ·obtain⟨f',rfl⟩:∃f',f=f'+1:=⟨f-1,by omega⟩
  rw[kI,if_pos hlt]at hY
  obtain⟨hi,hhi⟩:∃hi,hi=min c.aj (base+g):=⟨_,rfl⟩
  rw[<-hhi]at hY
  have hhi1:base<hi:=by omega
  have hhi2:hi<=c.aj:=by omega
  obtain⟨ds,akc⟩:∃ds:List au,(d.l.drop base).take (hi-base)=ds:=⟨_,rfl⟩
  have aof:ds.length=hi-base:=by rw[<-akc,List.length_take,List.length_drop];omega
  have aly:∀(i:Nat) (h:i<ds.length),∃h2:base+i<d.l.length,ds[i]=d.l[base+i]:=λi h=>by
   have h2:base+i<d.l.length:=by omega
   refine⟨h2,?_⟩
   subst akc
   rw[List.getElem_take,List.getElem_drop]
  obtain⟨Z,UX⟩:∃Z,m_ c.aj base x ((ds.drop 0).map au.xs) 0 ⟨ys.pl,yt,none⟩=Z:=⟨_,rfl⟩
  have RG:m_ c.aj base x (List.take (hi-base) (List.drop base (d.l.map au.xs))) 0 ⟨ys.pl,yt,none⟩=Z:=by rw[<-UX,<-akc];simp[List.map_drop,List.map_take]
  repeat' ((conv=>whnf)<;>first|refine J6 ?_|refine bn ?_|refine ag ?_ ?_<;>intro _)
  all_goals(conv=>whnf)
  refine Wp.loop (σ:=Nat×yN×List Int) 11 (λq=>[(0,.lp 0 0 0 0),(1,ax x),(11,.c d.val),(13,ax c.aj),(14,ax g),(15,.os 4 c.aj),(17,ax (yw ym)),(18,ax j),(19,ax (yw q.2.1.m)),(20,ax q.1)]) (λq=>Ll q.2.2 c q.2.1.s 0 8 9 10) (λq=>X0 w F s d q.2.1.s)
   (λq=>q.1<=ds.length/\m_ c.aj base x ((ds.drop q.1).map au.xs) q.1 q.2.1.pl=Z/\lJ c (500000+6*base+4*q.1) q.2.1.s/\MF c.aj q.2.1.t q.2.2/\NonNeg q.2.1.t q.2.1.m) (λq=>ds.length-q.1) (0,⟨ys,yt,none⟩,bl) [(8,some 5),(9,some 6),(10,some 7)] aY (λq=>⟨rfl,rfl⟩)
   ⟨Nat.zero_le _,UX,z0,hB,hNN.t,λa h=>by cases h⟩ ⟨rfl,⟨rfl,rfl,rfl,rfl,rfl,rfl,rfl,rfl,rfl,rfl,trivial⟩,bM,λR w' h=>h⟩ ?_
  clear UX z0 hB
  rintro⟨i,⟨zs,zt,zm⟩,bl2⟩ ⟨hil,hZ,z1,hB,hNZ⟩
  simp only at hil hZ z1 hB hNZ
  by_cases hlt2:i<ds.length
  ·rw[List.drop_eq_getElem_cons hlt2,List.map_cons,m_]at hZ
   obtain⟨hbi,anv⟩:=aly i hlt2
   have hrow:=dF hbi
   have vY:=List.getElem_mem hbi
   rw[anv]at hZ
   generalize d.l[base+i]=u at*
   have fI:=hds u vY
   refine Wp.know (p:=∃a,d.base=some a) (λρ w' hw=>ae hw λR h=>aP (j:=base+i) (aV h.1.2.1) (by rw[aW];exact hbi)) ?_
   rintro⟨da,hda⟩
   rcases hdn u vY with hx1|hxl
   ·rw[rG,if_pos hx1]at hZ
    have yJ:(u.xs.length:Int)=0:=by rw[hx1];rfl
    repeat' ((conv=>whnf)<;>first|refine J6 ?_|(show bV ..;refine aH da (base+i) hda aa hbi ?_)|refine aeB ?_|(show @eZ _ _ _;(first|refine cu yJ ?_|refine zW ?_|refine CB ?_))|refine bn ?_)
    all_goals(conv=>whnf)
    all_goals exact⟨(i+1,⟨zs,zt,zm⟩,bl2),[],⟨hlt2,hZ,z1.mono aik,hB,hNZ⟩,by show ds.length-(i+1)<ds.length-i;omega,rfl,bM,bM,λR w' h=>h⟩
   have ab4:u.xs≠[]:=λh=>by rw[h]at hxl;simp at hxl;omega
   have yJ:¬(u.xs.length:Int)=0:=by omega
   refine Wp.know (p:=∃a,u.base=some a) (λρ w' hw=>ae hw λR h=>aP (j:=0) (aV (h.1.2.2 u vY)) vK) ?_
   rintro⟨ua,jD⟩
   have hin:i<c.aj:=by omega
   have UT:=hB.at_ i hin
   have ajA:=hB.len
   rcases ht:zt i with _|t
   focus
    have UT:bl2.getD i 0= -1:=by rw[UT,ht];rfl
    iterate 7
     refine Wp.go bQ rfl ?_
     repeat' ((conv=>whnf)<;>first|refine J6 ?_|(show bV ..;refine aH da (base+i) hda aa hbi ?_)|refine aeB ?_|(show @eZ _ _ _;(first|refine dA yJ ?_|refine cu (show(-1:Int)<0 by decide) ?_|refine zW ?_))|(show di ..;(refine bg i rfl hin agk ?_))|(show mq ..;(refine Io aaM UT ?_))|(show cO ..;(refine ints_set aaM ?_))|(show aI _ 82 ..;(refine dR [(4,.rows (aN bl2) 1 3)] 0 8 9 10 c zs ed [.lp 0 0 0 0,ax 8,ax x,ax 0,ax i] _ _ _ _ Tryz.call82 rfl rfl rfl (λR w' h=>trivial) (dZ w F) (λR w' h b hb=>(h.2 b hb).1) (λw' ρ' F' h'=>mi c zs 8 x 0 i Um w' ρ' F' h') (λ_ _=> ?_))))
    obtain⟨a1,ha1⟩:∃a1:Int,(zs.code.length:Int)=a1:=⟨_,rfl⟩
    obtain⟨q1,hq1⟩:∃q1,dn zs 8 x 0 i=q1:=⟨_,rfl⟩
    obtain⟨t1,ht1⟩:∃t1:Int->Option Int,(λz=>if z=(i:Int)then some a1 else zt z)=t1:=⟨_,rfl⟩
    obtain⟨Sj,Ut⟩:∃Sj,bl2.set i a1=Sj:=⟨_,rfl⟩
    have hT:tK zs zt x i=(q1,t1,a1):=by unfold tK;rw[ht,<-ht1,<-hq1,<-ha1]
    have ha0:0<=a1:=by rw[<-ha1];exact Int.natCast_nonneg _
    have hB3:MF c.aj t1 Sj:=by rw[<-ht1,<-Ut];exact hB.put hin _
    have hb3:Sj.getD i 0=a1:=by rw[<-Ut,FN _ _ _ _ aaM,if_pos rfl]
    have hN3:NonNeg t1 zm:=⟨λk a h=>by rw[<-ht1]at h;dsimp only at h;split at h;(simp only[Option.some.injEq]at h;omega);exact hNZ.t k a h,hNZ.m⟩
    have z2:lJ c (500000+6*base+4*i+1) q1:=by rw[<-hq1];exact z1.lay _ _ _ _
    refine Wp.into 18 [(15,some 12),(16,some 13),(17,some 14)] (show Wp _ _ ([(0,.lp 0 0 0 0),(1,ax x),(11,.c d.val),(13,ax c.aj),(14,ax g),(15,.os 4 c.aj),(17,ax (yw ym)),(18,ax j),(19,ax (yw zm)),(20,ax i),(21,.c u.val)]) (Ll Sj c q1 0 15 16 17) (X0 w F s d q1) 18 _ from ?_) aY ⟨rfl,rfl⟩ ⟨rfl,⟨rfl,rfl,rfl,rfl,rfl,rfl,rfl,rfl,rfl,rfl,rfl,trivial⟩,⟨by rw[<-Ut,<-ha1];exact aU,by rw[<-hq1];exact aU,by rw[<-hq1];exact aU,by rw[<-hq1];exact aU,by rw[<-hq1];exact aU,trivial⟩,λR w' h=>by rw[<-hq1];exact h.1⟩
   rotate_left
   focus
    have ht0:=hNZ.t i t ht
    have UT:bl2.getD i 0=t:=by rw[UT,ht];rfl
    iterate 7
     refine Wp.go bQ rfl ?_
     repeat' ((conv=>whnf)<;>first|refine J6 ?_|(show bV ..;refine aH da (base+i) hda aa hbi ?_)|refine aeB ?_|(show @eZ _ _ _;(first|refine dA yJ ?_|refine dA (show¬t<0 by omega) ?_|refine zW ?_))|(show di ..;(refine bg i rfl hin agk ?_))|(show mq ..;(refine Io aaM UT ?_)))
    obtain⟨a1,ha1⟩:∃a1:Int,t=a1:=⟨_,rfl⟩
    obtain⟨q1,hq1⟩:∃q1,zs=q1:=⟨_,rfl⟩
    obtain⟨t1,ht1⟩:∃t1,zt=t1:=⟨_,rfl⟩
    obtain⟨Sj,Ut⟩:∃Sj,bl2=Sj:=⟨_,rfl⟩
    have hT:tK zs zt x i=(q1,t1,a1):=by unfold tK;rw[ht,<-ht1,<-hq1,<-ha1]
    have ha0:0<=a1:=by rw[<-ha1];exact ht0
    have hB3:MF c.aj t1 Sj:=by rw[<-ht1,<-Ut];exact hB
    have hb3:Sj.getD i 0=a1:=by rw[<-Ut,<-ha1];exact UT
    have hN3:NonNeg t1 zm:=by rw[<-ht1];exact hNZ
    have z2:lJ c (500000+6*base+4*i+1) q1:=by rw[<-hq1];exact z1.mono (Nat.le_succ _)
    refine Wp.into 18 [(15,some 8),(16,some 9),(17,some 10)] (show Wp _ _ ([(0,.lp 0 0 0 0),(1,ax x),(11,.c d.val),(13,ax c.aj),(14,ax g),(15,.os 4 c.aj),(17,ax (yw ym)),(18,ax j),(19,ax (yw zm)),(20,ax i),(21,.c u.val)]) (Ll Sj c q1 0 15 16 17) (X0 w F s d q1) 18 _ from ?_) aY ⟨rfl,rfl⟩ ⟨rfl,⟨rfl,rfl,rfl,rfl,rfl,rfl,rfl,rfl,rfl,rfl,rfl,trivial⟩,⟨by rw[<-Ut];exact aU,by rw[<-hq1];exact aU,by rw[<-hq1];exact aU,by rw[<-hq1];exact aU,by rw[<-hq1];exact aU,trivial⟩,λR w' h=>by rw[<-hq1];exact h⟩
   all_goals
    have ahO:=hB3.len
    have hMl:(jH c.aj base u.xs).length=c.aj:=Rc hxl aa
    clear UT hB hNZ z1 ajA hq1 ha1 Ut ht1
    repeat' ((conv=>whnf)<;>first|refine Qd ?_|refine bn ?_)
    refine Wp.loop (σ:=Nat) 19 (λe=>[(0,.lp 0 0 0 0),(1,ax x),(11,.c d.val),(13,ax c.aj),(14,ax g),(15,.os 4 c.aj),(17,ax (yw ym)),(18,ax j),(19,ax (yw zm)),(20,ax i),(21,.c u.val),(22,.os 18 c.aj),(114,ax c.aj),(115,ax e)]) (λe=>(18,.rows (aN (pO (jH c.aj base u.xs) e)) 1 3)::Ll Sj c q1 0 15 16 17) (λ_=>X0 w F s d q1) (λe=>e<=c.aj) (λe=>c.aj-e) 0 [] aY (λe=>⟨rfl,rfl⟩)
     (Nat.zero_le _) ⟨rfl,⟨rfl,rfl,rfl,rfl,rfl,rfl,rfl,rfl,rfl,rfl,rfl,rfl,rfl,rfl,trivial⟩,⟨by show(18,bZ.rows (aN (pO (jH c.aj base u.xs) 0)) 1 3)∈_;rw[Jj,hMl,<-xC];exact aU,aU,aU,aU,aU,aU,trivial⟩,λR w' h=>h⟩ ?_
    intro e he
    by_cases hlt3:e<c.aj
    ·have hfs:=Px (M:=jH c.aj base u.xs) (e:=e) (by rw[hMl];exact hlt3)
     have hfl:(pO (jH c.aj base u.xs) e).length=c.aj:=by rw[Dv (by rw[hMl];exact he),hMl]
     have hmg:=Z9 hxl hlt hlt3
     have hz:(e:Int)-base+c.aj=((e+c.aj-base:Nat):Int):=by omega
     have hre:((e:Int)-base+c.aj)%(c.aj:Int)=(((e+c.aj-base)%c.aj:Nat):Int):=by rw[hz];exact(Int.natCast_emod _ _).symm
     have alI:(e+c.aj-base)%c.aj<u.xs.length:=by rw[hxl];exact Nat.mod_lt _ aa
     have anX:(c.aj:Int)≠0:=by omega
     repeat' ((conv=>whnf)<;>first|refine J6 ?_|(show CQ ..;refine Ig aa anX hre ?_)|(show bV ..;refine aH ua ((e+c.aj-base)%c.aj) jD rfl alI ?_)|(show fT ..;(refine kz (λR w' h=>by rw[<-jD];exact aV (h.1.2.2 u vY)) (j:=(e+c.aj-base)%c.aj) alI hmg ?_))|(show di ..;(refine bg e rfl hlt3 agj ?_))|(show cO ..;(refine ints_set (by rw[hfl];exact hlt3) ?_))|refine bn ?_|refine ag ?_ ?_<;>intro _)
     all_goals(conv=>whnf)
     exact⟨e+1,[],hlt3,by omega,rfl,bM,⟨by rw[<-hfs];exact aU,aU,aU,aU,aU,aU,trivial⟩,λR w' h=>h⟩
    obtain rfl:e=c.aj:=by omega
    have hfa:pO (jH c.aj base u.xs) c.aj=jH c.aj base u.xs:=by have:=Oo (jH c.aj base u.xs);rwa[hMl]at this
    refine Wp.Ie 18 (dZ w F) (k:=1) (xs:=aN (pO (jH c.aj base u.xs) c.aj)) (T:=3) aU (λR w' h b hb=>(h.2 b hb).1) (λfl hfl=> ?_)
    rw[hfa]at hfl|-
    rw[aJ,hMl]at hfl
    obtain⟨m,hm⟩:∃m:au,m=⟨fl.base,fl.cap,jH c.aj base u.xs⟩:=⟨_,rfl⟩
    have hmx:m.xs=jH c.aj base u.xs:=by rw[hm]
    have hms:m.bq:=⟨by rw[hmx];exactλz hz=>(List.mem_append.1 hz).elim (λhz=>fI.fits z (List.mem_of_mem_drop hz)) (λhz=>fI.fits z (List.mem_of_mem_take hz)),by rw[hmx,hMl,hm];exact hfl,by rw[hmx,hMl];omega⟩
    have hmv:Value.slice fl.base c.aj fl.cap=m.val:=by rw[hm];show _=Value.slice _ (jH c.aj base u.xs).length _;rw[hMl]
    have hma:∀{R:Nat->Prop} {w':World},((fC fl.base 1 (aN (jH c.aj base u.xs))).off (dZ w F)).holds R w'->((bE m).off (dZ w F)).holds R w':=λh=>by rw[hm];exact h
    have eV:zD x ⟨zs,zt,zm⟩ i m=⟨(p8 (dn (aC q1 m).1 5 a1 0 (aC q1 m).2) zm (aC q1 m).1.code.length).1,t1,some (p8 (dn (aC q1 m).1 5 a1 0 (aC q1 m).2) zm (aC q1 m).1.code.length).2⟩:=by unfold zD;rw[hT];exact EN _ _ _ _
    have eP:=xM (n:=c.aj) (base:=base) (x:=x) (y:=⟨zs,zt,zm⟩) (i:=i) hmx ab4
    rw[eV]at eP
    have z3:=((z2.plain hms).lay 5 a1 0 (aC q1 m).2).sum zm (aC q1 m).1.code.length
    have hpl:(p8 (dn (aC q1 m).1 5 a1 0 (aC q1 m).2) zm (aC q1 m).1.code.length).1.aF=(aC q1 m).1.aF:=su _ _ _
    clear hT eV
    repeat' ((conv=>whnf)<;>first|(show b_ _ 33 ..;refine lu [] [(4,.rows (aN Sj) 1 3)] amf ?_ (h6:=List.Sublist.cons_cons _ (List.nil_sublist _)))|(show lq ..;(first|refine Ob ?_|refine Ob ?_ (List.sublist_append_left _ _) (λ_ _ h=>h.1.1.1)))|(show di ..;(refine bg i rfl hin (by rw[aJ,ahO];exact Nat.le_refl _) ?_))|(show mq ..;(refine Io (by rw[ahO];exact hin) hb3 ?_))|(show aI _ 135 ..;(refine dR [(4,.rows (aN Sj) 1 3)] 0 15 16 17 c q1 ((dW q1.aF).and (bE m)) [.lp 0 0 0 0,.c m.val] _ _ _ _ Tryz.call135 rfl rfl (by rw[<-hmv];rfl) (λR w' h=>⟨h.1.1.1.1,jO (hma h.2)⟩) (dZ w F) (λR w' h b hb=>(h.1.2 b hb).1) (λw' ρ' F' h'=>EX c q1 m hms z2.ok.aF (by have:=z2.qW;omega) w' ρ' F' h') (λ_ _=> ?_)))|(show aI _ 82 ..;(refine dR [(4,.rows (aN Sj) 1 3)] 0 20 21 22 c (aC q1 m).1 ed [.lp 0 0 0 0,ax 5,ax a1,ax 0,ax (aC q1 m).2] _ _ _ _ Tryz.call82 rfl rfl rfl (λR w' h=>trivial) (dZ w F) (λR w' h b hb=>(h.1.1.2 b hb).1) (λw' ρ' F' h'=>mi c (aC q1 m).1 5 a1 0 (aC q1 m).2 (by rw[iX];have:=z2.lW;omega) w' ρ' F' h') (λ_ _=> ?_)))|(show aI _ 136 ..;(refine dR [(4,.rows (aN Sj) 1 3)] 0 24 25 26 c (dn (aC q1 m).1 5 a1 0 (aC q1 m).2) ed [.lp 0 0 0 0,ax (yw zm),ax (aC q1 m).1.code.length] _ _ _ _ Tryz.call136 rfl rfl rfl (λR w' h=>trivial) (dZ w F) (λR w' h b hb=>(h.1.1.1.2 b hb).1) (λw' ρ' F' h'=>El c (dn (aC q1 m).1 5 a1 0 (aC q1 m).2) zm hN3.m (aC q1 m).1.code.length (by have:=((z2.plain hms).lay 5 a1 0 (aC q1 m).2).lW;omega) w' ρ' F' h') (λ_ _=> ?_)))|refine bn ?_|refine ag ?_ ?_<;>intro _)
    all_goals(conv=>whnf)
    exact⟨(i+1,⟨(p8 (dn (aC q1 m).1 5 a1 0 (aC q1 m).2) zm (aC q1 m).1.code.length).1,t1,some (p8 (dn (aC q1 m).1 5 a1 0 (aC q1 m).2) zm (aC q1 m).1.code.length).2⟩,Sj),[(8,some 28),(9,some 29),(10,some 30)],⟨hlt2,by rw[<-hZ];exact congrArg _ eP,z3.mono aik,hB3,hN3.t,λa h=>by simp only[Option.some.injEq]at h;rw[<-h];exact sD (Int.natCast_nonneg _)⟩,by show ds.length-(i+1)<ds.length-i;omega,rfl,bM,bM,λR w' h=>⟨⟨⟨by rw[hpl];exact mP h.1.1.1.1.1.1.1 (jO (hma h.1.1.1.2)),by rw[hpl];exact gW h.1.1.1.1.1.1.2 (hma h.1.1.1.2)⟩,h.1.1.1.1.1.2⟩,h.1.1.1.1.2⟩⟩
  obtain rfl:i=ds.length:=by omega
  rw[List.drop_length,List.map_nil,m_]at hZ
  rw[<-hZ]at RG
  have hG:=O1 (y:=⟨ys.pl,yt,ym⟩) (z:=⟨zs,zt,zm⟩) RG
  have hY:kI c.aj g x (d.l.map au.xs) f' (base+g) (uY base ym ⟨zs,zt,zm⟩).pl=Y:=by rw[hG];exact hY
  have hj1:(j+1)*g=base+g:=by rw[Nat.succ_mul,hbase]
  have hgb:base+g<=8192:=by omega
  have hjb:0<j↔0<base:=⟨λh=>by rw[<-hbase];exact Nat.mul_pos h hg1,λh=>by rcases Nat.eq_zero_or_pos j with e|e;(rw[e,Nat.zero_mul]at hbase;omega);exact e⟩
  have hjc:j<=base:=by rw[<-hbase];exact Nat.le_mul_of_pos_right j hg1
  clear hZ RG hG aly
  rcases zm with _|a
  ·repeat' ((conv=>whnf)<;>first|refine J6 ?_|(show @eZ _ _ _;refine cu (show(-1:Int)<0 by decide) ?_)|refine bn ?_|refine ag ?_ ?_<;>intro _)
   all_goals(conv=>whnf)
   all_goals exact⟨(j+1,f',⟨zs,zt,ym⟩,bl2),[(5,some 8),(6,some 9),(7,some 10)],⟨by show kI _ _ _ _ f' ((j+1)*g) _=Y;rw[hj1];exact hY,by show _<=(j+1)*g+f';rw[hj1];omega,by show(j+1)*g<=_;rw[hj1];exact hgb,by show j+1<=_;omega,z1.mono afw,hB,hNZ.t,hNN.m⟩,by show c.aj-(j+1)*g<c.aj-j*g;rw[hj1,hbase];omega,rfl,bM,bM,λR w' h=>h⟩
  have ha0:=hNZ.m a rfl
  rcases Nat.lt_or_ge 0 j with hj|hj
  ·have hb:=hjb.1 hj
   have eV:uY base ym ⟨zs,zt,some a⟩=⟨(p8 (dn zs 8 a 0 base) ym zs.code.length).1,zt,some (p8 (dn zs 8 a 0 base) ym zs.code.length).2⟩:=by show(if 0<base then Aj (dn zs 8 a 0 base) zt ym zs.code.length else Aj zs zt ym a)=_;rw[if_pos hb];exact EN _ _ _ _
   rw[eV]at hY
   have z3:=(z1.lay 8 a 0 base).sum ym zs.code.length
   have hpl:(p8 (dn zs 8 a 0 base) ym zs.code.length).1.aF=zs.aF:=su _ _ _
   clear eV
   repeat' ((conv=>whnf)<;>first|refine J6 ?_|(show @eZ _ _ _;(first|refine dA (show¬a<0 by omega) ?_|refine cu aa ?_))|(show aI _ 82 ..;(refine dR [(4,.rows (aN bl2) 1 3)] 0 8 9 10 c zs ed [.lp 0 0 0 0,ax 8,ax a,ax 0,ax base] _ _ _ _ Tryz.call82 rfl rfl rfl (λR w' h=>trivial) (dZ w F) (λR w' h b hb=>(h.2 b hb).1) (λw' ρ' F' h'=>mi c zs 8 a 0 base Um w' ρ' F' h') (λ_ _=> ?_)))|(show aI _ 136 ..;(refine dR [(4,.rows (aN bl2) 1 3)] 0 12 13 14 c (dn zs 8 a 0 base) ed [.lp 0 0 0 0,ax (yw ym),ax zs.code.length] _ _ _ _ Tryz.call136 rfl rfl rfl (λR w' h=>trivial) (dZ w F) (λR w' h b hb=>(h.1.2 b hb).1) (λw' ρ' F' h'=>El c (dn zs 8 a 0 base) ym hNN.m zs.code.length (by have:=(z1.lay 8 a 0 base).lW;omega) w' ρ' F' h') (λ_ _=> ?_)))|refine bn ?_|refine ag ?_ ?_<;>intro _)
   all_goals(conv=>whnf)
   all_goals exact⟨(j+1,f',⟨(p8 (dn zs 8 a 0 base) ym zs.code.length).1,zt,some (p8 (dn zs 8 a 0 base) ym zs.code.length).2⟩,bl2),[(5,some 16),(6,some 17),(7,some 18)],⟨by show kI _ _ _ _ f' ((j+1)*g) _=Y;rw[hj1];exact hY,by show _<=(j+1)*g+f';rw[hj1];omega,by show(j+1)*g<=_;rw[hj1];exact hgb,by show j+1<=_;omega,z3.mono afw,hB,hNZ.t,λv h=>by simp only[Option.some.injEq]at h;rw[<-h];exact sD (Int.natCast_nonneg _)⟩,by show c.aj-(j+1)*g<c.aj-j*g;rw[hj1,hbase];omega,rfl,bM,bM,λR w' h=>⟨⟨⟨by rw[hpl];exact h.1.1.1.1.1,by rw[hpl];exact h.1.1.1.1.2⟩,h.1.1.1.2⟩,h.1.1.2⟩⟩
  ·have hb:¬0<base:=λh=>by have:=hjb.2 h;omega
   have eV:uY base ym ⟨zs,zt,some a⟩=⟨(p8 zs ym a).1,zt,some (p8 zs ym a).2⟩:=by show(if 0<base then Aj (dn zs 8 a 0 base) zt ym zs.code.length else Aj zs zt ym a)=_;rw[if_neg hb];exact EN _ _ _ _
   rw[eV]at hY
   have z3:=z1.sum ym a
   have hpl:(p8 zs ym a).1.aF=zs.aF:=su _ _ _
   clear eV
   repeat' ((conv=>whnf)<;>first|refine J6 ?_|(show @eZ _ _ _;(first|refine dA (show¬a<0 by omega) ?_|refine dA aa ?_))|(show aI _ 136 ..;(refine dR [(4,.rows (aN bl2) 1 3)] 0 8 9 10 c zs ed [.lp 0 0 0 0,ax (yw ym),ax a] _ _ _ _ Tryz.call136 rfl rfl rfl (λR w' h=>trivial) (dZ w F) (λR w' h b hb=>(h.2 b hb).1) (λw' ρ' F' h'=>El c zs ym hNN.m a Um w' ρ' F' h') (λ_ _=> ?_)))|refine bn ?_|refine ag ?_ ?_<;>intro _)
   all_goals(conv=>whnf)
   all_goals exact⟨(j+1,f',⟨(p8 zs ym a).1,zt,some (p8 zs ym a).2⟩,bl2),[(5,some 12),(6,some 13),(7,some 14)],⟨by show kI _ _ _ _ f' ((j+1)*g) _=Y;rw[hj1];exact hY,by show _<=(j+1)*g+f';rw[hj1];omega,by show(j+1)*g<=_;rw[hj1];exact hgb,by show j+1<=_;omega,z3.mono afw,hB,hNZ.t,λv h=>by simp only[Option.some.injEq]at h;rw[<-h];exact sD ha0⟩,by show c.aj-(j+1)*g<c.aj-j*g;rw[hj1,hbase];omega,rfl,bM,bM,λR w' h=>⟨⟨⟨by rw[hpl];exact h.1.1.1.1,by rw[hpl];exact h.1.1.1.2⟩,h.1.1.2⟩,h.1.2⟩⟩
 rw[Lm hlt]at hY
 subst hY
 rw[Nat.zero_mul,<-hgv]at hY0
 rcases ym with _|a
 ·repeat' ((conv=>whnf)<;>first|refine J6 ?_|(show @eZ _ _ _;(first|refine cu (show(-1:Int)<0 by decide) ?_|refine dA aa ?_))|(show aI _ 137 ..;(refine dR [(4,.rows (aN bl) 1 3)] 0 5 6 7 c ys (dW ys.aF) [.lp 0 0 0 0,ax x] _ _ _ _ Tryz.call137 rfl rfl rfl (λR w' h=>h.1.1.1) (dZ w F) (λR w' h b hb=>(h.2 b hb).1) (λw' ρ' F' h'=>Ul c ys x hn2 z0.ok.aF MC Fu w' ρ' F' h') (λu ⟨hu,hsu⟩=> ?_)))|refine bn ?_)
  all_goals(conv=>whnf)
  have e:jm c.aj c.giant s.pl x (d.l.map au.xs)=((zeroV ys u x).pl,(ys.code.length:Int)):=by unfold jm;rw[hY0];exact yM hu
  exact fw _ _ _ _ (zeroV ys u x,(ys.code.length:Int)) [(1,some 9),(2,some 10),(3,some 11)] ⟨(congrArg Prod.fst e).symm,(congrArg Prod.snd e).symm,(z0.zero hsu x).ok⟩ aY rfl rfl rfl rfl bM (λR w' h=>⟨h.1.2,gW h.1.1.1.2 h.2⟩)
 ·have ha0:=hNN.m a rfl
  repeat' ((conv=>whnf)<;>first|refine J6 ?_|(show @eZ _ _ _;(first|refine dA (show¬a<0 by omega) ?_|refine dA aa ?_))|refine bn ?_)
  all_goals(conv=>whnf)
  have e:jm c.aj c.giant s.pl x (d.l.map au.xs)=(ys.pl,a):=by unfold jm;rw[hY0];rfl
  exact fw _ _ _ _ (ys,a) [(1,some 5),(2,some 6),(3,some 7)] ⟨(congrArg Prod.fst e).symm,(congrArg Prod.snd e).symm,z0.ok⟩ aY rfl rfl rfl rfl bM (λR w' h=>⟨h.2,h.1.1.2⟩)
theorem abS{rows:List (List Int)}{fr to:List Int}{n:Nat}(hd:oU rows fr to n):∀r∈(mW rows fr to n).1,r=[]\/r.length=n:=by
 obtain⟨h1,h2,h3,h4,h5,h6⟩:=id hd
 have hD:=WW (rows:=rows) (j_ h4) (j_ h5) (show 0<n by omega)
 intro r hr
 rw[mW,if_pos hd]at hr
 obtain⟨k,hk,rfl⟩:=List.mem_iff_getElem.1 hr
 have:=hD.each k
 rw[Int.toNat_natCast]at hk
 rw[List.getD_eq_getElem?_getD,List.getElem?_eq_getElem hk]at this
 exact this
theorem afE(c:dN)(s:dw)(x:Int)(rv:a_)(fr to:au)(hs:1<=c.aj/\c.aj<=4096)(z:lJ c 500000 s)(hx:0<=x)(hfr:fr.bq)(hto:to.bq)(hd:oU (rv.l.map au.xs) fr.xs to.xs c.aj)
 (w:World) (ρ:Nat->SX.Loc) (F:Nat->Prop) (h:iY w ρ F 1 4 (lX c s) (((dW s.aF).and (vX λw=>rv.okB w)).and ((bE fr).and (bE to)))):
 Calls Tryz.prog 86 (SV.eO ρ [.lp 0 0 0 0,ax x,.c rv.val,.c fr.val,.c to.val]).toArray w (H8 w ρ F c s (jm c.aj c.giant s.pl x (mW (rv.l.map au.xs) fr.xs to.xs c.aj).1)):=by
 have hn1:=hs.1
 have hn2:=hs.2
 refine Ez Tryz.func86 (mI 1 ρ) ρ [.lp 0 0 0 0,ax x,.c rv.val,.c fr.val,.c to.val] (lX c s) ((((dW s.aF).and (vX λw=>rv.okB w)).and ((bE fr).and (bE to))).and (gu w F)) 4 h.abs ?_
 repeat' ((conv=>whnf)<;>first|(show aI _ 138 ..;(refine abI (mW (rv.l.map au.xs) fr.xs to.xs c.aj) Tryz.call138 (λρ w' hw=>Ui w' rv (ae hw λR h=>fV h.1.1.2) fr to (ae hw λR h=>bT hfr h.1.2.1) (ae hw λR h=>bT hto h.1.2.2) c.aj (by unfold i64;omega)) (λd hdI hdb=> ?_)))|refine bn ?_)
 have hdl:d.l.length=c.aj:=by have:=congrArg List.length hdI.rows;rw[List.length_map]at this;rw[this];exact tX hd
 have hde:∀u∈d.l,u.xs=[]\/u.xs.length=c.aj:=λu hu=>abS hd u.xs (by rw[<-hdI.rows];exact List.mem_map_of_mem hu)
 have hR:qN c s x d:=⟨hs,z,hx,hdl,hde,hdI.bq⟩
 have hF:∀{R:Nat->Prop} {w':World},(((((dW s.aF).and (vX λw=>rv.okB w)).and ((bE fr).and (bE to))).and (gu w F)).and ((nM d).past w.heap.size)).holds R w'->(((dW s.aF).and (nM d)).and (gu w F)).holds R w':=λh=>⟨⟨h.1.1.1.1,(nM d).mono h.2 (λ_ hb=>hb.1)⟩,h.1.2⟩
 rw[<-hdI.rows]
 repeat' ((conv=>whnf)<;>first|refine bn ?_)
 refine uU (λ_=>rfl) (λhg=> ?_) (λhg=> ?_)
 ·repeat' ((conv=>whnf)<;>first|refine bn ?_)
  refine Wp.loop (σ:=Nat×Nat) 4 (λq=>[(0,.lp 0 0 0 0),(1,ax x),(11,.c d.val),(13,ax c.aj),(14,ax q.2)]) (λ_=>lX c s) (λ_=>((dW s.aF).and (nM d)).and (gu w F)) (λq=>stepG q.1 c.aj q.2=stepG c.aj c.aj 1/\c.aj<=q.2+q.1/\1<=q.2/\q.2<=128) (λq=>q.1) (c.aj,1) [] aY (λq=>⟨rfl,rfl⟩) ⟨rfl,by omega,Nat.le_refl _,(by decide:1<=128)⟩ ⟨rfl,⟨rfl,rfl,rfl,rfl,rfl,trivial⟩,bM,λR w' h=>hF h⟩ ?_
  rintro⟨f,g⟩ ⟨hgs,hgf,hg1,hg2⟩
  simp only at hgs hgf hg1 hg2
  have hgg:g*g<=128*128:=Nat.mul_le_mul hg2 hg2
  have hgc:((g*g:Nat):Int)=(g:Int)*g:=by push_cast;rfl
  by_cases hlt:g*g<c.aj
  ·obtain⟨f',rfl,e⟩:=Sn hlt hgf hg1
   have:=VS hlt hn2
   have h2g:2*(g:Int)=((2*g:Nat):Int):=by push_cast;rfl
   repeat' ((conv=>whnf)<;>first|(show @eZ _ _ _;(refine cu EU ?_))|(show iL ..;(first|refine je ((2*g:Nat):Int) h2g aa aa ?_|refine wrap_i64 EU EU ?_))|refine bn ?_)
   all_goals(conv=>whnf)
   exact⟨(f',2*g),[],⟨by rw[<-hgs,e],by show c.aj<=2*g+f';omega,by show 1<=2*g;omega,by show 2*g<=128;omega⟩,Nat.lt_succ_self f',rfl,bM,bM,λR w' h=>h⟩
  rw[stepG_end hlt]at hgs
  have hgv:oK c.giant c.aj=g:=by rw[hg];exact hgs.symm
  iterate 2
   refine Wp.go bQ rfl ?_
   repeat' ((conv=>whnf)<;>first|(show @eZ _ _ _;(refine dA EU ?_))|(show iL ..;(refine wrap_i64 EU EU ?_)))
  exact Wp.into 4 [] (Pv c s x d g hg1 aa hgv hR w ρ F) aY ⟨rfl,rfl⟩ ⟨rfl,⟨rfl,rfl,rfl,rfl,rfl,trivial⟩,bM,λR w' h=>h⟩
 ·have hgv:oK c.giant c.aj=c.aj:=by rw[hg];rfl
  repeat' ((conv=>whnf)<;>first|fail)
  exact Wp.into 4 [] (Pv c s x d c.aj hn1 hn2 hgv hR w ρ F) aY ⟨rfl,rfl⟩ ⟨rfl,⟨rfl,rfl,rfl,rfl,rfl,trivial⟩,bM,λR w' h=>hF h⟩
def Yq(n:Nat)(s:fE)(x a:Int)(sl:List Int):fE×Option Int:=if a=0 then(s,none)else if a=1 then((bP s 6 x x 0).1,some (bP s 6 x x 0).2)else
 ((bP (bC n (bP s 6 x x 0).1 sl (λ_=>a)).1 5 (bP s 6 x x 0).2 0 (bC n (bP s 6 x x 0).1 sl (λ_=>a)).2).1,some (bP (bC n (bP s 6 x x 0).1 sl (λ_=>a)).1 5 (bP s 6 x x 0).2 0 (bC n (bP s 6 x x 0).1 sl (λ_=>a)).2).2)
def Xm(n:Nat)(y:fE×Option Int)(x b:Int)(sl:List Int):fE×Option Int:=if b=0 then y else if b=1 then((lI y.1 y.2 x).1,some (lI y.1 y.2 x).2)else
 ((lI (bP (bC n y.1 sl (λ_=>b)).1 5 x 0 (bC n y.1 sl (λ_=>b)).2).1 y.2 (bP (bC n y.1 sl (λ_=>b)).1 5 x 0 (bC n y.1 sl (λ_=>b)).2).2).1,some (lI (bP (bC n y.1 sl (λ_=>b)).1 5 x 0 (bC n y.1 sl (λ_=>b)).2).1 y.2 (bP (bC n y.1 sl (λ_=>b)).1 5 x 0 (bC n y.1 sl (λ_=>b)).2).2).2)
def WZ(n:Nat)(z:fE×Option Int)(x:Int):fE×Int:=match z.2 with
 |none=>uu n z.1 x
 |some m=>(z.1,m)
def pw4(n:Nat)(o:fE×Int)(c:Int)(sl:List Int):fE×Int:=if c=0 then o else bP (bC n o.1 sl (λ_=>c)).1 4 o.2 0 (bC n o.1 sl (λ_=>c)).2
theorem PI(n:Nat)(s:fE)(x:Int)(data sl:List Int):lK n s x data sl=pw4 n (WZ n (Xm n (Yq n s x (data.getD 2 0) sl) x (data.getD 1 0) sl) x) (data.getD 0 0) sl:=rfl
abbrev agG(w:World)(ρ:Nat->SX.Loc)(F:Nat->Prop)(c:dN)(s:dw)(k:Nat)(env:Env)(H:Heap)(S:bN)(nx:Nat)(r:fE×Int):Prop:=Wp ⟨Tryz.prog,⟨w,mI 1 ρ⟩,Tryz.f84.ntmps,tab⟩ (Nr k (bodyC Tryz.f84)) env H S nx (TK ⟨Tryz.prog,⟨w,mI 1 ρ⟩,Tryz.f84.ntmps,tab⟩ Tryz.f84.results.toList (H8 w ρ F c s r))
abbrev ahg(w:World)(F:Nat->Prop)(s0:dw)(sp:au)(s:dw):bN:=(((dW s.aF).and ((DV s0.aF s.aF).off (dZ w F))).and (bE sp)).and (gu w F)
structure OJ(c:dN)(q:dw)(k:Nat)(x:Int)(sp:au):Prop where
 aj:1<=c.aj/\c.aj<=4096
 low:lJ c k q
 few:k<=600000
 hx:0<=x
 hsp:sp.bq
 places:∀z∈sp.xs,0<=z/\z<c.aj
theorem CL{n:Nat}{sl:List Int}{v:Int}{u w:au}(hu:u.xs=[v])(hw:w.xs=jl n sl (λe=>u.xs.getD (e%u.xs.length) 0)):w.xs=jl n sl (λ_=>v):=by
 rw[hw]
 refine wL (λk _=> ?_)
 rw[hu]
 show [v].getD (k%1) 0=v
 rw[Nat.mod_one];rfl
theorem Q0{v:Int}(h:i64 v):∀z∈[v],i64 z:=λz hz=>by rw[List.mem_singleton.1 hz];exact h
theorem ahC(c:dN)(s q:dw)(k:Nat)(x v o:Int)(sp:au)(hP:OJ c q k x sp)(h64:i64 v)(w:World)(ρ:Nat->SX.Loc)(F:Nat->Prop):
 agG w ρ F c s 6 [(0,.lp 0 0 0 0),(1,ax x),(3,.c sp.val),(9,ax v),(12,ax o)] (Fh c q 0 80 81 82) (ahg w F s sp q) 83 (pw4 c.aj (q.pl,o) v sp.xs):=by
 obtain⟨hs,z0,hk,hx,hsp,hpl⟩:=hP
 unfold pw4
 by_cases hv:v=0
 ·rw[if_pos hv]
  repeat' ((conv=>whnf)<;>first|refine bn ?_|refine ag ?_ ?_<;>intro _)
  all_goals(conv=>whnf)
  all_goals exact fw _ _ _ _ (q,o) [(1,some 80),(2,some 81),(3,some 82)] ⟨rfl,rfl,z0.ok⟩ aY rfl rfl rfl rfl bM (λR w' h=>⟨h.2,h.1.1.2⟩)
 ·rw[if_neg hv]
  repeat' ((conv=>whnf)<;>first|(show jT ..;refine vD [v] (dZ w F) (λR w' h b hb=>(h.2 b hb).1) rfl rfl (Q0 h64) (show 1<=1000000 by decide) (λu hu fI=> ?_))|(show aI _ 83 ..;(refine dR [] 0 80 81 82 c q (((dW q.aF).and (tO u)).and (bE sp)) [.lp 0 0 0 0,.c u.val,.c sp.val] _ _ _ _ Tryz.call83 rfl rfl rfl (λR w' h=>⟨⟨h.1.1.1.1,uH (jO h.2)⟩,h.1.1.2⟩) (dZ w F) (λR w' h b hb=>(h.1.2 b hb).1) (λw' ρ' F' h'=>J7 c q u sp fI aeP hs.2 z0.ok.aF MC hsp hpl w' ρ' F' h') (λm ⟨hm,hms⟩=> ?_)))|(show aI _ 82 ..;(refine dR [] 0 85 86 87 c (aC q m).1 ed [.lp 0 0 0 0,ax 4,ax o,ax 0,ax (aC q m).2] _ _ _ _ Tryz.call82 rfl rfl rfl (λR w' h=>trivial) (dZ w F) (λR w' h b hb=>(h.1.1.2 b hb).1) (λw' ρ' F' h'=>mi c (aC q m).1 4 o 0 (aC q m).2 (by rw[iX];have:=z0.lW;omega) w' ρ' F' h') (λ_ _=> ?_)))|refine bn ?_|refine ag ?_ ?_<;>intro _)
  all_goals(conv=>whnf)
  have hS:=iB (s:=q) (CL hu hm)
  rw[hS]
  exact fw _ _ _ _ (dn (aC q m).1 4 o 0 (aC q m).2,((aC q m).1.code.length:Int)) [(1,some 89),(2,some 90),(3,some 91)] ⟨rfl,rfl,qL (nR z0.ok hms) _ _ _ _⟩ aY rfl rfl rfl rfl bM (λR w' h=>⟨h.1.1.1.2,gW h.1.1.1.1.1.2 h.1.2⟩)
theorem acA(c:dN)(s q:dw)(k:Nat)(x v:Int)(m:Option Int)(sp:au)(hP:OJ c q k x sp)(hk:k<=599000)(hm:∀a,m=some a->0<=a)(h64:i64 v)(w:World)(ρ:Nat->SX.Loc)(F:Nat->Prop):
 agG w ρ F c s 5 [(0,.lp 0 0 0 0),(1,ax x),(3,.c sp.val),(9,ax v),(12,ax (yw m))] (Fh c q 0 60 61 62) (ahg w F s sp q) 63 (pw4 c.aj (WZ c.aj (q.pl,m) x) v sp.xs):=by
 obtain⟨hs,z0,_,hx,hsp,hpl⟩:=hP
 rcases m with _|a
 ·iterate 2
   refine Wp.go bQ rfl ?_
   repeat' ((conv=>whnf)<;>first|(show @eZ _ _ _;refine cu (show(-1:Int)<0 by decide) ?_)|(show aI _ 137 ..;(refine dR [] 0 60 61 62 c q (dW q.aF) [.lp 0 0 0 0,ax x] _ _ _ _ Tryz.call137 rfl rfl rfl (λR w' h=>h.1.1.1) (dZ w F) (λR w' h b hb=>(h.2 b hb).1) (λw' ρ' F' h'=>Ul c q x hs.2 z0.ok.aF MC Fu w' ρ' F' h') (λu ⟨hu,fI⟩=> ?_))))
  have e:WZ c.aj (q.pl,none) x=((zeroV q u x).pl,(q.code.length:Int)):=yM hu
  rw[e]
  exact Wp.into 83 [(80,some 64),(81,some 65),(82,some 66)] (ahC c s (zeroV q u x) (k+2) x v q.code.length sp ⟨hs,z0.zero fI x,by omega,hx,hsp,hpl⟩ h64 w ρ F) aY ⟨rfl,rfl⟩ ⟨rfl,⟨rfl,rfl,rfl,rfl,rfl,trivial⟩,bM,λR w' h=>⟨⟨⟨mP h.1.1.1.1 (jO h.2),gW h.1.1.1.2 h.2⟩,h.1.1.2⟩,h.1.2⟩⟩
 ·have ha:=hm a rfl
  iterate 2
   refine Wp.go bQ rfl ?_
   repeat' ((conv=>whnf)<;>first|(show @eZ _ _ _;refine dA (show¬a<0 by omega) ?_))
  exact Wp.into 83 [(80,some 60),(81,some 61),(82,some 62)] (ahC c s q k x v a sp ⟨hs,z0,by omega,hx,hsp,hpl⟩ h64 w ρ F) aY ⟨rfl,rfl⟩ ⟨rfl,⟨rfl,rfl,rfl,rfl,rfl,trivial⟩,bM,λR w' h=>h⟩
theorem ada(c:dN)(s q:dw)(k:Nat)(x v b:Int)(m:Option Int)(sp:au)(hP:OJ c q k x sp)(hk:k<=598000)(hm:∀a,m=some a->0<=a)(h64:i64 v)(HY:i64 b)(w:World)(ρ:Nat->SX.Loc)(F:Nat->Prop):
 agG w ρ F c s 4 [(0,.lp 0 0 0 0),(1,ax x),(3,.c sp.val),(9,ax v),(10,ax b),(12,ax (yw m))] (Fh c q 0 40 41 42) (ahg w F s sp q) 43 (pw4 c.aj (WZ c.aj (Xm c.aj (q.pl,m) x b sp.xs) x) v sp.xs):=by
 obtain⟨hs,z0,_,hx,hsp,hpl⟩:=hP
 unfold Xm
 by_cases h0:b=0
 ·rw[if_pos h0]
  iterate 2
   refine Wp.go bQ rfl ?_
   repeat' ((conv=>whnf)<;>first|refine WN ?_|refine ag ?_ ?_<;>intro _)
  exact Wp.into 63 [(60,some 40),(61,some 41),(62,some 42)] (acA c s q k x v m sp ⟨hs,z0,by omega,hx,hsp,hpl⟩ aa hm h64 w ρ F) aY ⟨rfl,rfl⟩ ⟨rfl,⟨rfl,rfl,rfl,rfl,rfl,trivial⟩,bM,λR w' h=>h⟩
 rw[if_neg h0]
 by_cases h1:b=1
 ·rw[if_pos h1]
  iterate 5
   refine Wp.go bQ rfl ?_
   repeat' ((conv=>whnf)<;>first|(show aI _ 136 ..;(refine dR [] 0 40 41 42 c q ed [.lp 0 0 0 0,ax (yw m),ax x] _ _ _ _ Tryz.call136 rfl rfl rfl (λR w' h=>trivial) (dZ w F) (λR w' h b hb=>(h.2 b hb).1) (λw' ρ' F' h'=>El c q m hm x Fu w' ρ' F' h') (λ_ _=> ?_)))|refine WN ?_|refine ag ?_ ?_<;>intro _)
  have ad9:(p8 q m x).1.aF=q.aF:=su _ _ _
  rw[<-Dz q m x]
  exact Wp.into 63 [(60,some 44),(61,some 45),(62,some 46)] (acA c s (p8 q m x).1 (k+1) x v (some (p8 q m x).2) sp ⟨hs,z0.sum m x,by omega,hx,hsp,hpl⟩ aa (λa h=>by simp only[Option.some.injEq]at h;rw[<-h];exact sD hx) h64 w ρ F) aY ⟨rfl,rfl⟩ ⟨rfl,⟨rfl,rfl,rfl,rfl,rfl,trivial⟩,bM,λR w' h=>⟨⟨⟨by rw[ad9];exact h.1.1.1.1,by rw[ad9];exact h.1.1.1.2⟩,h.1.1.2⟩,h.1.2⟩⟩
 ·rw[if_neg h1]
  iterate 5
   refine Wp.go bQ rfl ?_
   repeat' ((conv=>whnf)<;>first|(show jT ..;refine vD [b] (dZ w F) (λR w' h b hb=>(h.2 b hb).1) rfl rfl (Q0 HY) (show 1<=1000000 by decide) (λu hu fI=> ?_))|(show aI _ 83 ..;(refine dR [] 0 40 41 42 c q (((dW (q).aF).and (tO u)).and (bE sp)) [.lp 0 0 0 0,.c u.val,.c sp.val] _ _ _ _ Tryz.call83 rfl rfl rfl (λR w' h=>⟨⟨h.1.1.1.1,uH (jO h.2)⟩,h.1.1.2⟩) (dZ w F) (λR w' h b hb=>(h.1.2 b hb).1) (λw' ρ' F' h'=>J7 c q u sp fI aeP hs.2 z0.ok.aF MC hsp hpl w' ρ' F' h') (λm1 ⟨hm1,hms⟩=> ?_)))|(show aI _ 82 ..;(refine dR [] 0 45 46 47 c (aC q m1).1 ed [.lp 0 0 0 0,ax 5,ax x,ax 0,ax (aC q m1).2] _ _ _ _ Tryz.call82 rfl rfl rfl (λR w' h=>trivial) (dZ w F) (λR w' h b hb=>(h.1.1.2 b hb).1) (λw' ρ' F' h'=>mi c (aC q m1).1 5 x 0 (aC q m1).2 (by rw[iX];have:=z0.lW;omega) w' ρ' F' h') (λ_ _=> ?_)))|(show aI _ 136 ..;(refine dR [] 0 49 50 51 c (dn (aC q m1).1 5 x 0 (aC q m1).2) ed [.lp 0 0 0 0,ax (yw m),ax (aC q m1).1.code.length] _ _ _ _ Tryz.call136 rfl rfl rfl (λR w' h=>trivial) (dZ w F) (λR w' h b hb=>(h.1.1.1.2 b hb).1) (λw' ρ' F' h'=>El c (dn (aC q m1).1 5 x 0 (aC q m1).2) m hm (aC q m1).1.code.length (by have:=((z0.plain hms).lay 5 x 0 (aC q m1).2).lW;omega) w' ρ' F' h') (λ_ _=> ?_)))|refine WN ?_|refine ag ?_ ?_<;>intro _)
  have hS:=iB (s:=q) (CL hu hm1)
  have ad9:(p8 (dn (aC q m1).1 5 x 0 (aC q m1).2) m (aC q m1).1.code.length).1.aF=(aC q m1).1.aF:=su _ _ _
  dsimp only
  rw[hS,nQ,<-Dz]
  exact Wp.into 63 [(60,some 53),(61,some 54),(62,some 55)] (acA c s (p8 (dn (aC q m1).1 5 x 0 (aC q m1).2) m (aC q m1).1.code.length).1 (k+3) x v (some (p8 (dn (aC q m1).1 5 x 0 (aC q m1).2) m (aC q m1).1.code.length).2) sp ⟨hs,((z0.plain hms).lay 5 x 0 (aC q m1).2).sum m (aC q m1).1.code.length,by omega,hx,hsp,hpl⟩ aa (λa h=>by simp only[Option.some.injEq]at h;rw[<-h];exact sD (Int.natCast_nonneg _)) h64 w ρ F) aY ⟨rfl,rfl⟩ ⟨rfl,⟨rfl,rfl,rfl,rfl,rfl,trivial⟩,bM,λR w' h=>⟨⟨⟨by rw[ad9];exact mP h.1.1.1.1.1.1.1 (jO h.1.1.2),by rw[ad9];exact gW h.1.1.1.1.1.1.2 h.1.1.2⟩,h.1.1.1.1.1.2⟩,h.1.1.1.1.2⟩⟩
theorem akU(c:dN)(s:dw)(x v b a:Int)(sp:au)(hP:OJ c s 500000 x sp)(h64:i64 v)(HY:i64 b)(ajw:i64 a)(w:World)(ρ:Nat->SX.Loc)(F:Nat->Prop):
 agG w ρ F c s 3 [(0,.lp 0 0 0 0),(1,ax x),(3,.c sp.val),(9,ax v),(10,ax b),(11,ax a),(12,ax (-1))] (Fh c s 0 1 2 3) (ahg w F s sp s) 4 (pw4 c.aj (WZ c.aj (Xm c.aj (Yq c.aj s.pl x a sp.xs) x b sp.xs) x) v sp.xs):=by
 obtain⟨hs,z0,_,hx,hsp,hpl⟩:=hP
 unfold Yq
 by_cases h0:a=0
 ·rw[if_pos h0]
  iterate 2
   refine Wp.go bQ rfl ?_
   repeat' ((conv=>whnf)<;>first|refine WN ?_|refine ag ?_ ?_<;>intro _)
  exact Wp.into 43 [(40,some 1),(41,some 2),(42,some 3)] (ada c s s 500000 x v b none sp ⟨hs,z0,by omega,hx,hsp,hpl⟩ aa (λa h=>by cases h) h64 HY w ρ F) aY ⟨rfl,rfl⟩ ⟨rfl,⟨rfl,rfl,rfl,rfl,rfl,rfl,trivial⟩,bM,λR w' h=>h⟩
 rw[if_neg h0]
 by_cases h1:a=1
 ·rw[if_pos h1]
  iterate 4
   refine Wp.go bQ rfl ?_
   repeat' ((conv=>whnf)<;>first|(show aI _ 82 ..;(refine dR [] 0 1 2 3 c s ed [.lp 0 0 0 0,ax 6,ax x,ax x,ax 0] _ _ _ _ Tryz.call82 rfl rfl rfl (λR w' h=>trivial) (dZ w F) (λR w' h b hb=>(h.2 b hb).1) (λw' ρ' F' h'=>mi c s 6 x x 0 Fu w' ρ' F' h') (λ_ _=> ?_)))|refine WN ?_|refine ag ?_ ?_<;>intro _)
  exact Wp.into 43 [(40,some 5),(41,some 6),(42,some 7)] (ada c s (dn s 6 x x 0) 500001 x v b (some s.code.length) sp ⟨hs,z0.lay 6 x x 0,by omega,hx,hsp,hpl⟩ aa (λa h=>by simp only[Option.some.injEq]at h;omega) h64 HY w ρ F) aY ⟨rfl,rfl⟩ ⟨rfl,⟨rfl,rfl,rfl,rfl,rfl,rfl,trivial⟩,bM,λR w' h=>h.1⟩
 ·rw[if_neg h1]
  iterate 4
   refine Wp.go bQ rfl ?_
   repeat' ((conv=>whnf)<;>first|(show aI _ 82 [_,ax 6,_,_,_] ..;(refine dR [] 0 1 2 3 c s ed [.lp 0 0 0 0,ax 6,ax x,ax x,ax 0] _ _ _ _ Tryz.call82 rfl rfl rfl (λR w' h=>trivial) (dZ w F) (λR w' h b hb=>(h.2 b hb).1) (λw' ρ' F' h'=>mi c s 6 x x 0 Fu w' ρ' F' h') (λ_ _=> ?_)))|(show jT ..;refine vD [a] (dZ w F) (λR w' h b hb=>(h.1.2 b hb).1) rfl rfl (Q0 ajw) (show 1<=1000000 by decide) (λu hu fI=> ?_))|(show aI _ 83 ..;(refine dR [] 0 5 6 7 c (dn s 6 x x 0) (((dW ((dn s 6 x x 0)).aF).and (tO u)).and (bE sp)) [.lp 0 0 0 0,.c u.val,.c sp.val] _ _ _ _ Tryz.call83 rfl rfl rfl (λR w' h=>⟨⟨h.1.1.1.1.1,uH (jO h.2)⟩,h.1.1.1.2⟩) (dZ w F) (λR w' h b hb=>(h.1.1.2 b hb).1) (λw' ρ' F' h'=>J7 c (dn s 6 x x 0) u sp fI aeP hs.2 (z0.lay 6 x x 0).ok.aF (by have:=(z0.lay 6 x x 0).qW;omega) hsp hpl w' ρ' F' h') (λm1 ⟨hm1,hms⟩=> ?_)))|(show aI _ 82 [_,ax 5,_,_,_] ..;(refine dR [] 0 10 11 12 c (aC (dn s 6 x x 0) m1).1 ed [.lp 0 0 0 0,ax 5,ax s.code.length,ax 0,ax (aC (dn s 6 x x 0) m1).2] _ _ _ _ Tryz.call82 rfl rfl rfl (λR w' h=>trivial) (dZ w F) (λR w' h b hb=>(h.1.1.1.2 b hb).1) (λw' ρ' F' h'=>mi c (aC (dn s 6 x x 0) m1).1 5 s.code.length 0 (aC (dn s 6 x x 0) m1).2 (by rw[iX];have:=(z0.lay 6 x x 0).lW;omega) w' ρ' F' h') (λ_ _=> ?_)))|refine WN ?_|refine ag ?_ ?_<;>intro _)
  have hS:=iB (s:=dn s 6 x x 0) (CL hu hm1)
  rw[nQ]
  dsimp only
  rw[hS]
  exact Wp.into 43 [(40,some 14),(41,some 15),(42,some 16)] (ada c s (dn (aC (dn s 6 x x 0) m1).1 5 s.code.length 0 (aC (dn s 6 x x 0) m1).2) 500003 x v b (some (aC (dn s 6 x x 0) m1).1.code.length) sp ⟨hs,((z0.lay 6 x x 0).plain hms).lay 5 s.code.length 0 (aC (dn s 6 x x 0) m1).2,by omega,hx,hsp,hpl⟩ aa (λa h=>by simp only[Option.some.injEq]at h;omega) h64 HY w ρ F) aY ⟨rfl,rfl⟩ ⟨rfl,⟨rfl,rfl,rfl,rfl,rfl,rfl,trivial⟩,bM,λR w' h=>⟨⟨⟨mP h.1.1.1.1.1.1.1 (jO h.1.2),gW h.1.1.1.1.1.1.2 h.1.2⟩,h.1.1.1.1.1.2⟩,h.1.1.1.1.2⟩⟩
theorem abf(c:dN)(s:dw)(x:Int)(d sp:au)(hP:OJ c s 500000 x sp)(hd:d.xs.length=3)(hds:d.bq)(w:World)(ρ:Nat->SX.Loc)(F:Nat->Prop)(h:iY w ρ F 1 4 (lX c s) (((dW s.aF).and (tO d)).and (bE sp))):
 Calls Tryz.prog 84 (SV.eO ρ [.lp 0 0 0 0,ax x,.c d.val,.c sp.val]).toArray w (H8 w ρ F c s (lK c.aj s.pl x d.xs sp.xs)):=by
 have h64:∀j,j<d.xs.length->i64 (d.xs.getD j 0):=λj hj=>by
  rw[List.getD_eq_getElem?_getD,List.getElem?_eq_getElem hj];exact hds.fits _ (List.getElem_mem hj)
 have agX:=h64 0 aa
 have ahs:=h64 1 aa
 have ahm:=h64 2 aa
 rw[PI]
 obtain⟨a,ha⟩:∃a,d.xs.getD 2 0=a:=⟨_,rfl⟩
 obtain⟨b,hb⟩:∃b,d.xs.getD 1 0=b:=⟨_,rfl⟩
 obtain⟨v,hv⟩:∃v,d.xs.getD 0 0=v:=⟨_,rfl⟩
 rw[ha]at ahm|-
 rw[hb]at ahs|-
 rw[hv]at agX|-
 refine Ez Tryz.func84 (mI 1 ρ) ρ [.lp 0 0 0 0,ax x,.c d.val,.c sp.val] (lX c s) ((((dW s.aF).and (tO d)).and (bE sp)).and (gu w F)) 4 h.abs ?_
 refine Wp.know (p:=∃a,d.base=some a) (λρ w' hw=>ae hw λR h=>aP (j:=0) (fV h.1.1.2) vK) ?_
 rintro⟨da,hda⟩
 iterate 3
  refine Wp.go bQ rfl ?_
  repeat' ((conv=>whnf)<;>first|(show bV ..;(first|refine aH da 0 hda rfl aa ?_|refine aH da 1 hda rfl aa ?_|refine aH da 2 hda rfl aa ?_))|(show fT ..;(first|refine kz (λR w' h=>by rw[<-hda];exact fV h.1.1.2) (j:=0) aa hv ?_|refine kz (λR w' h=>by rw[<-hda];exact fV h.1.1.2) (j:=1) aa hb ?_|refine kz (λR w' h=>by rw[<-hda];exact fV h.1.1.2) (j:=2) aa ha ?_))|refine WN ?_)
 all_goals exact Wp.into 4 [] (akU c s x v b a sp hP agX ahs ahm w ρ F) aY ⟨rfl,rfl⟩ ⟨rfl,⟨rfl,rfl,rfl,rfl,rfl,rfl,rfl,trivial⟩,bM,λR w' h=>⟨⟨⟨h.1.1.1,lQ _ _ _⟩,h.1.2⟩,h.2⟩⟩
section
def nN(s:fE):Nat:=s.code.length+s.aF.length+s.inputs.length+4096
def InB(N:Nat)(x:qX):Prop:=(0<=x.op/\x.op<=N)/\(0<=x.to_/\x.to_<=N)/\(0<=x.a/\x.a<=N)/\(0<=x.b/\x.b<=N)/\0<=x.k/\x.k<=N
def rE(s:fE)(v:Int):Prop:=0<=v/\v<=nN s
structure mZ(s s':fE):Prop where
 fit:∀x∈s'.code,InB (nN s') x
 le:nN s<=nN s'
variable {s s':fE} {v:Int}
theorem rE.mono(h:rE s v)(hl:nN s<=nN s'):rE s' v:=⟨h.1,by have:=h.2;omega⟩
theorem rE.small(h0:0<=v)(h:v<=4096):rE s v:=⟨h0,by unfold nN;omega⟩
theorem InB.mono{N M:Nat}{x:qX}(h:InB N x)(hl:N<=M):InB M x:=by
 obtain⟨⟨a,b⟩,⟨c,d⟩,⟨e,f⟩,⟨g,i⟩,j,k⟩:=h
 exact⟨⟨a,by omega⟩,⟨c,by omega⟩,⟨e,by omega⟩,⟨g,by omega⟩,j,by omega⟩
theorem mZ.trans{s'':fE}(h:mZ s s')(k:mZ s' s''):mZ s s'':=⟨k.fit,Nat.le_trans h.le k.le⟩
theorem mZ.here(h:mZ s s'):mZ s' s':=⟨h.fit,Nat.le_refl _⟩
theorem agB(s:fE)(op a b k:Int):nN (bP s op a b k).1=nN s+1:=by
 unfold nN bP;dsimp only;rw[List.length_append,List.length_singleton];omega
theorem yG{op a b k:Int}(h:mZ s s)(h1:0<=op/\op<=8)(ha:rE s a)(hb:rE s b)(hk:rE s k):mZ s (bP s op a b k).1/\rE (bP s op a b k).1 (bP s op a b k).2:=by
 have e:=agB s op a b k
 have hc:s.code.length<=nN s:=by unfold nN;omega
 have h8:4096<=nN s:=by unfold nN;omega
 refine⟨⟨λx hx=> ?_,by omega⟩,Int.natCast_nonneg _,by rw[e];show(s.code.length:Int)<=_;omega⟩
 rw[e]
 rcases List.mem_append.1 (show x∈s.code++[⟨op,s.code.length,a,b,k⟩]from hx)with hx|hx
 ·exact(h.fit x hx).mono aa
 ·rw[List.mem_singleton.1 hx]
  obtain⟨a1,a2⟩:=ha
  obtain⟨b1,b2⟩:=hb
  obtain⟨k1,k2⟩:=hk
  exact⟨⟨h1.1,by show op<=_;omega⟩,⟨by show(0:Int)<=(s.code.length:Int);omega,by show(s.code.length:Int)<=_;omega⟩,⟨a1,by show a<=_;omega⟩,⟨b1,by show b<=_;omega⟩,k1,by show k<=_;omega⟩
theorem YY{r:List Int}:∀(l:List (List Int)) (k j:Nat),CS r l k=some j->j<=k+l.length
 |[],_,_,h=>by cases h
 |x::l,k,j,h=>by
  unfold CS at h
  split at h
  ·injection h with h;simp only[List.length_cons];omega
  ·have:=YY l (k+1) j h;simp only[List.length_cons];omega
theorem aaB(r:List Int)(h:mZ s s):mZ s (gm s r).1/\rE (gm s r).1 (gm s r).2:=by
 have hp:s.aF.length<=nN s:=by unfold nN;omega
 unfold gm
 cases e:CS r s.aF 0 with
 |some k=>exact⟨h,Int.natCast_nonneg _,by have:=YY _ _ _ e;show(k:Int)<=(nN s:Int);omega⟩
 |none=>
  have e2:nN ⟨s.inputs,s.aF++[r],s.code⟩=nN s+1:=by unfold nN;dsimp only;rw[List.length_append,List.length_singleton];omega
  refine⟨⟨λx hx=> ?_,?_⟩,Int.natCast_nonneg _,?_⟩
  ·show InB (nN ⟨s.inputs,s.aF++[r],s.code⟩) x;rw[e2];exact(h.fit x hx).mono aa
  ·show _<=nN ⟨s.inputs,s.aF++[r],s.code⟩;omega
  ·show(s.aF.length:Int)<=nN ⟨s.inputs,s.aF++[r],s.code⟩;omega
theorem zL(r:List Int)(op a:Int)(h:mZ s s)(h1:0<=op/\op<=8)(ha:rE s a):mZ s (bP (gm s r).1 op a 0 (gm s r).2).1/\rE (bP (gm s r).1 op a 0 (gm s r).2).1 (bP (gm s r).1 op a 0 (gm s r).2).2:=by
 obtain⟨p1,p2⟩:=aaB r h
 obtain⟨q1,q2⟩:=yG p1.here h1 (ha.mono p1.le) (rE.small (Int.le_refl 0) aY) p2
 exact⟨p1.trans q1,q2⟩
variable {x:Int}
theorem Sm{n:Nat}(h:mZ s s)(hx:rE s x):mZ s (uu n s x).1/\rE (uu n s x).1 (uu n s x).2:=zL _ 5 x h aY hx
variable {m:Option Int}
theorem I5(h:mZ s s)(hm:∀a,m=some a->rE s a)(hv:rE s v):mZ s (lI s m v).1/\rE (lI s m v).1 (lI s m v).2:=by
 cases m with
 |none=>exact⟨h,hv⟩
 |some a=>exact yG h aY (hm a rfl) hv (rE.small (Int.le_refl 0) aY)
theorem agx{n:Nat}{data sl:List Int}(h:mZ s s)(hx:rE s x):mZ s (lK n s x data sl).1/\rE (lK n s x data sl).1 (lK n s x data sl).2:=by
 rw[PI]
 have z:∀t:fE,rE t 0:=λt=>rE.small (Int.le_refl 0) aY
 have g1:mZ s (Yq n s x (data.getD 2 0) sl).1/\∀a,(Yq n s x (data.getD 2 0) sl).2=some a->rE (Yq n s x (data.getD 2 0) sl).1 a:=by
  unfold Yq
  split
  ·exact⟨h,λa ha=>by cases ha⟩
  ·have q:=yG h (op:=6) aY hx hx (z s)
   split
   ·exact⟨q.1,λa ha=>by injection ha with ha;rw[<-ha];exact q.2⟩
   ·have r:=zL (jl n sl λ_=>data.getD 2 0) 5 _ q.1.here aY q.2
    exact⟨q.1.trans r.1,λa ha=>by injection ha with ha;rw[<-ha];exact r.2⟩
 generalize Yq n s x (data.getD 2 0) sl=y at g1
 have g2:mZ s (Xm n y x (data.getD 1 0) sl).1/\∀a,(Xm n y x (data.getD 1 0) sl).2=some a->rE (Xm n y x (data.getD 1 0) sl).1 a:=by
  have hy:=hx.mono g1.1.le
  unfold Xm
  split
  ·exact g1
  ·split
   ·have q:=I5 g1.1.here g1.2 hy
    exact⟨g1.1.trans q.1,λa ha=>by injection ha with ha;rw[<-ha];exact q.2⟩
   ·have r:=zL (jl n sl λ_=>data.getD 1 0) 5 x g1.1.here aY hy
    have q:=I5 r.1.here (λa ha=>(g1.2 a ha).mono r.1.le) r.2
    exact⟨(g1.1.trans r.1).trans q.1,λa ha=>by injection ha with ha;rw[<-ha];exact q.2⟩
 generalize Xm n y x (data.getD 1 0) sl=u at g2
 have g3:mZ s (WZ n u x).1/\rE (WZ n u x).1 (WZ n u x).2:=by
  unfold WZ
  split
  ·have q:=Sm (n:=n) g2.1.here (hx.mono g2.1.le)
   exact⟨g2.1.trans q.1,q.2⟩
  ·rename_i m e
   exact⟨g2.1,g2.2 m e⟩
 unfold pw4
 split
 ·exact g3
 ·have r:=zL (jl n sl λ_=>data.getD 0 0) 4 _ g3.1.here aY g3.2
  exact⟨g3.1.trans r.1,r.2⟩
def Kv(s:fE)(t:Int->Option Int):Prop:=∀z a,t z=some a->rE s a
def ag1(s:fE)(m:Option Int):Prop:=∀a,m=some a->rE s a
theorem Kv.mono{s s':fE}{t:Int->Option Int}(h:Kv s t)(hl:nN s<=nN s'):Kv s' t:=λz a e=>(h z a e).mono hl
theorem ag1.mono{s s':fE}{m:Option Int}(h:ag1 s m)(hl:nN s<=nN s'):ag1 s' m:=λa e=>(h a e).mono hl
variable {t:Int->Option Int} {i:Nat}
theorem ad2(h:mZ s s)(ht:Kv s t)(hx:rE s x)(hi:i<=4096):mZ s (p9 s t x i).1/\Kv (p9 s t x i).1 (p9 s t x i).2.1/\rE (p9 s t x i).1 (p9 s t x i).2.2:=by
 unfold p9
 split
 ·rename_i a e
  exact⟨h,ht,ht _ _ e⟩
 ·have q:=yG (op:=8) (k:=(i:Int)) h aY hx (rE.small (Int.le_refl 0) aY) (rE.small (Int.natCast_nonneg _) aa)
  refine⟨q.1,λz a e=> ?_,q.2⟩
  dsimp only at e
  split at e
  ·injection e with e;rw[<-e];exact q.2
  ·exact(ht z a e).mono q.1.le
structure Gt(s:fE)(y:oH):Prop where
 fit:mZ s y.s
 turn:Kv y.s y.t
 sum:ag1 y.s y.m
variable {base:Nat} {y:oH}
theorem aa3{n:Nat}{d:List Int}(h:Gt s y)(hx:rE s x)(hi:i<=4096):Gt s (rG n base x y i d):=by
 unfold rG
 split
 ·exact h
 ·have q:=ad2 h.fit.here h.turn (hx.mono h.fit.le) hi
  have p:=zL (jH n base d) 5 _ q.1.here aY q.2.2
  have a:=I5 p.1.here (λb hb=>(h.sum b hb).mono (Nat.le_trans q.1.le p.1.le)) p.2
  exact⟨((h.fit.trans q.1).trans p.1).trans a.1,q.2.1.mono (Nat.le_trans p.1.le a.1.le),λb hb=>by injection hb with hb;rw[<-hb];exact a.2⟩
theorem Kh{n base:Nat}{x:Int}{s:fE}(hx:rE s x):∀(l:List (List Int)) (i:Nat) (y:oH),Gt s y->i+l.length<=4096->Gt s (m_ n base x l i y)
 |[],_,_,h,_=>h
 |d::r,i,y,h,hl=>by
  simp only[List.length_cons]at hl
  exact Kh hx r (i+1) _ (aa3 h hx aa) aa
theorem aah{n:Nat}{ds:List (List Int)}(h:Gt s y)(hx:rE s x)(hb:base<=4096)(hd:ds.length<=4096):Gt s (sU n base x y ds):=by
 have z:=Kh (n:=n) (base:=base) (hx.mono h.fit.le) ds 0 ⟨y.s,y.t,none⟩ ⟨h.fit.here,h.turn,λa e=>by cases e⟩ aa
 unfold sU
 dsimp only
 generalize m_ n base x ds 0 ⟨y.s,y.t,none⟩=q at z
 split
 ·exact⟨h.fit.trans z.fit,z.turn,h.sum.mono z.fit.le⟩
 ·rename_i a e
  have ha:=z.sum a e
  have u:mZ q.s (if 0<base then bP q.s 8 a 0 base else(q.s,a)).1/\rE (if 0<base then bP q.s 8 a 0 base else(q.s,a)).1 (if 0<base then bP q.s 8 a 0 base else(q.s,a)).2:=by
   split
   ·exact yG z.fit.here aY ha (rE.small (Int.le_refl 0) aY) (rE.small (Int.natCast_nonneg _) aa)
   ·exact⟨z.fit.here,ha⟩
  generalize (if 0<base then bP q.s 8 a 0 base else(q.s,a))=u' at u
  have v:=I5 u.1.here (λb hb=>(h.sum b hb).mono (Nat.le_trans z.fit.le u.1.le)) u.2
  exact⟨((h.fit.trans z.fit).trans u.1).trans v.1,z.turn.mono (Nat.le_trans u.1.le v.1.le),λb hb=>by injection hb with hb;rw[<-hb];exact v.2⟩
theorem Mk{n g:Nat}{x:Int}{all:List (List Int)}{s:fE}(hx:rE s x)(hn:n<=4096)(ha:all.length<=4096):∀(f base:Nat) (y:oH),Gt s y->Gt s (kI n g x all f base y)
 |0,_,_,h=>h
 |f+1,base,y,h=>by
  unfold kI
  split
  ·exact Mk hx hn ha f _ _ (aah h hx aa (by rw[List.length_take,List.length_drop];omega))
  ·exact h
variable {all:List (List Int)}
theorem ae7{n:Nat}{giant:Bool}(h:mZ s s)(hx:rE s x)(hn:n<=4096)(ha:all.length<=4096):mZ s (jm n giant s x all).1/\rE (jm n giant s x all).1 (jm n giant s x all).2:=by
 have ht:Kv s (mU x):=λz a e=>by
  unfold mU at e
  split at e
  ·injection e with e;rw[<-e];exact hx
  ·cases e
 have z:=Mk (g:=oK giant n) hx hn ha n 0 ⟨s,mU x,none⟩ ⟨h,ht,λa e=>by cases e⟩
 unfold jm
 dsimp only
 generalize kI n (oK giant n) x all n 0 ⟨s,mU x,none⟩=y at z
 split
 ·have q:=Sm (n:=n) z.fit.here (hx.mono z.fit.le)
  exact⟨z.fit.trans q.1,q.2⟩
 ·rename_i a e
  exact⟨z.fit,z.sum a e⟩
theorem abU(lo hi:Int)(sl:List Int)(h:mZ s s):mZ s (lF s lo hi sl).1/\rE (lF s lo hi sl).1 (lF s lo hi sl).2:=by
 have e:nN ⟨s.inputs++[⟨lo,hi,sl⟩],s.aF,s.code⟩=nN s+1:=by unfold nN;dsimp only;rw[List.length_append,List.length_singleton];omega
 have hI:s.inputs.length<=nN s:=by unfold nN;omega
 have h1:mZ ⟨s.inputs++[⟨lo,hi,sl⟩],s.aF,s.code⟩ ⟨s.inputs++[⟨lo,hi,sl⟩],s.aF,s.code⟩:=⟨λx hx=>by rw[e];exact(h.fit x hx).mono aa,Nat.le_refl _⟩
 have z:∀t:fE,rE t 0:=λt=>rE.small (Int.le_refl 0) aY
 have q:=yG (op:=1) (k:=(s.inputs.length:Int)) h1 aY (z _) (z _) ⟨Int.natCast_nonneg _,by rw[e];omega⟩
 exact⟨⟨q.1.fit,Nat.le_trans aa q.1.le⟩,q.2⟩
variable {c:dN}
theorem aes{n:ai}{vl:List Int}(hn:c.aj<=4096)(h:mZ s s)(hv:∀v∈vl,rE s v):mZ s (dh c n i s vl).1/\rE (dh c n i s vl).1 (dh c n i s vl).2:=by
 have z:∀t:fE,rE t 0:=λt=>rE.small (Int.le_refl 0) aY
 have hg:∀k,rE s (vl.getD k 0):=λk=>by
  by_cases hk:k<vl.length
  ·rw[List.getD_eq_getElem?_getD,List.getElem?_eq_getElem hk];exact hv _ (List.getElem_mem hk)
  ·rw[List.getD_eq_getElem?_getD,List.getElem?_eq_none aa];exact z s
 unfold dh
 repeat' split
 ·exact abU _ _ _ h
 ·exact zL _ 2 0 h aY (z s)
 ·exact yG h aY (hg _) (hg _) (z s)
 ·exact zL _ 5 _ h aY (hg _)
 ·exact agx h (hg _)
 ·exact⟨h,hg _⟩
 ·have q:=ae7 (n:=c.aj) (giant:=c.giant) (all:=(mW (jA (n0 n) (c.shapes.l.getD n.a.toNat fQ)).1.1 (c.bO.l.getD n.a.toNat fQ).xs (c.bO.l.getD i fQ).xs c.aj).1) h (hg n.a.toNat) hn (Nat.le_trans (OZ _ _ _ _) hn)
  unfold iC
  dsimp only
  split
  ·have r:=zL (jl c.aj (c.bO.l.getD i fQ).xs λe=>(jA (n0 n) (c.shapes.l.getD n.a.toNat fQ)).1.2.getD e 0) 4 _ q.1.here aY q.2
   exact⟨q.1.trans r.1,r.2⟩
  ·exact q
theorem Pj{c:dN}(hn:c.aj<=4096):∀(l:List ai) (i:Nat) (s:fE) (vl:List Int) (r:fE×List Int),mZ s s->(∀v∈vl,rE s v)->ig c l i s vl=some r->mZ r.1 r.1/\∀v∈r.2,rE r.1 v
 |[],_,_,_,_,h,hv,e=>by injection e with e;rw[<-e];exact⟨h,hv⟩
 |n::l,i,s,vl,r,h,hv,e=>by
  unfold ig at e
  split at e
  ·cases e
  ·have q:=aes (n:=n) (i:=i) hn h hv
   refine Pj hn l (i+1) _ _ r q.1.here (λv hv'=> ?_) e
   rcases List.mem_append.1 hv' with hv'|hv'
   ·exact(hv v hv').mono q.1.le
   ·rw[List.mem_singleton.1 hv'];exact q.2
end
structure au.lies(w:World)(u:au):Prop where
 rows:bu w u.base 1 (aN u.xs)
 bq:u.bq
structure a_.lies(w:World)(v:a_):Prop where
 rows:bu w v.base 1 (aS v.l)
 each:∀u∈v.l,u.lies w
 few:v.l.length<=1000000
theorem au.lies.later{w w':World}{R:Nat->Prop}{u:au}(h:u.lies w)(hb:(aO w).holds R w'):u.lies w':=⟨aA hb h.rows,h.bq⟩
theorem a_.lies.later{w w':World}{R:Nat->Prop}{v:a_}(h:v.lies w)(hb:(aO w).holds R w'):v.lies w':=⟨aA hb h.rows,λu hu=>(h.each u hu).later hb,h.few⟩
theorem yH(w:World)(x y:a_)(hx:x.lies w)(hy:y.lies w)(he:x.l.map au.xs=y.l.map au.xs):Calls Tryz.prog 38 #[x.val,y.val] w λe w'=>e= .returned (.bool true)/\Ext w w':=by
 have hl:x.l.length=y.l.length:=by have:=congrArg List.length he;simpa using this
 have hx1:=hx.few
 have hy1:=hy.few
 refine fH Tryz.func38 [.c x.val,.c y.val] ?_
 repeat' ((conv=>whnf)<;>first|refine bn ?_|refine ag ?_ ?_<;>intro _)
 all_goals(conv=>whnf)
 all_goals first|(exfalso;omega)|skip
 refine Wp.loop (σ:=Nat) 0 (λi=>[(0,.c x.val),(1,.c y.val),(13,ax x.l.length),(14,ax i)]) (λ_=>[]) (λ_=>aO w)
  (λi=>i<=x.l.length) (λi=>x.l.length-i) 0 [] aY (λ_=>⟨rfl,rfl⟩) (Nat.zero_le _) ⟨rfl,⟨rfl,rfl,rfl,rfl,trivial⟩,trivial,λ_ _ h=>h⟩ ?_
 intro i hi
 by_cases hlt:i<x.l.length
 ·have hlt2:i<y.l.length:=by omega
  obtain⟨xa,hxa⟩:∃a,x.base=some a:=aP (j:=i) hx.rows Mw
  obtain⟨ya,hya⟩:∃a,y.base=some a:=aP (j:=i) hy.rows (by rw[aW];exact hlt2)
  have hxy:x.l[i].xs=y.l[i].xs:=by
   have:=congrArg (λl:List (List Int)=>l[i]?) he
   simpa[hlt,hlt2]using this
  have Re:=dF hlt
  have hyr:=dF hlt2
  have hxs:=hx.each _ (List.getElem_mem hlt)
  have hys:=hy.each _ (List.getElem_mem hlt2)
  generalize x.l[i]=u at*
  generalize y.l[i]=v at*
  have huv:u.xs.length=v.xs.length:=congrArg List.length hxy
  have hu1:=hxs.bq.few
  repeat' ((conv=>whnf)<;>first|(show bV ..;(first|refine aH xa i hxa rfl hlt ?_|refine aH ya i hya rfl hlt2 ?_))|(show fT ..;(first|refine bA (xs:=aS x.l) (λR w' h=>by rw[<-hxa];exact aA h hx.rows) _ _ Re rfl ?_|refine bA (xs:=aS y.l) (λR w' h=>by rw[<-hya];exact aA h hy.rows) _ _ hyr rfl ?_))|(show @eZ _ _ _;refine dA aa ?_)|refine bn ?_|refine ag ?_ ?_<;>intro _)
  all_goals(conv=>whnf)
  refine Wp.loop (σ:=Nat) 2 (λk=>[(0,.c x.val),(1,.c y.val),(5,ax i),(13,ax x.l.length),(14,ax i),(32,ax u.xs.length),(33,ax k)]) (λ_=>[]) (λ_=>aO w)
   (λk=>k<=u.xs.length) (λk=>u.xs.length-k) 0 [] aY (λ_=>⟨rfl,rfl⟩) (Nat.zero_le _) ⟨rfl,⟨rfl,rfl,rfl,rfl,rfl,rfl,rfl,trivial⟩,trivial,λ_ _ h=>h⟩ ?_
  intro k hk
  by_cases hkt:k<u.xs.length
  ·have afM:k<v.xs.length:=by omega
   obtain⟨ua,jD⟩:∃a,u.base=some a:=aP (j:=k) hxs.rows (by rw[aJ];exact hkt)
   obtain⟨va,hva⟩:∃a,v.base=some a:=aP (j:=k) hys.rows (by rw[aJ];exact afM)
   obtain⟨z,hz⟩:∃z,u.xs.getD k 0=z:=⟨_,rfl⟩
   have hz2:v.xs.getD k 0=z:=by rw[<-hxy];exact hz
   repeat' ((conv=>whnf)<;>first|(show bV ..;(first|refine aH xa i hxa rfl hlt ?_|refine aH ya i hya rfl hlt2 ?_|refine aH ua k jD rfl hkt ?_|refine aH va k hva rfl afM ?_))|(show fT ..;(first|refine bA (xs:=aS x.l) (λR w' h=>by rw[<-hxa];exact aA h hx.rows) _ _ Re rfl ?_|refine bA (xs:=aS y.l) (λR w' h=>by rw[<-hya];exact aA h hy.rows) _ _ hyr rfl ?_|refine kz (λR w' h=>by rw[<-jD];exact aA h hxs.rows) (j:=k) hkt hz ?_|refine kz (λR w' h=>by rw[<-hva];exact aA h hys.rows) (j:=k) afM hz2 ?_))|(show @eZ _ _ _;refine dA (λh=>h rfl) ?_)|refine bn ?_|refine ag ?_ ?_<;>intro _)
   all_goals(conv=>whnf)
   exact⟨k+1,[],hkt,by omega,rfl,bM,trivial,λ_ _ h=>h⟩
  ·repeat' ((conv=>whnf)<;>first|refine bn ?_|refine ag ?_ ?_<;>intro _)
   all_goals(conv=>whnf)
   exact⟨i+1,[],hlt,by omega,rfl,bM,trivial,λ_ _ h=>h⟩
 ·repeat' ((conv=>whnf)<;>first|refine bn ?_|refine ag ?_ ?_<;>intro _)
  all_goals(conv=>whnf)
  exact bf (λ_ _ h=>h) rfl rfl
abbrev ame:DT:=(eY [0,1,2,3,4,5,6,7,8,9,10,11,12,13,14,15,16,17,18,19,20,21,22,23,24,25,26,27,28,29,31,32,33,34,35] (.alt 30 (eY [136,137,38,39] .done) (eY [136,130,137,38,39] .done)))
theorem Ke{l:List qo}{k:Nat}(h:k<l.length):(iP l)[k]? =some l[k].cells:=by simp[iP,h]
theorem xE{w:World}{N:Nat}{R:Nat->Prop}{u:au}{b:Option Addr}{c:Nat}(h:((fC b 1 (aS [u])).past N).holds R w)(hu:u.lies w):a_.lies w ⟨b,c,[u]⟩:=⟨aV ((fC b 1 (aS [u])).mono h (λb hb=>hb.1)),λv hv=>by rw[List.mem_singleton.1 hv];exact hu,Nat.le_of_ble_eq_true rfl⟩
theorem Qq(w:World)(xb:Option Addr)(xc:Nat)(x:List qo)(yb:Option Addr)(yc:Nat)(y:List qo)(hx:bu w xb 3 (iP x))(hy:bu w yb 3 (iP y))(hxs:∀e∈x,e.aj.lies w)(hys:∀e∈y,e.aj.lies w)(oz:x.length<=1000000)(he:x.map qo.pl=y.map qo.pl):Calls Tryz.prog 37 #[.slice xb x.length xc,.slice yb y.length yc] w λe w'=>e= .returned (.bool true)/\Ext w w':=by
 have hl:x.length=y.length:=by have:=congrArg List.length he;simpa using this
 refine fH Tryz.func37 [.c (.slice xb x.length xc),.c (.slice yb y.length yc)] ?_
 repeat' ((conv=>whnf)<;>first|refine aX ?_|refine ag ?_ ?_<;>intro _)
 all_goals(conv=>whnf)
 all_goals first|(exfalso;omega)|skip
 refine Wp.loop (σ:=Nat) 0 (λi=>[(0,.c (.slice xb x.length xc)),(1,.c (.slice yb y.length yc)),(12,ax x.length),(13,ax i)]) (λ_=>[]) (λ_=>aO w)
  (λi=>i<=x.length) (λi=>x.length-i) 0 [] aY (λ_=>⟨rfl,rfl⟩) (Nat.zero_le _) ⟨rfl,⟨rfl,rfl,rfl,rfl,trivial⟩,trivial,λ_ _ h=>h⟩ ?_
 intro i hi
 by_cases hlt:i<x.length
 ·have hlt2:i<y.length:=by omega
  obtain⟨xa,hxa⟩:∃a,xb=some a:=aP (j:=i) hx (by rw[nO];exact hlt)
  obtain⟨ya,hya⟩:∃a,yb=some a:=aP (j:=i) hy (by rw[nO];exact hlt2)
  have hxy:x[i].pl=y[i].pl:=by
   have:=congrArg (λl:List abL=>l[i]?) he
   simpa[hlt,hlt2]using this
  have Re:=Ke hlt
  have hyr:=Ke hlt2
  have hxu:=hxs _ (List.getElem_mem hlt)
  have hyu:=hys _ (List.getElem_mem hlt2)
  generalize x[i]=u at*
  generalize y[i]=v at*
  obtain⟨lo,hi',us⟩:=u
  obtain⟨lo2,hi2,vs⟩:=v
  have h1:lo=lo2:=congrArg abL.lo hxy
  have h2:hi'=hi2:=congrArg abL.hi hxy
  have h3:us.xs=vs.xs:=congrArg abL.aj hxy
  subst h1 h2
  repeat' ((conv=>whnf)<;>first|(show jT ..;(first|refine lM (w0:=w) [us] (λR w' h=>h) rfl rfl (λb1 c1 _=> ?_)|refine lM (w0:=w) [us] (λR w' h=>h.1) rfl rfl (λb1 c1 _=> ?_)|refine lM (w0:=w) [vs] (λR w' h=>h) rfl rfl (λb2 c2 _=> ?_)|refine lM (w0:=w) [vs] (λR w' h=>h.1) rfl rfl (λb2 c2 _=> ?_)))|(show aI _ 38 ..;(first|refine aQ (f:=38) Tryz.call38 (.bool true) (λρ w' hw=>yH w' ⟨b1,c1,[us]⟩ ⟨b2,c2,[vs]⟩ (ae hw λR h=>xE h.1.2 (hxu.later h.1.1)) (ae hw λR h=>xE h.2 (hyu.later h.1.1)) (congrArg (λz=>[z]) h3)) ?_|refine aQ (f:=38) Tryz.call38 (.bool true) (λρ w' hw=>yH w' ⟨b1,c1,[us]⟩ ⟨b2,c2,[vs]⟩ (ae hw λR h=>xE h.2 (hxu.later h.1.1)) (ae hw λR h=>xE h.1.2 (hyu.later h.1.1)) (congrArg (λz=>[z]) h3)) ?_))|(show bV ..;(first|refine aH xa i hxa rfl hlt ?_|refine aH ya i hya rfl hlt2 ?_))|(show fT ..;(first|refine PX (xs:=iP x) (λR w' h=>by rw[<-hxa];exact aA h hx) _ _ Re rfl ?_|refine PX (xs:=iP y) (λR w' h=>by rw[<-hya];exact aA h hy) _ _ hyr rfl ?_|refine bA (xs:=iP x) (λR w' h=>by rw[<-hxa];exact aA h hx) _ _ Re rfl ?_|refine bA (xs:=iP y) (λR w' h=>by rw[<-hya];exact aA h hy) _ _ hyr rfl ?_))|(show @eZ _ _ _;refine dA (λh=>h rfl) ?_)|(show b_ _ 6 ..;refine lu [] _ ame ?_)|refine aX ?_|refine ag ?_ ?_<;>intro _|refine And.intro ?_ ?_)
  all_goals(conv=>whnf)
  all_goals exact⟨i+1,[],hlt,by omega,rfl,bM,trivial,λ_ _ h=>h.1.1⟩
 ·repeat' ((conv=>whnf)<;>first|refine aX ?_|refine ag ?_ ?_<;>intro _)
  all_goals(conv=>whnf)
  exact bf (λ_ _ h=>h) rfl rfl
section
abbrev alZ:DT:=(eY [0,1,2,3,4,5,6,107,108] .done)
variable {f:Int->Int->Int} {l:List Int}
theorem Ko{x:Int}{i:Nat}(h:i<l.length):(l.take (i+1)).foldl f x=f ((l.take i).foldl f x) (l.getD i 0):=by
 have e:l.getD i 0=l[i]:=by rw[List.getD_eq_getElem?_getD,List.getElem?_eq_getElem h];rfl
 rw[List.take_succ_eq_append_getElem h,List.foldl_append,e];rfl
theorem K7(hf:∀x,f x x=x)(h:1<=l.length):l.foldl f (l.getD 0 0)=foldI f l:=by
 cases l with
 |nil=>simp at h
 |cons x r=>show(r.foldl f (f x x))=r.foldl f x;rw[hf]
theorem wY(w:World)(l:au)(hl:l.ok w)(h1:1<=l.xs.length):Calls Tryz.prog 89 #[l.val] w λe w'=>e= .returned (jy (foldI min l.xs,foldI max l.xs))/\Ext w w':=by
 obtain⟨ua,jD⟩:=hl.base h1
 have hur:∀(R:Nat->Prop) w',(aO w).holds R w'->bu w' (some ua) 1 (aN l.xs):=λR w' h=>by rw[<-jD];exact aA h hl.rows
 have hf:=hl.few
 refine fH Tryz.func89 [.c l.val] ?_
 repeat' ((conv=>whnf)<;>first|(show bV ..;refine aH ua 0 jD rfl aa ?_)|(show fT ..;refine bY hur (j:=0) aa ?_)|(show b_ _ 1 ..;refine lu [8] _ alZ ?_)|refine aX ?_)
 all_goals refine Wp.loop (σ:=Nat) 2 (λi=>[(2,.lp 0 0 0 0),(3,.lp 1 0 0 0),(13,.c l.val),(14,ax l.xs.length),(15,ax i)]) (λi=>[(1,.box [ax ((l.xs.take i).foldl min (l.xs.getD 0 0)),ax ((l.xs.take i).foldl max (l.xs.getD 0 0))] 58),(0,.box [ax 0,ax 0] 58)]) (λ_=>aO w) (λi=>i<=l.xs.length) (λi=>l.xs.length-i) 0 [] aY (λs=>⟨rfl,rfl⟩) (Nat.zero_le _) ⟨rfl,⟨rfl,rfl,rfl,rfl,rfl,trivial⟩,bM,λ_ _ h=>h⟩ ?_
 all_goals rintro i hi
 all_goals by_cases hlt:i<l.xs.length
 ·repeat' ((conv=>whnf)<;>first|(show bV ..;refine aH ua i jD rfl hlt ?_)|(show fT ..;refine bY hur (j:=i) hlt ?_)|refine aX ?_|refine ag ?_ ?_<;>intro _)
  all_goals(conv=>whnf)
  all_goals exact⟨i+1,[],hlt,by omega,rfl,bM,⟨by rw[Ko hlt,Ko hlt];first|(rw[Int.min_eq_left aa,Int.max_eq_left aa];exact aU)|(rw[Int.min_eq_left aa,Int.max_eq_right aa];exact aU)|(rw[Int.min_eq_right aa,Int.max_eq_left aa];exact aU)|(rw[Int.min_eq_right aa,Int.max_eq_right aa];exact aU),aU,trivial⟩,λ_ _ h=>h⟩
 ·obtain rfl:i=l.xs.length:=by omega
  rw[List.take_of_length_le (Nat.le_refl _),K7 aa h1,K7 aa h1]
  repeat' ((conv=>whnf)<;>first|refine aX ?_|refine ag ?_ ?_<;>intro _)
  all_goals(conv=>whnf)
  all_goals exact cz (λ_ _ h=>h) (λ_=>rfl) rfl
theorem Cs(w:World)(k:Int):Calls Tryz.prog 90 #[.int .i64 k] w λe w'=>e= .returned (.bool (decide (k=3\/k=4\/k=5)))/\Ext w w':=by
 refine fH Tryz.func90 [ax k] ?_
 repeat' ((conv=>whnf)<;>first|refine aX ?_|refine ag ?_ ?_<;>intro _)
 all_goals(conv=>whnf)
 all_goals exact cz (λ_ _ h=>h) (λ_=>by first|(rw[decide_eq_true aa];rfl)|(rw[decide_eq_false aa];rfl)) rfl
theorem Ms(w:World)(c b a v:Int)(hc:cK c)(hb:cK b)(ha:cK a)(hv:cK v):Calls Tryz.prog 92 #[.int .i64 c,.int .i64 b,.int .i64 a,.int .i64 v] w λe w'=>e= .returned (.int .i64 (a*v*v+b*v+c))/\Ext w w':=by
 obtain⟨h1,h2,h3⟩:=Rf ha hb hc hv
 unfold cK at hc
 refine fH Tryz.func92 [ax c,ax b,ax a,ax v] ?_
 repeat' ((conv=>whnf)<;>first|refine aX ?_|refine ag ?_ ?_<;>intro _)
 all_goals(conv=>whnf)
 all_goals exact cz (λ_ _ h=>h) (λ_=>rfl) rfl
end
section
theorem VP{cx:Cx}{f:FuncId}{args:List SV}{H:Heap}{S:bN}{nx:Nat}{K:SV->Heap->bN->Nat->Prop}(n:ai)(tl:List Int)(cnt:Nat)(hf:∀ar w,(callFunc f ar).run cx.P w= .ok (.enter f ar) w)
 (hc:∀ρ w',eD cx.B ρ nx H S w'->Calls cx.P f (SV.eO ρ args).toArray w' (tY w' n tl cnt))
 (h:∀x:Lu,B_ n tl cnt x->K (.c x.val) H (S.and ((vH x).past cx.B.w0.heap.size)) nx):aI cx f args H S nx K:=by
 rw[gN]
 refine⟨hf,λρ w hw=>(hc ρ w hw).mono ?_⟩
 rintro e w' ⟨x,hx,rfl,he,hD⟩
 exact⟨.c x.val,ρ,H,_,nx,rfl,λ_ _=>rfl,Nat.le_refl _,SV.jk _,hw.grow he hD,h x hx⟩
theorem Yr(g:Nat->Int->Int)(B:Int):∀{l:List Int} {i:Nat},(∀k w,w∈l-> -B<=g k w/\g k w<=B)-> -(l.length*B)<=l_ g i l/\l_ g i l<=l.length*B
 |[],i,_=>by simp[l_]
 |x::r,i,h=>by
  have h1:=h i x List.mem_cons_self
  have h2:=Yr g B (l:=r) (i:=i+1) (λk w hw=>h k w (List.mem_cons_of_mem _ hw))
  rw[l_,List.length_cons,Int.natCast_add,Int.add_mul]
  simp only[Int.natCast_one,Int.one_mul]
  omega
theorem EK(g:Nat->Int->Int){l:List Int}{j:Nat}(hj:j<=64)(h:∀k w,w∈l-> -1099511627776<=g k w/\g k w<=1099511627776): -70368744177664<=l_ g 0 (l.take j)/\l_ g 0 (l.take j)<=70368744177664:=by
 have:=Yr g 1099511627776 (l:=l.take j) (i:=0) (λk w hw=>h k w (List.mem_of_mem_take hw))
 rw[List.length_take]at this
 have e:((min j l.length:Nat):Int)<=64:=by omega
 omega
variable {sh:List (List Int)} {s t:List Int} {cnt o:Nat}
theorem Ps{n:ai}(h:fu n sh s t cnt)(hk:n.ak=3)(ho:o<cnt):o*(az t).toNat+(az t).toNat<=n.data.xs.length:=by
 have hsh:=h.node.ay
 have hc:=h.cnt
 obtain⟨hf,hgp⟩:=h.first (.inl hk)
 obtain⟨b1,b2⟩:=(dM h.node.form).aM hk
 unfold bR at hsh
 rw[if_neg aa,if_pos hk,hf]at hsh
 split at hsh
 ·rename_i hdl
  rw[Option.some.injEq]at hsh
  have he1:az [(n.aM.xs.length:Int)]=n.aM.xs.length:=by
   unfold az
   rw[if_neg fP]
   simp only[fF]
   rw[if_neg aa]
   omega
  rw[<-hsh,he1]at hc
  obtain⟨size,hsz⟩:∃size:Nat,az t=size:=⟨(az t).toNat,by omega⟩
  have RD:n.data.xs.length=n.aM.xs.length*size:=by
   rw[hsz,<-Int.natCast_mul]at hdl
   exact Int.ofNat.inj hdl
  rw[hsz,Int.toNat_natCast]
  have:(o+1)*size<=n.aM.xs.length*size:=Nat.mul_le_mul_right _ aa
  rw[Nat.add_mul,Nat.one_mul]at this
  omega
 ·cases hsh
theorem YQ{n:ai}(h:fu n sh s t cnt)(ho:o<cnt):(iI n t o).length=(az t).toNat:=by
 unfold iI
 split
 ·rename_i hk
  have:=Ps h hk ho
  rw[List.length_take,List.length_drop];omega
 ·rw[uf,List.length_replicate]
theorem afl{n:ai}{t:au}(h:fu n sh s t.xs cnt)(hl:dX n)(o:Nat):∀x∈iI n t.xs o,cK x:=by
 obtain⟨nd,nb,_,_,_⟩:=r9 h.node.near
 intro x hx
 unfold iI at hx
 split at hx
 ·exact nd x (List.mem_of_mem_drop (List.mem_of_mem_take hx))
 ·rename_i hk3
  refine Qf _ _ (λy hy=>by rw[(List.mem_replicate.1 hy).2];exact⟨by decide,by decide⟩) (λu hu=> ?_) x hx
  unfold bS at hu
  rw[if_neg hk3]at hu
  split at hu
  ·exact RV nd rfl u hu
  ·exact TV rfl u hu
theorem I6{n:ai}(nb:∀x∈n.aM.xs,cK x)(cnt o:Nat):cK (dI n cnt o):=by
 unfold dI
 split
 ·exact dO nb _
 ·split
  ·exact dO nb _
  ·exact⟨by decide,by decide⟩
variable {tl:List Int} {x:Lu}
theorem B_.row{n:ai}(h:B_ n tl cnt x)(ho:o<x.rows.l.length):x.rows.l.length=cnt/\x.rows.l[o].xs=iI n tl o/\x.aM.xs.length=cnt/\x.aM.xs.getD o 0=dI n cnt o:=by
 have h1:x.rows.l.length=cnt:=by
  have:=congrArg List.length h.rows
  simpa[yF]using this
 have h2:(x.rows.l.map au.xs)[o]? =((List.range cnt).map (iI n tl))[o]? :=by rw[h.rows];rfl
 rw[List.getElem?_map,List.getElem?_eq_getElem ho,List.getElem?_map,List.getElem?_range aa]at h2
 have h3:x.aM.xs.length=cnt:=by rw[h.aM];simp[uz]
 refine⟨h1,by simpa using h2,h3,?_⟩
 rw[h.aM,uz,List.getD_eq_getElem?_getD,List.getElem?_map,List.getElem?_range aa];rfl
theorem B_.count{n:ai}(h:B_ n tl cnt x):x.rows.l.length=cnt:=by
 have:=congrArg List.length h.rows
 simpa[yF]using this
variable {w':World} {R:Nat->Prop} {N:Nat}
theorem B_.PL{n:ai}(h:B_ n tl cnt x){w:World}(hno:n.ok w')(hD:((vH x).past N).holds R w'):∀u∈x.rows.l,u.ok w':=λu hu=>by
 cases hx:x.own with
 |true=>exact bT (h.bq u hu) ((hD.2 hx).1 u hu)
 |false=>exact(h.old hx).2 w' hno.data u hu
theorem B_.P7{n:ai}(h:B_ n tl cnt x){w:World}(hno:n.ok w')(hD:((vH x).past N).holds R w'):x.aM.ok w':=by
 cases hx:x.own with
 |true=>exact bT h.xX (hD.2 hx).2
 |false=>rw[(h.old hx).1];exact hno.aM
end
section
structure ZB(n:ai)(r:List (List Int)×List Int)(x:Lu):Prop where
 rows:x.rows.l.map au.xs=r.1
 aM:x.aM.xs=r.2
 bq:∀u∈x.rows.l,u.bq
 xX:x.aM.bq
 old:x.own=false->x.aM=n.aM/\∀w,n.data.ok w->∀u∈x.rows.l,u.ok w
def Iy(w:World)(n:ai)(r:(List (List Int)×List Int)×Int)(e:Ending)(w':World):Prop:=
 ∃x:Lu,ZB n r.1 x/\e= .returned (.tuple #[x.rows.val,x.aM.val,.int .i64 r.2])/\Ext w w'/\(vH x).holds (λb=>w.heap.size<=b/\b<w'.heap.size) w'
variable {sh:List (List Int)} {s t:List Int} {cnt:Nat}
theorem X6{n:ai}(h:fu n sh s t cnt)(hl:dX n){o:Nat}(ho:o<cnt):(iI n t o).length=(az t).toNat:=by
 unfold iI
 split
 ·rename_i hk
  have:=Ps h hk ho
  rw[List.length_take,List.length_drop];omega
 ·rw[uf,List.length_replicate]
theorem aa5{n:ai}(h:fu n sh s t cnt)(hl:dX n):yF n t cnt=tQ n t cnt:=by
 have h9:n.ak≠9:=by rcases hl with g|g|g<;>omega
 have hb:=dQ t
 unfold yF tQ
 refine List.map_congr_left λo ho=> ?_
 have ho':=List.mem_range.1 ho
 have hl1:=X6 h hl ho'
 apply List.ext_getElem
 ·rw[hl1,jQ]
 ·intro i h1 h2
  rw[jQ]at h2
  have:=X8 h hl (o:=o) (i:=i) aa
  have e1:(iI n t o).getD i 0=(iI n t o)[i]:=by simp[List.getD,h1]
  rw[e1]at this
  rw[this]
  simp[D7,h9]
def ku(E o:Nat):List Int:=(List.replicate E 0).set o 1
theorem XX{n:ai}(h9:n.ak=9){E:Nat}(hE:(az t).toNat=E):tQ n t E=(List.range E).map (ku E):=by
 unfold tQ
 refine List.map_congr_left λo ho=> ?_
 apply List.ext_getElem
 ·rw[jQ,hE];simp[ku]
 ·intro i h1 h2
  rw[jQ,hE]at h1
  have e:(D7 n t o)[i]=Rn o i:=by simp[D7,h9]
  rw[e]
  have e2:(ku E o)[i]=if o=i then 1 else 0:=by
   simp only[ku,List.getElem_set]
   split
   ·rfl
   ·simp
  rw[e2]
  unfold Rn
  by_cases g:o=i
  ·rw[if_pos (by rw[g]),if_pos g]
  ·rw[if_neg aa,if_neg g]
theorem Z5{n:ai}(h9:n.ak=9)(E:Nat):(List.range E).map (dI n E)=List.replicate E 0:=by
 apply List.ext_getElem
 ·simp
 ·intro i h1 h2
  simp[dI,h9]
theorem ad6{n:ai}(h:RowsIn n t s cnt)(ha:n.a=0)(h9:n.ak=9):(az t).toNat=cnt:=by
 have hsh:=h.place.node.ay
 have hc:=h.place.cnt
 unfold bR at hsh
 rw[if_neg aa,if_neg aa,if_neg aa,if_neg aa,if_neg aa,if_pos h9,ha]at hsh
 split at hsh
 ·rename_i he
  have:n.ay.xs=s:=Option.some.inj hsh
  rw[this]at he
  have e2:([t]:List (List Int)).getD (Int.toNat 0) []=t:=rfl
  rw[e2]at he
  omega
 ·cases hsh
end
abbrev amG:DT:=(eY [0,1,3,102,4,5] .done)
theorem F_{w w':World}{n:ai}{r:(List (List Int)×List Int)×Int}{e:Ending}(h:qC w r e w'):Iy w n r e w':=by
 obtain⟨x,y,⟨h1,h2,h3⟩,h4,h5,h6,h7⟩:=h
 exact⟨⟨x,y,true⟩,⟨h1.rows,h2,h1.bq,h3,λe=>(by cases e)⟩,h4,h5,h6.1,λ_=>⟨h6.2,h7⟩⟩
theorem V_(w:World)(n:ai)(t:au)(hn:n.ok w)(hsm:n.small)(ht:t.ok w)(hno:¬nD n t):Calls Tryz.prog 85 #[n.j3,t.val] w (qC w (jA n t)):=by
 by_cases hk:(dX n\/n.ak=9)/\n.a=0
 ·have hkk:=hk
  unfold dX at hk
  refine fH Tryz.func85 [.agg (jN n),.c t.val] ?_
  repeat' ((conv=>whnf)<;>first|refine uT ?_|refine ag ?_ ?_<;>intro _)
  all_goals first|(exfalso;omega)|skip
  all_goals
   repeat' ((conv=>whnf)<;>first|refine uT ?_|refine ag ?_ ?_<;>intro _)
   refine lm 0 (λ_ _ _ _ hb=>absurd hb (Nat.not_lt_zero _)) (λl1 hl1=> ?_)
   repeat' ((conv=>whnf)<;>first|(show aI _ 34 ..;(refine Ag (f:=34) (wN n t) Tryz.call34 (λρ w' hw=>by have:=qR w' ⟨l1.base,l1.cap,[inpN t,n],1⟩ (ae hw λR h=>Q_ (hn.later h.1) hsm (ht.later h.1) h.2);rw[Ik]at this;exact this) (λhne=> ?_) (λhe sv hm hsv hsb=>absurd ⟨hkk.1,hkk.2,he⟩ hno)))|(show @eZ _ _ _;(first|refine cu aa ?_|refine dA (λh=>h rfl) ?_))|refine uT ?_)
   all_goals(conv=>whnf)
   all_goals first|exact uO hno (λ_ _ h=>h.1) rfl|exact uO hno (λ_ _ h=>h.1.1) rfl
 ·unfold dX at hk
  refine fH Tryz.func85 [.agg (jN n),.c t.val] ?_
  repeat' ((conv=>whnf)<;>first|refine uT ?_|refine ag ?_ ?_<;>intro _)
  all_goals first|(exfalso;omega)|skip
  all_goals(conv=>whnf)
  all_goals first|(exfalso;omega)|exact uO hno (λ_ _ h=>h) rfl
theorem SK(w:World)(n:ai)(t:au)(hn:n.ok w)(hsm:n.small)(ht:t.ok w)(hok:nD n t)(hl:dX n):Calls Tryz.prog 85 #[n.j3,t.val] w (Iy w n (jA n t)):=by
 obtain⟨s,hsh,hcs,hR⟩:=Eb hok
 rw[jA,if_pos hok]
 obtain⟨cnt,hce⟩:∃c,wD n t=c:=⟨_,rfl⟩
 rw[hce]at hcs hR|-
 have ha:=hok.2.1
 have hl':=hl
 unfold dX at hl'
 refine fH Tryz.func85 [.agg (jN n),.c t.val] ?_
 repeat' ((conv=>whnf)<;>first|refine uT ?_|refine ag ?_ ?_<;>intro _)
 all_goals first|(exfalso;omega)|skip
 all_goals
  repeat' ((conv=>whnf)<;>first|refine uT ?_|refine ag ?_ ?_<;>intro _)
  refine lm 0 (λ_ _ _ _ hb=>absurd hb (Nat.not_lt_zero _)) (λl1 hl1=> ?_)
  repeat' ((conv=>whnf)<;>first|(refine ahL ?_;intro he sv hm hsv hsb)|(show @eZ _ _ _;(first|refine cu aa ?_|refine dA (λh=>h rfl) ?_))|(show aI _ 91 ..;refine VP n t.xs cnt Tryz.call91 (λρ w' hw=>PR w' n [t.xs] s t cnt hR.place hl (ae hw λR h=>hn.later h.1.1) (ae hw λR h=>ht.later h.1.1)) (λx hx=> ?_))|refine uT ?_)
  all_goals(conv=>whnf)
  refine dH λρ w' hw=>⟨x,⟨by rw[hx.rows];exact aa5 hR.place hl,hx.aM,hx.bq,hx.xX,hx.old⟩,rfl,aZ hw (λ_ _ h=>h.1.1.1),oC hw λR w' h=>h.2⟩
structure Bw(E o:Nat)(L:List iK):Prop where
 len:L.length=E
 is:∀k p,L[k]? =some p->if k<o then(∃b off,p.1.base=some ⟨b,off,none⟩)/\E<=p.1.cap/\p.2=ku E k else p=(⟨none,0⟩,[])
theorem Bw.next{E o:Nat}{L:List iK}{l:SX.Loc}(h:Bw E o L)(ho:o<E)(hl:∃b off,l.base=some ⟨b,off,none⟩)(hc:E<=l.cap):Bw E (o+1) (L.set o (l,ku E o)):=by
 refine⟨by rw[List.length_set];exact h.len,λk p hp=> ?_⟩
 rw[List.getElem?_set]at hp
 by_cases e:o=k
 ·rw[if_pos e,if_pos (by rw[h.len];exact ho)]at hp
  have:(l,ku E o)=p:=by simpa using hp
  subst this
  rw[if_pos aa]
  exact⟨hl,hc,by rw[e]⟩
 ·rw[if_neg e]at hp
  have:=h.is k p hp
  by_cases g:k<o
  ·rw[if_pos g]at this;rw[if_pos aa];exact this
  ·rw[if_neg g]at this;rw[if_neg aa];exact this
theorem Bw.take{E o:Nat}{L:List iK}{l:SX.Loc}{x:List Int}(h:Bw E o L)(ho:o<E):(L.set o (l,x)).take (o+1)=L.take o++[(l,x)]:=by
 have hl:o<L.length:=by rw[h.len];exact ho
 rw[List.take_succ_eq_append_getElem (by rw[List.length_set];exact hl),List.getElem_set_self,List.take_set_of_le (Nat.le_refl _)]
theorem Xb(L:List iK)(l:SX.Loc)(x:List Int){m k:Nat}(hm:m=L.length)(hk:k=x.length){i:Nat}{T:TypeId}{H:Heap}:(i,bZ.rows (gI (L++[(l,x)])) 1 T)∈(i,bZ.rows (List.take m (gI L)++[[.slice l.base k l.cap]]) 1 T)::H:=by
 subst hm hk
 rw[show gI (L++[(l,x)])=List.take L.length (gI L)++[[.slice l.base x.length l.cap]] by rw[List.take_of_length_le (by rw[uk];exact Nat.le_refl _)];simp[gI,H6]]
 exact List.mem_cons_self
theorem XB(b off k:Nat):(⟨b,off,none⟩:Addr).add (k*1)=⟨b,off+k,none⟩:=by simp[Addr.add]
theorem vP(E o:Nat):(ku E o).length=E:=by simp[ku]
theorem Qo(w:World)(n:ai)(t:au)(hn:n.ok w)(hsm:n.small)(ht:t.ok w)(hok:nD n t)(h9:n.ak=9):Calls Tryz.prog 85 #[n.j3,t.val] w (qC w (jA n t)):=by
 obtain⟨s,hsh,hcs,hR⟩:=Eb hok
 have hfc:=ad6 hR hok.2.1 h9
 rw[jA,if_pos hok]
 obtain⟨E,hce⟩:∃c,wD n t=c:=⟨_,rfl⟩
 rw[hce]at hcs hR hfc|-
 have ha:=hok.2.1
 have hcnt:=hR.place.few
 have hE:az t.xs=(E:Int):=by have:=hR.size;omega
 rw[XX h9 hfc,Z5 h9]
 refine fH Tryz.func85 [.agg (jN n),.c t.val] ?_
 repeat' ((conv=>whnf)<;>first|refine uT ?_|refine ag ?_ ?_<;>intro _)
 all_goals first|(exfalso;omega)|skip
 repeat' ((conv=>whnf)<;>first|refine uT ?_|refine ag ?_ ?_<;>intro _)
 refine lm 0 (λ_ _ _ _ hb=>absurd hb (Nat.not_lt_zero _)) (λl1 hl1=> ?_)
 repeat' ((conv=>whnf)<;>first|(refine ahL ?_;intro he sv hm hsv hsb)|(show @eZ _ _ _;(first|refine cu aa ?_|refine dA (λh=>h rfl) ?_|refine dA (λh=>h h9) ?_))|(show aI _ 42 ..;(refine aQ (f:=42) Tryz.call42 (.int .i64 (E:Nat)) (λρ w' hw=>by have:=jq w' t.base t.cap t.xs (ae hw λR h=>aA h.1.1 ht.rows);rw[hE]at this;exact this) ?_))|refine uT ?_)
 all_goals(conv=>whnf)
 refine Wp.grp 3 E ?_
 refine Wp.loop (σ:=Nat×List iK) 6 (λx=>[(12,ax (E:Nat)),(13,.os 5 x.1),(14,ax x.1)]) (λx=>[(5,.rows (gI (x.2.take x.1)) 1 32),(3,.ext (mK 3 (kC x.2)))]) (λ_=>aO w)
  (λx=>x.1<=E/\Bw E x.1 x.2) (λx=>E-x.1) (0,xq E) [(5,none)] aY (λ_=>⟨rfl,rfl⟩)
  ⟨Nat.zero_le _,by simp[xq],λk p hp=>by rw[if_neg (Nat.not_lt_zero k)];exact(List.mem_replicate.1 (List.mem_of_getElem? hp)).2⟩ ⟨rfl,⟨rfl,rfl,rfl,trivial⟩,⟨rfl,?_,trivial⟩,λ_ _ h=>h.1.1⟩ ?_
 ·show(3,bZ.ext (mK 3 (kC (xq E))))∈_
  rw[Lr]
  exact aU
 rintro⟨o,L⟩ ⟨ho,hL⟩
 dsimp only at ho hL
 by_cases hoE:o<E
 ·have hoL:o<L.length:=by rw[hL.len];exact hoE
  have hq:L[o]? =some (⟨none,0⟩,[]):=by
   have h1:L[o]? =some L[o]:=List.getElem?_eq_getElem hoL
   have:=hL.is o _ h1
   rw[if_neg (Nat.lt_irrefl o)]at this
   rw[h1,this]
  repeat' ((conv=>whnf)<;>first|(show mJ ..;(refine jC E rfl rfl DI aa ?_))|refine uT ?_|refine ag ?_ ?_<;>intro _)
  all_goals(conv=>whnf)
  refine EM (T:=3) (g:=3) (d:=o) (us:=[]) (l0:=⟨none,0⟩) (L:=kC L) (vs:=List.replicate E (.int .i64 0)) ?_ (Ae hq) rfl rfl (by rw[qG,List.map_replicate]) Oz (λl hlc hlb=> ?_)
  ·exact aU
  rw[List.length_replicate]at hlc
  have hnext:=hL.next hoE hlb hlc
  have htake:=hL.take (l:=l) (x:=ku E o) hoE
  obtain⟨b,off,hlb⟩:=hlb
  have hgs:((kC L).set o (l,List.replicate E (.int .i64 0)))[o]? =some (l,List.replicate E (.int .i64 0)):=List.getElem?_set_self (by rw[kC,List.length_map];exact hoL)
  have eg:kC (L.set o (l,ku E o))=((kC L).set o (l,List.replicate E (.int .i64 0))).set o (l,(List.replicate E (Value.int .i64 0)).set o (.int .i64 1)):=by
   rw[zT,List.set_set];simp[ku,List.map_set]
  repeat' ((conv=>whnf)<;>first|(show bV ..;refine aH ⟨b,off,none⟩ o hlb rfl aa ?_)|(show wrK ..;(refine Jm (g:=3) (d:=o) (s:=o) (l:=l) (vs:=List.replicate E (.int .i64 0)) (List.mem_cons_of_mem _ List.mem_cons_self:(3,bZ.ext (mK 3 ((kC L).set o (l,List.replicate E (.int .i64 0)))))∈[(5,bZ.rows (gI (L.take o)) 1 32),(3,bZ.ext (mK 3 ((kC L).set o (l,List.replicate E (.int .i64 0)))))]) hgs hlb Oz (XB b off o) ?_))|(show vO ..;(refine gY (by first|exact Nat.le_refl _|(rw[uk,List.length_take];exact Nat.le_min.2 ⟨Nat.le_refl _,Nat.le_of_lt hoL⟩)) ?_))|(show gP ..;(first|refine dP (show(o+1)*24<=140737488355328 by omega) ?_|refine dP (show 1*24<=140737488355328 by decide) ?_))|refine aX ?_)
  all_goals(conv=>whnf)
  refine⟨(o+1,L.set o (l,ku E o)),[(5,some 8)],⟨hoE,hnext⟩,by show E-(o+1)<E-o;omega,rfl,bM,⟨?_,?_,trivial⟩,λ_ _ h=>h⟩
  ·show(8,bZ.rows (gI ((L.set o (l,ku E o)).take (o+1))) 1 32)∈_
   rw[htake]
   exact Xb _ _ _ (by rw[List.length_take];exact(Nat.min_eq_left (Nat.le_of_lt hoL)).symm) (vP E o).symm
  ·show(3,bZ.ext (mK 3 (kC (L.set o (l,ku E o)))))∈_
   rw[eg]
   exact aU
 ·have hoe:o=E:=by omega
  subst hoe
  have htk:L.take o=L:=List.take_of_length_le (by rw[hL.len];exact Nat.le_refl _)
  rw[htk]
  have hall:∀p∈L,∃k,k<o/\(∃b off,p.1.base=some ⟨b,off,none⟩)/\o<=p.1.cap/\p.2=ku o k:=λp hp=>by
   obtain⟨k,hk⟩:=List.mem_iff_getElem?.1 hp
   have hkl:=(List.getElem?_eq_some_iff.1 hk).1
   rw[hL.len]at hkl
   have:=hL.is k p hk
   rw[if_pos hkl]at this
   exact⟨k,hkl,this⟩
  have hrows:L.map Prod.snd=(List.range o).map (ku o):=by
   apply List.ext_getElem
   ·simp[hL.len]
   ·intro k h1 h2
    have hk:k<L.length:=by simpa using h1
    have:=hL.is k _ (List.getElem?_eq_getElem hk)
    rw[if_pos (by rw[<-hL.len];exact hk)]at this
    simp[this.2.2]
  have hfl:∀k,∀x∈ku o k,i64 x:=λk x hx=>by
   rcases List.mem_or_eq_of_mem_set hx with hx|hx
   ·rw[(List.mem_replicate.1 hx).2];exact⟨by decide,by decide⟩
   ·rw[hx];exact⟨by decide,by decide⟩
  repeat' ((conv=>whnf)<;>first|(show mJ ..;(refine jC o rfl rfl DI aa ?_))|(show b_ _ 18 ..;refine lu [] _ amG ?_)|refine aX ?_|refine ag ?_ ?_<;>intro _)
  all_goals(conv=>whnf)
  exact Vy (i:=5) (g:=3) (j:=6) (bs:=List.replicate o 0) (λ_ _ h=>h) rfl (λp hp=>by obtain⟨k,hk,h1,h2,h3⟩:=hall p hp;exact .inr ⟨h1,λe=>by rw[e]at h3;have:=congrArg List.length h3;rw[vP]at this;simp at this;omega,by rw[h3,vP];exact h2⟩) (λp hp=>by obtain⟨k,hk,h1,h2,h3⟩:=hall p hp;rw[h3];exact⟨hfl k,by rw[vP];omega⟩) hL.len.symm fP (λx hx=>by rw[(List.mem_replicate.1 hx).2];exact⟨by decide,by decide⟩) yL aU aU (by rw[show aN (List.replicate o 0)=List.replicate o [Value.int .i64 0] by simp[aN]];exact aU) (by rw[hrows])
theorem Us(w:World)(n:ai)(t:au)(hn:n.ok w)(hsm:n.small)(ht:t.ok w):Calls Tryz.prog 85 #[n.j3,t.val] w (Iy w n (jA n t)):=by
 by_cases hok:nD n t
 ·rcases hok.1 with hl|h9
  ·exact SK w n t hn hsm ht hok hl
  ·exact(Qo w n t hn hsm ht hok h9).mono λe w' h=>F_ h
 ·exact(V_ w n t hn hsm ht hok).mono λe w' h=>F_ h
theorem Qh{cx:Cx}{f:FuncId}{args:List SV}{H:Heap}{S:bN}{nx:Nat}{K:SV->Heap->bN->Nat->Prop}(n:ai)(r:(List (List Int)×List Int)×Int)(hf:∀ar w,(callFunc f ar).run cx.P w= .ok (.enter f ar) w)
 (hc:∀ρ w,eD cx.B ρ nx H S w->Calls cx.P f (SV.eO ρ args).toArray w (Iy w n r)) (h:∀x:Lu,ZB n r.1 x->K (.c (.tuple #[x.rows.val,x.aM.val,.int .i64 r.2])) H (S.and ((vH x).past cx.B.w0.heap.size)) nx):aI cx f args H S nx K:=by
 refine gX hf (λx:Lu=> .tuple #[x.rows.val,x.aM.val,.int .i64 r.2]) vH (λx=>ZB n r.1 x) (λρ w' hw=>(hc ρ w' hw).mono ?_) (λx hx=>h x hx)
 rintro e w2 ⟨x,h1,h2,h3,h4⟩
 exact⟨x,h1,h2,h3,h4⟩
theorem aax(n:ai)(t:au):(jA n t).1.1.length<=1000000:=by
 unfold jA
 split
 ·rename_i h
  obtain⟨s,hsh,hcs,hR⟩:=Eb h
  have:=hR.place.few
  simp[tQ];omega
 ·simp
theorem ag7{n:ai}{r:List (List Int)×List Int}{x:Lu}{R:Nat->Prop}{w:World}(hx:ZB n r x)(hl:r.1.length<=1000000)(hn:n.ok w)(h:(vH x).holds R w):x.rows.okB w/\x.aM.ok w:=by
 have hlen:x.rows.l.length<=1000000:=by have:=congrArg List.length hx.rows;rw[List.length_map]at this;omega
 by_cases ho:x.own=true
 ·exact⟨⟨aV h.1,λu hu=>bT (hx.bq u hu) ((h.2 ho).1 u hu),hlen⟩,bT hx.xX (h.2 ho).2⟩
 ·obtain⟨h1,h2⟩:=hx.old (by simpa using ho)
  exact⟨⟨aV h.1,λu hu=>h2 w hn.data u hu,hlen⟩,by rw[h1];exact hn.aM⟩
abbrev amg:DT:=(eY [0,1,2,3,4,5,6,7,108,109,10] .done)
abbrev alR:DT:=(eY [0,1,2,3,4,5,6,7,8,9,10,11,12,13,14,115,116,117,118,19,120] .done)
abbrev al7:DT:=(eY [0,1,2,3,4,5,6,7,8,9,10,11,12,113,114,15] .done)
abbrev al2:DT:=(eY [0,1,2,3,4,5,6,7,8,9,10,11,112,13] .done)
abbrev vI(c:dN)(s:dw)(vl:List Int):Heap:=(1,.rows (aN vl) 1 3)::Fh c s 0 2 3 4
abbrev sI(w:World)(ρ:Nat->SX.Loc)(F:Nat->Prop)(c:dN)(s:dw)(vl:List Int)(r:fE×Int):=yl w ρ F 2 5 (λx:dw×Int=>ax x.2) (λx=>vI c x.1 vl) (λx=>DV s.aF x.1.aF) (λx=>x.1.pl=r.1/\x.2=r.2/\sJ c x.1)
theorem TQ{d:List Int}{n:Nat}{sl:List Int}(h:sl.length<=d.length):jl n sl (λe=>d.getD (e%d.length) 0)=jl n sl (λe=>d.getD e 0):=wL (λk hk=>by rw[Nat.mod_eq_of_lt aa])
theorem mod_one{d:List Int}{n:Nat}{sl:List Int}(h:d.length=1):jl n sl (λe=>d.getD (e%d.length) 0)=jl n sl (λ_=>d.getD 0 0):=wL (λk hk=>by rw[h,Nat.mod_one])
theorem aag{cx:Cx}{f:FuncId}{args:List SV}{H:Heap}{S:bN}{nx:Nat}{K:SV->Heap->bN->Nat->Prop}{α:Type}(θ:Map)(c:dN)(s:dw)(A:bN)(ol:List SV)(val:α->SV)(s':α->dw)(D:α->bN)(p:α->Prop)
 (hf:∀ar w,(callFunc f ar).run cx.P w= .ok (.enter f ar) w) (hm:vM 0 θ (lX c s)=true) (hin:kU θ H (lX c s)) (h0:∃j,θ.app 0=some j) (ha:args=SV.t_ θ.app ol) (hA:∀R w,S.holds R w->A.holds R w) (G:Nat->Prop) (hG:∀R w,S.holds R w->∀b,G b->R b)
 (hc:∀w ρ F,iY w ρ F 1 4 (lX c s) A->Calls cx.P f (SV.eO ρ ol).toArray w (v_ w ρ F val (λx=>lX c (s' x)) D p))
 (h:∀x,p x->K ((val x).ren (xh 1 nx θ)) (tN θ (lX c s) H++Mx (xh 1 nx θ) (lX c (s' x))) (S.and ((D x).off G)) (nx+4)):aI cx f args H S nx K:=by
 refine z8 θ 1 4 (lX c s) A ol val (λx=>lX c (s' x)) D p hf hm rfl hin (λi hi=> ?_) aY ha hA G hG hc h
 obtain rfl:i=0:=by omega
 obtain⟨j,hj⟩:=h0
 exact⟨j,_,hj,aU⟩
theorem aaN(c:dN)(s:dw)(vl:List Int)(n:ai)(i:Nat)(hk:n.ak=2)(hN:lU c s vl)(sp:au)(hi:c.bO.l[i]? =some sp)(zo:sp.bq)(hb:∀x∈sp.xs,0<=x/\x<c.aj)(hd:sp.xs.length<=n.data.xs.length)(hd0:0<n.data.xs.length)(hds:n.data.bq)(w:World)(ρ:Nat->SX.Loc)(F:Nat->Prop)(h:iY w ρ F 2 5 (vI c s vl) (ru c s n)):
 Calls Tryz.prog 36 (SV.eO ρ [.lp 0 0 0 0,.agg (jN n),ax i,.c c.shapes.val,.c c.bO.val,.os 1 vl.length]).toArray w (sI w ρ F c s vl (bP (bC c.aj s.pl sp.xs (λe=>n.data.xs.getD e 0)).1 2 0 0 (bC c.aj s.pl sp.xs (λe=>n.data.xs.getD e 0)).2)):=by
 have hcl:=hN.lW
 have hpl:=hN.qW
 have hil:=hN.Hr
 refine Ez Tryz.func36 (mI 2 ρ) ρ [.lp 0 0 0 0,.agg (jN n),ax i,.c c.shapes.val,.c c.bO.val,.os 1 vl.length] (vI c s vl) ((ru c s n).and (gu w F)) 5 h.abs ?_
 have aaS:=(List.getElem?_eq_some_iff.1 hi).1
 have hrow:(aS c.bO.l)[i]? =some [sp.val]:=by unfold aS;rw[List.getElem?_map,hi];rfl
 refine Wp.know (p:=∃a,c.bO.base=some a) (λρ w' hw=>ae hw λR h=>aP (j:=i) (aV h.1.1.1.2.1) Yp) ?_
 rintro⟨sa,hsa⟩
 repeat' ((conv=>whnf)<;>first|(show b_ _ 6 ..;refine lu [] [(5,.box (cs n.cells) 41)] amg ?_ (h6:=List.Sublist.cons_cons _ (List.nil_sublist _)))|refine aa0 ?_|refine ZM ?_|refine abz ?_|(refine ahF ?_;intro m ⟨hm,hms⟩)|(show aI _ 82 ..;(refine dR [(5,.box (cs n.cells) 41),(1,.rows (aN vl) 1 3)] 0 7 8 9 c (aC s m).1 ed [.lp 0 0 0 0,ax 2,ax 0,ax 0,ax (aC s m).2] _ _ _ _ Tryz.call82 rfl rfl rfl (λR w' h=>trivial) (dZ w F) (λR w' h b hb=>(h.1.2 b hb).1) (λw' ρ' F' h'=>mi c (aC s m).1 2 0 0 (aC s m).2 Yy w' ρ' F' h') (λ_ _=> ?_)))|refine bn ?_|refine ag ?_ ?_<;>intro _)
 all_goals(conv=>whnf)
 have hS:=iB (s:=s) (hm.trans (TQ hd))
 rw[hS]
 all_goals exact fw _ _ _ _ (dn (aC s m).1 2 0 0 (aC s m).2,((aC s m).1.code.length:Int)) [(2,some 11),(3,some 12),(4,some 13)] ⟨rfl,rfl,qL (nR hN.ok hms) _ _ _ _⟩ aY rfl rfl rfl rfl bM (λR w' h=>⟨h.1.1.2,qI h.1.2⟩)
theorem ag2(c:dN)(s:dw)(vl:List Int)(n:ai)(i:Nat)(hk:n.ak=6)(hN:lU c s vl)(h0:0<=n.a/\0<=n.b)(ha:n.a.toNat<vl.length)(hb:n.b.toNat<vl.length)(w:World)(ρ:Nat->SX.Loc)(F:Nat->Prop)(h:iY w ρ F 2 5 (vI c s vl) (ru c s n)):
 Calls Tryz.prog 36 (SV.eO ρ [.lp 0 0 0 0,.agg (jN n),ax i,.c c.shapes.val,.c c.bO.val,.os 1 vl.length]).toArray w (sI w ρ F c s vl (bP s.pl 3 (vl.getD n.a.toNat 0) (vl.getD n.b.toNat 0) 0)):=by
 have hcl:=hN.lW
 have hpl:=hN.qW
 have hil:=hN.Hr
 refine Ez Tryz.func36 (mI 2 ρ) ρ [.lp 0 0 0 0,.agg (jN n),ax i,.c c.shapes.val,.c c.bO.val,.os 1 vl.length] (vI c s vl) ((ru c s n).and (gu w F)) 5 h.abs ?_
 repeat' ((conv=>whnf)<;>first|(show b_ _ 8 ..;refine lu [] [(5,.box (cs n.cells) 41),(1,.rows (aN vl) 1 3)] aiU ?_ (h6:=List.Sublist.cons_cons _ (List.Sublist.cons_cons _ (List.nil_sublist _))))|refine aa0 ?_|refine agi ?_|(show mq ..;(first|refine qZ ha ?_|refine qZ hb ?_))|(show aI _ 82 ..;refine dR [(5,.box (cs n.cells) 41),(1,.rows (aN vl) 1 3)] 0 2 3 4 c s ed [.lp 0 0 0 0,ax 3,ax (vl.getD n.a.toNat 0),ax (vl.getD n.b.toNat 0),ax 0] _ _ _ _ Tryz.call82 rfl rfl rfl (λR w' h=>trivial) (dZ w F) (λR w' h b hb=>(h.2 b hb).1) (λw' ρ' F' h'=>mi c s 3 (vl.getD n.a.toNat 0) (vl.getD n.b.toNat 0) 0 aa w' ρ' F' h') (λ_ _=> ?_))|refine bn ?_|refine ag ?_ ?_<;>intro _)
 all_goals(conv=>whnf)
 all_goals exact fw _ _ _ _ (dn s 3 (vl.getD n.a.toNat 0) (vl.getD n.b.toNat 0) 0,(s.code.length:Int)) [(2,some 7),(3,some 8),(4,some 9)] ⟨rfl,rfl,qL hN.ok _ _ _ _⟩ aY rfl rfl rfl rfl bM (λR w' h=>⟨h.1.2,lQ _ _ _⟩)
theorem V4(c:dN)(s:dw)(vl:List Int)(n:ai)(i:Nat)(hk:n.ak=7)(hN:lU c s vl)(h0:0<=n.a)(ha:n.a.toNat<vl.length)(sp:au)(hi:c.bO.l[i]? =some sp)(zo:sp.bq)(hb:∀x∈sp.xs,0<=x/\x<c.aj)(hd:n.data.xs.length=1)(hds:n.data.bq)(w:World)(ρ:Nat->SX.Loc)(F:Nat->Prop)(h:iY w ρ F 2 5 (vI c s vl) (ru c s n)):
 Calls Tryz.prog 36 (SV.eO ρ [.lp 0 0 0 0,.agg (jN n),ax i,.c c.shapes.val,.c c.bO.val,.os 1 vl.length]).toArray w (sI w ρ F c s vl (bP (bC c.aj s.pl sp.xs (λ_=>n.data.xs.getD 0 0)).1 5 (vl.getD n.a.toNat 0) 0 (bC c.aj s.pl sp.xs (λ_=>n.data.xs.getD 0 0)).2)):=by
 have hd0:0<n.data.xs.length:=by omega
 have hcl:=hN.lW
 have hpl:=hN.qW
 have hil:=hN.Hr
 refine Ez Tryz.func36 (mI 2 ρ) ρ [.lp 0 0 0 0,.agg (jN n),ax i,.c c.shapes.val,.c c.bO.val,.os 1 vl.length] (vI c s vl) ((ru c s n).and (gu w F)) 5 h.abs ?_
 have aaS:=(List.getElem?_eq_some_iff.1 hi).1
 have hrow:(aS c.bO.l)[i]? =some [sp.val]:=by unfold aS;rw[List.getElem?_map,hi];rfl
 refine Wp.know (p:=∃a,c.bO.base=some a) (λρ w' hw=>ae hw λR h=>aP (j:=i) (aV h.1.1.1.2.1) Yp) ?_
 rintro⟨sa,hsa⟩
 repeat' ((conv=>whnf)<;>first|(show b_ _ 10 ..;refine lu [] [(5,.box (cs n.cells) 41),(1,.rows (aN vl) 1 3)] al7 ?_ (h6:=List.Sublist.cons_cons _ (List.Sublist.cons_cons _ (List.nil_sublist _))))|refine aa0 ?_|refine ZM ?_|refine abz ?_|refine Oc ?_|(show mq ..;refine qZ ha ?_)|(refine ahF ?_;intro m ⟨hm,hms⟩)|(show aI _ 82 ..;(refine dR [(5,.box (cs n.cells) 41),(1,.rows (aN vl) 1 3)] 0 7 8 9 c (aC s m).1 ed [.lp 0 0 0 0,ax 5,ax (vl.getD n.a.toNat 0),ax 0,ax (aC s m).2] _ _ _ _ Tryz.call82 rfl rfl rfl (λR w' h=>trivial) (dZ w F) (λR w' h b hb=>(h.1.2 b hb).1) (λw' ρ' F' h'=>mi c (aC s m).1 5 (vl.getD n.a.toNat 0) 0 (aC s m).2 Yy w' ρ' F' h') (λ_ _=> ?_)))|refine bn ?_|refine ag ?_ ?_<;>intro _)
 all_goals(conv=>whnf)
 have hS:=iB (s:=s) (hm.trans (mod_one hd))
 rw[hS]
 all_goals exact fw _ _ _ _ (dn (aC s m).1 5 (vl.getD n.a.toNat 0) 0 (aC s m).2,((aC s m).1.code.length:Int)) [(2,some 11),(3,some 12),(4,some 13)] ⟨rfl,rfl,qL (nR hN.ok hms) _ _ _ _⟩ aY rfl rfl rfl rfl bM (λR w' h=>⟨h.1.1.2,qI h.1.2⟩)
theorem abK(c:dN)(s:dw)(vl:List Int)(n:ai)(i:Nat)(hk:n.ak=8)(hN:lU c s vl)(h0:0<=n.a)(ha:n.a.toNat<vl.length)(hx0:0<=vl.getD n.a.toNat 0)(sp:au)(hi:c.bO.l[i]? =some sp)(zo:sp.bq)(hb:∀x∈sp.xs,0<=x/\x<c.aj)(hd:n.data.xs.length=3)(hds:n.data.bq)(w:World)(ρ:Nat->SX.Loc)(F:Nat->Prop)(h:iY w ρ F 2 5 (vI c s vl) (ru c s n)):
 Calls Tryz.prog 36 (SV.eO ρ [.lp 0 0 0 0,.agg (jN n),ax i,.c c.shapes.val,.c c.bO.val,.os 1 vl.length]).toArray w (sI w ρ F c s vl (lK c.aj s.pl (vl.getD n.a.toNat 0) n.data.xs sp.xs)):=by
 have hP:OJ c s 500000 (vl.getD n.a.toNat 0) sp:=⟨hN.aj,⟨hN.ok,hN.qW,hN.lW⟩,by decide,hx0,zo,hb⟩
 have hcl:=hN.lW
 have hpl:=hN.qW
 have hil:=hN.Hr
 refine Ez Tryz.func36 (mI 2 ρ) ρ [.lp 0 0 0 0,.agg (jN n),ax i,.c c.shapes.val,.c c.bO.val,.os 1 vl.length] (vI c s vl) ((ru c s n).and (gu w F)) 5 h.abs ?_
 have aaS:=(List.getElem?_eq_some_iff.1 hi).1
 have hrow:(aS c.bO.l)[i]? =some [sp.val]:=by unfold aS;rw[List.getElem?_map,hi];rfl
 refine Wp.know (p:=∃a,c.bO.base=some a) (λρ w' hw=>ae hw λR h=>aP (j:=i) (aV h.1.1.1.2.1) Yp) ?_
 rintro⟨sa,hsa⟩
 repeat' ((conv=>whnf)<;>first|(show b_ _ 12 ..;refine lu [] [(5,.box (cs n.cells) 41),(1,.rows (aN vl) 1 3)] al2 ?_ (h6:=List.Sublist.cons_cons _ (List.Sublist.cons_cons _ (List.nil_sublist _))))|refine aa0 ?_|refine ZM ?_|refine abz ?_|refine Oc ?_|(show mq ..;refine qZ ha ?_)|(show aI _ 84 ..;refine dR [(5,.box (cs n.cells) 41),(1,.rows (aN vl) 1 3)] 0 2 3 4 c s (((dW s.aF).and (tO n.data)).and (bE sp)) [.lp 0 0 0 0,ax (vl.getD n.a.toNat 0),.c n.data.val,.c sp.val] _ _ _ _ Tryz.call84 rfl rfl rfl (λR w' h=>⟨⟨h.1.1.1.1,h.1.1.2.2.1⟩,h.1.1.1.2.2 sp (List.mem_of_getElem? hi)⟩) (dZ w F) (λR w' h b hb=>(h.2 b hb).1) (λw' ρ' F' h'=>abf c s (vl.getD n.a.toNat 0) n.data sp hP hd hds w' ρ' F' h') (λq ⟨hq1,hq2,hq3⟩=> ?_))|refine bn ?_|refine ag ?_ ?_<;>intro _)
 all_goals(conv=>whnf)
 all_goals exact fw _ _ _ _ (q.1,q.2) [(2,some 7),(3,some 8),(4,some 9)] ⟨hq1,hq2,hq3⟩ aY rfl rfl rfl rfl bM (λR w' h=>⟨h.1.2,h.2⟩)
theorem ab0(c:dN)(s:dw)(vl:List Int)(n:ai)(i:Nat)(hk:n.ak=1)(hN:lU c s vl)(hlo:i64 n.lo)(hhi:i64 n.hi)(sp:au)(hi:c.bO.l[i]? =some sp)(w:World)(ρ:Nat->SX.Loc)(F:Nat->Prop)(h:iY w ρ F 2 5 (vI c s vl) (ru c s n)):
 Calls Tryz.prog 36 (SV.eO ρ [.lp 0 0 0 0,.agg (jN n),ax i,.c c.shapes.val,.c c.bO.val,.os 1 vl.length]).toArray w (sI w ρ F c s vl (lF s.pl n.lo n.hi sp.xs)):=by
 have hz:(((s.inputs++[qo.mk n.lo n.hi sp]).length:Nat):Int)-1=s.inputs.length:=by rw[List.length_append,List.length_singleton];omega
 have hcl:=hN.lW
 have hpl:=hN.qW
 have hil:=hN.Hr
 refine Ez Tryz.func36 (mI 2 ρ) ρ [.lp 0 0 0 0,.agg (jN n),ax i,.c c.shapes.val,.c c.bO.val,.os 1 vl.length] (vI c s vl) ((ru c s n).and (gu w F)) 5 h.abs ?_
 have aaS:=(List.getElem?_eq_some_iff.1 hi).1
 have hrow:(aS c.bO.l)[i]? =some [sp.val]:=by unfold aS;rw[List.getElem?_map,hi];rfl
 refine Wp.know (p:=∃a,c.bO.base=some a) (λρ w' hw=>ae hw λR h=>aP (j:=i) (aV h.1.1.1.2.1) Yp) ?_
 rintro⟨sa,hsa⟩
 repeat' ((conv=>whnf)<;>first|(show b_ _ 3 ..;refine lu [20] _ alR ?_ (h6:=List.Sublist.cons_cons _ (List.Sublist.cons_cons _ (List.Sublist.cons_cons _ (List.Sublist.cons _ (List.Sublist.refl _))))))|refine BF ?_|refine ZM ?_|refine abz ?_|(show iL ..;refine je (s.inputs.length:Int) hz aa aa ?_)|(show vO ..;(refine gY aeE ?_))|(show gP ..;(refine dP aii ?_))|refine ahG ?_|(show aI _ 82 ..;(refine aag [(0,some 0),(1,some 7),(2,some 3),(3,some 4)] c (inpV s n.lo n.hi sp) ed [.lp 0 0 0 0,ax 1,ax 0,ax 0,ax s.inputs.length] _ _ _ _ Tryz.call82 rfl bM ⟨_,rfl⟩ rfl (λR w' h=>trivial) (dZ w F) (λR w' h b hb=>(h.2 b hb).1) (λw' ρ' F' h'=>mi c (inpV s n.lo n.hi sp) 1 0 0 s.inputs.length (by show s.code.length<=_;omega) w' ρ' F' h') (λ_ _=> ?_)))|refine bn ?_|refine ag ?_ ?_<;>intro _)
 all_goals(conv=>whnf)
 all_goals exact fw _ _ _ _ (dn (inpV s n.lo n.hi sp) 1 0 0 s.inputs.length,(s.code.length:Int)) [(2,some 9),(3,some 10),(4,some 11)] ⟨by unfold lF bP dn inpV dw.pl;simp[qo.pl],rfl,⟨hN.ok.aF,λx hx=>by
  rcases List.mem_append.1 hx with hx|hx
  ·exact hN.ok.inputs x hx
  ·rw[List.mem_singleton.1 hx];exact⟨List.mem_of_getElem? hi,hlo,hhi⟩⟩⟩ aY rfl rfl rfl rfl bM (λR w' h=>⟨h.1.2,lQ _ _ _⟩)
theorem acD(c:dN)(s:dw)(vl:List Int)(n:ai)(i:Nat)(fr to:au)(hk:n.ak=9)(hN:lU c s vl)(h0:0<=n.a)(ha:n.a.toNat<vl.length)(hfr:c.bO.l[n.a.toNat]? =some fr)(CX:fr.bq)(hto:c.bO.l[i]? =some to)(tF:to.bq)(hft:fr.xs=to.xs)(w:World)(ρ:Nat->SX.Loc)(F:Nat->Prop)(h:iY w ρ F 2 5 (vI c s vl) (ru c s n)):
 Calls Tryz.prog 36 (SV.eO ρ [.lp 0 0 0 0,.agg (jN n),ax i,.c c.shapes.val,.c c.bO.val,.os 1 vl.length]).toArray w (sI w ρ F c s vl (s.pl,vl.getD n.a.toNat 0)):=by
 have YV:∀{j:Nat} {u:au} {l:List au},l[j]? =some u->(aS l)[j]? =some [u.val]:=λh=>by unfold aS;rw[List.getElem?_map,h];rfl
 have ln:∀{j:Nat} {u:au} {l:List au},l[j]? =some u->j<l.length:=λh=>(List.getElem?_eq_some_iff.1 h).1
 refine Ez Tryz.func36 (mI 2 ρ) ρ [.lp 0 0 0 0,.agg (jN n),ax i,.c c.shapes.val,.c c.bO.val,.os 1 vl.length] (vI c s vl) ((ru c s n).and (gu w F)) 5 h.abs ?_
 refine Wp.know (p:=∃a,c.bO.base=some a) (λρ w' hw=>ae hw λR h=>aP (j:=i) (aV h.1.1.1.2.1) abl) ?_
 rintro⟨sa,hsa⟩
 repeat' ((conv=>whnf)<;>first|refine aeU ?_|refine ahM ?_|refine Oc ?_|(show mq ..;refine qZ ha ?_)|(show kE _ 20 ..;(refine iU (f:=20) Tryz.call20 (.bool true) (λρ w' hw=>by have:=qK w' fr to (ae hw λR h=>bT CX (h.1.1.1.2.2 _ (List.mem_of_getElem? hfr))) (ae hw λR h=>bT tF (h.1.1.1.2.2 _ (List.mem_of_getElem? hto)));rw[decide_eq_true hft]at this;exact this) ?_))|refine bn ?_|refine ag ?_ ?_<;>intro _)
 all_goals(conv=>whnf)
 all_goals exact fw _ _ _ _ (s,vl.getD n.a.toNat 0) [] ⟨rfl,rfl,hN.ok⟩ aY rfl rfl rfl rfl bM (λR w' h=>⟨h.2,lQ _ _ _⟩)
abbrev al0:DT:=(eY [0,1,2,3,4,5,106,7,8,9,10,11,12,13] .done)
theorem Vl(c:dN)(s:dw)(vl:List Int)(n:ai)(i:Nat)(sh fr to:au)(r:List (List Int)×List Int)(hk5:n.ak≠1/\n.ak≠2/\n.ak≠6/\n.ak≠7/\n.ak≠8)(hN:lU c s vl)(h0:0<=n.a)(ha:n.a.toNat<vl.length)(hx0:0<=vl.getD n.a.toNat 0)(hn:n.iJ)(hsm:n.small)(hsh:c.shapes.l[n.a.toNat]? =some sh)(zk:sh.bq)(hfr:c.bO.l[n.a.toNat]? =some fr)(CX:fr.bq)(hto:c.bO.l[i]? =some to)(tF:to.bq)(hk:¬(n.ak=9/\fr.xs=to.xs))(hr:(jA (n0 n) sh).1=r)(hd:oU r.1 fr.xs to.xs c.aj)(hb:to.xs.length<=r.2.length)(hpl:∀z∈to.xs,0<=z/\z<c.aj)
 (w:World) (ρ:Nat->SX.Loc) (F:Nat->Prop) (h:iY w ρ F 2 5 (vI c s vl) (ru c s n)):
 Calls Tryz.prog 36 (SV.eO ρ [.lp 0 0 0 0,.agg (jN n),ax i,.c c.shapes.val,.c c.bO.val,.os 1 vl.length]).toArray w (sI w ρ F c s vl (iC c.aj c.giant s.pl (vl.getD n.a.toNat 0) r fr.xs to.xs)):=by
 have hcl:=hN.lW
 have hpp:=hN.qW
 have hn1:=hN.aj.1
 have hn2:=hN.aj.2
 obtain⟨k1,k2,k6,k7,k8⟩:=hk5
 have YV:∀{j:Nat} {u:au} {l:List au},l[j]? =some u->(aS l)[j]? =some [u.val]:=λh=>by unfold aS;rw[List.getElem?_map,h];rfl
 have ln:∀{j:Nat} {u:au} {l:List au},l[j]? =some u->j<l.length:=λh=>(List.getElem?_eq_some_iff.1 h).1
 refine Ez Tryz.func36 (mI 2 ρ) ρ [.lp 0 0 0 0,.agg (jN n),ax i,.c c.shapes.val,.c c.bO.val,.os 1 vl.length] (vI c s vl) ((ru c s n).and (gu w F)) 5 h.abs ?_
 refine Wp.know (p:=(∃a,c.bO.base=some a)/\∃a,c.shapes.base=some a) (λρ w' hw=>ae hw λR h=>⟨aP (j:=i) (aV h.1.1.1.2.1) abl,aP (j:=n.a.toNat) (aV h.1.2.1) (by rw[aW];exact ln hsh)⟩) ?_
 rintro⟨⟨sa,hsa⟩,⟨ta,Iw⟩⟩
 have hk9:n.ak≠9\/(n.ak=9/\fr.xs≠to.xs):=by
  by_cases h9:n.ak=9
  ·exact .inr ⟨h9,λe=>hk ⟨h9,e⟩⟩
  ·exact .inl h9
 rcases hk9 with h9|⟨h9,hft⟩
 all_goals(repeat' ((conv=>whnf)<;>first|(show b_ _ 17 ..;refine lu [] [(6,.box (cs (n0 n).cells) 41),(5,.box (cs n.cells) 41)] al0 ?_ (h6:=List.Sublist.cons_cons _ (List.Sublist.cons_cons _ (List.nil_sublist _))))|(show @eZ _ _ _;(first|refine dA aa ?_|refine cu aa ?_))|(show bV ..;(first|refine aH sa n.a.toNat hsa aa (ln hfr) ?_|refine aH sa i hsa rfl (ln hto) ?_|refine aH ta n.a.toNat Iw aa (ln hsh) ?_))|(show fT ..;(first|refine bA (λR w' h=>by rw[<-hsa];exact aV h.1.1.1.2.1) _ _ (YV hfr) rfl ?_|refine bA (λR w' h=>by rw[<-hsa];exact aV h.1.1.1.2.1) _ _ (YV hto) rfl ?_|refine bA (λR w' h=>by rw[<-Iw];exact aV h.1.2.1) _ _ (YV hsh) rfl ?_))|(show kE _ 20 ..;(refine iU (f:=20) Tryz.call20 (.bool false) (λρ w' hw=>by have:=qK w' fr to (ae hw λR h=>bT CX (h.1.1.1.2.2 _ (List.mem_of_getElem? hfr))) (ae hw λR h=>bT tF (h.1.1.1.2.2 _ (List.mem_of_getElem? hto)));rw[decide_eq_false hft]at this;exact this) ?_))|refine bn ?_))
 all_goals
  refine Qh (n0 n) (jA (n0 n) sh) Tryz.call85 (λρ w' hw=>Us w' (n0 n) sh (ae hw λR h=>aem hn h.1.1.2) ⟨hsm.data,hsm.aM⟩ (ae hw λR h=>bT zk (h.1.2.2 _ (List.mem_of_getElem? hsh)))) (λx hxI=> ?_)
  have hkn:∀{R:Nat->Prop} {w':World},(((ru c s n).and (gu w F)).and ((vH x).past w.heap.size)).holds R w'->x.rows.okB w'/\x.aM.ok w':=λh=>ag7 hxI (aax _ _) (aem hn h.1.1.1.2) ((vH x).mono h.2 (λ_ hb=>hb.1))
  have Re:x.rows.l.map au.xs=r.1:=by rw[hxI.rows,hr]
  have hxb:x.aM.xs=r.2:=by rw[hxI.aM,hr]
  rw[<-Re]at hd
  rw[<-hxb]at hb
  have hz0:lJ c 500000 s:=⟨hN.ok,hpp,hcl⟩
  repeat' ((conv=>whnf)<;>first|refine BF ?_|(show b_ _ 18 ..;refine lu [] [(6,.box (cs (n0 n).cells) 41),(5,.box (cs n.cells) 41),(1,.rows (aN vl) 1 3)] aiW ?_ (h6:=List.Sublist.cons_cons _ (List.Sublist.cons_cons _ (List.Sublist.cons_cons _ (List.nil_sublist _)))))|refine aeU ?_|(show fT ..;(first|refine bA (λR w' h=>by rw[<-hsa];exact aV h.1.1.1.1.2.1) _ _ (YV hfr) rfl ?_|refine bA (λR w' h=>by rw[<-hsa];exact aV h.1.1.1.1.2.1) _ _ (YV hto) rfl ?_))|refine Oc ?_|(show mq ..;refine qZ ha ?_)|(show aI _ 86 ..;refine dR [(6,.box (cs (n0 n).cells) 41),(5,.box (cs n.cells) 41),(1,.rows (aN vl) 1 3)] 0 2 3 4 c s (((dW s.aF).and (vX λw=>x.rows.okB w)).and ((bE fr).and (bE to))) [.lp 0 0 0 0,ax (vl.getD n.a.toNat 0),.c x.rows.val,.c fr.val,.c to.val] _ _ _ _ Tryz.call86 rfl rfl rfl (λR w' h=>⟨⟨h.1.1.1.1.1,tZ h (λ_ _ h=>(hkn h).1)⟩,h.1.1.1.1.2.2 fr (List.mem_of_getElem? hfr),h.1.1.1.1.2.2 to (List.mem_of_getElem? hto)⟩) (dZ w F) (λR w' h b hb=>(h.1.2 b hb).1) (λw' ρ' F' h'=>afE c s (vl.getD n.a.toNat 0) x.rows fr to hN.aj hz0 hx0 CX tF hd w' ρ' F' h') (λq ⟨hq1,hq2,hq3⟩=> ?_))|refine bn ?_)
  all_goals(conv=>whnf)
  have hgrow:=dD.rows c.aj c.giant s.pl (vl.getD n.a.toNat 0) (mW (x.rows.l.map au.xs) fr.xs to.xs c.aj).1 hn1 (Nat.le_of_eq (tX hd))
  rw[<-hq1]at hgrow
  have hg3:=ZU hgrow
  have hgf:q.1.code.length<=s.code.length+(5*c.aj+1):=hgrow.few
  have zq:lJ c 600000 q.1:=⟨hq3,by omega,by omega⟩
  clear hgrow hg3 hgf
  refine Wp.loop (σ:=Nat×Bool) 11 (λz=>[(0,.lp 0 0 0 0),(2,ax i),(4,.c c.bO.val),(15,.c x.aM.val),(17,ax q.2),(18,.c (.bool z.2)),(162,.c x.aM.val),(163,ax x.aM.xs.length),(164,ax z.1)]) (λ_=>(6,.box (cs (n0 n).cells) 41)::(5,.box (cs n.cells) 41)::(1,.rows (aN vl) 1 3)::Fh c q.1 0 8 9 10) (λ_=>(((ru c s n).and (gu w F)).and ((vH x).past w.heap.size)).and ((DV s.aF q.1.aF).off (dZ w F)))
   (λz=>z.1<=x.aM.xs.length/\z.2=(x.aM.xs.take z.1).any (λb=>decide (b≠0))) (λz=>x.aM.xs.length-z.1) (0,false) [] aY (λ_=>⟨rfl,rfl⟩) ⟨Nat.zero_le _,rfl⟩ ⟨rfl,⟨rfl,rfl,rfl,rfl,rfl,rfl,rfl,rfl,rfl,trivial⟩,bM,λR w' h=>h⟩ ?_
  rintro⟨k,sb⟩ ⟨hkl,hsb⟩
  simp only at hkl hsb
  have hbf:=hxI.xX.few
  by_cases hlt:k<x.aM.xs.length
  ·have hxv:x.aM.xs.getD k 0=x.aM.xs[k]:=by rw[List.getD_eq_getElem?_getD,List.getElem?_eq_getElem hlt];rfl
   have hany:(x.aM.xs.take (k+1)).any (λb=>decide (b≠0))=(sb||decide (x.aM.xs[k]≠0)):=by rw[List.take_succ_eq_append_getElem hlt,List.any_append,<-hsb];simp
   generalize x.aM.xs[k]=v at*
   refine Wp.know (p:=∃a,x.aM.base=some a) (λρ w' hw=>ae hw λR h=>aP (j:=k) (hkn h.1).2.rows abP) ?_
   rintro⟨ba,hba⟩
   obtain⟨sb2,agT⟩:∃b2,(sb||decide (v≠0))=b2:=⟨_,rfl⟩
   have hcase:(sb=true/\sb2=true)\/(sb=false/\v≠0/\sb2=true)\/(sb=false/\v=0/\sb2=false):=by
    cases sb with
    |true=>exact .inl ⟨rfl,by rw[<-agT];rfl⟩
    |false=>
     by_cases hv:v=0
     ·exact .inr (.inr ⟨rfl,hv,by rw[<-agT,hv];rfl⟩)
     ·exact .inr (.inl ⟨rfl,hv,by rw[<-agT];simp[hv]⟩)
   rcases hcase with⟨e1,e2⟩|⟨e1,hv,e2⟩|⟨e1,hv,e2⟩
   all_goals
    subst e1 e2
    repeat' ((conv=>whnf)<;>first|(show bV ..;refine aH ba k hba rfl hlt ?_)|(show fT ..;(refine kz (λR w' h=>by rw[<-hba];exact(hkn h.1).2.rows) (j:=k) hlt hxv ?_))|refine bn ?_|refine ag ?_ ?_<;>intro _)
    all_goals(conv=>whnf)
    all_goals exact⟨(k+1,_),[],⟨hlt,by show _=(x.aM.xs.take (k+1)).any _;rw[hany,agT]⟩,by show x.aM.xs.length-(k+1)<x.aM.xs.length-k;omega,rfl,⟨rfl,rfl,rfl,rfl,rfl,rfl,rfl,rfl,rfl,trivial⟩,bM,λR w' h=>h⟩
  obtain rfl:k=x.aM.xs.length:=by omega
  rw[List.take_length,hxb]at hsb
  cases sb with
  |false=>
   repeat' ((conv=>whnf)<;>first|refine bn ?_|refine ag ?_ ?_<;>intro _)
   all_goals(conv=>whnf)
   have e:iC c.aj c.giant s.pl (vl.getD n.a.toNat 0) r fr.xs to.xs=(q.1.pl,q.2):=by
    unfold iC;rw[<-hsb,if_neg aY,<-Re];exact Prod.ext hq1.symm hq2.symm
   exact fw _ _ _ _ q [(2,some 8),(3,some 9),(4,some 10)] ⟨(congrArg Prod.fst e).symm,(congrArg Prod.snd e).symm,hq3⟩ aY rfl rfl rfl rfl bM (λR w' h=>⟨h.1.1.2,h.2⟩)
  |true=>
   have hb0:0<x.aM.xs.length:=by
    rw[hxb];rcases Nat.eq_zero_or_pos r.2.length with e|e
    ·rw[List.eq_nil_of_length_eq_zero e]at hsb;cases hsb
    ·exact e
   repeat' ((conv=>whnf)<;>first|(show bV ..;refine aH sa i hsa rfl (ln hto) ?_)|(show fT ..;(refine bA (λR w' h=>by rw[<-hsa];exact aV h.1.1.1.1.1.2.1) _ _ (YV hto) rfl ?_))|(show aI _ 83 ..;(refine dR [(6,.box (cs (n0 n).cells) 41),(5,.box (cs n.cells) 41),(1,.rows (aN vl) 1 3)] 0 8 9 10 c q.1 (((dW q.1.aF).and (tO x.aM)).and (bE to)) [.lp 0 0 0 0,.c x.aM.val,.c to.val] _ _ _ _ Tryz.call83 rfl rfl rfl (λR w' h=>⟨⟨Pq h.1.1.1.1.1.1 h.2,tZ h (λ_ _ h=>(hkn h.1).2.rows)⟩,h.1.1.1.1.1.2.2 to (List.mem_of_getElem? hto)⟩) (dZ w F) (λR w' h b hb=>(h.1.1.2 b hb).1) (λw' ρ' F' h'=>J7 c q.1 x.aM to hxI.xX hb0 hn2 hq3.aF (by have:=zq.qW;omega) tF hpl w' ρ' F' h') (λm ⟨hm,hms⟩=> ?_)))|(show aI _ 82 ..;(refine dR [(6,.box (cs (n0 n).cells) 41),(5,.box (cs n.cells) 41),(1,.rows (aN vl) 1 3)] 0 12 13 14 c (aC q.1 m).1 ed [.lp 0 0 0 0,ax 4,ax q.2,ax 0,ax (aC q.1 m).2] _ _ _ _ Tryz.call82 rfl rfl rfl (λR w' h=>trivial) (dZ w F) (λR w' h b hb=>(h.1.1.1.2 b hb).1) (λw' ρ' F' h'=>mi c (aC q.1 m).1 4 q.2 0 (aC q.1 m).2 (by rw[iX];have:=zq.lW;omega) w' ρ' F' h') (λ_ _=> ?_)))|refine bn ?_|refine ag ?_ ?_<;>intro _)
   all_goals(conv=>whnf)
   have hS:=iB (s:=q.1) (hm.trans (TQ hb))
   have e:iC c.aj c.giant s.pl (vl.getD n.a.toNat 0) r fr.xs to.xs=((dn (aC q.1 m).1 4 q.2 0 (aC q.1 m).2).pl,((aC q.1 m).1.code.length:Int)):=by
    unfold iC
    rw[<-hsb,if_pos rfl,<-Re,<-hq1,<-hq2,<-hxb]
    dsimp only
    rw[hS];rfl
   exact fw _ _ _ _ (dn (aC q.1 m).1 4 q.2 0 (aC q.1 m).2,((aC q.1 m).1.code.length:Int)) [(2,some 16),(3,some 17),(4,some 18)] ⟨(congrArg Prod.fst e).symm,(congrArg Prod.snd e).symm,qL (nR hq3 hms) _ _ _ _⟩ aY rfl rfl rfl rfl bM (λR w' h=>⟨h.1.1.1.1.2,gW h.1.1.2 h.1.2⟩)
section
variable {s:fE}
theorem Ji{m:Option Int}{v:Int}(hv:0<=v):0<=(lI s m v).2:=by
 cases m with
 |none=>exact hv
 |some a=>exact Int.natCast_nonneg _
variable {x:Int} {i:Nat}
theorem agS{t:Int->Option Int}(h:∀k a,t k=some a->0<=a):(∀k a,(p9 s t x i).2.1 k=some a->0<=a)/\0<=(p9 s t x i).2.2:=by
 unfold p9
 cases e:t i with
 |some a=>exact⟨h,h i a e⟩
 |none=>
  refine⟨λk a hk=> ?_,Int.natCast_nonneg _⟩
  dsimp only at hk
  split at hk
  ·simp only[Option.some.injEq]at hk;rw[<-hk];exact Int.natCast_nonneg _
  ·exact h k a hk
variable {base:Nat} {y:oH}
theorem aeQ{n:Nat}{d:List Int}(h:NonNeg y.t y.m):NonNeg (rG n base x y i d).t (rG n base x y i d).m:=by
 unfold rG
 split
 ·exact h
 ·exact⟨(agS h.t).1,λa ha=>by simp only[Option.some.injEq]at ha;rw[<-ha];exact Ji (Int.natCast_nonneg _)⟩
theorem NE{n base:Nat}{x:Int}:∀(l:List (List Int)) (i:Nat) (y:oH),NonNeg y.t y.m->NonNeg (m_ n base x l i y).t (m_ n base x l i y).m
 |[],_,_,h=>h
 |d::r,i,y,h=>NE r (i+1) _ (aeQ h)
theorem ae5{n:Nat}{ds:List (List Int)}(h:NonNeg y.t y.m):NonNeg (sU n base x y ds).t (sU n base x y ds).m:=by
 have hz:=NE (n:=n) (base:=base) (x:=x) ds 0 ⟨y.s,y.t,none⟩ ⟨h.t,λa ha=>by cases ha⟩
 unfold sU
 dsimp only
 split
 ·exact⟨hz.t,h.m⟩
 ·rename_i a ha
  refine⟨hz.t,λb hb=> ?_⟩
  simp only[Option.some.injEq]at hb
  rw[<-hb]
  split
  ·exact Ji (Int.natCast_nonneg _)
  ·exact Ji (hz.m a ha)
theorem Oa{n g:Nat}{x:Int}{all:List (List Int)}:∀(f base:Nat) (y:oH),NonNeg y.t y.m->NonNeg (kI n g x all f base y).t (kI n g x all f base y).m
 |0,_,_,h=>h
 |f+1,base,y,h=>by
  unfold kI
  split
  ·exact Oa f _ _ (ae5 h)
  ·exact h
variable {all:List (List Int)}
theorem agA{n:Nat}{giant:Bool}(hx:0<=x):0<=(jm n giant s x all).2:=by
 have h:=Oa (n:=n) (g:=oK giant n) (x:=x) (all:=all) n 0 ⟨s,mU x,none⟩ (Dm hx)
 unfold jm
 dsimp only
 split
 ·exact Int.natCast_nonneg _
 ·rename_i a ha
  exact h.m a ha
variable {c:dN}
theorem agE{n:ai}{vl:List Int}(h:∀v∈vl,0<=v):0<=(dh c n i s vl).2:=by
 have hg:∀k,0<=vl.getD k 0:=λk=>by
  by_cases hk:k<vl.length
  ·rw[List.getD_eq_getElem?_getD,List.getElem?_eq_getElem hk];exact h _ (List.getElem_mem hk)
  ·rw[List.getD_eq_getElem?_getD,List.getElem?_eq_none aa];exact Int.le_refl 0
 have hp:∀x data sl,0<=x->0<=(lK c.aj s x data sl).2:=λx data sl hx=>by
  rw[PI]
  have h1:∀a,(Yq c.aj s x (data.getD 2 0) sl).2=some a->0<=a:=λa ha=>by
   unfold Yq at ha
   split at ha
   ·cases ha
   ·split at ha<;>(simp only[Option.some.injEq]at ha;rw[<-ha];exact Int.natCast_nonneg _)
  have h2:∀a,(Xm c.aj (Yq c.aj s x (data.getD 2 0) sl) x (data.getD 1 0) sl).2=some a->0<=a:=λa ha=>by
   unfold Xm at ha
   split at ha
   ·exact h1 a ha
   ·split at ha<;>(simp only[Option.some.injEq]at ha;rw[<-ha];first|exact Ji hx|exact Ji (Int.natCast_nonneg _))
  have h3:0<=(WZ c.aj (Xm c.aj (Yq c.aj s x (data.getD 2 0) sl) x (data.getD 1 0) sl) x).2:=by
   unfold WZ
   split
   ·exact Int.natCast_nonneg _
   ·rename_i m hm;exact h2 m hm
  unfold pw4
  split
  ·exact h3
  ·exact Int.natCast_nonneg _
 unfold dh
 repeat' split
 ·exact Int.natCast_nonneg _
 ·exact Int.natCast_nonneg _
 ·exact Int.natCast_nonneg _
 ·exact Int.natCast_nonneg _
 ·exact hp _ _ _ (hg _)
 ·exact hg _
 ·unfold iC
  dsimp only
  split
  ·exact Int.natCast_nonneg _
  ·exact agA (hg _)
def aoj(c:dN)(n:ai)(i:Nat):Prop:=∀(s:dw) (vl:List Int) (w:World) (ρ:Nat->SX.Loc) (F:Nat->Prop),lU c s vl->vl.length=i->(∀v∈vl,0<=v)->iY w ρ F 2 5 (vI c s vl) (ru c s n)->
 Calls Tryz.prog 36 (SV.eO ρ [.lp 0 0 0 0,.agg (jN n),ax i,.c c.shapes.val,.c c.bO.val,.os 1 vl.length]).toArray w (sI w ρ F c s vl (dh c n i s.pl vl))
theorem anj{aR:Int}{sh:List (List Int)}{g:List ai}(h:zR c aR sh g){n:ai}(hi:g[i]? =some n):aoj c n i:=by
 obtain⟨hl,hF,s0,hs0,hin⟩:=h.formed hi
 obtain⟨hn,hsm,_⟩:=h.each i n hi
 obtain⟨t2,to,ht2,_,hto,tF,_,eto,_,gt2,_,tp,tl,te⟩:=h.at_ hl
 have hsi:=KC tp
 have es:s0=t2.xs:=by rw[hs0]at gt2;simpa using gt2
 have hah:=nG hin.form
 have hkk:=hF.ak
 intro s vl w ρ F hN hvl hnn hO
 have hg:∀k,0<=vl.getD k 0:=λk=>by
  by_cases hk:k<vl.length
  ·rw[List.getD_eq_getElem?_getD,List.getElem?_eq_getElem hk];exact hnn _ (List.getElem_mem hk)
  ·rw[List.getD_eq_getElem?_getD,List.getElem?_eq_none aa];exact Int.le_refl 0
 have hdata:n.ak=2->n.ay.xs=s0:=λhk=>by
  have:=hin.ay;unfold bR at this;rw[if_pos (.inr hk)]at this;simpa using this
 have hA:n.ak≠1->n.ak≠2->0<=n.a/\n.a.toNat<vl.length:=λh1 h2=>by have:=hF.a h1 h2;omega
 by_cases k1:n.ak=1
 ·have e:dh c n i s.pl vl=lF s.pl n.lo n.hi to.xs:=by unfold dh;rw[if_pos k1,eto]
  rw[e];exact ab0 c s vl n i k1 hN hn.kH hn.kJ to hto w ρ F hO
 by_cases k2:n.ak=2
 ·have e:dh c n i s.pl vl=bP (bC c.aj s.pl to.xs (λe=>n.data.xs.getD e 0)).1 2 0 0 (bC c.aj s.pl to.xs (λe=>n.data.xs.getD e 0)).2:=by unfold dh;rw[if_neg k1,if_pos k2,eto]
  have hd:=hah.2.2.2.2 k2
  rw[hdata k2,es]at hd
  rw[e];exact aaN c s vl n i k2 hN to hto tF hsi aa aa hn.data w ρ F hO
 obtain⟨h0,ha⟩:=hA k1 k2
 by_cases k6:n.ak=6
 ·have e:dh c n i s.pl vl=bP s.pl 3 (vl.getD n.a.toNat 0) (vl.getD n.b.toNat 0) 0:=by unfold dh;rw[if_neg k1,if_neg k2,if_pos k6]
  have hb:=hF.b k6
  rw[e];exact ag2 c s vl n i k6 hN ⟨h0,hb.1⟩ ha aa w ρ F hO
 by_cases k7:n.ak=7
 ·have e:dh c n i s.pl vl=bP (bC c.aj s.pl to.xs (λ_=>n.data.xs.getD 0 0)).1 5 (vl.getD n.a.toNat 0) 0 (bC c.aj s.pl to.xs (λ_=>n.data.xs.getD 0 0)).2:=by unfold dh;rw[if_neg k1,if_neg k2,if_neg k6,if_pos k7,eto]
  rw[e];exact V4 c s vl n i k7 hN h0 ha to hto tF hsi (hah.2.2.1 k7) hn.data w ρ F hO
 by_cases k8:n.ak=8
 ·have e:dh c n i s.pl vl=lK c.aj s.pl (vl.getD n.a.toNat 0) n.data.xs to.xs:=by unfold dh;rw[if_neg k1,if_neg k2,if_neg k6,if_neg k7,if_pos k8,eto]
  rw[e];exact abK c s vl n i k8 hN h0 ha (hg _) to hto tF hsi (hah.2.2.2.1 k8) hn.data w ρ F hO
 have hk:dX n\/n.ak=9:=by unfold dX;omega
 have hal:n.a.toNat<g.length:=by omega
 obtain⟨t,fr,ht,hts,hfr,CX,et,efr,gt_,_,_,fp,fl,fe⟩:=h.at_ hal
 by_cases hft:n.ak=9/\fr.xs=to.xs
 ·have e:dh c n i s.pl vl=(s.pl,vl.getD n.a.toNat 0):=by unfold dh;rw[if_neg k1,if_neg k2,if_neg k6,if_neg k7,if_neg k8,efr,eto,if_pos hft]
  rw[e];exact acD c s vl n i fr to hft.1 hN h0 ha hfr CX hto tF hft.2 w ρ F hO
 have eta:(sh.take i).getD n.a.toNat []=t.xs:=by
  rw[<-gt_,List.getD_eq_getElem?_getD,List.getD_eq_getElem?_getD,List.getElem?_take,if_pos aa]
 obtain⟨hok,hc2⟩:=rows_ok hk hin.form eta hin.ay hin.near fe
 have hcnt:wD (n0 n) t=(az s0).toNat:=by show(az ((wN (Wl n) t).2.getD 1 [])).toNat=_;rw[hc2];rfl
 have hr:jA (n0 n) t=((tQ (n0 n) t.xs (wD (n0 n) t),(List.range (wD (n0 n) t)).map (dI (n0 n) (wD (n0 n) t))),0):=by unfold jA;exact if_pos hok
 have e:dh c n i s.pl vl=iC c.aj c.giant s.pl (vl.getD n.a.toNat 0) (jA (n0 n) t).1 fr.xs to.xs:=by
  unfold dh;rw[if_neg k1,if_neg k2,if_neg k6,if_neg k7,if_neg k8,efr,eto,if_neg hft,et]
 rw[e]
 refine Vl c s vl n i t fr to (jA (n0 n) t).1 ⟨k1,k2,k6,k7,k8⟩ hN h0 ha (hg _) hn hsm ht hts hfr CX hto tF hft rfl ?_ ?_ hsi w ρ F hO
 ·rw[hr]
  refine⟨by have:=h.aj.1;omega,by have:=h.aj.2;omega,?_,fp,tp,λr hr=> ?_⟩
  ·show(tQ _ _ _).length=_
   rw[tl,<-es,<-hcnt];simp[tQ]
  ·obtain⟨o,_,rfl⟩:=List.mem_map.1 hr
   rw[jQ,fl]
 ·rw[hr]
  show _<=(List.map _ _).length
  rw[tl,<-es,<-hcnt];simp
end
end Go.Proofs.YtgndjjdeopfdkaaGreat

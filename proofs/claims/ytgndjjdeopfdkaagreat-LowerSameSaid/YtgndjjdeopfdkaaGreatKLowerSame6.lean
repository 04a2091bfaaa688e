import Derived.DeepKeys
import Derived.Test.YtgndjjdeopfdkaaGreatKLowerSame5
/- texts IT NJ of the proof of LowerSameSaid -/
set_option maxHeartbeats 16000000
set_option maxRecDepth 20000
set_option linter.unusedVariables false
set_option linter.unusedSimpArgs false
namespace Go.Proofs.YtgndjjdeopfdkaaGreat
open Go.SX Go.RowKit
def FP(av:List Int)(s:Int)(t:Sp):Int:=s+t.1*av.getD t.2.toNat 0
def jh(n:ak)(cnt k:Nat)(T:Nat->List Sp)(av:List Int):List Int:=(List.range k).map λo=>(T o).foldl (FP av) (dV n cnt o)
theorem XM{n i:Nat}{l:List Int}{x:Int}(hl:l.length=i)(hi:i<n):(aZ (j_ n (l++[x])))[i]? =some [.int .i64 x]:=by
 subst hl
 rw[eO (by rw[vF zk];exact hi)]
 simp[j_]
theorem acB{n i:Nat}{l:List Int}{x y:Int}{K:List (List Value)->Prop}(hl:l.length=i)(hi:i<n)(h:K (aZ (j_ n (l++[y])))):dH (aZ (j_ n (l++[x]))) i 0 [.int .i64 y] K:=by
 refine jq _ (XM hl hi) kQ ?_
 have e:(aZ (j_ n (l++[x]))).set i (cB [.int .i64 x] 0 [.int .i64 y])=aZ (j_ n (l++[y])):=by
  have e2:cB [Value.int .i64 x] 0 [.int .i64 y]=[Value.int .i64 y]:=rfl
  rw[e2]
  subst hl
  unfold j_ aZ
  rw[List.length_append,List.length_append,List.length_singleton,List.length_singleton]
  simp
 rw[e];exact h
theorem aaw{av:List Int}(ha:∀x∈av,fJ x):∀{l:List Sp} {s:Int},(∀t∈l,fJ t.1)->s-l.length*1099511627776<=l.foldl (FP av) s/\l.foldl (FP av) s<=s+l.length*1099511627776
 |[],s,_=>by simp
 |t::r,s,h=>by
  have h1:=jL (A:=1048576) (B:=1048576) (h t List.mem_cons_self) (iY ha t.2.toNat)
  have g1:=aaw ha (l:=r) (s:=FP av s t) (λx hx=>h x (List.mem_cons_of_mem _ hx))
  have e1:FP av s t=s+t.1*av.getD t.2.toNat 0:=rfl
  simp only[List.foldl_cons,List.length_cons]
  omega
theorem af0(w:World)(n:ak)(wE:Value)(F:FuncId)(P0:Value)(cnt:Nat)(T:Nat->List Sp)(a b:ax)(hT:Vg w F P0 cnt T)(hn:ace w n cnt)(ha:a.ok w)(hab:∀x∈a.xs,fJ x)(hat:∀o,o<cnt->∀s∈T o,0<=s.2/\s.2<a.xs.length):Calls Tryz.prog 146 #[kz n wE (.func (.func F) #[P0] #[]) cnt,a.val,b.val] w (DJ w (jh n cnt cnt T a.xs)):=by
 have hk:=hn.ai
 have ug:=hn.few
 refine fH Tryz.func146 [.agg [aC n.ai,aC n.a,aC n.b,.c n.az.val,aC n.lo,aC n.hi,aC n.size,.c n.data.val,.c n.aQ.val,.c wE,.fn (.func F) [.c P0] [],aC (cnt:Int)],.c a.val,.c b.val] ?_
 repeat' ((conv=>whnf)<;>first|(show pg ..;(refine lD cnt rfl rfl mE aa ?_))|refine a_ ?_)
 refine Wp.loop (σ:=Nat) 2 (λo=>[(1,.c a.val),(2,.c b.val),(3,.lp 0 0 0 0),(7,.os 1 cnt),(15,aC cnt),(16,aC o)]) (λo=>[(1,.rows (aZ (j_ cnt (jh n cnt o T a.xs))) 1 3),(0,.box [aC n.ai,aC n.a,aC n.b,.c n.az.val,aC n.lo,aC n.hi,aC n.size,.c n.data.val,.c n.aQ.val,.c wE,.fn (.func F) [.c P0] [],aC (cnt:Int)] 104)]) (λ_=>aU w)
  (λo=>o<=cnt) (λo=>cnt-o) 0 [] ay (λs=>⟨rfl,rfl⟩) (Nat.zero_le _) ⟨rfl,⟨rfl,rfl,rfl,rfl,rfl,rfl,trivial⟩,⟨?_,aj,trivial⟩,λ_ _ h=>h⟩ ?_
 ·have:aZ (j_ cnt (jh n cnt 0 T a.xs))=List.replicate cnt [Value.int .i64 0]:=by simp[aZ,j_,jh]
  show(1,b_.rows (aZ (j_ cnt (jh n cnt 0 T a.xs))) 1 3)∈_
  rw[this]
  exact aj
 rintro o ho
 have hlen:(jh n cnt o T a.xs).length=o:=by simp[jh]
 by_cases hlt:o<cnt
 ·have Bq:jh n cnt (o+1) T a.xs=jh n cnt o T a.xs++[(T o).foldl (FP a.xs) (dV n cnt o)]:=by unfold jh;rw[List.range_succ,List.map_append];rfl
  have hbd:=Ir hn o
  have htb:=hT.bd o hlt
  have htf:=hT.few o hlt
  have Vs:=hat o hlt
  have hC:∀{R:Nat->Prop} {w':World},(aU w).holds R w'->Calls Tryz.prog F #[P0,.int .i64 o] w' (qK w' (T o)):=λh=>hT.calls _ _ h o hlt
  repeat' ((conv=>whnf)<;>first|refine su ?_|refine sZ ?_|(show aJ _ 108 ..;refine aR (f:=108) Tryz.call108 (.int .i64 (dV n cnt o)) (λρ w' hw=>VN w' n (ae hw λR h=>hn.aQ.later h) hk wE (.func (.func F) #[P0] #[]) cnt o ug hlt hn.three (λh4=>⟨(hn.four h4).1,(hn.four h4).2.1,(hn.four h4).2.2 o hlt⟩)) ?_)|((show aJ _ F _ _ _ _ _);refine MS (T o) hT.enter (λρ w' hw=>ae hw λR h=>hC h) ?_)|refine a_ ?_|refine ag ?_ ?_<;>intro _)
  refine Wp.loop (σ:=Nat×Int) 3 (λ⟨j,cur⟩=>[(1,.c a.val),(2,.c b.val),(3,.lp 0 0 0 0),(7,.os 1 cnt),(8,aC o),(15,aC cnt),(16,aC o),(31,.os 2 (T o).length),(32,aC (T o).length),(33,aC j)]) (λ⟨j,cur⟩=>[(2,.rows (gz (T o)) 2 152),(1,.rows (aZ (j_ cnt (jh n cnt o T a.xs++[cur]))) 1 3),(0,.box [aC n.ai,aC n.a,aC n.b,.c n.az.val,aC n.lo,aC n.hi,aC n.size,.c n.data.val,.c n.aQ.val,.c wE,.fn (.func F) [.c P0] [],aC (cnt:Int)] 104)]) (λ_=>aU w)
   (λ⟨j,cur⟩=>j<=(T o).length/\cur=((T o).take j).foldl (FP a.xs) (dV n cnt o)) (λs=>(T o).length-s.1) (0,dV n cnt o) [] ay (λs=>⟨rfl,rfl⟩) ⟨Nat.zero_le _,rfl⟩ ⟨rfl,⟨rfl,rfl,rfl,rfl,rfl,rfl,rfl,rfl,rfl,rfl,trivial⟩,fE,λ_ _ h=>h⟩ ?_
  rintro⟨j,cur⟩ ⟨hj,Kj⟩
  by_cases hjl:j<(T o).length
  ·have s1:=J8 (f:=FP a.xs) (s:=dV n cnt o) hjl
   have hrow:=EC hjl
   have hwb:=htb _ (List.getElem_mem hjl)
   have hwa:=Vs _ (List.getElem_mem hjl)
   have g:=aaw hab (l:=(T o).take j) (s:=dV n cnt o) (λx hx=>htb x (List.mem_of_mem_take hx))
   rw[<-Kj,List.length_take,Nat.min_eq_left hj]at g
   rw[<-Kj]at s1
   generalize (T o)[j]=s at*
   have q1:=jL (A:=1048576) (B:=1048576) hwb (iY hab s.2.toNat)
   unfold fJ at hbd
   obtain⟨ua,rO⟩:=ha.base aa
   have hur:∀(R:Nat->Prop) w',(aU w).holds R w'->bE w' (some ua) 1 (aZ a.xs):=λR w' h=>by rw[<-rO];exact aH h ha.rows
   repeat' ((conv=>whnf)<;>first|(show eP ..;(first|refine bY j rfl hjl EP ?_|refine bY o rfl hlt (by rw[aP,vF zk];exact Nat.le_refl _) ?_))|refine wV ?_|(show rQ ..;refine row_of _ _ (XM hlen hlt) rfl ?_)|(show dn ..;refine aiY rO aa aa ?_)|(show gZ ..;refine dP hur (j:=s.2.toNat) aa ?_)|(show dH ..;refine acB hlen hlt ?_)|(show cO _ 10 ..;refine mV [14] _ aiT ?_)|refine a_ ?_|refine ag ?_ ?_<;>intro _)
   all_goals(conv=>whnf)
   all_goals exact⟨(j+1,_),[],⟨hjl,by rw[s1,FP]⟩,by simp only;omega,rfl,⟨rfl,rfl,rfl,rfl,rfl,rfl,rfl,rfl,rfl,rfl,trivial⟩,fE,λ_ _ h=>h⟩
  ·obtain rfl:j=(T o).length:=by omega
   rw[List.take_of_length_le (Nat.le_refl _)]at Kj
   repeat' ((conv=>whnf)<;>first|refine a_ ?_|refine ag ?_ ?_<;>intro _)
   conv=>whnf
   exact⟨o+1,[],hlt,by omega,rfl,fE,⟨by
    show(1,b_.rows (aZ (j_ cnt (jh n cnt (o+1) T a.xs))) 1 3)∈_
    rw[Bq,<-Kj];exact aj,aj,trivial⟩,λ_ _ h=>h⟩
 ·obtain rfl:o=cnt:=by omega
  have hgr:j_ o (jh n o o T a.xs)=jh n o o T a.xs:=by unfold j_;rw[hlen,Nat.sub_self];simp
  repeat' ((conv=>whnf)<;>first|refine a_ ?_|refine ag ?_ ?_<;>intro _)
  conv=>whnf
  refine Tg hgr (λ_ _ h=>h) rfl aj (by rw[hlen]) (λx hx=> ?_) (by rw[hlen];omega)
  obtain⟨q,hq,rfl⟩:=List.mem_map.1 hx
  rw[List.mem_range]at hq
  have g:=aaw hab (l:=T q) (s:=dV n o q) (hT.bd q hq)
  have gf:=hT.few q hq
  have gb:=Ir hn q
  unfold fJ at gb
  unfold i64
  omega
theorem jP{a b c:Int}(h:0<au [a,b,c]):au [a,b,c]=a*b*c:=by
 unfold au at h|-
 rw[if_neg aI]at h|-
 simp only[dX]at h|-
 split at h
 ·simp at h
 ·rename_i h1
  split at h
  ·simp at h
  ·rename_i h2
   split at h
   ·simp at h
   ·rename_i h3
    rw[if_neg h1,if_neg h2,if_neg h3]
    grind
theorem XR{a b c e:Int}(h:0<h_ [a,b,c,e]):h_ [a,b,c,e]=a*b*c*e:=by
 unfold h_ at h|-
 rw[if_pos aI]at h|-
 simp only[nE]at h|-
 split at h
 ·simp at h
 ·rename_i h1
  split at h
  ·simp at h
  ·rename_i h2
   split at h
   ·simp at h
   ·rename_i h3
    split at h
    ·simp at h
    ·rename_i h4
     rw[if_neg h1,if_neg h2,if_neg h3,if_neg h4]
     grind
theorem U1{o k h w:Int}(ho:o<k*h*w)(hw:0<w)(hh:0<h):o/w/h<k:=
 Int.ediv_lt_of_lt_mul hh (Int.ediv_lt_of_lt_mul hw ho)
theorem aie{d:List Int}{k1 k2 k3 i1 i2 o:Int}{i:Nat}(h1:1<=k1)(h2:1<=k2/\k2<=i1)(h3:1<=k3/\k3<=i2)(ho:0<=o)(hi:(i:Int)<k1*k2*k3):0<=(gY d k1 k2 k3 i1 i2 o i).2/\(gY d k1 k2 k3 i1 i2 o i).2<k1*i1*i2:=by
 have hW:0<i2-k3+1:=by omega
 have hH:0<i1-k2+1:=by omega
 obtain⟨d1,d2,d3,d4⟩:=jI ho hW
 obtain⟨d5,d6,d7,d8⟩:=jI d1 hH
 obtain⟨c1,c2,c3,c4⟩:=jI (x:=(i:Int)) (y:=k3) aa aa
 obtain⟨c5,c6,c7,c8⟩:=jI (x:=(i:Int)/k3) (y:=k2) c1 aa
 have hc:=U1 (o:=(i:Int)) (k:=k1) (h:=k2) (w:=k3) hi aa aa
 show 0<=((i:Int)/k3/k2*i1+o/(i2-k3+1)%(i1-k2+1)+(i:Int)/k3%k2)*i2+o%(i2-k3+1)+(i:Int)%k3/\((i:Int)/k3/k2*i1+o/(i2-k3+1)%(i1-k2+1)+(i:Int)/k3%k2)*i2+o%(i2-k3+1)+(i:Int)%k3<k1*i1*i2
 generalize (i:Int)/k3/k2=C at*
 generalize o/(i2-k3+1)%(i1-k2+1)=Y at*
 generalize (i:Int)/k3%k2=DY at*
 generalize o%(i2-k3+1)=X at*
 generalize (i:Int)%k3=DX at*
 have e1:C*i1<=(k1-1)*i1:=Int.mul_le_mul_of_nonneg_right aa aa
 rw[Int.sub_mul,Int.one_mul]at e1
 have e0:0<=C*i1:=Int.mul_nonneg c5 aa
 have e2:(C*i1+Y+DY)*i2<=(k1*i1-1)*i2:=Int.mul_le_mul_of_nonneg_right aa aa
 rw[Int.sub_mul,Int.one_mul]at e2
 have e3:0<=(C*i1+Y+DY)*i2:=Int.mul_nonneg aa aa
 omega
theorem aim{z i0 i1 i2 o:Int}{i:Nat}(hz:1<=z)(h1:z<=i1)(h2:z<=i2)(m1:i1%z=0)(m2:i2%z=0)(ho:0<=o/\o<i0*(i1/z)*(i2/z))(hi:(i:Int)<z*z):0<=(iN z i1 i2 o i).2/\(iN z i1 i2 o i).2<i0*i1*i2:=by
 have hW:=uq (x:=i2) (y:=z) aa h2
 have hH:=uq (x:=i1) (y:=z) aa h1
 have q1:=Int.mul_ediv_add_emod i1 z
 have q2:=Int.mul_ediv_add_emod i2 z
 obtain⟨d1,d2,d3,d4⟩:=jI (x:=o) (y:=i2/z) ho.1 aa
 obtain⟨d5,d6,d7,d8⟩:=jI (x:=o/(i2/z)) (y:=i1/z) d1 aa
 obtain⟨c1,c2,c3,c4⟩:=jI (x:=(i:Int)) (y:=z) aa aa
 have hdy:(i:Int)/z<z:=Int.ediv_lt_of_lt_mul aa hi
 have hc:=U1 (o:=o) (k:=i0) (h:=i1/z) (w:=i2/z) ho.2 aa aa
 show 0<=(o/(i2/z)/(i1/z)*i1+o/(i2/z)%(i1/z)*z+(i:Int)/z)*i2+o%(i2/z)*z+(i:Int)%z/\(o/(i2/z)/(i1/z)*i1+o/(i2/z)%(i1/z)*z+(i:Int)/z)*i2+o%(i2/z)*z+(i:Int)%z<i0*i1*i2
 generalize o/(i2/z)/(i1/z)=C at*
 generalize o/(i2/z)%(i1/z)=Y at*
 generalize o%(i2/z)=X at*
 generalize (i:Int)/z=DY at*
 generalize (i:Int)%z=DX at*
 have y1:Y*z<=(i1/z-1)*z:=Int.mul_le_mul_of_nonneg_right aa aa
 have x1:X*z<=(i2/z-1)*z:=Int.mul_le_mul_of_nonneg_right aa aa
 have y2:(i1/z-1)*z=z*(i1/z)-z:=by rw[Int.sub_mul,Int.one_mul,Int.mul_comm]
 have x2:(i2/z-1)*z=z*(i2/z)-z:=by rw[Int.sub_mul,Int.one_mul,Int.mul_comm]
 have y0:0<=Y*z:=Int.mul_nonneg d7 aa
 have x0:0<=X*z:=Int.mul_nonneg d3 aa
 have y1':Y*z<=i1-z:=by omega
 have x1':X*z<=i2-z:=by omega
 have e1:C*i1<=(i0-1)*i1:=Int.mul_le_mul_of_nonneg_right aa aa
 rw[Int.sub_mul,Int.one_mul]at e1
 have e0:0<=C*i1:=Int.mul_nonneg d5 aa
 have e2:(C*i1+Y*z+DY)*i2<=(i0*i1-1)*i2:=Int.mul_le_mul_of_nonneg_right aa aa
 rw[Int.sub_mul,Int.one_mul]at e2
 have e3:0<=(C*i1+Y*z+DY)*i2:=Int.mul_nonneg aa aa
 omega
def dZ(n:ak)(tl:List Int)(o:Nat):List Sp:=
 if n.ai=3 then uK n o (au tl).toNat
 else if n.ai=4 then CS n.data.xs (n.az.xs.getD 1 0) (n.az.xs.getD 2 0) (n.az.xs.getD 3 0) (tl.getD 1 0) (tl.getD 2 0) o
 else CQ n.size (tl.getD 1 0) (tl.getD 2 0) o
theorem ai3{n:ak}{at_:Nat}(h:cz n at_=true)(hk:n.ai=4):(n.data.xs.length:Int)=h_ n.az.xs/\(n.aQ.xs.length:Int)=n.az.xs.getD 0 0:=by
 unfold cz at h
 repeat(first|rw[if_pos aa]at h|rw[if_neg aa]at h)
 simp only[Bool.and_eq_true,decide_eq_true_eq]at h
 exact⟨h.1.2,h.2⟩
theorem aiR{l:List Int}(h:l.length=4):l=[l.getD 0 0,l.getD 1 0,l.getD 2 0,l.getD 3 0]:=by
 match l,h with
 |[a,b,c,d],_=>rfl
structure aiX(n:ak)(t:ax)(cnt:Nat)(F:FuncId)(P0:Value):Prop where
 fn:uN n t.val cnt= .func (.func F) #[P0] #[]
 terms:∀w,t.ok w->n.ok w->Vg w F P0 cnt (dZ n t.xs)
 lin:∀w,n.ok w->ace w n cnt
 at_:∀o,o<cnt->∀s∈dZ n t.xs o,0<=s.2/\s.2<au t.xs
theorem ajH{n:ak}{sh:List (List Int)}{s:List Int}{t:ax}{cnt:Nat}(hn:jb n sh s)(hk:n.ai=3\/n.ai=4\/n.ai=5)(ht:sh.getD n.a.toNat []=t.xs)(hg:0<au t.xs)(hgs:∀q∈sh,0<au q)(hc:au s=cnt):∃F P0,aiX n t cnt F P0:=by
 have hsh:=hn.az
 have hfo:=dJ hn.form
 have h4:=ai3 hn.form
 obtain⟨nd,nb,_,_,_⟩:=Gp hn.near
 have heb:=(dN t.xs).2
 have hcb:cnt<=64:=by have:=(dN s).2;omega
 have hsp:=(dN s).1
 rcases hk with hk|hk|hk
 ·unfold bP at hsh
  rw[if_neg aa,if_pos hk,ht]at hsh
  by_cases hdl:(n.data.xs.length:Int)=n.aQ.xs.length*au t.xs
  ·rw[if_pos hdl,Option.some.injEq]at hsh
   obtain⟨b1,b2⟩:=hfo.aQ hk
   have he1:au [(n.aQ.xs.length:Int)]=n.aQ.xs.length:=by
    unfold au
    rw[if_neg aI]
    simp only[dX]
    rw[if_neg aa]
    omega
   rw[<-hsh,he1]at hc
   have hbl:n.aQ.xs.length=cnt:=by omega
   obtain⟨size,hsz⟩:∃size:Nat,au t.xs=size:=⟨(au t.xs).toNat,by omega⟩
   have ad8:n.data.xs.length=n.aQ.xs.length*size:=by
    rw[hsz,<-Int.natCast_mul]at hdl
    exact Int.ofNat.inj hdl
   have hG:∀o,dZ n t.xs o=uK n o size:=λo=>by unfold dZ;rw[if_pos hk,hsz];rfl
   refine⟨_,_,if_pos hk,λw hto hno=>⟨Tryz.call104,λR w' hb o ho=> ?_,λo ho=> ?_,λo ho x hx=> ?_⟩,λw hno=>⟨.inl hk,hno.aQ,nb,hcb,λ_=>hbl,λh=>by omega⟩,λo ho x hx=> ?_⟩
   ·rw[hG]
    exact ad7 w' n (hno.data.later hb) ⟨b1,b2⟩ (.slice none 0 0) .nilFunc cnt o size aa ad8 aa
   ·rw[hG];simp[uK];omega
   ·rw[hG]at hx
    obtain⟨i,_,rfl⟩:=List.mem_map.1 hx
    exact iY nd _
   ·rw[hG]at hx
    obtain⟨i,hi,rfl⟩:=List.mem_map.1 hx
    rw[List.mem_range]at hi
    simp only
    omega
  ·rw[if_neg hdl]at hsh;cases hsh
 ·obtain⟨g1,g2⟩:=h4 hk
  have QW:=hfo.acS hk
  obtain⟨hl4,acD⟩:=uu QW
  have hsx:=aiR hl4
  unfold bP at hsh
  rw[if_neg aa,if_neg aa,if_pos hk,ht]at hsh
  have hG:∀o,dZ n t.xs o=CS n.data.xs (n.az.xs.getD 1 0) (n.az.xs.getD 2 0) (n.az.xs.getD 3 0) (t.xs.getD 1 0) (t.xs.getD 2 0) o:=λo=>by unfold dZ;rw[if_neg aa,if_pos hk]
  have dm:∀k,k<4->1<=n.az.xs.getD k 0/\n.az.xs.getD k 0<=64:=λk hk=>acD _ (cu aa)
  have dm0:=dm 0 ay
  have dm1:=dm 1 ay
  have dm2:=dm 2 ay
  have dm3:=dm 3 ay
  rw[hsx]at g1 QW
  have hke:=XR QW
  rw[hke]at g1
  generalize n.az.xs.getD 0 0=k0 at*
  generalize n.az.xs.getD 1 0=k1 at*
  generalize n.az.xs.getD 2 0=k2 at*
  generalize n.az.xs.getD 3 0=k3 at*
  by_cases hbad:t.xs.length≠3\/t.xs.getD 0 0≠k1\/t.xs.getD 1 0<k2\/t.xs.getD 2 0<k3
  ·rw[if_pos hbad]at hsh;cases hsh
  rw[if_neg hbad]at hsh
  have hl3:t.xs.length=3:=by omega
  have htx:=adL hl3
  have YR:=(g_ hg).2.2
  have td1:=YR _ (cu (xs:=t.xs) (k:=1) aa)
  have td2:=YR _ (cu (xs:=t.xs) (k:=2) aa)
  have te:au t.xs=k1*t.xs.getD 1 0*t.xs.getD 2 0:=by
   have h0:t.xs.getD 0 0=k1:=by omega
   have:=jP (a:=t.xs.getD 0 0) (b:=t.xs.getD 1 0) (c:=t.xs.getD 2 0) Am
   rw[<-htx,h0]at this
   exact this
  generalize hi0:t.xs.getD 0 0=i0 at*
  generalize t.xs.getD 1 0=i1 at*
  generalize t.xs.getD 2 0=i2 at*
  by_cases hpos:0<au [k0,i1-k2+1,i2-k3+1]
  ·rw[if_pos hpos,Option.some.injEq]at hsh
   have hcv:=jP hpos
   rw[hsh,hc]at hcv
   have hQ:k1*k2*k3<=k1*i1*i2:=by
    have q1:k1*k2<=k1*i1:=Int.mul_le_mul_of_nonneg_left aa aa
    have q0:0<k1*k2:=Int.mul_pos aa aa
    exact Int.mul_le_mul q1 aa aa aa
   have hQ0:0<k1*k2*k3:=Int.mul_pos (Int.mul_pos aa aa) aa
   have hob:∀o:Nat,o<cnt->(o:Int)<k0*(i1-k2+1)*(i2-k3+1):=λo ho=>by rw[<-hcv];omega
   refine⟨_,_,by unfold uN;rw[if_neg aa,if_pos hk],λw hto hno=>⟨Tryz.call105,λR w' hb o ho=> ?_,λo ho=> ?_,λo ho x hx=> ?_⟩,λw hno=>⟨.inr (.inl hk),hno.aQ,nb,hcb,λh=>by omega,λ_=> ?_⟩,λo ho x hx=> ?_⟩
   ·rw[hG]
    exact aeD w' n t (hno.data.later hb) (hno.az.later hb) (hto.later hb) .nilFunc cnt k0 k1 k2 k3 i1 i2 o ⟨hsx,⟨i0,htx⟩,dm1,by omega,by omega,by omega,by omega,g1,by omega,by omega,U1 (hob o ho) aa aa⟩
   ·rw[hG];simp only[CS,List.length_map,List.length_range];omega
   ·rw[hG]at hx
    obtain⟨i,_,rfl⟩:=List.mem_map.1 hx
    exact iY nd _
   ·have hw1:0<(i1-k2+1)*(i2-k3+1):=Int.mul_pos aa aa
    obtain⟨A,hA⟩:∃A:Nat,(i1-k2+1)*(i2-k3+1)=A:=⟨((i1-k2+1)*(i2-k3+1)).toNat,by omega⟩
    obtain⟨B,hB⟩:∃B:Nat,k0=B:=⟨k0.toNat,by omega⟩
    have hcA:cnt=B*A:=by
     have:(cnt:Int)=B*A:=by rw[hcv,Int.mul_assoc,hA,hB]
     exact_mod_cast this
    have hbB:n.aQ.xs.length=B:=by omega
    have hA1:1<=A:=by omega
    have hB1:1<=B:=by omega
    rw[hbB,hcA]
    refine⟨hB1,Nat.le_mul_of_pos_right B hA1,λo ho=> ?_⟩
    rw[Nat.mul_div_cancel_left A hB1]
    exact(Nat.div_lt_iff_lt_mul hA1).2 ho
   ·rw[hG]at hx
    obtain⟨i,hi,rfl⟩:=List.mem_map.1 hx
    rw[List.mem_range]at hi
    rw[te]
    exact aie aa aa aa aa aa
  ·rw[if_neg hpos]at hsh;cases hsh
 ·have hz:=hfo.pool hk
  unfold bP at hsh
  rw[if_neg aa,if_neg aa,if_neg aa,if_pos hk,ht]at hsh
  have hG:∀o,dZ n t.xs o=CQ n.size (t.xs.getD 1 0) (t.xs.getD 2 0) o:=λo=>by unfold dZ;rw[if_neg aa,if_neg aa]
  by_cases hbad:t.xs.length≠3\/t.xs.getD 1 0%n.size≠0\/t.xs.getD 2 0%n.size≠0
  ·rw[if_pos hbad]at hsh;cases hsh
  rw[if_neg hbad,Option.some.injEq]at hsh
  have hl3:t.xs.length=3:=by omega
  have htx:=adL hl3
  have YR:=(g_ hg).2.2
  have td0:=YR _ (cu (xs:=t.xs) (k:=0) aa)
  have td1:=YR _ (cu (xs:=t.xs) (k:=1) aa)
  have td2:=YR _ (cu (xs:=t.xs) (k:=2) aa)
  have te:au t.xs=t.xs.getD 0 0*t.xs.getD 1 0*t.xs.getD 2 0:=by
   have:=jP (a:=t.xs.getD 0 0) (b:=t.xs.getD 1 0) (c:=t.xs.getD 2 0) Am
   rw[<-htx]at this
   exact this
  generalize t.xs.getD 0 0=i0 at*
  generalize t.xs.getD 1 0=i1 at*
  generalize t.xs.getD 2 0=i2 at*
  have m1:i1%n.size=0:=by omega
  have m2:i2%n.size=0:=by omega
  have z1:n.size<=i1:=by
   rcases(by omega:i1<n.size\/n.size<=i1)with hlt|hge
   ·rw[Int.emod_eq_of_lt aa hlt]at m1;omega
   ·exact hge
  have z2:n.size<=i2:=by
   rcases(by omega:i2<n.size\/n.size<=i2)with hlt|hge
   ·rw[Int.emod_eq_of_lt aa hlt]at m2;omega
   ·exact hge
  have hpos:0<au [i0,i1/n.size,i2/n.size]:=by
   have:=jG hfo hgs hn.az rfl
   rw[hsh];exact this
  have hcv:=jP hpos
  rw[hsh,hc]at hcv
  have hQ:n.size*n.size<=i1*i2:=Int.mul_le_mul z1 z2 aa aa
  have hQ2:i1*i2<=i0*i1*i2:=by
   have:1*(i1*i2)<=i0*(i1*i2):=Int.mul_le_mul_of_nonneg_right aa (Int.mul_nonneg aa aa)
   rw[Int.mul_assoc];omega
  have hob:∀o:Nat,o<cnt->(o:Int)<i0*(i1/n.size)*(i2/n.size):=λo ho=>by rw[<-hcv];omega
  refine⟨_,_,by unfold uN;rw[if_neg aa,if_neg aa],λw hto hno=>⟨Tryz.call106,λR w' hb o ho=> ?_,λo ho=> ?_,λo ho x hx=> ?_⟩,λw hno=>⟨.inr (.inr hk),hno.aQ,nb,hcb,λh=>by omega,λh=>by omega⟩,λo ho x hx=> ?_⟩
  ·rw[hG]
   exact aeQ w' n t (hto.later hb) .nilFunc cnt i1 i2 o ⟨⟨i0,htx⟩,by omega,z2,by omega,by omega,by omega⟩
  ·rw[hG];simp only[CQ,List.length_map,List.length_range];omega
  ·rw[hG]at hx
   obtain⟨i,_,rfl⟩:=List.mem_map.1 hx
   exact⟨(show(-1048576:Int)<=1 by decide),(show(1:Int)<=1048576 by decide)⟩
  ·rw[hG]at hx
   obtain⟨i,hi,rfl⟩:=List.mem_map.1 hx
   rw[List.mem_range]at hi
   rw[te]
   have hzz:=Int.mul_pos (show 0<n.size by omega) (show 0<n.size by omega)
   exact aim aa z1 z2 m1 m2 ⟨by omega,hob o ho⟩ aa
section
def eF(n:ak):Prop:=n.ai=3\/n.ai=4\/n.ai=5
instance(n:ak):Decidable (eF n):=inferInstanceAs (Decidable (_\/_))
def inA(n:ak)(t:ax):Value:=if eF n then t.val else .slice none 0 0
def fnA(n:ak)(t:ax)(cnt:Int):Value:=if eF n then uN n t.val cnt else .nilFunc
theorem adb(n:ak)(t:ax):∃b l c,inA n t= .slice b l c:=by
 unfold inA
 split
 ·exact⟨_,_,_,rfl⟩
 ·exact⟨_,_,_,rfl⟩
theorem agV(n:ak)(t:ax)(cnt:Int):fnA n t cnt= .nilFunc\/∃f a r,fnA n t cnt= .func f a r:=by
 unfold fnA uN
 split
 ·right
  split
  ·exact⟨_,_,_,rfl⟩
  ·split
   ·exact⟨_,_,_,rfl⟩
   ·exact⟨_,_,_,rfl⟩
 ·exact .inl rfl
def jw(n:ak)(cnt:Nat)(t:List Int)(a b:Sp):List Int:=if eF n then nH n cnt (dZ n t) a else fA n a b
def gH(n:ak)(cnt:Nat)(t a b:List Int):List Int:=if eF n then jh n cnt cnt (dZ n t) a else o5 n cnt a b
theorem Qc{g:bM}(h:(check g).1=0):∀q∈(check g).2,0<au q:=by
 obtain⟨_,_,_,hcl,hin⟩:=gK h
 have key:∀i,i<=g.l.length->∀q∈(check g).2.take i,0<au q:=by
  intro i
  induction i with
  |zero=>intro _ q hq;simp at hq
  |succ i ih=>
   intro hi q hq
   obtain⟨s,hs,hni⟩:=hin i g.l[i] (List.getElem?_eq_getElem aa)
   obtain⟨hls,hse⟩:=List.getElem?_eq_some_iff.1 hs
   rw[List.take_succ_eq_append_getElem hls,hse]at hq
   rcases List.mem_append.1 hq with hq|hq
   ·exact ih aa q hq
   ·simp at hq;subst hq
    exact jG (dJ hni.form) (ih aa) hni.az rfl
 intro q hq
 have:=key g.l.length (Nat.le_refl _) q
 rw[List.take_of_length_le aa]at this
 exact this hq
structure gN(n:ak)(sh:List (List Int))(s t:List Int)(cnt:Nat):Prop where
 node:jb n sh s
 cnt:au s=cnt
 pos:∀q∈sh,0<au q
 first:eF n->sh.getD n.a.toNat []=t/\0<au t
variable {sh:List (List Int)} {s t:List Int} {cnt:Nat}
theorem gN.few{n:ak}(h:gN n sh s t cnt):1<=cnt/\cnt<=64:=by
 have h1:=jG (dJ h.node.form) h.pos h.node.az rfl
 have h2:=(dN s).2
 have h3:=h.cnt
 omega
theorem gN.lin{n:ak}{t:ax}(h:gN n sh s t.xs cnt)(hl:eF n):∃F P0,aiX n t cnt F P0:=
 ajH h.node hl (h.first hl).1 (h.first hl).2 h.pos h.cnt
theorem agj(w:World)(n:ak)(sv:aY)(hs:sv.ok w)(i:Nat)(s t:ax)(cnt:Nat)(hi:sv.l[i]? =some s)(hj:sv.l[n.a.toNat]? =some t)(h0:0<=n.a)(hc:au s.xs=cnt):Calls Tryz.prog 50 #[n.p9,sv.val,.int .i64 i] w λe w'=>e= .returned (kz n (inA n t) (fnA n t cnt) cnt)/\Ext w w':=by
 by_cases hl:eF n
 ·have e1:inA n t=t.val:=if_pos hl
  have e2:fnA n t cnt=uN n t.val cnt:=if_pos hl
  rw[e1,e2,<-hc]
  exact aj1 w n sv hs i n.a.toNat s t hi hj aa hl
 ·have e1:inA n t= .slice none 0 0:=if_neg hl
  have e2:fnA n t cnt= .nilFunc:=if_neg hl
  rw[e1,e2,<-hc]
  unfold eF at hl
  exact ae2 w n sv hs i s hi aa
theorem afm(w:World)(n:ak)(sh:List (List Int))(s:List Int)(t:ax)(cnt:Nat)(h:gN n sh s t.xs cnt)(hno:n.ok w)(hto:t.ok w)(a b:Sp)(ha:fJ a.1/\fJ a.2)(hb:fJ b.1/\fJ b.2):Calls Tryz.prog 51 #[kz n (inA n t) (fnA n t cnt) cnt,o7 a,o7 b] w (Co w n (jw n cnt t.xs a b)):=by
 by_cases hl:eF n
 ·obtain⟨F,P0,hL⟩:=h.lin hl
  have e2:fnA n t cnt= .func (.func F) #[P0] #[]:=(if_pos hl).trans hL.fn
  have e3:jw n cnt t.xs a b=nH n cnt (dZ n t.xs) a:=if_pos hl
  rw[e2,e3]
  exact aeq w n _ F P0 cnt _ a b (hL.terms w hto hno) (hL.lin w hno) ha
 ·have e3:jw n cnt t.xs a b=fA n a b:=if_neg hl
  rw[e3]
  obtain⟨_,_,h7,h8,h2⟩:=uG h.node.form
  obtain⟨nd,nb,nlo,nhi,nle⟩:=Gp h.node.near
  have hkind:=(dJ h.node.form).ai
  unfold eF at hl
  exact Zz w n hno.data _ _ _ a b ⟨by omega,nd,h7,h8,nlo,nhi,ha.1,ha.2,hb.1,hb.2⟩
theorem I7{n:ak}(h:gN n sh s t cnt)(a b:Sp):1<=(jw n cnt t a b).length:=by
 unfold jw
 split
 ·have:=h.few
  unfold nH
  rw[FJ];omega
 ·exact adp h.node.form
structure NumIn(n:ak)(sh:List (List Int))(a b:List Int):Prop where
 Yh:n.ai≠1->n.ai≠2->(a.length:Int)=au (sh.getD n.a.toNat [])
 ae5:n.ai=6->(b.length:Int)=au (sh.getD n.b.toNat [])
theorem Oa{n:ak}(h:bP n sh=some s)(hnk:¬eF n)(hk:1<=n.ai/\n.ai<=9)(hk1:n.ai≠1):(n.ai=2->s=n.az.xs)/\(n.ai≠2->au (sh.getD n.a.toNat [])=au s)/\(n.ai=6->au (sh.getD n.b.toNat [])=au s):=by
 unfold eF at hnk
 unfold bP at h
 by_cases h2:n.ai=2
 ·rw[if_pos aa]at h
  exact⟨λ_=>by simpa using h.symm,λh=>absurd h2 h,λh=>by omega⟩
 ·rw[if_neg aa,if_neg aa,if_neg aa,if_neg aa]at h
  refine⟨λh=>absurd h h2,λ_=> ?_,λh6=> ?_⟩
  ·split at h
   ·split at h
    ·simp only[Option.some.injEq]at h;rw[h]
    ·cases h
   ·split at h
    ·split at h
     ·rename_i he;simp only[Option.some.injEq]at h;rw[<-h];exact he.symm
     ·cases h
    ·simp only[Option.some.injEq]at h;rw[h]
  ·rw[if_pos h6]at h
   split at h
   ·rename_i he;simp only[Option.some.injEq]at h;rw[<-he,h]
   ·cases h
variable {b:List Int}
theorem OQ{n:ak}(h:gN n sh s t cnt)(hl:¬eF n)(hk1:n.ai≠1){a:List Int}(hn:NumIn n sh a b):(n.ai=2\/n.ai=6\/n.ai=7\/n.ai=8\/n.ai=9)/\(n.ai=2->n.data.xs.length=cnt)/\(n.ai≠2->a.length=cnt)/\(n.ai=6->b.length=cnt):=by
 obtain⟨_,_,h7,h8,h2⟩:=uG h.node.form
 have hkind:=(dJ h.node.form).ai
 obtain⟨r2,rA,rB⟩:=Oa h.node.az hl hkind hk1
 have hc:=h.cnt
 unfold eF at hl
 refine⟨by omega,λhk=> ?_,λhk=> ?_,λhk=> ?_⟩
 ·have:=h2 hk
  rw[<-r2 hk,hc]at this
  omega
 ·have:=hn.Yh hk1 hk
  rw[rA hk,hc]at this
  omega
 ·have:=hn.ae5 hk
  rw[rB hk,hc]at this
  omega
theorem ae1(w:World)(n:ak)(sh:List (List Int))(s:List Int)(t:ax)(cnt:Nat)(h:gN n sh s t.xs cnt)(hk1:n.ai≠1)(hno:n.ok w)(hto:t.ok w)(a b:ax)(ha:a.ok w)(hb:b.ok w)(hab:∀x∈a.xs,fJ x)(hbb:∀x∈b.xs,fJ x)(hn:NumIn n sh a.xs b.xs):Calls Tryz.prog 146 #[kz n (inA n t) (fnA n t cnt) cnt,a.val,b.val] w (DJ w (gH n cnt t.xs a.xs b.xs)):=by
 by_cases hl:eF n
 ·obtain⟨F,P0,hL⟩:=h.lin hl
  have e2:fnA n t cnt= .func (.func F) #[P0] #[]:=(if_pos hl).trans hL.fn
  have e3:gH n cnt t.xs a.xs b.xs=jh n cnt cnt (dZ n t.xs) a.xs:=if_pos hl
  rw[e2,e3]
  have hk2:n.ai≠2:=by unfold eF at hl;omega
  have hal:=hn.Yh hk1 hk2
  rw[(h.first hl).1]at hal
  exact af0 w n _ F P0 cnt _ a b (hL.terms w hto hno) (hL.lin w hno) ha hab λo ho s hs=>by
   have:=hL.at_ o ho s hs
   omega
 ·have e3:gH n cnt t.xs a.xs b.xs=o5 n cnt a.xs b.xs:=if_neg hl
  rw[e3]
  obtain⟨_,_,h7,h8,h2⟩:=uG h.node.form
  obtain⟨nd,nb,nlo,nhi,nle⟩:=Gp h.node.near
  obtain⟨q1,q2,q3,q4⟩:=OQ h hl hk1 hn
  exact Zy w n _ _ cnt a b ⟨q1,h.few.2,hno.data,nd,q2,h7,h8,ha,hb,q3,q4,hab,hbb⟩
theorem Ox{A:Sp}{av:List Int}(hA:within A av):∀{l:List Sp} {s1 s s2:Int},s1<=s->s<=s2->(∀t∈l,0<=t.2/\t.2<av.length)->l.foldl (Qt A) s1<=l.foldl (FP av) s/\l.foldl (FP av) s<=l.foldl (Qu A) s2
 |[],s1,s,s2,h1,h2,_=>⟨h1,h2⟩
 |t::r,s1,s,s2,h1,h2,h=>by
  have ht:=h t List.mem_cons_self
  have hw:=qw hA (o:=t.2.toNat) aa
  have hs:=H7 (d:=t.1) hw.1 hw.2
  have m1:foldI min [t.1*A.1,t.1*A.2]=min (t.1*A.1) (t.1*A.2):=rfl
  have m2:foldI max [t.1*A.1,t.1*A.2]=max (t.1*A.1) (t.1*A.2):=rfl
  rw[m1,m2,Int.mul_comm (av.getD t.2.toNat 0) t.1]at hs
  have e1:Qt A s1 t=s1+min (t.1*A.1) (t.1*A.2):=rfl
  have e2:Qu A s2 t=s2+max (t.1*A.1) (t.1*A.2):=rfl
  have e3:FP av s t=s+t.1*av.getD t.2.toNat 0:=rfl
  simp only[List.foldl_cons]
  exact Ox hA aa aa λx hx=>h x (List.mem_cons_of_mem _ hx)
def rq(l:List Int):Sp:=(foldI min l,foldI max l)
variable {A:Sp}
theorem Ul{n:ak}{t:ax}(h:gN n sh s t.xs cnt)(hk1:n.ai≠1){a:List Int}{B:Sp}(hn:NumIn n sh a b)(hA:within A a)(hB:within B b):within (rq (jw n cnt t.xs A B)) (gH n cnt t.xs a b)/\(gH n cnt t.xs a b).length=cnt:=by
 by_cases hl:eF n
 ·obtain⟨F,P0,hL⟩:=h.lin hl
  have e1:jw n cnt t.xs A B=nH n cnt (dZ n t.xs) A:=if_pos hl
  have e3:gH n cnt t.xs a b=jh n cnt cnt (dZ n t.xs) a:=if_pos hl
  rw[e1,e3]
  have hk2:n.ai≠2:=by unfold eF at hl;omega
  have hal:=hn.Yh hk1 hk2
  rw[(h.first hl).1]at hal
  refine⟨λx hx=> ?_,by simp[jh]⟩
  obtain⟨o,ho,rfl⟩:=List.mem_map.1 hx
  have ho':=List.mem_range.1 ho
  have hw:=Ox hA (l:=dZ n t.xs o) (Int.le_refl (dV n cnt o)) (Int.le_refl _) λs hs=>by
   have:=hL.at_ o ho' s hs
   omega
  have m1:(dZ n t.xs o).foldl (Qt A) (dV n cnt o)∈nH n cnt (dZ n t.xs) A:=List.mem_flatMap.2 ⟨o,ho,by simp⟩
  have m2:(dZ n t.xs o).foldl (Qu A) (dV n cnt o)∈nH n cnt (dZ n t.xs) A:=List.mem_flatMap.2 ⟨o,ho,by simp⟩
  exact⟨Int.le_trans (kI m1) hw.1,Int.le_trans hw.2 (kK m2)⟩
 ·have e1:jw n cnt t.xs A B=fA n A B:=if_neg hl
  have e3:gH n cnt t.xs a b=o5 n cnt a b:=if_neg hl
  rw[e1,e3]
  obtain⟨q1,q2,q3,q4⟩:=OQ h hl hk1 hn
  refine⟨λx hx=> ?_,by simp[o5]⟩
  obtain⟨o,ho,rfl⟩:=List.mem_map.1 hx
  exact N9 q1 q2 q3 q4 hA hB (List.mem_range.1 ho)
end
abbrev alh:DT:=(bS [0,1,2,3,4,5,6,7,8,9,10,111,12] .done)
theorem Tk{l:List (List Int)}{k:Nat}(h:k<l.length):l.getD k []∈l:=by
 rw[List.getD_eq_getElem?_getD,List.getElem?_eq_getElem h];exact List.getElem_mem h
def jm(sh:List (List Int))(n:ak)(acc:List Sp):List Int:=jw n (au (sh.getD acc.length [])).toNat (sh.getD n.a.toNat []) (acc.getD n.a.toNat (0,0)) (acc.getD n.b.toNat (0,0))
def iJ(sh:List (List Int)):List ak->List Sp->Int×List Sp
 |[],acc=>(0,acc)
 |n::r,acc=>
  if foldI min (jm sh n acc)< -1048576\/1048576<foldI max (jm sh n acc)then(5,[])
  else iJ sh r (acc++[(foldI min (jm sh n acc),foldI max (jm sh n acc))])
def cZ(g:bM):Int×List Sp:=if(check g).1≠0 then((check g).1,[])else iJ (check g).2 g.l []
theorem yl{g:bM}(h:(check g).1=0){i:Nat}{n:ak}(hn:g.l[i]? =some n):(0<=n.a/\n.a.toNat<(check g).2.length/\(n.a.toNat<i\/n.a.toNat=0))/\(0<=n.b/\n.b.toNat<(check g).2.length/\(n.b.toNat<i\/n.b.toNat=0))/\∃cnt:Nat,au ((check g).2.getD i [])=cnt/\gN n ((check g).2.take i) ((check g).2.getD i []) ((check g).2.getD n.a.toNat []) cnt:=by
 obtain⟨hl1,Ez,hout,hcl,hin⟩:=gK h
 have hpos:=Qc h
 obtain⟨hlt,_⟩:=List.getElem?_eq_some_iff.1 hn
 obtain⟨s,hs,hni⟩:=hin i n hn
 have hti:((check g).2.take i).length=i:=by rw[List.length_take,hcl];omega
 have hform:=hni.form
 rw[hti]at hform
 obtain⟨hA,hB,_⟩:=uG hform
 have hfo:=dJ hform
 have e1:(check g).2.getD i []=s:=by rw[List.getD_eq_getElem?_getD,hs];rfl
 rw[e1]
 refine⟨⟨hA.1,by omega,by omega⟩,⟨hB.1,by omega,by omega⟩,(au s).toNat,by have:=(dN s).1;omega,⟨hni,by have:=(dN s).1;omega,λq hq=>hpos q (List.mem_of_mem_take hq),λhl=> ?_⟩⟩
 unfold eF at hl
 have ha:=hfo.a aa aa
 have e2:((check g).2.take i).getD n.a.toNat []=(check g).2.getD n.a.toNat []:=by
  rw[List.getD_eq_getElem?_getD,List.getD_eq_getElem?_getD,List.getElem?_take,if_pos aa]
 refine⟨e2,hpos _ (Tk aa)⟩
theorem yj(w:World)(g:bM)(hg:g.ok w):Calls Tryz.prog 22 #[g.val] w (Dn w (cZ g)):=by
 refine fH Tryz.func22 [.agg [.c (.slice g.base g.l.length g.cap),aC g.out]] ?_
 repeat' ((conv=>whnf)<;>first|refine bV ?_|refine ag ?_ ?_<;>intro _)
 refine oD (f:=24) (check g) Tryz.call24 (λρ w' hw=>qE w' g (ae hw λR h=>hg.later h)) (λhne=> ?_) (λhe sv hm hsv=> ?_)
 ·have hq:cZ g=((check g).1,[]):=if_pos hne
  rw[hq]
  repeat' ((conv=>whnf)<;>first|(show @iG _ _ _;refine gJ hne ?_)|refine bV ?_)
  conv=>whnf
  exact Rc (λ_ _ h=>h) rfl hne (λ_=>rfl)
 have hq:cZ g=iJ (check g).2 g.l []:=if_neg (λh=>h he)
 rw[hq]
 obtain⟨hl1,Ez,hout,hcl,hin⟩:=gK he
 have hsl:sv.l.length=g.l.length:=by rw[<-hcl,<-hm];simp
 repeat' ((conv=>whnf)<;>first|(show pg ..;(refine lD g.l.length rfl rfl (by show 16*_<=_;omega) aa ?_))|refine bV ?_|refine ag ?_ ?_<;>intro _)
 refine Wp.loop (σ:=Nat×List Sp) 2 (λ⟨i,_⟩=>[(6,.os 1 g.l.length),(4,.c sv.val),(24,.c (.slice g.base g.l.length g.cap)),(25,aC g.l.length),(26,aC i)]) (λ⟨_,acc⟩=>[(1,.rows (gz (nD g.l.length acc)) 2 58)]) (λ_=>(aU w).and ((jD sv).past w.heap.size))
  (λ⟨i,acc⟩=>i<=g.l.length/\acc.length=i/\iJ (check g).2 (g.l.drop i) acc=iJ (check g).2 g.l []/\(∀s∈acc,fJ s.1/\fJ s.2)) (λs=>g.l.length-s.1) (0,[]) [] ay (λs=>⟨rfl,rfl⟩) ⟨Nat.zero_le _,rfl,rfl,λs hs=>by simp at hs⟩ ⟨rfl,⟨rfl,rfl,rfl,rfl,rfl,trivial⟩,⟨?_,trivial⟩,λ_ _ h=>h⟩ ?_
 ·have:gz (nD g.l.length [])=List.replicate g.l.length [Value.int .i64 0,.int .i64 0]:=by simp[gz,nD]
  show(1,b_.rows (gz (nD g.l.length [])) 2 58)∈_
  rw[this]
  exact aj
 rintro⟨i,acc⟩ ⟨hi,hal,hsp,hab⟩
 by_cases hlt:i<g.l.length
 ·obtain⟨a,ha⟩:∃a,g.base=some a:=aT (j:=i) hg.rows ko
  have hnm:=List.getElem_mem hlt
  obtain⟨s,hs,hni⟩:=hin i g.l[i] (List.getElem?_eq_getElem hlt)
  have hdrop:g.l.drop i=g.l[i]::g.l.drop (i+1):=List.drop_eq_getElem_cons hlt
  rw[hdrop]at hsp
  have hrow:=fP hlt
  have hpi:=yl he (List.getElem?_eq_getElem hlt)
  generalize g.l[i]=n at*
  have hn:=hg.each n hnm
  obtain⟨⟨ha0,akK,hai⟩,⟨hb0,alB,hbi⟩,cnt,hcnt,hpl⟩:=hpi
  have e1:(check g).2.getD i []=s:=by rw[List.getD_eq_getElem?_getD,hs];rfl
  rw[e1]at hcnt hpl
  obtain⟨u,hu,iL⟩:∃u,sv.l[i]? =some u/\u.xs=s:=by
   rw[<-hm,List.getElem?_map]at hs
   cases hu:sv.l[i]? with
   |none=>rw[hu]at hs;simp at hs
   |some u=>rw[hu]at hs;exact⟨u,rfl,by simpa using hs⟩
  obtain⟨t,ht,hts⟩:∃t,sv.l[n.a.toNat]? =some t/\t.xs=(check g).2.getD n.a.toNat []:=by
   have hlt2:n.a.toNat<sv.l.length:=by omega
   refine⟨sv.l[n.a.toNat],List.getElem?_eq_getElem hlt2,?_⟩
   rw[<-hm,List.getD_eq_getElem?_getD,List.getElem?_map,List.getElem?_eq_getElem hlt2];rfl
  have htm:t∈sv.l:=List.mem_of_getElem? ht
  have ak2:au u.xs=cnt:=by rw[iL];exact hcnt
  rw[<-hts]at hpl
  have hEq:jm (check g).2 n acc=jw n cnt t.xs (acc.getD n.a.toNat (0,0)) (acc.getD n.b.toNat (0,0)):=by
   unfold jm
   rw[hal,e1,hcnt,hts];rfl
  have hA2:=acg hab n.a.toNat
  have hB2:=acg hab n.b.toNat
  have hEL:=I7 hpl (acc.getD n.a.toNat (0,0)) (acc.getD n.b.toNat (0,0))
  have gA:=Ad (n:=g.l.length) (acc:=acc) (j:=n.a.toNat) aa aa
  have gB:=Ad (n:=g.l.length) (acc:=acc) (j:=n.b.toNat) aa aa
  repeat' ((conv=>whnf)<;>first|refine pR ?_|refine A_ ?_|(show aJ _ 50 ..;refine aR (f:=50) Tryz.call50 (kz n (inA n t) (fnA n t cnt) cnt) (λρ w' hw=>agj w' n sv (ae hw λR h=>zy hsv aa h.2) i u t cnt hu ht ha0 ak2) ?_)|(show eP ..;(first|refine bY n.a.toNat aa aa FC ?_|refine bY n.b.toNat aa aa FC ?_))|(show G9 ..;(first|refine I_ _ _ gA rfl rfl ?_|refine I_ _ _ gB rfl rfl ?_))|(show cO _ 9 ..;refine mV [] _ alh ?_)|(show aJ _ 51 ..;refine jU Tryz.call51 (λx:ax×Bool=>x.1.val) ajC (λx=>x.1.xs=jw n cnt t.xs (acc.getD n.a.toNat (0,0)) (acc.getD n.b.toNat (0,0))/\x.1.bF/\(x.2=true->x.1=n.data)) (λρ w' hw=>afm w' n _ s t cnt hpl (ae hw λR h=>hn.later h.1) (ae hw λR h=>(zy hsv aa h.2).each t htm) (acc.getD n.a.toNat (0,0)) (acc.getD n.b.toNat (0,0)) hA2 hB2) (λx hx=> ?_))|refine bV ?_|refine ag ?_ ?_<;>intro _)
  all_goals
   obtain⟨hx1,hx2,hx3⟩:=hx
   rw[<-hx1]at hEL
   by_cases hr:foldI min x.1.xs< -1048576\/1048576<foldI max x.1.xs
   ·have hq2:iJ (check g).2 (n::g.l.drop (i+1)) acc=(5,[]):=by simp only[iJ];rw[hEq,<-hx1,if_pos hr]
    rw[hq2]at hsp
    rw[<-hsp]
    repeat' ((conv=>whnf)<;>first|refine Nt ?_|refine Po ?_|refine Pt ?_|refine Nz ?_|(show dH ..;refine BC hal hlt ?_)|(show rQ ..;refine row_of _ _ (VS hal hlt) rfl ?_)|refine bV ?_|refine ag ?_ ?_<;>intro _)
    all_goals(conv=>whnf)
    all_goals first|omega|exact Rc (λ_ _ h=>h.1.1) rfl ay (λ_=>rfl)
   ·have hq2:iJ (check g).2 (n::g.l.drop (i+1)) acc=iJ (check g).2 (g.l.drop (i+1)) (acc++[(foldI min x.1.xs,foldI max x.1.xs)]):=by
     conv=>lhs;unfold iJ
     rw[hEq,<-hx1,if_neg hr]
    rw[hq2]at hsp
    have hle:=XT hEL
    repeat' ((conv=>whnf)<;>first|refine Nt ?_|refine Po ?_|refine Pt ?_|refine Nz ?_|(show dH ..;refine BC hal hlt ?_)|(show rQ ..;refine row_of _ _ (VS hal hlt) rfl ?_)|refine bV ?_|refine ag ?_ ?_<;>intro _)
    all_goals(conv=>whnf)
    all_goals exact⟨(i+1,acc++[(foldI min x.1.xs,foldI max x.1.xs)]),[],⟨hlt,by rw[List.length_append,hal];rfl,hsp,λs hs=>by
     rcases List.mem_append.1 hs with h|h
     ·exact hab s h
     ·simp at h;subst h;unfold fJ;omega⟩,by simp only;omega,rfl,⟨rfl,rfl,rfl,rfl,rfl,trivial⟩,⟨aj,trivial⟩,λ_ _ h=>h.1⟩
 ·obtain rfl:i=g.l.length:=by omega
  rw[List.drop_length]at hsp
  repeat' ((conv=>whnf)<;>first|refine bV ?_|refine ag ?_ ?_<;>intro _)
  conv=>whnf
  have hgr:nD g.l.length acc=acc:=by unfold nD;rw[hal,Nat.sub_self];simp
  exact aar (l:=nD g.l.length acc) (λ_ _ h=>h.1) rfl aj (by rw[hgr,hal]) (by rw[hgr,<-hsp];rfl)
section
def DR(w:World)(r:Int×List Int)(e:Ending)(w':World):Prop:=
 (r.1≠0/\e= .returned (.tuple #[.slice none 0 0,.int .i64 r.1])/\Ext w w')\/(r.1=0/\∃x:ax,(x.xs=r.2/\x.bF)/\e= .returned (.tuple #[x.val,.int .i64 0])/\Ext w w'/\(bX x).holds (λb=>w.heap.size<=b/\b<w'.heap.size) w')
variable {B:Base} {v:SV} {H:Heap} {S:bR} {nx:Nat} {w:World} {r:Int×List Int}
theorem abU(hb:∀R w',S.holds R w'->(aU B.w0).holds R w')(hw0:B.w0=w)(hn:r.1≠0)(hv:∀ρ,v.rf ρ= .tuple #[.slice none 0 0,.int .i64 r.1]):jS B v H S nx (DR w r):=by
 subst hw0
 exact dK λρ w' hw=> .inl ⟨hn,by rw[hv],bG hw hb⟩
variable {x:ax}
theorem aeV(hb:∀R w',S.holds R w'->(aU B.w0).holds R w')(hw0:B.w0=w)(hs:x.bF)(hr:r=(0,x.xs))(hD:∀R w',S.holds R w'->((bX x).past B.w0.heap.size).holds R w'):jS B (.xg [.c x.val,aC 0]) H S nx (DR w r):=by
 subst hw0 hr
 exact dK λρ w' hw=> .inr ⟨rfl,x,⟨rfl,hs⟩,rfl,bG hw hb,lW hw hD⟩
variable {r':Int×List (List Int)}
theorem Jn{X:Int×List Int}(hb:∀R w',S.holds R w'->(aU B.w0).holds R w')(hw0:B.w0=w)(hr:r'=(12,[]))(hv:∀ρ,v.rf ρ= .tuple #[.slice none 0 0,.int .i64 12]):jS B v H S nx (DR w (if r'.1≠0 then(r'.1,[])else X)):=by
 subst hr
 have e:(if((12:Int),([]:List (List Int))).1≠0 then(((12:Int),([]:List (List Int))).1,([]:List Int))else X)=(12,[]):=if_pos (show(12:Int)≠0 by decide)
 rw[e]
 exact abU hb hw0 (show(12:Int)≠0 by decide) hv
theorem aee{k:Nat}{L:List (List Int)}(hb:∀R w',S.holds R w'->(aU B.w0).holds R w')(hw0:B.w0=w)(hs:x.bF)(hr:r'=(0,L))(hx:L.getD k []=x.xs)(hD:∀R w',S.holds R w'->((bX x).past B.w0.heap.size).holds R w'):jS B (.xg [.c x.val,aC 0]) H S nx (DR w (if r'.1≠0 then(r'.1,[])else(0,r'.2.getD k []))):=by
 subst hr
 have e:(if((0:Int),L).1≠0 then(((0:Int),L).1,([]:List Int))else(0,((0:Int),L).2.getD k []))=(0,L.getD k []):=if_neg (show¬(0:Int)≠0 by decide)
 rw[e,hx]
 exact aeV hb hw0 hs rfl hD
theorem wZ{cx:Cx}{f:FuncId}{args:List SV}{K:SV->Heap->bR->Nat->Prop}(r:Int×List Sp)(hf:∀ar w,(callFunc f ar).run cx.P w= .ok (.enter f ar) w)
 (hc:∀ρ w',dO cx.B ρ nx H S w'->Calls cx.P f (SV.dW ρ args).toArray w' (Dn w' r))
 (h0:r.1≠0->K (.c (.tuple #[.slice none 0 0,.int .i64 r.1])) H S nx)
 (h1:r.1=0->∀base cap,K (.c (.tuple #[.slice base r.2.length cap,.int .i64 0])) H (S.and ((f_ base 2 (gz r.2)).past cx.B.w0.heap.size)) nx):aJ cx f args H S nx K:=by
 rw[fZ]
 refine⟨hf,λρ w hw=>(hc ρ w hw).mono ?_⟩
 rintro e w' (⟨hr,rfl,he⟩|⟨hr,v,rfl,he,hn⟩)
 ·exact⟨.c (.tuple #[.slice none 0 0,.int .i64 r.1]),ρ,H,S,nx,rfl,λ_ _=>rfl,Nat.le_refl _,SV.iW _,hw.ext he,h0 hr⟩
 ·obtain⟨base,cap,e1,hD⟩:=ig hn
  rw[jg]at e1
  subst e1
  exact⟨.c (.tuple #[.slice base r.2.length cap,.int .i64 0]),ρ,H,_,nx,rfl,λ_ _=>rfl,Nat.le_refl _,SV.iW _,hw.grow he hD,h1 hr base cap⟩
theorem abG{N:Nat}{l:List ax}{R:Nat->Prop}(hs:∀u∈l,u.bF)(h:(rT N l).holds R w)(k:Nat):(l.getD k cK).ok w:=by
 rcases Nat.lt_or_ge k l.length with hk|hk
 ·rw[List.getD_eq_getElem?_getD,List.getElem?_eq_getElem hk]
  exact dw (hs _ (List.getElem_mem hk)) ((bX _).mono (h _ (List.getElem_mem hk)) (λb hb=>hb.1))
 ·rw[List.getD_eq_getElem?_getD,List.getElem?_eq_none hk]
  exact dw iC (dI R w)
theorem zl(l:List ax)(k:Nat):(l.getD k cK).xs=(l.map ax.xs).getD k []:=by
 rcases Nat.lt_or_ge k l.length with hk|hk
 ·simp[List.getD_eq_getElem?_getD,hk]
 ·simp[List.getD_eq_getElem?_getD,hk,cK]
end
section
abbrev ak1:DT:=(bS [0,1,2,3,4,5,6,7,8,9,10,11,12,113,14,115] .done)
abbrev al4:DT:=(bS [0,1,2,6] (.alt 3 (.alt 4 (.alt 5 (.alt 7 (bS [108,109,10] .done) (.one 8 (.alt 7 (bS [109,10] .done) (bS [109,107,10] .done)))) (bS [107,105,108,109,10] .done)) (bS [107,104,105,108,109,10] .done)) (bS [107,103,104,105,108,109,10] .done)))
def gy(sh:List (List Int))(n:ak)(known:List (List Int)):List Int:=gH n (au (sh.getD known.length [])).toNat (sh.getD n.a.toNat []) (known.getD n.a.toNat []) (known.getD n.b.toNat [])
def d9(sh:List (List Int)):List ak->List (List Int)->List (List Int)->Int×List (List Int)
 |[],known,inp=>if 0<inp.length then(12,[])else(0,known)
 |n::r,known,inp=>
  if n.ai≠1 then d9 sh r (known++[gy sh n known]) inp
  else match inp with
   |[]=>(12,[])
   |x::xs=>if(x.length:Int)≠au (sh.getD known.length [])\/foldI min x<n.lo\/n.hi<foldI max x then(12,[])else d9 sh r (known++[x]) xs
def pE(g:bM)(inp:List (List Int)):Int×List (List Int):=d9 (check g).2 g.l [] inp
def Je(g:bM)(inp:List (List Int)):Int×List Int:=
 if(cZ g).1≠0 then((cZ g).1,[])else if(pE g inp).1≠0 then((pE g inp).1,[])else(0,(pE g inp).2.getD g.out.toNat [])
def r9(sh:List (List Int))(n:ak)(acc:List Sp):Sp:=rq (jm sh n acc)
theorem Rl{sh:List (List Int)}:∀{l:List ak} {acc S:List Sp},iJ sh l acc=(0,S)->∃q,S=acc++q/\q.length=l.length/\∀i n,l[i]? =some n->∃s,q[i]? =some s/\s=r9 sh n (acc++q.take i)/\ -1048576<=s.1/\s.2<=1048576
 |[],acc,S,h=>by
  obtain rfl:acc=S:=by simpa[iJ]using h
  exact⟨[],by simp,rfl,λi n hn=>by simp at hn⟩
 |m::r,acc,S,h=>by
  by_cases hr:(r9 sh m acc).1< -1048576\/1048576<(r9 sh m acc).2
  ·have:iJ sh (m::r) acc=(5,[]):=if_pos hr
   rw[this]at h;simp at h
  ·have:iJ sh (m::r) acc=iJ sh r (acc++[r9 sh m acc]):=if_neg hr
   rw[this]at h
   obtain⟨q,hq,hl,ha⟩:=Rl h
   refine⟨r9 sh m acc::q,by rw[hq,List.append_assoc];rfl,by simp[hl],λi n hin=> ?_⟩
   cases i with
   |zero=>
    simp only[List.getElem?_cons_zero,Option.some.injEq]at hin
    subst hin
    exact⟨_,rfl,by simp,by omega,by omega⟩
   |succ i=>
    simp only[List.getElem?_cons_succ]at hin
    obtain⟨t,h1,h2,h3⟩:=ha i n hin
    refine⟨t,by simpa using h1,?_,h3⟩
    rw[List.take_succ_cons,show acc++r9 sh m acc::q.take i=acc++[r9 sh m acc]++q.take i by simp]
    exact h2
variable {g:bM}
theorem jC(h:(cZ g).1=0):(check g).1=0/\(cZ g).2.length=g.l.length/\∀i n,g.l[i]? =some n->∃s,(cZ g).2[i]? =some s/\s=r9 (check g).2 n ((cZ g).2.take i)/\ -1048576<=s.1/\s.2<=1048576:=by
 unfold cZ at h|-
 by_cases hc:(check g).1≠0
 ·rw[if_pos hc]at h;exact absurd h hc
 ·rw[if_neg hc]at h|-
  obtain⟨q,hq,hl,ha⟩:=Rl (l:=g.l) (acc:=[]) (S:=(iJ (check g).2 g.l []).2) (Prod.ext h rfl)
  rw[List.nil_append]at hq
  rw[hq]
  exact⟨by omega,hl,λi n hn=>by simpa using ha i n hn⟩
structure Gc(g:bM)(kn:List ax)(i:Nat):Prop where
 len:kn.length=i
 bF:∀u∈kn,u.bF
 each:∀(j:Nat) (u:ax) (s:Sp) (q:List Int),kn[j]? =some u->(cZ g).2[j]? =some s->(check g).2[j]? =some q->within s u.xs/\(u.xs.length:Int)=au q
variable {kn:List ax} {i:Nat}
theorem ow(hsp:(cZ g).1=0)(hkn:Gc g kn i)(hi:i<=g.l.length)(k:Nat):within (((cZ g).2.take i).getD k (0,0)) (kn.getD k cK).xs/\(∀x∈(kn.getD k cK).xs,fJ x)/\(k<i->((kn.getD k cK).xs.length:Int)=au (((check g).2.take i).getD k [])):=by
 obtain⟨hck,hsl,hsi⟩:=jC hsp
 obtain⟨hl1,Ez,hout,hcl,hin⟩:=gK hck
 have hkl:=hkn.len
 rcases Nat.lt_or_ge k i with hk|hk
 ·have hkg:k<g.l.length:=by omega
  obtain⟨p,hp,_,hp1,hp2⟩:=hsi k g.l[k] (List.getElem?_eq_getElem hkg)
  obtain⟨s,hs,_⟩:=hin k g.l[k] (List.getElem?_eq_getElem hkg)
  have hk':k<kn.length:=by omega
  obtain⟨h1,h2⟩:=hkn.each k kn[k] p s (List.getElem?_eq_getElem hk') hp hs
  have e1:kn.getD k cK=kn[k]:=by rw[List.getD_eq_getElem?_getD,List.getElem?_eq_getElem hk'];rfl
  have e2:((cZ g).2.take i).getD k (0,0)=p:=by rw[List.getD_eq_getElem?_getD,List.getElem?_take,if_pos hk,hp];rfl
  have e3:((check g).2.take i).getD k []=s:=by rw[List.getD_eq_getElem?_getD,List.getElem?_take,if_pos hk,hs];rfl
  rw[e1,e2,e3]
  exact⟨h1,λx hx=>by have:=h1 x hx;unfold fJ;omega,λ_=>h2⟩
 ·have e1:kn.getD k cK=cK:=by rw[List.getD_eq_getElem?_getD,List.getElem?_eq_none aa];rfl
  rw[e1]
  exact⟨λx hx=>by simp[cK]at hx,λx hx=>by simp[cK]at hx,λh=>by omega⟩
theorem abo{n:ak}(hsp:(cZ g).1=0)(hkn:Gc g kn i)(hi:i<=g.l.length)(hf:Ac n i):NumIn n ((check g).2.take i) (kn.getD n.a.toNat cK).xs (kn.getD n.b.toNat cK).xs:=
 ⟨λk1 k2=>(ow hsp hkn hi n.a.toNat).2.2 (by have:=hf.a k1 k2;omega),λk6=>(ow hsp hkn hi n.b.toNat).2.2 (by have:=hf.b k6;omega)⟩
theorem xI{x:ax}{s:List Int}{p:Sp}(hkn:Gc g kn i)(hx:x.bF)(hp:(cZ g).2[i]? =some p)(hs:(check g).2[i]? =some s)(hw:within p x.xs)(hl:(x.xs.length:Int)=au s):Gc g (kn++[x]) (i+1):=by
 have hkl:=hkn.len
 refine⟨by rw[List.length_append,hkl];rfl,λu hu=> ?_,λj u p' q hu hp' hq=> ?_⟩
 ·rcases List.mem_append.1 hu with h|h
  ·exact hkn.bF u h
  ·simp at h;subst h;exact hx
 ·rcases Nat.lt_or_ge j i with hj|hj
  ·rw[List.getElem?_append_left aa]at hu
   exact hkn.each j u p' q hu hp' hq
  ·rw[List.getElem?_append_right aa]at hu
   have h0:j-kn.length=0:=by
    rcases Nat.eq_zero_or_pos (j-kn.length)with h|h
    ·exact h
    ·rw[List.getElem?_eq_none fK]at hu;cases hu
   rw[h0]at hu
   simp only[List.getElem?_cons_zero,Option.some.injEq]at hu
   subst hu
   obtain rfl:j=i:=by omega
   rw[hp]at hp'
   rw[hs]at hq
   simp only[Option.some.injEq]at hp' hq
   subst hp' hq
   exact⟨hw,hl⟩
theorem ab7(w:World)(g:bM)(hg:g.ok w)(iv:aY)(hiv:InV.ok w iv):Calls Tryz.prog 110 #[g.val,iv.val] w (DR w (Je g (iv.l.map ax.xs))):=by
 have apk:=hiv.few
 refine fH Tryz.func110 [.agg [.c (.slice g.base g.l.length g.cap),aC g.out],.c iv.val] ?_
 repeat' ((conv=>whnf)<;>first|refine bV ?_|refine ag ?_ ?_<;>intro _)
 refine wZ (f:=22) (cZ g) Tryz.call22 (λρ w' hw=>yj w' g (ae hw λR h=>hg.later h)) (λhne=> ?_) (λhsp base cap=> ?_)
 ·have hq:Je g (iv.l.map ax.xs)=((cZ g).1,[]):=if_pos hne
  rw[hq]
  repeat' ((conv=>whnf)<;>first|(show @iG _ _ _;refine gJ hne ?_)|refine bV ?_)
  conv=>whnf
  exact abU (λ_ _ h=>h) rfl hne (λ_=>rfl)
 have hq:Je g (iv.l.map ax.xs)=if(pE g (iv.l.map ax.xs)).1≠0 then((pE g (iv.l.map ax.xs)).1,[])else(0,(pE g (iv.l.map ax.xs)).2.getD g.out.toNat []):=if_neg (λh=>h hsp)
 rw[hq]
 obtain⟨hck,hsl,hsi⟩:=jC hsp
 obtain⟨hl1,Ez,hout,hcl,hin⟩:=gK hck
 repeat' ((conv=>whnf)<;>first|refine bV ?_|refine ag ?_ ?_<;>intro _)
 refine oD (f:=24) (check g) Tryz.call24 (λρ w' hw=>qE w' g (ae hw λR h=>hg.later h.1)) (λhne=>absurd hck hne) (λ_ sv hm hsv=> ?_)
 have apM:sv.l.length=g.l.length:=by rw[<-hcl,<-hm];simp
 repeat' ((conv=>whnf)<;>first|(show pg ..;(refine lD g.l.length rfl rfl Fv aa ?_))|refine bV ?_)
 refine Wp.loop (σ:=Nat×List ax×aY) 2 (λ⟨i,_,cur⟩=>[(2,.lp 0 0 0 0),(1,.c cur.val),(8,.c sv.val),(10,.os 1 g.l.length),(32,.c (.slice g.base g.l.length g.cap)),(33,aC g.l.length),(34,aC i)]) (λ⟨_,kn,_⟩=>[(1,.rows (bA (xO g.l.length kn)) 1 32),(0,.box [.c (.slice g.base g.l.length g.cap),aC g.out] 24)]) (λ⟨_,kn,_⟩=>((aU w).and ((jD sv).past w.heap.size)).and (rT w.heap.size kn))
  (λ⟨i,kn,cur⟩=>i<=g.l.length/\Gc g kn i/\InV.ok w cur/\d9 (check g).2 (g.l.drop i) (kn.map ax.xs) (cur.l.map ax.xs)=pE g (iv.l.map ax.xs)) (λs=>g.l.length-s.1) (0,[],iv) [] ay (λs=>⟨rfl,rfl⟩) ⟨Nat.zero_le _,⟨rfl,λu hu=>by simp at hu,λj u s q hu=>by simp at hu⟩,hiv,rfl⟩ ⟨rfl,⟨rfl,rfl,rfl,rfl,rfl,rfl,rfl,trivial⟩,⟨?_,aj,trivial⟩,λR w h=>⟨⟨h.1.1,h.2⟩,yD _ R w⟩⟩ ?_
 ·have:bA (xO g.l.length [])=List.replicate g.l.length [Value.slice none 0 0]:=by simp[bA,xO];exact .inr rfl
  show(1,b_.rows (bA (xO g.l.length [])) 1 32)∈_
  rw[this]
  exact aj
 rintro⟨i,kn,cur⟩ ⟨hi,hkn,Kj,hv⟩
 have hkl:=hkn.len
 have hcf:=Kj.few
 by_cases hlt:i<g.l.length
 ·obtain⟨a,ha⟩:∃a,g.base=some a:=aT (j:=i) hg.rows ko
  have hnm:=List.getElem_mem hlt
  obtain⟨s,hs,hni⟩:=hin i g.l[i] (List.getElem?_eq_getElem hlt)
  obtain⟨p,hp,hpe,hp1,hp2⟩:=hsi i g.l[i] (List.getElem?_eq_getElem hlt)
  have hdrop:g.l.drop i=g.l[i]::g.l.drop (i+1):=List.drop_eq_getElem_cons hlt
  rw[hdrop]at hv
  have hrow:=fP hlt
  have hpi:=yl hck (List.getElem?_eq_getElem hlt)
  generalize g.l[i]=n at*
  have hn:=hg.each n hnm
  obtain⟨⟨ha0,akK,hai⟩,⟨hb0,alB,hbi⟩,cnt,HY,hpl⟩:=hpi
  have e1:(check g).2.getD i []=s:=by rw[List.getD_eq_getElem?_getD,hs];rfl
  rw[e1]at HY hpl
  have hti:((check g).2.take i).length=i:=by rw[List.length_take,hcl];omega
  have hform:=hni.form
  rw[hti]at hform
  have aea:(kn.map ax.xs).length=i:=by rw[List.length_map,hkl]
  obtain⟨t,ht,hts⟩:∃t,sv.l[n.a.toNat]? =some t/\t.xs=(check g).2.getD n.a.toNat []:=by
   have hlt2:n.a.toNat<sv.l.length:=by omega
   refine⟨sv.l[n.a.toNat],List.getElem?_eq_getElem hlt2,?_⟩
   rw[<-hm,List.getD_eq_getElem?_getD,List.getElem?_map,List.getElem?_eq_getElem hlt2];rfl
  have htm:t∈sv.l:=List.mem_of_getElem? ht
  rw[<-hts]at hpl
  obtain⟨u,hu,iL⟩:∃u,sv.l[i]? =some u/\u.xs=s:=by
   have hs':=hs
   rw[<-hm,List.getElem?_map]at hs'
   cases hu:sv.l[i]? with
   |none=>rw[hu]at hs';simp at hs'
   |some u=>rw[hu]at hs';exact⟨u,rfl,by simpa using hs'⟩
  have hcnt:au u.xs=cnt:=by rw[iL];exact HY
  have hcb:=(dN u.xs).2
  have hat:∀w',sv.ok w'->Calls Tryz.prog 50 #[n.p9,sv.val,.int .i64 i] w' (λe w''=>e= .returned (kz n (inA n t) (fnA n t cnt) cnt)/\Ext w' w''):=λw' h=>agj w' n sv h i u t cnt hu ht ha0 hcnt
  have hnm:n.ai≠1->∀w',n.ok w'->t.ok w'->∀a b:ax,a.ok w'->b.ok w'->(∀x∈a.xs,fJ x)->(∀x∈b.xs,fJ x)->NumIn n ((check g).2.take i) a.xs b.xs->Calls Tryz.prog 146 #[kz n (inA n t) (fnA n t cnt) cnt,a.val,b.val] w' (DJ w' (gH n cnt t.xs a.xs b.xs)):=λhk1 w' h1 h2 a b h3 h4 h5 h6 h7=>ae1 w' n _ s t cnt hpl hk1 h1 h2 a b h3 h4 h5 h6 h7
  obtain⟨ib,il,ic,hinv⟩:=adb n t
  have hfn:=agV n t cnt
  rw[hinv]at hat hnm
  by_cases hk1:n.ai=1
  ·have hf0:fnA n t cnt= .nilFunc:=if_neg jF
   rw[hf0]at hat
   obtain⟨cb,cc,cl⟩:=cur
   cases cl with
   |nil=>
    have hv1:d9 (check g).2 (n::g.l.drop (i+1)) (kn.map ax.xs) []=(12,[]):=by
     conv=>lhs;unfold d9
     rw[if_neg (λh=>h hk1)]
    have hv2:pE g (iv.l.map ax.xs)=(12,[]):=by rw[<-hv];exact hv1
    repeat' ((conv=>whnf)<;>first|(show @iG _ _ _;refine gJ rfl ?_)|refine pR ?_|refine Ae ?_|refine zF ?_|refine bV ?_|refine ag ?_ ?_<;>intro _)
    all_goals(conv=>whnf)
    all_goals exact Jn (λ_ _ h=>h.1.1) rfl hv2 (λ_=>rfl)
   |cons x xs=>
    obtain⟨ca,hca⟩:∃a,cb=some a:=aT (j:=0) Kj.rows (by show 0<(bA (x::xs)).length;rw[bz];exact Nat.succ_pos _)
    subst hca
    have ae3:x.ok w:=Kj.each x List.mem_cons_self
    have hcs:au s=cnt:=by rw[<-iL];exact hcnt
    have hroom:=Kj.room
    have hxl:xs.length+1<=cc:=hroom
    have hne0:¬((({base:=some ca,cap:=cc,l:=x::xs}:aY).l.length:Nat):Int)=0:=by show¬((xs.length+1:Nat):Int)=0;omega
    have hpos:1<=cnt:=by
     have hso:=hni.az
     unfold bP at hso
     rw[if_pos (.inl hk1),Option.some.injEq]at hso
     have:=(dJ hform).own (.inl hk1)
     rw[hso]at this
     omega
    by_cases hbad:(x.xs.length:Int)≠au s\/foldI min x.xs<n.lo\/n.hi<foldI max x.xs
    ·have hv1:d9 (check g).2 (n::g.l.drop (i+1)) (kn.map ax.xs) (x.xs::xs.map ax.xs)=(12,[]):=by
      conv=>lhs;unfold d9
      rw[if_neg (λh=>h hk1)]
      simp only
      rw[aea,e1,if_pos hbad]
     have hv2:pE g (iv.l.map ax.xs)=(12,[]):=by rw[<-hv];exact hv1
     rw[hcs]at hbad
     repeat' ((conv=>whnf)<;>first|(show @iG _ _ _;refine jc hne0 ?_)|(show dn ..;(first|refine aM a i ha rfl hlt ?_|refine aM ca 0 rfl rfl aa ?_))|refine Ae ?_|(show gZ ..;refine bN (λR w' h=>aH h.1.1 Kj.rows) _ _ (j:=0) rfl rfl ?_)|refine zF ?_|refine Oq ?_|refine M6 ?_|refine bV ?_|refine ag ?_ ?_<;>intro _)
     all_goals(conv=>whnf)
     all_goals first|(exfalso;omega)|exact Jn (λ_ _ h=>h.1.1) rfl hv2 (λ_=>rfl)
    ·have hv1:d9 (check g).2 (n::g.l.drop (i+1)) (kn.map ax.xs) (x.xs::xs.map ax.xs)=d9 (check g).2 (g.l.drop (i+1)) (kn.map ax.xs++[x.xs]) (xs.map ax.xs):=by
      conv=>lhs;unfold d9
      rw[if_neg (λh=>h hk1)]
      simp only
      rw[aea,e1,if_neg hbad]
     have hv2:=hv1.symm.trans hv
     rw[hcs]at hbad
     have hwi:within p x.xs:=by
      rw[hpe]
      have hL:jm (check g).2 n ((cZ g).2.take i)=[n.lo,n.hi]:=by
       unfold jm jw
       rw[if_neg jF]
       exact if_pos hk1
      unfold r9 rq
      rw[hL]
      intro z hz
      have m1:foldI min [n.lo,n.hi]=min n.lo n.hi:=rfl
      have m2:foldI max [n.lo,n.hi]=max n.lo n.hi:=rfl
      have:=kI hz
      have:=kK hz
      simp only[m1,m2]
      omega
     repeat' ((conv=>whnf)<;>first|(show @iG _ _ _;refine jc hne0 ?_)|(show dn ..;(first|refine aM a i ha rfl hlt ?_|refine aM ca 0 rfl rfl aa ?_))|refine Ae ?_|(show gZ ..;refine bN (λR w' h=>aH h.1.1 Kj.rows) _ _ (j:=0) rfl rfl ?_)|(show eP ..;(refine bY i rfl hlt wM ?_))|refine zF ?_|refine Oq ?_|refine M6 ?_|(show cO _ 14 ..;refine mV [] [] al4 ?_ (h6:=List.nil_sublist _))|refine eU ?_|(show aJ _ 32 ..;refine Qj x.xs Tryz.call32 ae3.fits ae3.few (λρ w' hw=>Du w' x (ae hw λR h=>ae3.later h.1.1) aa) (λy hy hys=> ?_))|(show ny ..;refine ZW aa aa ?_)|(show dH ..;refine KU hkl hlt ?_)|refine bV ?_|refine ag ?_ ?_<;>intro _|refine And.intro ?_ ?_)
     all_goals(conv=>whnf)
     all_goals exact⟨(i+1,kn++[y],⟨some (if cc=1 then ca else ca.add 1),cc-1,xs⟩),[],⟨hlt,xI hkn hys hp hs (by rw[hy];exact hwi) (by rw[hy,hcs];omega),InV.ahW Kj rfl,by rw[List.map_append,List.map_cons,List.map_nil,hy];exact hv2⟩,by simp only;omega,rfl,fE,fE,λR w' h=>⟨h.1.1,mR h.1.2 h.2⟩⟩
  ·have hv1:d9 (check g).2 (n::g.l.drop (i+1)) (kn.map ax.xs) (cur.l.map ax.xs)=d9 (check g).2 (g.l.drop (i+1)) (kn.map ax.xs++[gH n cnt t.xs (kn.getD n.a.toNat cK).xs (kn.getD n.b.toNat cK).xs]) (cur.l.map ax.xs):=by
    conv=>lhs;unfold d9
    unfold gy
    rw[if_pos hk1,zl,zl,aea,e1,HY,hts];rfl
   rw[hv1]at hv
   have hcs:au s=cnt:=by rw[<-iL];exact hcnt
   have kA:=ow hsp hkn aa n.a.toNat
   have kB:=ow hsp hkn aa n.b.toNat
   have acA:=abo hsp hkn aa (dJ hform)
   have hwn:=Ul hpl hk1 acA kA.1 kB.1
   have hEq:jm (check g).2 n ((cZ g).2.take i)=jw n cnt t.xs (((cZ g).2.take i).getD n.a.toNat (0,0)) (((cZ g).2.take i).getD n.b.toNat (0,0)):=by
    unfold jm
    rw[show((cZ g).2.take i).length=i by rw[List.length_take,hsl];omega,e1,HY,hts];rfl
   have gA:=AZ (n:=g.l.length) (l:=kn) (j:=n.a.toNat) aa aa
   have gB:=AZ (n:=g.l.length) (l:=kn) (j:=n.b.toNat) aa aa
   rcases hfn with hf0|⟨f1,f2,f3,hf0⟩
   all_goals rw[hf0]at hat hnm
   all_goals
    repeat' ((conv=>whnf)<;>first|refine pR ?_|refine Ae ?_|refine zF ?_|(show eP ..;(first|refine bY n.a.toNat aa aa wM ?_|refine bY n.b.toNat aa aa wM ?_|refine bY i rfl hlt wM ?_))|(show rQ ..;(first|refine row_of _ _ gA rfl ?_|refine row_of _ _ gB rfl ?_))|refine eU ?_|(show aJ _ 146 ..;refine jU Tryz.call146 ax.val bX (λx=>x.xs=gH n cnt t.xs (kn.getD n.a.toNat cK).xs (kn.getD n.b.toNat cK).xs/\x.bF) (λρ w' hw=>hnm hk1 w' (ae hw λR h=>hn.later h.1.1) (ae hw λR h=>(zy hsv aa h.1.2).each t htm) (kn.getD n.a.toNat cK) (kn.getD n.b.toNat cK) (ae hw λR h=>abG hkn.bF h.2 _) (ae hw λR h=>abG hkn.bF h.2 _) kA.2.1 kB.2.1 acA) (λx hx=> ?_))|(show dH ..;refine KU hkl hlt ?_)|(show cO _ 11 ..;refine mV [15] _ ak1 ?_)|refine bV ?_|refine ag ?_ ?_<;>intro _)
    all_goals(conv=>whnf)
    all_goals exact⟨(i+1,kn++[x],cur),[],⟨hlt,xI hkn hx.2 hp hs (by rw[hx.1,hpe];unfold r9;rw[hEq];exact hwn.1) (by rw[hx.1,hcs,hwn.2]),Kj,by rw[List.map_append,List.map_cons,List.map_nil,hx.1];exact hv⟩,by simp only;omega,rfl,fE,fE,λR w' h=>⟨h.1.1,mR h.1.2 h.2⟩⟩
 ·obtain rfl:i=g.l.length:=by omega
  rw[List.drop_length]at hv
  have hgO:=AZ (n:=g.l.length) (l:=kn) (j:=g.out.toNat) aa aa
  by_cases hrest:0<cur.l.length
  ·have hv2:pE g (iv.l.map ax.xs)=(12,[]):=by
    rw[<-hv]
    conv=>lhs;unfold d9
    rw[if_pos (by simpa using hrest)]
   repeat' ((conv=>whnf)<;>first|refine bV ?_|refine ag ?_ ?_<;>intro _)
   conv=>whnf
   exact Jn (λ_ _ h=>h.1.1) rfl hv2 (λ_=>rfl)
  ·have hv2:pE g (iv.l.map ax.xs)=(0,kn.map ax.xs):=by
    rw[<-hv]
    conv=>lhs;unfold d9
    rw[if_neg (by simpa using hrest)]
   repeat' ((conv=>whnf)<;>first|(show eP ..;(refine bY g.out.toNat aa aa wM ?_))|(show rQ ..;refine row_of _ _ hgO rfl ?_)|refine bV ?_|refine ag ?_ ?_<;>intro _)
   conv=>whnf
   have hko:g.out.toNat<kn.length:=by omega
   have hge:kn.getD g.out.toNat cK=kn[g.out.toNat]:=by rw[List.getD_eq_getElem?_getD,List.getElem?_eq_getElem hko];rfl
   exact aee (λ_ _ h=>h.1.1) rfl (by rw[hge];exact hkn.bF _ (List.getElem_mem hko)) hv2 (zl _ _).symm (λR w' h=>by rw[hge];exact h.2 _ (List.getElem_mem hko))
end
def G8(a b:aN):Bool:=decide (a.ai=b.ai)&&decide (a.a=b.a)&&decide (a.b=b.b)&&decide (a.az=b.az)&&decide (a.lo=b.lo)&&decide (a.hi=b.hi)&&decide (a.size=b.size)&&decide (a.data=b.data)&&decide (a.aQ=b.aQ)
theorem Rb{a b:aN}:G8 a b=true↔a=b:=by
 unfold G8
 simp only[Bool.and_eq_true,decide_eq_true_eq]
 constructor
 ·rintro⟨⟨⟨⟨⟨⟨⟨⟨h1,h2⟩,h3⟩,h4⟩,h5⟩,h6⟩,h7⟩,h8⟩,h9⟩
  cases a;cases b;simp only at*;subst_vars;rfl
 ·rintro rfl;simp
def dh:aN:=⟨0,0,0,[],0,0,0,[],[]⟩
def eX(n:aN):List Int:=if n.ai=1\/n.ai=2 then []else if n.ai=6 then [n.a,n.b]else [n.a]
def bu(st:List Nat)(n:aN):aN:=
 if n.ai=1\/n.ai=2 then n else if n.ai=6 then {n with a:=st.getD n.a.toNat 0,b:=st.getD n.b.toNat 0}else {n with a:=st.getD n.a.toNat 0}
def AL(row:List aN)(k:Int):Bool:=decide ((row.getD k.toNat dh).ai=2)
def jO(row:List aN)(n:aN):Bool:= !decide (n.ai=1\/n.ai=2)&&AL row n.a&&(decide (n.ai≠6)||AL row n.b)
def lm(s:List Int)(row:List aN)(n:aN):List Int:=gH n.fo (au s).toNat (row.getD n.a.toNat dh).az (row.getD n.a.toNat dh).data (if n.ai=6 then(row.getD n.b.toNat dh).data else [])
def kg(s:List Int)(row:List aN)(n:aN):aN:=if jO row n=true then⟨2,0,0,s,0,0,0,lm s row n,[]⟩else n
def Fa(n:aN):List aN->Nat->Option Nat
 |[],_=>none
 |x::r,k=>if G8 x n=true then some k else Fa n r (k+1)
def rU(row:List aN)(n:aN):Option Nat:=if n.ai=1 then none else Fa n row 0
def Bt(row:List aN)(n:aN):List aN×Nat:=match rU row n with|some k=>(row,k)|none=>(row++[n],row.length)
def o8(s:List Int)(x:List aN×List Nat)(n:aN):List aN×List Nat:=
 ((Bt x.1 (kg s x.1 (bu x.2 n))).1,x.2++[(Bt x.1 (kg s x.1 (bu x.2 n))).2])
def rG:List aN->List (List Int)->List aN×List Nat->List aN×List Nat
 |n::r,s::ss,x=>rG r ss (o8 s x n)
 |_,_,x=>x
theorem SQ{n:aN}:∀{row:List aN} {j k:Nat},Fa n row j=some k->j<=k/\row[k-j]? =some n
 |[],_,_,h=>by cases h
 |x::r,j,k,h=>by
  unfold Fa at h
  split at h
  ·rename_i hs
   simp only[Option.some.injEq]at h
   subst h
   rw[Rb]at hs
   subst hs
   simp
  ·obtain⟨h1,h2⟩:=SQ h
   refine⟨by omega,?_⟩
   have:k-j=(k-(j+1))+1:=by omega
   rw[this,List.getElem?_cons_succ];exact h2
theorem zI{row:List aN}{n:aN}{k:Nat}(h:rU row n=some k):n.ai≠1/\row[k]? =some n:=by
 unfold rU at h
 split at h
 ·cases h
 ·rename_i hk
  exact⟨hk,by simpa using(SQ h).2⟩
def xW(n:ak)(a b:Int):ak:=⟨n.ai,a,b,n.az,n.lo,n.hi,n.size,n.data,n.aQ⟩
theorem y8{n:ak}{i k:Nat}{a b:Int}(h:cz n i=true)(ha:n.ai≠1->n.ai≠2->0<=a/\a<k)(ha2:n.ai=1\/n.ai=2->a=n.a)(hb:n.ai=6->0<=b/\b<k)(hb2:n.ai≠6->b=n.b):cz (xW n a b) k=true:=by
 have hkk:=(dJ h).ai
 unfold cz at h|-
 have hk:n.ai=1\/n.ai=2\/n.ai=3\/n.ai=4\/n.ai=5\/n.ai=6\/n.ai=7\/n.ai=8\/n.ai=9:=by omega
 have e1:(xW n a b).ai=n.ai:=rfl
 have e2:(xW n a b).az=n.az:=rfl
 have e3:(xW n a b).data=n.data:=rfl
 have e4:(xW n a b).aQ=n.aQ:=rfl
 have e5:(xW n a b).size=n.size:=rfl
 have e6:(xW n a b).a=a:=rfl
 have e7:(xW n a b).b=b:=rfl
 have e8:(xW n a b).lo=n.lo:=rfl
 have e9:(xW n a b).hi=n.hi:=rfl
 rw[e1]
 rcases hk with hk|hk|hk|hk|hk|hk|hk|hk|hk
 all_goals repeat(first|rw[if_pos hk]at h|- |rw[if_neg aa]at h|-)
 all_goals simp only[gW,iI,Bool.true_or,Bool.false_or,Bool.true_and,Bool.and_true,Bool.and_eq_true,decide_eq_true_eq,e1,e2,e3,e4,e5,e6,e7,e8,e9]at h|-
 ·have:=ha2 aa;have:=hb2 aa;subst_vars;exact h
 ·have:=ha2 aa;have:=hb2 aa;subst_vars;exact h
 all_goals have hA:=ha aa aa
 case inr.inr.inr.inr.inr.inl=>have hB:=hb hk;refine⟨⟨h.1.1,hA⟩,hB⟩
 all_goals(have:=hb2 aa;subst_vars;grind)
theorem wQ{n:ak}{sh sh':List (List Int)}{a b:Int}(hA:n.ai≠1->n.ai≠2->sh'.getD a.toNat []=sh.getD n.a.toNat [])(hB:n.ai=6->sh'.getD b.toNat []=sh.getD n.b.toNat []):bP (xW n a b) sh'=bP n sh:=by
 by_cases h12:n.ai=1\/n.ai=2
 ·unfold bP
  have:(xW n a b).ai=1\/(xW n a b).ai=2:=h12
  rw[if_pos h12,if_pos this];rfl
 ·have hA:=hA aa aa
  unfold bP
  have e1:(xW n a b).ai=n.ai:=rfl
  have e6:(xW n a b).a=a:=rfl
  have e7:(xW n a b).b=b:=rfl
  simp only[e1,e6,e7,hA]
  by_cases h6:n.ai=6
  ·simp only[hB h6];rfl
  ·simp only[if_neg h6];rfl
theorem Da(n:ak)(a b:Int):gP (xW n a b)=gP n:=by unfold gP;rfl
theorem Sv(n:ak)(a b:Int)(cnt:Nat)(t:List Int)(A B:Sp):jw (xW n a b) cnt t A B=jw n cnt t A B:=rfl
theorem SG(n:ak)(a b:Int)(cnt:Nat)(t x y:List Int):gH (xW n a b) cnt t x y=gH n cnt t x y:=rfl
theorem aiq(n:ak)(i:Int):cz n.pl.fo i=cz n i:=by unfold cz gW;rfl
theorem ahJ(n:ak):gP n.pl.fo=gP n:=by unfold gP;rfl
theorem ahB(n:ak)(cnt:Nat)(t x y:List Int):gH n.pl.fo cnt t x y=gH n cnt t x y:=rfl
def tight(a b:Sp):Prop:=b.1<=a.1/\a.2<=b.2
theorem Pb(a:Sp):tight a a:=⟨Int.le_refl _,Int.le_refl _⟩
theorem VY{a b c:Sp}(h1:tight a b)(h2:tight b c):tight a c:=⟨Int.le_trans h2.1 h1.1,Int.le_trans h1.2 h2.2⟩
theorem ZT{L L':List Int}(h1:1<=L'.length)(h:∀e∈L',foldI min L<=e/\e<=foldI max L):tight (rq L') (rq L):=⟨(h _ (Er h1)).1,(h _ (Ei h1)).2⟩
theorem Xl{d a1 a2 b1 b2:Int}(h1:b1<=a1)(h2:a2<=b2)(h3:a1<=a2):min (d*b1) (d*b2)<=min (d*a1) (d*a2)/\max (d*a1) (d*a2)<=max (d*b1) (d*b2):=by
 rcases(by omega:0<=d\/d<=0)with hd|hd
 ·have:=Int.mul_le_mul_of_nonneg_left h1 hd
  have:=Int.mul_le_mul_of_nonneg_left h2 hd
  have:=Int.mul_le_mul_of_nonneg_left h3 hd
  omega
 ·have:=Int.mul_le_mul_of_nonpos_left hd h1
  have:=Int.mul_le_mul_of_nonpos_left hd h2
  have:=Int.mul_le_mul_of_nonpos_left hd h3
  omega
theorem Si{A B:Sp}(h:tight A B)(h3:A.1<=A.2):∀{l:List Sp} {s1 s2 s3 s4:Int},s1<=s2->s2<=s3->s3<=s4->l.foldl (Qt B) s1<=l.foldl (Qt A) s2/\l.foldl (Qt A) s2<=l.foldl (Qu A) s3/\l.foldl (Qu A) s3<=l.foldl (Qu B) s4
 |[],_,_,_,_,h1,h2,h3=>⟨h1,h2,h3⟩
 |t::r,s1,s2,s3,s4,h1,h2,h4=>by
  simp only[List.foldl_cons]
  have:=Xl (d:=t.1) h.1 h.2 h3
  exact Si h h3 (by unfold Qt;omega) (by unfold Qt Qu;omega) (by unfold Qu;omega)
theorem OG{A:Sp}{x:Int}(h1:A.1<=x)(h2:x<=A.2):within A [x]:=λy hy=>by
 obtain rfl:y=x:=by simpa using hy
 exact⟨h1,h2⟩
theorem Wl{n:ak}{A A' B B':Sp}(hk:n.ai=6\/n.ai=7\/n.ai=8\/n.ai=9)(hA:tight A' A)(hA2:A'.1<=A'.2)(hB:n.ai=6->tight B' B/\B'.1<=B'.2):∀e∈fA n A' B',foldI min (fA n A B)<=e/\e<=foldI max (fA n A B):=by
 obtain⟨hA,hA'⟩:=hA
 have key:∀x,A'.1<=x->x<=A'.2->∀y,(n.ai=6->B'.1<=y/\y<=B'.2)->foldI min (fA n A B)<=gu n [x] (if n.ai=6 then [y]else []) 0/\gu n [x] (if n.ai=6 then [y]else []) 0<=foldI max (fA n A B):=λx h1 h2 y hy=>by
  refine N9 (cnt:=1) aa (λh=>by omega) (λ_=>rfl) (λh=>by rw[if_pos h];rfl) (OG aa aa) ?_ (Nat.zero_lt_one)
  by_cases h6:n.ai=6
  ·rw[if_pos h6]
   have:=(hB h6).1
   have:=hy h6
   exact OG (by unfold tight at*;omega) (by unfold tight at*;omega)
  ·rw[if_neg h6];exactλz hz=>by simp at hz
 intro e he
 have hE:∀x y,e=gu n [x] (if n.ai=6 then [y]else []) 0->A'.1<=x->x<=A'.2->(n.ai=6->B'.1<=y/\y<=B'.2)->foldI min (fA n A B)<=e/\e<=foldI max (fA n A B):=λx y h1 h2 h3 h4=>by rw[h1];exact key x h2 h3 y h4
 unfold fA at he
 rw[if_neg aa,if_neg aa]at he
 rcases hk with hk|hk|hk|hk
 ·have hb:=(hB hk).2
  rw[if_pos hk]at he
  have hN:∀x y,gu n [x] (if n.ai=6 then [y]else []) 0=x+y:=λx y=>by unfold gu;rw[if_neg aa,if_pos hk,if_pos hk];rfl
  simp only[List.mem_cons,List.not_mem_nil,or_false]at he
  rcases he with he|he
  ·exact hE A'.1 B'.1 AJ (Int.le_refl _) hA2 (λ_=>⟨Int.le_refl _,hb⟩)
  ·exact hE A'.2 B'.2 AJ hA2 (Int.le_refl _) (λ_=>⟨hb,Int.le_refl _⟩)
 ·rw[if_neg aa,if_pos hk]at he
  have hN:∀x y,gu n [x] (if n.ai=6 then [y]else []) 0=x*n.data.xs.getD 0 0:=λx y=>by unfold gu;rw[if_neg aa,if_neg aa,if_pos hk];rfl
  simp only[List.mem_cons,List.not_mem_nil,or_false]at he
  rcases he with he|he
  ·exact hE A'.1 0 (by rw[hN,Int.mul_comm];exact he) (Int.le_refl _) hA2 (λh=>by omega)
  ·exact hE A'.2 0 (by rw[hN,Int.mul_comm];exact he) hA2 (Int.le_refl _) (λh=>by omega)
 ·rw[if_neg aa,if_neg aa,if_pos hk]at he
  have hN:∀x y,gu n [x] (if n.ai=6 then [y]else []) 0=iF n.data.xs x:=λx y=>by unfold gu;rw[if_neg aa,if_neg aa,if_neg aa,if_pos hk];rfl
  have h2:∀x,e=iF n.data.xs x->A'.1<=x->x<=A'.2->foldI min (fA n A B)<=e/\e<=foldI max (fA n A B):=λx h1 h2 h3=>hE x 0 (by rw[hN];exact h1) h2 h3 (λh=>by omega)
  have h3:e∈[iF n.data.xs A'.1,iF n.data.xs A'.2]->foldI min (fA n A B)<=e/\e<=foldI max (fA n A B):=λhe=>by
   simp only[List.mem_cons,List.not_mem_nil,or_false]at he
   rcases he with he|he
   ·exact h2 _ he (Int.le_refl _) hA2
   ·exact h2 _ he hA2 (Int.le_refl _)
  split at he
  ·exact h3 he
  ·rcases List.mem_append.1 he with he|he
   ·exact h3 he
   ·obtain⟨x,hx,rfl⟩:=List.mem_map.1 he
    rw[O6]at hx
    have q1:A'.1<=loI n.data.xs A':=by unfold loI;omega
    have q2:hiI n.data.xs A'<=A'.2:=by unfold hiI;omega
    exact h2 x rfl aa aa
 ·rw[if_neg aa,if_neg aa,if_neg aa]at he
  have hN:∀x y,gu n [x] (if n.ai=6 then [y]else []) 0=x:=λx y=>by unfold gu;rw[if_neg aa,if_neg aa,if_neg aa,if_neg aa];rfl
  simp only[List.mem_cons,List.not_mem_nil,or_false]at he
  rcases he with he|he
  ·exact hE A'.1 0 AJ (Int.le_refl _) hA2 (λh=>by omega)
  ·exact hE A'.2 0 AJ hA2 (Int.le_refl _) (λh=>by omega)
theorem MF{n:ak}{sh:List (List Int)}{s t:List Int}{cnt:Nat}(h:gN n sh s t cnt){A A' B B':Sp}(hA:n.ai≠1->n.ai≠2->tight A' A/\A'.1<=A'.2)(hB:n.ai=6->tight B' B/\B'.1<=B'.2):tight (rq (jw n cnt t A' B')) (rq (jw n cnt t A B)):=by
 have hkind:=(dJ h.node.form).ai
 refine ZT (I7 h A' B') ?_
 by_cases hl:eF n
 ·have hk:n.ai=3\/n.ai=4\/n.ai=5:=hl
  have hA:=hA aa aa
  have e1:jw n cnt t A B=nH n cnt (dZ n t) A:=if_pos hl
  have e2:jw n cnt t A' B'=nH n cnt (dZ n t) A':=if_pos hl
  rw[e1,e2]
  intro e he
  obtain⟨o,ho,he⟩:=List.mem_flatMap.1 he
  have hw:=Si hA.1 hA.2 (l:=dZ n t o) (Int.le_refl (dV n cnt o)) (Int.le_refl _) (Int.le_refl _)
  have m1:(dZ n t o).foldl (Qt A) (dV n cnt o)∈nH n cnt (dZ n t) A:=List.mem_flatMap.2 ⟨o,ho,by simp⟩
  have m2:(dZ n t o).foldl (Qu A) (dV n cnt o)∈nH n cnt (dZ n t) A:=List.mem_flatMap.2 ⟨o,ho,by simp⟩
  have:=kI m1
  have:=kK m2
  simp only[List.mem_cons,List.not_mem_nil,or_false]at he
  rcases he with rfl|rfl<;>omega
 ·have e1:jw n cnt t A B=fA n A B:=if_neg hl
  have e2:jw n cnt t A' B'=fA n A' B':=if_neg hl
  rw[e1,e2]
  by_cases h12:n.ai=1\/n.ai=2
  ·have e3:fA n A' B'=fA n A B:=by
    unfold fA
    rcases h12 with h1|h2
    ·rw[if_pos h1,if_pos h1]
    ·rw[if_neg aa,if_pos h2,if_neg aa,if_pos h2]
   rw[e3]
   exactλe he=>⟨kI he,kK he⟩
  ·unfold eF at hl
   exact Wl aa (hA aa aa).1 (hA aa aa).2 hB
theorem Gy{n:ak}{sh:List (List Int)}{s t:List Int}{cnt:Nat}(h:gN n sh s t cnt)(A B:Sp):(rq (jw n cnt t A B)).1<=(rq (jw n cnt t A B)).2:=XT (I7 h A B)
structure jf where
 op:Int
 KD:Int
 a:Int
 b:Int
 k:Int
structure BZ where
 lo:Int
 hi:Int
 aA:List Int
structure dL where
 inputs:List BZ
 aF:List (List Int)
 code:List jf
def bI(s:dL)(op a b k:Int):dL×Int:=(⟨s.inputs,s.aF,s.code++[⟨op,s.code.length,a,b,k⟩]⟩,s.code.length)
def J5(r:List Int):List (List Int)->Nat->Option Nat
 |[],_=>none
 |x::l,k=>if x=r then some k else J5 r l (k+1)
def dF(s:dL)(r:List Int):dL×Int:=match J5 r s.aF 0 with
 |some k=>(s,k)
 |none=>(⟨s.inputs,s.aF++[r],s.code⟩,s.aF.length)
def l9(f:Nat->Int):List Int->Nat->List Int->List Int
 |[],_,row=>row
 |s::r,e,row=>l9 f r (e+1) (row.set s.toNat (f e))
def bU(n:Nat)(aA:List Int)(f:Nat->Int):List Int:=l9 f aA 0 (List.replicate n 0)
def bH(n:Nat)(s:dL)(aA:List Int)(f:Nat->Int):dL×Int:=dF s (bU n aA f)
def vB(n:Nat)(s:dL)(x:Int):dL×Int:=bI (dF s (List.replicate n 0)).1 5 x 0 (dF s (List.replicate n 0)).2
def iU(s:dL)(m:Option Int)(v:Int):dL×Int:=match m with
 |none=>(s,v)
 |some a=>bI s 3 a v 0
def rY(s:dL)(t:Int->Option Int)(x:Int)(i:Nat):dL×(Int->Option Int)×Int:=match t i with
 |some a=>(s,t,a)
 |none=>((bI s 8 x 0 i).1,λz=>if z=i then some (bI s 8 x 0 i).2 else t z,(bI s 8 x 0 i).2)
structure oZ where
 s:dL
 t:Int->Option Int
 m:Option Int
def wR(n base:Nat)(d:List Int):List Int:=d.drop (n-base)++d.take (n-base)
def uX(n base:Nat)(x:Int)(y:oZ)(i:Nat)(d:List Int):oZ:=
 if d=[]then y else
 let q:=rY y.s y.t x i
 let p:=dF q.1 (wR n base d)
 let l:=bI p.1 5 q.2.2 0 p.2
 let a:=iU l.1 y.m l.2
 ⟨a.1,q.2.1,some a.2⟩
def sN(n base:Nat)(x:Int):List (List Int)->Nat->oZ->oZ
 |[],_,y=>y
 |d::r,i,y=>sN n base x r (i+1) (uX n base x y i d)
def sV(n base:Nat)(x:Int)(y:oZ)(ds:List (List Int)):oZ:=
 let z:=sN n base x ds 0 ⟨y.s,y.t,none⟩
 match z.m with
 |none=>⟨z.s,z.t,y.m⟩
 |some a=>
  let u:=if 0<base then bI z.s 8 a 0 base else(z.s,a)
  let v:=iU u.1 y.m u.2
  ⟨v.1,z.t,some v.2⟩
def p8(n g:Nat)(x:Int)(all:List (List Int)):Nat->Nat->oZ->oZ
 |0,_,y=>y
 |f+1,base,y=>if base<n then p8 n g x all f (base+g) (sV n base x y ((all.drop base).take (min n (base+g)-base)))else y
def qY(x:Int):Int->Option Int:=λz=>if z=0 then some x else none
def stepG:Nat->Nat->Nat->Nat
 |0,_,g=>g
 |f+1,n,g=>if g*g<n then stepG f n (2*g)else g
def tT(giant:Bool)(n:Nat):Nat:=if giant then stepG n n 1 else n
def nG(n:Nat)(giant:Bool)(s:dL)(x:Int)(all:List (List Int)):dL×Int:=
 let y:=p8 n (tT giant n) x all n 0 ⟨s,qY x,none⟩
 match y.m with
 |none=>vB n y.s x
 |some a=>(y.s,a)
def rM(n:Nat)(s:dL)(x:Int)(data aA:List Int):dL×Int:=
 let a:=data.getD 2 0
 let b:=data.getD 1 0
 let c:=data.getD 0 0
 let y:dL×Option Int:=if a=0 then(s,none)else
  let q:=bI s 6 x x 0
  if a=1 then(q.1,some q.2)else
  let p:=bH n q.1 aA (λ_=>a)
  let l:=bI p.1 5 q.2 0 p.2
  (l.1,some l.2)
 let z:dL×Option Int:=if b=0 then y else if b=1 then
     let u:=iU y.1 y.2 x
     (u.1,some u.2)
  else
   let p:=bH n y.1 aA (λ_=>b)
   let l:=bI p.1 5 x 0 p.2
   let u:=iU l.1 y.2 l.2
   (u.1,some u.2)
 let o:dL×Int:=match z.2 with
  |none=>vB n z.1 x
  |some m=>(z.1,m)
 if c=0 then o else
  let p:=bH n o.1 aA (λ_=>c)
  bI p.1 4 o.2 0 p.2
section
structure lZ(n:ak)(sh:List (List Int)):Prop where
 form:cz n sh.length=true
 az:∃s,bP n sh=some s/\uH s
 near:gP n=true
 made:Made n
theorem PW{xs:List Int}(h:nA xs):nR xs=true:=by
 unfold nR
 rw[List.all_eq_true]
 intro x hx
 have:=h x hx
 exact decide_eq_true ⟨by omega,by omega⟩
theorem j3:nA cK.xs:=λx hx=>by simp[cK]at hx
theorem vH{n:ak}(hd:nA n.data.xs)(hb:nA n.aQ.xs)(hl: -4<=n.lo/\n.lo<=n.hi/\n.hi<=9):gP n=true:=by
 unfold gP
 rw[PW hd,PW hb,decide_eq_true hl.2.1]
 have:nR [n.lo,n.hi]=true:=by
  unfold nR
  rw[List.all_eq_true]
  intro x hx
  simp only[List.mem_cons,List.not_mem_nil,or_false]at hx
  exact decide_eq_true (by rcases hx with rfl|rfl<;>omega)
 rw[this];rfl
theorem Nb{n:ak}{sh:List (List Int)}(h:ab3 n):lZ n sh:=by
 refine⟨?_,⟨n.az.xs,?_,h.az⟩,vH (by rw[h.data];exact j3) (by rw[h.aQ];exact j3) ⟨h.lo.1,h.hi.1,h.hi.2⟩,h.made⟩
 ·unfold cz
  rw[if_pos h.ai]
  unfold gW
  have:=h.az.pos
  simp[h.a,h.b,h.size,h.data,h.aQ,cK,this]
 ·unfold bP
  rw[if_pos (.inl h.ai)]
section
variable {sh:List (List Int)} {u d e:ax} {i j:Nat} {s:List Int}
theorem Cm{k:Int}(h: -100<=k/\k<=10000):i64 k:=⟨by omega,by omega⟩
theorem ahp{s:List Int}(h:uH s):s.length<=3:=(g_ h.pos).2.1
theorem YU(hu:u.bF)(hs:uH u.xs)(hd:d.bF)(hdl:(d.xs.length:Int)=au u.xs)(hsm:nA d.xs):lZ ⟨2,0,0,u,0,0,0,d,cK⟩ sh:=by
 have h1:=hs.pos
 have h2:=hs.few
 have h3:=ahp hs
 refine⟨?_,⟨u.xs,?_,hs⟩,vH hsm j3 ⟨by simp,by simp,by simp⟩,⟨hu,hd,iC,by simp only;omega,by simp only;omega,by simp[cK],Cm aI,z0,z0,z0,z0,z0⟩⟩
 ·unfold cz gW
  simp[cK,h1,hdl]
 ·unfold bP
  simp
theorem MC(hi:i<sh.length)(hg:sh.getD i []=s)(hs:uH s)(hd:d.bF)(he:e.bF)(ho:1<=e.xs.length/\e.xs.length<=4)(hdl:(d.xs.length:Int)=e.xs.length*au s)(h1:nA d.xs)(h2:nA e.xs)(D5:sh.length<=24):lZ ⟨3,i,0,cK,0,0,0,d,e⟩ sh:=by
 have h3:=hs.pos
 have h4:=hs.few
 have hm:(e.xs.length:Int)*au s<=4*18:=Int.mul_le_mul aa h4 aa aa
 have hg':sh.getD ((i:Int)).toNat []=s:=hg
 refine⟨?_,⟨[(e.xs.length:Int)],?_,⟨VM aa aa,?_,λh=>by simp at h⟩⟩,vH h1 h2 ⟨by simp,by simp,by simp⟩,⟨iC,hd,he,by simp[cK],by simp only;omega,by simp only;omega,Cm aI,Cm mJ,z0,z0,z0,z0⟩⟩
 ·unfold cz gW iI
  simp[cK,hi]
  omega
 ·unfold bP
  simp only[hg',hdl]
  simp
 ·have:au [(e.xs.length:Int)]=e.xs.length\/au [(e.xs.length:Int)]=0:=by
   unfold au
   rw[if_neg aI]
   simp only[dX]
   split
   ·exact .inr rfl
   ·left;omega
  omega
theorem Vz(hi:i<sh.length)(hj:j<sh.length)(hg:sh.getD i []=s)(hg2:sh.getD j []=s)(hs:uH s)(D5:sh.length<=24):lZ ⟨6,i,j,cK,0,0,0,cK,cK⟩ sh:=by
 have hg':sh.getD ((i:Int)).toNat []=s:=hg
 have am1:sh.getD ((j:Int)).toNat []=s:=hg2
 refine⟨?_,⟨s,?_,hs⟩,vH j3 j3 ⟨by simp,by simp,by simp⟩,⟨iC,iC,iC,by simp[cK],by simp[cK],by simp[cK],Cm aI,Cm mJ,Cm mJ,z0,z0,z0⟩⟩
 ·unfold cz gW iI
  simp[cK,hi,hj]
 ·unfold bP
  simp only[hg',am1]
  simp
theorem aam(hi:i<sh.length)(hg:sh.getD i []=s)(hs:uH s)(hd:d.bF)(hl:d.xs.length=3)(h1:nA d.xs)(D5:sh.length<=24):lZ ⟨8,i,0,cK,0,0,0,d,cK⟩ sh:=by
 have hg':sh.getD ((i:Int)).toNat []=s:=hg
 refine⟨?_,⟨s,?_,hs⟩,vH h1 j3 ⟨by simp,by simp,by simp⟩,⟨iC,hd,iC,by simp[cK],by simp only;omega,by simp[cK],Cm aI,Cm mJ,z0,z0,z0,z0⟩⟩
 ·unfold cz gW iI
  simp[cK,hi,hl]
 ·unfold bP
  simp only[hg']
  simp
theorem zD(hi:i<sh.length)(hg:sh.getD i []=s)(hs:uH s)(hd:d.bF)(hl:d.xs.length=1)(h1:nA d.xs)(D5:sh.length<=24):lZ ⟨7,i,0,cK,0,0,0,d,cK⟩ sh:=by
 have hg':sh.getD ((i:Int)).toNat []=s:=hg
 refine⟨?_,⟨s,?_,hs⟩,vH h1 j3 ⟨by simp,by simp,by simp⟩,⟨iC,hd,iC,by simp[cK],by simp only;omega,by simp[cK],Cm aI,Cm mJ,z0,z0,z0,z0⟩⟩
 ·unfold cz gW iI
  simp[cK,hi,hl]
 ·unfold bP
  simp only[hg']
  simp
theorem XC{n:Int}(h1:1<=n)(h2:n<=64):au [n]=n:=by
 unfold au
 rw[if_neg aI]
 simp only[dX]
 rw[if_neg aa]
 omega
theorem acL(hi:i<sh.length)(hg:sh.getD i []=s)(hs:uH s)(hu:u.bF)(hx:u.xs=[au s])(D5:sh.length<=24):lZ ⟨9,i,0,u,0,0,0,cK,cK⟩ sh:=by
 have h3:=hs.pos
 have h4:=hs.few
 have hg':sh.getD ((i:Int)).toNat []=s:=hg
 have h5:=XC (n:=au s) aa aa
 refine⟨?_,⟨[au s],?_,⟨by omega,by omega,λh=>by simp at h⟩⟩,vH j3 j3 ⟨by simp,by simp,by simp⟩,⟨hu,iC,iC,by simp only[hx];simp,by simp[cK],by simp[cK],Cm aI,Cm mJ,z0,z0,z0,z0⟩⟩
 ·unfold cz gW iI
  simp[cK,hi,hx,h5,h3]
 ·unfold bP
  simp only[hg',hx,h5]
  simp
theorem U_{a b c:Int}(h:0<au [a,b,c]):au [a,b,c]=a*b*c:=by
 have e:au [a,b,c]=dX 1 [a,b,c]:=by unfold au;rw[if_neg aI]
 rw[e]at h|-
 simp only[dX]at h|-
 by_cases t1:a<1\/a>64/1
 ·rw[if_pos t1]at h;omega
 rw[if_neg t1]at h|-
 by_cases t2:b<1\/b>64/(1*a)
 ·rw[if_pos t2]at h;omega
 rw[if_neg t2]at h|-
 by_cases t3:c<1\/c>64/(1*a*b)
 ·rw[if_pos t3]at h;omega
 rw[if_neg t3,Int.one_mul]
theorem ai0{a b c:Int}(ha:1<=a/\a<=2)(hb:1<=b)(hc:1<=c)(hbc:b*c<=9):uH [a,b,c]:=by
 have h0:1<=b*c:=by have:=Int.mul_le_mul hb hc aa aa;omega
 have h1:a*(b*c)<=2*9:=Int.mul_le_mul ha.2 hbc aa aa
 rw[<-Int.mul_assoc]at h1
 have h2:=WV ha.1 hb hc aa
 exact⟨h2,by rw[U_ h2];omega,λ_=>⟨by simpa using ha.2,by simpa using hbc⟩⟩
theorem acd{s:List Int}(hs:uH s)(h3:s.length=3):s=[s.getD 0 0,s.getD 1 0,s.getD 2 0]/\1<=s.getD 0 0/\s.getD 0 0<=2/\1<=s.getD 1 0/\1<=s.getD 2 0/\s.getD 1 0*s.getD 2 0<=9/\s.getD 1 0<=9/\s.getD 2 0<=9:=by
 have e:=adL h3
 have hp:=hs.pos
 rw[e]at hp
 obtain⟨p0,p1,p2,_⟩:=Eu hp
 obtain⟨q1,q2⟩:=hs.three h3
 have r1:s.getD 1 0*1<=s.getD 1 0*s.getD 2 0:=Int.mul_le_mul_of_nonneg_left p2 aa
 have r2:1*s.getD 2 0<=s.getD 1 0*s.getD 2 0:=Int.mul_le_mul_of_nonneg_right p1 aa
 exact⟨e,p0,q1,p1,p2,q2,by omega,by omega⟩
theorem adN(hi:i<sh.length)(hg:sh.getD i []=s)(hs:uH s)(h3:s.length=3)(he1:s.getD 1 0%2=0)(he2:s.getD 2 0%2=0)(D5:sh.length<=24):lZ ⟨5,i,0,cK,0,0,2,cK,cK⟩ sh:=by
 have hg':sh.getD ((i:Int)).toNat []=s:=hg
 obtain⟨_,p0,q0,p1,p2,q2,_,_⟩:=acd hs h3
 have m:s.getD 1 0/2*(s.getD 2 0/2)<=s.getD 1 0*s.getD 2 0:=Int.mul_le_mul aa aa aa aa
 refine⟨?_,⟨[s.getD 0 0,s.getD 1 0/2,s.getD 2 0/2],?_,ai0 ⟨p0,q0⟩ aa aa aa⟩,vH j3 j3 ⟨by simp,by simp,by simp⟩,⟨iC,iC,iC,by simp[cK],by simp[cK],by simp[cK],Cm aI,Cm mJ,z0,z0,z0,Cm aI⟩⟩
 ·unfold cz gW iI
  simp[cK,hi]
 ·unfold bP
  simp only[hg']
  rw[if_neg aI,if_neg aI,if_neg aI,if_pos trivial,if_neg aa]
theorem ahR{a b c e:Int}(ha:1<=a/\a<=64)(hb:1<=b/\b<=64)(hc:1<=c/\c<=64)(he:1<=e/\e<=64):h_ [a,b,c,e]=a*b*c*e:=by
 unfold h_
 rw[if_pos aI]
 simp only[nE]
 rw[if_neg aa,if_neg aa,if_neg aa,if_neg aa,Int.one_mul]
theorem adq{k0 k2 k3:Int}(hi:i<sh.length)(hg:sh.getD i []=s)(hs:uH s)(h3:s.length=3)(h0:1<=k0/\k0<=2)(h2:1<=k2/\k2<=2/\k2<=s.getD 1 0)(hk3:1<=k3/\k3<=2/\k3<=s.getD 2 0)(hu:u.bF)(hx:u.xs=[k0,s.getD 0 0,k2,k3])(hd:d.bF)(he:e.bF)
 (hdl:(d.xs.length:Int)=k0*s.getD 0 0*k2*k3) (hel:(e.xs.length:Int)=k0) (h1:nA d.xs) (hh:nA e.xs) (D5:sh.length<=24):lZ ⟨4,i,0,u,0,0,0,d,e⟩ sh:=by
 have hg':sh.getD ((i:Int)).toNat []=s:=hg
 obtain⟨_,p0,q0,p1,p2,q2,q3,q4⟩:=acd hs h3
 have hk:=ahR (a:=k0) (b:=s.getD 0 0) (c:=k2) (e:=k3) aa aa aa aa
 have m1:k0*s.getD 0 0<=2*2:=Int.mul_le_mul h0.2 q0 aa aa
 have n1:1*1<=k0*s.getD 0 0:=Int.mul_le_mul h0.1 p0 aa aa
 have m2:k0*s.getD 0 0*k2<=4*2:=Int.mul_le_mul m1 h2.2.1 aa aa
 have n2:1*1<=k0*s.getD 0 0*k2:=Int.mul_le_mul n1 h2.1 aa aa
 have m3:k0*s.getD 0 0*k2*k3<=8*2:=Int.mul_le_mul m2 hk3.2.1 aa aa
 have n3:1*1<=k0*s.getD 0 0*k2*k3:=Int.mul_le_mul n2 hk3.1 aa aa
 have m:(s.getD 1 0-k2+1)*(s.getD 2 0-k3+1)<=s.getD 1 0*s.getD 2 0:=Int.mul_le_mul aa aa aa aa
 have hok:=ai0 (a:=k0) (b:=s.getD 1 0-k2+1) (c:=s.getD 2 0-k3+1) h0 aa aa aa
 refine⟨?_,⟨[k0,s.getD 1 0-k2+1,s.getD 2 0-k3+1],?_,hok⟩,vH h1 hh ⟨by simp,by simp,by simp⟩,⟨hu,hd,he,by simp only[hx];simp,by simp only;omega,by simp only;omega,Cm aI,Cm mJ,z0,z0,z0,z0⟩⟩
 ·unfold cz
  rw[if_neg aI,if_neg aI,if_neg aI,if_pos rfl]
  unfold gW iI
  simp only[hx,hk,hdl,hel]
  generalize k0*s.getD 0 0*k2*k3=K at*
  have hK:0<K:=by omega
  simp[hi,hK]
 ·unfold bP
  simp only[hg',hx]
  rw[if_neg aI,if_neg aI,if_pos trivial]
  simp only[List.getD_cons_zero,List.getD_cons_succ]
  rw[if_neg aa,if_pos hok.pos]
end
end
section
abbrev gD(l:List (List Int))(k:Nat):List Int:=l.getD k []
abbrev gS(l:List Sp)(k:Nat):Sp:=l.getD k (0,0)
def jk(p:aN)(s:List Int)(df:List (List Int))(dU:List Sp):Sp:=rq (jw p.fo (au s).toNat (gD df p.a.toNat) (gS dU p.a.toNat) (gS dU p.b.toNat))
structure dD(row:List aN)(df:List (List Int))(dU:List Sp):Prop where
 oK:df.length=row.length
 UT:dU.length=row.length
 pos:∀q∈df,0<au q
 node:∀k p,row[k]? =some p->jb p.fo (df.take k) (gD df k)
 span:∀k p,row[k]? =some p->gS dU k=jk p (gD df k) df dU/\ -1048576<=(gS dU k).1/\(gS dU k).2<=1048576
theorem vS{n:ak}(h:n.ai=1\/n.ai=2)(cnt cnt':Nat)(t t':List Int)(A B A' B':Sp):jw n cnt t A B=jw n cnt' t' A' B':=by
 have hl:¬eF n:=by unfold eF;omega
 have e1:jw n cnt t A B=fA n A B:=if_neg hl
 have e2:jw n cnt' t' A' B'=fA n A' B':=if_neg hl
 rw[e1,e2]
 unfold fA
 rcases h with h1|h2
 ·rw[if_pos h1,if_pos h1]
 ·rw[if_neg aa,if_pos h2,if_neg aa,if_pos h2]
theorem EK{n:ak}(h:n.ai≠6)(cnt:Nat)(t:List Int)(A B B':Sp):jw n cnt t A B=jw n cnt t A B':=by
 unfold jw
 split
 ·rfl
 ·unfold fA
  rw[if_neg h,if_neg h]
variable {l:List (List Int)} {k:Nat}
theorem tX{r:List (List Int)}(h:k<l.length):gD (l++r) k=gD l k:=by
 unfold gD;rw[List.getD_eq_getElem?_getD,List.getD_eq_getElem?_getD,List.getElem?_append_left h]
theorem zU{l r:List Sp}(h:k<l.length):gS (l++r) k=gS l k:=by
 unfold gS;rw[List.getD_eq_getElem?_getD,List.getD_eq_getElem?_getD,List.getElem?_append_left h]
theorem vG{x:List Int}(h:k=l.length):gD (l++[x]) k=x:=by
 subst h;unfold gD;rw[List.getD_eq_getElem?_getD,List.getElem?_append_right (Nat.le_refl _),Nat.sub_self];rfl
theorem Dz{l:List Sp}{x:Sp}(h:k=l.length):gS (l++[x]) k=x:=by
 subst h;unfold gS;rw[List.getD_eq_getElem?_getD,List.getElem?_append_right (Nat.le_refl _),Nat.sub_self];rfl
variable {i:Nat}
theorem qU(h:k<i):gD (l.take i) k=gD l k:=by
 unfold gD;rw[List.getD_eq_getElem?_getD,List.getD_eq_getElem?_getD,List.getElem?_take,if_pos h]
theorem C8{l:List Sp}(h:k<i):gS (l.take i) k=gS l k:=by
 unfold gS;rw[List.getD_eq_getElem?_getD,List.getD_eq_getElem?_getD,List.getElem?_take,if_pos h]
theorem aj2(h:k<l.length):gD l k∈l:=Tk h
structure gL(p:aN)(k:Nat):Prop where
 a0:0<=p.a
 a1:p.ai≠1->p.ai≠2->p.a.toNat<k
 a2:p.ai=1\/p.ai=2->p.a=0
 b0:0<=p.b
 b1:p.ai=6->p.b.toNat<k
 b2:p.ai≠6->p.b=0
 ai:1<=p.ai/\p.ai<=9
theorem afr{n:ak}(h:cz n i=true):(n.ai=1\/n.ai=2->n.a=0)/\(n.ai≠6->n.b=0):=by
 have hkk:=(dJ h).ai
 unfold cz at h
 have hk:n.ai=1\/n.ai=2\/n.ai=3\/n.ai=4\/n.ai=5\/n.ai=6\/n.ai=7\/n.ai=8\/n.ai=9:=by omega
 rcases hk with hk|hk|hk|hk|hk|hk|hk|hk|hk
 all_goals repeat(first|rw[if_pos hk]at h|rw[if_neg aa]at h)
 all_goals simp only[gW,Bool.true_or,Bool.false_or,Bool.true_and,Bool.and_true,Bool.and_eq_true,decide_eq_true_eq]at h
 all_goals exact⟨by omega,by omega⟩
theorem kE{p:aN}(h:cz p.fo k=true):gL p k:=by
 obtain⟨hA,hB,_⟩:=uG h
 obtain⟨lA,lB⟩:=afr h
 have hf:=dJ h
 have e1:p.fo.ai=p.ai:=rfl
 have e2:p.fo.a=p.a:=rfl
 have e3:p.fo.b=p.b:=rfl
 have hfa:=hf.a
 have nL:=hf.b
 have hfk:=hf.ai
 rw[e1,e2]at*
 rw[e3]at*
 exact⟨hA.1,λh1 h2=>by have:=hfa h1 h2;omega,lA,hB.1,λh=>by have:=nL h;omega,lB,hfk⟩
variable {row:List aN} {df:List (List Int)} {dU:List Sp}
theorem dD.ajX(h:dD row df dU){p:aN}(hk:row[k]? =some p):k<row.length/\(df.take k).length=k:=by
 have hlt:=(List.getElem?_eq_some_iff.1 hk).1
 exact⟨hlt,by rw[List.length_take,h.oK];omega⟩
theorem dD.ahead(h:dD row df dU){p:aN}(hk:row[k]? =some p):gL p k:=by
 have hf:=(h.node k p hk).form
 rw[(h.ajX hk).2]at hf
 exact kE hf
variable {sh:List (List Int)} {s:List Int}
theorem V4{p:aN}(hn:jb p.fo sh s)(hp:∀q∈sh,0<au q):gN p.fo sh s (gD sh p.a.toNat) (au s).toNat:=by
 refine⟨hn,by have:=(dN s).1;omega,hp,λhl=>⟨rfl,hp _ (aj2 ?_)⟩⟩
 have:=(kE hn.form).a1
 have hl:p.ai=3\/p.ai=4\/p.ai=5:=hl
 exact this aa aa
theorem dD.place(h:dD row df dU){p:aN}(hk:row[k]? =some p):gN p.fo (df.take k) (gD df k) (gD (df.take k) p.a.toNat) (au (gD df k)).toNat:=
 V4 (h.node k p hk) λq hq=>h.pos q (List.mem_of_mem_take hq)
theorem dD.nil:dD [] [] []:=⟨rfl,rfl,λq hq=>by simp at hq,λk p hk=>by simp at hk,λk p hk=>by simp at hk⟩
theorem PN{p:aN}(ha:gL p k){r1:List (List Int)}{r2:List Sp}(h1:k<=df.length)(h2:k<=dU.length):jk p s (df++r1) (dU++r2)=jk p s df dU:=by
 unfold jk
 by_cases h12:p.ai=1\/p.ai=2
 ·rw[vS (n:=p.fo) h12]
 ·have hA:=ha.a1 aa aa
  rw[tX aa,zU aa]
  by_cases h6:p.ai=6
  ·have:=ha.b1 h6
   rw[zU aa]
  ·rw[EK (n:=p.fo) h6]
theorem dD.snoc(h:dD row df dU){m:aN}(hn:jb m.fo df s)(h1: -1048576<=(jk m s df dU).1)(h2:(jk m s df dU).2<=1048576):dD (row++[m]) (df++[s]) (dU++[jk m s df dU]):=by
 have l1:=h.oK
 have l2:=h.UT
 have hm:=kE hn.form
 refine⟨by simp[l1],by simp[l2],λq hq=> ?_,λk p hk=> ?_,λk p hk=> ?_⟩
 ·rcases List.mem_append.1 hq with hq|hq
  ·exact h.pos q hq
  ·simp at hq;subst hq
   exact jG (dJ hn.form) h.pos hn.az rfl
 ·rcases Nat.lt_or_ge k row.length with hlt|hge
  ·rw[List.getElem?_append_left hlt]at hk
   rw[List.take_append_of_le_length aa,tX aa]
   exact h.node k p hk
  ·rw[List.getElem?_append_right hge]at hk
   have h0:k-row.length=0:=by
    rcases Nat.eq_zero_or_pos (k-row.length)with h|h
    ·exact h
    ·rw[List.getElem?_eq_none fK]at hk;cases hk
   rw[h0]at hk
   simp only[List.getElem?_cons_zero,Option.some.injEq]at hk
   subst hk
   have hk:k=df.length:=by omega
   rw[vG hk,hk,List.take_left]
   exact hn
 ·rcases Nat.lt_or_ge k row.length with hlt|hge
  ·rw[List.getElem?_append_left hlt]at hk
   have:=h.span k p hk
   rw[zU aa,tX aa,PN (h.ahead hk) aa aa]
   exact this
  ·rw[List.getElem?_append_right hge]at hk
   have h0:k-row.length=0:=by
    rcases Nat.eq_zero_or_pos (k-row.length)with h|h
    ·exact h
    ·rw[List.getElem?_eq_none fK]at hk;cases hk
   rw[h0]at hk
   simp only[List.getElem?_cons_zero,Option.some.injEq]at hk
   subst hk
   rw[Dz aa,vG aa,PN hm (Nat.le_refl _) aa]
   exact⟨rfl,h1,h2⟩
theorem dD.fq{row:List aN}{df:List (List Int)}{dU:List Sp}(h:dD row df dU):fq (row.map aN.fo) []=(0,df):=by
 have l1:=h.oK
 have key:∀d k,row.length-k=d->k<=row.length->Go.Proofs.YtgndjjdeopfdkaaGreat.fq ((row.drop k).map aN.fo) (df.take k)=(0,df):=by
  intro d
  induction d with
  |zero=>
   intro k hd hk
   rw[List.drop_of_length_le aa,List.take_of_length_le aa]
   rfl
  |succ d ih=>
   intro k hd hk
   have hlt:k<row.length:=by omega
   have hn:=h.node k row[k] (List.getElem?_eq_getElem hlt)
   rw[List.drop_eq_getElem_cons hlt,List.map_cons,iE hn.form hn.az hn.near]
   have:df.take k++[gD df k]=df.take (k+1):=by
    have hlt2:k<df.length:=by omega
    rw[List.take_succ_eq_append_getElem hlt2]
    unfold gD;rw[List.getD_eq_getElem?_getD,List.getElem?_eq_getElem hlt2];rfl
   rw[this]
   exact ih (k+1) aa aa
 simpa using key row.length 0 aa aa
theorem zK{p:aN}(ha:gL p k):jk p s df dU=rq (jw p.fo (au s).toNat (gD df p.a.toNat) (gS (dU.take k) p.a.toNat) (gS (dU.take k) p.b.toNat)):=by
 unfold jk
 by_cases h12:p.ai=1\/p.ai=2
 ·rw[vS (n:=p.fo) h12]
 ·have hA:=ha.a1 aa aa
  rw[C8 aa]
  by_cases h6:p.ai=6
  ·rw[C8 (ha.b1 h6)]
  ·rw[EK (n:=p.fo) h6]
theorem dD.iJ{row:List aN}{df:List (List Int)}{dU:List Sp}(h:dD row df dU):iJ df (row.map aN.fo) []=(0,dU):=by
 have l1:=h.oK
 have l2:=h.UT
 have key:∀d k,row.length-k=d->k<=row.length->Go.Proofs.YtgndjjdeopfdkaaGreat.iJ df ((row.drop k).map aN.fo) (dU.take k)=(0,dU):=by
  intro d
  induction d with
  |zero=>
   intro k hd hk
   rw[List.drop_of_length_le aa,List.take_of_length_le aa]
   rfl
  |succ d ih=>
   intro k hd hk
   have hlt:k<row.length:=by omega
   have hkk:row[k]? =some row[k]:=List.getElem?_eq_getElem hlt
   obtain⟨q1,q2,q3⟩:=h.span k row[k] hkk
   rw[List.drop_eq_getElem_cons hlt,List.map_cons]
   have e:rq (jm df row[k].fo (dU.take k))=gS dU k:=by
    rw[q1,zK (h.ahead hkk)]
    unfold jm
    rw[List.length_take,Nat.min_eq_left aa]
    rfl
   have e1:foldI min (jm df row[k].fo (dU.take k))=(gS dU k).1:=by rw[<-e];rfl
   have e2:foldI max (jm df row[k].fo (dU.take k))=(gS dU k).2:=by rw[<-e];rfl
   have:dU.take k++[((gS dU k).1,(gS dU k).2)]=dU.take (k+1):=by
    have hlt2:k<dU.length:=by omega
    rw[List.take_succ_eq_append_getElem hlt2]
    unfold gS;rw[List.getD_eq_getElem?_getD,List.getElem?_eq_getElem hlt2];rfl
   unfold Go.Proofs.YtgndjjdeopfdkaaGreat.iJ
   rw[e1,e2,if_neg aa,this]
   exact ih (k+1) aa aa
 simpa using key row.length 0 aa aa
theorem dD.check{row:List aN}{df:List (List Int)}{dU:List Sp}(h:dD row df dU)(D5:row.length<=24){g:bM}(hg:g.l.map ak.pl=row)(h0:0<=g.out)(h1:g.out<row.length):Go.Proofs.YtgndjjdeopfdkaaGreat.check g=(0,df):=by
 have hl:g.l.length=row.length:=by rw[<-hg];simp
 unfold Go.Proofs.YtgndjjdeopfdkaaGreat.check
 rw[if_neg aa,Ja (m:=row.map aN.fo) [] Ql]
 exact h.fq
theorem Tj{sh:List (List Int)}:∀{l m:List ak} {acc:List Sp},l.map ak.pl=m.map ak.pl->iJ sh l acc=iJ sh m acc
 |[],[],_,_=>rfl
 |[],_::_,_,h=>by simp at h
 |_::_,[],_,h=>by simp at h
 |x::l,y::m,acc,h=>by
  simp only[List.map_cons,List.cons.injEq]at h
  have e:jm sh x acc=jm sh y acc:=by
   have:∀z:ak,jm sh z acc=jm sh z.pl.fo acc:=λz=>rfl
   rw[this x,this y,h.1]
  unfold iJ
  rw[e]
  split
  ·rfl
  ·exact Tj h.2
theorem dD.spans{row:List aN}{df:List (List Int)}{dU:List Sp}(h:dD row df dU)(D5:row.length<=24){g:bM}(hg:g.l.map ak.pl=row)(h0:0<=g.out)(h1:g.out<row.length):cZ g=(0,dU):=by
 have hc:=h.check D5 hg h0 h1
 unfold cZ
 rw[hc,if_neg aI,Tj (m:=row.map aN.fo) Ql]
 exact h.iJ
variable {g:bM}
theorem CK(hsp:(cZ g).1=0):dD (g.l.map ak.pl) (check g).2 (cZ g).2:=by
 obtain⟨hck,hsl,hsi⟩:=jC hsp
 obtain⟨hl1,Ez,hout,hcl,hin⟩:=gK hck
 have ags:∀k p,(g.l.map ak.pl)[k]? =some p->∃n:ak,g.l[k]? =some n/\n.pl=p:=λk p hk=>by
  rw[List.getElem?_map]at hk
  cases hn:g.l[k]? with
  |none=>rw[hn]at hk;simp at hk
  |some n=>rw[hn]at hk;exact⟨n,hn,by simpa using hk⟩
 have hN:∀k p,(g.l.map ak.pl)[k]? =some p->jb p.fo ((check g).2.take k) (gD (check g).2 k):=λk p hk=>by
  obtain⟨n,hn,rfl⟩:=ags k p hk
  obtain⟨s,hs,h⟩:=hin k n hn
  have:gD (check g).2 k=s:=by unfold gD;rw[List.getD_eq_getElem?_getD,hs];rfl
  rw[this]
  exact⟨by rw[aiq];exact h.form,h.az,by rw[ahJ];exact h.near⟩
 refine⟨by rw[hcl,List.length_map],by rw[hsl,List.length_map],Qc hck,hN,λk p hk=> ?_⟩
 have hah:gL p k:=by
  have hf:=(hN k p hk).form
  obtain⟨n,hn,rfl⟩:=ags k p hk
  have:=(List.getElem?_eq_some_iff.1 hn).1
  rw[List.length_take,hcl,Nat.min_eq_left aa]at hf
  exact kE hf
 obtain⟨n,hn,rfl⟩:=ags k p hk
 obtain⟨s,hs,he,h1,h2⟩:=hsi k n hn
 have hkl:=(List.getElem?_eq_some_iff.1 hn).1
 have:gS (cZ g).2 k=s:=by unfold gS;rw[List.getD_eq_getElem?_getD,hs];rfl
 rw[this]
 refine⟨?_,h1,h2⟩
 rw[he,zK hah]
 unfold r9 jm
 rw[List.length_take,hsl,Nat.min_eq_left aa]
 rfl
end
section
variable {s:List Int}
theorem af4{p:aN}{sh:List (List Int)}(h:jb p.fo sh s)(h2:p.ai=2):s=p.az/\(p.data.length:Int)=au p.az/\0<au p.az/\∀x∈p.data,fJ x:=by
 obtain⟨_,_,_,_,hd⟩:=uG h.form
 have hs:=h.az
 unfold bP at hs
 have hk:p.fo.ai=2:=h2
 rw[if_pos (.inr hk),Option.some.injEq]at hs
 exact⟨hs.symm,hd h2,(dJ h.form).own (.inr (.inl hk)),(Gp h.near).1⟩
theorem xL{p:aN}(h2:p.ai=2)(s:List Int)(df:List (List Int))(dU:List Sp):jk p s df dU=rq p.data:=by
 unfold jk
 have hk:p.fo.ai=2:=h2
 have hl:¬eF p.fo:=by unfold eF;omega
 have e1:jw p.fo (au s).toNat (gD df p.a.toNat) (gS dU p.a.toNat) (gS dU p.b.toNat)=fA p.fo (gS dU p.a.toNat) (gS dU p.b.toNat):=if_neg hl
 rw[e1]
 unfold fA
 rw[if_neg aa,if_pos hk]
 rfl
variable {k:Nat}
theorem ZL{p:aN}{i:Nat}(h2:p.ai=2)(h:cz p.fo i=true):cz p.fo k=true:=by
 have:=y8 (k:=k) (a:=p.a) (b:=p.b) h (λ_ g=>absurd h2 g) (λ_=>rfl) (λg=>absurd (h2.symm.trans g) ay) (λ_=>rfl)
 exact this
theorem aah{p:aN}{sh sh':List (List Int)}(h:jb p.fo sh s)(h2:p.ai=2):jb p.fo sh' s:=by
 refine⟨ZL h2 h.form,?_,h.near⟩
 have hs:=h.az
 have hk:p.fo.ai=2:=h2
 unfold bP at hs|-
 rw[if_pos (.inr hk)]at hs|-
 exact hs
structure Std(sh:List (List Int))(sp:List Sp)(df:List (List Int))(dU:List Sp)(st:List Nat):Prop where
 lt:∀j,j<st.length->st.getD j 0<df.length
 sh:∀j,j<st.length->gD df (st.getD j 0)=gD sh j
 sp:∀j,j<st.length->tight (gS dU (st.getD j 0)) (gS sp j)
theorem lU(st:List Nat)(n:aN):(bu st n).fo=xW n.fo (bu st n).a (bu st n).b/\(bu st n).ai=n.ai/\(n.ai≠1->n.ai≠2->(bu st n).a=st.getD n.a.toNat 0)/\(n.ai=1\/n.ai=2->(bu st n).a=n.a)/\(n.ai=6->(bu st n).b=st.getD n.b.toNat 0)/\(n.ai≠6->(bu st n).b=n.b):=by
 unfold bu
 by_cases h12:n.ai=1\/n.ai=2
 ·rw[if_pos h12]
  exact⟨rfl,rfl,λh1 h2=>by omega,λ_=>rfl,λh=>by omega,λ_=>rfl⟩
 ·rw[if_neg h12]
  by_cases h6:n.ai=6
  ·rw[if_pos h6]
   exact⟨rfl,rfl,λ_ _=>rfl,λh=>absurd h h12,λ_=>rfl,λh=>absurd h6 h⟩
  ·rw[if_neg h6]
   exact⟨rfl,rfl,λ_ _=>rfl,λh=>absurd h h12,λh=>absurd h h6,λ_=>rfl⟩
section
variable {l:List aN} {sh:List (List Int)} {sp:List Sp} {row:List aN} {df:List (List Int)} {dU:List Sp} {st:List Nat} {n:aN}
theorem Qb(hL:dD l sh sp)(hR:dD row df dU)(hst:Std sh sp df dU st)(hn:l[st.length]? =some n):jb (bu st n).fo df (gD sh st.length)/\tight (jk (bu st n) (gD sh st.length) df dU) (gS sp st.length):=by
 obtain⟨e0,ek,ea,ea2,eb,eb2⟩:=lU st n
 have hni:=hL.node _ _ hn
 have hah:=hL.ahead hn
 have hti:=(hL.ajX hn).2
 have hf:=hni.form
 rw[hti]at hf
 have kk:n.fo.ai=n.ai:=rfl
 have ka:n.fo.a=n.a:=rfl
 have kb:n.fo.b=n.b:=rfl
 have hA:n.ai≠1->n.ai≠2->(bu st n).a.toNat=st.getD n.a.toNat 0:=λh1 h2=>by rw[ea h1 h2];omega
 have hB:n.ai=6->(bu st n).b.toNat=st.getD n.b.toNat 0:=λh=>by rw[eb h];omega
 refine⟨⟨?_,?_,?_⟩,?_⟩
 ·rw[e0]
  refine y8 hf (λh1 h2=> ?_) (λh=> ?_) (λh=> ?_) (λh=> ?_)
  ·have:=hst.lt _ (hah.a1 h1 h2)
   rw[ea h1 h2];omega
  ·exact ea2 h
  ·have:=hst.lt _ (hah.b1 h)
   rw[eb h];omega
  ·exact eb2 h
 ·rw[e0,wQ (sh:=sh.take st.length) (λh1 h2=> ?_) (λh=> ?_)]
  ·exact hni.az
  ·show gD df (bu st n).a.toNat=gD (sh.take st.length) n.a.toNat
   rw[hA h1 h2,hst.sh _ (hah.a1 h1 h2),qU (hah.a1 h1 h2)]
  ·show gD df (bu st n).b.toNat=gD (sh.take st.length) n.b.toNat
   rw[hB h,hst.sh _ (hah.b1 h),qU (hah.b1 h)]
 ·rw[e0,Da];exact hni.near
 ·obtain⟨q1,q2,q3⟩:=hL.span _ _ hn
  rw[q1,zK hah]
  unfold jk
  rw[e0,Sv]
  by_cases h12:n.ai=1\/n.ai=2
  ·rw[vS (n:=n.fo) h12 _ (au (gD sh st.length)).toNat _ (gD sh n.a.toNat) _ _ (gS (sp.take st.length) n.a.toNat) (gS (sp.take st.length) n.b.toNat)]
   exact Pb _
  ·have ha1:=hah.a1 aa aa
   have hp:=hL.place hn
   rw[qU ha1]at hp
   rw[hA aa aa,hst.sh _ ha1,C8 ha1]
   have lo:∀j,j<st.length->(gS dU (st.getD j 0)).1<=(gS dU (st.getD j 0)).2:=λj hj=>by
    have hk:=hst.lt j hj
    rw[hR.oK]at hk
    have hk':=List.getElem?_eq_getElem hk
    rw[(hR.span _ _ hk').1]
    unfold jk
    by_cases g12:(row[st.getD j 0]).ai=1\/(row[st.getD j 0]).ai=2
    ·rw[vS (n:=(row[st.getD j 0]).fo) g12 _ _ _ _ _ _ (0,0) (0,0)]
     exact Gy (hR.place hk') (0,0) (0,0)
    ·have:=(hR.ahead hk').a1 aa aa
     have hp2:=hR.place hk'
     rw[qU this]at hp2
     exact Gy hp2 _ _
   refine MF hp (λh1 h2=>⟨hst.sp _ ha1,lo _ ha1⟩) (λh6=> ?_)
   have h6':n.ai=6:=h6
   have hb1:=hah.b1 h6'
   rw[hB h6',C8 hb1]
   exact⟨hst.sp _ hb1,lo _ hb1⟩
theorem getD_some{row:List aN}(h:k<row.length):row[k]? =some (row.getD k dh):=by
 rw[List.getD_eq_getElem?_getD,List.getElem?_eq_getElem h];rfl
structure Ma(row:List aN)(df:List (List Int))(dU:List Sp)(m:aN)(s:List Int):Prop where
 ai:m.ai≠1/\m.ai≠2
 NZ:m.a.toNat<row.length
 aK:(row.getD m.a.toNat dh).ai=2
 aSh:gD df m.a.toNat=(row.getD m.a.toNat dh).az
 Yh:((row.getD m.a.toNat dh).data.length:Int)=au (row.getD m.a.toNat dh).az
 aSp:gS dU m.a.toNat=rq (row.getD m.a.toNat dh).data
 bLt:m.ai=6->m.b.toNat<row.length
 bK:m.ai=6->(row.getD m.b.toNat dh).ai=2
 bSh:m.ai=6->gD df m.b.toNat=(row.getD m.b.toNat dh).az
 ae5:m.ai=6->((row.getD m.b.toNat dh).data.length:Int)=au (row.getD m.b.toNat dh).az
 bSp:m.ai=6->gS dU m.b.toNat=rq (row.getD m.b.toNat dh).data
theorem M_(hR:dD row df dU)(hk:k<row.length)(h2:(row.getD k dh).ai=2):gD df k=(row.getD k dh).az/\((row.getD k dh).data.length:Int)=au (row.getD k dh).az/\gS dU k=rq (row.getD k dh).data/\(∀x∈(row.getD k dh).data,fJ x)/\0<au (row.getD k dh).az:=by
 have hk':=getD_some hk
 obtain⟨q1,q2,q3,q4⟩:=af4 (hR.node k _ hk') h2
 obtain⟨p1,_,_⟩:=hR.span k _ hk'
 rw[xL h2]at p1
 exact⟨q1,q2,p1,q4,q3⟩
variable {m:aN}
theorem BV(hR:dD row df dU)(hm:jb m.fo df s)(hk:jO row m=true):Ma row df dU m s:=by
 have hah:=kE hm.form
 rw[hR.oK]at hah
 unfold jO AL at hk
 simp only[Bool.and_eq_true,Bool.not_eq_true',decide_eq_false_iff_not,decide_eq_true_eq,Bool.or_eq_true]at hk
 obtain⟨⟨h12,hA⟩,hB⟩:=hk
 have a1:=hah.a1 aa aa
 obtain⟨c1,c2,c3,_⟩:=M_ hR a1 hA
 refine⟨by omega,a1,hA,c1,c2,c3,hah.b1,λh=> ?_,λh=> ?_,λh=> ?_,λh=> ?_⟩
 ·exact hB.resolve_left (λg=>g h)
 all_goals
  obtain⟨c1,c2,c3,_⟩:=M_ hR (hah.b1 h) (hB.resolve_left (λg=>g h))
  assumption
def X6(row:List aN)(m:aN):List Int:=if m.ai=6 then(row.getD m.b.toNat dh).data else []
theorem Lc{l:List Int}:within (rq l) l:=λx hx=>⟨kI hx,kK hx⟩
theorem aeZ(hR:dD row df dU)(h:Ma row df dU m s):NumIn m.fo df (row.getD m.a.toNat dh).data (X6 row m):=
 ⟨λ_ _=>by show _=au (gD df m.a.toNat);rw[h.aSh];exact h.Yh,λh6=>by
  have h6':m.ai=6:=h6
  show _=au (gD df m.b.toNat)
  unfold X6
  rw[if_pos h6',h.bSh h6'];exact h.ae5 h6'⟩
theorem tF{n:ak}(h:n.ai≠6)(cnt:Nat)(t a b b':List Int):gH n cnt t a b=gH n cnt t a b':=by
 unfold gH
 split
 ·rfl
 ·unfold o5 gu
  simp only[if_neg h]
theorem Qf(hR:dD row df dU)(hm:jb m.fo df s)(h:Ma row df dU m s):within (jk m s df dU) (lm s row m)/\(lm s row m).length=(au s).toNat:=by
 have hp:=V4 hm hR.pos
 have hA:within (gS dU m.a.toNat) (row.getD m.a.toNat dh).data:=by rw[h.aSp];exact Lc
 have hB:within (gS dU m.b.toNat) (X6 row m):=by
  unfold X6
  by_cases h6:m.ai=6
  ·rw[if_pos h6,h.bSp h6];exact Lc
  ·rw[if_neg h6];exactλx hx=>by simp at hx
 have:=Ul (t:=⟨none,0,gD df m.a.toNat⟩) hp h.ai.1 (aeZ hR h) hA hB
 have e:lm s row m=gH m.fo (au s).toNat (gD df m.a.toNat) (row.getD m.a.toNat dh).data (X6 row m):=by rw[h.aSh];rfl
 rw[e]
 exact this
theorem ad2{d:List Int}{sh:List (List Int)}(hs:0<au s)(hd:(d.length:Int)=au s)(hb:∀x∈d,fJ x):jb (aN.fo ⟨2,0,0,s,0,0,0,d,[]⟩) sh s:=by
 refine⟨?_,?_,?_⟩
 ·unfold cz
  have e1:(aN.fo ⟨2,0,0,s,0,0,0,d,[]⟩).ai=2:=rfl
  rw[e1,if_neg ay,if_pos ay]
  simp only[gW,aN.fo]
  simp[hs,hd]
 ·unfold bP;rw[if_pos (.inr rfl)];rfl
 ·unfold gP nR
  simp only[aN.fo,Bool.and_eq_true,List.all_eq_true,decide_eq_true_eq]
  exact⟨⟨⟨hb,λx hx=>by simp at hx⟩,λx hx=>by simp at hx;subst hx;omega⟩,rfl⟩
theorem TP(hL:dD l sh sp)(hR:dD row df dU)(hst:Std sh sp df dU st)(hn:l[st.length]? =some n):jb (kg (gD sh st.length) row (bu st n)).fo df (gD sh st.length)/\tight (jk (kg (gD sh st.length) row (bu st n)) (gD sh st.length) df dU) (gS sp st.length):=by
 obtain⟨hm,ht⟩:=Qb hL hR hst hn
 unfold kg
 by_cases hk:jO row (bu st n)=true
 ·rw[if_pos hk]
  obtain⟨w1,w2⟩:=Qf hR hm (BV hR hm hk)
  have ad5:=(hL.span _ _ hn).2
  have hpos:=jG (dJ hm.form) hR.pos hm.az rfl
  have hne:1<=(lm (gD sh st.length) row (bu st n)).length:=by rw[w2];omega
  refine⟨ad2 hpos (by rw[w2];omega) (λx hx=> ?_),?_⟩
  ·have:=w1 x hx
   unfold tight at ht
   unfold fJ;omega
  ·rw[xL rfl]
   refine VY ?_ ht
   exact⟨(w1 _ (Er hne)).1,(w1 _ (Ei hne)).2⟩
 ·rw[if_neg hk];exact⟨hm,ht⟩
theorem Oh(hR:dD row df dU){p:aN}(hk:row[k]? =some p)(hm:jb p.fo df s):gD df k=s/\gS dU k=jk p s df dU:=by
 have hah:=hR.ahead hk
 have hn:=hR.node k p hk
 have e:bP p.fo (df.take k)=bP p.fo df:=by
  have:=wQ (n:=p.fo) (sh:=df) (sh':=df.take k) (a:=p.a) (b:=p.b) (λh1 h2=>qU (hah.a1 h1 h2)) (λh6=>qU (hah.b1 h6))
  exact this
 have h1:=hn.az
 rw[e,hm.az,Option.some.injEq]at h1
 refine⟨h1.symm,?_⟩
 rw[(hR.span k p hk).1,h1]
theorem step_ok(hL:dD l sh sp)(hR:dD row df dU)(hst:Std sh sp df dU st)(hn:l[st.length]? =some n):∃uD uL,dD (o8 (gD sh st.length) (row,st) n).1 uD uL/\Std sh sp uD uL (o8 (gD sh st.length) (row,st) n).2:=by
 obtain⟨hm,ht⟩:=TP hL hR hst hn
 have ad5:=(hL.span _ _ hn).2
 unfold o8 Bt
 simp only
 generalize kg (gD sh st.length) row (bu st n)=m at*
 cases hf:rU row m with
 |some k=>
  simp only
  obtain⟨hk1,hk⟩:=zI hf
  have hkl:=(List.getElem?_eq_some_iff.1 hk).1
  obtain⟨q1,q2⟩:=Oh hR hk hm
  refine⟨df,dU,hR,λj hj=> ?_,λj hj=> ?_,λj hj=> ?_⟩
  all_goals rw[List.length_append,List.length_singleton]at hj
  all_goals
   rcases Nat.lt_or_ge j st.length with hlt|hge
   ·rw[show(st++[k]).getD j 0=st.getD j 0 by rw[List.getD_eq_getElem?_getD,List.getD_eq_getElem?_getD,List.getElem?_append_left hlt]]
    first|exact hst.lt j hlt|exact hst.sh j hlt|exact hst.sp j hlt
   ·obtain rfl:j=st.length:=by omega
    rw[show(st++[k]).getD st.length 0=k by rw[List.getD_eq_getElem?_getD,List.getElem?_append_right (Nat.le_refl _),Nat.sub_self];rfl]
    first|(rw[hR.oK];exact hkl)|exact q1|(rw[q2];exact ht)
 |none=>
  simp only
  have hR':=hR.snoc hm kP kP
  have l1:=hR.oK
  have l2:=hR.UT
  refine⟨_,_,hR',λj hj=> ?_,λj hj=> ?_,λj hj=> ?_⟩
  all_goals rw[List.length_append,List.length_singleton]at hj
  all_goals
   rcases Nat.lt_or_ge j st.length with hlt|hge
   ·have hlt2:=hst.lt j hlt
    rw[show(st++[row.length]).getD j 0=st.getD j 0 by rw[List.getD_eq_getElem?_getD,List.getD_eq_getElem?_getD,List.getElem?_append_left hlt]]
    first|(rw[List.length_append];omega)|(rw[tX aa];exact hst.sh j hlt)|(rw[zU aa];exact hst.sp j hlt)
   ·obtain rfl:j=st.length:=by omega
    rw[show(st++[row.length]).getD st.length 0=row.length by rw[List.getD_eq_getElem?_getD,List.getElem?_append_right (Nat.le_refl _),Nat.sub_self];rfl]
    first|(rw[List.length_append,List.length_singleton];omega)|(rw[vG aa])|(rw[Dz aa];exact ht)
theorem ag4(s:List Int)(x:List aN×List Nat)(n:aN):(o8 s x n).2.length=x.2.length+1/\(o8 s x n).1.length<=x.1.length+1/\x.1.length<=(o8 s x n).1.length:=by
 unfold o8 Bt
 refine⟨by simp,?_,?_⟩<;>split<;>simp
end
end
section
def VX(row:List aN)(m:aN):List aN:=
 if m.ai=6 then [row.getD m.a.toNat dh,row.getD m.b.toNat dh,⟨m.ai,0,1,m.az,m.lo,m.hi,m.size,m.data,m.aQ⟩]
 else [row.getD m.a.toNat dh,⟨m.ai,0,m.b,m.az,m.lo,m.hi,m.size,m.data,m.aQ⟩]
def Hw(m:aN):Int:=if m.ai=6 then 2 else 1
theorem aaL{l:List Int}{c:Nat}(hc:l.length=c):((List.range c).map λo=>l.getD o 0)=l:=by
 subst hc
 apply List.ext_getElem
 ·simp
 ·intro i h1 h2
  simp only[List.getElem_map,List.getElem_range]
  rw[List.getD_eq_getElem?_getD,List.getElem?_eq_getElem h2];rfl
theorem wK{p:aN}{sh known:List (List Int)}(h2:p.ai=2)(hd:(p.data.length:Int)=au p.az)(hs:sh.getD known.length []=p.az):gy sh p.fo known=p.data:=by
 have hk:p.fo.ai=2:=h2
 have hl:¬eF p.fo:=by unfold eF;omega
 unfold gy
 rw[hs]
 have e1:gH p.fo (au p.az).toNat (sh.getD p.fo.a.toNat []) (known.getD p.fo.a.toNat []) (known.getD p.fo.b.toNat [])=o5 p.fo (au p.az).toNat (known.getD p.fo.a.toNat []) (known.getD p.fo.b.toNat []):=if_neg hl
 rw[e1]
 have e2:gu p.fo (known.getD p.fo.a.toNat []) (known.getD p.fo.b.toNat [])=λo=>p.data.getD o 0:=by
  funext o
  unfold gu
  rw[if_pos hk];rfl
 unfold o5
 rw[e2]
 exact aaL aa
theorem Gr{sh:List (List Int)}:∀{l m:List ak} {known inp:List (List Int)},l.map ak.pl=m.map ak.pl->d9 sh l known inp=d9 sh m known inp
 |[],[],_,_,_=>rfl
 |[],_::_,_,_,h=>by simp at h
 |_::_,[],_,_,h=>by simp at h
 |x::l,y::m,known,inp,h=>by
  simp only[List.map_cons,List.cons.injEq]at h
  have e:gy sh x known=gy sh y known:=by
   have:∀z:ak,gy sh z known=gy sh z.pl.fo known:=λz=>rfl
   rw[this x,this y,h.1]
  have ek:x.ai=y.ai:=congrArg aN.ai h.1
  have el:x.lo=y.lo:=congrArg aN.lo h.1
  have eh:x.hi=y.hi:=congrArg aN.hi h.1
  unfold d9
  rw[e,ek,el,eh,Gr h.2]
  cases inp with
  |nil=>rfl
  |cons z zs=>simp only[Gr h.2]
theorem ab_(row:List aN):(row.map aN.fo).map ak.pl=row:=by rw[List.map_map];exact List.map_id row
section
variable {row:List aN} {df:List (List Int)} {dU:List Sp}
theorem Td(hR:dD row df dU){k:Nat}(hk:k<row.length)(h2:(row.getD k dh).ai=2){r:List aN}{sh:List (List Int)}{sp:List Sp}(h:dD r sh sp):dD (r++[row.getD k dh]) (sh++[gD df k]) (sp++[gS dU k]):=by
 have hk':=getD_some hk
 obtain⟨q1,q2,q3⟩:=hR.span k _ hk'
 have e:jk (row.getD k dh) (gD df k) sh sp=gS dU k:=by rw[q1,xL h2,xL h2]
 have:=h.snoc (aah (sh':=sh) (hR.node k _ hk') h2) (by rw[e];exact q2) (by rw[e];exact q3)
 rw[e]at this
 exact this
theorem abp(hR:dD row df dU){m:aN}{s:List Int}(hm:jb m.fo df s)(hk:Ma row df dU m s)(h1: -1048576<=(jk m s df dU).1)(h2:(jk m s df dU).2<=1048576){g:bM}(hg:g.l.map ak.pl=VX row m)(ho:g.out=Hw m):
 (check g).1=0/\gD (check g).2 g.out.toNat=s/\Je g []=(0,lm s row m):=by
 have hah:=kE hm.form
 have R1:=Td hR hk.NZ hk.aK dD.nil
 by_cases h6:m.ai=6
 ·have R2:=Td hR (hk.bLt h6) (hk.bK h6) R1
  have hn:jb (xW m.fo 0 1) (([]++[gD df m.a.toNat])++[gD df m.b.toNat]) s:=by
   refine⟨y8 (i:=df.length) hm.form (λ_ _=>⟨Int.le_refl _,by simp⟩) (λh=>absurd h (by show¬(m.ai=1\/m.ai=2);omega)) (λ_=>⟨by decide,by simp⟩) (λh=>absurd h6 h),?_,?_⟩
   ·exact(wQ (n:=m.fo) (sh:=df) (a:=0) (b:=1) (λ_ _=>rfl) (λ_=>rfl)).trans hm.az
   ·rw[Da];exact hm.near
  have e:jk ⟨m.ai,0,1,m.az,m.lo,m.hi,m.size,m.data,m.aQ⟩ s (([]++[gD df m.a.toNat])++[gD df m.b.toNat]) (([]++[gS dU m.a.toNat])++[gS dU m.b.toNat])=jk m s df dU:=rfl
  have R3:=R2.snoc (m:=⟨m.ai,0,1,m.az,m.lo,m.hi,m.size,m.data,m.aQ⟩) hn (by rw[e];exact h1) (by rw[e];exact h2)
  unfold VX at hg
  unfold Hw at ho
  rw[if_pos h6]at hg ho
  have hc:=R3.check aI hg aa Aj
  have hs:=R3.spans aI hg aa Aj
  rw[hc,ho]
  refine⟨rfl,rfl,?_⟩
  have hv:pE g []=(0,[(row.getD m.a.toNat dh).data,(row.getD m.b.toNat dh).data,lm s row m]):=by
   unfold pE
   rw[hc]
   simp only
   rw[Gr (m:=List.map aN.fo _) (hg.trans (ab_ _).symm)]
   simp only[List.map_cons,List.map_nil]
   have kA:(row.getD m.a.toNat dh).fo.ai≠1:=by show(row.getD m.a.toNat dh).ai≠1;rw[hk.aK];decide
   have kB:(row.getD m.b.toNat dh).fo.ai≠1:=by show(row.getD m.b.toNat dh).ai≠1;rw[hk.bK h6];decide
   have kM:(aN.fo ⟨m.ai,0,1,m.az,m.lo,m.hi,m.size,m.data,m.aQ⟩).ai≠1:=hk.ai.1
   unfold d9
   rw[if_pos kA,wK hk.aK hk.Yh (by rw[<-hk.aSh];rfl)]
   unfold d9
   rw[if_pos kB,wK (hk.bK h6) (hk.ae5 h6) (by rw[<-hk.bSh h6];rfl)]
   unfold d9
   rw[if_pos kM]
   have eN:gy (([]++[gD df m.a.toNat])++[gD df m.b.toNat]++[s]) (aN.fo ⟨m.ai,0,1,m.az,m.lo,m.hi,m.size,m.data,m.aQ⟩) ([]++[(row.getD m.a.toNat dh).data]++[(row.getD m.b.toNat dh).data])=lm s row m:=by
    unfold lm
    rw[if_pos h6,<-hk.aSh]
    rfl
   rw[eN]
   unfold d9
   rw[if_neg aI]
   rfl
  unfold Je
  rw[hs,hv,ho]
  rfl
 ·have hn:jb (xW m.fo 0 m.b) ([]++[gD df m.a.toNat]) s:=by
   refine⟨y8 (i:=df.length) hm.form (λ_ _=>⟨Int.le_refl _,by simp⟩) (λh=>absurd h (by show¬(m.ai=1\/m.ai=2);have:=hk.ai;omega)) (λh=>absurd h h6) (λ_=>rfl),?_,?_⟩
   ·exact(wQ (n:=m.fo) (sh:=df) (a:=0) (b:=m.b) (λ_ _=>rfl) (λh=>absurd h h6)).trans hm.az
   ·rw[Da];exact hm.near
  have e:jk ⟨m.ai,0,m.b,m.az,m.lo,m.hi,m.size,m.data,m.aQ⟩ s ([]++[gD df m.a.toNat]) ([]++[gS dU m.a.toNat])=jk m s df dU:=by
   unfold jk
   exact congrArg rq (EK (n:=m.fo) h6 _ _ _ _ _)
  have R3:=R1.snoc (m:=⟨m.ai,0,m.b,m.az,m.lo,m.hi,m.size,m.data,m.aQ⟩) hn (by rw[e];exact h1) (by rw[e];exact h2)
  unfold VX at hg
  unfold Hw at ho
  rw[if_neg h6]at hg ho
  have hc:=R3.check aI hg aa Aj
  have hs:=R3.spans aI hg aa Aj
  rw[hc,ho]
  refine⟨rfl,rfl,?_⟩
  have hv:pE g []=(0,[(row.getD m.a.toNat dh).data,lm s row m]):=by
   unfold pE
   rw[hc]
   simp only
   rw[Gr (m:=List.map aN.fo _) (hg.trans (ab_ _).symm)]
   simp only[List.map_cons,List.map_nil]
   have kA:(row.getD m.a.toNat dh).fo.ai≠1:=by show(row.getD m.a.toNat dh).ai≠1;rw[hk.aK];decide
   have kM:(aN.fo ⟨m.ai,0,m.b,m.az,m.lo,m.hi,m.size,m.data,m.aQ⟩).ai≠1:=hk.ai.1
   unfold d9
   rw[if_pos kA,wK hk.aK hk.Yh (by rw[<-hk.aSh];rfl)]
   unfold d9
   rw[if_pos kM]
   have eN:gy (([]++[gD df m.a.toNat])++[s]) (aN.fo ⟨m.ai,0,m.b,m.az,m.lo,m.hi,m.size,m.data,m.aQ⟩) ([]++[(row.getD m.a.toNat dh).data])=lm s row m:=by
    unfold lm
    rw[<-hk.aSh]
    exact tF (n:=m.fo) h6 _ _ _ _ _
   rw[eN]
   unfold d9
   rw[if_neg aI]
   rfl
  unfold Je
  rw[hs,hv,ho]
  rfl
end
end
section
abbrev alE:DT:=(bS [0,1,2,3,4,5,6,7,8,109] .done)
abbrev alW:DT:=(bS [0,1,2,3,8,9,10,11] (.alt 4 (.alt 5 (bS [6,7,112,113,14,15,116,117,118,119] .done) (.one 12 (.alt 5 (bS [6,7,113,14,15,116,117,118,119] .done) (bS [113,14,15,105,6,7,116,117,118,119] .done)))) (.one 12 (.alt 4 (.alt 5 (bS [6,7,113,14,15,116,117,118,119] .done) (bS [113,14,15,105,6,7,116,117,118,119] .done)) (bS [113,14,15,104,105,6,7,116,117,118,119] .done)))))
structure om(w:World)(b:Nat)(nb:Option Addr)(nc:Nat)(kept:List ak)(sb:Option Addr)(sc:Nat)(st:List Int):Prop where
 c0:w.cell? ⟨b,0,none⟩=some (.slice nb kept.length nc)
 c2:w.cell? ⟨b,2,none⟩=some (.slice sb st.length sc)
 nodes:bE w nb 9 (bO kept)
 st:bE w sb 1 (aZ st)
theorem om.later{w w':World}{R:Nat->Prop}{b:Nat}{nb:Option Addr}{nc:Nat}{kept:List ak}{sb:Option Addr}{sc:Nat}{st:List Int}(h:om w b nb nc kept sb sc st)(hb:(aU w).holds R w'):om w' b nb nc kept sb sc st:=
 ⟨by rw[jE (hb _ (iA h.c0)).2];exact h.c0,by rw[jE (hb _ (iA h.c2)).2];exact h.c2,aH hb h.nodes,aH hb h.st⟩
theorem A9{a:Addr}{S:bR}{K:SV->Prop}{v:Value}(h:∀R w,S.holds R w->w.cell? a=some v)(hK:K (.c v)):gZ a S K:=by rw[Io];exact⟨v,h,hK⟩
def xU(st:List Nat):List Int:=st.map Int.ofNat
theorem Ih{st:List Nat}{k:Nat}(h:k<st.length):(aZ (xU st))[k]? =some [.int .i64 (st.getD k 0)]:=by
 rw[eO (by unfold xU;simpa using h)]
 unfold xU
 rw[List.getD_eq_getElem?_getD,List.getElem?_eq_getElem h]
 simp
def dR(st:List Nat)(n:ak):ak:=xW n (bu st n.pl).a (bu st n.pl).b
theorem Tt(st:List Nat)(n:ak):(dR st n).pl=bu st n.pl:=by
 unfold dR bu
 split
 ·rfl
 ·split<;>rfl
section
variable {w:World} {b:Nat} {nb sb:Option Addr} {nc sc:Nat} {kept:List ak} {st:List Nat}
theorem RD(hd:om w b nb nc kept sb sc (xU st))(n:ak)(hn:gL n.pl st.length)(hf:st.length<=1000000):Calls Tryz.prog 54 #[.pointer (some ⟨b,0,none⟩),n.p9] w λe w'=>e= .returned (dR st n).p9/\Ext w w':=by
 have hkk:=hn.ai
 have kk:n.pl.ai=n.ai:=rfl
 have ka:n.pl.a=n.a:=rfl
 have kb:n.pl.b=n.b:=rfl
 have ha0:=hn.a0
 have hb0:=hn.b0
 rw[kk]at hkk
 have hsl:(xU st).length=st.length:=by unfold xU;simp
 by_cases h12:n.ai=1\/n.ai=2
 ·have e:dR st n=n:=by unfold dR bu;rw[if_pos (show n.pl.ai=1\/n.pl.ai=2 from h12)];rfl
  rw[e]
  refine fH Tryz.func54 [.c (.pointer (some ⟨b,0,none⟩)),.agg (vo n)] ?_
  repeat' ((conv=>whnf)<;>first|refine a_ ?_|refine ag ?_ ?_<;>intro _)
  all_goals(conv=>whnf)
  all_goals exact bZ (λ_ _ h=>h) (λ_=>rfl) rfl
 ·have a1:=hn.a1 aa aa
  obtain⟨sa,hsa⟩:∃a,sb=some a:=aT (j:=0) hd.st dS
  by_cases h6:n.ai=6
  ·have b1:=hn.b1 h6
   have e:dR st n=xW n (st.getD n.a.toNat 0) (st.getD n.b.toNat 0):=by unfold dR bu;rw[if_neg (show¬(n.pl.ai=1\/n.pl.ai=2)from h12),if_pos (show n.pl.ai=6 from h6)];rfl
   rw[e]
   refine fH Tryz.func54 [.c (.pointer (some ⟨b,0,none⟩)),.agg (vo n)] ?_
   repeat' ((conv=>whnf)<;>first|(show cO _ 6 ..;refine mV [] [] alW ?_ (h6:=List.nil_sublist _))|(show mW ..;refine ed (List.nil_sublist _) (λ_ _ h=>h) ?_)|refine tJ ?_|(show dn ..;(first|refine aM sa n.a.toNat hsa aa aa ?_|refine aM sa n.b.toNat hsa aa aa ?_))|(show gZ ..;(first|refine bN (λR w' h=>by rw[<-hsa];exact aH h hd.st) _ _ (Ih a1) rfl ?_|refine bN (λR w' h=>by rw[<-hsa];exact aH h hd.st) _ _ (Ih b1) rfl ?_))|refine a_ ?_|refine ag ?_ ?_<;>intro _|refine And.intro ?_ ?_)
   all_goals(conv=>whnf)
   all_goals exact bZ (λ_ _ h=>h) (λ_=>rfl) rfl
  ·have e:dR st n=xW n (st.getD n.a.toNat 0) n.b:=by unfold dR bu;rw[if_neg (show¬(n.pl.ai=1\/n.pl.ai=2)from h12),if_neg (show¬n.pl.ai=6 from h6)];rfl
   rw[e]
   refine fH Tryz.func54 [.c (.pointer (some ⟨b,0,none⟩)),.agg (vo n)] ?_
   repeat' ((conv=>whnf)<;>first|refine tJ ?_|(show dn ..;refine aM sa n.a.toNat hsa aa aa ?_)|(show gZ ..;(refine bN (λR w' h=>by rw[<-hsa];exact aH h hd.st) _ _ (Ih a1) rfl ?_))|(show cO _ 2 ..;refine mV [9] _ alE ?_)|refine a_ ?_|refine ag ?_ ?_<;>intro _)
   all_goals(conv=>whnf)
   all_goals exact bZ (λ_ _ h=>h) (λ_=>rfl) rfl
end
end
def inN(u:ax)(lo hi:Int):ak:=⟨1,0,0,u,lo,hi,0,cK,cK⟩
def an5(v:ax):ak:=⟨8,0,0,cK,0,0,0,v,cK⟩
def g2(nb:Option Addr)(nc:Nat)(u v:ax)(lo hi:Int):bM:=⟨nb,nc,[inN u lo hi,an5 v],1⟩
theorem abQ{l:List Int}(h:∀x∈l,fJ x):nR l=true:=List.all_eq_true.2 λx hx=>by have:=h x hx;unfold fJ at this;simpa using this
theorem agH:Tryz.prog.cellsOf 58=2:=by kernel_rfl
theorem agx:Tryz.prog.cellsOf 3=1:=by kernel_rfl
theorem EN{x:Int}(h:i64 x):(Lit.int .i64 x).wf=true:=by
 simp[Lit.wf,IntKind.min,IntKind.max,IntKind.signed,IntKind.bits]
 exact⟨h.1,by have:=h.2;omega⟩
def Kw(s:Sp):List Lit:=[.int .i64 s.1,.int .i64 s.2]
theorem abh(s:Sp)(h1:i64 s.1)(h2:i64 s.2):Tryz.prog.keyLits 2 58 [.int .i64 s.1,.int .i64 s.2]=some (Kw s):=by
 simp[Program.keyLits,Tryz.underlying58,agH,List.mapM_cons,Tryz.underlying3,agx,EN h1,EN h2]
 rfl
theorem acX{s t:Sp}(h1:i64 s.1)(h2:i64 s.2)(h3:i64 t.1)(h4:i64 t.2){ox oy:Operand}{K:SV->Prop}(hy:s=t->K (.c (.bool true)))(hn:s≠t->K (.c (.bool false))):mi Tryz.prog (do eqGuard .eql 58 ox oy (o7 s) (o7 t);binOp .eql 58 (o7 s) (o7 t)) K:=by
 have hK:K (.c (.bool (decide (s=t)))):=by
  by_cases h:s=t
  ·rw[decide_eq_true h];exact hy h
  ·rw[decide_eq_false h];exact hn h
 rw[yR]
 refine⟨_,λw=> ?_,hK⟩
 have g1:(eqGuard .eql 58 ox oy (o7 s) (o7 t)).run Tryz.prog w= .ok () w:=by
  have:Tryz.prog.eqGuardType Tryz.prog.depth 58=false:=by kernel_rfl
  simp[eqGuard,o7,this]
 obtain⟨r,q2,q3⟩:=run_equalIn_deep (P:=Tryz.prog) 9998 2 58 bg w 2 2 (o7 s) (o7 t) (Kw s) (Kw t) OO OO (abh s h1 h2) (abh t h3 h4)
 have hr:r=decide (s=t):=by
  have e:Kw s=Kw t↔s=t:=by
   obtain⟨a,b⟩:=s
   obtain⟨c,d⟩:=t
   simp[Kw]
  rw[e]at q3
  cases r with
  |true=>exact(decide_eq_true (q3.1 rfl)).symm
  |false=>exact(decide_eq_false (λh=>by have:=q3.2 h;cases this)).symm
 subst hr
 have h5:(Op.equal 58 (o7 s) (o7 t)).run Tryz.prog w= .ok (decide (s=t)) w:=q2
 simp only[Sem.run_bind,g1,Result.andThen_ok]
 simp[o7,binOp]at h5|-
 rw[h5];rfl
theorem HV(w:World)(n:ak):Calls Tryz.prog 147 #[n.p9] w λe w'=>e= .returned (o7 (n.lo,n.hi))/\Ext w w':=by
 refine fH Tryz.func147 [.agg (vo n)] ?_
 repeat' ((conv=>whnf)<;>first|refine a_ ?_)
 all_goals(conv=>whnf)
 all_goals exact bZ (λ_ _ h=>h) (λ_=>rfl) rfl
theorem adD(w:World)(m n:ak)(hm:m.ok w)(hn:n.ok w):Calls Tryz.prog 113 #[m.p9,n.p9] w λe w'=>e= .returned (.bool (G8 m.pl n.pl))/\Ext w w':=by
 refine fH Tryz.func113 [.agg [aC m.ai,aC m.a,aC m.b,.c m.az.val,aC m.lo,aC m.hi,aC m.size,.c m.data.val,.c m.aQ.val],.agg (vo n)] ?_
 repeat' ((conv=>whnf)<;>first|(show jQ _ 147 [.agg [aC m.ai,aC m.a,aC m.b,.c m.az.val,aC m.lo,aC m.hi,aC m.size,.c m.data.val,.c m.aQ.val]] ..;refine jo (f:=147) Tryz.call147 (o7 (m.lo,m.hi)) (λρ w' hw=>HV w' m) ?_)|(show jQ _ 147 [.agg (vo n)] ..;refine jo (f:=147) Tryz.call147 (o7 (n.lo,n.hi)) (λρ w' hw=>HV w' n) ?_)|(show mi ..;((refine acX (s:=(m.lo,m.hi)) (t:=(n.lo,n.hi)) hm.nk hm.ng hn.nk hn.ng ?_ ?_<;>intro _)))|(show jQ _ 62 [.c m.az.val,.c n.az.val] ..;((refine sS (f:=62) Tryz.call62 (decide (m.az.xs=n.az.xs)) (λρ w' hw=>tK w' m.az n.az (ae hw λR h=>hm.az.later h) (ae hw λR h=>hn.az.later h)) ?_ ?_<;>intro _)))|(show jQ _ 62 [.c m.data.val,.c n.data.val] ..;((refine sS (f:=62) Tryz.call62 (decide (m.data.xs=n.data.xs)) (λρ w' hw=>tK w' m.data n.data (ae hw λR h=>hm.data.later h) (ae hw λR h=>hn.data.later h)) ?_ ?_<;>intro _)))|(show jQ _ 62 [.c m.aQ.val,.c n.aQ.val] ..;((refine sS (f:=62) Tryz.call62 (decide (m.aQ.xs=n.aQ.xs)) (λρ w' hw=>tK w' m.aQ n.aQ (ae hw λR h=>hm.aQ.later h) (ae hw λR h=>hn.aQ.later h)) ?_ ?_<;>intro _)))|refine bV ?_|refine ag ?_ ?_<;>intro _)
 all_goals(conv=>whnf)
 all_goals exact bq (λ_ _ h=>h) rfl (by simp_all [G8,ak.pl])
theorem RJ(w:World)(x n:ak)(c:Nat)(hx:x.ok w)(hn:n.ok w)(hc:bE w (some ⟨c,0,none⟩) 9 (bO [n])):Calls Tryz.prog 112 #[x.p9,.pointer (some ⟨c,0,none⟩)] w λe w'=>e= .returned (.bool (G8 x.pl n.pl))/\Ext w w':=by
 refine fH Tryz.func112 [.agg [aC x.ai,aC x.a,aC x.b,.c x.az.val,aC x.lo,aC x.hi,aC x.size,.c x.data.val,.c x.aQ.val],.c (.pointer (some ⟨c,0,none⟩))] ?_
 repeat' ((conv=>whnf)<;>first|(show lK ..;refine gI (j:=0) (xs:=bO [n]) (λR w' h=>aH h hc) n.cells rfl rfl ?_)|(show aJ _ 113 ..;refine aR (f:=113) Tryz.call113 (.bool (G8 x.pl n.pl)) (λρ w' hw=>adD w' x n (ae hw λR h=>hx.later h) (ae hw λR h=>hn.later h)) ?_)|refine a_ ?_)
 all_goals(conv=>whnf)
 all_goals exact bq (λ_ _ h=>h) rfl rfl
def Zn(n:aN)(row:List aN):Int:=match Fa n row 0 with|some k=>k|none=> -1
theorem ac3{n p:aN}{r:List aN}{k:Nat}:Fa n (p::r) k=if G8 p n=true then some k else Fa n r (k+1):=rfl
theorem Ec(w:World)(n:ak)(c:Nat)(hn:n.ok w)(hc:bE w (some ⟨c,0,none⟩) 9 (bO [n]))(nb:Option Addr)(nc:Nat)(kept:List ak)(hk:bE w nb 9 (bO kept))(hko:∀k∈kept,k.ok w)(ug:kept.length<=1000000):
 Calls Tryz.prog 111 #[.slice nb kept.length nc,.func (.func 112) #[] #[.pointer (some ⟨c,0,none⟩)]] w λe w'=>e= .returned (.int .i64 (Zn n.pl (kept.map ak.pl)))/\Ext w w':=by
 refine fH Tryz.func111 [.c (.slice nb kept.length nc),.c (.func (.func 112) #[] #[.pointer (some ⟨c,0,none⟩)])] ?_
 repeat' ((conv=>whnf)<;>first|refine a_ ?_|refine ag ?_ ?_<;>intro _)
 refine Wp.loop (σ:=Nat) 0 (λk=>[(0,.c (.slice nb kept.length nc)),(1,.c (.func (.func 112) #[] #[.pointer (some ⟨c,0,none⟩)])),(7,aC kept.length),(8,aC k)]) (λ_=>[]) (λ_=>aU w)
  (λk=>k<=kept.length/\Fa n.pl ((kept.drop k).map ak.pl) k=Fa n.pl (kept.map ak.pl) 0) (λk=>kept.length-k) 0 [] ay (λs=>⟨rfl,rfl⟩) ⟨by simp,rfl⟩ ⟨rfl,⟨rfl,rfl,rfl,rfl,trivial⟩,trivial,λR w' h=>h⟩ ?_
 rintro k ⟨hkl,he⟩
 by_cases hlt:k<kept.length
 ·obtain⟨a,ha⟩:∃a,nb=some a:=aT (j:=k) hk ko
  rw[List.drop_eq_getElem_cons hlt,List.map_cons,ac3]at he
  have hrow:=fP hlt
  have hxo:=hko _ (List.getElem_mem hlt)
  generalize kept[k]=x at*
  cases hs:G8 x.pl n.pl with
  |true=>
   rw[if_pos hs]at he
   repeat' ((conv=>whnf)<;>first|(show dn ..;refine aM a k ha rfl hlt ?_)|(show lK ..;(refine gI (λR w' h=>by rw[<-ha];exact aH h hk) _ hrow rfl ?_))|(show aJ _ 112 ..;(refine aR (f:=112) Tryz.call112 (.bool true) (λρ w' hw=>by have:=RJ w' x n c (ae hw λR h=>hxo.later h) (ae hw λR h=>hn.later h) (ae hw λR h=>aH h hc);rw[hs]at this;exact this) ?_))|refine a_ ?_|refine ag ?_ ?_<;>intro _)
   all_goals(conv=>whnf)
   all_goals exact bZ (λ_ _ h=>h) (λ_=>by unfold Zn;rw[<-he];rfl) rfl
  |false=>
   rw[if_neg (by rw[hs];simp)]at he
   repeat' ((conv=>whnf)<;>first|(show dn ..;refine aM a k ha rfl hlt ?_)|(show lK ..;(refine gI (λR w' h=>by rw[<-ha];exact aH h hk) _ hrow rfl ?_))|(show aJ _ 112 ..;(refine aR (f:=112) Tryz.call112 (.bool false) (λρ w' hw=>by have:=RJ w' x n c (ae hw λR h=>hxo.later h) (ae hw λR h=>hn.later h) (ae hw λR h=>aH h hc);rw[hs]at this;exact this) ?_))|refine a_ ?_|refine ag ?_ ?_<;>intro _)
   all_goals(conv=>whnf)
   all_goals exact⟨k+1,[],⟨hlt,he⟩,by omega,rfl,fE,trivial,λR w' h=>h⟩
 ·rw[List.drop_of_length_le aa]at he
  repeat' ((conv=>whnf)<;>first|refine a_ ?_|refine ag ?_ ?_<;>intro _)
  conv=>whnf
  exact bZ (λ_ _ h=>h) (λ_=>by unfold Zn;rw[<-he];rfl) rfl
end Go.Proofs.YtgndjjdeopfdkaaGreat

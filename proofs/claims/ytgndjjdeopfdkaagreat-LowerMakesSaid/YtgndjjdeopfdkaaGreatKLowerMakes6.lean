import Derived.DeepKeys
import Derived.Test.YtgndjjdeopfdkaaGreatKLowerMakes5
/- texts IW NG of the proof of LowerMakesSaid -/
set_option maxHeartbeats 16000000
set_option maxRecDepth 20000
namespace Go.Proofs.YtgndjjdeopfdkaaGreat
open Go.SX Go.RowKit
section
variable {sh:List (List Int)} {s t b:List Int} {cnt:Nat} {A:Sp}
def dQ(n:ai):Prop:=n.kind=3\/n.kind=4\/n.kind=5
instance(n:ai):Decidable (dQ n):=inferInstanceAs (Decidable (_\/_))
def inA(n:ai)(t:aj):Value:=if dQ n then t.val else .slice none 0 0
def YP(n:ai)(t:aj)(cnt:Int):Value:=if dQ n then sV n t.val cnt else .nilFunc
theorem aam(n:ai)(t:aj):∃b l c,inA n t= .slice b l c:=by
 unfold inA
 split
 ·exact⟨_,_,_,rfl⟩
 ·exact⟨_,_,_,rfl⟩
theorem adw(n:ai)(t:aj)(cnt:Int):YP n t cnt= .nilFunc\/∃f a r,YP n t cnt= .func f a r:=by
 unfold YP sV
 split
 ·right
  split
  ·exact⟨_,_,_,rfl⟩
  ·split
   ·exact⟨_,_,_,rfl⟩
   ·exact⟨_,_,_,rfl⟩
 ·exact .inl rfl
def iC(n:ai)(cnt:Nat)(t:List Int)(a b:Sp):List Int:=if dQ n then kZ n cnt (bN n t) a else eH n a b
def kQ(n:ai)(cnt:Nat)(t a b:List Int):List Int:=if dQ n then gu n cnt cnt (bN n t) a else numsL n cnt a b
theorem Ko{g:bE}(h:(check g).1=0):∀q∈(check g).2,0<entries q:=by
 obtain⟨_,_,_,hcl,hin⟩:=gX h
 have key:∀i,i<=g.l.length->∀q∈(check g).2.take i,0<entries q:=by
  intro i
  induction i with
  |zero=>intro _ q hq;simp at hq
  |succ i ih=>
   intro hi q hq
   obtain⟨s,hs,hni⟩:=hin i g.l[i] (List.getElem?_eq_getElem aa)
   obtain⟨hls,hse⟩:=List.getElem?_eq_some_iff.1 hs
   rw[List.take_succ_eq_append_getElem hls,hse]at hq
   rcases List.mem_append.1 hq with hq|hq
   ·exact ih aa q hq
   ·simp at hq;subst hq
    exact jF (dH hni.form) (ih aa) hni.shape rfl
 intro q hq
 have:=key g.l.length (Nat.le_refl _) q
 rw[List.take_of_length_le aa]at this
 exact this hq
structure eT(n:ai)(sh:List (List Int))(s t:List Int)(cnt:Nat):Prop where
 node:iY n sh s
 cnt:entries s=cnt
 pos:∀q∈sh,0<entries q
 first:dQ n->sh.getD n.a.toNat []=t/\0<entries t
theorem eT.few{n:ai}(h:eT n sh s t cnt):1<=cnt/\cnt<=64:=by
 have h1:=jF (dH h.node.form) h.pos h.node.shape rfl
 have h2:=(dL s).2
 have h3:=h.cnt
 omega
theorem eT.lin{n:ai}{t:aj}(h:eT n sh s t.xs cnt)(hl:dQ n):∃F P0,aih n t cnt F P0:=
 ajH h.node hl (h.first hl).1 (h.first hl).2 h.pos h.cnt
theorem adx(w:World)(n:ai)(sv:aY)(hs:sv.ok w)(i:Nat)(s t:aj)(cnt:Nat)(hi:sv.l[i]? =some s)(hj:sv.l[n.a.toNat]? =some t)(h0:0<=n.a)(hc:entries s.xs=cnt):Calls Tryz.prog 50 #[n.jS,sv.val,.int .i64 i] w λe w'=>e= .returned (jX n (inA n t) (YP n t cnt) cnt)/\Ext w w':=by
 by_cases hl:dQ n
 ·have e1:inA n t=t.val:=if_pos hl
  have e2:YP n t cnt=sV n t.val cnt:=if_pos hl
  rw[e1,e2,<-hc]
  exact ajE w n sv hs i n.a.toNat s t hi hj aa hl
 ·have e1:inA n t= .slice none 0 0:=if_neg hl
  have e2:YP n t cnt= .nilFunc:=if_neg hl
  rw[e1,e2,<-hc]
  unfold dQ at hl
  exact adm w n sv hs i s hi aa
theorem ady(w:World)(n:ai)(sh:List (List Int))(s:List Int)(t:aj)(cnt:Nat)(h:eT n sh s t.xs cnt)(hno:n.ok w)(hto:t.ok w)(a b:Sp)(ha:bX a.1/\bX a.2)(hb:bX b.1/\bX b.2):Calls Tryz.prog 51 #[jX n (inA n t) (YP n t cnt) cnt,jv a,jv b] w (qp w n (iC n cnt t.xs a b)):=by
 by_cases hl:dQ n
 ·obtain⟨F,P0,hL⟩:=h.lin hl
  have e2:YP n t cnt= .func (.func F) #[P0] #[]:=(if_pos hl).trans hL.fn
  have e3:iC n cnt t.xs a b=kZ n cnt (bN n t.xs) a:=if_pos hl
  rw[e2,e3]
  exact ads w n _ F P0 cnt _ a b (hL.terms w hto hno) (hL.lin w hno) ha
 ·have e3:iC n cnt t.xs a b=eH n a b:=if_neg hl
  rw[e3]
  obtain⟨_,_,h7,h8,h2⟩:=mW h.node.form
  obtain⟨nd,nb,nlo,nhi,nle⟩:=rT h.node.near
  have hkind:=(dH h.node.form).kind
  unfold dQ at hl
  exact Wi w n hno.data _ _ _ a b ⟨by omega,nd,h7,h8,nlo,nhi,ha.1,ha.2,hb.1,hb.2⟩
theorem AV{n:ai}(h:eT n sh s t cnt)(a b:Sp):1<=(iC n cnt t a b).length:=by
 unfold iC
 split
 ·have:=h.few
  unfold kZ
  rw[yC];omega
 ·exact aag h.node.form
structure NumIn(n:ai)(sh:List (List Int))(a b:List Int):Prop where
 Ki:n.kind≠1->n.kind≠2->(a.length:Int)=entries (sh.getD n.a.toNat [])
 aai:n.kind=6->(b.length:Int)=entries (sh.getD n.b.toNat [])
theorem Wo{n:ai}(h:bM n sh=some s)(hnk:¬dQ n)(hk:1<=n.kind/\n.kind<=9)(hk1:n.kind≠1):(n.kind=2->s=n.shape.xs)/\(n.kind≠2->entries (sh.getD n.a.toNat [])=entries s)/\(n.kind=6->entries (sh.getD n.b.toNat [])=entries s):=by
 unfold dQ at hnk
 unfold bM at h
 by_cases h2:n.kind=2
 ·rw[if_pos aa]at h
  exact⟨λ_=>by simpa using h.symm,λh=>absurd h2 h,λh=>by omega⟩
 ·rw[if_neg aa,if_neg aa,if_neg aa,if_neg aa]at h
  refine⟨λh=>absurd h h2,λ_=> ?_,λh6=> ?_⟩
  ·split at h
   ·split at h
    ·simp only[Option.some.injEq]at h;rw[h]
    ·cases h
   ·split at h
    ·split at h
     ·rename_i he;simp only[Option.some.injEq]at h;rw[<-h];exact he.symm
     ·cases h
    ·simp only[Option.some.injEq]at h;rw[h]
  ·rw[if_pos h6]at h
   split at h
   ·rename_i he;simp only[Option.some.injEq]at h;rw[<-he,h]
   ·cases h
theorem Cs{n:ai}(h:eT n sh s t cnt)(hl:¬dQ n)(hk1:n.kind≠1){a:List Int}(hn:NumIn n sh a b):(n.kind=2\/n.kind=6\/n.kind=7\/n.kind=8\/n.kind=9)/\(n.kind=2->n.data.xs.length=cnt)/\(n.kind≠2->a.length=cnt)/\(n.kind=6->b.length=cnt):=by
 obtain⟨_,_,h7,h8,h2⟩:=mW h.node.form
 have hkind:=(dH h.node.form).kind
 obtain⟨r2,rA,rB⟩:=Wo h.node.shape hl hkind hk1
 have hc:=h.cnt
 unfold dQ at hl
 refine⟨by omega,λhk=> ?_,λhk=> ?_,λhk=> ?_⟩
 ·have:=h2 hk
  rw[<-r2 hk,hc]at this
  omega
 ·have:=hn.Ki hk1 hk
  rw[rA hk,hc]at this
  omega
 ·have:=hn.aai hk
  rw[rB hk,hc]at this
  omega
theorem adz(w:World)(n:ai)(sh:List (List Int))(s:List Int)(t:aj)(cnt:Nat)(h:eT n sh s t.xs cnt)(hk1:n.kind≠1)(hno:n.ok w)(hto:t.ok w)(a b:aj)(ha:a.ok w)(hb:b.ok w)(hab:∀x∈a.xs,bX x)(hbb:∀x∈b.xs,bX x)(hn:NumIn n sh a.xs b.xs):Calls Tryz.prog 146 #[jX n (inA n t) (YP n t cnt) cnt,a.val,b.val] w (AU w (kQ n cnt t.xs a.xs b.xs)):=by
 by_cases hl:dQ n
 ·obtain⟨F,P0,hL⟩:=h.lin hl
  have e2:YP n t cnt= .func (.func F) #[P0] #[]:=(if_pos hl).trans hL.fn
  have e3:kQ n cnt t.xs a.xs b.xs=gu n cnt cnt (bN n t.xs) a.xs:=if_pos hl
  rw[e2,e3]
  have hk2:n.kind≠2:=by unfold dQ at hl;omega
  have hal:=hn.Ki hk1 hk2
  rw[(h.first hl).1]at hal
  exact adt w n _ F P0 cnt _ a b (hL.terms w hto hno) (hL.lin w hno) ha hab λo ho s hs=>by
   have:=hL.at_ o ho s hs
   omega
 ·have e3:kQ n cnt t.xs a.xs b.xs=numsL n cnt a.xs b.xs:=if_neg hl
  rw[e3]
  obtain⟨_,_,h7,h8,h2⟩:=mW h.node.form
  obtain⟨nd,nb,nlo,nhi,nle⟩:=rT h.node.near
  obtain⟨q1,q2,q3,q4⟩:=Cs h hl hk1 hn
  exact Wm w n _ _ cnt a b ⟨q1,h.few.2,hno.data,nd,q2,h7,h8,ha,hb,q3,q4,hab,hbb⟩
theorem Kq{av:List Int}(hA:within A av):∀{l:List Sp} {s1 s s2:Int},s1<=s->s<=s2->(∀t∈l,0<=t.2/\t.2<av.length)->l.foldl (H9 A) s1<=l.foldl (Cr av) s/\l.foldl (Cr av) s<=l.foldl (H_ A) s2
 |[],s1,s,s2,h1,h2,_=>⟨h1,h2⟩
 |t::r,s1,s,s2,h1,h2,h=>by
  have ht:=h t List.mem_cons_self
  have hw:=pz hA (o:=t.2.toNat) aa
  have hs:=Dy (d:=t.1) hw.1 hw.2
  have m1:foldI min [t.1*A.1,t.1*A.2]=min (t.1*A.1) (t.1*A.2):=rfl
  have m2:foldI max [t.1*A.1,t.1*A.2]=max (t.1*A.1) (t.1*A.2):=rfl
  rw[m1,m2,Int.mul_comm (av.getD t.2.toNat 0) t.1]at hs
  have e1:H9 A s1 t=s1+min (t.1*A.1) (t.1*A.2):=rfl
  have e2:H_ A s2 t=s2+max (t.1*A.1) (t.1*A.2):=rfl
  have e3:Cr av s t=s+t.1*av.getD t.2.toNat 0:=rfl
  simp only[List.foldl_cons]
  exact Kq hA aa aa λx hx=>h x (List.mem_cons_of_mem _ hx)
def je(l:List Int):Sp:=(foldI min l,foldI max l)
theorem Qf{n:ai}{t:aj}(h:eT n sh s t.xs cnt)(hk1:n.kind≠1){a:List Int}{B:Sp}(hn:NumIn n sh a b)(hA:within A a)(hB:within B b):within (je (iC n cnt t.xs A B)) (kQ n cnt t.xs a b)/\(kQ n cnt t.xs a b).length=cnt:=by
 by_cases hl:dQ n
 ·obtain⟨F,P0,hL⟩:=h.lin hl
  have e1:iC n cnt t.xs A B=kZ n cnt (bN n t.xs) A:=if_pos hl
  have e3:kQ n cnt t.xs a b=gu n cnt cnt (bN n t.xs) a:=if_pos hl
  rw[e1,e3]
  have hk2:n.kind≠2:=by unfold dQ at hl;omega
  have hal:=hn.Ki hk1 hk2
  rw[(h.first hl).1]at hal
  refine⟨λx hx=> ?_,by simp[gu]⟩
  obtain⟨o,ho,rfl⟩:=List.mem_map.1 hx
  have ho':=List.mem_range.1 ho
  have hw:=Kq hA (l:=bN n t.xs o) (Int.le_refl (dA n cnt o)) (Int.le_refl _) λs hs=>by
   have:=hL.at_ o ho' s hs
   omega
  have m1:(bN n t.xs o).foldl (H9 A) (dA n cnt o)∈kZ n cnt (bN n t.xs) A:=List.mem_flatMap.2 ⟨o,ho,by simp⟩
  have m2:(bN n t.xs o).foldl (H_ A) (dA n cnt o)∈kZ n cnt (bN n t.xs) A:=List.mem_flatMap.2 ⟨o,ho,by simp⟩
  exact⟨Int.le_trans (iQ m1) hw.1,Int.le_trans hw.2 (iR m2)⟩
 ·have e1:iC n cnt t.xs A B=eH n A B:=if_neg hl
  have e3:kQ n cnt t.xs a b=numsL n cnt a b:=if_neg hl
  rw[e1,e3]
  obtain⟨q1,q2,q3,q4⟩:=Cs h hl hk1 hn
  refine⟨λx hx=> ?_,by simp[numsL]⟩
  obtain⟨o,ho,rfl⟩:=List.mem_map.1 hx
  exact Kj q1 q2 q3 q4 hA hB (List.mem_range.1 ho)
end
abbrev aii:Go.SX.DT:=(eF [0,1,2,3,4,5,6,7,8,9,10,111,12] .done)
theorem Oa{l:List (List Int)}{k:Nat}(h:k<l.length):l.getD k []∈l:=by
 rw[List.getD_eq_getElem?_getD,List.getElem?_eq_getElem h];exact List.getElem_mem h
def iZ(sh:List (List Int))(n:ai)(acc:List Sp):List Int:=iC n (entries (sh.getD acc.length [])).toNat (sh.getD n.a.toNat []) (acc.getD n.a.toNat (0,0)) (acc.getD n.b.toNat (0,0))
def fV(sh:List (List Int)):List ai->List Sp->Int×List Sp
 |[],acc=>(0,acc)
 |n::r,acc=>
  if foldI min (iZ sh n acc)< -1048576\/1048576<foldI max (iZ sh n acc)then(5,[])
  else fV sh r (acc++[(foldI min (iZ sh n acc),foldI max (iZ sh n acc))])
def bT(g:bE):Int×List Sp:=if(check g).1≠0 then((check g).1,[])else fV (check g).2 g.l []
theorem xm{g:bE}(h:(check g).1=0){i:Nat}{n:ai}(hn:g.l[i]? =some n):(0<=n.a/\n.a.toNat<(check g).2.length/\(n.a.toNat<i\/n.a.toNat=0))/\(0<=n.b/\n.b.toNat<(check g).2.length/\(n.b.toNat<i\/n.b.toNat=0))/\∃cnt:Nat,entries ((check g).2.getD i [])=cnt/\eT n ((check g).2.take i) ((check g).2.getD i []) ((check g).2.getD n.a.toNat []) cnt:=by
 obtain⟨hl1,xn,hout,hcl,hin⟩:=gX h
 have hpos:=Ko h
 obtain⟨hlt,_⟩:=List.getElem?_eq_some_iff.1 hn
 obtain⟨s,hs,hni⟩:=hin i n hn
 have hti:((check g).2.take i).length=i:=by rw[List.length_take,hcl];omega
 have hform:=hni.form
 rw[hti]at hform
 obtain⟨hA,hB,_⟩:=mW hform
 have hfo:=dH hform
 have e1:(check g).2.getD i []=s:=by rw[List.getD_eq_getElem?_getD,hs];rfl
 rw[e1]
 refine⟨⟨hA.1,by omega,by omega⟩,⟨hB.1,by omega,by omega⟩,(entries s).toNat,by have:=(dL s).1;omega,⟨hni,by have:=(dL s).1;omega,λq hq=>hpos q (List.mem_of_mem_take hq),λhl=> ?_⟩⟩
 unfold dQ at hl
 have ha:=hfo.a aa aa
 have e2:((check g).2.take i).getD n.a.toNat []=(check g).2.getD n.a.toNat []:=by
  rw[List.getD_eq_getElem?_getD,List.getD_eq_getElem?_getD,List.getElem?_take,if_pos aa]
 refine⟨e2,hpos _ (Oa aa)⟩
theorem xq(w:World)(g:bE)(hg:g.ok w):Calls Tryz.prog 22 #[g.val] w (xh w (bT g)):=by
 refine fq Tryz.func22 [.agg [.c (.slice g.base g.l.length g.cap),ak g.out]] ?_
 (repeat' ((conv=>whnf)<;>first|refine aZ ?_|refine ag ?_ ?_<;>intro _))
 refine oL (f:=24) (check g) Tryz.call24 (λρ w' hw=>pu w' g (ae hw λR h=>hg.later h)) (λhne=> ?_) (λhe sv hm hsv=> ?_)
 ·have hq:bT g=((check g).1,[]):=if_pos hne
  rw[hq]
  (repeat' ((conv=>whnf)<;>first|(show @dR _ _ _;refine bA hne ?_)|refine aZ ?_))
  conv=>whnf
  exact AR (λ_ _ h=>h) rfl hne (λ_=>rfl)
 have hq:bT g=fV (check g).2 g.l []:=if_neg (λh=>h he)
 rw[hq]
 obtain⟨hl1,xn,hout,hcl,hin⟩:=gX he
 have hsl:sv.l.length=g.l.length:=by rw[<-hcl,<-hm];simp
 (repeat' ((conv=>whnf)<;>first|(show kv ..;(refine g_ g.l.length rfl rfl (by show 16*_<=_;omega) aa ?_))|refine aZ ?_|refine ag ?_ ?_<;>intro _))
 refine Wp.loop (σ:=Nat×List Sp) 2 (λ⟨i,_⟩=>[(6,.os 1 g.l.length),(4,.c sv.val),(24,.c (.slice g.base g.l.length g.cap)),(25,ak g.l.length),(26,ak i)]) (λ⟨_,acc⟩=>[(1,.rows (dV (mJ g.l.length acc)) 2 58)]) (λ_=>(aH w).and ((jy sv).past w.heap.size))
  (λ⟨i,acc⟩=>i<=g.l.length/\acc.length=i/\fV (check g).2 (g.l.drop i) acc=fV (check g).2 g.l []/\(∀s∈acc,bX s.1/\bX s.2)) (λs=>g.l.length-s.1) (0,[]) [] aS (λs=>⟨rfl,rfl⟩) ⟨Nat.zero_le _,rfl,rfl,λs hs=>by simp at hs⟩ ⟨rfl,aU,⟨?_,trivial⟩,λ_ _ h=>h⟩ ?_
 ·have:dV (mJ g.l.length [])=List.replicate g.l.length [Value.int .i64 0,.int .i64 0]:=by simp[dV,mJ]
  show(1,bU.rows (dV (mJ g.l.length [])) 2 58)∈_
  rw[this]
  exact aQ
 rintro⟨i,acc⟩ ⟨hi,hal,hsp,hab⟩
 by_cases hlt:i<g.l.length
 ·obtain⟨a,ha⟩:∃a,g.base=some a:=aI (j:=i) hg.rows Db
  have hnm:=List.getElem_mem hlt
  obtain⟨s,hs,hni⟩:=hin i g.l[i] (List.getElem?_eq_getElem hlt)
  have hdrop:g.l.drop i=g.l[i]::g.l.drop (i+1):=List.drop_eq_getElem_cons hlt
  rw[hdrop]at hsp
  have hrow:=bQ hlt
  have hpi:=xm he (List.getElem?_eq_getElem hlt)
  generalize g.l[i]=n at*
  have hn:=hg.each n hnm
  obtain⟨⟨ha0,ajI,hai⟩,⟨hb0,Wq,hbi⟩,cnt,hcnt,hpl⟩:=hpi
  have e1:(check g).2.getD i []=s:=by rw[List.getD_eq_getElem?_getD,hs];rfl
  rw[e1]at hcnt hpl
  obtain⟨u,hu,fP⟩:∃u,sv.l[i]? =some u/\u.xs=s:=by
   rw[<-hm,List.getElem?_map]at hs
   cases hu:sv.l[i]? with
   |none=>rw[hu]at hs;simp at hs
   |some u=>rw[hu]at hs;exact⟨u,rfl,by simpa using hs⟩
  obtain⟨t,ht,hts⟩:∃t,sv.l[n.a.toNat]? =some t/\t.xs=(check g).2.getD n.a.toNat []:=by
   have hlt2:n.a.toNat<sv.l.length:=by omega
   refine⟨sv.l[n.a.toNat],List.getElem?_eq_getElem hlt2,?_⟩
   rw[<-hm,List.getD_eq_getElem?_getD,List.getElem?_map,List.getElem?_eq_getElem hlt2];rfl
  have htm:t∈sv.l:=List.mem_of_getElem? ht
  have alD:entries u.xs=cnt:=by rw[fP];exact hcnt
  rw[<-hts]at hpl
  have hEq:iZ (check g).2 n acc=iC n cnt t.xs (acc.getD n.a.toNat (0,0)) (acc.getD n.b.toNat (0,0)):=by
   unfold iZ
   rw[hal,e1,hcnt,hts];rfl
  have hA2:=YJ hab n.a.toNat
  have hB2:=YJ hab n.b.toNat
  have hEL:=AV hpl (acc.getD n.a.toNat (0,0)) (acc.getD n.b.toNat (0,0))
  have gA:=yz (n:=g.l.length) (acc:=acc) (j:=n.a.toNat) aa aa
  have gB:=yz (n:=g.l.length) (acc:=acc) (j:=n.b.toNat) aa aa
  (repeat' ((conv=>whnf)<;>first|(show bC ..;refine ax a i ha rfl hlt ?_)|(show iM ..;(refine dO (λR w' h=>by rw[<-ha];exact au h.1 hg.rows) _ hrow rfl ?_))|(show aC _ 50 ..;refine aJ (f:=50) Tryz.call50 (jX n (inA n t) (YP n t cnt) cnt) (λρ w' hw=>adx w' n sv (ae hw λR h=>oF hsv aa h.2) i u t cnt hu ht ha0 alD) ?_)|(show bV ..;(first|refine aT n.a.toNat aa aa ai7 ?_|refine aT n.b.toNat aa aa ai7 ?_))|(show rP ..;(first|refine o7 _ _ gA rfl rfl ?_|refine o7 _ _ gB rfl rfl ?_))|(show cO _ 9 ..;refine mE [] _ aii ?_)|(show aC _ 51 ..;refine gP Tryz.call51 (λx:aj×Bool=>x.1.val) aaf (λx=>x.1.xs=iC n cnt t.xs (acc.getD n.a.toNat (0,0)) (acc.getD n.b.toNat (0,0))/\x.1.a_/\(x.2=true->x.1=n.data)) (λρ w' hw=>ady w' n _ s t cnt hpl (ae hw λR h=>hn.later h.1) (ae hw λR h=>(oF hsv aa h.2).each t htm) (acc.getD n.a.toNat (0,0)) (acc.getD n.b.toNat (0,0)) hA2 hB2) (λx hx=> ?_))|refine aZ ?_|refine ag ?_ ?_<;>intro _))
  all_goals
   obtain⟨hx1,hx2,hx3⟩:=hx
   rw[<-hx1]at hEL
   by_cases hr:foldI min x.1.xs< -1048576\/1048576<foldI max x.1.xs
   ·have hq2:fV (check g).2 (n::g.l.drop (i+1)) acc=(5,[]):=by simp only[fV];rw[hEq,<-hx1,if_pos hr]
    rw[hq2]at hsp
    rw[<-hsp]
    (repeat' ((conv=>whnf)<;>first|refine akI ?_|refine akK ?_|refine akL ?_|refine akM ?_|(show bS ..;refine zO hal hlt ?_)|(show kC ..;refine row_of _ _ (SI hal hlt) rfl ?_)|refine aZ ?_|refine ag ?_ ?_<;>intro _))
    all_goals(conv=>whnf)
    all_goals first|omega|exact AR (λ_ _ h=>h.1.1) rfl aS (λ_=>rfl)
   ·have hq2:fV (check g).2 (n::g.l.drop (i+1)) acc=fV (check g).2 (g.l.drop (i+1)) (acc++[(foldI min x.1.xs,foldI max x.1.xs)]):=by
     conv=>lhs;unfold fV
     rw[hEq,<-hx1,if_neg hr]
    rw[hq2]at hsp
    have hle:=Ke hEL
    (repeat' ((conv=>whnf)<;>first|refine akI ?_|refine akK ?_|refine akL ?_|refine akM ?_|(show bS ..;refine zO hal hlt ?_)|(show kC ..;refine row_of _ _ (SI hal hlt) rfl ?_)|refine aZ ?_|refine ag ?_ ?_<;>intro _))
    all_goals(conv=>whnf)
    all_goals exact⟨(i+1,acc++[(foldI min x.1.xs,foldI max x.1.xs)]),[],⟨hlt,by rw[List.length_append,hal];rfl,hsp,λs hs=>by
     rcases List.mem_append.1 hs with h|h
     ·exact hab s h
     ·simp at h;subst h;unfold bX;omega⟩,by simp only;omega,rfl,aU,⟨aQ,trivial⟩,λ_ _ h=>h.1⟩
 ·obtain rfl:i=g.l.length:=by omega
  rw[List.drop_length]at hsp
  (repeat' ((conv=>whnf)<;>first|refine aZ ?_|refine ag ?_ ?_<;>intro _))
  conv=>whnf
  have hgr:mJ g.l.length acc=acc:=by unfold mJ;rw[hal,Nat.sub_self];simp
  exact Kg (l:=mJ g.l.length acc) (λ_ _ h=>h.1) rfl aQ (by rw[hgr,hal]) (by rw[hgr,<-hsp];rfl)
section
variable {B:Base} {v:SV} {H:Heap} {S:bJ} {nx:Nat} {w:World} {r:Int×List Int} {x:aj} {r':Int×List (List Int)}
def AX(w:World)(r:Int×List Int)(e:Ending)(w':World):Prop:=
 (r.1≠0/\e= .returned (.tuple #[.slice none 0 0,.int .i64 r.1])/\Ext w w')\/(r.1=0/\∃x:aj,(x.xs=r.2/\x.a_)/\e= .returned (.tuple #[x.val,.int .i64 0])/\Ext w w'/\(bn x).holds (λb=>w.heap.size<=b/\b<w'.heap.size) w')
theorem YQ(hb:∀R w',S.holds R w'->(aH B.w0).holds R w')(hw0:B.w0=w)(hn:r.1≠0)(hv:∀ρ,v.rf ρ= .tuple #[.slice none 0 0,.int .i64 r.1]):jE B v H S nx (AX w r):=by
 subst hw0
 exact dz λρ w' hw=> .inl ⟨hn,by rw[hv],aV hw hb⟩
theorem adA(hb:∀R w',S.holds R w'->(aH B.w0).holds R w')(hw0:B.w0=w)(hs:x.a_)(hr:r=(0,x.xs))(hD:∀R w',S.holds R w'->((bn x).past B.w0.heap.size).holds R w'):jE B (.sI [.c x.val,ak 0]) H S nx (AX w r):=by
 subst hw0 hr
 exact dz λρ w' hw=> .inr ⟨rfl,x,⟨rfl,hs⟩,rfl,aV hw hb,oh hw hD⟩
theorem E9{X:Int×List Int}(hb:∀R w',S.holds R w'->(aH B.w0).holds R w')(hw0:B.w0=w)(hr:r'=(12,[]))(hv:∀ρ,v.rf ρ= .tuple #[.slice none 0 0,.int .i64 12]):jE B v H S nx (AX w (if r'.1≠0 then(r'.1,[])else X)):=by
 subst hr
 have e:(if((12:Int),([]:List (List Int))).1≠0 then(((12:Int),([]:List (List Int))).1,([]:List Int))else X)=(12,[]):=if_pos (show(12:Int)≠0 by decide)
 rw[e]
 exact YQ hb hw0 (show(12:Int)≠0 by decide) hv
theorem aan{k:Nat}{L:List (List Int)}(hb:∀R w',S.holds R w'->(aH B.w0).holds R w')(hw0:B.w0=w)(hs:x.a_)(hr:r'=(0,L))(hx:L.getD k []=x.xs)(hD:∀R w',S.holds R w'->((bn x).past B.w0.heap.size).holds R w'):jE B (.sI [.c x.val,ak 0]) H S nx (AX w (if r'.1≠0 then(r'.1,[])else(0,r'.2.getD k []))):=by
 subst hr
 have e:(if((0:Int),L).1≠0 then(((0:Int),L).1,([]:List Int))else(0,((0:Int),L).2.getD k []))=(0,L.getD k []):=if_neg (show¬(0:Int)≠0 by decide)
 rw[e,hx]
 exact adA hb hw0 hs rfl hD
theorem mY{cx:Cx}{f:FuncId}{args:List SV}{K:SV->Heap->bJ->Nat->Prop}(r:Int×List Sp)(hf:∀ar w,(callFunc f ar).run cx.P w= .ok (.enter f ar) w)
 (hc:∀ρ w',dY cx.B ρ nx H S w'->Calls cx.P f (SV.d_ ρ args).toArray w' (xh w' r))
 (h0:r.1≠0->K (.c (.tuple #[.slice none 0 0,.int .i64 r.1])) H S nx)
 (h1:r.1=0->∀base cap,K (.c (.tuple #[.slice base r.2.length cap,.int .i64 0])) H (S.and ((eY base 2 (dV r.2)).past cx.B.w0.heap.size)) nx):aC cx f args H S nx K:=by
 rw[gI]
 refine⟨hf,λρ w hw=>(hc ρ w hw).mono ?_⟩
 rintro e w' (⟨hr,rfl,he⟩|⟨hr,v,rfl,he,hn⟩)
 ·exact⟨.c (.tuple #[.slice none 0 0,.int .i64 r.1]),ρ,H,S,nx,rfl,λ_ _=>rfl,Nat.le_refl _,SV.ji _,hw.ext he,h0 hr⟩
 ·obtain⟨base,cap,e1,hD⟩:=fw hn
  rw[gU]at e1
  subst e1
  exact⟨.c (.tuple #[.slice base r.2.length cap,.int .i64 0]),ρ,H,_,nx,rfl,λ_ _=>rfl,Nat.le_refl _,SV.ji _,hw.grow he hD,h1 hr base cap⟩
theorem YR{N:Nat}{l:List aj}{R:Nat->Prop}(hs:∀u∈l,u.a_)(h:(lS N l).holds R w)(k:Nat):(l.getD k fI).ok w:=by
 rcases Nat.lt_or_ge k l.length with hk|hk
 ·rw[List.getD_eq_getElem?_getD,List.getElem?_eq_getElem hk]
  exact bP (hs _ (List.getElem_mem hk)) ((bn _).mono (h _ (List.getElem_mem hk)) (λb hb=>hb.1))
 ·rw[List.getD_eq_getElem?_getD,List.getElem?_eq_none hk]
  exact bP aae (Wd R w)
theorem AY(l:List aj)(k:Nat):(l.getD k fI).xs=(l.map aj.xs).getD k []:=by
 rcases Nat.lt_or_ge k l.length with hk|hk
 ·simp[List.getD_eq_getElem?_getD,hk]
 ·simp[List.getD_eq_getElem?_getD,hk,fI]
end
abbrev alE:Go.SX.DT:=(eF [0,1,2,3,4,5,6,7,8,9,10,11,12,113,14,115] .done)
abbrev alF:Go.SX.DT:=(eF [0,1,2,6] (.alt 3 (.alt 4 (.alt 5 (.alt 7 (eF [108,109,10] .done) (.one 8 (.alt 7 (eF [109,10] .done) (eF [109,107,10] .done)))) (eF [107,105,108,109,10] .done)) (eF [107,104,105,108,109,10] .done)) (eF [107,103,104,105,108,109,10] .done)))
section
variable {g:bE} {kn:List aj} {i:Nat}
def uY(sh:List (List Int))(n:ai)(known:List (List Int)):List Int:=kQ n (entries (sh.getD known.length [])).toNat (sh.getD n.a.toNat []) (known.getD n.a.toNat []) (known.getD n.b.toNat [])
def jh(sh:List (List Int)):List ai->List (List Int)->List (List Int)->Int×List (List Int)
 |[],known,inp=>if 0<inp.length then(12,[])else(0,known)
 |n::r,known,inp=>
  if n.kind≠1 then jh sh r (known++[uY sh n known]) inp
  else match inp with
   |[]=>(12,[])
   |x::xs=>if(x.length:Int)≠entries (sh.getD known.length [])\/foldI min x<n.lo\/n.hi<foldI max x then(12,[])else jh sh r (known++[x]) xs
def sj(g:bE)(inp:List (List Int)):Int×List (List Int):=jh (check g).2 g.l [] inp
def Mv(g:bE)(inp:List (List Int)):Int×List Int:=
 if(bT g).1≠0 then((bT g).1,[])else if(sj g inp).1≠0 then((sj g inp).1,[])else(0,(sj g inp).2.getD g.out.toNat [])
def q8(sh:List (List Int))(n:ai)(acc:List Sp):Sp:=je (iZ sh n acc)
theorem Ob{sh:List (List Int)}:∀{l:List ai} {acc S:List Sp},fV sh l acc=(0,S)->∃q,S=acc++q/\q.length=l.length/\∀i n,l[i]? =some n->∃s,q[i]? =some s/\s=q8 sh n (acc++q.take i)/\ -1048576<=s.1/\s.2<=1048576
 |[],acc,S,h=>by
  obtain rfl:acc=S:=by simpa[fV]using h
  exact⟨[],by simp,rfl,λi n hn=>by simp at hn⟩
 |m::r,acc,S,h=>by
  by_cases hr:(q8 sh m acc).1< -1048576\/1048576<(q8 sh m acc).2
  ·have:fV sh (m::r) acc=(5,[]):=if_pos hr
   rw[this]at h;simp at h
  ·have:fV sh (m::r) acc=fV sh r (acc++[q8 sh m acc]):=if_neg hr
   rw[this]at h
   obtain⟨q,hq,hl,ha⟩:=Ob h
   refine⟨q8 sh m acc::q,by rw[hq,List.append_assoc];rfl,by simp[hl],λi n hin=> ?_⟩
   cases i with
   |zero=>
    simp only[List.getElem?_cons_zero,Option.some.injEq]at hin
    subst hin
    exact⟨_,rfl,by simp,by omega,by omega⟩
   |succ i=>
    simp only[List.getElem?_cons_succ]at hin
    obtain⟨t,h1,h2,h3⟩:=ha i n hin
    refine⟨t,by simpa using h1,?_,h3⟩
    rw[List.take_succ_cons,show acc++q8 sh m acc::q.take i=acc++[q8 sh m acc]++q.take i by simp]
    exact h2
theorem jA(h:(bT g).1=0):(check g).1=0/\(bT g).2.length=g.l.length/\∀i n,g.l[i]? =some n->∃s,(bT g).2[i]? =some s/\s=q8 (check g).2 n ((bT g).2.take i)/\ -1048576<=s.1/\s.2<=1048576:=by
 unfold bT at h|-
 by_cases hc:(check g).1≠0
 ·rw[if_pos hc]at h;exact absurd h hc
 ·rw[if_neg hc]at h|-
  obtain⟨q,hq,hl,ha⟩:=Ob (l:=g.l) (acc:=[]) (S:=(fV (check g).2 g.l []).2) (Prod.ext h rfl)
  rw[List.nil_append]at hq
  rw[hq]
  exact⟨by omega,hl,λi n hn=>by simpa using ha i n hn⟩
structure Ct(g:bE)(kn:List aj)(i:Nat):Prop where
 len:kn.length=i
 a_:∀u∈kn,u.a_
 each:∀(j:Nat) (u:aj) (s:Sp) (q:List Int),kn[j]? =some u->(bT g).2[j]? =some s->(check g).2[j]? =some q->within s u.xs/\(u.xs.length:Int)=entries q
theorem oM(hsp:(bT g).1=0)(hkn:Ct g kn i)(hi:i<=g.l.length)(k:Nat):within (((bT g).2.take i).getD k (0,0)) (kn.getD k fI).xs/\(∀x∈(kn.getD k fI).xs,bX x)/\(k<i->((kn.getD k fI).xs.length:Int)=entries (((check g).2.take i).getD k [])):=by
 obtain⟨hck,hsl,hsi⟩:=jA hsp
 obtain⟨hl1,xn,hout,hcl,hin⟩:=gX hck
 have hkl:=hkn.len
 rcases Nat.lt_or_ge k i with hk|hk
 ·have hkg:k<g.l.length:=by omega
  obtain⟨p,hp,_,hp1,hp2⟩:=hsi k g.l[k] (List.getElem?_eq_getElem hkg)
  obtain⟨s,hs,_⟩:=hin k g.l[k] (List.getElem?_eq_getElem hkg)
  have hk':k<kn.length:=by omega
  obtain⟨h1,h2⟩:=hkn.each k kn[k] p s (List.getElem?_eq_getElem hk') hp hs
  have e1:kn.getD k fI=kn[k]:=by rw[List.getD_eq_getElem?_getD,List.getElem?_eq_getElem hk'];rfl
  have e2:((bT g).2.take i).getD k (0,0)=p:=by rw[List.getD_eq_getElem?_getD,List.getElem?_take,if_pos hk,hp];rfl
  have e3:((check g).2.take i).getD k []=s:=by rw[List.getD_eq_getElem?_getD,List.getElem?_take,if_pos hk,hs];rfl
  rw[e1,e2,e3]
  exact⟨h1,λx hx=>by have:=h1 x hx;unfold bX;omega,λ_=>h2⟩
 ·have e1:kn.getD k fI=fI:=by rw[List.getD_eq_getElem?_getD,List.getElem?_eq_none aa];rfl
  rw[e1]
  exact⟨λx hx=>by simp[fI]at hx,λx hx=>by simp[fI]at hx,λh=>by omega⟩
theorem YS{n:ai}(hsp:(bT g).1=0)(hkn:Ct g kn i)(hi:i<=g.l.length)(hf:zN n i):NumIn n ((check g).2.take i) (kn.getD n.a.toNat fI).xs (kn.getD n.b.toNat fI).xs:=
 ⟨λk1 k2=>(oM hsp hkn hi n.a.toNat).2.2 (by have:=hf.a k1 k2;omega),λk6=>(oM hsp hkn hi n.b.toNat).2.2 (by have:=hf.b k6;omega)⟩
theorem vW{x:aj}{s:List Int}{p:Sp}(hkn:Ct g kn i)(hx:x.a_)(hp:(bT g).2[i]? =some p)(hs:(check g).2[i]? =some s)(hw:within p x.xs)(hl:(x.xs.length:Int)=entries s):Ct g (kn++[x]) (i+1):=by
 have hkl:=hkn.len
 refine⟨by rw[List.length_append,hkl];rfl,λu hu=> ?_,λj u p' q hu hp' hq=> ?_⟩
 ·rcases List.mem_append.1 hu with h|h
  ·exact hkn.a_ u h
  ·simp at h;subst h;exact hx
 ·rcases Nat.lt_or_ge j i with hj|hj
  ·rw[List.getElem?_append_left aa]at hu
   exact hkn.each j u p' q hu hp' hq
  ·rw[List.getElem?_append_right aa]at hu
   have h0:j-kn.length=0:=by
    rcases Nat.eq_zero_or_pos (j-kn.length)with h|h
    ·exact h
    ·rw[List.getElem?_eq_none wy]at hu;cases hu
   rw[h0]at hu
   simp only[List.getElem?_cons_zero,Option.some.injEq]at hu
   subst hu
   obtain rfl:j=i:=by omega
   rw[hp]at hp'
   rw[hs]at hq
   simp only[Option.some.injEq]at hp' hq
   subst hp' hq
   exact⟨hw,hl⟩
theorem YT(w:World)(g:bE)(hg:g.ok w)(iv:aY)(hiv:InV.ok w iv):Calls Tryz.prog 110 #[g.val,iv.val] w (AX w (Mv g (iv.l.map aj.xs))):=by
 have apx:=hiv.few
 refine fq Tryz.func110 [.agg [.c (.slice g.base g.l.length g.cap),ak g.out],.c iv.val] ?_
 (repeat' ((conv=>whnf)<;>first|refine aZ ?_|refine ag ?_ ?_<;>intro _))
 refine mY (f:=22) (bT g) Tryz.call22 (λρ w' hw=>xq w' g (ae hw λR h=>hg.later h)) (λhne=> ?_) (λhsp base cap=> ?_)
 ·have hq:Mv g (iv.l.map aj.xs)=((bT g).1,[]):=if_pos hne
  rw[hq]
  (repeat' ((conv=>whnf)<;>first|(show @dR _ _ _;refine bA hne ?_)|refine aZ ?_))
  conv=>whnf
  exact YQ (λ_ _ h=>h) rfl hne (λ_=>rfl)
 have hq:Mv g (iv.l.map aj.xs)=if(sj g (iv.l.map aj.xs)).1≠0 then((sj g (iv.l.map aj.xs)).1,[])else(0,(sj g (iv.l.map aj.xs)).2.getD g.out.toNat []):=if_neg (λh=>h hsp)
 rw[hq]
 obtain⟨hck,hsl,hsi⟩:=jA hsp
 obtain⟨hl1,xn,hout,hcl,hin⟩:=gX hck
 (repeat' ((conv=>whnf)<;>first|refine aZ ?_|refine ag ?_ ?_<;>intro _))
 refine oL (f:=24) (check g) Tryz.call24 (λρ w' hw=>pu w' g (ae hw λR h=>hg.later h.1)) (λhne=>absurd hck hne) (λ_ sv hm hsv=> ?_)
 have anw:sv.l.length=g.l.length:=by rw[<-hcl,<-hm];simp
 (repeat' ((conv=>whnf)<;>first|(show kv ..;(refine g_ g.l.length rfl rfl acQ aa ?_))|refine aZ ?_))
 refine Wp.loop (σ:=Nat×List aj×aY) 2 (λ⟨i,_,cur⟩=>[(2,.lp 0 0 0 0),(1,.c cur.val),(8,.c sv.val),(10,.os 1 g.l.length),(32,.c (.slice g.base g.l.length g.cap)),(33,ak g.l.length),(34,ak i)]) (λ⟨_,kn,_⟩=>[(1,.rows (aM (nR g.l.length kn)) 1 32),(0,.box [.c (.slice g.base g.l.length g.cap),ak g.out] 24)]) (λ⟨_,kn,_⟩=>((aH w).and ((jy sv).past w.heap.size)).and (lS w.heap.size kn))
  (λ⟨i,kn,cur⟩=>i<=g.l.length/\Ct g kn i/\InV.ok w cur/\jh (check g).2 (g.l.drop i) (kn.map aj.xs) (cur.l.map aj.xs)=sj g (iv.l.map aj.xs)) (λs=>g.l.length-s.1) (0,[],iv) [] aS (λs=>⟨rfl,rfl⟩) ⟨Nat.zero_le _,⟨rfl,λu hu=>by simp at hu,λj u s q hu=>by simp at hu⟩,hiv,rfl⟩ ⟨rfl,aU,⟨?_,aQ,trivial⟩,λR w h=>⟨⟨h.1.1,h.2⟩,wZ _ R w⟩⟩ ?_
 ·have:aM (nR g.l.length [])=List.replicate g.l.length [Value.slice none 0 0]:=by simp[aM,nR];exact .inr rfl
  show(1,bU.rows (aM (nR g.l.length [])) 1 32)∈_
  rw[this]
  exact aQ
 rintro⟨i,kn,cur⟩ ⟨hi,hkn,E8,hv⟩
 have hkl:=hkn.len
 have hcf:=E8.few
 by_cases hlt:i<g.l.length
 ·obtain⟨a,ha⟩:∃a,g.base=some a:=aI (j:=i) hg.rows Db
  have hnm:=List.getElem_mem hlt
  obtain⟨s,hs,hni⟩:=hin i g.l[i] (List.getElem?_eq_getElem hlt)
  obtain⟨p,hp,hpe,hp1,hp2⟩:=hsi i g.l[i] (List.getElem?_eq_getElem hlt)
  have hdrop:g.l.drop i=g.l[i]::g.l.drop (i+1):=List.drop_eq_getElem_cons hlt
  rw[hdrop]at hv
  have hrow:=bQ hlt
  have hpi:=xm hck (List.getElem?_eq_getElem hlt)
  generalize g.l[i]=n at*
  have hn:=hg.each n hnm
  obtain⟨⟨ha0,ajI,hai⟩,⟨hb0,Wq,hbi⟩,cnt,DF,hpl⟩:=hpi
  have e1:(check g).2.getD i []=s:=by rw[List.getD_eq_getElem?_getD,hs];rfl
  rw[e1]at DF hpl
  have hti:((check g).2.take i).length=i:=by rw[List.length_take,hcl];omega
  have hform:=hni.form
  rw[hti]at hform
  have aao:(kn.map aj.xs).length=i:=by rw[List.length_map,hkl]
  obtain⟨t,ht,hts⟩:∃t,sv.l[n.a.toNat]? =some t/\t.xs=(check g).2.getD n.a.toNat []:=by
   have hlt2:n.a.toNat<sv.l.length:=by omega
   refine⟨sv.l[n.a.toNat],List.getElem?_eq_getElem hlt2,?_⟩
   rw[<-hm,List.getD_eq_getElem?_getD,List.getElem?_map,List.getElem?_eq_getElem hlt2];rfl
  have htm:t∈sv.l:=List.mem_of_getElem? ht
  rw[<-hts]at hpl
  obtain⟨u,hu,fP⟩:∃u,sv.l[i]? =some u/\u.xs=s:=by
   have hs':=hs
   rw[<-hm,List.getElem?_map]at hs'
   cases hu:sv.l[i]? with
   |none=>rw[hu]at hs';simp at hs'
   |some u=>rw[hu]at hs';exact⟨u,rfl,by simpa using hs'⟩
  have hcnt:entries u.xs=cnt:=by rw[fP];exact DF
  have hcb:=(dL u.xs).2
  have hat:∀w',sv.ok w'->Calls Tryz.prog 50 #[n.jS,sv.val,.int .i64 i] w' (λe w''=>e= .returned (jX n (inA n t) (YP n t cnt) cnt)/\Ext w' w''):=λw' h=>adx w' n sv h i u t cnt hu ht ha0 hcnt
  have hnm:n.kind≠1->∀w',n.ok w'->t.ok w'->∀a b:aj,a.ok w'->b.ok w'->(∀x∈a.xs,bX x)->(∀x∈b.xs,bX x)->NumIn n ((check g).2.take i) a.xs b.xs->Calls Tryz.prog 146 #[jX n (inA n t) (YP n t cnt) cnt,a.val,b.val] w' (AU w' (kQ n cnt t.xs a.xs b.xs)):=λhk1 w' h1 h2 a b h3 h4 h5 h6 h7=>adz w' n _ s t cnt hpl hk1 h1 h2 a b h3 h4 h5 h6 h7
  obtain⟨ib,il,ic,hinv⟩:=aam n t
  have hfn:=adw n t cnt
  rw[hinv]at hat hnm
  by_cases hk1:n.kind=1
  ·have hf0:YP n t cnt= .nilFunc:=if_neg (by unfold dQ;omega)
   rw[hf0]at hat
   obtain⟨cb,cc,cl⟩:=cur
   cases cl with
   |nil=>
    have hv1:jh (check g).2 (n::g.l.drop (i+1)) (kn.map aj.xs) []=(12,[]):=by
     conv=>lhs;unfold jh
     rw[if_neg (λh=>h hk1)]
    have hv2:sj g (iv.l.map aj.xs)=(12,[]):=by rw[<-hv];exact hv1
    (repeat' ((conv=>whnf)<;>first|(show @dR _ _ _;refine bA rfl ?_)|(show bC ..;refine ax a i ha rfl hlt ?_)|refine afP ?_|refine afQ ?_|refine aZ ?_|refine ag ?_ ?_<;>intro _))
    all_goals(conv=>whnf)
    all_goals exact E9 (λ_ _ h=>h.1.1) rfl hv2 (λ_=>rfl)
   |cons x xs=>
    obtain⟨ca,hca⟩:∃a,cb=some a:=aI (j:=0) E8.rows (by show 0<(aM (x::xs)).length;rw[aR];exact Nat.succ_pos _)
    subst hca
    have abU:x.ok w:=E8.each x List.mem_cons_self
    have hcs:entries s=cnt:=by rw[<-fP];exact hcnt
    have hroom:=E8.room
    have hxl:xs.length+1<=cc:=hroom
    have hne0:¬((({base:=some ca,cap:=cc,l:=x::xs}:aY).l.length:Nat):Int)=0:=by show¬((xs.length+1:Nat):Int)=0;omega
    have hpos:1<=cnt:=by
     have hso:=hni.shape
     unfold bM at hso
     rw[if_pos (.inl hk1),Option.some.injEq]at hso
     have:=(dH hform).own (.inl hk1)
     rw[hso]at this
     omega
    by_cases hbad:(x.xs.length:Int)≠entries s\/foldI min x.xs<n.lo\/n.hi<foldI max x.xs
    ·have hv1:jh (check g).2 (n::g.l.drop (i+1)) (kn.map aj.xs) (x.xs::xs.map aj.xs)=(12,[]):=by
      conv=>lhs;unfold jh
      rw[if_neg (λh=>h hk1)]
      simp only
      rw[aao,e1,if_pos hbad]
     have hv2:sj g (iv.l.map aj.xs)=(12,[]):=by rw[<-hv];exact hv1
     rw[hcs]at hbad
     (repeat' ((conv=>whnf)<;>first|(show @dR _ _ _;refine cK hne0 ?_)|(show bC ..;(first|refine ax a i ha rfl hlt ?_|refine ax ca 0 rfl rfl aa ?_))|refine afP ?_|(show fu ..;refine aW (λR w' h=>au h.1.1 E8.rows) _ _ (j:=0) rfl rfl ?_)|refine afQ ?_|refine akN ?_|refine akO ?_|refine aZ ?_|refine ag ?_ ?_<;>intro _))
     all_goals(conv=>whnf)
     all_goals first|(exfalso;omega)|exact E9 (λ_ _ h=>h.1.1) rfl hv2 (λ_=>rfl)
    ·have hv1:jh (check g).2 (n::g.l.drop (i+1)) (kn.map aj.xs) (x.xs::xs.map aj.xs)=jh (check g).2 (g.l.drop (i+1)) (kn.map aj.xs++[x.xs]) (xs.map aj.xs):=by
      conv=>lhs;unfold jh
      rw[if_neg (λh=>h hk1)]
      simp only
      rw[aao,e1,if_neg hbad]
     have hv2:=hv1.symm.trans hv
     rw[hcs]at hbad
     have ZH:within p x.xs:=by
      rw[hpe]
      have hL:iZ (check g).2 n ((bT g).2.take i)=[n.lo,n.hi]:=by
       unfold iZ iC
       rw[if_neg (by unfold dQ;omega)]
       exact if_pos hk1
      unfold q8 je
      rw[hL]
      intro z hz
      have m1:foldI min [n.lo,n.hi]=min n.lo n.hi:=rfl
      have m2:foldI max [n.lo,n.hi]=max n.lo n.hi:=rfl
      have:=iQ hz
      have:=iR hz
      simp only[m1,m2]
      omega
     (repeat' ((conv=>whnf)<;>first|(show @dR _ _ _;refine cK hne0 ?_)|(show bC ..;(first|refine ax a i ha rfl hlt ?_|refine ax ca 0 rfl rfl aa ?_))|refine afP ?_|(show fu ..;refine aW (λR w' h=>au h.1.1 E8.rows) _ _ (j:=0) rfl rfl ?_)|(show bV ..;(refine aT i rfl hlt acv ?_))|refine afQ ?_|refine akN ?_|refine akO ?_|(show cO _ 14 ..;refine mE [] [] alF ?_ (h6:=List.nil_sublist _))|(show iK ..;refine og ?_)|(show aC _ 32 ..;refine J_ x.xs Tryz.call32 abU.fits abU.few (λρ w' hw=>AL w' x (ae hw λR h=>abU.later h.1.1) aa) (λy hy hys=> ?_))|(show nU ..;refine Wn aa aa ?_)|(show bS ..;refine vV hkl hlt ?_)|refine aZ ?_|refine ag ?_ ?_<;>intro _|refine And.intro ?_ ?_))
     all_goals(conv=>whnf)
     all_goals exact⟨(i+1,kn++[y],⟨some (if cc=1 then ca else ca.add 1),cc-1,xs⟩),[],⟨hlt,vW hkn hys hp hs (by rw[hy];exact ZH) (by rw[hy,hcs];omega),InV.agf E8 rfl,by rw[List.map_append,List.map_cons,List.map_nil,hy];exact hv2⟩,by simp only;omega,rfl,aU,aU,λR w' h=>⟨h.1.1,kW h.1.2 h.2⟩⟩
  ·have hv1:jh (check g).2 (n::g.l.drop (i+1)) (kn.map aj.xs) (cur.l.map aj.xs)=jh (check g).2 (g.l.drop (i+1)) (kn.map aj.xs++[kQ n cnt t.xs (kn.getD n.a.toNat fI).xs (kn.getD n.b.toNat fI).xs]) (cur.l.map aj.xs):=by
    conv=>lhs;unfold jh
    unfold uY
    rw[if_pos hk1,AY,AY,aao,e1,DF,hts];rfl
   rw[hv1]at hv
   have hcs:entries s=cnt:=by rw[<-fP];exact hcnt
   have kA:=oM hsp hkn aa n.a.toNat
   have kB:=oM hsp hkn aa n.b.toNat
   have agj:=YS hsp hkn aa (dH hform)
   have hwn:=Qf hpl hk1 agj kA.1 kB.1
   have hEq:iZ (check g).2 n ((bT g).2.take i)=iC n cnt t.xs (((bT g).2.take i).getD n.a.toNat (0,0)) (((bT g).2.take i).getD n.b.toNat (0,0)):=by
    unfold iZ
    rw[show((bT g).2.take i).length=i by rw[List.length_take,hsl];omega,e1,DF,hts];rfl
   have gA:=yB (n:=g.l.length) (l:=kn) (j:=n.a.toNat) aa aa
   have gB:=yB (n:=g.l.length) (l:=kn) (j:=n.b.toNat) aa aa
   rcases hfn with hf0|⟨f1,f2,f3,hf0⟩
   all_goals rw[hf0]at hat hnm
   all_goals
    (repeat' ((conv=>whnf)<;>first|(show bC ..;refine ax a i ha rfl hlt ?_)|refine afP ?_|refine afQ ?_|(show bV ..;(first|refine aT n.a.toNat aa aa acv ?_|refine aT n.b.toNat aa aa acv ?_|refine aT i rfl hlt acv ?_))|(show kC ..;(first|refine row_of _ _ gA rfl ?_|refine row_of _ _ gB rfl ?_))|(show iK ..;refine og ?_)|(show aC _ 146 ..;refine gP Tryz.call146 aj.val bn (λx=>x.xs=kQ n cnt t.xs (kn.getD n.a.toNat fI).xs (kn.getD n.b.toNat fI).xs/\x.a_) (λρ w' hw=>hnm hk1 w' (ae hw λR h=>hn.later h.1.1) (ae hw λR h=>(oF hsv aa h.1.2).each t htm) (kn.getD n.a.toNat fI) (kn.getD n.b.toNat fI) (ae hw λR h=>YR hkn.a_ h.2 _) (ae hw λR h=>YR hkn.a_ h.2 _) kA.2.1 kB.2.1 agj) (λx hx=> ?_))|(show bS ..;refine vV hkl hlt ?_)|(show cO _ 11 ..;refine mE [15] _ alE ?_)|refine aZ ?_|refine ag ?_ ?_<;>intro _))
    all_goals(conv=>whnf)
    all_goals exact⟨(i+1,kn++[x],cur),[],⟨hlt,vW hkn hx.2 hp hs (by rw[hx.1,hpe];unfold q8;rw[hEq];exact hwn.1) (by rw[hx.1,hcs,hwn.2]),E8,by rw[List.map_append,List.map_cons,List.map_nil,hx.1];exact hv⟩,by simp only;omega,rfl,aU,aU,λR w' h=>⟨h.1.1,kW h.1.2 h.2⟩⟩
 ·obtain rfl:i=g.l.length:=by omega
  rw[List.drop_length]at hv
  have hgO:=yB (n:=g.l.length) (l:=kn) (j:=g.out.toNat) aa aa
  by_cases hrest:0<cur.l.length
  ·have hv2:sj g (iv.l.map aj.xs)=(12,[]):=by
    rw[<-hv]
    conv=>lhs;unfold jh
    rw[if_pos (by simpa using hrest)]
   (repeat' ((conv=>whnf)<;>first|refine aZ ?_|refine ag ?_ ?_<;>intro _))
   conv=>whnf
   exact E9 (λ_ _ h=>h.1.1) rfl hv2 (λ_=>rfl)
  ·have hv2:sj g (iv.l.map aj.xs)=(0,kn.map aj.xs):=by
    rw[<-hv]
    conv=>lhs;unfold jh
    rw[if_neg (by simpa using hrest)]
   (repeat' ((conv=>whnf)<;>first|(show bV ..;(refine aT g.out.toNat aa aa acv ?_))|(show kC ..;refine row_of _ _ hgO rfl ?_)|refine aZ ?_|refine ag ?_ ?_<;>intro _))
   conv=>whnf
   have hko:g.out.toNat<kn.length:=by omega
   have hge:kn.getD g.out.toNat fI=kn[g.out.toNat]:=by rw[List.getD_eq_getElem?_getD,List.getElem?_eq_getElem hko];rfl
   exact aan (λ_ _ h=>h.1.1) rfl (by rw[hge];exact hkn.a_ _ (List.getElem_mem hko)) hv2 (AY _ _).symm (λR w' h=>by rw[hge];exact h.2 _ (List.getElem_mem hko))
end
section
variable {k cnt:Nat} {b:Int} {sh:List (List Int)} {A B A' B':Sp} {s t:List Int}
def nS(a b:aP):Bool:=decide (a.kind=b.kind)&&decide (a.a=b.a)&&decide (a.b=b.b)&&decide (a.shape=b.shape)&&decide (a.lo=b.lo)&&decide (a.hi=b.hi)&&decide (a.size=b.size)&&decide (a.data=b.data)&&decide (a.aG=b.aG)
theorem Oc{a b:aP}:nS a b=true↔a=b:=by
 unfold nS
 simp only[Bool.and_eq_true,decide_eq_true_eq]
 constructor
 ·rintro⟨⟨⟨⟨⟨⟨⟨⟨h1,h2⟩,h3⟩,h4⟩,h5⟩,h6⟩,h7⟩,h8⟩,h9⟩
  cases a;cases b;simp only at*;subst_vars;rfl
 ·rintro rfl;simp
def di:aP:=⟨0,0,0,[],0,0,0,[],[]⟩
def bZ(n:aP):List Int:=if n.kind=1\/n.kind=2 then []else if n.kind=6 then [n.a,n.b]else [n.a]
def bG(st:List Nat)(n:aP):aP:=
 if n.kind=1\/n.kind=2 then n else if n.kind=6 then {n with a:=st.getD n.a.toNat 0,b:=st.getD n.b.toNat 0}else {n with a:=st.getD n.a.toNat 0}
def oz(row:List aP)(k:Int):Bool:=decide ((row.getD k.toNat di).kind=2)
def gM(row:List aP)(n:aP):Bool:= !decide (n.kind=1\/n.kind=2)&&oz row n.a&&(decide (n.kind≠6)||oz row n.b)
def kI(s:List Int)(row:List aP)(n:aP):List Int:=kQ n.jg (entries s).toNat (row.getD n.a.toNat di).shape (row.getD n.a.toNat di).data (if n.kind=6 then(row.getD n.b.toNat di).data else [])
def j3(s:List Int)(row:List aP)(n:aP):aP:=if gM row n=true then⟨2,0,0,s,0,0,0,kI s row n,[]⟩else n
def xu(n:aP):List aP->Nat->Option Nat
 |[],_=>none
 |x::r,k=>if nS x n=true then some k else xu n r (k+1)
def j4(row:List aP)(n:aP):Option Nat:=if n.kind=1 then none else xu n row 0
def Cu(row:List aP)(n:aP):List aP×Nat:=match j4 row n with|some k=>(row,k)|none=>(row++[n],row.length)
def pI(s:List Int)(x:List aP×List Nat)(n:aP):List aP×List Nat:=
 ((Cu x.1 (j3 s x.1 (bG x.2 n))).1,x.2++[(Cu x.1 (j3 s x.1 (bG x.2 n))).2])
def pJ:List aP->List (List Int)->List aP×List Nat->List aP×List Nat
 |n::r,s::ss,x=>pJ r ss (pI s x n)
 |_,_,x=>x
theorem E_{n:aP}:∀{row:List aP} {j k:Nat},xu n row j=some k->j<=k/\row[k-j]? =some n
 |[],_,_,h=>by cases h
 |x::r,j,k,h=>by
  unfold xu at h
  split at h
  ·rename_i hs
   simp only[Option.some.injEq]at h
   subst h
   rw[Oc]at hs
   subst hs
   simp
  ·obtain⟨h1,h2⟩:=E_ h
   refine⟨by omega,?_⟩
   have:k-j=(k-(j+1))+1:=by omega
   rw[this,List.getElem?_cons_succ];exact h2
theorem Cv{row:List aP}{n:aP}(h:j4 row n=some k):n.kind≠1/\row[k]? =some n:=by
 unfold j4 at h
 split at h
 ·cases h
 ·rename_i hk
  exact⟨hk,by simpa using(E_ h).2⟩
def jI(n:ai)(a b:Int):ai:=⟨n.kind,a,b,n.shape,n.lo,n.hi,n.size,n.data,n.aG⟩
theorem xw{n:ai}{i:Nat}{a:Int}(h:bY n i=true)(ha:n.kind≠1->n.kind≠2->0<=a/\a<k)(ha2:n.kind=1\/n.kind=2->a=n.a)(hb:n.kind=6->0<=b/\b<k)(hb2:n.kind≠6->b=n.b):bY (jI n a b) k=true:=by
 have hkk:=(dH h).kind
 unfold bY at h|-
 have hk:n.kind=1\/n.kind=2\/n.kind=3\/n.kind=4\/n.kind=5\/n.kind=6\/n.kind=7\/n.kind=8\/n.kind=9:=by omega
 have e1:(jI n a b).kind=n.kind:=rfl
 have e2:(jI n a b).shape=n.shape:=rfl
 have e3:(jI n a b).data=n.data:=rfl
 have e4:(jI n a b).aG=n.aG:=rfl
 have e5:(jI n a b).size=n.size:=rfl
 have e6:(jI n a b).a=a:=rfl
 have e7:(jI n a b).b=b:=rfl
 have e8:(jI n a b).lo=n.lo:=rfl
 have e9:(jI n a b).hi=n.hi:=rfl
 rw[e1]
 rcases hk with hk|hk|hk|hk|hk|hk|hk|hk|hk
 all_goals repeat(first|rw[if_pos hk]at h|- |rw[if_neg aa]at h|-)
 all_goals simp only[jT,jW,Bool.true_or,Bool.false_or,Bool.true_and,Bool.and_true,Bool.and_eq_true,decide_eq_true_eq,e1,e2,e3,e4,e5,e6,e7,e8,e9]at h|-
 ·have:=ha2 aa;have:=hb2 aa;subst_vars;exact h
 ·have:=ha2 aa;have:=hb2 aa;subst_vars;exact h
 all_goals have hA:=ha aa aa
 case inr.inr.inr.inr.inr.inl=>have hB:=hb hk;refine⟨⟨h.1.1,hA⟩,hB⟩
 all_goals(have:=hb2 aa;subst_vars;grind)
theorem uZ{n:ai}{sh':List (List Int)}{a:Int}(hA:n.kind≠1->n.kind≠2->sh'.getD a.toNat []=sh.getD n.a.toNat [])(hB:n.kind=6->sh'.getD b.toNat []=sh.getD n.b.toNat []):bM (jI n a b) sh'=bM n sh:=by
 by_cases h12:n.kind=1\/n.kind=2
 ·unfold bM
  have:(jI n a b).kind=1\/(jI n a b).kind=2:=h12
  rw[if_pos h12,if_pos this];rfl
 ·have hA:=hA aa aa
  unfold bM
  have e1:(jI n a b).kind=n.kind:=rfl
  have e6:(jI n a b).a=a:=rfl
  have e7:(jI n a b).b=b:=rfl
  simp only[e1,e6,e7,hA]
  by_cases h6:n.kind=6
  ·simp only[hB h6];rfl
  ·simp only[if_neg h6];rfl
theorem AZ(n:ai)(a b:Int):gW (jI n a b)=gW n:=by unfold gW;rfl
theorem Od(n:ai)(a b:Int)(cnt:Nat)(t:List Int)(A B:Sp):iC (jI n a b) cnt t A B=iC n cnt t A B:=rfl
theorem YU(n:ai)(i:Int):bY n.pl.jg i=bY n i:=by unfold bY jT;rfl
theorem YV(n:ai):gW n.pl.jg=gW n:=by unfold gW;rfl
theorem YW(n:ai)(cnt:Nat)(t x y:List Int):kQ n.pl.jg cnt t x y=kQ n cnt t x y:=rfl
def tight(a b:Sp):Prop:=b.1<=a.1/\a.2<=b.2
theorem Kr(a:Sp):tight a a:=⟨Int.le_refl _,Int.le_refl _⟩
theorem Ta{a b c:Sp}(h1:tight a b)(h2:tight b c):tight a c:=⟨Int.le_trans h2.1 h1.1,Int.le_trans h1.2 h2.2⟩
theorem Ws{L L':List Int}(h1:1<=L'.length)(h:∀e∈L',foldI min L<=e/\e<=foldI max L):tight (je L') (je L):=⟨(h _ (rU h1)).1,(h _ (rV h1)).2⟩
theorem Tc{d a1 a2 b1 b2:Int}(h1:b1<=a1)(h2:a2<=b2)(h3:a1<=a2):min (d*b1) (d*b2)<=min (d*a1) (d*a2)/\max (d*a1) (d*a2)<=max (d*b1) (d*b2):=by
 rcases(by omega:0<=d\/d<=0)with hd|hd
 ·have:=Int.mul_le_mul_of_nonneg_left h1 hd
  have:=Int.mul_le_mul_of_nonneg_left h2 hd
  have:=Int.mul_le_mul_of_nonneg_left h3 hd
  omega
 ·have:=Int.mul_le_mul_of_nonpos_left hd h1
  have:=Int.mul_le_mul_of_nonpos_left hd h2
  have:=Int.mul_le_mul_of_nonpos_left hd h3
  omega
theorem Oe(h:tight A B)(h3:A.1<=A.2):∀{l:List Sp} {s1 s2 s3 s4:Int},s1<=s2->s2<=s3->s3<=s4->l.foldl (H9 B) s1<=l.foldl (H9 A) s2/\l.foldl (H9 A) s2<=l.foldl (H_ A) s3/\l.foldl (H_ A) s3<=l.foldl (H_ B) s4
 |[],_,_,_,_,h1,h2,h3=>⟨h1,h2,h3⟩
 |t::r,s1,s2,s3,s4,h1,h2,h4=>by
  simp only[List.foldl_cons]
  have:=Tc (d:=t.1) h.1 h.2 h3
  exact Oe h h3 (by unfold H9;omega) (by unfold H9 H_;omega) (by unfold H_;omega)
theorem Ku{x:Int}(h1:A.1<=x)(h2:x<=A.2):within A [x]:=λy hy=>by
 obtain rfl:y=x:=by simpa using hy
 exact⟨h1,h2⟩
theorem Td{n:ai}(hk:n.kind=6\/n.kind=7\/n.kind=8\/n.kind=9)(hA:tight A' A)(hA2:A'.1<=A'.2)(hB:n.kind=6->tight B' B/\B'.1<=B'.2):∀e∈eH n A' B',foldI min (eH n A B)<=e/\e<=foldI max (eH n A B):=by
 obtain⟨hA,hA'⟩:=hA
 have key:∀x,A'.1<=x->x<=A'.2->∀y,(n.kind=6->B'.1<=y/\y<=B'.2)->foldI min (eH n A B)<=fo n [x] (if n.kind=6 then [y]else []) 0/\fo n [x] (if n.kind=6 then [y]else []) 0<=foldI max (eH n A B):=λx h1 h2 y hy=>by
  refine Kj (cnt:=1) aa (λh=>by omega) (λ_=>rfl) (λh=>by rw[if_pos h];rfl) (Ku aa aa) ?_ (Nat.zero_lt_one)
  by_cases h6:n.kind=6
  ·rw[if_pos h6]
   have:=(hB h6).1
   have:=hy h6
   exact Ku (by unfold tight at*;omega) (by unfold tight at*;omega)
  ·rw[if_neg h6];exactλz hz=>by simp at hz
 intro e he
 have hE:∀x y,e=fo n [x] (if n.kind=6 then [y]else []) 0->A'.1<=x->x<=A'.2->(n.kind=6->B'.1<=y/\y<=B'.2)->foldI min (eH n A B)<=e/\e<=foldI max (eH n A B):=λx y h1 h2 h3 h4=>by rw[h1];exact key x h2 h3 y h4
 unfold eH at he
 rw[if_neg aa,if_neg aa]at he
 rcases hk with hk|hk|hk|hk
 ·have hb:=(hB hk).2
  rw[if_pos hk]at he
  have hN:∀x y,fo n [x] (if n.kind=6 then [y]else []) 0=x+y:=λx y=>by unfold fo;rw[if_neg aa,if_pos hk,if_pos hk];rfl
  simp only[List.mem_cons,List.not_mem_nil,or_false]at he
  rcases he with he|he
  ·exact hE A'.1 B'.1 Yq (Int.le_refl _) hA2 (λ_=>⟨Int.le_refl _,hb⟩)
  ·exact hE A'.2 B'.2 Yq hA2 (Int.le_refl _) (λ_=>⟨hb,Int.le_refl _⟩)
 ·rw[if_neg aa,if_pos hk]at he
  have hN:∀x y,fo n [x] (if n.kind=6 then [y]else []) 0=x*n.data.xs.getD 0 0:=λx y=>by unfold fo;rw[if_neg aa,if_neg aa,if_pos hk];rfl
  simp only[List.mem_cons,List.not_mem_nil,or_false]at he
  rcases he with he|he
  ·exact hE A'.1 0 (by rw[hN,Int.mul_comm];exact he) (Int.le_refl _) hA2 (λh=>by omega)
  ·exact hE A'.2 0 (by rw[hN,Int.mul_comm];exact he) hA2 (Int.le_refl _) (λh=>by omega)
 ·rw[if_neg aa,if_neg aa,if_pos hk]at he
  have hN:∀x y,fo n [x] (if n.kind=6 then [y]else []) 0=eX n.data.xs x:=λx y=>by unfold fo;rw[if_neg aa,if_neg aa,if_neg aa,if_pos hk];rfl
  have h2:∀x,e=eX n.data.xs x->A'.1<=x->x<=A'.2->foldI min (eH n A B)<=e/\e<=foldI max (eH n A B):=λx h1 h2 h3=>hE x 0 (by rw[hN];exact h1) h2 h3 (λh=>by omega)
  have h3:e∈[eX n.data.xs A'.1,eX n.data.xs A'.2]->foldI min (eH n A B)<=e/\e<=foldI max (eH n A B):=λhe=>by
   simp only[List.mem_cons,List.not_mem_nil,or_false]at he
   rcases he with he|he
   ·exact h2 _ he (Int.le_refl _) hA2
   ·exact h2 _ he hA2 (Int.le_refl _)
  split at he
  ·exact h3 he
  ·rcases List.mem_append.1 he with he|he
   ·exact h3 he
   ·obtain⟨x,hx,rfl⟩:=List.mem_map.1 he
    rw[Dx]at hx
    have q1:A'.1<=Wh n.data.xs A':=by unfold Wh;omega
    have q2:hiI n.data.xs A'<=A'.2:=by unfold hiI;omega
    exact h2 x rfl aa aa
 ·rw[if_neg aa,if_neg aa,if_neg aa]at he
  have hN:∀x y,fo n [x] (if n.kind=6 then [y]else []) 0=x:=λx y=>by unfold fo;rw[if_neg aa,if_neg aa,if_neg aa,if_neg aa];rfl
  simp only[List.mem_cons,List.not_mem_nil,or_false]at he
  rcases he with he|he
  ·exact hE A'.1 0 Yq (Int.le_refl _) hA2 (λh=>by omega)
  ·exact hE A'.2 0 Yq hA2 (Int.le_refl _) (λh=>by omega)
theorem Kv{n:ai}(h:eT n sh s t cnt)(hA:n.kind≠1->n.kind≠2->tight A' A/\A'.1<=A'.2)(hB:n.kind=6->tight B' B/\B'.1<=B'.2):tight (je (iC n cnt t A' B')) (je (iC n cnt t A B)):=by
 have hkind:=(dH h.node.form).kind
 refine Ws (AV h A' B') ?_
 by_cases hl:dQ n
 ·have hk:n.kind=3\/n.kind=4\/n.kind=5:=hl
  have hA:=hA aa aa
  have e1:iC n cnt t A B=kZ n cnt (bN n t) A:=if_pos hl
  have e2:iC n cnt t A' B'=kZ n cnt (bN n t) A':=if_pos hl
  rw[e1,e2]
  intro e he
  obtain⟨o,ho,he⟩:=List.mem_flatMap.1 he
  have hw:=Oe hA.1 hA.2 (l:=bN n t o) (Int.le_refl (dA n cnt o)) (Int.le_refl _) (Int.le_refl _)
  have m1:(bN n t o).foldl (H9 A) (dA n cnt o)∈kZ n cnt (bN n t) A:=List.mem_flatMap.2 ⟨o,ho,by simp⟩
  have m2:(bN n t o).foldl (H_ A) (dA n cnt o)∈kZ n cnt (bN n t) A:=List.mem_flatMap.2 ⟨o,ho,by simp⟩
  have:=iQ m1
  have:=iR m2
  simp only[List.mem_cons,List.not_mem_nil,or_false]at he
  rcases he with rfl|rfl<;>omega
 ·have e1:iC n cnt t A B=eH n A B:=if_neg hl
  have e2:iC n cnt t A' B'=eH n A' B':=if_neg hl
  rw[e1,e2]
  by_cases h12:n.kind=1\/n.kind=2
  ·have e3:eH n A' B'=eH n A B:=by
    unfold eH
    rcases h12 with h1|h2
    ·rw[if_pos h1,if_pos h1]
    ·rw[if_neg aa,if_pos h2,if_neg aa,if_pos h2]
   rw[e3]
   exactλe he=>⟨iQ he,iR he⟩
  ·unfold dQ at hl
   exact Td aa (hA aa aa).1 (hA aa aa).2 hB
theorem DI{n:ai}(h:eT n sh s t cnt)(A B:Sp):(je (iC n cnt t A B)).1<=(je (iC n cnt t A B)).2:=Ke (AV h A B)
end
structure oN where
 op:Int
 to_:Int
 a:Int
 b:Int
 k:Int
structure aap where
 lo:Int
 hi:Int
 slots:List Int
structure fF where
 inputs:List aap
 ay:List (List Int)
 code:List oN
def bI(s:fF)(op a b k:Int):fF×Int:=(⟨s.inputs,s.ay,s.code++[⟨op,s.code.length,a,b,k⟩]⟩,s.code.length)
def Cw(r:List Int):List (List Int)->Nat->Option Nat
 |[],_=>none
 |x::l,k=>if x=r then some k else Cw r l (k+1)
def fZ(s:fF)(r:List Int):fF×Int:=match Cw r s.ay 0 with
 |some k=>(s,k)
 |none=>(⟨s.inputs,s.ay++[r],s.code⟩,s.ay.length)
def nL(f:Nat->Int):List Int->Nat->List Int->List Int
 |[],_,row=>row
 |s::r,e,row=>nL f r (e+1) (row.set s.toNat (f e))
def jk(n:Nat)(slots:List Int)(f:Nat->Int):List Int:=nL f slots 0 (List.replicate n 0)
def bg(n:Nat)(s:fF)(slots:List Int)(f:Nat->Int):fF×Int:=fZ s (jk n slots f)
def tZ(n:Nat)(s:fF)(x:Int):fF×Int:=bI (fZ s (List.replicate n 0)).1 5 x 0 (fZ s (List.replicate n 0)).2
def lq(s:fF)(m:Option Int)(v:Int):fF×Int:=match m with
 |none=>(s,v)
 |some a=>bI s 3 a v 0
def qw(s:fF)(t:Int->Option Int)(x:Int)(i:Nat):fF×(Int->Option Int)×Int:=match t i with
 |some a=>(s,t,a)
 |none=>((bI s 8 x 0 i).1,λz=>if z=i then some (bI s 8 x 0 i).2 else t z,(bI s 8 x 0 i).2)
structure oo where
 s:fF
 t:Int->Option Int
 m:Option Int
def jH(n base:Nat)(d:List Int):List Int:=d.drop (n-base)++d.take (n-base)
def q9(n base:Nat)(x:Int)(y:oo)(i:Nat)(d:List Int):oo:=
 if d=[]then y else
 let q:=qw y.s y.t x i
 let p:=fZ q.1 (jH n base d)
 let l:=bI p.1 5 q.2.2 0 p.2
 let a:=lq l.1 y.m l.2
 ⟨a.1,q.2.1,some a.2⟩
def mZ(n base:Nat)(x:Int):List (List Int)->Nat->oo->oo
 |[],_,y=>y
 |d::r,i,y=>mZ n base x r (i+1) (q9 n base x y i d)
def sZ(n base:Nat)(x:Int)(y:oo)(ds:List (List Int)):oo:=
 let z:=mZ n base x ds 0 ⟨y.s,y.t,none⟩
 match z.m with
 |none=>⟨z.s,z.t,y.m⟩
 |some a=>
  let u:=if 0<base then bI z.s 8 a 0 base else(z.s,a)
  let v:=lq u.1 y.m u.2
  ⟨v.1,z.t,some v.2⟩
def kG(n g:Nat)(x:Int)(all:List (List Int)):Nat->Nat->oo->oo
 |0,_,y=>y
 |f+1,base,y=>if base<n then kG n g x all f (base+g) (sZ n base x y ((all.drop base).take (min n (base+g)-base)))else y
def mG(x:Int):Int->Option Int:=λz=>if z=0 then some x else none
def stepG:Nat->Nat->Nat->Nat
 |0,_,g=>g
 |f+1,n,g=>if g*g<n then stepG f n (2*g)else g
def oC(giant:Bool)(n:Nat):Nat:=if giant then stepG n n 1 else n
def jl(n:Nat)(giant:Bool)(s:fF)(x:Int)(all:List (List Int)):fF×Int:=
 let y:=kG n (oC giant n) x all n 0 ⟨s,mG x,none⟩
 match y.m with
 |none=>tZ n y.s x
 |some a=>(y.s,a)
def lu(n:Nat)(s:fF)(x:Int)(data slots:List Int):fF×Int:=
 let a:=data.getD 2 0
 let b:=data.getD 1 0
 let c:=data.getD 0 0
 let y:fF×Option Int:=if a=0 then(s,none)else
  let q:=bI s 6 x x 0
  if a=1 then(q.1,some q.2)else
  let p:=bg n q.1 slots (λ_=>a)
  let l:=bI p.1 5 q.2 0 p.2
  (l.1,some l.2)
 let z:fF×Option Int:=if b=0 then y else if b=1 then
     let u:=lq y.1 y.2 x
     (u.1,some u.2)
  else
   let p:=bg n y.1 slots (λ_=>b)
   let l:=bI p.1 5 x 0 p.2
   let u:=lq l.1 y.2 l.2
   (u.1,some u.2)
 let o:fF×Int:=match z.2 with
  |none=>tZ n z.1 x
  |some m=>(z.1,m)
 if c=0 then o else
  let p:=bg n o.1 slots (λ_=>c)
  bI p.1 4 o.2 0 p.2
structure Te(n:ai)(sh:List (List Int)):Prop where
 form:bY n sh.length=true
 shape:∃s,bM n sh=some s/\age s
 near:gW n=true
 made:Made n
section
variable {sh:List (List Int)} {u d e:aj} {i j:Nat} {s:List Int}
end
section
variable {l dX sh:List (List Int)} {k i:Nat} {row:List aP} {fJ:List Sp} {s:List Int} {g:bE}
abbrev gD(l:List (List Int))(k:Nat):List Int:=l.getD k []
abbrev gS(l:List Sp)(k:Nat):Sp:=l.getD k (0,0)
def jB(p:aP)(s:List Int)(dX:List (List Int))(fJ:List Sp):Sp:=je (iC p.jg (entries s).toNat (gD dX p.a.toNat) (gS fJ p.a.toNat) (gS fJ p.b.toNat))
structure dS(row:List aP)(dX:List (List Int))(fJ:List Sp):Prop where
 wz:dX.length=row.length
 agl:fJ.length=row.length
 pos:∀q∈dX,0<entries q
 node:∀k p,row[k]? =some p->iY p.jg (dX.take k) (gD dX k)
 span:∀k p,row[k]? =some p->gS fJ k=jB p (gD dX k) dX fJ/\ -1048576<=(gS fJ k).1/\(gS fJ k).2<=1048576
theorem uF{n:ai}(h:n.kind=1\/n.kind=2)(cnt cnt':Nat)(t t':List Int)(A B A' B':Sp):iC n cnt t A B=iC n cnt' t' A' B':=by
 have hl:¬dQ n:=by unfold dQ;omega
 have e1:iC n cnt t A B=eH n A B:=if_neg hl
 have e2:iC n cnt' t' A' B'=eH n A' B':=if_neg hl
 rw[e1,e2]
 unfold eH
 rcases h with h1|h2
 ·rw[if_pos h1,if_pos h1]
 ·rw[if_neg aa,if_pos h2,if_neg aa,if_pos h2]
theorem Cy{n:ai}(h:n.kind≠6)(cnt:Nat)(t:List Int)(A B B':Sp):iC n cnt t A B=iC n cnt t A B':=by
 unfold iC
 split
 ·rfl
 ·unfold eH
  rw[if_neg h,if_neg h]
theorem DJ{r:List (List Int)}(h:k<l.length):gD (l++r) k=gD l k:=by
 unfold gD;rw[List.getD_eq_getElem?_getD,List.getD_eq_getElem?_getD,List.getElem?_append_left h]
theorem DK{l r:List Sp}(h:k<l.length):gS (l++r) k=gS l k:=by
 unfold gS;rw[List.getD_eq_getElem?_getD,List.getD_eq_getElem?_getD,List.getElem?_append_left h]
theorem Ib{x:List Int}(h:k=l.length):gD (l++[x]) k=x:=by
 subst h;unfold gD;rw[List.getD_eq_getElem?_getD,List.getElem?_append_right (Nat.le_refl _),Nat.sub_self];rfl
theorem Qg{l:List Sp}{x:Sp}(h:k=l.length):gS (l++[x]) k=x:=by
 subst h;unfold gS;rw[List.getD_eq_getElem?_getD,List.getElem?_append_right (Nat.le_refl _),Nat.sub_self];rfl
theorem rW(h:k<i):gD (l.take i) k=gD l k:=by
 unfold gD;rw[List.getD_eq_getElem?_getD,List.getD_eq_getElem?_getD,List.getElem?_take,if_pos h]
theorem A7{l:List Sp}(h:k<i):gS (l.take i) k=gS l k:=by
 unfold gS;rw[List.getD_eq_getElem?_getD,List.getD_eq_getElem?_getD,List.getElem?_take,if_pos h]
theorem ajK(h:k<l.length):gD l k∈l:=Oa h
structure gY(p:aP)(k:Nat):Prop where
 a0:0<=p.a
 a1:p.kind≠1->p.kind≠2->p.a.toNat<k
 a2:p.kind=1\/p.kind=2->p.a=0
 b0:0<=p.b
 b1:p.kind=6->p.b.toNat<k
 b2:p.kind≠6->p.b=0
 kind:1<=p.kind/\p.kind<=9
theorem adB{n:ai}(h:bY n i=true):(n.kind=1\/n.kind=2->n.a=0)/\(n.kind≠6->n.b=0):=by
 have hkk:=(dH h).kind
 unfold bY at h
 have hk:n.kind=1\/n.kind=2\/n.kind=3\/n.kind=4\/n.kind=5\/n.kind=6\/n.kind=7\/n.kind=8\/n.kind=9:=by omega
 rcases hk with hk|hk|hk|hk|hk|hk|hk|hk|hk
 all_goals repeat(first|rw[if_pos hk]at h|rw[if_neg aa]at h)
 all_goals simp only[jT,Bool.true_or,Bool.false_or,Bool.true_and,Bool.and_true,Bool.and_eq_true,decide_eq_true_eq]at h
 all_goals exact⟨by omega,by omega⟩
theorem lC{p:aP}(h:bY p.jg k=true):gY p k:=by
 obtain⟨hA,hB,_⟩:=mW h
 obtain⟨lA,lB⟩:=adB h
 have hf:=dH h
 have e1:p.jg.kind=p.kind:=rfl
 have e2:p.jg.a=p.a:=rfl
 have e3:p.jg.b=p.b:=rfl
 have hfa:=hf.a
 have mI:=hf.b
 have hfk:=hf.kind
 rw[e1,e2]at*
 rw[e3]at*
 exact⟨hA.1,λh1 h2=>by have:=hfa h1 h2;omega,lA,hB.1,λh=>by have:=mI h;omega,lB,hfk⟩
theorem dS.ajL(h:dS row dX fJ){p:aP}(hk:row[k]? =some p):k<row.length/\(dX.take k).length=k:=by
 have hlt:=(List.getElem?_eq_some_iff.1 hk).1
 exact⟨hlt,by rw[List.length_take,h.wz];omega⟩
theorem dS.ahead(h:dS row dX fJ){p:aP}(hk:row[k]? =some p):gY p k:=by
 have hf:=(h.node k p hk).form
 rw[(h.ajL hk).2]at hf
 exact lC hf
theorem Kw{p:aP}(hn:iY p.jg sh s)(hp:∀q∈sh,0<entries q):eT p.jg sh s (gD sh p.a.toNat) (entries s).toNat:=by
 refine⟨hn,by have:=(dL s).1;omega,hp,λhl=>⟨rfl,hp _ (ajK ?_)⟩⟩
 have:=(lC hn.form).a1
 have hl:p.kind=3\/p.kind=4\/p.kind=5:=hl
 exact this aa aa
theorem dS.place(h:dS row dX fJ){p:aP}(hk:row[k]? =some p):eT p.jg (dX.take k) (gD dX k) (gD (dX.take k) p.a.toNat) (entries (gD dX k)).toNat:=
 Kw (h.node k p hk) λq hq=>h.pos q (List.mem_of_mem_take hq)
theorem dS.nil:dS [] [] []:=⟨rfl,rfl,λq hq=>by simp at hq,λk p hk=>by simp at hk,λk p hk=>by simp at hk⟩
theorem Ky{p:aP}(ha:gY p k){r1:List (List Int)}{r2:List Sp}(h1:k<=dX.length)(h2:k<=fJ.length):jB p s (dX++r1) (fJ++r2)=jB p s dX fJ:=by
 unfold jB
 by_cases h12:p.kind=1\/p.kind=2
 ·rw[uF (n:=p.jg) h12]
 ·have hA:=ha.a1 aa aa
  rw[DJ aa,DK aa]
  by_cases h6:p.kind=6
  ·have:=ha.b1 h6
   rw[DK aa]
  ·rw[Cy (n:=p.jg) h6]
theorem dS.snoc(h:dS row dX fJ){m:aP}(hn:iY m.jg dX s)(h1: -1048576<=(jB m s dX fJ).1)(h2:(jB m s dX fJ).2<=1048576):dS (row++[m]) (dX++[s]) (fJ++[jB m s dX fJ]):=by
 have l1:=h.wz
 have l2:=h.agl
 have hm:=lC hn.form
 refine⟨by simp[l1],by simp[l2],λq hq=> ?_,λk p hk=> ?_,λk p hk=> ?_⟩
 ·rcases List.mem_append.1 hq with hq|hq
  ·exact h.pos q hq
  ·simp at hq;subst hq
   exact jF (dH hn.form) h.pos hn.shape rfl
 ·rcases Nat.lt_or_ge k row.length with hlt|hge
  ·rw[List.getElem?_append_left hlt]at hk
   rw[List.take_append_of_le_length aa,DJ aa]
   exact h.node k p hk
  ·rw[List.getElem?_append_right hge]at hk
   have h0:k-row.length=0:=by
    rcases Nat.eq_zero_or_pos (k-row.length)with h|h
    ·exact h
    ·rw[List.getElem?_eq_none wy]at hk;cases hk
   rw[h0]at hk
   simp only[List.getElem?_cons_zero,Option.some.injEq]at hk
   subst hk
   have hk:k=dX.length:=by omega
   rw[Ib hk,hk,List.take_left]
   exact hn
 ·rcases Nat.lt_or_ge k row.length with hlt|hge
  ·rw[List.getElem?_append_left hlt]at hk
   have:=h.span k p hk
   rw[DK aa,DJ aa,Ky (h.ahead hk) aa aa]
   exact this
  ·rw[List.getElem?_append_right hge]at hk
   have h0:k-row.length=0:=by
    rcases Nat.eq_zero_or_pos (k-row.length)with h|h
    ·exact h
    ·rw[List.getElem?_eq_none wy]at hk;cases hk
   rw[h0]at hk
   simp only[List.getElem?_cons_zero,Option.some.injEq]at hk
   subst hk
   rw[Qg aa,Ib aa,Ky hm (Nat.le_refl _) aa]
   exact⟨rfl,h1,h2⟩
theorem dS.eG(h:dS row dX fJ):eG (row.map aP.jg) []=(0,dX):=by
 have l1:=h.wz
 have key:∀d k,row.length-k=d->k<=row.length->Go.Proofs.YtgndjjdeopfdkaaGreat.eG ((row.drop k).map aP.jg) (dX.take k)=(0,dX):=by
  intro d
  induction d with
  |zero=>
   intro k hd hk
   rw[List.drop_of_length_le aa,List.take_of_length_le aa]
   rfl
  |succ d ih=>
   intro k hd hk
   have hlt:k<row.length:=by omega
   have hn:=h.node k row[k] (List.getElem?_eq_getElem hlt)
   rw[List.drop_eq_getElem_cons hlt,List.map_cons,iA hn.form hn.shape hn.near]
   have:dX.take k++[gD dX k]=dX.take (k+1):=by
    have hlt2:k<dX.length:=by omega
    rw[List.take_succ_eq_append_getElem hlt2]
    unfold gD;rw[List.getD_eq_getElem?_getD,List.getElem?_eq_getElem hlt2];rfl
   rw[this]
   exact ih (k+1) aa aa
 simpa using key row.length 0 aa aa
theorem yD{p:aP}(ha:gY p k):jB p s dX fJ=je (iC p.jg (entries s).toNat (gD dX p.a.toNat) (gS (fJ.take k) p.a.toNat) (gS (fJ.take k) p.b.toNat)):=by
 unfold jB
 by_cases h12:p.kind=1\/p.kind=2
 ·rw[uF (n:=p.jg) h12]
 ·have hA:=ha.a1 aa aa
  rw[A7 aa]
  by_cases h6:p.kind=6
  ·rw[A7 (ha.b1 h6)]
  ·rw[Cy (n:=p.jg) h6]
theorem dS.fV(h:dS row dX fJ):fV dX (row.map aP.jg) []=(0,fJ):=by
 have l1:=h.wz
 have l2:=h.agl
 have key:∀d k,row.length-k=d->k<=row.length->Go.Proofs.YtgndjjdeopfdkaaGreat.fV dX ((row.drop k).map aP.jg) (fJ.take k)=(0,fJ):=by
  intro d
  induction d with
  |zero=>
   intro k hd hk
   rw[List.drop_of_length_le aa,List.take_of_length_le aa]
   rfl
  |succ d ih=>
   intro k hd hk
   have hlt:k<row.length:=by omega
   have hkk:row[k]? =some row[k]:=List.getElem?_eq_getElem hlt
   obtain⟨q1,q2,q3⟩:=h.span k row[k] hkk
   rw[List.drop_eq_getElem_cons hlt,List.map_cons]
   have e:je (iZ dX row[k].jg (fJ.take k))=gS fJ k:=by
    rw[q1,yD (h.ahead hkk)]
    unfold iZ
    rw[List.length_take,Nat.min_eq_left aa]
    rfl
   have e1:foldI min (iZ dX row[k].jg (fJ.take k))=(gS fJ k).1:=by rw[<-e];rfl
   have e2:foldI max (iZ dX row[k].jg (fJ.take k))=(gS fJ k).2:=by rw[<-e];rfl
   have:fJ.take k++[((gS fJ k).1,(gS fJ k).2)]=fJ.take (k+1):=by
    have hlt2:k<fJ.length:=by omega
    rw[List.take_succ_eq_append_getElem hlt2]
    unfold gS;rw[List.getD_eq_getElem?_getD,List.getElem?_eq_getElem hlt2];rfl
   unfold Go.Proofs.YtgndjjdeopfdkaaGreat.fV
   rw[e1,e2,if_neg aa,this]
   exact ih (k+1) aa aa
 simpa using key row.length 0 aa aa
theorem dS.check(h:dS row dX fJ)(h24:row.length<=24)(hg:g.l.map ai.pl=row)(h0:0<=g.out)(h1:g.out<row.length):Go.Proofs.YtgndjjdeopfdkaaGreat.check g=(0,dX):=by
 have hl:g.l.length=row.length:=by rw[<-hg];simp
 unfold Go.Proofs.YtgndjjdeopfdkaaGreat.check
 rw[if_neg aa,EX (m:=row.map aP.jg) [] ahL]
 exact h.eG
theorem Og:∀{l m:List ai} {acc:List Sp},l.map ai.pl=m.map ai.pl->fV sh l acc=fV sh m acc
 |[],[],_,_=>rfl
 |[],_::_,_,h=>by simp at h
 |_::_,[],_,h=>by simp at h
 |x::l,y::m,acc,h=>by
  simp only[List.map_cons,List.cons.injEq]at h
  have e:iZ sh x acc=iZ sh y acc:=by
   have:∀z:ai,iZ sh z acc=iZ sh z.pl.jg acc:=λz=>rfl
   rw[this x,this y,h.1]
  unfold fV
  rw[e]
  split
  ·rfl
  ·exact Og h.2
theorem dS.spans(h:dS row dX fJ)(h24:row.length<=24)(hg:g.l.map ai.pl=row)(h0:0<=g.out)(h1:g.out<row.length):bT g=(0,fJ):=by
 have hc:=h.check h24 hg h0 h1
 unfold bT
 rw[hc,if_neg fC,Og (m:=row.map aP.jg) ahL]
 exact h.fV
theorem zQ(hsp:(bT g).1=0):dS (g.l.map ai.pl) (check g).2 (bT g).2:=by
 obtain⟨hck,hsl,hsi⟩:=jA hsp
 obtain⟨hl1,xn,hout,hcl,hin⟩:=gX hck
 have adC:∀k p,(g.l.map ai.pl)[k]? =some p->∃n:ai,g.l[k]? =some n/\n.pl=p:=λk p hk=>by
  rw[List.getElem?_map]at hk
  cases hn:g.l[k]? with
  |none=>rw[hn]at hk;simp at hk
  |some n=>rw[hn]at hk;exact⟨n,hn,by simpa using hk⟩
 have hN:∀k p,(g.l.map ai.pl)[k]? =some p->iY p.jg ((check g).2.take k) (gD (check g).2 k):=λk p hk=>by
  obtain⟨n,hn,rfl⟩:=adC k p hk
  obtain⟨s,hs,h⟩:=hin k n hn
  have:gD (check g).2 k=s:=by unfold gD;rw[List.getD_eq_getElem?_getD,hs];rfl
  rw[this]
  exact⟨by rw[YU];exact h.form,h.shape,by rw[YV];exact h.near⟩
 refine⟨by rw[hcl,List.length_map],by rw[hsl,List.length_map],Ko hck,hN,λk p hk=> ?_⟩
 have hah:gY p k:=by
  have hf:=(hN k p hk).form
  obtain⟨n,hn,rfl⟩:=adC k p hk
  have:=(List.getElem?_eq_some_iff.1 hn).1
  rw[List.length_take,hcl,Nat.min_eq_left aa]at hf
  exact lC hf
 obtain⟨n,hn,rfl⟩:=adC k p hk
 obtain⟨s,hs,he,h1,h2⟩:=hsi k n hn
 have hkl:=(List.getElem?_eq_some_iff.1 hn).1
 have:gS (bT g).2 k=s:=by unfold gS;rw[List.getD_eq_getElem?_getD,hs];rfl
 rw[this]
 refine⟨?_,h1,h2⟩
 rw[he,yD hah]
 unfold q8 iZ
 rw[List.length_take,hsl,Nat.min_eq_left aa]
 rfl
end
section
variable {s:List Int} {k:Nat} {m:aP}
theorem adD{p:aP}{sh:List (List Int)}(h:iY p.jg sh s)(h2:p.kind=2):s=p.shape/\(p.data.length:Int)=entries p.shape/\0<entries p.shape/\∀x∈p.data,bX x:=by
 obtain⟨_,_,_,_,hd⟩:=mW h.form
 have hs:=h.shape
 unfold bM at hs
 have hk:p.jg.kind=2:=h2
 rw[if_pos (.inr hk),Option.some.injEq]at hs
 exact⟨hs.symm,hd h2,(dH h.form).own (.inr (.inl hk)),(rT h.near).1⟩
theorem vX{p:aP}(h2:p.kind=2)(s:List Int)(dX:List (List Int))(fJ:List Sp):jB p s dX fJ=je p.data:=by
 unfold jB
 have hk:p.jg.kind=2:=h2
 have hl:¬dQ p.jg:=by unfold dQ;omega
 have e1:iC p.jg (entries s).toNat (gD dX p.a.toNat) (gS fJ p.a.toNat) (gS fJ p.b.toNat)=eH p.jg (gS fJ p.a.toNat) (gS fJ p.b.toNat):=if_neg hl
 rw[e1]
 unfold eH
 rw[if_neg aa,if_pos hk]
 rfl
theorem Wt{p:aP}{i:Nat}(h2:p.kind=2)(h:bY p.jg i=true):bY p.jg k=true:=by
 have:=xw (k:=k) (a:=p.a) (b:=p.b) h (λ_ g=>absurd h2 g) (λ_=>rfl) (λg=>absurd (h2.symm.trans g) aS) (λ_=>rfl)
 exact this
theorem Wu{p:aP}{sh sh':List (List Int)}(h:iY p.jg sh s)(h2:p.kind=2):iY p.jg sh' s:=by
 refine⟨Wt h2 h.form,?_,h.near⟩
 have hs:=h.shape
 have hk:p.jg.kind=2:=h2
 unfold bM at hs|-
 rw[if_pos (.inr hk)]at hs|-
 exact hs
structure Std(sh:List (List Int))(sp:List Sp)(dX:List (List Int))(fJ:List Sp)(st:List Nat):Prop where
 lt:∀j,j<st.length->st.getD j 0<dX.length
 sh:∀j,j<st.length->gD dX (st.getD j 0)=gD sh j
 sp:∀j,j<st.length->tight (gS fJ (st.getD j 0)) (gS sp j)
theorem qz(st:List Nat)(n:aP):(bG st n).jg=jI n.jg (bG st n).a (bG st n).b/\(bG st n).kind=n.kind/\(n.kind≠1->n.kind≠2->(bG st n).a=st.getD n.a.toNat 0)/\(n.kind=1\/n.kind=2->(bG st n).a=n.a)/\(n.kind=6->(bG st n).b=st.getD n.b.toNat 0)/\(n.kind≠6->(bG st n).b=n.b):=by
 unfold bG
 by_cases h12:n.kind=1\/n.kind=2
 ·rw[if_pos h12]
  exact⟨rfl,rfl,λh1 h2=>by omega,λ_=>rfl,λh=>by omega,λ_=>rfl⟩
 ·rw[if_neg h12]
  by_cases h6:n.kind=6
  ·rw[if_pos h6]
   exact⟨rfl,rfl,λ_ _=>rfl,λh=>absurd h h12,λ_=>rfl,λh=>absurd h6 h⟩
  ·rw[if_neg h6]
   exact⟨rfl,rfl,λ_ _=>rfl,λh=>absurd h h12,λh=>absurd h h6,λ_=>rfl⟩
section
variable {l:List aP} {sh:List (List Int)} {sp:List Sp} {row:List aP} {dX:List (List Int)} {fJ:List Sp} {st:List Nat} {n:aP}
theorem Kz(hL:dS l sh sp)(hR:dS row dX fJ)(hst:Std sh sp dX fJ st)(hn:l[st.length]? =some n):iY (bG st n).jg dX (gD sh st.length)/\tight (jB (bG st n) (gD sh st.length) dX fJ) (gS sp st.length):=by
 obtain⟨e0,ek,ea,ea2,eb,eb2⟩:=qz st n
 have hni:=hL.node _ _ hn
 have hah:=hL.ahead hn
 have hti:=(hL.ajL hn).2
 have hf:=hni.form
 rw[hti]at hf
 have kk:n.jg.kind=n.kind:=rfl
 have ka:n.jg.a=n.a:=rfl
 have kb:n.jg.b=n.b:=rfl
 have hA:n.kind≠1->n.kind≠2->(bG st n).a.toNat=st.getD n.a.toNat 0:=λh1 h2=>by rw[ea h1 h2];omega
 have hB:n.kind=6->(bG st n).b.toNat=st.getD n.b.toNat 0:=λh=>by rw[eb h];omega
 refine⟨⟨?_,?_,?_⟩,?_⟩
 ·rw[e0]
  refine xw hf (λh1 h2=> ?_) (λh=> ?_) (λh=> ?_) (λh=> ?_)
  ·have:=hst.lt _ (hah.a1 h1 h2)
   rw[ea h1 h2];omega
  ·exact ea2 h
  ·have:=hst.lt _ (hah.b1 h)
   rw[eb h];omega
  ·exact eb2 h
 ·rw[e0,uZ (sh:=sh.take st.length) (λh1 h2=> ?_) (λh=> ?_)]
  ·exact hni.shape
  ·show gD dX (bG st n).a.toNat=gD (sh.take st.length) n.a.toNat
   rw[hA h1 h2,hst.sh _ (hah.a1 h1 h2),rW (hah.a1 h1 h2)]
  ·show gD dX (bG st n).b.toNat=gD (sh.take st.length) n.b.toNat
   rw[hB h,hst.sh _ (hah.b1 h),rW (hah.b1 h)]
 ·rw[e0,AZ];exact hni.near
 ·obtain⟨q1,q2,q3⟩:=hL.span _ _ hn
  rw[q1,yD hah]
  unfold jB
  rw[e0,Od]
  by_cases h12:n.kind=1\/n.kind=2
  ·rw[uF (n:=n.jg) h12 _ (entries (gD sh st.length)).toNat _ (gD sh n.a.toNat) _ _ (gS (sp.take st.length) n.a.toNat) (gS (sp.take st.length) n.b.toNat)]
   exact Kr _
  ·have ha1:=hah.a1 aa aa
   have hp:=hL.place hn
   rw[rW ha1]at hp
   rw[hA aa aa,hst.sh _ ha1,A7 ha1]
   have lo:∀j,j<st.length->(gS fJ (st.getD j 0)).1<=(gS fJ (st.getD j 0)).2:=λj hj=>by
    have hk:=hst.lt j hj
    rw[hR.wz]at hk
    have hk':=List.getElem?_eq_getElem hk
    rw[(hR.span _ _ hk').1]
    unfold jB
    by_cases g12:(row[st.getD j 0]).kind=1\/(row[st.getD j 0]).kind=2
    ·rw[uF (n:=(row[st.getD j 0]).jg) g12 _ _ _ _ _ _ (0,0) (0,0)]
     exact DI (hR.place hk') (0,0) (0,0)
    ·have:=(hR.ahead hk').a1 aa aa
     have hp2:=hR.place hk'
     rw[rW this]at hp2
     exact DI hp2 _ _
   refine Kv hp (λh1 h2=>⟨hst.sp _ ha1,lo _ ha1⟩) (λh6=> ?_)
   have h6':n.kind=6:=h6
   have hb1:=hah.b1 h6'
   rw[hB h6',A7 hb1]
   exact⟨hst.sp _ hb1,lo _ hb1⟩
theorem getD_some{row:List aP}(h:k<row.length):row[k]? =some (row.getD k di):=by
 rw[List.getD_eq_getElem?_getD,List.getElem?_eq_getElem h];rfl
structure Ic(row:List aP)(dX:List (List Int))(fJ:List Sp)(m:aP)(s:List Int):Prop where
 kind:m.kind≠1/\m.kind≠2
 Hz:m.a.toNat<row.length
 aK:(row.getD m.a.toNat di).kind=2
 aSh:gD dX m.a.toNat=(row.getD m.a.toNat di).shape
 Ki:((row.getD m.a.toNat di).data.length:Int)=entries (row.getD m.a.toNat di).shape
 aSp:gS fJ m.a.toNat=je (row.getD m.a.toNat di).data
 YX:m.kind=6->m.b.toNat<row.length
 bK:m.kind=6->(row.getD m.b.toNat di).kind=2
 bSh:m.kind=6->gD dX m.b.toNat=(row.getD m.b.toNat di).shape
 aai:m.kind=6->((row.getD m.b.toNat di).data.length:Int)=entries (row.getD m.b.toNat di).shape
 bSp:m.kind=6->gS fJ m.b.toNat=je (row.getD m.b.toNat di).data
theorem DL(hR:dS row dX fJ)(hk:k<row.length)(h2:(row.getD k di).kind=2):gD dX k=(row.getD k di).shape/\((row.getD k di).data.length:Int)=entries (row.getD k di).shape/\gS fJ k=je (row.getD k di).data/\(∀x∈(row.getD k di).data,bX x)/\0<entries (row.getD k di).shape:=by
 have hk':=getD_some hk
 obtain⟨q1,q2,q3,q4⟩:=adD (hR.node k _ hk') h2
 obtain⟨p1,_,_⟩:=hR.span k _ hk'
 rw[vX h2]at p1
 exact⟨q1,q2,p1,q4,q3⟩
theorem zR(hR:dS row dX fJ)(hm:iY m.jg dX s)(hk:gM row m=true):Ic row dX fJ m s:=by
 have hah:=lC hm.form
 rw[hR.wz]at hah
 unfold gM oz at hk
 simp only[Bool.and_eq_true,Bool.not_eq_true',decide_eq_false_iff_not,decide_eq_true_eq,Bool.or_eq_true]at hk
 obtain⟨⟨h12,hA⟩,hB⟩:=hk
 have a1:=hah.a1 aa aa
 obtain⟨c1,c2,c3,_⟩:=DL hR a1 hA
 refine⟨by omega,a1,hA,c1,c2,c3,hah.b1,λh=> ?_,λh=> ?_,λh=> ?_,λh=> ?_⟩
 ·exact hB.resolve_left (λg=>g h)
 all_goals
  obtain⟨c1,c2,c3,_⟩:=DL hR (hah.b1 h) (hB.resolve_left (λg=>g h))
  assumption
def KC(row:List aP)(m:aP):List Int:=if m.kind=6 then(row.getD m.b.toNat di).data else []
theorem Gd{l:List Int}:within (je l) l:=λx hx=>⟨iQ hx,iR hx⟩
theorem Tf(hR:dS row dX fJ)(h:Ic row dX fJ m s):NumIn m.jg dX (row.getD m.a.toNat di).data (KC row m):=
 ⟨λ_ _=>by show _=entries (gD dX m.a.toNat);rw[h.aSh];exact h.Ki,λh6=>by
  have h6':m.kind=6:=h6
  show _=entries (gD dX m.b.toNat)
  unfold KC
  rw[if_pos h6',h.bSh h6'];exact h.aai h6'⟩
theorem Wv{n:ai}(h:n.kind≠6)(cnt:Nat)(t a b b':List Int):kQ n cnt t a b=kQ n cnt t a b':=by
 unfold kQ
 split
 ·rfl
 ·unfold numsL fo
  simp only[if_neg h]
theorem Tg(hR:dS row dX fJ)(hm:iY m.jg dX s)(h:Ic row dX fJ m s):within (jB m s dX fJ) (kI s row m)/\(kI s row m).length=(entries s).toNat:=by
 have hp:=Kw hm hR.pos
 have hA:within (gS fJ m.a.toNat) (row.getD m.a.toNat di).data:=by rw[h.aSp];exact Gd
 have hB:within (gS fJ m.b.toNat) (KC row m):=by
  unfold KC
  by_cases h6:m.kind=6
  ·rw[if_pos h6,h.bSp h6];exact Gd
  ·rw[if_neg h6];exactλx hx=>by simp at hx
 have:=Qf (t:=⟨none,0,gD dX m.a.toNat⟩) hp h.kind.1 (Tf hR h) hA hB
 have e:kI s row m=kQ m.jg (entries s).toNat (gD dX m.a.toNat) (row.getD m.a.toNat di).data (KC row m):=by rw[h.aSh];rfl
 rw[e]
 exact this
theorem aaq{d:List Int}{sh:List (List Int)}(hs:0<entries s)(hd:(d.length:Int)=entries s)(hb:∀x∈d,bX x):iY (aP.jg ⟨2,0,0,s,0,0,0,d,[]⟩) sh s:=by
 refine⟨?_,?_,?_⟩
 ·unfold bY
  have e1:(aP.jg ⟨2,0,0,s,0,0,0,d,[]⟩).kind=2:=rfl
  rw[e1,if_neg aS,if_pos aS]
  simp only[jT,aP.jg]
  simp[hs,hd]
 ·unfold bM;rw[if_pos (.inr rfl)];rfl
 ·unfold gW qa
  simp only[aP.jg,Bool.and_eq_true,List.all_eq_true,decide_eq_true_eq]
  exact⟨⟨⟨hb,λx hx=>by simp at hx⟩,λx hx=>by simp at hx;subst hx;omega⟩,rfl⟩
theorem Qh(hL:dS l sh sp)(hR:dS row dX fJ)(hst:Std sh sp dX fJ st)(hn:l[st.length]? =some n):iY (j3 (gD sh st.length) row (bG st n)).jg dX (gD sh st.length)/\tight (jB (j3 (gD sh st.length) row (bG st n)) (gD sh st.length) dX fJ) (gS sp st.length):=by
 obtain⟨hm,ht⟩:=Kz hL hR hst hn
 unfold j3
 by_cases hk:gM row (bG st n)=true
 ·rw[if_pos hk]
  obtain⟨w1,w2⟩:=Tg hR hm (zR hR hm hk)
  have Ti:=(hL.span _ _ hn).2
  have hpos:=jF (dH hm.form) hR.pos hm.shape rfl
  have hne:1<=(kI (gD sh st.length) row (bG st n)).length:=by rw[w2];omega
  refine⟨aaq hpos (by rw[w2];omega) (λx hx=> ?_),?_⟩
  ·have:=w1 x hx
   unfold tight at ht
   unfold bX;omega
  ·rw[vX rfl]
   refine Ta ?_ ht
   exact⟨(w1 _ (rU hne)).1,(w1 _ (rV hne)).2⟩
 ·rw[if_neg hk];exact⟨hm,ht⟩
theorem Ww(hR:dS row dX fJ){p:aP}(hk:row[k]? =some p)(hm:iY p.jg dX s):gD dX k=s/\gS fJ k=jB p s dX fJ:=by
 have hah:=hR.ahead hk
 have hn:=hR.node k p hk
 have e:bM p.jg (dX.take k)=bM p.jg dX:=by
  have:=uZ (n:=p.jg) (sh:=dX) (sh':=dX.take k) (a:=p.a) (b:=p.b) (λh1 h2=>rW (hah.a1 h1 h2)) (λh6=>rW (hah.b1 h6))
  exact this
 have h1:=hn.shape
 rw[e,hm.shape,Option.some.injEq]at h1
 refine⟨h1.symm,?_⟩
 rw[(hR.span k p hk).1,h1]
theorem step_ok(hL:dS l sh sp)(hR:dS row dX fJ)(hst:Std sh sp dX fJ st)(hn:l[st.length]? =some n):∃KD KE,dS (pI (gD sh st.length) (row,st) n).1 KD KE/\Std sh sp KD KE (pI (gD sh st.length) (row,st) n).2:=by
 obtain⟨hm,ht⟩:=Qh hL hR hst hn
 have Ti:=(hL.span _ _ hn).2
 unfold pI Cu
 simp only
 generalize j3 (gD sh st.length) row (bG st n)=m at*
 cases hf:j4 row m with
 |some k=>
  simp only
  obtain⟨hk1,hk⟩:=Cv hf
  have hkl:=(List.getElem?_eq_some_iff.1 hk).1
  obtain⟨q1,q2⟩:=Ww hR hk hm
  refine⟨dX,fJ,hR,λj hj=> ?_,λj hj=> ?_,λj hj=> ?_⟩
  all_goals rw[List.length_append,List.length_singleton]at hj
  all_goals
   rcases Nat.lt_or_ge j st.length with hlt|hge
   ·rw[show(st++[k]).getD j 0=st.getD j 0 by rw[List.getD_eq_getElem?_getD,List.getD_eq_getElem?_getD,List.getElem?_append_left hlt]]
    first|exact hst.lt j hlt|exact hst.sh j hlt|exact hst.sp j hlt
   ·obtain rfl:j=st.length:=by omega
    rw[show(st++[k]).getD st.length 0=k by rw[List.getD_eq_getElem?_getD,List.getElem?_append_right (Nat.le_refl _),Nat.sub_self];rfl]
    first|(rw[hR.wz];exact hkl)|exact q1|(rw[q2];exact ht)
 |none=>
  simp only
  have hR':=hR.snoc hm ZO ZO
  have l1:=hR.wz
  have l2:=hR.agl
  refine⟨_,_,hR',λj hj=> ?_,λj hj=> ?_,λj hj=> ?_⟩
  all_goals rw[List.length_append,List.length_singleton]at hj
  all_goals
   rcases Nat.lt_or_ge j st.length with hlt|hge
   ·have hlt2:=hst.lt j hlt
    rw[show(st++[row.length]).getD j 0=st.getD j 0 by rw[List.getD_eq_getElem?_getD,List.getD_eq_getElem?_getD,List.getElem?_append_left hlt]]
    first|(rw[List.length_append];omega)|(rw[DJ aa];exact hst.sh j hlt)|(rw[DK aa];exact hst.sp j hlt)
   ·obtain rfl:j=st.length:=by omega
    rw[show(st++[row.length]).getD st.length 0=row.length by rw[List.getD_eq_getElem?_getD,List.getElem?_append_right (Nat.le_refl _),Nat.sub_self];rfl]
    first|(rw[List.length_append,List.length_singleton];omega)|(rw[Ib aa])|(rw[Qg aa];exact ht)
theorem adE(s:List Int)(x:List aP×List Nat)(n:aP):(pI s x n).2.length=x.2.length+1/\(pI s x n).1.length<=x.1.length+1/\x.1.length<=(pI s x n).1.length:=by
 unfold pI Cu
 refine⟨by simp,?_,?_⟩<;>split<;>simp
end
end
def Tj(row:List aP)(m:aP):List aP:=
 if m.kind=6 then [row.getD m.a.toNat di,row.getD m.b.toNat di,⟨m.kind,0,1,m.shape,m.lo,m.hi,m.size,m.data,m.aG⟩]
 else [row.getD m.a.toNat di,⟨m.kind,0,m.b,m.shape,m.lo,m.hi,m.size,m.data,m.aG⟩]
def DN(m:aP):Int:=if m.kind=6 then 2 else 1
theorem Wx{l:List Int}{c:Nat}(hc:l.length=c):((List.range c).map λo=>l.getD o 0)=l:=by
 subst hc
 apply List.ext_getElem
 ·simp
 ·intro i h1 h2
  simp only[List.getElem_map,List.getElem_range]
  rw[List.getD_eq_getElem?_getD,List.getElem?_eq_getElem h2];rfl
theorem Cz{p:aP}{sh known:List (List Int)}(h2:p.kind=2)(hd:(p.data.length:Int)=entries p.shape)(hs:sh.getD known.length []=p.shape):uY sh p.jg known=p.data:=by
 have hk:p.jg.kind=2:=h2
 have hl:¬dQ p.jg:=by unfold dQ;omega
 unfold uY
 rw[hs]
 have e1:kQ p.jg (entries p.shape).toNat (sh.getD p.jg.a.toNat []) (known.getD p.jg.a.toNat []) (known.getD p.jg.b.toNat [])=numsL p.jg (entries p.shape).toNat (known.getD p.jg.a.toNat []) (known.getD p.jg.b.toNat []):=if_neg hl
 rw[e1]
 have e2:fo p.jg (known.getD p.jg.a.toNat []) (known.getD p.jg.b.toNat [])=λo=>p.data.getD o 0:=by
  funext o
  unfold fo
  rw[if_pos hk];rfl
 unfold numsL
 rw[e2]
 exact Wx aa
theorem DR{sh:List (List Int)}:∀{l m:List ai} {known inp:List (List Int)},l.map ai.pl=m.map ai.pl->jh sh l known inp=jh sh m known inp
 |[],[],_,_,_=>rfl
 |[],_::_,_,_,h=>by simp at h
 |_::_,[],_,_,h=>by simp at h
 |x::l,y::m,known,inp,h=>by
  simp only[List.map_cons,List.cons.injEq]at h
  have e:uY sh x known=uY sh y known:=by
   have:∀z:ai,uY sh z known=uY sh z.pl.jg known:=λz=>rfl
   rw[this x,this y,h.1]
  have ek:x.kind=y.kind:=congrArg aP.kind h.1
  have el:x.lo=y.lo:=congrArg aP.lo h.1
  have eh:x.hi=y.hi:=congrArg aP.hi h.1
  unfold jh
  rw[e,ek,el,eh,DR h.2]
  cases inp with
  |nil=>rfl
  |cons z zs=>simp only[DR h.2]
theorem YY(row:List aP):(row.map aP.jg).map ai.pl=row:=by rw[List.map_map];exact List.map_id row
section
variable {row:List aP} {dX:List (List Int)} {fJ:List Sp}
theorem Oh(hR:dS row dX fJ){k:Nat}(hk:k<row.length)(h2:(row.getD k di).kind=2){r:List aP}{sh:List (List Int)}{sp:List Sp}(h:dS r sh sp):dS (r++[row.getD k di]) (sh++[gD dX k]) (sp++[gS fJ k]):=by
 have hk':=getD_some hk
 obtain⟨q1,q2,q3⟩:=hR.span k _ hk'
 have e:jB (row.getD k di) (gD dX k) sh sp=gS fJ k:=by rw[q1,vX h2,vX h2]
 have:=h.snoc (Wu (sh':=sh) (hR.node k _ hk') h2) (by rw[e];exact q2) (by rw[e];exact q3)
 rw[e]at this
 exact this
theorem YZ(hR:dS row dX fJ){m:aP}{s:List Int}(hm:iY m.jg dX s)(hk:Ic row dX fJ m s)(h1: -1048576<=(jB m s dX fJ).1)(h2:(jB m s dX fJ).2<=1048576){g:bE}(hg:g.l.map ai.pl=Tj row m)(ho:g.out=DN m):
 (check g).1=0/\gD (check g).2 g.out.toNat=s/\Mv g []=(0,kI s row m):=by
 have hah:=lC hm.form
 have R1:=Oh hR hk.Hz hk.aK dS.nil
 by_cases h6:m.kind=6
 ·have R2:=Oh hR (hk.YX h6) (hk.bK h6) R1
  have hn:iY (jI m.jg 0 1) (([]++[gD dX m.a.toNat])++[gD dX m.b.toNat]) s:=by
   refine⟨xw (i:=dX.length) hm.form (λ_ _=>⟨Int.le_refl _,by simp⟩) (λh=>absurd h (by show¬(m.kind=1\/m.kind=2);omega)) (λ_=>⟨by decide,by simp⟩) (λh=>absurd h6 h),?_,?_⟩
   ·exact(uZ (n:=m.jg) (sh:=dX) (a:=0) (b:=1) (λ_ _=>rfl) (λ_=>rfl)).trans hm.shape
   ·rw[AZ];exact hm.near
  have e:jB ⟨m.kind,0,1,m.shape,m.lo,m.hi,m.size,m.data,m.aG⟩ s (([]++[gD dX m.a.toNat])++[gD dX m.b.toNat]) (([]++[gS fJ m.a.toNat])++[gS fJ m.b.toNat])=jB m s dX fJ:=rfl
  have R3:=R2.snoc (m:=⟨m.kind,0,1,m.shape,m.lo,m.hi,m.size,m.data,m.aG⟩) hn (by rw[e];exact h1) (by rw[e];exact h2)
  unfold Tj at hg
  unfold DN at ho
  rw[if_pos h6]at hg ho
  have hc:=R3.check fC hg aa Yv
  have hs:=R3.spans fC hg aa Yv
  rw[hc,ho]
  refine⟨rfl,rfl,?_⟩
  have hv:sj g []=(0,[(row.getD m.a.toNat di).data,(row.getD m.b.toNat di).data,kI s row m]):=by
   unfold sj
   rw[hc]
   simp only
   rw[DR (m:=List.map aP.jg _) (hg.trans (YY _).symm)]
   simp only[List.map_cons,List.map_nil]
   have kA:(row.getD m.a.toNat di).jg.kind≠1:=by show(row.getD m.a.toNat di).kind≠1;rw[hk.aK];decide
   have kB:(row.getD m.b.toNat di).jg.kind≠1:=by show(row.getD m.b.toNat di).kind≠1;rw[hk.bK h6];decide
   have kM:(aP.jg ⟨m.kind,0,1,m.shape,m.lo,m.hi,m.size,m.data,m.aG⟩).kind≠1:=hk.kind.1
   unfold jh
   rw[if_pos kA,Cz hk.aK hk.Ki (by rw[<-hk.aSh];rfl)]
   unfold jh
   rw[if_pos kB,Cz (hk.bK h6) (hk.aai h6) (by rw[<-hk.bSh h6];rfl)]
   unfold jh
   rw[if_pos kM]
   have eN:uY (([]++[gD dX m.a.toNat])++[gD dX m.b.toNat]++[s]) (aP.jg ⟨m.kind,0,1,m.shape,m.lo,m.hi,m.size,m.data,m.aG⟩) ([]++[(row.getD m.a.toNat di).data]++[(row.getD m.b.toNat di).data])=kI s row m:=by
    unfold kI
    rw[if_pos h6,<-hk.aSh]
    rfl
   rw[eN]
   unfold jh
   rw[if_neg fC]
   rfl
  unfold Mv
  rw[hs,hv,ho]
  rfl
 ·have hn:iY (jI m.jg 0 m.b) ([]++[gD dX m.a.toNat]) s:=by
   refine⟨xw (i:=dX.length) hm.form (λ_ _=>⟨Int.le_refl _,by simp⟩) (λh=>absurd h (by show¬(m.kind=1\/m.kind=2);have:=hk.kind;omega)) (λh=>absurd h h6) (λ_=>rfl),?_,?_⟩
   ·exact(uZ (n:=m.jg) (sh:=dX) (a:=0) (b:=m.b) (λ_ _=>rfl) (λh=>absurd h h6)).trans hm.shape
   ·rw[AZ];exact hm.near
  have e:jB ⟨m.kind,0,m.b,m.shape,m.lo,m.hi,m.size,m.data,m.aG⟩ s ([]++[gD dX m.a.toNat]) ([]++[gS fJ m.a.toNat])=jB m s dX fJ:=by
   unfold jB
   exact congrArg je (Cy (n:=m.jg) h6 _ _ _ _ _)
  have R3:=R1.snoc (m:=⟨m.kind,0,m.b,m.shape,m.lo,m.hi,m.size,m.data,m.aG⟩) hn (by rw[e];exact h1) (by rw[e];exact h2)
  unfold Tj at hg
  unfold DN at ho
  rw[if_neg h6]at hg ho
  have hc:=R3.check fC hg aa Yv
  have hs:=R3.spans fC hg aa Yv
  rw[hc,ho]
  refine⟨rfl,rfl,?_⟩
  have hv:sj g []=(0,[(row.getD m.a.toNat di).data,kI s row m]):=by
   unfold sj
   rw[hc]
   simp only
   rw[DR (m:=List.map aP.jg _) (hg.trans (YY _).symm)]
   simp only[List.map_cons,List.map_nil]
   have kA:(row.getD m.a.toNat di).jg.kind≠1:=by show(row.getD m.a.toNat di).kind≠1;rw[hk.aK];decide
   have kM:(aP.jg ⟨m.kind,0,m.b,m.shape,m.lo,m.hi,m.size,m.data,m.aG⟩).kind≠1:=hk.kind.1
   unfold jh
   rw[if_pos kA,Cz hk.aK hk.Ki (by rw[<-hk.aSh];rfl)]
   unfold jh
   rw[if_pos kM]
   have eN:uY (([]++[gD dX m.a.toNat])++[s]) (aP.jg ⟨m.kind,0,m.b,m.shape,m.lo,m.hi,m.size,m.data,m.aG⟩) ([]++[(row.getD m.a.toNat di).data])=kI s row m:=by
    unfold kI
    rw[<-hk.aSh]
    exact Wv (n:=m.jg) h6 _ _ _ _ _
   rw[eN]
   unfold jh
   rw[if_neg fC]
   rfl
  unfold Mv
  rw[hs,hv,ho]
  rfl
end
abbrev alJ:Go.SX.DT:=(eF [0,1,2,3,4,5,6,7,8,109] .done)
abbrev alK:Go.SX.DT:=(eF [0,1,2,3,8,9,10,11] (.alt 4 (.alt 5 (eF [6,7,112,113,14,15,116,117,118,119] .done) (.one 12 (.alt 5 (eF [6,7,113,14,15,116,117,118,119] .done) (eF [113,14,15,105,6,7,116,117,118,119] .done)))) (.one 12 (.alt 4 (.alt 5 (eF [6,7,113,14,15,116,117,118,119] .done) (eF [113,14,15,105,6,7,116,117,118,119] .done)) (eF [113,14,15,104,105,6,7,116,117,118,119] .done)))))
structure m_(w:World)(b:Nat)(nb:Option Addr)(nc:Nat)(kept:List ai)(sb:Option Addr)(sc:Nat)(st:List Int):Prop where
 c0:w.cell? ⟨b,0,none⟩=some (.slice nb kept.length nc)
 c2:w.cell? ⟨b,2,none⟩=some (.slice sb st.length sc)
 nodes:bf w nb 9 (bq kept)
 st:bf w sb 1 (ints st)
theorem m_.later{w w':World}{R:Nat->Prop}{b:Nat}{nb:Option Addr}{nc:Nat}{kept:List ai}{sb:Option Addr}{sc:Nat}{st:List Int}(h:m_ w b nb nc kept sb sc st)(hb:(aH w).holds R w'):m_ w' b nb nc kept sb sc st:=
 ⟨by rw[jw (hb _ (iN h.c0)).2];exact h.c0,by rw[jw (hb _ (iN h.c2)).2];exact h.c2,au hb h.nodes,au hb h.st⟩
theorem pX{a:Addr}{S:bJ}{K:SV->Prop}{v:Value}(h:∀R w,S.holds R w->w.cell? a=some v)(hK:K (.c v)):fu a S K:=by rw[Dc];exact⟨v,h,hK⟩
def p_(st:List Nat):List Int:=st.map Int.ofNat
theorem p8{st:List Nat}{k:Nat}(h:k<st.length):(ints (p_ st))[k]? =some [.int .i64 (st.getD k 0)]:=by
 rw[d9 (by unfold p_;simpa using h)]
 unfold p_
 rw[List.getD_eq_getElem?_getD,List.getElem?_eq_getElem h]
 simp
def dw(st:List Nat)(n:ai):ai:=jI n (bG st n.pl).a (bG st n.pl).b
theorem Fa(st:List Nat)(n:ai):(dw st n).pl=bG st n.pl:=by
 unfold dw bG
 split
 ·rfl
 ·split<;>rfl
section
variable {w:World} {b:Nat} {nb sb:Option Addr} {nc sc:Nat} {kept:List ai} {st:List Nat}
theorem M4(hd:m_ w b nb nc kept sb sc (p_ st))(n:ai)(hn:gY n.pl st.length)(hf:st.length<=1000000):Calls Tryz.prog 54 #[.pointer (some ⟨b,0,none⟩),n.jS] w λe w'=>e= .returned (dw st n).jS/\Ext w w':=by
 have hkk:=hn.kind
 have kk:n.pl.kind=n.kind:=rfl
 have ka:n.pl.a=n.a:=rfl
 have kb:n.pl.b=n.b:=rfl
 have ha0:=hn.a0
 have hb0:=hn.b0
 rw[kk]at hkk
 have hsl:(p_ st).length=st.length:=by unfold p_;simp
 by_cases h12:n.kind=1\/n.kind=2
 ·have e:dw st n=n:=by unfold dw bG;rw[if_pos (show n.pl.kind=1\/n.pl.kind=2 from h12)];rfl
  rw[e]
  refine fq Tryz.func54 [.c (.pointer (some ⟨b,0,none⟩)),.agg (jM n)] ?_
  (repeat' ((conv=>whnf)<;>first|refine aN ?_|refine ag ?_ ?_<;>intro _))
  all_goals(conv=>whnf)
  all_goals exact bW (λ_ _ h=>h) (λ_=>rfl) rfl
 ·have a1:=hn.a1 aa aa
  obtain⟨sa,hsa⟩:∃a,sb=some a:=aI (j:=0) hd.st vD
  by_cases h6:n.kind=6
  ·have b1:=hn.b1 h6
   have e:dw st n=jI n (st.getD n.a.toNat 0) (st.getD n.b.toNat 0):=by unfold dw bG;rw[if_neg (show¬(n.pl.kind=1\/n.pl.kind=2)from h12),if_pos (show n.pl.kind=6 from h6)];rfl
   rw[e]
   refine fq Tryz.func54 [.c (.pointer (some ⟨b,0,none⟩)),.agg (jM n)] ?_
   (repeat' ((conv=>whnf)<;>first|(show cO _ 6 ..;refine mE [] [] alK ?_ (h6:=List.nil_sublist _))|(show iK ..;refine gm (List.nil_sublist _) (λ_ _ h=>h) ?_)|refine akP ?_|(show bC ..;(first|refine ax sa n.a.toNat hsa aa aa ?_|refine ax sa n.b.toNat hsa aa aa ?_))|(show fu ..;(first|refine aW (λR w' h=>by rw[<-hsa];exact au h hd.st) _ _ (p8 a1) rfl ?_|refine aW (λR w' h=>by rw[<-hsa];exact au h hd.st) _ _ (p8 b1) rfl ?_))|refine aN ?_|refine ag ?_ ?_<;>intro _|refine And.intro ?_ ?_))
   all_goals(conv=>whnf)
   all_goals exact bW (λ_ _ h=>h) (λ_=>rfl) rfl
  ·have e:dw st n=jI n (st.getD n.a.toNat 0) n.b:=by unfold dw bG;rw[if_neg (show¬(n.pl.kind=1\/n.pl.kind=2)from h12),if_neg (show¬n.pl.kind=6 from h6)];rfl
   rw[e]
   refine fq Tryz.func54 [.c (.pointer (some ⟨b,0,none⟩)),.agg (jM n)] ?_
   (repeat' ((conv=>whnf)<;>first|refine akP ?_|(show bC ..;refine ax sa n.a.toNat hsa aa aa ?_)|(show fu ..;(refine aW (λR w' h=>by rw[<-hsa];exact au h hd.st) _ _ (p8 a1) rfl ?_))|(show cO _ 2 ..;refine mE [9] _ alJ ?_)|refine aN ?_|refine ag ?_ ?_<;>intro _))
   all_goals(conv=>whnf)
   all_goals exact bW (λ_ _ h=>h) (λ_=>rfl) rfl
end
def inN(u:aj)(lo hi:Int):ai:=⟨1,0,0,u,lo,hi,0,fI,fI⟩
def anD(v:aj):ai:=⟨8,0,0,fI,0,0,0,v,fI⟩
def g2(nb:Option Addr)(nc:Nat)(u v:aj)(lo hi:Int):bE:=⟨nb,nc,[inN u lo hi,anD v],1⟩
theorem Y0{l:List Int}(h:∀x∈l,bX x):qa l=true:=List.all_eq_true.2 λx hx=>by have:=h x hx;unfold bX at this;simpa using this
theorem acK:Tryz.prog.cellsOf 58=2:=by kernel_rfl
theorem adG:Tryz.prog.cellsOf 3=1:=by kernel_rfl
theorem CE{x:Int}(h:i64 x):(Lit.int .i64 x).wf=true:=by
 simp[Lit.wf,IntKind.min,IntKind.max,IntKind.signed,IntKind.bits]
 exact⟨h.1,by have:=h.2;omega⟩
def Fb(s:Sp):List Lit:=[.int .i64 s.1,.int .i64 s.2]
theorem Y1(s:Sp)(h1:i64 s.1)(h2:i64 s.2):Tryz.prog.keyLits 2 58 [.int .i64 s.1,.int .i64 s.2]=some (Fb s):=by
 simp[Program.keyLits,Tryz.underlying58,acK,List.mapM_cons,Tryz.underlying3,adG,CE h1,CE h2]
 rfl
theorem aas{s t:Sp}(h1:i64 s.1)(h2:i64 s.2)(h3:i64 t.1)(h4:i64 t.2){ox oy:Operand}{K:SV->Prop}(hy:s=t->K (.c (.bool true)))(hn:s≠t->K (.c (.bool false))):l_ Tryz.prog (do eqGuard .eql 58 ox oy (jv s) (jv t);binOp .eql 58 (jv s) (jv t)) K:=by
 have hK:K (.c (.bool (decide (s=t)))):=by
  by_cases h:s=t
  ·rw[decide_eq_true h];exact hy h
  ·rw[decide_eq_false h];exact hn h
 rw[wR]
 refine⟨_,λw=> ?_,hK⟩
 have g1:(eqGuard .eql 58 ox oy (jv s) (jv t)).run Tryz.prog w= .ok () w:=by
  have:Tryz.prog.eqGuardType Tryz.prog.depth 58=false:=by kernel_rfl
  simp[eqGuard,jv,this]
 obtain⟨r,q2,q3⟩:=run_equalIn_deep (P:=Tryz.prog) 9998 2 58 jf w 2 2 (jv s) (jv t) (Fb s) (Fb t) ahG ahG (Y1 s h1 h2) (Y1 t h3 h4)
 have hr:r=decide (s=t):=by
  have e:Fb s=Fb t↔s=t:=by
   obtain⟨a,b⟩:=s
   obtain⟨c,d⟩:=t
   simp[Fb]
  rw[e]at q3
  cases r with
  |true=>exact(decide_eq_true (q3.1 rfl)).symm
  |false=>exact(decide_eq_false (λh=>by have:=q3.2 h;cases this)).symm
 subst hr
 have h5:(Op.equal 58 (jv s) (jv t)).run Tryz.prog w= .ok (decide (s=t)) w:=q2
 simp only[Sem.run_bind,g1,Result.andThen_ok]
 simp[jv,binOp]at h5|-
 rw[h5];rfl
theorem DV(w:World)(n:ai):Calls Tryz.prog 147 #[n.jS] w λe w'=>e= .returned (jv (n.lo,n.hi))/\Ext w w':=by
 refine fq Tryz.func147 [.agg (jM n)] ?_
 (repeat' ((conv=>whnf)<;>first|refine aN ?_))
 all_goals(conv=>whnf)
 all_goals exact bW (λ_ _ h=>h) (λ_=>rfl) rfl
theorem aat(w:World)(m n:ai)(hm:m.ok w)(hn:n.ok w):Calls Tryz.prog 113 #[m.jS,n.jS] w λe w'=>e= .returned (.bool (nS m.pl n.pl))/\Ext w w':=by
 refine fq Tryz.func113 [.agg [ak m.kind,ak m.a,ak m.b,.c m.shape.val,ak m.lo,ak m.hi,ak m.size,.c m.data.val,.c m.aG.val],.agg (jM n)] ?_
 (repeat' ((conv=>whnf)<;>first|(show ku _ 147 [.agg [ak m.kind,ak m.a,ak m.b,.c m.shape.val,ak m.lo,ak m.hi,ak m.size,.c m.data.val,.c m.aG.val]] ..;refine iL (f:=147) Tryz.call147 (jv (m.lo,m.hi)) (λρ w' hw=>DV w' m) ?_)|(show ku _ 147 [.agg (jM n)] ..;refine iL (f:=147) Tryz.call147 (jv (n.lo,n.hi)) (λρ w' hw=>DV w' n) ?_)|(show l_ ..;((refine aas (s:=(m.lo,m.hi)) (t:=(n.lo,n.hi)) hm.kE hm.kF hn.kE hn.kF ?_ ?_<;>intro _)))|(show ku _ 62 [.c m.shape.val,.c n.shape.val] ..;((refine qX (f:=62) Tryz.call62 (decide (m.shape.xs=n.shape.xs)) (λρ w' hw=>qY w' m.shape n.shape (ae hw λR h=>hm.shape.later h) (ae hw λR h=>hn.shape.later h)) ?_ ?_<;>intro _)))|(show ku _ 62 [.c m.data.val,.c n.data.val] ..;((refine qX (f:=62) Tryz.call62 (decide (m.data.xs=n.data.xs)) (λρ w' hw=>qY w' m.data n.data (ae hw λR h=>hm.data.later h) (ae hw λR h=>hn.data.later h)) ?_ ?_<;>intro _)))|(show ku _ 62 [.c m.aG.val,.c n.aG.val] ..;((refine qX (f:=62) Tryz.call62 (decide (m.aG.xs=n.aG.xs)) (λρ w' hw=>qY w' m.aG n.aG (ae hw λR h=>hm.aG.later h) (ae hw λR h=>hn.aG.later h)) ?_ ?_<;>intro _)))|refine aZ ?_|refine ag ?_ ?_<;>intro _))
 all_goals(conv=>whnf)
 all_goals exact aX (λ_ _ h=>h) rfl (by simp_all [nS,ai.pl])
theorem Oj(w:World)(x n:ai)(c:Nat)(hx:x.ok w)(hn:n.ok w)(hc:bf w (some ⟨c,0,none⟩) 9 (bq [n])):Calls Tryz.prog 112 #[x.jS,.pointer (some ⟨c,0,none⟩)] w λe w'=>e= .returned (.bool (nS x.pl n.pl))/\Ext w w':=by
 refine fq Tryz.func112 [.agg [ak x.kind,ak x.a,ak x.b,.c x.shape.val,ak x.lo,ak x.hi,ak x.size,.c x.data.val,.c x.aG.val],.c (.pointer (some ⟨c,0,none⟩))] ?_
 (repeat' ((conv=>whnf)<;>first|(show iM ..;refine dO (j:=0) (xs:=bq [n]) (λR w' h=>au h hc) n.cells rfl rfl ?_)|(show aC _ 113 ..;refine aJ (f:=113) Tryz.call113 (.bool (nS x.pl n.pl)) (λρ w' hw=>aat w' x n (ae hw λR h=>hx.later h) (ae hw λR h=>hn.later h)) ?_)|refine aN ?_))
 all_goals(conv=>whnf)
 all_goals exact aX (λ_ _ h=>h) rfl rfl
def Mw(n:aP)(row:List aP):Int:=match xu n row 0 with|some k=>k|none=> -1
theorem Fe{n p:aP}{r:List aP}{k:Nat}:xu n (p::r) k=if nS p n=true then some k else xu n r (k+1):=rfl
theorem BN(w:World)(n:ai)(c:Nat)(hn:n.ok w)(hc:bf w (some ⟨c,0,none⟩) 9 (bq [n]))(nb:Option Addr)(nc:Nat)(kept:List ai)(hk:bf w nb 9 (bq kept))(hko:∀k∈kept,k.ok w)(nX:kept.length<=1000000):
 Calls Tryz.prog 111 #[.slice nb kept.length nc,.func (.func 112) #[] #[.pointer (some ⟨c,0,none⟩)]] w λe w'=>e= .returned (.int .i64 (Mw n.pl (kept.map ai.pl)))/\Ext w w':=by
 refine fq Tryz.func111 [.c (.slice nb kept.length nc),.c (.func (.func 112) #[] #[.pointer (some ⟨c,0,none⟩)])] ?_
 (repeat' ((conv=>whnf)<;>first|refine aN ?_|refine ag ?_ ?_<;>intro _))
 refine Wp.loop (σ:=Nat) 0 (λk=>[(0,.c (.slice nb kept.length nc)),(1,.c (.func (.func 112) #[] #[.pointer (some ⟨c,0,none⟩)])),(7,ak kept.length),(8,ak k)]) (λ_=>[]) (λ_=>aH w)
  (λk=>k<=kept.length/\xu n.pl ((kept.drop k).map ai.pl) k=xu n.pl (kept.map ai.pl) 0) (λk=>kept.length-k) 0 [] aS (λs=>⟨rfl,rfl⟩) ⟨by simp,rfl⟩ ⟨rfl,aU,trivial,λR w' h=>h⟩ ?_
 rintro k ⟨hkl,he⟩
 by_cases hlt:k<kept.length
 ·obtain⟨a,ha⟩:∃a,nb=some a:=aI (j:=k) hk Db
  rw[List.drop_eq_getElem_cons hlt,List.map_cons,Fe]at he
  have hrow:=bQ hlt
  have hxo:=hko _ (List.getElem_mem hlt)
  generalize kept[k]=x at*
  cases hs:nS x.pl n.pl with
  |true=>
   rw[if_pos hs]at he
   (repeat' ((conv=>whnf)<;>first|(show bC ..;refine ax a k ha rfl hlt ?_)|(show iM ..;(refine dO (λR w' h=>by rw[<-ha];exact au h hk) _ hrow rfl ?_))|(show aC _ 112 ..;(refine aJ (f:=112) Tryz.call112 (.bool true) (λρ w' hw=>by have:=Oj w' x n c (ae hw λR h=>hxo.later h) (ae hw λR h=>hn.later h) (ae hw λR h=>au h hc);rw[hs]at this;exact this) ?_))|refine aN ?_|refine ag ?_ ?_<;>intro _))
   all_goals(conv=>whnf)
   all_goals exact bW (λ_ _ h=>h) (λ_=>by unfold Mw;rw[<-he];rfl) rfl
  |false=>
   rw[if_neg (by rw[hs];simp)]at he
   (repeat' ((conv=>whnf)<;>first|(show bC ..;refine ax a k ha rfl hlt ?_)|(show iM ..;(refine dO (λR w' h=>by rw[<-ha];exact au h hk) _ hrow rfl ?_))|(show aC _ 112 ..;(refine aJ (f:=112) Tryz.call112 (.bool false) (λρ w' hw=>by have:=Oj w' x n c (ae hw λR h=>hxo.later h) (ae hw λR h=>hn.later h) (ae hw λR h=>au h hc);rw[hs]at this;exact this) ?_))|refine aN ?_|refine ag ?_ ?_<;>intro _))
   all_goals(conv=>whnf)
   all_goals exact⟨k+1,[],⟨hlt,he⟩,by omega,rfl,aU,trivial,λR w' h=>h⟩
 ·rw[List.drop_of_length_le aa]at he
  (repeat' ((conv=>whnf)<;>first|refine aN ?_|refine ag ?_ ?_<;>intro _))
  conv=>whnf
  exact bW (λ_ _ h=>h) (λ_=>by unfold Mw;rw[<-he];rfl) rfl
section
variable {row:List aP} {k j b r nc sc i:Nat} {s s1:Nat->Bool} {w:World} {nb sb:Option Addr} {kept:List ai} {st:List Int} {H:Heap} {S:bJ} {B:Base} {tb:List (Nat×TI)}
inductive Reach(row:List aP):Nat->Nat->Prop
 |refl (k:Nat):Reach row k k
 |step {k j:Nat} {t:Int} (h:Reach row k j) (ht:t∈bZ (row.getD j di)):Reach row k t.toNat
theorem Reach.head{t:Int}(ht:t∈bZ (row.getD k di))(h:Reach row t.toNat j):Reach row k j:=by
 induction h with
 |refl=>exact .step (.refl k) ht
 |step _ h2 ih=>exact .step ih h2
def t_(s:Nat->Bool):Int->Option Value:=λj=>if 0<=j/\s j.toNat=true then some (.bool true)else none
def kY(s:Nat->Bool)(k:Nat):Nat->Bool:=λj=>decide (j=k)||s j
theorem adH(s:Nat->Bool)(k:Nat):yg (t_ s) k (.bool true)=t_ (kY s k):=by
 funext j
 unfold yg t_ kY
 by_cases h:j=k
 ·subst h;rw[if_pos rfl];simp
 ·rw[if_neg h]
  by_cases h0:0<=j
  ·have:j.toNat≠k:=by omega
   simp[this,h0]
  ·rw[if_neg aa,if_neg aa]
theorem adI(s:Nat->Bool)(k:Nat):(t_ s k).getD (.bool false)= .bool (s k):=by
 unfold t_
 by_cases h:s k=true
 ·rw[if_pos ⟨by omega,by simpa using h⟩,h];rfl
 ·rw[if_neg Yu]
  have:s k=false:=by simpa using h
  rw[this];rfl
structure ng(row:List aP)(k:Nat)(s s':Nat->Bool):Prop where
 sub:∀j,s j=true->s' j=true
 at_:s' k=true
 closed:∀j,s' j=true->s j=false->∀t∈bZ (row.getD j di),s' t.toNat=true
 reach:∀j,s' j=true->s j=false->Reach row k j
theorem ng.same(h:s k=true):ng row k s s:=
 ⟨λ_ h=>h,h,λj h1 h2=>(by rw[h1]at h2;cases h2),λj h1 h2=>(by rw[h1]at h2;cases h2)⟩
theorem Gf(s:Nat->Bool)(k:Nat):kY s k k=true:=by simp[kY]
theorem Ol(h:kY s k j=true)(hj:s j=false):j=k:=by
 unfold kY at h;rw[hj]at h;simpa using h
theorem ng.none(h:bZ (row.getD k di)=[]):ng row k s (kY s k):=
 ⟨λj h=>by unfold kY;rw[h];simp,Gf s k,λj h1 h2 t ht=>(by rw[Ol h1 h2,h]at ht;cases ht),λj h1 h2=>(by rw[Ol h1 h2];exact .refl k)⟩
theorem Y4(h:∀j,kY s k j=true->s1 j=true):(∀j,s j=true->s1 j=true)/\s1 k=true:=
 ⟨λj hj=>h j (by unfold kY;rw[hj];simp),h k (Gf s k)⟩
theorem ng.one{a:Int}(h:bZ (row.getD k di)=[a])(h1:ng row a.toNat (kY s k) s1):ng row k s s1:=by
 obtain⟨q1,q2⟩:=Y4 h1.sub
 have new:∀j,s j=false->j≠k->kY s k j=false:=λj hj hk=>by unfold kY;rw[hj];simp[hk]
 refine⟨q1,q2,λj hj hs t ht=> ?_,λj hj hs=> ?_⟩
 ·by_cases hjk:j=k
  ·subst hjk;rw[h]at ht;simp at ht;subst ht;exact h1.at_
  ·exact h1.closed j hj (new j hs hjk) t ht
 ·by_cases hjk:j=k
  ·subst hjk;exact .refl _
  ·exact(h1.reach j hj (new j hs hjk)).head (by rw[h];simp)
theorem ng.two{a b:Int}{s2:Nat->Bool}(h:bZ (row.getD k di)=[a,b])(h1:ng row b.toNat (kY s k) s1)(h2:ng row a.toNat s1 s2):ng row k s s2:=by
 obtain⟨q1,q2⟩:=Y4 h1.sub
 have new:∀j,s j=false->j≠k->kY s k j=false:=λj hj hk=>by unfold kY;rw[hj];simp[hk]
 refine⟨λj hj=>h2.sub j (q1 j hj),h2.sub k q2,λj hj hs t ht=> ?_,λj hj hs=> ?_⟩
 ·by_cases hjk:j=k
  ·subst hjk;rw[h]at ht
   simp only[List.mem_cons,List.not_mem_nil,or_false]at ht
   rcases ht with rfl|rfl
   ·exact h2.at_
   ·exact h2.sub _ h1.at_
  ·cases h3:s1 j with
   |true=>exact h2.sub _ (h1.closed j h3 (new j hs hjk) t ht)
   |false=>exact h2.closed j hj h3 t ht
 ·by_cases hjk:j=k
  ·subst hjk;exact .refl _
  ·cases h3:s1 j with
   |true=>exact(h1.reach j h3 (new j hs hjk)).head (by rw[h];simp)
   |false=>exact(h2.reach j hj h3).head (by rw[h];simp)
theorem adJ(h:ng row k (λ_=>false) s)(j:Nat):s j=true↔Reach row k j:=by
 constructor
 ·exactλhj=>h.reach j hj rfl
 ·intro hr
  induction hr with
  |refl=>exact h.at_
  |step _ ht ih=>exact h.closed _ ih rfl _ ht
theorem m_.rest{w':World}{R:Nat->Prop}{m:Int->Option Value}(h:m_ w b nb nc kept sb sc st)(hm:kK r m w)(hr:(f_ w (λx=>x=r)).holds R w'):m_ w' b nb nc kept sb sc st:=
 ⟨KH hm h.c0 hr,KH hm h.c2 hr,I5 hm h.nodes hr,I5 hm h.st hr⟩
theorem aau:(Tryz.prog.info? 4).bind (·.zero)=some (.bool false):=by kernel_rfl
theorem Ru{K:SV->Prop}{n:Nat}(hi:(i,bU.ext (lg r (t_ s)))∈H){v:Bool}(hv:s k=v)(h:K (.c (.bool v))):I4 ⟨Tryz.prog,B,n,tb⟩ 112 (.c (.map (some r))) (ak k) false H S K:=by
 have hz:=aau
 cases ht:Tryz.prog.info? 4 with
 |none=>rw[ht]at hz;cases hz
 |some ti=>
  rw[ht]at hz
  refine YA (z:= .bool false) Tryz.underlying112 Tryz.underlying3 ht (by simpa using hz) hi ?_
  rw[if_neg aS,adI,hv]
  exact h
theorem afS{K:Heap->Prop}{n:Nat}(hi:(i,bU.ext (lg r (t_ s)))∈H)(h:BD i (.ext (lg r (t_ (kY s k)))) K H):tN ⟨Tryz.prog,B,n,tb⟩ 112 (.c (.map (some r))) (ak k) (.c (.bool true)) H S K:=
 EO Tryz.underlying112 Tryz.underlying3 hi (by rw[adH];exact h)
theorem A8{v:SV}{nx:Nat}{p:(Nat->Bool)->Prop}(hB:B=⟨w,[]⟩)(hS:∀R w',S.holds R w'->(f_ w (λx=>x=r)).holds R w')(hi:(i,bU.ext (lg r (t_ s)))∈H)(hv:∀ρ,v.rf ρ= .tuple #[])(hp:p s):jE B v H S nx (Ig w r (λ_=> .tuple #[]) t_ p):=by
 subst hB
 exact dz λρ w' hw=>⟨s,hp,by rw[hv],(Y3 hw hS hi).1,(Y3 hw hS hi).2⟩
theorem KI{dX:List (List Int)}{fJ:List Sp}(hR:dS (kept.map ai.pl) dX fJ):∀(N k:Nat),k<N->k<kept.length->∀(w:World) (s:Nat->Bool),m_ w b nb nc kept sb sc st->kK r (t_ s) w->
 Calls Tryz.prog 57 #[.pointer (some ⟨b,0,none⟩),.int .i64 k,.map (some r)] w (Ig w r (λ_=> .tuple #[]) t_ (ng (kept.map ai.pl) k s))
 |0,k,h,_,_,_,_,_=>absurd h (Nat.not_lt_zero _)
 |N+1,k,hkN,hk,w,s,hd,hm=>by
  have ih:=KI (b:=b) (nb:=nb) (sb:=sb) (nc:=nc) (sc:=sc) (st:=st) (r:=r) hR N
  cases hs:s k with
  |true=>
   refine Es Tryz.func57 [] (λ_=>⟨none,0⟩) [.c (.pointer (some ⟨b,0,none⟩)),ak k,.c (.map (some r))] [(0,.ext (lg r (t_ s)))] (f_ w (λx=>x=r)) 1 (Y2 hm) ?_
   (repeat' ((conv=>whnf)<;>first|refine afR ?_|refine aN ?_))
   all_goals(conv=>whnf)
   all_goals exact A8 rfl (λ_ _ h=>h) aQ (λ_=>rfl) (ng.same hs)
  |false=>
   have hkr:k<(kept.map ai.pl).length:=by rw[List.length_map];exact hk
   have hah:=hR.ahead (getD_some hkr)
   have hrk:(kept.map ai.pl).getD k di=kept[k].pl:=by rw[List.getD_eq_getElem?_getD,List.getElem?_map,List.getElem?_eq_getElem hk];rfl
   rw[hrk]at hah
   have hrow:=bQ hk
   obtain⟨na,hna⟩:∃a,nb=some a:=aI (j:=k) hd.nodes Db
   generalize kept[k]=n at*
   have kk:n.pl.kind=n.kind:=rfl
   have ka:n.pl.a=n.a:=rfl
   have kb:n.pl.b=n.b:=rfl
   have ha0:=hah.a0
   have hb0:=hah.b0
   have ha1:=hah.a1
   have hb1:=hah.b1
   rw[kk]at ha1 hb1
   rw[ka]at ha0 ha1
   rw[kb]at hb0 hb1
   have ihz:∀(a:Int) (s':Nat->Bool),0<=a->a.toNat<k->∀w',m_ w' b nb nc kept sb sc st->kK r (t_ s') w'->Calls Tryz.prog 57 #[.pointer (some ⟨b,0,none⟩),.int .i64 a,.map (some r)] w' (Ig w' r (λ_=> .tuple #[]) t_ (ng (kept.map ai.pl) a.toNat s')):=λa s' h0 h1 w' g1 g2=>by
    have:=ih a.toNat aa aa w' s' g1 g2
    rwa[Int.toNat_of_nonneg h0]at this
   refine Es Tryz.func57 [] (λ_=>⟨none,0⟩) [.c (.pointer (some ⟨b,0,none⟩)),ak k,.c (.map (some r))] [(0,.ext (lg r (t_ s)))] (f_ w (λx=>x=r)) 1 (Y2 hm) ?_
   by_cases h12:n.kind=1\/n.kind=2
   ·have ht:bZ ((kept.map ai.pl).getD k di)=[]:=by rw[hrk];unfold bZ;rw[if_pos (show n.pl.kind=1\/n.pl.kind=2 from h12)]
    (repeat' ((conv=>whnf)<;>first|refine afR ?_|refine aiS ?_|refine aiT ?_|(show bC ..;refine ax na k hna rfl hk ?_)|refine aiU ?_|refine aN ?_|refine ag ?_ ?_<;>intro _))
    all_goals(conv=>whnf)
    all_goals exact A8 rfl (λ_ _ h=>h) aQ (λ_=>rfl) (ng.none ht)
   ·by_cases h6:n.kind=6
    ·have ht:bZ ((kept.map ai.pl).getD k di)=[n.a,n.b]:=by rw[hrk];unfold bZ;rw[if_neg (show¬(n.pl.kind=1\/n.pl.kind=2)from h12),if_pos (show n.pl.kind=6 from h6)];rfl
     (repeat' ((conv=>whnf)<;>first|refine afR ?_|refine aiS ?_|refine aiT ?_|(show bC ..;refine ax na k hna rfl hk ?_)|refine aiU ?_|(show aC _ 57 [_,ak n.b,_] ..;(refine DW aQ Tryz.call57 (λ_=> .tuple #[]) t_ (ng (kept.map ai.pl) n.b.toNat (kY s k)) (λρ w' hw hm'=>ihz n.b (kY s k) hb0 (hb1 h6) w' (ae hw λR h=>hd.rest hm h) hm') (λs1 h1=> ?_)))|(show aC _ 57 [_,ak n.a,_] ..;(refine DW aQ Tryz.call57 (λ_=> .tuple #[]) t_ (ng (kept.map ai.pl) n.a.toNat s1) (λρ w' hw hm'=>ihz n.a s1 ha0 (ha1 aa aa) w' (ae hw λR h=>hd.rest hm h) hm') (λs2 h2=> ?_)))|refine aN ?_|refine ag ?_ ?_<;>intro _))
     all_goals(conv=>whnf)
     all_goals exact A8 rfl (λ_ _ h=>h) aQ (λ_=>rfl) (ng.two ht h1 h2)
    ·have ht:bZ ((kept.map ai.pl).getD k di)=[n.a]:=by rw[hrk];unfold bZ;rw[if_neg (show¬(n.pl.kind=1\/n.pl.kind=2)from h12),if_neg (show¬n.pl.kind=6 from h6)];rfl
     (repeat' ((conv=>whnf)<;>first|refine afR ?_|refine aiS ?_|refine aiT ?_|(show bC ..;refine ax na k hna rfl hk ?_)|refine aiU ?_|(show aC _ 57 [_,ak n.a,_] ..;(refine DW aQ Tryz.call57 (λ_=> .tuple #[]) t_ (ng (kept.map ai.pl) n.a.toNat (kY s k)) (λρ w' hw hm'=>ihz n.a (kY s k) ha0 (ha1 aa aa) w' (ae hw λR h=>hd.rest hm h) hm') (λs1 h1=> ?_)))|refine aN ?_|refine ag ?_ ?_<;>intro _))
     all_goals(conv=>whnf)
     all_goals exact A8 rfl (λ_ _ h=>h) aQ (λ_=>rfl) (ng.one ht h1)
end
def vY(u:aj):bJ where
 holds R w:=u.xs=[]\/∃b off c,u.base=some ⟨b,off,none⟩/\R b/\w.heap[b]? =some (.cells c 3 (0,0))/\off+u.xs.length<=c.size/\∀(i:Nat) (v:Int),u.xs[i]? =some v->c[off+i]? =some (.int .i64 v)
 stable:=by
  intro R R' w w' hR hw h
  rcases h with h|⟨b,off,c,h1,h2,h3,h4⟩
  ·exact .inl h
  ·exact .inr ⟨b,off,c,h1,hR b h2,by rw[hw b h2];exact h3,h4⟩
theorem A9{u:aj}{R:Nat->Prop}{w:World}(h:(vY u).holds R w):(bn u).holds R w:=by
 refine⟨kN,?_⟩
 rcases h with h|⟨b,off,c,h1,h2,h3,h4,h5⟩
 ·left;rw[h];rfl
 ·refine .inr ⟨b,off,h1,h2,λi r hi j v hj=> ?_⟩
  have hil:i<u.xs.length:=by have:=(List.getElem?_eq_some_iff.1 hi).1;rwa[aF]at this
  rw[d9 hil]at hi
  simp only[Option.some.injEq]at hi
  subst hi
  cases j with
  |zero=>
   simp only[List.getElem?_cons_zero,Option.some.injEq]at hj
   subst hj
   have:=h5 i _ (List.getElem?_eq_getElem hil)
   simp[World.cell?,h3,this]
  |succ j=>simp at hj
theorem Tk{w w':World}{v:Value}{xs:List Int}(h:j_ w w' v 1 3 (ints xs))(hf:∀x∈xs,i64 x)(hl:xs.length<=1000000):
 ∃u:aj,u.xs=xs/\u.a_/\v=u.val/\(vY u).holds (λb=>w.heap.size<=b/\b<w'.heap.size) w':=by
 obtain⟨l,e2,F,hF,hr,hcap,hent⟩:=h
 refine⟨⟨l.base,l.cap,xs⟩,rfl,⟨hf,by rw[aF]at hcap;exact hcap,hl⟩,by rw[e2];simp[aj.val,aF],?_⟩
 rw[aF]at hcap
 rcases hent with⟨h1,h2,_⟩|⟨b,off,c,h1,h2,h3,h4,h5⟩
 ·exact .inl (List.eq_nil_of_length_eq_zero (by show xs.length=0;omega))
 ·refine .inr ⟨b,off,c,h1,⟨hF b ((h2 b).2 rfl),iU h3⟩,h3,by show off+xs.length<=c.size;omega,λi v hi=> ?_⟩
  have hil:=(List.getElem?_eq_some_iff.1 hi).1
  have hrow:=d9 (xs:=xs) (k:=i) hil
  have:=h5 i _ hrow 0 _ rfl
  have e:xs[i]=v:=by
   have h0:=List.getElem?_eq_getElem (l:=xs) hil
   have hi':xs[i]? =some v:=hi
   rw[h0]at hi';simpa using hi'
  rw[e]at this
  simpa using this
def Om(w:World)(xs:List Int)(e:Ending)(w':World):Prop:=
 ∃u:aj,(u.xs=xs/\u.a_)/\e= .returned u.val/\Ext w w'/\(vY u).holds (λb=>w.heap.size<=b/\b<w'.heap.size) w'
theorem CF(w:World)(x:aj)(hx:x.ok w):Calls Tryz.prog 32 #[x.val] w (Om w x.xs):=by
 by_cases hl:0<x.xs.length
 ·refine(AL w x hx hl).mono ?_
  rintro e w' ⟨v,rfl,he,hn⟩
  obtain⟨u,h1,h2,h3,h4⟩:=Tk hn hx.fits hx.few
  exact⟨u,⟨h1,h2⟩,by rw[h3],he,h4⟩
 ·obtain⟨xb,xc,xs⟩:=x
  obtain rfl:xs=[]:=List.eq_nil_of_length_eq_zero (by show xs.length=0;have:¬0<xs.length:=hl;omega)
  cases xb with
  |none=>
   refine fq Tryz.func32 [.c (.slice none 0 xc)] ?_
   (repeat' ((conv=>whnf)<;>first|refine jP (ti 32 rfl) rfl ?_|refine aN ?_))
   all_goals(conv=>whnf)
   all_goals exact dz λρ w' hw=>⟨fI,⟨rfl,λx hx=>by simp[fI]at hx,Nat.le_refl _,Nat.zero_le _⟩,rfl,aV hw (λ_ _ h=>h),.inl rfl⟩
  |some a=>
   have hc:Calls Tryz.prog 32 #[.slice (some a) 0 xc] w λe w'=>∃v,e= .returned v/\Ext w w'/\j_ w w' v 1 3 (ints []):=by
    refine fq Tryz.func32 [.c (.slice (some a) 0 xc)] ?_
    (repeat' ((conv=>whnf)<;>first|refine jP (ti 32 rfl) rfl ?_|refine mD (xs:=ints []) rfl (λR w' h=> .inl rfl) kN ?_|(show fG ..;refine b_ (of_decide_eq_true rfl) ?_)|(show sH ..;refine fO (of_decide_eq_true rfl) ?_)|refine aN ?_))
    all_goals(conv=>whnf)
    all_goals exact wY (λ_ _ h=>h) rfl (.head _) rfl
   refine hc.mono ?_
   rintro e w' ⟨v,rfl,he,hn⟩
   obtain⟨u,h1,h2,h3,h4⟩:=Tk hn (λx hx=>by simp at hx) (Nat.zero_le _)
   exact⟨u,⟨h1,h2⟩,by rw[h3],he,h4⟩
section
variable {k out:Nat} {row l:List aP} {sh:List (List Int)} {sp:List Sp} {st:List Nat}
def marks(ts:List Int)(nd:List Bool):List Bool:=ts.foldl (λnd t=>nd.set t.toNat true) nd
def Oo(row:List aP):Nat->List Bool->List Bool
 |0,nd=>nd
 |i+1,nd=>Oo row i (if nd.getD i false=true then marks (bZ (row.getD i di)) nd else nd)
def Tm(row:List aP)(out:Nat):List Bool:=Oo row row.length ((List.replicate row.length false).set out true)
def mi(row:List aP)(out:Nat):Nat->Bool:=λj=>(Tm row out).getD j false
theorem Qi(ts:List Int):∀nd:List Bool,(marks ts nd).length=nd.length:=by
 induction ts with
 |nil=>intro nd;rfl
 |cons t r ih=>intro nd;unfold marks at ih|-;rw[List.foldl_cons,ih];simp
theorem KJ{nd:List Bool}{j:Nat}(hk:k<nd.length):(nd.set k true).getD j false=if j=k then true else nd.getD j false:=by
 rw[List.getD_eq_getElem?_getD,List.getElem?_set]
 by_cases h:k=j
 ·subst h;rw[if_pos rfl,if_pos hk,if_pos rfl];rfl
 ·rw[if_neg h,if_neg (λe=>h e.symm),List.getD_eq_getElem?_getD]
theorem Oq:∀{ts:List Int} {nd:List Bool} {j:Nat},(∀t∈ts,t.toNat<nd.length)->((marks ts nd).getD j false=true↔nd.getD j false=true\/∃t∈ts,j=t.toNat)
 |[],nd,j,_=>by simp[marks]
 |t::r,nd,j,h=>by
  have ht:=h t List.mem_cons_self
  have ih:=Oq (ts:=r) (nd:=nd.set t.toNat true) (j:=j) (λu hu=>by rw[List.length_set];exact h u (List.mem_cons_of_mem _ hu))
  have e:marks (t::r) nd=marks r (nd.set t.toNat true):=rfl
  rw[e,ih,KJ ht]
  constructor
  ·rintro(h1|⟨u,hu,rfl⟩)
   ·split at h1
    ·rename_i hj;exact .inr ⟨t,List.mem_cons_self,hj⟩
    ·exact .inl h1
   ·exact .inr ⟨u,List.mem_cons_of_mem _ hu,rfl⟩
  ·rintro(h1|⟨u,hu,rfl⟩)
   ·left;split
    ·rfl
    ·exact h1
   ·rcases List.mem_cons.1 hu with rfl|hu
    ·left;rw[if_pos rfl]
    ·exact .inr ⟨u,hu,rfl⟩
theorem Tn(h:gY (row.getD k di) k):∀t∈bZ (row.getD k di),t.toNat<k:=by
 intro t ht
 unfold bZ at ht
 split at ht
 ·simp at ht
 ·rename_i h12
  split at ht
  ·rename_i h6
   simp only[List.mem_cons,List.not_mem_nil,or_false]at ht
   rcases ht with rfl|rfl
   ·exact h.a1 aa aa
   ·exact h.b1 h6
  ·simp only[List.mem_singleton]at ht
   subst ht
   exact h.a1 aa aa
structure adK(row:List aP)(out i:Nat)(nd:List Bool):Prop where
 len:nd.length=row.length
 reach:∀j,nd.getD j false=true->Reach row out j
 closed:∀j,i<=j->nd.getD j false=true->∀t∈bZ (row.getD j di),nd.getD t.toNat false=true
 out:nd.getD out false=true
theorem Tp(ha:∀k,k<row.length->gY (row.getD k di) k):∀(i:Nat) (nd:List Bool),i<=row.length->adK row out i nd->adK row out 0 (Oo row i nd)
 |0,nd,_,h=>h
 |i+1,nd,hi,h=>by
  unfold Oo
  refine Tp ha i _ aa ?_
  by_cases hb:nd.getD i false=true
  ·rw[if_pos hb]
   have hlt:=Tn (ha i aa)
   have hl:∀t∈bZ (row.getD i di),t.toNat<nd.length:=λt ht=>by have:=hlt t ht;rw[h.len];omega
   have hm:∀j,((marks (bZ (row.getD i di)) nd).getD j false=true↔nd.getD j false=true\/∃t∈bZ (row.getD i di),j=t.toNat):=λj=>Oq hl
   refine⟨by rw[Qi,h.len],λj hj=> ?_,λj hij hj t ht=> ?_,(hm _).2 (.inl h.out)⟩
   ·rcases(hm j).1 hj with h1|⟨t,ht,rfl⟩
    ·exact h.reach j h1
    ·exact .step (h.reach i hb) ht
   ·by_cases hji:j=i
    ·subst hji;exact(hm _).2 (.inr ⟨t,ht,rfl⟩)
    ·rcases(hm j).1 hj with h1|⟨u,hu,rfl⟩
     ·exact(hm _).2 (.inl (h.closed j aa h1 t ht))
     ·have:=hlt u hu;omega
  ·rw[if_neg hb]
   refine⟨h.len,h.reach,λj hij hj t ht=> ?_,h.out⟩
   by_cases hji:j=i
   ·subst hji;exact absurd hj hb
   ·exact h.closed j aa hj t ht
theorem adL(ha:∀k,k<row.length->gY (row.getD k di) k)(ho:out<row.length):adK row out 0 (Tm row out):=by
 have h0:∀j,((List.replicate row.length false).set out true).getD j false=true->j=out:=λj hj=>by
  rw[KJ (by simpa using ho)]at hj
  split at hj
  ·assumption
  ·rw[List.getD_eq_getElem?_getD,List.getElem?_replicate]at hj
   split at hj<;>simp at hj
 refine Tp ha row.length _ (Nat.le_refl _) ⟨by simp,λj hj=>by rw[h0 j hj];exact .refl _,λj hij hj=>by have:=h0 j hj;omega,by rw[KJ (by simpa using ho),if_pos rfl]⟩
theorem oO(ha:∀k,k<row.length->gY (row.getD k di) k)(ho:out<row.length)(j:Nat):mi row out j=true↔Reach row out j:=by
 have h:=adL ha ho
 constructor
 ·exact h.reach j
 ·intro hr
  induction hr with
  |refl=>exact h.out
  |step _ ht ih=>exact h.closed _ (Nat.zero_le _) ih _ ht
theorem adM{s:Nat->Bool}(ha:∀k,k<row.length->gY (row.getD k di) k)(ho:out<row.length)(h:ng row out (λ_=>false) s):s=mi row out:=by
 funext j
 have h1:=adJ h j
 have h2:=oO ha ho j
 cases hs:s j<;>cases hn:mi row out j<;>simp_all
theorem dS.CG{dX:List (List Int)}{fJ:List Sp}(h:dS row dX fJ):∀k,k<row.length->gY (row.getD k di) k:=λk hk=>h.ahead (getD_some hk)
def oP(need:Nat->Bool):List aP->Nat->List aP×List Nat->List aP×List Nat
 |[],_,x=>x
 |n::r,i,x=>oP need r (i+1) (if need i=true\/n.kind=1 then(x.1++[bG x.2 n],x.2++[x.1.length])else(x.1,x.2++[0]))
def kz(l:List aP)(sh:List (List Int))(out:Nat):List aP×Nat:=
 ((oP (mi (pJ l sh ([],[])).1 ((pJ l sh ([],[])).2.getD out 0)) (pJ l sh ([],[])).1 0 ([],[])).1,
  (oP (mi (pJ l sh ([],[])).1 ((pJ l sh ([],[])).2.getD out 0)) (pJ l sh ([],[])).1 0 ([],[])).2.getD ((pJ l sh ([],[])).2.getD out 0) 0)
structure tq(l:List aP)(sh:List (List Int))(sp:List Sp)(i:Nat)(row:List aP)(st:List Nat):Prop where
 rest:pJ (l.drop i) (sh.drop i) (row,st)=pJ l sh ([],[])
 len:st.length=i
 few:row.length<=i
 ok:∃dX fJ,dS row dX fJ/\Std sh sp dX fJ st
theorem yF(l:List aP)(sh:List (List Int))(sp:List Sp):tq l sh sp 0 [] []:=⟨rfl,rfl,Nat.zero_le _,[],[],dS.nil,λj hj=>absurd hj (Nat.not_lt_zero _),λj hj=>absurd hj (Nat.not_lt_zero _),λj hj=>absurd hj (Nat.not_lt_zero _)⟩
theorem tq.step{i:Nat}(hL:dS l sh sp)(h:tq l sh sp i row st){n:aP}(hn:l[i]? =some n):tq l sh sp (i+1) (pI (gD sh i) (row,st) n).1 (pI (gD sh i) (row,st) n).2:=by
 obtain⟨h1,rfl,h3,dX,fJ,hR,hS⟩:=h
 obtain⟨KD,KE,h5,h6⟩:=step_ok hL hR hS hn
 have hil:=(List.getElem?_eq_some_iff.1 hn).1
 obtain⟨s1,s2,_⟩:=adE (gD sh st.length) (row,st) n
 simp only at s1 s2
 refine⟨?_,s1,by omega,KD,KE,h5,h6⟩
 rw[<-h1,List.drop_eq_getElem_cons hil,List.drop_eq_getElem_cons (l:=sh) (i:=st.length) acV]
 have e1:l[st.length]=n:=by rw[List.getElem?_eq_getElem hil]at hn;simpa using hn
 have e2:sh[st.length]' acV=gD sh st.length:=by unfold gD;rw[List.getD_eq_getElem?_getD,List.getElem?_eq_getElem acV];rfl
 rw[e1,e2]
 rfl
theorem tq.done(h:tq l sh sp l.length row st):pJ l sh ([],[])=(row,st):=by
 rw[<-h.rest,List.drop_length];rfl
end
section
variable {w0:World} {i nx:Nat} {R0:List (List Value)} {T:TypeId} {H:Heap} {S:bJ} {K:SV->Heap->bJ->Nat->Prop}
theorem nM{n:Nat}(xs:List Int)(hN:∀R w,S.holds R w->(aH w0).holds R w)(he:R0=ints xs)(hn:n=xs.length)(hf:∀x∈xs,i64 x)(hl:xs.length<=1000000)(h:∀u:aj,u.xs=xs->u.a_->K (.c u.val) H (S.and ((bn u).past w0.heap.size)) nx):jd (.os i n) ((i,.rows R0 1 T)::H) S nx K:=by
 subst he hn
 exact kU w0.heap.size (λR w hS b hb=>(hN R w hS b hb).1) (λl hc=>h ⟨l.base,l.cap,xs⟩ rfl ⟨hf,by simpa[aF]using hc,hl⟩)
theorem Mx{n:Nat}(l:List ai)(hN:∀R w,S.holds R w->(aH w0).holds R w)(he:R0=bq l)(hn:n=l.length)(h:∀base cap,K (.c (.slice base l.length cap)) H (S.and ((eY base 9 (bq l)).past w0.heap.size)) nx):jd (.os i n) ((i,.rows R0 9 T)::H) S nx K:=by
 subst he hn
 exact kU w0.heap.size (λR w hS b hb=>(hN R w hS b hb).1) (λlc _=>h lc.base lc.cap)
theorem lD{n:Nat}(l:List aj)(hN:∀R w,S.holds R w->(aH w0).holds R w)(he:R0=aM l)(hn:n=l.length)(h:∀base cap,l.length<=cap->K (.c (.slice base l.length cap)) H (S.and ((eY base 1 (aM l)).past w0.heap.size)) nx):jd (.os i n) ((i,.rows R0 1 T)::H) S nx K:=by
 subst he hn
 exact kU w0.heap.size (λR w hS b hb=>(hN R w hS b hb).1) (λlc hc=>h lc.base lc.cap (by simpa[aR]using hc))
theorem Ih{xs:List Int}(h:(xs.all λx=>decide (-1000000<=x/\x<=1000000))=true):∀x∈xs,i64 x:=λx hx=>by
 have:=of_decide_eq_true (List.all_eq_true.1 h x hx)
 unfold i64;omega
theorem Tq{cx:Cx}{f:FuncId}{args:List SV}(r:Int×List Int)(hf:∀ar w,(callFunc f ar).run cx.P w= .ok (.enter f ar) w)
 (hc:∀ρ w',dY cx.B ρ nx H S w'->Calls cx.P f (SV.d_ ρ args).toArray w' (AX w' r))
 (h0:r.1≠0->K (.c (.tuple #[.slice none 0 0,.int .i64 r.1])) H S nx)
 (h1:r.1=0->∀x:aj,x.xs=r.2->x.a_->K (.c (.tuple #[x.val,.int .i64 0])) H (S.and ((bn x).past cx.B.w0.heap.size)) nx):aC cx f args H S nx K:=by
 rw[gI]
 refine⟨hf,λρ w hw=>(hc ρ w hw).mono ?_⟩
 rintro e w' (⟨hr,rfl,he⟩|⟨hr,x,⟨hx1,hx2⟩,rfl,he,hD⟩)
 ·exact⟨.c (.tuple #[.slice none 0 0,.int .i64 r.1]),ρ,H,S,nx,rfl,λ_ _=>rfl,Nat.le_refl _,SV.ji _,hw.ext he,h0 hr⟩
 ·exact⟨.c (.tuple #[x.val,.int .i64 0]),ρ,H,_,nx,rfl,λ_ _=>rfl,Nat.le_refl _,SV.ji _,hw.grow he hD,h1 hr x hx1 hx2⟩
end
abbrev ail:Go.SX.DT:=(eF [0,1,2,3,4,5,6,7,8] (.alt 9 (eF [10,111,112] .done) (eF [111,109,10,112] .done)))
abbrev aim:Go.SX.DT:=(eF [0,1,2,3,4,5,6,7,8,9,10,111,112,13,114,115,116] .done)
section
variable {w:World} {b:Nat} {nb sb:Option Addr} {nc sc:Nat} {kept:List ai} {st:List Int}
theorem MB(hd:m_ w b nb nc kept sb sc st)(k:Nat)(hk:k<kept.length)(bv:Bool)(hv:decide (kept[k].kind=2)=bv):Calls Tryz.prog 109 #[.pointer (some ⟨b,0,none⟩),.int .i64 k] w λe w'=>e= .returned (.bool bv)/\Ext w w':=by
 obtain⟨na,hna⟩:∃a,nb=some a:=aI (j:=k) hd.nodes Db
 have hrow:=bQ hk
 generalize kept[k]=n at*
 subst hv
 refine fq Tryz.func109 [.c (.pointer (some ⟨b,0,none⟩)),ak k] ?_
 by_cases h2:n.kind=2
 ·rw[decide_eq_true h2]
  (repeat' ((conv=>whnf)<;>first|refine akQ ?_|(show bC ..;refine ax na k hna rfl hk ?_)|(show fu ..;(refine PS (λR w' h=>by rw[<-hna];exact au h hd.nodes) _ _ hrow rfl ?_))|(show @dR _ _ _;refine bA h2 ?_)|refine aN ?_))
  all_goals(conv=>whnf)
  all_goals exact aX (λ_ _ h=>h) rfl rfl
 ·rw[decide_eq_false h2]
  (repeat' ((conv=>whnf)<;>first|refine akQ ?_|(show bC ..;refine ax na k hna rfl hk ?_)|(show fu ..;(refine PS (λR w' h=>by rw[<-hna];exact au h hd.nodes) _ _ hrow rfl ?_))|(show @dR _ _ _;refine cK h2 ?_)|refine aN ?_))
  all_goals(conv=>whnf)
  all_goals exact aX (λ_ _ h=>h) rfl rfl
def u6(kept:List ai)(k:Int):Bool:=decide ((kept.getD k.toNat (aP.jg di)).kind=2)
theorem A_{kept:List ai}{k:Int}(h:k.toNat<kept.length):decide (kept[k.toNat].kind=2)=u6 kept k:=by
 unfold u6;rw[List.getD_eq_getElem?_getD,List.getElem?_eq_getElem h];rfl
theorem Ot(kept:List ai)(k:Int):oz (kept.map ai.pl) k=u6 kept k:=by
 unfold u6 oz
 congr 1
 rw[List.getD_eq_getElem?_getD,List.getD_eq_getElem?_getD,List.getElem?_map]
 cases kept[k.toNat]? <;>rfl
theorem pY(hd:m_ w b nb nc kept sb sc st){k:Int}(h0:0<=k)(hk:k.toNat<kept.length){bv:Bool}(hv:u6 kept k=bv):Calls Tryz.prog 109 #[.pointer (some ⟨b,0,none⟩),.int .i64 k] w λe w'=>e= .returned (.bool bv)/\Ext w w':=by
 have:=MB hd k.toNat hk bv ((A_ hk).trans hv)
 rwa[Int.toNat_of_nonneg h0]at this
theorem ZJ(hd:m_ w b nb nc kept sb sc st)(n:ai)(hn:gY n.pl kept.length)(hk:gM (kept.map ai.pl) n.pl=false):Calls Tryz.prog 55 #[.pointer (some ⟨b,0,none⟩),n.jS] w λe w'=>e= .returned n.jS/\Ext w w':=by
 have hkk:=hn.kind
 have kk:n.pl.kind=n.kind:=rfl
 have ka:n.pl.a=n.a:=rfl
 have kb:n.pl.b=n.b:=rfl
 have ha0:=hn.a0
 have hb0:=hn.b0
 have ha1:=hn.a1
 have hb1:=hn.b1
 rw[kk]at hkk ha1 hb1
 rw[ka]at ha0 ha1
 rw[kb]at hb0 hb1
 unfold gM at hk
 rw[Ot,Ot,kk,ka,kb]at hk
 by_cases h12:n.kind=1\/n.kind=2
 ·refine fq Tryz.func55 [.c (.pointer (some ⟨b,0,none⟩)),.agg (jM n)] ?_
  (repeat' ((conv=>whnf)<;>first|refine aN ?_|refine ag ?_ ?_<;>intro _))
  all_goals(conv=>whnf)
  all_goals first|(exfalso;omega)|exact bW (λ_ _ h=>h) (λ_=>rfl) rfl
 ·have a1:=ha1 aa aa
  have hk':(u6 kept n.a&&(decide (n.kind≠6)||u6 kept n.b))=false:=by
   rw[decide_eq_false h12]at hk;simpa using hk
  cases hA:u6 kept n.a with
  |false=>
   refine fq Tryz.func55 [.c (.pointer (some ⟨b,0,none⟩)),.agg (jM n)] ?_
   (repeat' ((conv=>whnf)<;>first|(show aC _ 109 ..;refine aJ (f:=109) Tryz.call109 (.bool false) (λρ w' hw=>pY (ae hw λR h=>hd.later h) ha0 a1 hA) ?_)|refine aN ?_|refine ag ?_ ?_<;>intro _))
   all_goals(conv=>whnf)
   all_goals first|(exfalso;omega)|exact bW (λ_ _ h=>h) (λ_=>rfl) rfl
  |true=>
   rw[hA,Bool.true_and]at hk'
   simp only[Bool.or_eq_false_iff,decide_eq_false_iff_not,Decidable.not_not]at hk'
   obtain⟨h6,hB⟩:=hk'
   have b1:=hb1 h6
   by_cases hab:n.a=n.b
   ·rw[hab,hB]at hA;cases hA
   refine fq Tryz.func55 [.c (.pointer (some ⟨b,0,none⟩)),.agg (jM n)] ?_
   (repeat' ((conv=>whnf)<;>first|(show aC _ 109 [_,ak n.a] ..;refine aJ (f:=109) Tryz.call109 (.bool true) (λρ w' hw=>pY (ae hw λR h=>hd.later h) ha0 a1 hA) ?_)|(show aC _ 109 [_,ak n.b] ..;refine aJ (f:=109) Tryz.call109 (.bool false) (λρ w' hw=>pY (ae hw λR h=>hd.later h) hb0 b1 hB) ?_)|refine aN ?_|refine ag ?_ ?_<;>intro _))
   all_goals(conv=>whnf)
   all_goals first|(exfalso;omega)|exact bW (λ_ _ h=>h) (λ_=>rfl) rfl
end
end Go.Proofs.YtgndjjdeopfdkaaGreat

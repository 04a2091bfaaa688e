import Derived.DeepKeys
import Derived.Test.YtgndjjdeopfdkaaGreatKLowerMakes5
/- texts IW NG of the proof of LowerMakesSaid -/
set_option maxHeartbeats 16000000
set_option maxRecDepth 20000
set_option linter.unusedVariables false
set_option linter.unusedSimpArgs false
namespace Go.Proofs.YtgndjjdeopfdkaaGreat
open Go.SX Go.RowKit
section
def dX(n:ai):Prop:=n.ak=3\/n.ak=4\/n.ak=5
instance(n:ai):Decidable (dX n):=inferInstanceAs (Decidable (_\/_))
def inA(n:ai)(t:au):Value:=if dX n then t.val else .slice none 0 0
def ZZ(n:ai)(t:au)(cnt:Int):Value:=if dX n then sZ n t.val cnt else .nilFunc
theorem aap(n:ai)(t:au):∃b l c,inA n t= .slice b l c:=by
 unfold inA
 split
 ·exact⟨_,_,_,rfl⟩
 ·exact⟨_,_,_,rfl⟩
theorem acS(n:ai)(t:au)(cnt:Int):ZZ n t cnt= .nilFunc\/∃f a r,ZZ n t cnt= .func f a r:=by
 unfold ZZ sZ
 split
 ·right
  split
  ·exact⟨_,_,_,rfl⟩
  ·split
   ·exact⟨_,_,_,rfl⟩
   ·exact⟨_,_,_,rfl⟩
 ·exact .inl rfl
def iE(n:ai)(cnt:Nat)(t:List Int)(a b:Sp):List Int:=if dX n then lC n cnt (bS n t) a else fo n a b
def kN(n:ai)(cnt:Nat)(t a b:List Int):List Int:=if dX n then gF n cnt cnt (bS n t) a else mM n cnt a b
theorem I_{g:bG}(h:(check g).1=0):∀q∈(check g).2,0<az q:=by
 obtain⟨_,_,_,hcl,hin⟩:=iq h
 have key:∀i,i<=g.l.length->∀q∈(check g).2.take i,0<az q:=by
  intro i
  induction i with
  |zero=>intro _ q hq;simp at hq
  |succ i ih=>
   intro hi q hq
   obtain⟨s,hs,hni⟩:=hin i g.l[i] (List.getElem?_eq_getElem aa)
   obtain⟨hls,hse⟩:=List.getElem?_eq_some_iff.1 hs
   rw[List.take_succ_eq_append_getElem hls,hse]at hq
   rcases List.mem_append.1 hq with hq|hq
   ·exact ih aa q hq
   ·simp at hq;subst hq
    exact jF (dM hni.form) (ih aa) hni.ay rfl
 intro q hq
 have:=key g.l.length (Nat.le_refl _) q
 rw[List.take_of_length_le aa]at this
 exact this hq
structure fu(n:ai)(sh:List (List Int))(s t:List Int)(cnt:Nat):Prop where
 node:ja n sh s
 cnt:az s=cnt
 pos:∀q∈sh,0<az q
 first:dX n->sh.getD n.a.toNat []=t/\0<az t
variable {sh:List (List Int)} {s t:List Int} {cnt:Nat}
theorem fu.few{n:ai}(h:fu n sh s t cnt):1<=cnt/\cnt<=64:=by
 have h1:=jF (dM h.node.form) h.pos h.node.ay rfl
 have h2:=(dQ s).2
 have h3:=h.cnt
 omega
theorem fu.lin{n:ai}{t:au}(h:fu n sh s t.xs cnt)(hl:dX n):∃F P0,ahV n t cnt F P0:=
 aj1 h.node hl (h.first hl).1 (h.first hl).2 h.pos h.cnt
theorem afL(w:World)(n:ai)(sv:a_)(hs:sv.ok w)(i:Nat)(s t:au)(cnt:Nat)(hi:sv.l[i]? =some s)(hj:sv.l[n.a.toNat]? =some t)(h0:0<=n.a)(hc:az s.xs=cnt):Calls Tryz.prog 50 #[n.j3,sv.val,.int .i64 i] w λe w'=>e= .returned (jW n (inA n t) (ZZ n t cnt) cnt)/\Ext w w':=by
 by_cases hl:dX n
 ·have e1:inA n t=t.val:=if_pos hl
  have e2:ZZ n t cnt=sZ n t.val cnt:=if_pos hl
  rw[e1,e2,<-hc]
  exact ajp w n sv hs i n.a.toNat s t hi hj aa hl
 ·have e1:inA n t= .slice none 0 0:=if_neg hl
  have e2:ZZ n t cnt= .nilFunc:=if_neg hl
  rw[e1,e2,<-hc]
  unfold dX at hl
  exact ac2 w n sv hs i s hi aa
theorem afp(w:World)(n:ai)(sh:List (List Int))(s:List Int)(t:au)(cnt:Nat)(h:fu n sh s t.xs cnt)(hno:n.ok w)(hto:t.ok w)(a b:Sp)(ha:cK a.1/\cK a.2)(hb:cK b.1/\cK b.2):Calls Tryz.prog 51 #[jW n (inA n t) (ZZ n t cnt) cnt,jy a,jy b] w (qQ w n (iE n cnt t.xs a b)):=by
 by_cases hl:dX n
 ·obtain⟨F,P0,hL⟩:=h.lin hl
  have e2:ZZ n t cnt= .func (.func F) #[P0] #[]:=(if_pos hl).trans hL.fn
  have e3:iE n cnt t.xs a b=lC n cnt (bS n t.xs) a:=if_pos hl
  rw[e2,e3]
  exact acF w n _ F P0 cnt _ a b (hL.terms w hto hno) (hL.lin w hno) ha
 ·have e3:iE n cnt t.xs a b=fo n a b:=if_neg hl
  rw[e3]
  obtain⟨_,_,h7,h8,h2⟩:=nG h.node.form
  obtain⟨nd,nb,nlo,nhi,nle⟩:=r9 h.node.near
  have hkind:=(dM h.node.form).ak
  unfold dX at hl
  exact V3 w n hno.data _ _ _ a b ⟨by omega,nd,h7,h8,nlo,nhi,ha.1,ha.2,hb.1,hb.2⟩
theorem AU{n:ai}(h:fu n sh s t cnt)(a b:Sp):1<=(iE n cnt t a b).length:=by
 unfold iE
 split
 ·have:=h.few
  unfold lC
  rw[yg];omega
 ·exact aau h.node.form
structure NumIn(n:ai)(sh:List (List Int))(a b:List Int):Prop where
 KX:n.ak≠1->n.ak≠2->(a.length:Int)=az (sh.getD n.a.toNat [])
 abd:n.ak=6->(b.length:Int)=az (sh.getD n.b.toNat [])
theorem WS{n:ai}(h:bR n sh=some s)(hnk:¬dX n)(hk:1<=n.ak/\n.ak<=9)(hk1:n.ak≠1):(n.ak=2->s=n.ay.xs)/\(n.ak≠2->az (sh.getD n.a.toNat [])=az s)/\(n.ak=6->az (sh.getD n.b.toNat [])=az s):=by
 unfold dX at hnk
 unfold bR at h
 by_cases h2:n.ak=2
 ·rw[if_pos aa]at h
  exact⟨λ_=>by simpa using h.symm,λh=>absurd h2 h,λh=>by omega⟩
 ·rw[if_neg aa,if_neg aa,if_neg aa,if_neg aa]at h
  refine⟨λh=>absurd h h2,λ_=> ?_,λh6=> ?_⟩
  ·split at h
   ·split at h
    ·simp only[Option.some.injEq]at h;rw[h]
    ·cases h
   ·split at h
    ·split at h
     ·rename_i he;simp only[Option.some.injEq]at h;rw[<-h];exact he.symm
     ·cases h
    ·simp only[Option.some.injEq]at h;rw[h]
  ·rw[if_pos h6]at h
   split at h
   ·rename_i he;simp only[Option.some.injEq]at h;rw[<-he,h]
   ·cases h
variable {b:List Int}
theorem C9{n:ai}(h:fu n sh s t cnt)(hl:¬dX n)(hk1:n.ak≠1){a:List Int}(hn:NumIn n sh a b):(n.ak=2\/n.ak=6\/n.ak=7\/n.ak=8\/n.ak=9)/\(n.ak=2->n.data.xs.length=cnt)/\(n.ak≠2->a.length=cnt)/\(n.ak=6->b.length=cnt):=by
 obtain⟨_,_,h7,h8,h2⟩:=nG h.node.form
 have hkind:=(dM h.node.form).ak
 obtain⟨r2,rA,rB⟩:=WS h.node.ay hl hkind hk1
 have hc:=h.cnt
 unfold dX at hl
 refine⟨by omega,λhk=> ?_,λhk=> ?_,λhk=> ?_⟩
 ·have:=h2 hk
  rw[<-r2 hk,hc]at this
  omega
 ·have:=hn.KX hk1 hk
  rw[rA hk,hc]at this
  omega
 ·have:=hn.abd hk
  rw[rB hk,hc]at this
  omega
theorem ac0(w:World)(n:ai)(sh:List (List Int))(s:List Int)(t:au)(cnt:Nat)(h:fu n sh s t.xs cnt)(hk1:n.ak≠1)(hno:n.ok w)(hto:t.ok w)(a b:au)(ha:a.ok w)(hb:b.ok w)(hab:∀x∈a.xs,cK x)(hbb:∀x∈b.xs,cK x)(hn:NumIn n sh a.xs b.xs):Calls Tryz.prog 146 #[jW n (inA n t) (ZZ n t cnt) cnt,a.val,b.val] w (AL w (kN n cnt t.xs a.xs b.xs)):=by
 by_cases hl:dX n
 ·obtain⟨F,P0,hL⟩:=h.lin hl
  have e2:ZZ n t cnt= .func (.func F) #[P0] #[]:=(if_pos hl).trans hL.fn
  have e3:kN n cnt t.xs a.xs b.xs=gF n cnt cnt (bS n t.xs) a.xs:=if_pos hl
  rw[e2,e3]
  have hk2:n.ak≠2:=by unfold dX at hl;omega
  have hal:=hn.KX hk1 hk2
  rw[(h.first hl).1]at hal
  exact afq w n _ F P0 cnt _ a b (hL.terms w hto hno) (hL.lin w hno) ha hab λo ho s hs=>by
   have:=hL.at_ o ho s hs
   omega
 ·have e3:kN n cnt t.xs a.xs b.xs=mM n cnt a.xs b.xs:=if_neg hl
  rw[e3]
  obtain⟨_,_,h7,h8,h2⟩:=nG h.node.form
  obtain⟨nd,nb,nlo,nhi,nle⟩:=r9 h.node.near
  obtain⟨q1,q2,q3,q4⟩:=C9 h hl hk1 hn
  exact Ye w n _ _ cnt a b ⟨q1,h.few.2,hno.data,nd,q2,h7,h8,ha,hb,q3,q4,hab,hbb⟩
theorem Kr{A:Sp}{av:List Int}(hA:within A av):∀{l:List Sp} {s1 s s2:Int},s1<=s->s<=s2->(∀t∈l,0<=t.2/\t.2<av.length)->l.foldl (Iq A) s1<=l.foldl (CV av) s/\l.foldl (CV av) s<=l.foldl (Ii A) s2
 |[],s1,s,s2,h1,h2,_=>⟨h1,h2⟩
 |t::r,s1,s,s2,h1,h2,h=>by
  have ht:=h t List.mem_cons_self
  have hw:=pU hA (o:=t.2.toNat) aa
  have hs:=Dw (d:=t.1) hw.1 hw.2
  have m1:foldI min [t.1*A.1,t.1*A.2]=min (t.1*A.1) (t.1*A.2):=rfl
  have m2:foldI max [t.1*A.1,t.1*A.2]=max (t.1*A.1) (t.1*A.2):=rfl
  rw[m1,m2,Int.mul_comm (av.getD t.2.toNat 0) t.1]at hs
  have e1:Iq A s1 t=s1+min (t.1*A.1) (t.1*A.2):=rfl
  have e2:Ii A s2 t=s2+max (t.1*A.1) (t.1*A.2):=rfl
  have e3:CV av s t=s+t.1*av.getD t.2.toNat 0:=rfl
  simp only[List.foldl_cons]
  exact Kr hA aa aa λx hx=>h x (List.mem_cons_of_mem _ hx)
def jg(l:List Int):Sp:=(foldI min l,foldI max l)
variable {A:Sp}
theorem Rm{n:ai}{t:au}(h:fu n sh s t.xs cnt)(hk1:n.ak≠1){a:List Int}{B:Sp}(hn:NumIn n sh a b)(hA:within A a)(hB:within B b):within (jg (iE n cnt t.xs A B)) (kN n cnt t.xs a b)/\(kN n cnt t.xs a b).length=cnt:=by
 by_cases hl:dX n
 ·obtain⟨F,P0,hL⟩:=h.lin hl
  have e1:iE n cnt t.xs A B=lC n cnt (bS n t.xs) A:=if_pos hl
  have e3:kN n cnt t.xs a b=gF n cnt cnt (bS n t.xs) a:=if_pos hl
  rw[e1,e3]
  have hk2:n.ak≠2:=by unfold dX at hl;omega
  have hal:=hn.KX hk1 hk2
  rw[(h.first hl).1]at hal
  refine⟨λx hx=> ?_,by simp[gF]⟩
  obtain⟨o,ho,rfl⟩:=List.mem_map.1 hx
  have ho':=List.mem_range.1 ho
  have hw:=Kr hA (l:=bS n t.xs o) (Int.le_refl (dI n cnt o)) (Int.le_refl _) λs hs=>by
   have:=hL.at_ o ho' s hs
   omega
  have m1:(bS n t.xs o).foldl (Iq A) (dI n cnt o)∈lC n cnt (bS n t.xs) A:=List.mem_flatMap.2 ⟨o,ho,by simp⟩
  have m2:(bS n t.xs o).foldl (Ii A) (dI n cnt o)∈lC n cnt (bS n t.xs) A:=List.mem_flatMap.2 ⟨o,ho,by simp⟩
  exact⟨Int.le_trans (iT m1) hw.1,Int.le_trans hw.2 (iQ m2)⟩
 ·have e1:iE n cnt t.xs A B=fo n A B:=if_neg hl
  have e3:kN n cnt t.xs a b=mM n cnt a b:=if_neg hl
  rw[e1,e3]
  obtain⟨q1,q2,q3,q4⟩:=C9 h hl hk1 hn
  refine⟨λx hx=> ?_,by simp[mM]⟩
  obtain⟨o,ho,rfl⟩:=List.mem_map.1 hx
  exact J8 q1 q2 q3 q4 hA hB (List.mem_range.1 ho)
end
abbrev aiU:DT:=(eY [0,1,2,3,4,5,6,7,8,9,10,111,12] .done)
theorem O0{l:List (List Int)}{k:Nat}(h:k<l.length):l.getD k []∈l:=by
 rw[List.getD_eq_getElem?_getD,List.getElem?_eq_getElem h];exact List.getElem_mem h
def jb(sh:List (List Int))(n:ai)(acc:List Sp):List Int:=iE n (az (sh.getD acc.length [])).toNat (sh.getD n.a.toNat []) (acc.getD n.a.toNat (0,0)) (acc.getD n.b.toNat (0,0))
def f_(sh:List (List Int)):List ai->List Sp->Int×List Sp
 |[],acc=>(0,acc)
 |n::r,acc=>
  if foldI min (jb sh n acc)< -1048576\/1048576<foldI max (jb sh n acc)then(5,[])
  else f_ sh r (acc++[(foldI min (jb sh n acc),foldI max (jb sh n acc))])
def bX(g:bG):Int×List Sp:=if(check g).1≠0 then((check g).1,[])else f_ (check g).2 g.l []
theorem xZ{g:bG}(h:(check g).1=0){i:Nat}{n:ai}(hn:g.l[i]? =some n):(0<=n.a/\n.a.toNat<(check g).2.length/\(n.a.toNat<i\/n.a.toNat=0))/\(0<=n.b/\n.b.toNat<(check g).2.length/\(n.b.toNat<i\/n.b.toNat=0))/\∃cnt:Nat,az ((check g).2.getD i [])=cnt/\fu n ((check g).2.take i) ((check g).2.getD i []) ((check g).2.getD n.a.toNat []) cnt:=by
 obtain⟨hl1,wT,hout,hcl,hin⟩:=iq h
 have hpos:=I_ h
 obtain⟨hlt,_⟩:=List.getElem?_eq_some_iff.1 hn
 obtain⟨s,hs,hni⟩:=hin i n hn
 have hti:((check g).2.take i).length=i:=by rw[List.length_take,hcl];omega
 have hform:=hni.form
 rw[hti]at hform
 obtain⟨hA,hB,_⟩:=nG hform
 have hfo:=dM hform
 have e1:(check g).2.getD i []=s:=by rw[List.getD_eq_getElem?_getD,hs];rfl
 rw[e1]
 refine⟨⟨hA.1,by omega,by omega⟩,⟨hB.1,by omega,by omega⟩,(az s).toNat,by have:=(dQ s).1;omega,⟨hni,by have:=(dQ s).1;omega,λq hq=>hpos q (List.mem_of_mem_take hq),λhl=> ?_⟩⟩
 unfold dX at hl
 have ha:=hfo.a aa aa
 have e2:((check g).2.take i).getD n.a.toNat []=(check g).2.getD n.a.toNat []:=by
  rw[List.getD_eq_getElem?_getD,List.getD_eq_getElem?_getD,List.getElem?_take,if_pos aa]
 refine⟨e2,hpos _ (O0 aa)⟩
theorem xw(w:World)(g:bG)(hg:g.ok w):Calls Tryz.prog 22 #[g.val] w (xH w (bX g)):=by
 refine fH Tryz.func22 [.agg [.c (.slice g.base g.l.length g.cap),ax g.out]] ?_
 repeat' ((conv=>whnf)<;>first|refine bn ?_|refine ag ?_ ?_<;>intro _)
 refine oV (f:=24) (check g) Tryz.call24 (λρ w' hw=>pV w' g (ae hw λR h=>hg.later h)) (λhne=> ?_) (λhe sv hm hsv=> ?_)
 ·have hq:bX g=((check g).1,[]):=if_pos hne
  rw[hq]
  repeat' ((conv=>whnf)<;>first|(show @eZ _ _ _;refine cu hne ?_)|refine bn ?_)
  conv=>whnf
  exact AJ (λ_ _ h=>h) rfl hne (λ_=>rfl)
 have hq:bX g=f_ (check g).2 g.l []:=if_neg (λh=>h he)
 rw[hq]
 obtain⟨hl1,wT,hout,hcl,hin⟩:=iq he
 have hsl:sv.l.length=g.l.length:=by rw[<-hcl,<-hm];simp
 repeat' ((conv=>whnf)<;>first|(show mJ ..;(refine jC g.l.length rfl rfl (by show 16*_<=_;omega) aa ?_))|refine bn ?_|refine ag ?_ ?_<;>intro _)
 refine Wp.loop (σ:=Nat×List Sp) 2 (λ⟨i,_⟩=>[(6,.os 1 g.l.length),(4,.c sv.val),(24,.c (.slice g.base g.l.length g.cap)),(25,ax g.l.length),(26,ax i)]) (λ⟨_,acc⟩=>[(1,.rows (d_ (mY g.l.length acc)) 2 58)]) (λ_=>(aO w).and ((jE sv).past w.heap.size))
  (λ⟨i,acc⟩=>i<=g.l.length/\acc.length=i/\f_ (check g).2 (g.l.drop i) acc=f_ (check g).2 g.l []/\(∀s∈acc,cK s.1/\cK s.2)) (λs=>g.l.length-s.1) (0,[]) [] aY (λs=>⟨rfl,rfl⟩) ⟨Nat.zero_le _,rfl,rfl,λs hs=>by simp at hs⟩ ⟨rfl,⟨rfl,rfl,rfl,rfl,rfl,trivial⟩,⟨?_,trivial⟩,λ_ _ h=>h⟩ ?_
 ·have:d_ (mY g.l.length [])=List.replicate g.l.length [Value.int .i64 0,.int .i64 0]:=by simp[d_,mY]
  show(1,bZ.rows (d_ (mY g.l.length [])) 2 58)∈_
  rw[this]
  exact aU
 rintro⟨i,acc⟩ ⟨hi,hal,hsp,hab⟩
 by_cases hlt:i<g.l.length
 ·obtain⟨a,ha⟩:∃a,g.base=some a:=aP (j:=i) hg.rows Ca
  have hnm:=List.getElem_mem hlt
  obtain⟨s,hs,hni⟩:=hin i g.l[i] (List.getElem?_eq_getElem hlt)
  have hdrop:g.l.drop i=g.l[i]::g.l.drop (i+1):=List.drop_eq_getElem_cons hlt
  rw[hdrop]at hsp
  have hrow:=bU hlt
  have hpi:=xZ he (List.getElem?_eq_getElem hlt)
  generalize g.l[i]=n at*
  have hn:=hg.each n hnm
  obtain⟨⟨ha0,aj7,hai⟩,⟨hb0,Xo,hbi⟩,cnt,hcnt,hpl⟩:=hpi
  have e1:(check g).2.getD i []=s:=by rw[List.getD_eq_getElem?_getD,hs];rfl
  rw[e1]at hcnt hpl
  obtain⟨u,hu,fI⟩:∃u,sv.l[i]? =some u/\u.xs=s:=by
   rw[<-hm,List.getElem?_map]at hs
   cases hu:sv.l[i]? with
   |none=>rw[hu]at hs;simp at hs
   |some u=>rw[hu]at hs;exact⟨u,rfl,by simpa using hs⟩
  obtain⟨t,ht,hts⟩:∃t,sv.l[n.a.toNat]? =some t/\t.xs=(check g).2.getD n.a.toNat []:=by
   have hlt2:n.a.toNat<sv.l.length:=by omega
   refine⟨sv.l[n.a.toNat],List.getElem?_eq_getElem hlt2,?_⟩
   rw[<-hm,List.getD_eq_getElem?_getD,List.getElem?_map,List.getElem?_eq_getElem hlt2];rfl
  have htm:t∈sv.l:=List.mem_of_getElem? ht
  have alv:az u.xs=cnt:=by rw[fI];exact hcnt
  rw[<-hts]at hpl
  have hEq:jb (check g).2 n acc=iE n cnt t.xs (acc.getD n.a.toNat (0,0)) (acc.getD n.b.toNat (0,0)):=by
   unfold jb
   rw[hal,e1,hcnt,hts];rfl
  have hA2:=Ym hab n.a.toNat
  have hB2:=Ym hab n.b.toNat
  have hEL:=AU hpl (acc.getD n.a.toNat (0,0)) (acc.getD n.b.toNat (0,0))
  have gA:=yU (n:=g.l.length) (acc:=acc) (j:=n.a.toNat) aa aa
  have gB:=yU (n:=g.l.length) (acc:=acc) (j:=n.b.toNat) aa aa
  repeat' ((conv=>whnf)<;>first|refine D9 ?_|refine U_ ?_|(show aI _ 50 ..;refine aQ (f:=50) Tryz.call50 (jW n (inA n t) (ZZ n t cnt) cnt) (λρ w' hw=>afL w' n sv (ae hw λR h=>oQ hsv aa h.2) i u t cnt hu ht ha0 alv) ?_)|(show di ..;(first|refine bg n.a.toNat aa aa aew ?_|refine bg n.b.toNat aa aa aew ?_))|(show Br ..;(first|refine AO _ _ gA rfl rfl ?_|refine AO _ _ gB rfl rfl ?_))|(show b_ _ 9 ..;refine lu [] _ aiU ?_)|(show aI _ 51 ..;refine gX Tryz.call51 (λx:au×Bool=>x.1.val) abH (λx=>x.1.xs=iE n cnt t.xs (acc.getD n.a.toNat (0,0)) (acc.getD n.b.toNat (0,0))/\x.1.bq/\(x.2=true->x.1=n.data)) (λρ w' hw=>afp w' n _ s t cnt hpl (ae hw λR h=>hn.later h.1) (ae hw λR h=>(oQ hsv aa h.2).each t htm) (acc.getD n.a.toNat (0,0)) (acc.getD n.b.toNat (0,0)) hA2 hB2) (λx hx=> ?_))|refine bn ?_|refine ag ?_ ?_<;>intro _)
  all_goals
   obtain⟨hx1,hx2,hx3⟩:=hx
   rw[<-hx1]at hEL
   by_cases hr:foldI min x.1.xs< -1048576\/1048576<foldI max x.1.xs
   ·have hq2:f_ (check g).2 (n::g.l.drop (i+1)) acc=(5,[]):=by simp only[f_];rw[hEq,<-hx1,if_pos hr]
    rw[hq2]at hsp
    rw[<-hsp]
    repeat' ((conv=>whnf)<;>first|refine agO ?_|refine ahd ?_|refine af_ ?_|refine agJ ?_|(show cO ..;refine Am hal hlt ?_)|(show mq ..;refine row_of _ _ (SF hal hlt) rfl ?_)|refine bn ?_|refine ag ?_ ?_<;>intro _)
    all_goals(conv=>whnf)
    all_goals first|omega|exact AJ (λ_ _ h=>h.1.1) rfl aY (λ_=>rfl)
   ·have hq2:f_ (check g).2 (n::g.l.drop (i+1)) acc=f_ (check g).2 (g.l.drop (i+1)) (acc++[(foldI min x.1.xs,foldI max x.1.xs)]):=by
     conv=>lhs;unfold f_
     rw[hEq,<-hx1,if_neg hr]
    rw[hq2]at hsp
    have hle:=Lb hEL
    repeat' ((conv=>whnf)<;>first|refine agO ?_|refine ahd ?_|refine af_ ?_|refine agJ ?_|(show cO ..;refine Am hal hlt ?_)|(show mq ..;refine row_of _ _ (SF hal hlt) rfl ?_)|refine bn ?_|refine ag ?_ ?_<;>intro _)
    all_goals(conv=>whnf)
    all_goals exact⟨(i+1,acc++[(foldI min x.1.xs,foldI max x.1.xs)]),[],⟨hlt,by rw[List.length_append,hal];rfl,hsp,λs hs=>by
     rcases List.mem_append.1 hs with h|h
     ·exact hab s h
     ·simp at h;subst h;unfold cK;omega⟩,by simp only;omega,rfl,⟨rfl,rfl,rfl,rfl,rfl,trivial⟩,⟨aU,trivial⟩,λ_ _ h=>h.1⟩
 ·obtain rfl:i=g.l.length:=by omega
  rw[List.drop_length]at hsp
  repeat' ((conv=>whnf)<;>first|refine bn ?_|refine ag ?_ ?_<;>intro _)
  conv=>whnf
  have hgr:mY g.l.length acc=acc:=by unfold mY;rw[hal,Nat.sub_self];simp
  exact Ka (l:=mY g.l.length acc) (λ_ _ h=>h.1) rfl aU (by rw[hgr,hal]) (by rw[hgr,<-hsp];rfl)
section
def Bv(w:World)(r:Int×List Int)(e:Ending)(w':World):Prop:=
 (r.1≠0/\e= .returned (.tuple #[.slice none 0 0,.int .i64 r.1])/\Ext w w')\/(r.1=0/\∃x:au,(x.xs=r.2/\x.bq)/\e= .returned (.tuple #[x.val,.int .i64 0])/\Ext w w'/\(bE x).holds (λb=>w.heap.size<=b/\b<w'.heap.size) w')
variable {B:Base} {v:SV} {H:Heap} {S:bN} {nx:Nat} {w:World} {r:Int×List Int}
theorem YZ(hb:∀R w',S.holds R w'->(aO B.w0).holds R w')(hw0:B.w0=w)(hn:r.1≠0)(hv:∀ρ,v.rf ρ= .tuple #[.slice none 0 0,.int .i64 r.1]):jI B v H S nx (Bv w r):=by
 subst hw0
 exact dH λρ w' hw=> .inl ⟨hn,by rw[hv],aZ hw hb⟩
variable {x:au}
theorem ae_(hb:∀R w',S.holds R w'->(aO B.w0).holds R w')(hw0:B.w0=w)(hs:x.bq)(hr:r=(0,x.xs))(hD:∀R w',S.holds R w'->((bE x).past B.w0.heap.size).holds R w'):jI B (.sN [.c x.val,ax 0]) H S nx (Bv w r):=by
 subst hw0 hr
 exact dH λρ w' hw=> .inr ⟨rfl,x,⟨rfl,hs⟩,rfl,aZ hw hb,oC hw hD⟩
variable {r':Int×List (List Int)}
theorem FD{X:Int×List Int}(hb:∀R w',S.holds R w'->(aO B.w0).holds R w')(hw0:B.w0=w)(hr:r'=(12,[]))(hv:∀ρ,v.rf ρ= .tuple #[.slice none 0 0,.int .i64 12]):jI B v H S nx (Bv w (if r'.1≠0 then(r'.1,[])else X)):=by
 subst hr
 have e:(if((12:Int),([]:List (List Int))).1≠0 then(((12:Int),([]:List (List Int))).1,([]:List Int))else X)=(12,[]):=if_pos (show(12:Int)≠0 by decide)
 rw[e]
 exact YZ hb hw0 (show(12:Int)≠0 by decide) hv
theorem aaE{k:Nat}{L:List (List Int)}(hb:∀R w',S.holds R w'->(aO B.w0).holds R w')(hw0:B.w0=w)(hs:x.bq)(hr:r'=(0,L))(hx:L.getD k []=x.xs)(hD:∀R w',S.holds R w'->((bE x).past B.w0.heap.size).holds R w'):jI B (.sN [.c x.val,ax 0]) H S nx (Bv w (if r'.1≠0 then(r'.1,[])else(0,r'.2.getD k []))):=by
 subst hr
 have e:(if((0:Int),L).1≠0 then(((0:Int),L).1,([]:List Int))else(0,((0:Int),L).2.getD k []))=(0,L.getD k []):=if_neg (show¬(0:Int)≠0 by decide)
 rw[e,hx]
 exact ae_ hb hw0 hs rfl hD
theorem nK{cx:Cx}{f:FuncId}{args:List SV}{K:SV->Heap->bN->Nat->Prop}(r:Int×List Sp)(hf:∀ar w,(callFunc f ar).run cx.P w= .ok (.enter f ar) w)
 (hc:∀ρ w',eD cx.B ρ nx H S w'->Calls cx.P f (SV.eO ρ args).toArray w' (xH w' r))
 (h0:r.1≠0->K (.c (.tuple #[.slice none 0 0,.int .i64 r.1])) H S nx)
 (h1:r.1=0->∀base cap,K (.c (.tuple #[.slice base r.2.length cap,.int .i64 0])) H (S.and ((fC base 2 (d_ r.2)).past cx.B.w0.heap.size)) nx):aI cx f args H S nx K:=by
 rw[gN]
 refine⟨hf,λρ w hw=>(hc ρ w hw).mono ?_⟩
 rintro e w' (⟨hr,rfl,he⟩|⟨hr,v,rfl,he,hn⟩)
 ·exact⟨.c (.tuple #[.slice none 0 0,.int .i64 r.1]),ρ,H,S,nx,rfl,λ_ _=>rfl,Nat.le_refl _,SV.jk _,hw.ext he,h0 hr⟩
 ·obtain⟨base,cap,e1,hD⟩:=fJ hn
  rw[h_]at e1
  subst e1
  exact⟨.c (.tuple #[.slice base r.2.length cap,.int .i64 0]),ρ,H,_,nx,rfl,λ_ _=>rfl,Nat.le_refl _,SV.jk _,hw.grow he hD,h1 hr base cap⟩
theorem YI{N:Nat}{l:List au}{R:Nat->Prop}(hs:∀u∈l,u.bq)(h:(lZ N l).holds R w)(k:Nat):(l.getD k fQ).ok w:=by
 rcases Nat.lt_or_ge k l.length with hk|hk
 ·rw[List.getD_eq_getElem?_getD,List.getElem?_eq_getElem hk]
  exact bT (hs _ (List.getElem_mem hk)) ((bE _).mono (h _ (List.getElem_mem hk)) (λb hb=>hb.1))
 ·rw[List.getD_eq_getElem?_getD,List.getElem?_eq_none hk]
  exact bT abW (X4 R w)
theorem Bo(l:List au)(k:Nat):(l.getD k fQ).xs=(l.map au.xs).getD k []:=by
 rcases Nat.lt_or_ge k l.length with hk|hk
 ·simp[List.getD_eq_getElem?_getD,hk]
 ·simp[List.getD_eq_getElem?_getD,hk,fQ]
end
section
abbrev amn:DT:=(eY [0,1,2,3,4,5,6,7,8,9,10,11,12,113,14,115] .done)
abbrev amR:DT:=(eY [0,1,2,6] (.alt 3 (.alt 4 (.alt 5 (.alt 7 (eY [108,109,10] .done) (.one 8 (.alt 7 (eY [109,10] .done) (eY [109,107,10] .done)))) (eY [107,105,108,109,10] .done)) (eY [107,104,105,108,109,10] .done)) (eY [107,103,104,105,108,109,10] .done)))
def vg(sh:List (List Int))(n:ai)(known:List (List Int)):List Int:=kN n (az (sh.getD known.length [])).toNat (sh.getD n.a.toNat []) (known.getD n.a.toNat []) (known.getD n.b.toNat [])
def jf(sh:List (List Int)):List ai->List (List Int)->List (List Int)->Int×List (List Int)
 |[],known,inp=>if 0<inp.length then(12,[])else(0,known)
 |n::r,known,inp=>
  if n.ak≠1 then jf sh r (known++[vg sh n known]) inp
  else match inp with
   |[]=>(12,[])
   |x::xs=>if(x.length:Int)≠az (sh.getD known.length [])\/foldI min x<n.lo\/n.hi<foldI max x then(12,[])else jf sh r (known++[x]) xs
def sw(g:bG)(inp:List (List Int)):Int×List (List Int):=jf (check g).2 g.l [] inp
def M_(g:bG)(inp:List (List Int)):Int×List Int:=
 if(bX g).1≠0 then((bX g).1,[])else if(sw g inp).1≠0 then((sw g inp).1,[])else(0,(sw g inp).2.getD g.out.toNat [])
def rT(sh:List (List Int))(n:ai)(acc:List Sp):Sp:=jg (jb sh n acc)
theorem Oq{sh:List (List Int)}:∀{l:List ai} {acc S:List Sp},f_ sh l acc=(0,S)->∃q,S=acc++q/\q.length=l.length/\∀i n,l[i]? =some n->∃s,q[i]? =some s/\s=rT sh n (acc++q.take i)/\ -1048576<=s.1/\s.2<=1048576
 |[],acc,S,h=>by
  obtain rfl:acc=S:=by simpa[f_]using h
  exact⟨[],by simp,rfl,λi n hn=>by simp at hn⟩
 |m::r,acc,S,h=>by
  by_cases hr:(rT sh m acc).1< -1048576\/1048576<(rT sh m acc).2
  ·have:f_ sh (m::r) acc=(5,[]):=if_pos hr
   rw[this]at h;simp at h
  ·have:f_ sh (m::r) acc=f_ sh r (acc++[rT sh m acc]):=if_neg hr
   rw[this]at h
   obtain⟨q,hq,hl,ha⟩:=Oq h
   refine⟨rT sh m acc::q,by rw[hq,List.append_assoc];rfl,by simp[hl],λi n hin=> ?_⟩
   cases i with
   |zero=>
    simp only[List.getElem?_cons_zero,Option.some.injEq]at hin
    subst hin
    exact⟨_,rfl,by simp,by omega,by omega⟩
   |succ i=>
    simp only[List.getElem?_cons_succ]at hin
    obtain⟨t,h1,h2,h3⟩:=ha i n hin
    refine⟨t,by simpa using h1,?_,h3⟩
    rw[List.take_succ_cons,show acc++rT sh m acc::q.take i=acc++[rT sh m acc]++q.take i by simp]
    exact h2
variable {g:bG}
theorem jw(h:(bX g).1=0):(check g).1=0/\(bX g).2.length=g.l.length/\∀i n,g.l[i]? =some n->∃s,(bX g).2[i]? =some s/\s=rT (check g).2 n ((bX g).2.take i)/\ -1048576<=s.1/\s.2<=1048576:=by
 unfold bX at h|-
 by_cases hc:(check g).1≠0
 ·rw[if_pos hc]at h;exact absurd h hc
 ·rw[if_neg hc]at h|-
  obtain⟨q,hq,hl,ha⟩:=Oq (l:=g.l) (acc:=[]) (S:=(f_ (check g).2 g.l []).2) (Prod.ext h rfl)
  rw[List.nil_append]at hq
  rw[hq]
  exact⟨by omega,hl,λi n hn=>by simpa using ha i n hn⟩
structure CW(g:bG)(kn:List au)(i:Nat):Prop where
 len:kn.length=i
 bq:∀u∈kn,u.bq
 each:∀(j:Nat) (u:au) (s:Sp) (q:List Int),kn[j]? =some u->(bX g).2[j]? =some s->(check g).2[j]? =some q->within s u.xs/\(u.xs.length:Int)=az q
variable {kn:List au} {i:Nat}
theorem o8(hsp:(bX g).1=0)(hkn:CW g kn i)(hi:i<=g.l.length)(k:Nat):within (((bX g).2.take i).getD k (0,0)) (kn.getD k fQ).xs/\(∀x∈(kn.getD k fQ).xs,cK x)/\(k<i->((kn.getD k fQ).xs.length:Int)=az (((check g).2.take i).getD k [])):=by
 obtain⟨hck,hsl,hsi⟩:=jw hsp
 obtain⟨hl1,wT,hout,hcl,hin⟩:=iq hck
 have hkl:=hkn.len
 rcases Nat.lt_or_ge k i with hk|hk
 ·have hkg:k<g.l.length:=by omega
  obtain⟨p,hp,_,hp1,hp2⟩:=hsi k g.l[k] (List.getElem?_eq_getElem hkg)
  obtain⟨s,hs,_⟩:=hin k g.l[k] (List.getElem?_eq_getElem hkg)
  have hk':k<kn.length:=by omega
  obtain⟨h1,h2⟩:=hkn.each k kn[k] p s (List.getElem?_eq_getElem hk') hp hs
  have e1:kn.getD k fQ=kn[k]:=by rw[List.getD_eq_getElem?_getD,List.getElem?_eq_getElem hk'];rfl
  have e2:((bX g).2.take i).getD k (0,0)=p:=by rw[List.getD_eq_getElem?_getD,List.getElem?_take,if_pos hk,hp];rfl
  have e3:((check g).2.take i).getD k []=s:=by rw[List.getD_eq_getElem?_getD,List.getElem?_take,if_pos hk,hs];rfl
  rw[e1,e2,e3]
  exact⟨h1,λx hx=>by have:=h1 x hx;unfold cK;omega,λ_=>h2⟩
 ·have e1:kn.getD k fQ=fQ:=by rw[List.getD_eq_getElem?_getD,List.getElem?_eq_none aa];rfl
  rw[e1]
  exact⟨λx hx=>by simp[fQ]at hx,λx hx=>by simp[fQ]at hx,λh=>by omega⟩
theorem Yt{n:ai}(hsp:(bX g).1=0)(hkn:CW g kn i)(hi:i<=g.l.length)(hf:Aa n i):NumIn n ((check g).2.take i) (kn.getD n.a.toNat fQ).xs (kn.getD n.b.toNat fQ).xs:=
 ⟨λk1 k2=>(o8 hsp hkn hi n.a.toNat).2.2 (by have:=hf.a k1 k2;omega),λk6=>(o8 hsp hkn hi n.b.toNat).2.2 (by have:=hf.b k6;omega)⟩
theorem wh{x:au}{s:List Int}{p:Sp}(hkn:CW g kn i)(hx:x.bq)(hp:(bX g).2[i]? =some p)(hs:(check g).2[i]? =some s)(hw:within p x.xs)(hl:(x.xs.length:Int)=az s):CW g (kn++[x]) (i+1):=by
 have hkl:=hkn.len
 refine⟨by rw[List.length_append,hkl];rfl,λu hu=> ?_,λj u p' q hu hp' hq=> ?_⟩
 ·rcases List.mem_append.1 hu with h|h
  ·exact hkn.bq u h
  ·simp at h;subst h;exact hx
 ·rcases Nat.lt_or_ge j i with hj|hj
  ·rw[List.getElem?_append_left aa]at hu
   exact hkn.each j u p' q hu hp' hq
  ·rw[List.getElem?_append_right aa]at hu
   have h0:j-kn.length=0:=by
    rcases Nat.eq_zero_or_pos (j-kn.length)with h|h
    ·exact h
    ·rw[List.getElem?_eq_none yL]at hu;cases hu
   rw[h0]at hu
   simp only[List.getElem?_cons_zero,Option.some.injEq]at hu
   subst hu
   obtain rfl:j=i:=by omega
   rw[hp]at hp'
   rw[hs]at hq
   simp only[Option.some.injEq]at hp' hq
   subst hp' hq
   exact⟨hw,hl⟩
theorem YB(w:World)(g:bG)(hg:g.ok w)(iv:a_)(hiv:InV.ok w iv):Calls Tryz.prog 110 #[g.val,iv.val] w (Bv w (M_ g (iv.l.map au.xs))):=by
 have aqp:=hiv.few
 refine fH Tryz.func110 [.agg [.c (.slice g.base g.l.length g.cap),ax g.out],.c iv.val] ?_
 repeat' ((conv=>whnf)<;>first|refine bn ?_|refine ag ?_ ?_<;>intro _)
 refine nK (f:=22) (bX g) Tryz.call22 (λρ w' hw=>xw w' g (ae hw λR h=>hg.later h)) (λhne=> ?_) (λhsp base cap=> ?_)
 ·have hq:M_ g (iv.l.map au.xs)=((bX g).1,[]):=if_pos hne
  rw[hq]
  repeat' ((conv=>whnf)<;>first|(show @eZ _ _ _;refine cu hne ?_)|refine bn ?_)
  conv=>whnf
  exact YZ (λ_ _ h=>h) rfl hne (λ_=>rfl)
 have hq:M_ g (iv.l.map au.xs)=if(sw g (iv.l.map au.xs)).1≠0 then((sw g (iv.l.map au.xs)).1,[])else(0,(sw g (iv.l.map au.xs)).2.getD g.out.toNat []):=if_neg (λh=>h hsp)
 rw[hq]
 obtain⟨hck,hsl,hsi⟩:=jw hsp
 obtain⟨hl1,wT,hout,hcl,hin⟩:=iq hck
 repeat' ((conv=>whnf)<;>first|refine bn ?_|refine ag ?_ ?_<;>intro _)
 refine oV (f:=24) (check g) Tryz.call24 (λρ w' hw=>pV w' g (ae hw λR h=>hg.later h.1)) (λhne=>absurd hck hne) (λ_ sv hm hsv=> ?_)
 have an0:sv.l.length=g.l.length:=by rw[<-hcl,<-hm];simp
 repeat' ((conv=>whnf)<;>first|(show mJ ..;(refine jC g.l.length rfl rfl aex aa ?_))|refine bn ?_)
 refine Wp.loop (σ:=Nat×List au×a_) 2 (λ⟨i,_,cur⟩=>[(2,.lp 0 0 0 0),(1,.c cur.val),(8,.c sv.val),(10,.os 1 g.l.length),(32,.c (.slice g.base g.l.length g.cap)),(33,ax g.l.length),(34,ax i)]) (λ⟨_,kn,_⟩=>[(1,.rows (aS (og g.l.length kn)) 1 32),(0,.box [.c (.slice g.base g.l.length g.cap),ax g.out] 24)]) (λ⟨_,kn,_⟩=>((aO w).and ((jE sv).past w.heap.size)).and (lZ w.heap.size kn))
  (λ⟨i,kn,cur⟩=>i<=g.l.length/\CW g kn i/\InV.ok w cur/\jf (check g).2 (g.l.drop i) (kn.map au.xs) (cur.l.map au.xs)=sw g (iv.l.map au.xs)) (λs=>g.l.length-s.1) (0,[],iv) [] aY (λs=>⟨rfl,rfl⟩) ⟨Nat.zero_le _,⟨rfl,λu hu=>by simp at hu,λj u s q hu=>by simp at hu⟩,hiv,rfl⟩ ⟨rfl,⟨rfl,rfl,rfl,rfl,rfl,rfl,rfl,trivial⟩,⟨?_,aU,trivial⟩,λR w h=>⟨⟨h.1.1,h.2⟩,xR _ R w⟩⟩ ?_
 ·have:aS (og g.l.length [])=List.replicate g.l.length [Value.slice none 0 0]:=by simp[aS,og];exact .inr rfl
  show(1,bZ.rows (aS (og g.l.length [])) 1 32)∈_
  rw[this]
  exact aU
 rintro⟨i,kn,cur⟩ ⟨hi,hkn,FU,hv⟩
 have hkl:=hkn.len
 have hcf:=FU.few
 by_cases hlt:i<g.l.length
 ·obtain⟨a,ha⟩:∃a,g.base=some a:=aP (j:=i) hg.rows Ca
  have hnm:=List.getElem_mem hlt
  obtain⟨s,hs,hni⟩:=hin i g.l[i] (List.getElem?_eq_getElem hlt)
  obtain⟨p,hp,hpe,hp1,hp2⟩:=hsi i g.l[i] (List.getElem?_eq_getElem hlt)
  have hdrop:g.l.drop i=g.l[i]::g.l.drop (i+1):=List.drop_eq_getElem_cons hlt
  rw[hdrop]at hv
  have hrow:=bU hlt
  have hpi:=xZ hck (List.getElem?_eq_getElem hlt)
  generalize g.l[i]=n at*
  have hn:=hg.each n hnm
  obtain⟨⟨ha0,aj7,hai⟩,⟨hb0,Xo,hbi⟩,cnt,Ed,hpl⟩:=hpi
  have e1:(check g).2.getD i []=s:=by rw[List.getD_eq_getElem?_getD,hs];rfl
  rw[e1]at Ed hpl
  have hti:((check g).2.take i).length=i:=by rw[List.length_take,hcl];omega
  have hform:=hni.form
  rw[hti]at hform
  have aa4:(kn.map au.xs).length=i:=by rw[List.length_map,hkl]
  obtain⟨t,ht,hts⟩:∃t,sv.l[n.a.toNat]? =some t/\t.xs=(check g).2.getD n.a.toNat []:=by
   have hlt2:n.a.toNat<sv.l.length:=by omega
   refine⟨sv.l[n.a.toNat],List.getElem?_eq_getElem hlt2,?_⟩
   rw[<-hm,List.getD_eq_getElem?_getD,List.getElem?_map,List.getElem?_eq_getElem hlt2];rfl
  have htm:t∈sv.l:=List.mem_of_getElem? ht
  rw[<-hts]at hpl
  obtain⟨u,hu,fI⟩:∃u,sv.l[i]? =some u/\u.xs=s:=by
   have hs':=hs
   rw[<-hm,List.getElem?_map]at hs'
   cases hu:sv.l[i]? with
   |none=>rw[hu]at hs';simp at hs'
   |some u=>rw[hu]at hs';exact⟨u,rfl,by simpa using hs'⟩
  have hcnt:az u.xs=cnt:=by rw[fI];exact Ed
  have hcb:=(dQ u.xs).2
  have hat:∀w',sv.ok w'->Calls Tryz.prog 50 #[n.j3,sv.val,.int .i64 i] w' (λe w''=>e= .returned (jW n (inA n t) (ZZ n t cnt) cnt)/\Ext w' w''):=λw' h=>afL w' n sv h i u t cnt hu ht ha0 hcnt
  have hnm:n.ak≠1->∀w',n.ok w'->t.ok w'->∀a b:au,a.ok w'->b.ok w'->(∀x∈a.xs,cK x)->(∀x∈b.xs,cK x)->NumIn n ((check g).2.take i) a.xs b.xs->Calls Tryz.prog 146 #[jW n (inA n t) (ZZ n t cnt) cnt,a.val,b.val] w' (AL w' (kN n cnt t.xs a.xs b.xs)):=λhk1 w' h1 h2 a b h3 h4 h5 h6 h7=>ac0 w' n _ s t cnt hpl hk1 h1 h2 a b h3 h4 h5 h6 h7
  obtain⟨ib,il,ic,hinv⟩:=aap n t
  have hfn:=acS n t cnt
  rw[hinv]at hat hnm
  by_cases hk1:n.ak=1
  ·have hf0:ZZ n t cnt= .nilFunc:=if_neg (by unfold dX;omega)
   rw[hf0]at hat
   obtain⟨cb,cc,cl⟩:=cur
   cases cl with
   |nil=>
    have hv1:jf (check g).2 (n::g.l.drop (i+1)) (kn.map au.xs) []=(12,[]):=by
     conv=>lhs;unfold jf
     rw[if_neg (λh=>h hk1)]
    have hv2:sw g (iv.l.map au.xs)=(12,[]):=by rw[<-hv];exact hv1
    repeat' ((conv=>whnf)<;>first|(show @eZ _ _ _;refine cu rfl ?_)|refine D9 ?_|refine Gz ?_|refine acJ ?_|refine bn ?_|refine ag ?_ ?_<;>intro _)
    all_goals(conv=>whnf)
    all_goals exact FD (λ_ _ h=>h.1.1) rfl hv2 (λ_=>rfl)
   |cons x xs=>
    obtain⟨ca,hca⟩:∃a,cb=some a:=aP (j:=0) FU.rows (by show 0<(aS (x::xs)).length;rw[aW];exact Nat.succ_pos _)
    subst hca
    have acz:x.ok w:=FU.each x List.mem_cons_self
    have hcs:az s=cnt:=by rw[<-fI];exact hcnt
    have hroom:=FU.room
    have hxl:xs.length+1<=cc:=hroom
    have hne0:¬((({base:=some ca,cap:=cc,l:=x::xs}:a_).l.length:Nat):Int)=0:=by show¬((xs.length+1:Nat):Int)=0;omega
    have hpos:1<=cnt:=by
     have hso:=hni.ay
     unfold bR at hso
     rw[if_pos (.inl hk1),Option.some.injEq]at hso
     have:=(dM hform).own (.inl hk1)
     rw[hso]at this
     omega
    by_cases hbad:(x.xs.length:Int)≠az s\/foldI min x.xs<n.lo\/n.hi<foldI max x.xs
    ·have hv1:jf (check g).2 (n::g.l.drop (i+1)) (kn.map au.xs) (x.xs::xs.map au.xs)=(12,[]):=by
      conv=>lhs;unfold jf
      rw[if_neg (λh=>h hk1)]
      simp only
      rw[aa4,e1,if_pos hbad]
     have hv2:sw g (iv.l.map au.xs)=(12,[]):=by rw[<-hv];exact hv1
     rw[hcs]at hbad
     repeat' ((conv=>whnf)<;>first|(show @eZ _ _ _;refine dA hne0 ?_)|(show bV ..;(first|refine aH a i ha rfl hlt ?_|refine aH ca 0 rfl rfl aa ?_))|refine Gz ?_|(show fT ..;refine bA (λR w' h=>aA h.1.1 FU.rows) _ _ (j:=0) rfl rfl ?_)|refine acJ ?_|refine aif ?_|refine aiH ?_|refine bn ?_|refine ag ?_ ?_<;>intro _)
     all_goals(conv=>whnf)
     all_goals first|(exfalso;omega)|exact FD (λ_ _ h=>h.1.1) rfl hv2 (λ_=>rfl)
    ·have hv1:jf (check g).2 (n::g.l.drop (i+1)) (kn.map au.xs) (x.xs::xs.map au.xs)=jf (check g).2 (g.l.drop (i+1)) (kn.map au.xs++[x.xs]) (xs.map au.xs):=by
      conv=>lhs;unfold jf
      rw[if_neg (λh=>h hk1)]
      simp only
      rw[aa4,e1,if_neg hbad]
     have hv2:=hv1.symm.trans hv
     rw[hcs]at hbad
     have hwi:within p x.xs:=by
      rw[hpe]
      have hL:jb (check g).2 n ((bX g).2.take i)=[n.lo,n.hi]:=by
       unfold jb iE
       rw[if_neg (by unfold dX;omega)]
       exact if_pos hk1
      unfold rT jg
      rw[hL]
      intro z hz
      have m1:foldI min [n.lo,n.hi]=min n.lo n.hi:=rfl
      have m2:foldI max [n.lo,n.hi]=max n.lo n.hi:=rfl
      have:=iT hz
      have:=iQ hz
      simp only[m1,m2]
      omega
     repeat' ((conv=>whnf)<;>first|(show @eZ _ _ _;refine dA hne0 ?_)|(show bV ..;(first|refine aH a i ha rfl hlt ?_|refine aH ca 0 rfl rfl aa ?_))|refine Gz ?_|(show fT ..;refine bA (λR w' h=>aA h.1.1 FU.rows) _ _ (j:=0) rfl rfl ?_)|(show di ..;(refine bg i rfl hlt Zi ?_))|refine acJ ?_|refine aif ?_|refine aiH ?_|(show b_ _ 14 ..;refine lu [] [] amR ?_ (h6:=List.nil_sublist _))|refine BF ?_|(show aI _ 32 ..;refine Kk x.xs Tryz.call32 acz.fits acz.few (λρ w' hw=>Bt w' x (ae hw λR h=>acz.later h.1.1) aa) (λy hy hys=> ?_))|(show l7 ..;refine WH aa aa ?_)|(show cO ..;refine vV hkl hlt ?_)|refine bn ?_|refine ag ?_ ?_<;>intro _|refine And.intro ?_ ?_)
     all_goals(conv=>whnf)
     all_goals exact⟨(i+1,kn++[y],⟨some (if cc=1 then ca else ca.add 1),cc-1,xs⟩),[],⟨hlt,wh hkn hys hp hs (by rw[hy];exact hwi) (by rw[hy,hcs];omega),InV.ahc FU rfl,by rw[List.map_append,List.map_cons,List.map_nil,hy];exact hv2⟩,by simp only;omega,rfl,bM,bM,λR w' h=>⟨h.1.1,kX h.1.2 h.2⟩⟩
  ·have hv1:jf (check g).2 (n::g.l.drop (i+1)) (kn.map au.xs) (cur.l.map au.xs)=jf (check g).2 (g.l.drop (i+1)) (kn.map au.xs++[kN n cnt t.xs (kn.getD n.a.toNat fQ).xs (kn.getD n.b.toNat fQ).xs]) (cur.l.map au.xs):=by
    conv=>lhs;unfold jf
    unfold vg
    rw[if_pos hk1,Bo,Bo,aa4,e1,Ed,hts];rfl
   rw[hv1]at hv
   have hcs:az s=cnt:=by rw[<-fI];exact hcnt
   have kA:=o8 hsp hkn aa n.a.toNat
   have kB:=o8 hsp hkn aa n.b.toNat
   have ahr:=Yt hsp hkn aa (dM hform)
   have hwn:=Rm hpl hk1 ahr kA.1 kB.1
   have hEq:jb (check g).2 n ((bX g).2.take i)=iE n cnt t.xs (((bX g).2.take i).getD n.a.toNat (0,0)) (((bX g).2.take i).getD n.b.toNat (0,0)):=by
    unfold jb
    rw[show((bX g).2.take i).length=i by rw[List.length_take,hsl];omega,e1,Ed,hts];rfl
   have gA:=yj (n:=g.l.length) (l:=kn) (j:=n.a.toNat) aa aa
   have gB:=yj (n:=g.l.length) (l:=kn) (j:=n.b.toNat) aa aa
   rcases hfn with hf0|⟨f1,f2,f3,hf0⟩
   all_goals rw[hf0]at hat hnm
   all_goals
    repeat' ((conv=>whnf)<;>first|refine D9 ?_|refine Gz ?_|refine acJ ?_|(show di ..;(first|refine bg n.a.toNat aa aa Zi ?_|refine bg n.b.toNat aa aa Zi ?_|refine bg i rfl hlt Zi ?_))|(show mq ..;(first|refine row_of _ _ gA rfl ?_|refine row_of _ _ gB rfl ?_))|refine BF ?_|(show aI _ 146 ..;refine gX Tryz.call146 au.val bE (λx=>x.xs=kN n cnt t.xs (kn.getD n.a.toNat fQ).xs (kn.getD n.b.toNat fQ).xs/\x.bq) (λρ w' hw=>hnm hk1 w' (ae hw λR h=>hn.later h.1.1) (ae hw λR h=>(oQ hsv aa h.1.2).each t htm) (kn.getD n.a.toNat fQ) (kn.getD n.b.toNat fQ) (ae hw λR h=>YI hkn.bq h.2 _) (ae hw λR h=>YI hkn.bq h.2 _) kA.2.1 kB.2.1 ahr) (λx hx=> ?_))|(show cO ..;refine vV hkl hlt ?_)|(show b_ _ 11 ..;refine lu [15] _ amn ?_)|refine bn ?_|refine ag ?_ ?_<;>intro _)
    all_goals(conv=>whnf)
    all_goals exact⟨(i+1,kn++[x],cur),[],⟨hlt,wh hkn hx.2 hp hs (by rw[hx.1,hpe];unfold rT;rw[hEq];exact hwn.1) (by rw[hx.1,hcs,hwn.2]),FU,by rw[List.map_append,List.map_cons,List.map_nil,hx.1];exact hv⟩,by simp only;omega,rfl,bM,bM,λR w' h=>⟨h.1.1,kX h.1.2 h.2⟩⟩
 ·obtain rfl:i=g.l.length:=by omega
  rw[List.drop_length]at hv
  have hgO:=yj (n:=g.l.length) (l:=kn) (j:=g.out.toNat) aa aa
  by_cases hrest:0<cur.l.length
  ·have hv2:sw g (iv.l.map au.xs)=(12,[]):=by
    rw[<-hv]
    conv=>lhs;unfold jf
    rw[if_pos (by simpa using hrest)]
   repeat' ((conv=>whnf)<;>first|refine bn ?_|refine ag ?_ ?_<;>intro _)
   conv=>whnf
   exact FD (λ_ _ h=>h.1.1) rfl hv2 (λ_=>rfl)
  ·have hv2:sw g (iv.l.map au.xs)=(0,kn.map au.xs):=by
    rw[<-hv]
    conv=>lhs;unfold jf
    rw[if_neg (by simpa using hrest)]
   repeat' ((conv=>whnf)<;>first|(show di ..;(refine bg g.out.toNat aa aa Zi ?_))|(show mq ..;refine row_of _ _ hgO rfl ?_)|refine bn ?_|refine ag ?_ ?_<;>intro _)
   conv=>whnf
   have hko:g.out.toNat<kn.length:=by omega
   have hge:kn.getD g.out.toNat fQ=kn[g.out.toNat]:=by rw[List.getD_eq_getElem?_getD,List.getElem?_eq_getElem hko];rfl
   exact aaE (λ_ _ h=>h.1.1) rfl (by rw[hge];exact hkn.bq _ (List.getElem_mem hko)) hv2 (Bo _ _).symm (λR w' h=>by rw[hge];exact h.2 _ (List.getElem_mem hko))
end
def n_(a b:aT):Bool:=decide (a.ak=b.ak)&&decide (a.a=b.a)&&decide (a.b=b.b)&&decide (a.ay=b.ay)&&decide (a.lo=b.lo)&&decide (a.hi=b.hi)&&decide (a.size=b.size)&&decide (a.data=b.data)&&decide (a.aM=b.aM)
theorem OV{a b:aT}:n_ a b=true↔a=b:=by
 unfold n_
 simp only[Bool.and_eq_true,decide_eq_true_eq]
 constructor
 ·rintro⟨⟨⟨⟨⟨⟨⟨⟨h1,h2⟩,h3⟩,h4⟩,h5⟩,h6⟩,h7⟩,h8⟩,h9⟩
  cases a;cases b;simp only at*;subst_vars;rfl
 ·rintro rfl;simp
def dB:aT:=⟨0,0,0,[],0,0,0,[],[]⟩
def df(n:aT):List Int:=if n.ak=1\/n.ak=2 then []else if n.ak=6 then [n.a,n.b]else [n.a]
def bJ(st:List Nat)(n:aT):aT:=
 if n.ak=1\/n.ak=2 then n else if n.ak=6 then {n with a:=st.getD n.a.toNat 0,b:=st.getD n.b.toNat 0}else {n with a:=st.getD n.a.toNat 0}
def oL(row:List aT)(k:Int):Bool:=decide ((row.getD k.toNat dB).ak=2)
def gU(row:List aT)(n:aT):Bool:= !decide (n.ak=1\/n.ak=2)&&oL row n.a&&(decide (n.ak≠6)||oL row n.b)
def kR(s:List Int)(row:List aT)(n:aT):List Int:=kN n.jh (az s).toNat (row.getD n.a.toNat dB).ay (row.getD n.a.toNat dB).data (if n.ak=6 then(row.getD n.b.toNat dB).data else [])
def jZ(s:List Int)(row:List aT)(n:aT):aT:=if gU row n=true then⟨2,0,0,s,0,0,0,kR s row n,[]⟩else n
def xm(n:aT):List aT->Nat->Option Nat
 |[],_=>none
 |x::r,k=>if n_ x n=true then some k else xm n r (k+1)
def kr(row:List aT)(n:aT):Option Nat:=if n.ak=1 then none else xm n row 0
def Cy(row:List aT)(n:aT):List aT×Nat:=match kr row n with|some k=>(row,k)|none=>(row++[n],row.length)
def pg(s:List Int)(x:List aT×List Nat)(n:aT):List aT×List Nat:=
 ((Cy x.1 (jZ s x.1 (bJ x.2 n))).1,x.2++[(Cy x.1 (jZ s x.1 (bJ x.2 n))).2])
def pF:List aT->List (List Int)->List aT×List Nat->List aT×List Nat
 |n::r,s::ss,x=>pF r ss (pg s x n)
 |_,_,x=>x
theorem FB{n:aT}:∀{row:List aT} {j k:Nat},xm n row j=some k->j<=k/\row[k-j]? =some n
 |[],_,_,h=>by cases h
 |x::r,j,k,h=>by
  unfold xm at h
  split at h
  ·rename_i hs
   simp only[Option.some.injEq]at h
   subst h
   rw[OV]at hs
   subst hs
   simp
  ·obtain⟨h1,h2⟩:=FB h
   refine⟨by omega,?_⟩
   have:k-j=(k-(j+1))+1:=by omega
   rw[this,List.getElem?_cons_succ];exact h2
theorem CO{row:List aT}{n:aT}{k:Nat}(h:kr row n=some k):n.ak≠1/\row[k]? =some n:=by
 unfold kr at h
 split at h
 ·cases h
 ·rename_i hk
  exact⟨hk,by simpa using(FB h).2⟩
def jJ(n:ai)(a b:Int):ai:=⟨n.ak,a,b,n.ay,n.lo,n.hi,n.size,n.data,n.aM⟩
theorem xV{n:ai}{i k:Nat}{a b:Int}(h:cZ n i=true)(ha:n.ak≠1->n.ak≠2->0<=a/\a<k)(ha2:n.ak=1\/n.ak=2->a=n.a)(hb:n.ak=6->0<=b/\b<k)(hb2:n.ak≠6->b=n.b):cZ (jJ n a b) k=true:=by
 have hkk:=(dM h).ak
 unfold cZ at h|-
 have hk:n.ak=1\/n.ak=2\/n.ak=3\/n.ak=4\/n.ak=5\/n.ak=6\/n.ak=7\/n.ak=8\/n.ak=9:=by omega
 have e1:(jJ n a b).ak=n.ak:=rfl
 have e2:(jJ n a b).ay=n.ay:=rfl
 have e3:(jJ n a b).data=n.data:=rfl
 have e4:(jJ n a b).aM=n.aM:=rfl
 have e5:(jJ n a b).size=n.size:=rfl
 have e6:(jJ n a b).a=a:=rfl
 have e7:(jJ n a b).b=b:=rfl
 have e8:(jJ n a b).lo=n.lo:=rfl
 have e9:(jJ n a b).hi=n.hi:=rfl
 rw[e1]
 rcases hk with hk|hk|hk|hk|hk|hk|hk|hk|hk
 all_goals repeat(first|rw[if_pos hk]at h|- |rw[if_neg aa]at h|-)
 all_goals simp only[kg,jX,Bool.true_or,Bool.false_or,Bool.true_and,Bool.and_true,Bool.and_eq_true,decide_eq_true_eq,e1,e2,e3,e4,e5,e6,e7,e8,e9]at h|-
 ·have:=ha2 aa;have:=hb2 aa;subst_vars;exact h
 ·have:=ha2 aa;have:=hb2 aa;subst_vars;exact h
 all_goals have hA:=ha aa aa
 case inr.inr.inr.inr.inr.inl=>have hB:=hb hk;refine⟨⟨h.1.1,hA⟩,hB⟩
 all_goals(have:=hb2 aa;subst_vars;grind)
theorem uV{n:ai}{sh sh':List (List Int)}{a b:Int}(hA:n.ak≠1->n.ak≠2->sh'.getD a.toNat []=sh.getD n.a.toNat [])(hB:n.ak=6->sh'.getD b.toNat []=sh.getD n.b.toNat []):bR (jJ n a b) sh'=bR n sh:=by
 by_cases h12:n.ak=1\/n.ak=2
 ·unfold bR
  have:(jJ n a b).ak=1\/(jJ n a b).ak=2:=h12
  rw[if_pos h12,if_pos this];rfl
 ·have hA:=hA aa aa
  unfold bR
  have e1:(jJ n a b).ak=n.ak:=rfl
  have e6:(jJ n a b).a=a:=rfl
  have e7:(jJ n a b).b=b:=rfl
  simp only[e1,e6,e7,hA]
  by_cases h6:n.ak=6
  ·simp only[hB h6];rfl
  ·simp only[if_neg h6];rfl
theorem A7(n:ai)(a b:Int):g_ (jJ n a b)=g_ n:=by unfold g_;rfl
theorem NU(n:ai)(a b:Int)(cnt:Nat)(t:List Int)(A B:Sp):iE (jJ n a b) cnt t A B=iE n cnt t A B:=rfl
theorem ZA(n:ai)(i:Int):cZ n.pl.jh i=cZ n i:=by unfold cZ kg;rfl
theorem YP(n:ai):g_ n.pl.jh=g_ n:=by unfold g_;rfl
theorem YJ(n:ai)(cnt:Nat)(t x y:List Int):kN n.pl.jh cnt t x y=kN n cnt t x y:=rfl
def tight(a b:Sp):Prop:=b.1<=a.1/\a.2<=b.2
theorem LW(a:Sp):tight a a:=⟨Int.le_refl _,Int.le_refl _⟩
theorem SB{a b c:Sp}(h1:tight a b)(h2:tight b c):tight a c:=⟨Int.le_trans h2.1 h1.1,Int.le_trans h1.2 h2.2⟩
theorem XN{L L':List Int}(h1:1<=L'.length)(h:∀e∈L',foldI min L<=e/\e<=foldI max L):tight (jg L') (jg L):=⟨(h _ (rV h1)).1,(h _ (rZ h1)).2⟩
theorem Vr{d a1 a2 b1 b2:Int}(h1:b1<=a1)(h2:a2<=b2)(h3:a1<=a2):min (d*b1) (d*b2)<=min (d*a1) (d*a2)/\max (d*a1) (d*a2)<=max (d*b1) (d*b2):=by
 rcases(by omega:0<=d\/d<=0)with hd|hd
 ·have:=Int.mul_le_mul_of_nonneg_left h1 hd
  have:=Int.mul_le_mul_of_nonneg_left h2 hd
  have:=Int.mul_le_mul_of_nonneg_left h3 hd
  omega
 ·have:=Int.mul_le_mul_of_nonpos_left hd h1
  have:=Int.mul_le_mul_of_nonpos_left hd h2
  have:=Int.mul_le_mul_of_nonpos_left hd h3
  omega
theorem O8{A B:Sp}(h:tight A B)(h3:A.1<=A.2):∀{l:List Sp} {s1 s2 s3 s4:Int},s1<=s2->s2<=s3->s3<=s4->l.foldl (Iq B) s1<=l.foldl (Iq A) s2/\l.foldl (Iq A) s2<=l.foldl (Ii A) s3/\l.foldl (Ii A) s3<=l.foldl (Ii B) s4
 |[],_,_,_,_,h1,h2,h3=>⟨h1,h2,h3⟩
 |t::r,s1,s2,s3,s4,h1,h2,h4=>by
  simp only[List.foldl_cons]
  have:=Vr (d:=t.1) h.1 h.2 h3
  exact O8 h h3 (by unfold Iq;omega) (by unfold Iq Ii;omega) (by unfold Ii;omega)
theorem KN{A:Sp}{x:Int}(h1:A.1<=x)(h2:x<=A.2):within A [x]:=λy hy=>by
 obtain rfl:y=x:=by simpa using hy
 exact⟨h1,h2⟩
theorem RQ{n:ai}{A A' B B':Sp}(hk:n.ak=6\/n.ak=7\/n.ak=8\/n.ak=9)(hA:tight A' A)(hA2:A'.1<=A'.2)(hB:n.ak=6->tight B' B/\B'.1<=B'.2):∀e∈fo n A' B',foldI min (fo n A B)<=e/\e<=foldI max (fo n A B):=by
 obtain⟨hA,hA'⟩:=hA
 have key:∀x,A'.1<=x->x<=A'.2->∀y,(n.ak=6->B'.1<=y/\y<=B'.2)->foldI min (fo n A B)<=fG n [x] (if n.ak=6 then [y]else []) 0/\fG n [x] (if n.ak=6 then [y]else []) 0<=foldI max (fo n A B):=λx h1 h2 y hy=>by
  refine J8 (cnt:=1) aa (λh=>by omega) (λ_=>rfl) (λh=>by rw[if_pos h];rfl) (KN aa aa) ?_ (Nat.zero_lt_one)
  by_cases h6:n.ak=6
  ·rw[if_pos h6]
   have:=(hB h6).1
   have:=hy h6
   exact KN (by unfold tight at*;omega) (by unfold tight at*;omega)
  ·rw[if_neg h6];exactλz hz=>by simp at hz
 intro e he
 have hE:∀x y,e=fG n [x] (if n.ak=6 then [y]else []) 0->A'.1<=x->x<=A'.2->(n.ak=6->B'.1<=y/\y<=B'.2)->foldI min (fo n A B)<=e/\e<=foldI max (fo n A B):=λx y h1 h2 h3 h4=>by rw[h1];exact key x h2 h3 y h4
 unfold fo at he
 rw[if_neg aa,if_neg aa]at he
 rcases hk with hk|hk|hk|hk
 ·have hb:=(hB hk).2
  rw[if_pos hk]at he
  have hN:∀x y,fG n [x] (if n.ak=6 then [y]else []) 0=x+y:=λx y=>by unfold fG;rw[if_neg aa,if_pos hk,if_pos hk];rfl
  simp only[List.mem_cons,List.not_mem_nil,or_false]at he
  rcases he with he|he
  ·exact hE A'.1 B'.1 aba (Int.le_refl _) hA2 (λ_=>⟨Int.le_refl _,hb⟩)
  ·exact hE A'.2 B'.2 aba hA2 (Int.le_refl _) (λ_=>⟨hb,Int.le_refl _⟩)
 ·rw[if_neg aa,if_pos hk]at he
  have hN:∀x y,fG n [x] (if n.ak=6 then [y]else []) 0=x*n.data.xs.getD 0 0:=λx y=>by unfold fG;rw[if_neg aa,if_neg aa,if_pos hk];rfl
  simp only[List.mem_cons,List.not_mem_nil,or_false]at he
  rcases he with he|he
  ·exact hE A'.1 0 (by rw[hN,Int.mul_comm];exact he) (Int.le_refl _) hA2 (λh=>by omega)
  ·exact hE A'.2 0 (by rw[hN,Int.mul_comm];exact he) hA2 (Int.le_refl _) (λh=>by omega)
 ·rw[if_neg aa,if_neg aa,if_pos hk]at he
  have hN:∀x y,fG n [x] (if n.ak=6 then [y]else []) 0=fA n.data.xs x:=λx y=>by unfold fG;rw[if_neg aa,if_neg aa,if_neg aa,if_pos hk];rfl
  have h2:∀x,e=fA n.data.xs x->A'.1<=x->x<=A'.2->foldI min (fo n A B)<=e/\e<=foldI max (fo n A B):=λx h1 h2 h3=>hE x 0 (by rw[hN];exact h1) h2 h3 (λh=>by omega)
  have h3:e∈[fA n.data.xs A'.1,fA n.data.xs A'.2]->foldI min (fo n A B)<=e/\e<=foldI max (fo n A B):=λhe=>by
   simp only[List.mem_cons,List.not_mem_nil,or_false]at he
   rcases he with he|he
   ·exact h2 _ he (Int.le_refl _) hA2
   ·exact h2 _ he hA2 (Int.le_refl _)
  split at he
  ·exact h3 he
  ·rcases List.mem_append.1 he with he|he
   ·exact h3 he
   ·obtain⟨x,hx,rfl⟩:=List.mem_map.1 he
    rw[Ec]at hx
    have q1:A'.1<=Wd n.data.xs A':=by unfold Wd;omega
    have q2:hiI n.data.xs A'<=A'.2:=by unfold hiI;omega
    exact h2 x rfl aa aa
 ·rw[if_neg aa,if_neg aa,if_neg aa]at he
  have hN:∀x y,fG n [x] (if n.ak=6 then [y]else []) 0=x:=λx y=>by unfold fG;rw[if_neg aa,if_neg aa,if_neg aa,if_neg aa];rfl
  simp only[List.mem_cons,List.not_mem_nil,or_false]at he
  rcases he with he|he
  ·exact hE A'.1 0 aba (Int.le_refl _) hA2 (λh=>by omega)
  ·exact hE A'.2 0 aba hA2 (Int.le_refl _) (λh=>by omega)
theorem Mt{n:ai}{sh:List (List Int)}{s t:List Int}{cnt:Nat}(h:fu n sh s t cnt){A A' B B':Sp}(hA:n.ak≠1->n.ak≠2->tight A' A/\A'.1<=A'.2)(hB:n.ak=6->tight B' B/\B'.1<=B'.2):tight (jg (iE n cnt t A' B')) (jg (iE n cnt t A B)):=by
 have hkind:=(dM h.node.form).ak
 refine XN (AU h A' B') ?_
 by_cases hl:dX n
 ·have hk:n.ak=3\/n.ak=4\/n.ak=5:=hl
  have hA:=hA aa aa
  have e1:iE n cnt t A B=lC n cnt (bS n t) A:=if_pos hl
  have e2:iE n cnt t A' B'=lC n cnt (bS n t) A':=if_pos hl
  rw[e1,e2]
  intro e he
  obtain⟨o,ho,he⟩:=List.mem_flatMap.1 he
  have hw:=O8 hA.1 hA.2 (l:=bS n t o) (Int.le_refl (dI n cnt o)) (Int.le_refl _) (Int.le_refl _)
  have m1:(bS n t o).foldl (Iq A) (dI n cnt o)∈lC n cnt (bS n t) A:=List.mem_flatMap.2 ⟨o,ho,by simp⟩
  have m2:(bS n t o).foldl (Ii A) (dI n cnt o)∈lC n cnt (bS n t) A:=List.mem_flatMap.2 ⟨o,ho,by simp⟩
  have:=iT m1
  have:=iQ m2
  simp only[List.mem_cons,List.not_mem_nil,or_false]at he
  rcases he with rfl|rfl<;>omega
 ·have e1:iE n cnt t A B=fo n A B:=if_neg hl
  have e2:iE n cnt t A' B'=fo n A' B':=if_neg hl
  rw[e1,e2]
  by_cases h12:n.ak=1\/n.ak=2
  ·have e3:fo n A' B'=fo n A B:=by
    unfold fo
    rcases h12 with h1|h2
    ·rw[if_pos h1,if_pos h1]
    ·rw[if_neg aa,if_pos h2,if_neg aa,if_pos h2]
   rw[e3]
   exactλe he=>⟨iT he,iQ he⟩
  ·unfold dX at hl
   exact RQ aa (hA aa aa).1 (hA aa aa).2 hB
theorem En{n:ai}{sh:List (List Int)}{s t:List Int}{cnt:Nat}(h:fu n sh s t cnt)(A B:Sp):(jg (iE n cnt t A B)).1<=(jg (iE n cnt t A B)).2:=Lb (AU h A B)
structure qX where
 op:Int
 to_:Int
 a:Int
 b:Int
 k:Int
structure abL where
 lo:Int
 hi:Int
 aj:List Int
structure fE where
 inputs:List abL
 aF:List (List Int)
 code:List qX
def bP(s:fE)(op a b k:Int):fE×Int:=(⟨s.inputs,s.aF,s.code++[⟨op,s.code.length,a,b,k⟩]⟩,s.code.length)
def CS(r:List Int):List (List Int)->Nat->Option Nat
 |[],_=>none
 |x::l,k=>if x=r then some k else CS r l (k+1)
def gm(s:fE)(r:List Int):fE×Int:=match CS r s.aF 0 with
 |some k=>(s,k)
 |none=>(⟨s.inputs,s.aF++[r],s.code⟩,s.aF.length)
def nT(f:Nat->Int):List Int->Nat->List Int->List Int
 |[],_,row=>row
 |s::r,e,row=>nT f r (e+1) (row.set s.toNat (f e))
def jl(n:Nat)(aj:List Int)(f:Nat->Int):List Int:=nT f aj 0 (List.replicate n 0)
def bC(n:Nat)(s:fE)(aj:List Int)(f:Nat->Int):fE×Int:=gm s (jl n aj f)
def uu(n:Nat)(s:fE)(x:Int):fE×Int:=bP (gm s (List.replicate n 0)).1 5 x 0 (gm s (List.replicate n 0)).2
def lI(s:fE)(m:Option Int)(v:Int):fE×Int:=match m with
 |none=>(s,v)
 |some a=>bP s 3 a v 0
def p9(s:fE)(t:Int->Option Int)(x:Int)(i:Nat):fE×(Int->Option Int)×Int:=match t i with
 |some a=>(s,t,a)
 |none=>((bP s 8 x 0 i).1,λz=>if z=i then some (bP s 8 x 0 i).2 else t z,(bP s 8 x 0 i).2)
structure oH where
 s:fE
 t:Int->Option Int
 m:Option Int
def jH(n base:Nat)(d:List Int):List Int:=d.drop (n-base)++d.take (n-base)
def rG(n base:Nat)(x:Int)(y:oH)(i:Nat)(d:List Int):oH:=
 if d=[]then y else
 let q:=p9 y.s y.t x i
 let p:=gm q.1 (jH n base d)
 let l:=bP p.1 5 q.2.2 0 p.2
 let a:=lI l.1 y.m l.2
 ⟨a.1,q.2.1,some a.2⟩
def m_(n base:Nat)(x:Int):List (List Int)->Nat->oH->oH
 |[],_,y=>y
 |d::r,i,y=>m_ n base x r (i+1) (rG n base x y i d)
def sU(n base:Nat)(x:Int)(y:oH)(ds:List (List Int)):oH:=
 let z:=m_ n base x ds 0 ⟨y.s,y.t,none⟩
 match z.m with
 |none=>⟨z.s,z.t,y.m⟩
 |some a=>
  let u:=if 0<base then bP z.s 8 a 0 base else(z.s,a)
  let v:=lI u.1 y.m u.2
  ⟨v.1,z.t,some v.2⟩
def kI(n g:Nat)(x:Int)(all:List (List Int)):Nat->Nat->oH->oH
 |0,_,y=>y
 |f+1,base,y=>if base<n then kI n g x all f (base+g) (sU n base x y ((all.drop base).take (min n (base+g)-base)))else y
def mU(x:Int):Int->Option Int:=λz=>if z=0 then some x else none
def stepG:Nat->Nat->Nat->Nat
 |0,_,g=>g
 |f+1,n,g=>if g*g<n then stepG f n (2*g)else g
def oK(giant:Bool)(n:Nat):Nat:=if giant then stepG n n 1 else n
def jm(n:Nat)(giant:Bool)(s:fE)(x:Int)(all:List (List Int)):fE×Int:=
 let y:=kI n (oK giant n) x all n 0 ⟨s,mU x,none⟩
 match y.m with
 |none=>uu n y.s x
 |some a=>(y.s,a)
def lK(n:Nat)(s:fE)(x:Int)(data aj:List Int):fE×Int:=
 let a:=data.getD 2 0
 let b:=data.getD 1 0
 let c:=data.getD 0 0
 let y:fE×Option Int:=if a=0 then(s,none)else
  let q:=bP s 6 x x 0
  if a=1 then(q.1,some q.2)else
  let p:=bC n q.1 aj (λ_=>a)
  let l:=bP p.1 5 q.2 0 p.2
  (l.1,some l.2)
 let z:fE×Option Int:=if b=0 then y else if b=1 then
     let u:=lI y.1 y.2 x
     (u.1,some u.2)
  else
   let p:=bC n y.1 aj (λ_=>b)
   let l:=bP p.1 5 x 0 p.2
   let u:=lI l.1 y.2 l.2
   (u.1,some u.2)
 let o:fE×Int:=match z.2 with
  |none=>uu n z.1 x
  |some m=>(z.1,m)
 if c=0 then o else
  let p:=bC n o.1 aj (λ_=>c)
  bP p.1 4 o.2 0 p.2
section
structure Sv(n:ai)(sh:List (List Int)):Prop where
 form:cZ n sh.length=true
 ay:∃s,bR n sh=some s/\agv s
 near:g_ n=true
 made:Made n
section
variable {sh:List (List Int)} {u d e:au} {i j:Nat} {s:List Int}
end
end
section
abbrev gD(l:List (List Int))(k:Nat):List Int:=l.getD k []
abbrev gS(l:List Sp)(k:Nat):Sp:=l.getD k (0,0)
def jB(p:aT)(s:List Int)(dY:List (List Int))(fM:List Sp):Sp:=jg (iE p.jh (az s).toNat (gD dY p.a.toNat) (gS fM p.a.toNat) (gS fM p.b.toNat))
structure d9(row:List aT)(dY:List (List Int))(fM:List Sp):Prop where
 wE:dY.length=row.length
 ahq:fM.length=row.length
 pos:∀q∈dY,0<az q
 node:∀k p,row[k]? =some p->ja p.jh (dY.take k) (gD dY k)
 span:∀k p,row[k]? =some p->gS fM k=jB p (gD dY k) dY fM/\ -1048576<=(gS fM k).1/\(gS fM k).2<=1048576
theorem uJ{n:ai}(h:n.ak=1\/n.ak=2)(cnt cnt':Nat)(t t':List Int)(A B A' B':Sp):iE n cnt t A B=iE n cnt' t' A' B':=by
 have hl:¬dX n:=by unfold dX;omega
 have e1:iE n cnt t A B=fo n A B:=if_neg hl
 have e2:iE n cnt' t' A' B'=fo n A' B':=if_neg hl
 rw[e1,e2]
 unfold fo
 rcases h with h1|h2
 ·rw[if_pos h1,if_pos h1]
 ·rw[if_neg aa,if_pos h2,if_neg aa,if_pos h2]
theorem Cm{n:ai}(h:n.ak≠6)(cnt:Nat)(t:List Int)(A B B':Sp):iE n cnt t A B=iE n cnt t A B':=by
 unfold iE
 split
 ·rfl
 ·unfold fo
  rw[if_neg h,if_neg h]
variable {l:List (List Int)} {k:Nat}
theorem Dx{r:List (List Int)}(h:k<l.length):gD (l++r) k=gD l k:=by
 unfold gD;rw[List.getD_eq_getElem?_getD,List.getD_eq_getElem?_getD,List.getElem?_append_left h]
theorem Ep{l r:List Sp}(h:k<l.length):gS (l++r) k=gS l k:=by
 unfold gS;rw[List.getD_eq_getElem?_getD,List.getD_eq_getElem?_getD,List.getElem?_append_left h]
theorem I7{x:List Int}(h:k=l.length):gD (l++[x]) k=x:=by
 subst h;unfold gD;rw[List.getD_eq_getElem?_getD,List.getElem?_append_right (Nat.le_refl _),Nat.sub_self];rfl
theorem PG{l:List Sp}{x:Sp}(h:k=l.length):gS (l++[x]) k=x:=by
 subst h;unfold gS;rw[List.getD_eq_getElem?_getD,List.getElem?_append_right (Nat.le_refl _),Nat.sub_self];rfl
variable {i:Nat}
theorem rY(h:k<i):gD (l.take i) k=gD l k:=by
 unfold gD;rw[List.getD_eq_getElem?_getD,List.getD_eq_getElem?_getD,List.getElem?_take,if_pos h]
theorem Bb{l:List Sp}(h:k<i):gS (l.take i) k=gS l k:=by
 unfold gS;rw[List.getD_eq_getElem?_getD,List.getD_eq_getElem?_getD,List.getElem?_take,if_pos h]
theorem akr(h:k<l.length):gD l k∈l:=O0 h
structure gZ(p:aT)(k:Nat):Prop where
 a0:0<=p.a
 a1:p.ak≠1->p.ak≠2->p.a.toNat<k
 a2:p.ak=1\/p.ak=2->p.a=0
 b0:0<=p.b
 b1:p.ak=6->p.b.toNat<k
 b2:p.ak≠6->p.b=0
 ak:1<=p.ak/\p.ak<=9
theorem adb{n:ai}(h:cZ n i=true):(n.ak=1\/n.ak=2->n.a=0)/\(n.ak≠6->n.b=0):=by
 have hkk:=(dM h).ak
 unfold cZ at h
 have hk:n.ak=1\/n.ak=2\/n.ak=3\/n.ak=4\/n.ak=5\/n.ak=6\/n.ak=7\/n.ak=8\/n.ak=9:=by omega
 rcases hk with hk|hk|hk|hk|hk|hk|hk|hk|hk
 all_goals repeat(first|rw[if_pos hk]at h|rw[if_neg aa]at h)
 all_goals simp only[kg,Bool.true_or,Bool.false_or,Bool.true_and,Bool.and_true,Bool.and_eq_true,decide_eq_true_eq]at h
 all_goals exact⟨by omega,by omega⟩
theorem lS{p:aT}(h:cZ p.jh k=true):gZ p k:=by
 obtain⟨hA,hB,_⟩:=nG h
 obtain⟨lA,lB⟩:=adb h
 have hf:=dM h
 have e1:p.jh.ak=p.ak:=rfl
 have e2:p.jh.a=p.a:=rfl
 have e3:p.jh.b=p.b:=rfl
 have hfa:=hf.a
 have mX:=hf.b
 have hfk:=hf.ak
 rw[e1,e2]at*
 rw[e3]at*
 exact⟨hA.1,λh1 h2=>by have:=hfa h1 h2;omega,lA,hB.1,λh=>by have:=mX h;omega,lB,hfk⟩
variable {row:List aT} {dY:List (List Int)} {fM:List Sp}
theorem d9.akw(h:d9 row dY fM){p:aT}(hk:row[k]? =some p):k<row.length/\(dY.take k).length=k:=by
 have hlt:=(List.getElem?_eq_some_iff.1 hk).1
 exact⟨hlt,by rw[List.length_take,h.wE];omega⟩
theorem d9.ahead(h:d9 row dY fM){p:aT}(hk:row[k]? =some p):gZ p k:=by
 have hf:=(h.node k p hk).form
 rw[(h.akw hk).2]at hf
 exact lS hf
variable {sh:List (List Int)} {s:List Int}
theorem Lg{p:aT}(hn:ja p.jh sh s)(hp:∀q∈sh,0<az q):fu p.jh sh s (gD sh p.a.toNat) (az s).toNat:=by
 refine⟨hn,by have:=(dQ s).1;omega,hp,λhl=>⟨rfl,hp _ (akr ?_)⟩⟩
 have:=(lS hn.form).a1
 have hl:p.ak=3\/p.ak=4\/p.ak=5:=hl
 exact this aa aa
theorem d9.place(h:d9 row dY fM){p:aT}(hk:row[k]? =some p):fu p.jh (dY.take k) (gD dY k) (gD (dY.take k) p.a.toNat) (az (gD dY k)).toNat:=
 Lg (h.node k p hk) λq hq=>h.pos q (List.mem_of_mem_take hq)
theorem d9.nil:d9 [] [] []:=⟨rfl,rfl,λq hq=>by simp at hq,λk p hk=>by simp at hk,λk p hk=>by simp at hk⟩
theorem J2{p:aT}(ha:gZ p k){r1:List (List Int)}{r2:List Sp}(h1:k<=dY.length)(h2:k<=fM.length):jB p s (dY++r1) (fM++r2)=jB p s dY fM:=by
 unfold jB
 by_cases h12:p.ak=1\/p.ak=2
 ·rw[uJ (n:=p.jh) h12]
 ·have hA:=ha.a1 aa aa
  rw[Dx aa,Ep aa]
  by_cases h6:p.ak=6
  ·have:=ha.b1 h6
   rw[Ep aa]
  ·rw[Cm (n:=p.jh) h6]
theorem d9.snoc(h:d9 row dY fM){m:aT}(hn:ja m.jh dY s)(h1: -1048576<=(jB m s dY fM).1)(h2:(jB m s dY fM).2<=1048576):d9 (row++[m]) (dY++[s]) (fM++[jB m s dY fM]):=by
 have l1:=h.wE
 have l2:=h.ahq
 have hm:=lS hn.form
 refine⟨by simp[l1],by simp[l2],λq hq=> ?_,λk p hk=> ?_,λk p hk=> ?_⟩
 ·rcases List.mem_append.1 hq with hq|hq
  ·exact h.pos q hq
  ·simp at hq;subst hq
   exact jF (dM hn.form) h.pos hn.ay rfl
 ·rcases Nat.lt_or_ge k row.length with hlt|hge
  ·rw[List.getElem?_append_left hlt]at hk
   rw[List.take_append_of_le_length aa,Dx aa]
   exact h.node k p hk
  ·rw[List.getElem?_append_right hge]at hk
   have h0:k-row.length=0:=by
    rcases Nat.eq_zero_or_pos (k-row.length)with h|h
    ·exact h
    ·rw[List.getElem?_eq_none yL]at hk;cases hk
   rw[h0]at hk
   simp only[List.getElem?_cons_zero,Option.some.injEq]at hk
   subst hk
   have hk:k=dY.length:=by omega
   rw[I7 hk,hk,List.take_left]
   exact hn
 ·rcases Nat.lt_or_ge k row.length with hlt|hge
  ·rw[List.getElem?_append_left hlt]at hk
   have:=h.span k p hk
   rw[Ep aa,Dx aa,J2 (h.ahead hk) aa aa]
   exact this
  ·rw[List.getElem?_append_right hge]at hk
   have h0:k-row.length=0:=by
    rcases Nat.eq_zero_or_pos (k-row.length)with h|h
    ·exact h
    ·rw[List.getElem?_eq_none yL]at hk;cases hk
   rw[h0]at hk
   simp only[List.getElem?_cons_zero,Option.some.injEq]at hk
   subst hk
   rw[PG aa,I7 aa,J2 hm (Nat.le_refl _) aa]
   exact⟨rfl,h1,h2⟩
theorem d9.eX{row:List aT}{dY:List (List Int)}{fM:List Sp}(h:d9 row dY fM):eX (row.map aT.jh) []=(0,dY):=by
 have l1:=h.wE
 have key:∀d k,row.length-k=d->k<=row.length->Go.Proofs.YtgndjjdeopfdkaaGreat.eX ((row.drop k).map aT.jh) (dY.take k)=(0,dY):=by
  intro d
  induction d with
  |zero=>
   intro k hd hk
   rw[List.drop_of_length_le aa,List.take_of_length_le aa]
   rfl
  |succ d ih=>
   intro k hd hk
   have hlt:k<row.length:=by omega
   have hn:=h.node k row[k] (List.getElem?_eq_getElem hlt)
   rw[List.drop_eq_getElem_cons hlt,List.map_cons,iG hn.form hn.ay hn.near]
   have:dY.take k++[gD dY k]=dY.take (k+1):=by
    have hlt2:k<dY.length:=by omega
    rw[List.take_succ_eq_append_getElem hlt2]
    unfold gD;rw[List.getD_eq_getElem?_getD,List.getElem?_eq_getElem hlt2];rfl
   rw[this]
   exact ih (k+1) aa aa
 simpa using key row.length 0 aa aa
theorem yX{p:aT}(ha:gZ p k):jB p s dY fM=jg (iE p.jh (az s).toNat (gD dY p.a.toNat) (gS (fM.take k) p.a.toNat) (gS (fM.take k) p.b.toNat)):=by
 unfold jB
 by_cases h12:p.ak=1\/p.ak=2
 ·rw[uJ (n:=p.jh) h12]
 ·have hA:=ha.a1 aa aa
  rw[Bb aa]
  by_cases h6:p.ak=6
  ·rw[Bb (ha.b1 h6)]
  ·rw[Cm (n:=p.jh) h6]
theorem d9.f_{row:List aT}{dY:List (List Int)}{fM:List Sp}(h:d9 row dY fM):f_ dY (row.map aT.jh) []=(0,fM):=by
 have l1:=h.wE
 have l2:=h.ahq
 have key:∀d k,row.length-k=d->k<=row.length->Go.Proofs.YtgndjjdeopfdkaaGreat.f_ dY ((row.drop k).map aT.jh) (fM.take k)=(0,fM):=by
  intro d
  induction d with
  |zero=>
   intro k hd hk
   rw[List.drop_of_length_le aa,List.take_of_length_le aa]
   rfl
  |succ d ih=>
   intro k hd hk
   have hlt:k<row.length:=by omega
   have hkk:row[k]? =some row[k]:=List.getElem?_eq_getElem hlt
   obtain⟨q1,q2,q3⟩:=h.span k row[k] hkk
   rw[List.drop_eq_getElem_cons hlt,List.map_cons]
   have e:jg (jb dY row[k].jh (fM.take k))=gS fM k:=by
    rw[q1,yX (h.ahead hkk)]
    unfold jb
    rw[List.length_take,Nat.min_eq_left aa]
    rfl
   have e1:foldI min (jb dY row[k].jh (fM.take k))=(gS fM k).1:=by rw[<-e];rfl
   have e2:foldI max (jb dY row[k].jh (fM.take k))=(gS fM k).2:=by rw[<-e];rfl
   have:fM.take k++[((gS fM k).1,(gS fM k).2)]=fM.take (k+1):=by
    have hlt2:k<fM.length:=by omega
    rw[List.take_succ_eq_append_getElem hlt2]
    unfold gS;rw[List.getD_eq_getElem?_getD,List.getElem?_eq_getElem hlt2];rfl
   unfold Go.Proofs.YtgndjjdeopfdkaaGreat.f_
   rw[e1,e2,if_neg aa,this]
   exact ih (k+1) aa aa
 simpa using key row.length 0 aa aa
theorem d9.check{row:List aT}{dY:List (List Int)}{fM:List Sp}(h:d9 row dY fM)(h24:row.length<=24){g:bG}(hg:g.l.map ai.pl=row)(h0:0<=g.out)(h1:g.out<row.length):Go.Proofs.YtgndjjdeopfdkaaGreat.check g=(0,dY):=by
 have hl:g.l.length=row.length:=by rw[<-hg];simp
 unfold Go.Proofs.YtgndjjdeopfdkaaGreat.check
 rw[if_neg aa,EJ (m:=row.map aT.jh) [] agp]
 exact h.eX
theorem Nf{sh:List (List Int)}:∀{l m:List ai} {acc:List Sp},l.map ai.pl=m.map ai.pl->f_ sh l acc=f_ sh m acc
 |[],[],_,_=>rfl
 |[],_::_,_,h=>by simp at h
 |_::_,[],_,h=>by simp at h
 |x::l,y::m,acc,h=>by
  simp only[List.map_cons,List.cons.injEq]at h
  have e:jb sh x acc=jb sh y acc:=by
   have:∀z:ai,jb sh z acc=jb sh z.pl.jh acc:=λz=>rfl
   rw[this x,this y,h.1]
  unfold f_
  rw[e]
  split
  ·rfl
  ·exact Nf h.2
theorem d9.spans{row:List aT}{dY:List (List Int)}{fM:List Sp}(h:d9 row dY fM)(h24:row.length<=24){g:bG}(hg:g.l.map ai.pl=row)(h0:0<=g.out)(h1:g.out<row.length):bX g=(0,fM):=by
 have hc:=h.check h24 hg h0 h1
 unfold bX
 rw[hc,if_neg fP,Nf (m:=row.map aT.jh) agp]
 exact h.f_
variable {g:bG}
theorem zS(hsp:(bX g).1=0):d9 (g.l.map ai.pl) (check g).2 (bX g).2:=by
 obtain⟨hck,hsl,hsi⟩:=jw hsp
 obtain⟨hl1,wT,hout,hcl,hin⟩:=iq hck
 have aeN:∀k p,(g.l.map ai.pl)[k]? =some p->∃n:ai,g.l[k]? =some n/\n.pl=p:=λk p hk=>by
  rw[List.getElem?_map]at hk
  cases hn:g.l[k]? with
  |none=>rw[hn]at hk;simp at hk
  |some n=>rw[hn]at hk;exact⟨n,hn,by simpa using hk⟩
 have hN:∀k p,(g.l.map ai.pl)[k]? =some p->ja p.jh ((check g).2.take k) (gD (check g).2 k):=λk p hk=>by
  obtain⟨n,hn,rfl⟩:=aeN k p hk
  obtain⟨s,hs,h⟩:=hin k n hn
  have:gD (check g).2 k=s:=by unfold gD;rw[List.getD_eq_getElem?_getD,hs];rfl
  rw[this]
  exact⟨by rw[ZA];exact h.form,h.ay,by rw[YP];exact h.near⟩
 refine⟨by rw[hcl,List.length_map],by rw[hsl,List.length_map],I_ hck,hN,λk p hk=> ?_⟩
 have hah:gZ p k:=by
  have hf:=(hN k p hk).form
  obtain⟨n,hn,rfl⟩:=aeN k p hk
  have:=(List.getElem?_eq_some_iff.1 hn).1
  rw[List.length_take,hcl,Nat.min_eq_left aa]at hf
  exact lS hf
 obtain⟨n,hn,rfl⟩:=aeN k p hk
 obtain⟨s,hs,he,h1,h2⟩:=hsi k n hn
 have hkl:=(List.getElem?_eq_some_iff.1 hn).1
 have:gS (bX g).2 k=s:=by unfold gS;rw[List.getD_eq_getElem?_getD,hs];rfl
 rw[this]
 refine⟨?_,h1,h2⟩
 rw[he,yX hah]
 unfold rT jb
 rw[List.length_take,hsl,Nat.min_eq_left aa]
 rfl
end
section
variable {s:List Int}
theorem ack{p:aT}{sh:List (List Int)}(h:ja p.jh sh s)(h2:p.ak=2):s=p.ay/\(p.data.length:Int)=az p.ay/\0<az p.ay/\∀x∈p.data,cK x:=by
 obtain⟨_,_,_,_,hd⟩:=nG h.form
 have hs:=h.ay
 unfold bR at hs
 have hk:p.jh.ak=2:=h2
 rw[if_pos (.inr hk),Option.some.injEq]at hs
 exact⟨hs.symm,hd h2,(dM h.form).own (.inr (.inl hk)),(r9 h.near).1⟩
theorem vQ{p:aT}(h2:p.ak=2)(s:List Int)(dY:List (List Int))(fM:List Sp):jB p s dY fM=jg p.data:=by
 unfold jB
 have hk:p.jh.ak=2:=h2
 have hl:¬dX p.jh:=by unfold dX;omega
 have e1:iE p.jh (az s).toNat (gD dY p.a.toNat) (gS fM p.a.toNat) (gS fM p.b.toNat)=fo p.jh (gS fM p.a.toNat) (gS fM p.b.toNat):=if_neg hl
 rw[e1]
 unfold fo
 rw[if_neg aa,if_pos hk]
 rfl
variable {k:Nat}
theorem WC{p:aT}{i:Nat}(h2:p.ak=2)(h:cZ p.jh i=true):cZ p.jh k=true:=by
 have:=xV (k:=k) (a:=p.a) (b:=p.b) h (λ_ g=>absurd h2 g) (λ_=>rfl) (λg=>absurd (h2.symm.trans g) aY) (λ_=>rfl)
 exact this
theorem XW{p:aT}{sh sh':List (List Int)}(h:ja p.jh sh s)(h2:p.ak=2):ja p.jh sh' s:=by
 refine⟨WC h2 h.form,?_,h.near⟩
 have hs:=h.ay
 have hk:p.jh.ak=2:=h2
 unfold bR at hs|-
 rw[if_pos (.inr hk)]at hs|-
 exact hs
structure Std(sh:List (List Int))(sp:List Sp)(dY:List (List Int))(fM:List Sp)(st:List Nat):Prop where
 lt:∀j,j<st.length->st.getD j 0<dY.length
 sh:∀j,j<st.length->gD dY (st.getD j 0)=gD sh j
 sp:∀j,j<st.length->tight (gS fM (st.getD j 0)) (gS sp j)
theorem qH(st:List Nat)(n:aT):(bJ st n).jh=jJ n.jh (bJ st n).a (bJ st n).b/\(bJ st n).ak=n.ak/\(n.ak≠1->n.ak≠2->(bJ st n).a=st.getD n.a.toNat 0)/\(n.ak=1\/n.ak=2->(bJ st n).a=n.a)/\(n.ak=6->(bJ st n).b=st.getD n.b.toNat 0)/\(n.ak≠6->(bJ st n).b=n.b):=by
 unfold bJ
 by_cases h12:n.ak=1\/n.ak=2
 ·rw[if_pos h12]
  exact⟨rfl,rfl,λh1 h2=>by omega,λ_=>rfl,λh=>by omega,λ_=>rfl⟩
 ·rw[if_neg h12]
  by_cases h6:n.ak=6
  ·rw[if_pos h6]
   exact⟨rfl,rfl,λ_ _=>rfl,λh=>absurd h h12,λ_=>rfl,λh=>absurd h6 h⟩
  ·rw[if_neg h6]
   exact⟨rfl,rfl,λ_ _=>rfl,λh=>absurd h h12,λh=>absurd h h6,λ_=>rfl⟩
section
variable {l:List aT} {sh:List (List Int)} {sp:List Sp} {row:List aT} {dY:List (List Int)} {fM:List Sp} {st:List Nat} {n:aT}
theorem Mg(hL:d9 l sh sp)(hR:d9 row dY fM)(hst:Std sh sp dY fM st)(hn:l[st.length]? =some n):ja (bJ st n).jh dY (gD sh st.length)/\tight (jB (bJ st n) (gD sh st.length) dY fM) (gS sp st.length):=by
 obtain⟨e0,ek,ea,ea2,eb,eb2⟩:=qH st n
 have hni:=hL.node _ _ hn
 have hah:=hL.ahead hn
 have hti:=(hL.akw hn).2
 have hf:=hni.form
 rw[hti]at hf
 have kk:n.jh.ak=n.ak:=rfl
 have ka:n.jh.a=n.a:=rfl
 have kb:n.jh.b=n.b:=rfl
 have hA:n.ak≠1->n.ak≠2->(bJ st n).a.toNat=st.getD n.a.toNat 0:=λh1 h2=>by rw[ea h1 h2];omega
 have hB:n.ak=6->(bJ st n).b.toNat=st.getD n.b.toNat 0:=λh=>by rw[eb h];omega
 refine⟨⟨?_,?_,?_⟩,?_⟩
 ·rw[e0]
  refine xV hf (λh1 h2=> ?_) (λh=> ?_) (λh=> ?_) (λh=> ?_)
  ·have:=hst.lt _ (hah.a1 h1 h2)
   rw[ea h1 h2];omega
  ·exact ea2 h
  ·have:=hst.lt _ (hah.b1 h)
   rw[eb h];omega
  ·exact eb2 h
 ·rw[e0,uV (sh:=sh.take st.length) (λh1 h2=> ?_) (λh=> ?_)]
  ·exact hni.ay
  ·show gD dY (bJ st n).a.toNat=gD (sh.take st.length) n.a.toNat
   rw[hA h1 h2,hst.sh _ (hah.a1 h1 h2),rY (hah.a1 h1 h2)]
  ·show gD dY (bJ st n).b.toNat=gD (sh.take st.length) n.b.toNat
   rw[hB h,hst.sh _ (hah.b1 h),rY (hah.b1 h)]
 ·rw[e0,A7];exact hni.near
 ·obtain⟨q1,q2,q3⟩:=hL.span _ _ hn
  rw[q1,yX hah]
  unfold jB
  rw[e0,NU]
  by_cases h12:n.ak=1\/n.ak=2
  ·rw[uJ (n:=n.jh) h12 _ (az (gD sh st.length)).toNat _ (gD sh n.a.toNat) _ _ (gS (sp.take st.length) n.a.toNat) (gS (sp.take st.length) n.b.toNat)]
   exact LW _
  ·have ha1:=hah.a1 aa aa
   have hp:=hL.place hn
   rw[rY ha1]at hp
   rw[hA aa aa,hst.sh _ ha1,Bb ha1]
   have lo:∀j,j<st.length->(gS fM (st.getD j 0)).1<=(gS fM (st.getD j 0)).2:=λj hj=>by
    have hk:=hst.lt j hj
    rw[hR.wE]at hk
    have hk':=List.getElem?_eq_getElem hk
    rw[(hR.span _ _ hk').1]
    unfold jB
    by_cases g12:(row[st.getD j 0]).ak=1\/(row[st.getD j 0]).ak=2
    ·rw[uJ (n:=(row[st.getD j 0]).jh) g12 _ _ _ _ _ _ (0,0) (0,0)]
     exact En (hR.place hk') (0,0) (0,0)
    ·have:=(hR.ahead hk').a1 aa aa
     have hp2:=hR.place hk'
     rw[rY this]at hp2
     exact En hp2 _ _
   refine Mt hp (λh1 h2=>⟨hst.sp _ ha1,lo _ ha1⟩) (λh6=> ?_)
   have h6':n.ak=6:=h6
   have hb1:=hah.b1 h6'
   rw[hB h6',Bb hb1]
   exact⟨hst.sp _ hb1,lo _ hb1⟩
theorem getD_some{row:List aT}(h:k<row.length):row[k]? =some (row.getD k dB):=by
 rw[List.getD_eq_getElem?_getD,List.getElem?_eq_getElem h];rfl
structure I8(row:List aT)(dY:List (List Int))(fM:List Sp)(m:aT)(s:List Int):Prop where
 ak:m.ak≠1/\m.ak≠2
 H_:m.a.toNat<row.length
 aK:(row.getD m.a.toNat dB).ak=2
 aSh:gD dY m.a.toNat=(row.getD m.a.toNat dB).ay
 KX:((row.getD m.a.toNat dB).data.length:Int)=az (row.getD m.a.toNat dB).ay
 aSp:gS fM m.a.toNat=jg (row.getD m.a.toNat dB).data
 Zh:m.ak=6->m.b.toNat<row.length
 bK:m.ak=6->(row.getD m.b.toNat dB).ak=2
 bSh:m.ak=6->gD dY m.b.toNat=(row.getD m.b.toNat dB).ay
 abd:m.ak=6->((row.getD m.b.toNat dB).data.length:Int)=az (row.getD m.b.toNat dB).ay
 bSp:m.ak=6->gS fM m.b.toNat=jg (row.getD m.b.toNat dB).data
theorem DW(hR:d9 row dY fM)(hk:k<row.length)(h2:(row.getD k dB).ak=2):gD dY k=(row.getD k dB).ay/\((row.getD k dB).data.length:Int)=az (row.getD k dB).ay/\gS fM k=jg (row.getD k dB).data/\(∀x∈(row.getD k dB).data,cK x)/\0<az (row.getD k dB).ay:=by
 have hk':=getD_some hk
 obtain⟨q1,q2,q3,q4⟩:=ack (hR.node k _ hk') h2
 obtain⟨p1,_,_⟩:=hR.span k _ hk'
 rw[vQ h2]at p1
 exact⟨q1,q2,p1,q4,q3⟩
variable {m:aT}
theorem zO(hR:d9 row dY fM)(hm:ja m.jh dY s)(hk:gU row m=true):I8 row dY fM m s:=by
 have hah:=lS hm.form
 rw[hR.wE]at hah
 unfold gU oL at hk
 simp only[Bool.and_eq_true,Bool.not_eq_true',decide_eq_false_iff_not,decide_eq_true_eq,Bool.or_eq_true]at hk
 obtain⟨⟨h12,hA⟩,hB⟩:=hk
 have a1:=hah.a1 aa aa
 obtain⟨c1,c2,c3,_⟩:=DW hR a1 hA
 refine⟨by omega,a1,hA,c1,c2,c3,hah.b1,λh=> ?_,λh=> ?_,λh=> ?_,λh=> ?_⟩
 ·exact hB.resolve_left (λg=>g h)
 all_goals
  obtain⟨c1,c2,c3,_⟩:=DW hR (hah.b1 h) (hB.resolve_left (λg=>g h))
  assumption
def Js(row:List aT)(m:aT):List Int:=if m.ak=6 then(row.getD m.b.toNat dB).data else []
theorem Gj{l:List Int}:within (jg l) l:=λx hx=>⟨iT hx,iQ hx⟩
theorem Uc(hR:d9 row dY fM)(h:I8 row dY fM m s):NumIn m.jh dY (row.getD m.a.toNat dB).data (Js row m):=
 ⟨λ_ _=>by show _=az (gD dY m.a.toNat);rw[h.aSh];exact h.KX,λh6=>by
  have h6':m.ak=6:=h6
  show _=az (gD dY m.b.toNat)
  unfold Js
  rw[if_pos h6',h.bSh h6'];exact h.abd h6'⟩
theorem XA{n:ai}(h:n.ak≠6)(cnt:Nat)(t a b b':List Int):kN n cnt t a b=kN n cnt t a b':=by
 unfold kN
 split
 ·rfl
 ·unfold mM fG
  simp only[if_neg h]
theorem SY(hR:d9 row dY fM)(hm:ja m.jh dY s)(h:I8 row dY fM m s):within (jB m s dY fM) (kR s row m)/\(kR s row m).length=(az s).toNat:=by
 have hp:=Lg hm hR.pos
 have hA:within (gS fM m.a.toNat) (row.getD m.a.toNat dB).data:=by rw[h.aSp];exact Gj
 have hB:within (gS fM m.b.toNat) (Js row m):=by
  unfold Js
  by_cases h6:m.ak=6
  ·rw[if_pos h6,h.bSp h6];exact Gj
  ·rw[if_neg h6];exactλx hx=>by simp at hx
 have:=Rm (t:=⟨none,0,gD dY m.a.toNat⟩) hp h.ak.1 (Uc hR h) hA hB
 have e:kR s row m=kN m.jh (az s).toNat (gD dY m.a.toNat) (row.getD m.a.toNat dB).data (Js row m):=by rw[h.aSh];rfl
 rw[e]
 exact this
theorem aaZ{d:List Int}{sh:List (List Int)}(hs:0<az s)(hd:(d.length:Int)=az s)(hb:∀x∈d,cK x):ja (aT.jh ⟨2,0,0,s,0,0,0,d,[]⟩) sh s:=by
 refine⟨?_,?_,?_⟩
 ·unfold cZ
  have e1:(aT.jh ⟨2,0,0,s,0,0,0,d,[]⟩).ak=2:=rfl
  rw[e1,if_neg aY,if_pos aY]
  simp only[kg,aT.jh]
  simp[hs,hd]
 ·unfold bR;rw[if_pos (.inr rfl)];rfl
 ·unfold g_ qz
  simp only[aT.jh,Bool.and_eq_true,List.all_eq_true,decide_eq_true_eq]
  exact⟨⟨⟨hb,λx hx=>by simp at hx⟩,λx hx=>by simp at hx;subst hx;omega⟩,rfl⟩
theorem P9(hL:d9 l sh sp)(hR:d9 row dY fM)(hst:Std sh sp dY fM st)(hn:l[st.length]? =some n):ja (jZ (gD sh st.length) row (bJ st n)).jh dY (gD sh st.length)/\tight (jB (jZ (gD sh st.length) row (bJ st n)) (gD sh st.length) dY fM) (gS sp st.length):=by
 obtain⟨hm,ht⟩:=Mg hL hR hst hn
 unfold jZ
 by_cases hk:gU row (bJ st n)=true
 ·rw[if_pos hk]
  obtain⟨w1,w2⟩:=SY hR hm (zO hR hm hk)
  have TH:=(hL.span _ _ hn).2
  have hpos:=jF (dM hm.form) hR.pos hm.ay rfl
  have hne:1<=(kR (gD sh st.length) row (bJ st n)).length:=by rw[w2];omega
  refine⟨aaZ hpos (by rw[w2];omega) (λx hx=> ?_),?_⟩
  ·have:=w1 x hx
   unfold tight at ht
   unfold cK;omega
  ·rw[vQ rfl]
   refine SB ?_ ht
   exact⟨(w1 _ (rV hne)).1,(w1 _ (rZ hne)).2⟩
 ·rw[if_neg hk];exact⟨hm,ht⟩
theorem XD(hR:d9 row dY fM){p:aT}(hk:row[k]? =some p)(hm:ja p.jh dY s):gD dY k=s/\gS fM k=jB p s dY fM:=by
 have hah:=hR.ahead hk
 have hn:=hR.node k p hk
 have e:bR p.jh (dY.take k)=bR p.jh dY:=by
  have:=uV (n:=p.jh) (sh:=dY) (sh':=dY.take k) (a:=p.a) (b:=p.b) (λh1 h2=>rY (hah.a1 h1 h2)) (λh6=>rY (hah.b1 h6))
  exact this
 have h1:=hn.ay
 rw[e,hm.ay,Option.some.injEq]at h1
 refine⟨h1.symm,?_⟩
 rw[(hR.span k p hk).1,h1]
theorem step_ok(hL:d9 l sh sp)(hR:d9 row dY fM)(hst:Std sh sp dY fM st)(hn:l[st.length]? =some n):∃K_ KY,d9 (pg (gD sh st.length) (row,st) n).1 K_ KY/\Std sh sp K_ KY (pg (gD sh st.length) (row,st) n).2:=by
 obtain⟨hm,ht⟩:=P9 hL hR hst hn
 have TH:=(hL.span _ _ hn).2
 unfold pg Cy
 simp only
 generalize jZ (gD sh st.length) row (bJ st n)=m at*
 cases hf:kr row m with
 |some k=>
  simp only
  obtain⟨hk1,hk⟩:=CO hf
  have hkl:=(List.getElem?_eq_some_iff.1 hk).1
  obtain⟨q1,q2⟩:=XD hR hk hm
  refine⟨dY,fM,hR,λj hj=> ?_,λj hj=> ?_,λj hj=> ?_⟩
  all_goals rw[List.length_append,List.length_singleton]at hj
  all_goals
   rcases Nat.lt_or_ge j st.length with hlt|hge
   ·rw[show(st++[k]).getD j 0=st.getD j 0 by rw[List.getD_eq_getElem?_getD,List.getD_eq_getElem?_getD,List.getElem?_append_left hlt]]
    first|exact hst.lt j hlt|exact hst.sh j hlt|exact hst.sp j hlt
   ·obtain rfl:j=st.length:=by omega
    rw[show(st++[k]).getD st.length 0=k by rw[List.getD_eq_getElem?_getD,List.getElem?_append_right (Nat.le_refl _),Nat.sub_self];rfl]
    first|(rw[hR.wE];exact hkl)|exact q1|(rw[q2];exact ht)
 |none=>
  simp only
  have hR':=hR.snoc hm Wj Wj
  have l1:=hR.wE
  have l2:=hR.ahq
  refine⟨_,_,hR',λj hj=> ?_,λj hj=> ?_,λj hj=> ?_⟩
  all_goals rw[List.length_append,List.length_singleton]at hj
  all_goals
   rcases Nat.lt_or_ge j st.length with hlt|hge
   ·have hlt2:=hst.lt j hlt
    rw[show(st++[row.length]).getD j 0=st.getD j 0 by rw[List.getD_eq_getElem?_getD,List.getD_eq_getElem?_getD,List.getElem?_append_left hlt]]
    first|(rw[List.length_append];omega)|(rw[Dx aa];exact hst.sh j hlt)|(rw[Ep aa];exact hst.sp j hlt)
   ·obtain rfl:j=st.length:=by omega
    rw[show(st++[row.length]).getD st.length 0=row.length by rw[List.getD_eq_getElem?_getD,List.getElem?_append_right (Nat.le_refl _),Nat.sub_self];rfl]
    first|(rw[List.length_append,List.length_singleton];omega)|(rw[I7 aa])|(rw[PG aa];exact ht)
theorem aev(s:List Int)(x:List aT×List Nat)(n:aT):(pg s x n).2.length=x.2.length+1/\(pg s x n).1.length<=x.1.length+1/\x.1.length<=(pg s x n).1.length:=by
 unfold pg Cy
 refine⟨by simp,?_,?_⟩<;>split<;>simp
end
end
section
def Sq(row:List aT)(m:aT):List aT:=
 if m.ak=6 then [row.getD m.a.toNat dB,row.getD m.b.toNat dB,⟨m.ak,0,1,m.ay,m.lo,m.hi,m.size,m.data,m.aM⟩]
 else [row.getD m.a.toNat dB,⟨m.ak,0,m.b,m.ay,m.lo,m.hi,m.size,m.data,m.aM⟩]
def Em(m:aT):Int:=if m.ak=6 then 2 else 1
theorem WQ{l:List Int}{c:Nat}(hc:l.length=c):((List.range c).map λo=>l.getD o 0)=l:=by
 subst hc
 apply List.ext_getElem
 ·simp
 ·intro i h1 h2
  simp only[List.getElem_map,List.getElem_range]
  rw[List.getD_eq_getElem?_getD,List.getElem?_eq_getElem h2];rfl
theorem CF{p:aT}{sh known:List (List Int)}(h2:p.ak=2)(hd:(p.data.length:Int)=az p.ay)(hs:sh.getD known.length []=p.ay):vg sh p.jh known=p.data:=by
 have hk:p.jh.ak=2:=h2
 have hl:¬dX p.jh:=by unfold dX;omega
 unfold vg
 rw[hs]
 have e1:kN p.jh (az p.ay).toNat (sh.getD p.jh.a.toNat []) (known.getD p.jh.a.toNat []) (known.getD p.jh.b.toNat [])=mM p.jh (az p.ay).toNat (known.getD p.jh.a.toNat []) (known.getD p.jh.b.toNat []):=if_neg hl
 rw[e1]
 have e2:fG p.jh (known.getD p.jh.a.toNat []) (known.getD p.jh.b.toNat [])=λo=>p.data.getD o 0:=by
  funext o
  unfold fG
  rw[if_pos hk];rfl
 unfold mM
 rw[e2]
 exact WQ aa
theorem DD{sh:List (List Int)}:∀{l m:List ai} {known inp:List (List Int)},l.map ai.pl=m.map ai.pl->jf sh l known inp=jf sh m known inp
 |[],[],_,_,_=>rfl
 |[],_::_,_,_,h=>by simp at h
 |_::_,[],_,_,h=>by simp at h
 |x::l,y::m,known,inp,h=>by
  simp only[List.map_cons,List.cons.injEq]at h
  have e:vg sh x known=vg sh y known:=by
   have:∀z:ai,vg sh z known=vg sh z.pl.jh known:=λz=>rfl
   rw[this x,this y,h.1]
  have ek:x.ak=y.ak:=congrArg aT.ak h.1
  have el:x.lo=y.lo:=congrArg aT.lo h.1
  have eh:x.hi=y.hi:=congrArg aT.hi h.1
  unfold jf
  rw[e,ek,el,eh,DD h.2]
  cases inp with
  |nil=>rfl
  |cons z zs=>simp only[DD h.2]
theorem Zq(row:List aT):(row.map aT.jh).map ai.pl=row:=by rw[List.map_map];exact List.map_id row
section
variable {row:List aT} {dY:List (List Int)} {fM:List Sp}
theorem Pk(hR:d9 row dY fM){k:Nat}(hk:k<row.length)(h2:(row.getD k dB).ak=2){r:List aT}{sh:List (List Int)}{sp:List Sp}(h:d9 r sh sp):d9 (r++[row.getD k dB]) (sh++[gD dY k]) (sp++[gS fM k]):=by
 have hk':=getD_some hk
 obtain⟨q1,q2,q3⟩:=hR.span k _ hk'
 have e:jB (row.getD k dB) (gD dY k) sh sp=gS fM k:=by rw[q1,vQ h2,vQ h2]
 have:=h.snoc (XW (sh':=sh) (hR.node k _ hk') h2) (by rw[e];exact q2) (by rw[e];exact q3)
 rw[e]at this
 exact this
theorem YC(hR:d9 row dY fM){m:aT}{s:List Int}(hm:ja m.jh dY s)(hk:I8 row dY fM m s)(h1: -1048576<=(jB m s dY fM).1)(h2:(jB m s dY fM).2<=1048576){g:bG}(hg:g.l.map ai.pl=Sq row m)(ho:g.out=Em m):
 (check g).1=0/\gD (check g).2 g.out.toNat=s/\M_ g []=(0,kR s row m):=by
 have hah:=lS hm.form
 have R1:=Pk hR hk.H_ hk.aK d9.nil
 by_cases h6:m.ak=6
 ·have R2:=Pk hR (hk.Zh h6) (hk.bK h6) R1
  have hn:ja (jJ m.jh 0 1) (([]++[gD dY m.a.toNat])++[gD dY m.b.toNat]) s:=by
   refine⟨xV (i:=dY.length) hm.form (λ_ _=>⟨Int.le_refl _,by simp⟩) (λh=>absurd h (by show¬(m.ak=1\/m.ak=2);omega)) (λ_=>⟨by decide,by simp⟩) (λh=>absurd h6 h),?_,?_⟩
   ·exact(uV (n:=m.jh) (sh:=dY) (a:=0) (b:=1) (λ_ _=>rfl) (λ_=>rfl)).trans hm.ay
   ·rw[A7];exact hm.near
  have e:jB ⟨m.ak,0,1,m.ay,m.lo,m.hi,m.size,m.data,m.aM⟩ s (([]++[gD dY m.a.toNat])++[gD dY m.b.toNat]) (([]++[gS fM m.a.toNat])++[gS fM m.b.toNat])=jB m s dY fM:=rfl
  have R3:=R2.snoc (m:=⟨m.ak,0,1,m.ay,m.lo,m.hi,m.size,m.data,m.aM⟩) hn (by rw[e];exact h1) (by rw[e];exact h2)
  unfold Sq at hg
  unfold Em at ho
  rw[if_pos h6]at hg ho
  have hc:=R3.check fP hg aa aaX
  have hs:=R3.spans fP hg aa aaX
  rw[hc,ho]
  refine⟨rfl,rfl,?_⟩
  have hv:sw g []=(0,[(row.getD m.a.toNat dB).data,(row.getD m.b.toNat dB).data,kR s row m]):=by
   unfold sw
   rw[hc]
   simp only
   rw[DD (m:=List.map aT.jh _) (hg.trans (Zq _).symm)]
   simp only[List.map_cons,List.map_nil]
   have kA:(row.getD m.a.toNat dB).jh.ak≠1:=by show(row.getD m.a.toNat dB).ak≠1;rw[hk.aK];decide
   have kB:(row.getD m.b.toNat dB).jh.ak≠1:=by show(row.getD m.b.toNat dB).ak≠1;rw[hk.bK h6];decide
   have kM:(aT.jh ⟨m.ak,0,1,m.ay,m.lo,m.hi,m.size,m.data,m.aM⟩).ak≠1:=hk.ak.1
   unfold jf
   rw[if_pos kA,CF hk.aK hk.KX (by rw[<-hk.aSh];rfl)]
   unfold jf
   rw[if_pos kB,CF (hk.bK h6) (hk.abd h6) (by rw[<-hk.bSh h6];rfl)]
   unfold jf
   rw[if_pos kM]
   have eN:vg (([]++[gD dY m.a.toNat])++[gD dY m.b.toNat]++[s]) (aT.jh ⟨m.ak,0,1,m.ay,m.lo,m.hi,m.size,m.data,m.aM⟩) ([]++[(row.getD m.a.toNat dB).data]++[(row.getD m.b.toNat dB).data])=kR s row m:=by
    unfold kR
    rw[if_pos h6,<-hk.aSh]
    rfl
   rw[eN]
   unfold jf
   rw[if_neg fP]
   rfl
  unfold M_
  rw[hs,hv,ho]
  rfl
 ·have hn:ja (jJ m.jh 0 m.b) ([]++[gD dY m.a.toNat]) s:=by
   refine⟨xV (i:=dY.length) hm.form (λ_ _=>⟨Int.le_refl _,by simp⟩) (λh=>absurd h (by show¬(m.ak=1\/m.ak=2);have:=hk.ak;omega)) (λh=>absurd h h6) (λ_=>rfl),?_,?_⟩
   ·exact(uV (n:=m.jh) (sh:=dY) (a:=0) (b:=m.b) (λ_ _=>rfl) (λh=>absurd h h6)).trans hm.ay
   ·rw[A7];exact hm.near
  have e:jB ⟨m.ak,0,m.b,m.ay,m.lo,m.hi,m.size,m.data,m.aM⟩ s ([]++[gD dY m.a.toNat]) ([]++[gS fM m.a.toNat])=jB m s dY fM:=by
   unfold jB
   exact congrArg jg (Cm (n:=m.jh) h6 _ _ _ _ _)
  have R3:=R1.snoc (m:=⟨m.ak,0,m.b,m.ay,m.lo,m.hi,m.size,m.data,m.aM⟩) hn (by rw[e];exact h1) (by rw[e];exact h2)
  unfold Sq at hg
  unfold Em at ho
  rw[if_neg h6]at hg ho
  have hc:=R3.check fP hg aa aaX
  have hs:=R3.spans fP hg aa aaX
  rw[hc,ho]
  refine⟨rfl,rfl,?_⟩
  have hv:sw g []=(0,[(row.getD m.a.toNat dB).data,kR s row m]):=by
   unfold sw
   rw[hc]
   simp only
   rw[DD (m:=List.map aT.jh _) (hg.trans (Zq _).symm)]
   simp only[List.map_cons,List.map_nil]
   have kA:(row.getD m.a.toNat dB).jh.ak≠1:=by show(row.getD m.a.toNat dB).ak≠1;rw[hk.aK];decide
   have kM:(aT.jh ⟨m.ak,0,m.b,m.ay,m.lo,m.hi,m.size,m.data,m.aM⟩).ak≠1:=hk.ak.1
   unfold jf
   rw[if_pos kA,CF hk.aK hk.KX (by rw[<-hk.aSh];rfl)]
   unfold jf
   rw[if_pos kM]
   have eN:vg (([]++[gD dY m.a.toNat])++[s]) (aT.jh ⟨m.ak,0,m.b,m.ay,m.lo,m.hi,m.size,m.data,m.aM⟩) ([]++[(row.getD m.a.toNat dB).data])=kR s row m:=by
    unfold kR
    rw[<-hk.aSh]
    exact XA (n:=m.jh) h6 _ _ _ _ _
   rw[eN]
   unfold jf
   rw[if_neg fP]
   rfl
  unfold M_
  rw[hs,hv,ho]
  rfl
end
end
section
abbrev ak1:DT:=(eY [0,1,2,3,4,5,6,7,8,109] .done)
abbrev al3:DT:=(eY [0,1,2,3,8,9,10,11] (.alt 4 (.alt 5 (eY [6,7,112,113,14,15,116,117,118,119] .done) (.one 12 (.alt 5 (eY [6,7,113,14,15,116,117,118,119] .done) (eY [113,14,15,105,6,7,116,117,118,119] .done)))) (.one 12 (.alt 4 (.alt 5 (eY [6,7,113,14,15,116,117,118,119] .done) (eY [113,14,15,105,6,7,116,117,118,119] .done)) (eY [113,14,15,104,105,6,7,116,117,118,119] .done)))))
structure nA(w:World)(b:Nat)(nb:Option Addr)(nc:Nat)(kept:List ai)(sb:Option Addr)(sc:Nat)(st:List Int):Prop where
 c0:w.cell? ⟨b,0,none⟩=some (.slice nb kept.length nc)
 c2:w.cell? ⟨b,2,none⟩=some (.slice sb st.length sc)
 nodes:bu w nb 9 (bF kept)
 st:bu w sb 1 (aN st)
theorem nA.later{w w':World}{R:Nat->Prop}{b:Nat}{nb:Option Addr}{nc:Nat}{kept:List ai}{sb:Option Addr}{sc:Nat}{st:List Int}(h:nA w b nb nc kept sb sc st)(hb:(aO w).holds R w'):nA w' b nb nc kept sb sc st:=
 ⟨by rw[jv (hb _ (iN h.c0)).2];exact h.c0,by rw[jv (hb _ (iN h.c2)).2];exact h.c2,aA hb h.nodes,aA hb h.st⟩
theorem yC{a:Addr}{S:bN}{K:SV->Prop}{v:Value}(h:∀R w,S.holds R w->w.cell? a=some v)(hK:K (.c v)):fT a S K:=by rw[Ev];exact⟨v,h,hK⟩
def qE(st:List Nat):List Int:=st.map Int.ofNat
theorem qP{st:List Nat}{k:Nat}(h:k<st.length):(aN (qE st))[k]? =some [.int .i64 (st.getD k 0)]:=by
 rw[eH (by unfold qE;simpa using h)]
 unfold qE
 rw[List.getD_eq_getElem?_getD,List.getElem?_eq_getElem h]
 simp
def dG(st:List Nat)(n:ai):ai:=jJ n (bJ st n.pl).a (bJ st n.pl).b
theorem Ff(st:List Nat)(n:ai):(dG st n).pl=bJ st n.pl:=by
 unfold dG bJ
 split
 ·rfl
 ·split<;>rfl
section
variable {w:World} {b:Nat} {nb sb:Option Addr} {nc sc:Nat} {kept:List ai} {st:List Nat}
theorem Ng(hd:nA w b nb nc kept sb sc (qE st))(n:ai)(hn:gZ n.pl st.length)(hf:st.length<=1000000):Calls Tryz.prog 54 #[.pointer (some ⟨b,0,none⟩),n.j3] w λe w'=>e= .returned (dG st n).j3/\Ext w w':=by
 have hkk:=hn.ak
 have kk:n.pl.ak=n.ak:=rfl
 have ka:n.pl.a=n.a:=rfl
 have kb:n.pl.b=n.b:=rfl
 have ha0:=hn.a0
 have hb0:=hn.b0
 rw[kk]at hkk
 have hsl:(qE st).length=st.length:=by unfold qE;simp
 by_cases h12:n.ak=1\/n.ak=2
 ·have e:dG st n=n:=by unfold dG bJ;rw[if_pos (show n.pl.ak=1\/n.pl.ak=2 from h12)];rfl
  rw[e]
  refine fH Tryz.func54 [.c (.pointer (some ⟨b,0,none⟩)),.agg (jN n)] ?_
  repeat' ((conv=>whnf)<;>first|refine aX ?_|refine ag ?_ ?_<;>intro _)
  all_goals(conv=>whnf)
  all_goals exact cz (λ_ _ h=>h) (λ_=>rfl) rfl
 ·have a1:=hn.a1 aa aa
  obtain⟨sa,hsa⟩:∃a,sb=some a:=aP (j:=0) hd.st vK
  by_cases h6:n.ak=6
  ·have b1:=hn.b1 h6
   have e:dG st n=jJ n (st.getD n.a.toNat 0) (st.getD n.b.toNat 0):=by unfold dG bJ;rw[if_neg (show¬(n.pl.ak=1\/n.pl.ak=2)from h12),if_pos (show n.pl.ak=6 from h6)];rfl
   rw[e]
   refine fH Tryz.func54 [.c (.pointer (some ⟨b,0,none⟩)),.agg (jN n)] ?_
   repeat' ((conv=>whnf)<;>first|(show b_ _ 6 ..;refine lu [] [] al3 ?_ (h6:=List.nil_sublist _))|(show lq ..;refine eF (List.nil_sublist _) (λ_ _ h=>h) ?_)|refine TW ?_|(show bV ..;(first|refine aH sa n.a.toNat hsa aa aa ?_|refine aH sa n.b.toNat hsa aa aa ?_))|(show fT ..;(first|refine bA (λR w' h=>by rw[<-hsa];exact aA h hd.st) _ _ (qP a1) rfl ?_|refine bA (λR w' h=>by rw[<-hsa];exact aA h hd.st) _ _ (qP b1) rfl ?_))|refine aX ?_|refine ag ?_ ?_<;>intro _|refine And.intro ?_ ?_)
   all_goals(conv=>whnf)
   all_goals exact cz (λ_ _ h=>h) (λ_=>rfl) rfl
  ·have e:dG st n=jJ n (st.getD n.a.toNat 0) n.b:=by unfold dG bJ;rw[if_neg (show¬(n.pl.ak=1\/n.pl.ak=2)from h12),if_neg (show¬n.pl.ak=6 from h6)];rfl
   rw[e]
   refine fH Tryz.func54 [.c (.pointer (some ⟨b,0,none⟩)),.agg (jN n)] ?_
   repeat' ((conv=>whnf)<;>first|refine TW ?_|(show bV ..;refine aH sa n.a.toNat hsa aa aa ?_)|(show fT ..;(refine bA (λR w' h=>by rw[<-hsa];exact aA h hd.st) _ _ (qP a1) rfl ?_))|(show b_ _ 2 ..;refine lu [9] _ ak1 ?_)|refine aX ?_|refine ag ?_ ?_<;>intro _)
   all_goals(conv=>whnf)
   all_goals exact cz (λ_ _ h=>h) (λ_=>rfl) rfl
end
end
def inN(u:au)(lo hi:Int):ai:=⟨1,0,0,u,lo,hi,0,fQ,fQ⟩
def aoc(v:au):ai:=⟨8,0,0,fQ,0,0,0,v,fQ⟩
def g2(nb:Option Addr)(nc:Nat)(u v:au)(lo hi:Int):bG:=⟨nb,nc,[inN u lo hi,aoc v],1⟩
theorem Zp{l:List Int}(h:∀x∈l,cK x):qz l=true:=List.all_eq_true.2 λx hx=>by have:=h x hx;unfold cK at this;simpa using this
theorem ac5:Tryz.prog.cellsOf 58=2:=by kernel_rfl
theorem adg:Tryz.prog.cellsOf 3=1:=by kernel_rfl
theorem Cw{x:Int}(h:i64 x):(Lit.int .i64 x).wf=true:=by
 simp[Lit.wf,IntKind.min,IntKind.max,IntKind.signed,IntKind.bits]
 exact⟨h.1,by have:=h.2;omega⟩
def Fe(s:Sp):List Lit:=[.int .i64 s.1,.int .i64 s.2]
theorem Zk(s:Sp)(h1:i64 s.1)(h2:i64 s.2):Tryz.prog.keyLits 2 58 [.int .i64 s.1,.int .i64 s.2]=some (Fe s):=by
 simp[Program.keyLits,Tryz.underlying58,ac5,List.mapM_cons,Tryz.underlying3,adg,Cw h1,Cw h2]
 rfl
theorem abM{s t:Sp}(h1:i64 s.1)(h2:i64 s.2)(h3:i64 t.1)(h4:i64 t.2){ox oy:Operand}{K:SV->Prop}(hy:s=t->K (.c (.bool true)))(hn:s≠t->K (.c (.bool false))):lY Tryz.prog (do eqGuard .eql 58 ox oy (jy s) (jy t);binOp .eql 58 (jy s) (jy t)) K:=by
 have hK:K (.c (.bool (decide (s=t)))):=by
  by_cases h:s=t
  ·rw[decide_eq_true h];exact hy h
  ·rw[decide_eq_false h];exact hn h
 rw[xY]
 refine⟨_,λw=> ?_,hK⟩
 have g1:(eqGuard .eql 58 ox oy (jy s) (jy t)).run Tryz.prog w= .ok () w:=by
  have:Tryz.prog.eqGuardType Tryz.prog.depth 58=false:=by kernel_rfl
  simp[eqGuard,jy,this]
 obtain⟨r,q2,q3⟩:=run_equalIn_deep (P:=Tryz.prog) 9998 2 58 ji w 2 2 (jy s) (jy t) (Fe s) (Fe t) ahu ahu (Zk s h1 h2) (Zk t h3 h4)
 have hr:r=decide (s=t):=by
  have e:Fe s=Fe t↔s=t:=by
   obtain⟨a,b⟩:=s
   obtain⟨c,d⟩:=t
   simp[Fe]
  rw[e]at q3
  cases r with
  |true=>exact(decide_eq_true (q3.1 rfl)).symm
  |false=>exact(decide_eq_false (λh=>by have:=q3.2 h;cases this)).symm
 subst hr
 have h5:(Op.equal 58 (jy s) (jy t)).run Tryz.prog w= .ok (decide (s=t)) w:=q2
 simp only[Sem.run_bind,g1,Result.andThen_ok]
 simp[jy,binOp]at h5|-
 rw[h5];rfl
theorem Dt(w:World)(n:ai):Calls Tryz.prog 147 #[n.j3] w λe w'=>e= .returned (jy (n.lo,n.hi))/\Ext w w':=by
 refine fH Tryz.func147 [.agg (jN n)] ?_
 repeat' ((conv=>whnf)<;>first|refine aX ?_)
 all_goals(conv=>whnf)
 all_goals exact cz (λ_ _ h=>h) (λ_=>rfl) rfl
theorem aa2(w:World)(m n:ai)(hm:m.ok w)(hn:n.ok w):Calls Tryz.prog 113 #[m.j3,n.j3] w λe w'=>e= .returned (.bool (n_ m.pl n.pl))/\Ext w w':=by
 refine fH Tryz.func113 [.agg [ax m.ak,ax m.a,ax m.b,.c m.ay.val,ax m.lo,ax m.hi,ax m.size,.c m.data.val,.c m.aM.val],.agg (jN n)] ?_
 repeat' ((conv=>whnf)<;>first|(show kE _ 147 [.agg [ax m.ak,ax m.a,ax m.b,.c m.ay.val,ax m.lo,ax m.hi,ax m.size,.c m.data.val,.c m.aM.val]] ..;refine iU (f:=147) Tryz.call147 (jy (m.lo,m.hi)) (λρ w' hw=>Dt w' m) ?_)|(show kE _ 147 [.agg (jN n)] ..;refine iU (f:=147) Tryz.call147 (jy (n.lo,n.hi)) (λρ w' hw=>Dt w' n) ?_)|(show lY ..;((refine abM (s:=(m.lo,m.hi)) (t:=(n.lo,n.hi)) hm.kH hm.kJ hn.kH hn.kJ ?_ ?_<;>intro _)))|(show kE _ 62 [.c m.ay.val,.c n.ay.val] ..;((refine rJ (f:=62) Tryz.call62 (decide (m.ay.xs=n.ay.xs)) (λρ w' hw=>q8 w' m.ay n.ay (ae hw λR h=>hm.ay.later h) (ae hw λR h=>hn.ay.later h)) ?_ ?_<;>intro _)))|(show kE _ 62 [.c m.data.val,.c n.data.val] ..;((refine rJ (f:=62) Tryz.call62 (decide (m.data.xs=n.data.xs)) (λρ w' hw=>q8 w' m.data n.data (ae hw λR h=>hm.data.later h) (ae hw λR h=>hn.data.later h)) ?_ ?_<;>intro _)))|(show kE _ 62 [.c m.aM.val,.c n.aM.val] ..;((refine rJ (f:=62) Tryz.call62 (decide (m.aM.xs=n.aM.xs)) (λρ w' hw=>q8 w' m.aM n.aM (ae hw λR h=>hm.aM.later h) (ae hw λR h=>hn.aM.later h)) ?_ ?_<;>intro _)))|refine bn ?_|refine ag ?_ ?_<;>intro _)
 all_goals(conv=>whnf)
 all_goals exact bf (λ_ _ h=>h) rfl (by simp_all [n_,ai.pl])
theorem Nh(w:World)(x n:ai)(c:Nat)(hx:x.ok w)(hn:n.ok w)(hc:bu w (some ⟨c,0,none⟩) 9 (bF [n])):Calls Tryz.prog 112 #[x.j3,.pointer (some ⟨c,0,none⟩)] w λe w'=>e= .returned (.bool (n_ x.pl n.pl))/\Ext w w':=by
 refine fH Tryz.func112 [.agg [ax x.ak,ax x.a,ax x.b,.c x.ay.val,ax x.lo,ax x.hi,ax x.size,.c x.data.val,.c x.aM.val],.c (.pointer (some ⟨c,0,none⟩))] ?_
 repeat' ((conv=>whnf)<;>first|(show mF ..;refine gL (j:=0) (xs:=bF [n]) (λR w' h=>aA h hc) n.cells rfl rfl ?_)|(show aI _ 113 ..;refine aQ (f:=113) Tryz.call113 (.bool (n_ x.pl n.pl)) (λρ w' hw=>aa2 w' x n (ae hw λR h=>hx.later h) (ae hw λR h=>hn.later h)) ?_)|refine aX ?_)
 all_goals(conv=>whnf)
 all_goals exact bf (λ_ _ h=>h) rfl rfl
def M5(n:aT)(row:List aT):Int:=match xm n row 0 with|some k=>k|none=> -1
theorem EF{n p:aT}{r:List aT}{k:Nat}:xm n (p::r) k=if n_ p n=true then some k else xm n r (k+1):=rfl
theorem BU(w:World)(n:ai)(c:Nat)(hn:n.ok w)(hc:bu w (some ⟨c,0,none⟩) 9 (bF [n]))(nb:Option Addr)(nc:Nat)(kept:List ai)(hk:bu w nb 9 (bF kept))(hko:∀k∈kept,k.ok w)(oz:kept.length<=1000000):
 Calls Tryz.prog 111 #[.slice nb kept.length nc,.func (.func 112) #[] #[.pointer (some ⟨c,0,none⟩)]] w λe w'=>e= .returned (.int .i64 (M5 n.pl (kept.map ai.pl)))/\Ext w w':=by
 refine fH Tryz.func111 [.c (.slice nb kept.length nc),.c (.func (.func 112) #[] #[.pointer (some ⟨c,0,none⟩)])] ?_
 repeat' ((conv=>whnf)<;>first|refine aX ?_|refine ag ?_ ?_<;>intro _)
 refine Wp.loop (σ:=Nat) 0 (λk=>[(0,.c (.slice nb kept.length nc)),(1,.c (.func (.func 112) #[] #[.pointer (some ⟨c,0,none⟩)])),(7,ax kept.length),(8,ax k)]) (λ_=>[]) (λ_=>aO w)
  (λk=>k<=kept.length/\xm n.pl ((kept.drop k).map ai.pl) k=xm n.pl (kept.map ai.pl) 0) (λk=>kept.length-k) 0 [] aY (λs=>⟨rfl,rfl⟩) ⟨by simp,rfl⟩ ⟨rfl,⟨rfl,rfl,rfl,rfl,trivial⟩,trivial,λR w' h=>h⟩ ?_
 rintro k ⟨hkl,he⟩
 by_cases hlt:k<kept.length
 ·obtain⟨a,ha⟩:∃a,nb=some a:=aP (j:=k) hk Ca
  rw[List.drop_eq_getElem_cons hlt,List.map_cons,EF]at he
  have hrow:=bU hlt
  have hxo:=hko _ (List.getElem_mem hlt)
  generalize kept[k]=x at*
  cases hs:n_ x.pl n.pl with
  |true=>
   rw[if_pos hs]at he
   repeat' ((conv=>whnf)<;>first|(show bV ..;refine aH a k ha rfl hlt ?_)|(show mF ..;(refine gL (λR w' h=>by rw[<-ha];exact aA h hk) _ hrow rfl ?_))|(show aI _ 112 ..;(refine aQ (f:=112) Tryz.call112 (.bool true) (λρ w' hw=>by have:=Nh w' x n c (ae hw λR h=>hxo.later h) (ae hw λR h=>hn.later h) (ae hw λR h=>aA h hc);rw[hs]at this;exact this) ?_))|refine aX ?_|refine ag ?_ ?_<;>intro _)
   all_goals(conv=>whnf)
   all_goals exact cz (λ_ _ h=>h) (λ_=>by unfold M5;rw[<-he];rfl) rfl
  |false=>
   rw[if_neg (by rw[hs];simp)]at he
   repeat' ((conv=>whnf)<;>first|(show bV ..;refine aH a k ha rfl hlt ?_)|(show mF ..;(refine gL (λR w' h=>by rw[<-ha];exact aA h hk) _ hrow rfl ?_))|(show aI _ 112 ..;(refine aQ (f:=112) Tryz.call112 (.bool false) (λρ w' hw=>by have:=Nh w' x n c (ae hw λR h=>hxo.later h) (ae hw λR h=>hn.later h) (ae hw λR h=>aA h hc);rw[hs]at this;exact this) ?_))|refine aX ?_|refine ag ?_ ?_<;>intro _)
   all_goals(conv=>whnf)
   all_goals exact⟨k+1,[],⟨hlt,he⟩,by omega,rfl,bM,trivial,λR w' h=>h⟩
 ·rw[List.drop_of_length_le aa]at he
  repeat' ((conv=>whnf)<;>first|refine aX ?_|refine ag ?_ ?_<;>intro _)
  conv=>whnf
  exact cz (λ_ _ h=>h) (λ_=>by unfold M5;rw[<-he];rfl) rfl
section
inductive Reach(row:List aT):Nat->Nat->Prop
 |refl (k:Nat):Reach row k k
 |step {k j:Nat} {t:Int} (h:Reach row k j) (ht:t∈df (row.getD j dB)):Reach row k t.toNat
variable {row:List aT} {k j:Nat}
theorem Reach.head{t:Int}(ht:t∈df (row.getD k dB))(h:Reach row t.toNat j):Reach row k j:=by
 induction h with
 |refl=>exact .step (.refl k) ht
 |step _ h2 ih=>exact .step ih h2
def uo(s:Nat->Bool):Int->Option Value:=λj=>if 0<=j/\s j.toNat=true then some (.bool true)else none
def lg(s:Nat->Bool)(k:Nat):Nat->Bool:=λj=>decide (j=k)||s j
theorem aeA(s:Nat->Bool)(k:Nat):yn (uo s) k (.bool true)=uo (lg s k):=by
 funext j
 unfold yn uo lg
 by_cases h:j=k
 ·subst h;rw[if_pos rfl];simp
 ·rw[if_neg h]
  by_cases h0:0<=j
  ·have:j.toNat≠k:=by omega
   simp[this,h0]
  ·rw[if_neg aa,if_neg aa]
theorem acZ(s:Nat->Bool)(k:Nat):(uo s k).getD (.bool false)= .bool (s k):=by
 unfold uo
 by_cases h:s k=true
 ·rw[if_pos ⟨by omega,by simpa using h⟩,h];rfl
 ·rw[if_neg ab1]
  have:s k=false:=by simpa using h
  rw[this];rfl
structure ni(row:List aT)(k:Nat)(s s':Nat->Bool):Prop where
 sub:∀j,s j=true->s' j=true
 at_:s' k=true
 closed:∀j,s' j=true->s j=false->∀t∈df (row.getD j dB),s' t.toNat=true
 reach:∀j,s' j=true->s j=false->Reach row k j
variable {s:Nat->Bool}
theorem ni.same(h:s k=true):ni row k s s:=
 ⟨λ_ h=>h,h,λj h1 h2=>(by rw[h1]at h2;cases h2),λj h1 h2=>(by rw[h1]at h2;cases h2)⟩
theorem FZ(s:Nat->Bool)(k:Nat):lg s k k=true:=by simp[lg]
theorem OE(h:lg s k j=true)(hj:s j=false):j=k:=by
 unfold lg at h;rw[hj]at h;simpa using h
theorem ni.none(h:df (row.getD k dB)=[]):ni row k s (lg s k):=
 ⟨λj h=>by unfold lg;rw[h];simp,FZ s k,λj h1 h2 t ht=>(by rw[OE h1 h2,h]at ht;cases ht),λj h1 h2=>(by rw[OE h1 h2];exact .refl k)⟩
variable {s1:Nat->Bool}
theorem YE(h:∀j,lg s k j=true->s1 j=true):(∀j,s j=true->s1 j=true)/\s1 k=true:=
 ⟨λj hj=>h j (by unfold lg;rw[hj];simp),h k (FZ s k)⟩
theorem ni.one{a:Int}(h:df (row.getD k dB)=[a])(h1:ni row a.toNat (lg s k) s1):ni row k s s1:=by
 obtain⟨q1,q2⟩:=YE h1.sub
 have new:∀j,s j=false->j≠k->lg s k j=false:=λj hj hk=>by unfold lg;rw[hj];simp[hk]
 refine⟨q1,q2,λj hj hs t ht=> ?_,λj hj hs=> ?_⟩
 ·by_cases hjk:j=k
  ·subst hjk;rw[h]at ht;simp at ht;subst ht;exact h1.at_
  ·exact h1.closed j hj (new j hs hjk) t ht
 ·by_cases hjk:j=k
  ·subst hjk;exact .refl _
  ·exact(h1.reach j hj (new j hs hjk)).head (by rw[h];simp)
theorem ni.two{a b:Int}{s2:Nat->Bool}(h:df (row.getD k dB)=[a,b])(h1:ni row b.toNat (lg s k) s1)(h2:ni row a.toNat s1 s2):ni row k s s2:=by
 obtain⟨q1,q2⟩:=YE h1.sub
 have new:∀j,s j=false->j≠k->lg s k j=false:=λj hj hk=>by unfold lg;rw[hj];simp[hk]
 refine⟨λj hj=>h2.sub j (q1 j hj),h2.sub k q2,λj hj hs t ht=> ?_,λj hj hs=> ?_⟩
 ·by_cases hjk:j=k
  ·subst hjk;rw[h]at ht
   simp only[List.mem_cons,List.not_mem_nil,or_false]at ht
   rcases ht with rfl|rfl
   ·exact h2.at_
   ·exact h2.sub _ h1.at_
  ·cases h3:s1 j with
   |true=>exact h2.sub _ (h1.closed j h3 (new j hs hjk) t ht)
   |false=>exact h2.closed j hj h3 t ht
 ·by_cases hjk:j=k
  ·subst hjk;exact .refl _
  ·cases h3:s1 j with
   |true=>exact(h1.reach j h3 (new j hs hjk)).head (by rw[h];simp)
   |false=>exact(h2.reach j hj h3).head (by rw[h];simp)
theorem adw(h:ni row k (λ_=>false) s)(j:Nat):s j=true↔Reach row k j:=by
 constructor
 ·exactλhj=>h.reach j hj rfl
 ·intro hr
  induction hr with
  |refl=>exact h.at_
  |step _ ht ih=>exact h.closed _ ih rfl _ ht
variable {w:World} {b r nc sc:Nat} {nb sb:Option Addr} {kept:List ai} {st:List Int}
theorem nA.rest{w':World}{R:Nat->Prop}{m:Int->Option Value}(h:nA w b nb nc kept sb sc st)(hm:kS r m w)(hr:(gu w (λx=>x=r)).holds R w'):nA w' b nb nc kept sb sc st:=
 ⟨Mq hm h.c0 hr,Mq hm h.c2 hr,Jo hm h.nodes hr,Jo hm h.st hr⟩
theorem abB:(Tryz.prog.info? 4).bind (·.zero)=some (.bool false):=by kernel_rfl
variable {H:Heap} {S:bN} {i:Nat} {B:Base} {tb:List (Nat×TI)}
theorem Ur{K:SV->Prop}{n:Nat}(hi:(i,bZ.ext (lH r (uo s)))∈H){v:Bool}(hv:s k=v)(h:K (.c (.bool v))):BP ⟨Tryz.prog,B,n,tb⟩ 112 (.c (.map (some r))) (ax k) false H S K:=by
 have hz:=abB
 cases ht:Tryz.prog.info? 4 with
 |none=>rw[ht]at hz;cases hz
 |some ti=>
  rw[ht]at hz
  refine Yx (z:= .bool false) Tryz.underlying112 Tryz.underlying3 ht (by simpa using hz) hi ?_
  rw[if_neg aY,acZ,hv]
  exact h
theorem ahb{K:Heap->Prop}{n:Nat}(hi:(i,bZ.ext (lH r (uo s)))∈H)(h:Cf i (.ext (lH r (uo (lg s k)))) K H):qf ⟨Tryz.prog,B,n,tb⟩ 112 (.c (.map (some r))) (ax k) (.c (.bool true)) H S K:=
 EH Tryz.underlying112 Tryz.underlying3 hi (by rw[aeA];exact h)
theorem AY{v:SV}{nx:Nat}{p:(Nat->Bool)->Prop}(hB:B=⟨w,[]⟩)(hS:∀R w',S.holds R w'->(gu w (λx=>x=r)).holds R w')(hi:(i,bZ.ext (lH r (uo s)))∈H)(hv:∀ρ,v.rf ρ= .tuple #[])(hp:p s):jI B v H S nx (Ir w r (λ_=> .tuple #[]) uo p):=by
 subst hB
 exact dH λρ w' hw=>⟨s,hp,by rw[hv],(ZL hw hS hi).1,(ZL hw hS hi).2⟩
theorem Jn{b:Nat}{nb sb:Option Addr}{nc sc:Nat}{kept:List ai}{st:List Int}{dY:List (List Int)}{fM:List Sp}{r:Nat}(hR:d9 (kept.map ai.pl) dY fM):∀(N k:Nat),k<N->k<kept.length->∀(w:World) (s:Nat->Bool),nA w b nb nc kept sb sc st->kS r (uo s) w->
 Calls Tryz.prog 57 #[.pointer (some ⟨b,0,none⟩),.int .i64 k,.map (some r)] w (Ir w r (λ_=> .tuple #[]) uo (ni (kept.map ai.pl) k s))
 |0,k,h,_,_,_,_,_=>absurd h (Nat.not_lt_zero _)
 |N+1,k,hkN,hk,w,s,hd,hm=>by
  have ih:=Jn (b:=b) (nb:=nb) (sb:=sb) (nc:=nc) (sc:=sc) (st:=st) (r:=r) hR N
  cases hs:s k with
  |true=>
   refine Ez Tryz.func57 [] (λ_=>⟨none,0⟩) [.c (.pointer (some ⟨b,0,none⟩)),ax k,.c (.map (some r))] [(0,.ext (lH r (uo s)))] (gu w (λx=>x=r)) 1 (Zc hm) ?_
   repeat' ((conv=>whnf)<;>first|refine acm ?_|refine aX ?_)
   all_goals(conv=>whnf)
   all_goals exact AY rfl (λ_ _ h=>h) aU (λ_=>rfl) (ni.same hs)
  |false=>
   have hkr:k<(kept.map ai.pl).length:=by rw[List.length_map];exact hk
   have hah:=hR.ahead (getD_some hkr)
   have hrk:(kept.map ai.pl).getD k dB=kept[k].pl:=by rw[List.getD_eq_getElem?_getD,List.getElem?_map,List.getElem?_eq_getElem hk];rfl
   rw[hrk]at hah
   have hrow:=bU hk
   obtain⟨na,hna⟩:∃a,nb=some a:=aP (j:=k) hd.nodes Ca
   generalize kept[k]=n at*
   have kk:n.pl.ak=n.ak:=rfl
   have ka:n.pl.a=n.a:=rfl
   have kb:n.pl.b=n.b:=rfl
   have ha0:=hah.a0
   have hb0:=hah.b0
   have ha1:=hah.a1
   have hb1:=hah.b1
   rw[kk]at ha1 hb1
   rw[ka]at ha0 ha1
   rw[kb]at hb0 hb1
   have ihz:∀(a:Int) (s':Nat->Bool),0<=a->a.toNat<k->∀w',nA w' b nb nc kept sb sc st->kS r (uo s') w'->Calls Tryz.prog 57 #[.pointer (some ⟨b,0,none⟩),.int .i64 a,.map (some r)] w' (Ir w' r (λ_=> .tuple #[]) uo (ni (kept.map ai.pl) a.toNat s')):=λa s' h0 h1 w' g1 g2=>by
    have:=ih a.toNat aa aa w' s' g1 g2
    rwa[Int.toNat_of_nonneg h0]at this
   refine Ez Tryz.func57 [] (λ_=>⟨none,0⟩) [.c (.pointer (some ⟨b,0,none⟩)),ax k,.c (.map (some r))] [(0,.ext (lH r (uo s)))] (gu w (λx=>x=r)) 1 (Zc hm) ?_
   by_cases h12:n.ak=1\/n.ak=2
   ·have ht:df ((kept.map ai.pl).getD k dB)=[]:=by rw[hrk];unfold df;rw[if_pos (show n.pl.ak=1\/n.pl.ak=2 from h12)]
    repeat' ((conv=>whnf)<;>first|refine acm ?_|refine acX ?_|refine afs ?_|refine Y9 ?_|refine aeb ?_|refine aX ?_|refine ag ?_ ?_<;>intro _)
    all_goals(conv=>whnf)
    all_goals exact AY rfl (λ_ _ h=>h) aU (λ_=>rfl) (ni.none ht)
   ·by_cases h6:n.ak=6
    ·have ht:df ((kept.map ai.pl).getD k dB)=[n.a,n.b]:=by rw[hrk];unfold df;rw[if_neg (show¬(n.pl.ak=1\/n.pl.ak=2)from h12),if_pos (show n.pl.ak=6 from h6)];rfl
     repeat' ((conv=>whnf)<;>first|refine acm ?_|refine acX ?_|refine afs ?_|refine Y9 ?_|refine aeb ?_|(show aI _ 57 [_,ax n.b,_] ..;(refine DJ aU Tryz.call57 (λ_=> .tuple #[]) uo (ni (kept.map ai.pl) n.b.toNat (lg s k)) (λρ w' hw hm'=>ihz n.b (lg s k) hb0 (hb1 h6) w' (ae hw λR h=>hd.rest hm h) hm') (λs1 h1=> ?_)))|(show aI _ 57 [_,ax n.a,_] ..;(refine DJ aU Tryz.call57 (λ_=> .tuple #[]) uo (ni (kept.map ai.pl) n.a.toNat s1) (λρ w' hw hm'=>ihz n.a s1 ha0 (ha1 aa aa) w' (ae hw λR h=>hd.rest hm h) hm') (λs2 h2=> ?_)))|refine aX ?_|refine ag ?_ ?_<;>intro _)
     all_goals(conv=>whnf)
     all_goals exact AY rfl (λ_ _ h=>h) aU (λ_=>rfl) (ni.two ht h1 h2)
    ·have ht:df ((kept.map ai.pl).getD k dB)=[n.a]:=by rw[hrk];unfold df;rw[if_neg (show¬(n.pl.ak=1\/n.pl.ak=2)from h12),if_neg (show¬n.pl.ak=6 from h6)];rfl
     repeat' ((conv=>whnf)<;>first|refine acm ?_|refine acX ?_|refine afs ?_|refine Y9 ?_|refine aeb ?_|(show aI _ 57 [_,ax n.a,_] ..;(refine DJ aU Tryz.call57 (λ_=> .tuple #[]) uo (ni (kept.map ai.pl) n.a.toNat (lg s k)) (λρ w' hw hm'=>ihz n.a (lg s k) ha0 (ha1 aa aa) w' (ae hw λR h=>hd.rest hm h) hm') (λs1 h1=> ?_)))|refine aX ?_|refine ag ?_ ?_<;>intro _)
     all_goals(conv=>whnf)
     all_goals exact AY rfl (λ_ _ h=>h) aU (λ_=>rfl) (ni.one ht h1)
end
def vN(u:au):bN where
 holds R w:=u.xs=[]\/∃b off c,u.base=some ⟨b,off,none⟩/\R b/\w.heap[b]? =some (.cells c 3 (0,0))/\off+u.xs.length<=c.size/\∀(i:Nat) (v:Int),u.xs[i]? =some v->c[off+i]? =some (.int .i64 v)
 stable:=by
  intro R R' w w' hR hw h
  rcases h with h|⟨b,off,c,h1,h2,h3,h4⟩
  ·exact .inl h
  ·exact .inr ⟨b,off,c,h1,hR b h2,by rw[hw b h2];exact h3,h4⟩
theorem AZ{u:au}{R:Nat->Prop}{w:World}(h:(vN u).holds R w):(bE u).holds R w:=by
 refine⟨kL,?_⟩
 rcases h with h|⟨b,off,c,h1,h2,h3,h4,h5⟩
 ·left;rw[h];rfl
 ·refine .inr ⟨b,off,h1,h2,λi r hi j v hj=> ?_⟩
  have hil:i<u.xs.length:=by have:=(List.getElem?_eq_some_iff.1 hi).1;rwa[aJ]at this
  rw[eH hil]at hi
  simp only[Option.some.injEq]at hi
  subst hi
  cases j with
  |zero=>
   simp only[List.getElem?_cons_zero,Option.some.injEq]at hj
   subst hj
   have:=h5 i _ (List.getElem?_eq_getElem hil)
   simp[World.cell?,h3,this]
  |succ j=>simp at hj
theorem UZ{w w':World}{v:Value}{xs:List Int}(h:kv w w' v 1 3 (aN xs))(hf:∀x∈xs,i64 x)(hl:xs.length<=1000000):
 ∃u:au,u.xs=xs/\u.bq/\v=u.val/\(vN u).holds (λb=>w.heap.size<=b/\b<w'.heap.size) w':=by
 obtain⟨l,e2,F,hF,hr,hcap,hent⟩:=h
 refine⟨⟨l.base,l.cap,xs⟩,rfl,⟨hf,by rw[aJ]at hcap;exact hcap,hl⟩,by rw[e2];simp[au.val,aJ],?_⟩
 rw[aJ]at hcap
 rcases hent with⟨h1,h2,_⟩|⟨b,off,c,h1,h2,h3,h4,h5⟩
 ·exact .inl (List.eq_nil_of_length_eq_zero (by show xs.length=0;omega))
 ·refine .inr ⟨b,off,c,h1,⟨hF b ((h2 b).2 rfl),iZ h3⟩,h3,by show off+xs.length<=c.size;omega,λi v hi=> ?_⟩
  have hil:=(List.getElem?_eq_some_iff.1 hi).1
  have hrow:=eH (xs:=xs) (k:=i) hil
  have:=h5 i _ hrow 0 _ rfl
  have e:xs[i]=v:=by
   have h0:=List.getElem?_eq_getElem (l:=xs) hil
   have hi':xs[i]? =some v:=hi
   rw[h0]at hi';simpa using hi'
  rw[e]at this
  simpa using this
def Nv(w:World)(xs:List Int)(e:Ending)(w':World):Prop:=
 ∃u:au,(u.xs=xs/\u.bq)/\e= .returned u.val/\Ext w w'/\(vN u).holds (λb=>w.heap.size<=b/\b<w'.heap.size) w'
theorem Cv(w:World)(x:au)(hx:x.ok w):Calls Tryz.prog 32 #[x.val] w (Nv w x.xs):=by
 by_cases hl:0<x.xs.length
 ·refine(Bt w x hx hl).mono ?_
  rintro e w' ⟨v,rfl,he,hn⟩
  obtain⟨u,h1,h2,h3,h4⟩:=UZ hn hx.fits hx.few
  exact⟨u,⟨h1,h2⟩,by rw[h3],he,h4⟩
 ·obtain⟨xb,xc,xs⟩:=x
  obtain rfl:xs=[]:=List.eq_nil_of_length_eq_zero (by show xs.length=0;have:¬0<xs.length:=hl;omega)
  cases xb with
  |none=>
   refine fH Tryz.func32 [.c (.slice none 0 xc)] ?_
   repeat' ((conv=>whnf)<;>first|refine jR (ti 32 rfl) rfl ?_|refine aX ?_)
   all_goals(conv=>whnf)
   all_goals exact dH λρ w' hw=>⟨fQ,⟨rfl,λx hx=>by simp[fQ]at hx,Nat.le_refl _,Nat.zero_le _⟩,rfl,aZ hw (λ_ _ h=>h),.inl rfl⟩
  |some a=>
   have hc:Calls Tryz.prog 32 #[.slice (some a) 0 xc] w λe w'=>∃v,e= .returned v/\Ext w w'/\kv w w' v 1 3 (aN []):=by
    refine fH Tryz.func32 [.c (.slice (some a) 0 xc)] ?_
    repeat' ((conv=>whnf)<;>first|refine jR (ti 32 rfl) rfl ?_|refine mQ (xs:=aN []) rfl (λR w' h=> .inl rfl) kL ?_|(show gP ..;refine dP (of_decide_eq_true rfl) ?_)|(show vO ..;refine gY (of_decide_eq_true rfl) ?_)|refine aX ?_)
    all_goals(conv=>whnf)
    all_goals exact xS (λ_ _ h=>h) rfl (.head _) rfl
   refine hc.mono ?_
   rintro e w' ⟨v,rfl,he,hn⟩
   obtain⟨u,h1,h2,h3,h4⟩:=UZ hn (λx hx=>by simp at hx) (Nat.zero_le _)
   exact⟨u,⟨h1,h2⟩,by rw[h3],he,h4⟩
section
def marks(ts:List Int)(nd:List Bool):List Bool:=ts.foldl (λnd t=>nd.set t.toNat true) nd
def OT(row:List aT):Nat->List Bool->List Bool
 |0,nd=>nd
 |i+1,nd=>OT row i (if nd.getD i false=true then marks (df (row.getD i dB)) nd else nd)
def Sk(row:List aT)(out:Nat):List Bool:=OT row row.length ((List.replicate row.length false).set out true)
def mO(row:List aT)(out:Nat):Nat->Bool:=λj=>(Sk row out).getD j false
theorem PZ(ts:List Int):∀nd:List Bool,(marks ts nd).length=nd.length:=by
 induction ts with
 |nil=>intro nd;rfl
 |cons t r ih=>intro nd;unfold marks at ih|-;rw[List.foldl_cons,ih];simp
variable {k:Nat}
theorem LG{nd:List Bool}{j:Nat}(hk:k<nd.length):(nd.set k true).getD j false=if j=k then true else nd.getD j false:=by
 rw[List.getD_eq_getElem?_getD,List.getElem?_set]
 by_cases h:k=j
 ·subst h;rw[if_pos rfl,if_pos hk,if_pos rfl];rfl
 ·rw[if_neg h,if_neg (λe=>h e.symm),List.getD_eq_getElem?_getD]
theorem Nu:∀{ts:List Int} {nd:List Bool} {j:Nat},(∀t∈ts,t.toNat<nd.length)->((marks ts nd).getD j false=true↔nd.getD j false=true\/∃t∈ts,j=t.toNat)
 |[],nd,j,_=>by simp[marks]
 |t::r,nd,j,h=>by
  have ht:=h t List.mem_cons_self
  have ih:=Nu (ts:=r) (nd:=nd.set t.toNat true) (j:=j) (λu hu=>by rw[List.length_set];exact h u (List.mem_cons_of_mem _ hu))
  have e:marks (t::r) nd=marks r (nd.set t.toNat true):=rfl
  rw[e,ih,LG ht]
  constructor
  ·rintro(h1|⟨u,hu,rfl⟩)
   ·split at h1
    ·rename_i hj;exact .inr ⟨t,List.mem_cons_self,hj⟩
    ·exact .inl h1
   ·exact .inr ⟨u,List.mem_cons_of_mem _ hu,rfl⟩
  ·rintro(h1|⟨u,hu,rfl⟩)
   ·left;split
    ·rfl
    ·exact h1
   ·rcases List.mem_cons.1 hu with rfl|hu
    ·left;rw[if_pos rfl]
    ·exact .inr ⟨u,hu,rfl⟩
variable {row:List aT}
theorem SG(h:gZ (row.getD k dB) k):∀t∈df (row.getD k dB),t.toNat<k:=by
 intro t ht
 unfold df at ht
 split at ht
 ·simp at ht
 ·rename_i h12
  split at ht
  ·rename_i h6
   simp only[List.mem_cons,List.not_mem_nil,or_false]at ht
   rcases ht with rfl|rfl
   ·exact h.a1 aa aa
   ·exact h.b1 h6
  ·simp only[List.mem_singleton]at ht
   subst ht
   exact h.a1 aa aa
structure af2(row:List aT)(out i:Nat)(nd:List Bool):Prop where
 len:nd.length=row.length
 reach:∀j,nd.getD j false=true->Reach row out j
 closed:∀j,i<=j->nd.getD j false=true->∀t∈df (row.getD j dB),nd.getD t.toNat false=true
 out:nd.getD out false=true
theorem TG{row:List aT}{out:Nat}(ha:∀k,k<row.length->gZ (row.getD k dB) k):∀(i:Nat) (nd:List Bool),i<=row.length->af2 row out i nd->af2 row out 0 (OT row i nd)
 |0,nd,_,h=>h
 |i+1,nd,hi,h=>by
  unfold OT
  refine TG ha i _ aa ?_
  by_cases hb:nd.getD i false=true
  ·rw[if_pos hb]
   have hlt:=SG (ha i aa)
   have hl:∀t∈df (row.getD i dB),t.toNat<nd.length:=λt ht=>by have:=hlt t ht;rw[h.len];omega
   have hm:∀j,((marks (df (row.getD i dB)) nd).getD j false=true↔nd.getD j false=true\/∃t∈df (row.getD i dB),j=t.toNat):=λj=>Nu hl
   refine⟨by rw[PZ,h.len],λj hj=> ?_,λj hij hj t ht=> ?_,(hm _).2 (.inl h.out)⟩
   ·rcases(hm j).1 hj with h1|⟨t,ht,rfl⟩
    ·exact h.reach j h1
    ·exact .step (h.reach i hb) ht
   ·by_cases hji:j=i
    ·subst hji;exact(hm _).2 (.inr ⟨t,ht,rfl⟩)
    ·rcases(hm j).1 hj with h1|⟨u,hu,rfl⟩
     ·exact(hm _).2 (.inl (h.closed j aa h1 t ht))
     ·have:=hlt u hu;omega
  ·rw[if_neg hb]
   refine⟨h.len,h.reach,λj hij hj t ht=> ?_,h.out⟩
   by_cases hji:j=i
   ·subst hji;exact absurd hj hb
   ·exact h.closed j aa hj t ht
variable {out:Nat}
theorem adF(ha:∀k,k<row.length->gZ (row.getD k dB) k)(ho:out<row.length):af2 row out 0 (Sk row out):=by
 have h0:∀j,((List.replicate row.length false).set out true).getD j false=true->j=out:=λj hj=>by
  rw[LG (by simpa using ho)]at hj
  split at hj
  ·assumption
  ·rw[List.getD_eq_getElem?_getD,List.getElem?_replicate]at hj
   split at hj<;>simp at hj
 refine TG ha row.length _ (Nat.le_refl _) ⟨by simp,λj hj=>by rw[h0 j hj];exact .refl _,λj hij hj=>by have:=h0 j hj;omega,by rw[LG (by simpa using ho),if_pos rfl]⟩
theorem o5(ha:∀k,k<row.length->gZ (row.getD k dB) k)(ho:out<row.length)(j:Nat):mO row out j=true↔Reach row out j:=by
 have h:=adF ha ho
 constructor
 ·exact h.reach j
 ·intro hr
  induction hr with
  |refl=>exact h.out
  |step _ ht ih=>exact h.closed _ (Nat.zero_le _) ih _ ht
theorem acH{s:Nat->Bool}(ha:∀k,k<row.length->gZ (row.getD k dB) k)(ho:out<row.length)(h:ni row out (λ_=>false) s):s=mO row out:=by
 funext j
 have h1:=adw h j
 have h2:=o5 ha ho j
 cases hs:s j<;>cases hn:mO row out j<;>simp_all
theorem d9.C8{dY:List (List Int)}{fM:List Sp}(h:d9 row dY fM):∀k,k<row.length->gZ (row.getD k dB) k:=λk hk=>h.ahead (getD_some hk)
def oW(need:Nat->Bool):List aT->Nat->List aT×List Nat->List aT×List Nat
 |[],_,x=>x
 |n::r,i,x=>oW need r (i+1) (if need i=true\/n.ak=1 then(x.1++[bJ x.2 n],x.2++[x.1.length])else(x.1,x.2++[0]))
def kD(l:List aT)(sh:List (List Int))(out:Nat):List aT×Nat:=
 ((oW (mO (pF l sh ([],[])).1 ((pF l sh ([],[])).2.getD out 0)) (pF l sh ([],[])).1 0 ([],[])).1,
  (oW (mO (pF l sh ([],[])).1 ((pF l sh ([],[])).2.getD out 0)) (pF l sh ([],[])).1 0 ([],[])).2.getD ((pF l sh ([],[])).2.getD out 0) 0)
structure sO(l:List aT)(sh:List (List Int))(sp:List Sp)(i:Nat)(row:List aT)(st:List Nat):Prop where
 rest:pF (l.drop i) (sh.drop i) (row,st)=pF l sh ([],[])
 len:st.length=i
 few:row.length<=i
 ok:∃dY fM,d9 row dY fM/\Std sh sp dY fM st
theorem yS(l:List aT)(sh:List (List Int))(sp:List Sp):sO l sh sp 0 [] []:=⟨rfl,rfl,Nat.zero_le _,[],[],d9.nil,λj hj=>absurd hj (Nat.not_lt_zero _),λj hj=>absurd hj (Nat.not_lt_zero _),λj hj=>absurd hj (Nat.not_lt_zero _)⟩
variable {l:List aT} {sh:List (List Int)} {sp:List Sp} {st:List Nat}
theorem sO.step{i:Nat}(hL:d9 l sh sp)(h:sO l sh sp i row st){n:aT}(hn:l[i]? =some n):sO l sh sp (i+1) (pg (gD sh i) (row,st) n).1 (pg (gD sh i) (row,st) n).2:=by
 obtain⟨h1,rfl,h3,dY,fM,hR,hS⟩:=h
 obtain⟨K_,KY,h5,h6⟩:=step_ok hL hR hS hn
 have hil:=(List.getElem?_eq_some_iff.1 hn).1
 obtain⟨s1,s2,_⟩:=aev (gD sh st.length) (row,st) n
 simp only at s1 s2
 refine⟨?_,s1,by omega,K_,KY,h5,h6⟩
 rw[<-h1,List.drop_eq_getElem_cons hil,List.drop_eq_getElem_cons (l:=sh) (i:=st.length) adk]
 have e1:l[st.length]=n:=by rw[List.getElem?_eq_getElem hil]at hn;simpa using hn
 have e2:sh[st.length]' adk=gD sh st.length:=by unfold gD;rw[List.getD_eq_getElem?_getD,List.getElem?_eq_getElem adk];rfl
 rw[e1,e2]
 rfl
theorem sO.done(h:sO l sh sp l.length row st):pF l sh ([],[])=(row,st):=by
 rw[<-h.rest,List.drop_length];rfl
end
section
variable {w0:World} {i nx:Nat} {R0:List (List Value)} {T:TypeId} {H:Heap} {S:bN} {K:SV->Heap->bN->Nat->Prop}
theorem nV{n:Nat}(xs:List Int)(hN:∀R w,S.holds R w->(aO w0).holds R w)(he:R0=aN xs)(hn:n=xs.length)(hf:∀x∈xs,i64 x)(hl:xs.length<=1000000)(h:∀u:au,u.xs=xs->u.bq->K (.c u.val) H (S.and ((bE u).past w0.heap.size)) nx):jT (.os i n) ((i,.rows R0 1 T)::H) S nx K:=by
 subst he hn
 exact lm w0.heap.size (λR w hS b hb=>(hN R w hS b hb).1) (λl hc=>h ⟨l.base,l.cap,xs⟩ rfl ⟨hf,by simpa[aJ]using hc,hl⟩)
theorem Na{n:Nat}(l:List ai)(hN:∀R w,S.holds R w->(aO w0).holds R w)(he:R0=bF l)(hn:n=l.length)(h:∀base cap,K (.c (.slice base l.length cap)) H (S.and ((fC base 9 (bF l)).past w0.heap.size)) nx):jT (.os i n) ((i,.rows R0 9 T)::H) S nx K:=by
 subst he hn
 exact lm w0.heap.size (λR w hS b hb=>(hN R w hS b hb).1) (λlc _=>h lc.base lc.cap)
theorem lM{n:Nat}(l:List au)(hN:∀R w,S.holds R w->(aO w0).holds R w)(he:R0=aS l)(hn:n=l.length)(h:∀base cap,l.length<=cap->K (.c (.slice base l.length cap)) H (S.and ((fC base 1 (aS l)).past w0.heap.size)) nx):jT (.os i n) ((i,.rows R0 1 T)::H) S nx K:=by
 subst he hn
 exact lm w0.heap.size (λR w hS b hb=>(hN R w hS b hb).1) (λlc hc=>h lc.base lc.cap (by simpa[aW]using hc))
theorem Ia{xs:List Int}(h:(xs.all λx=>decide (-1000000<=x/\x<=1000000))=true):∀x∈xs,i64 x:=λx hx=>by
 have:=of_decide_eq_true (List.all_eq_true.1 h x hx)
 unfold i64;omega
theorem TY{cx:Cx}{f:FuncId}{args:List SV}(r:Int×List Int)(hf:∀ar w,(callFunc f ar).run cx.P w= .ok (.enter f ar) w)
 (hc:∀ρ w',eD cx.B ρ nx H S w'->Calls cx.P f (SV.eO ρ args).toArray w' (Bv w' r))
 (h0:r.1≠0->K (.c (.tuple #[.slice none 0 0,.int .i64 r.1])) H S nx)
 (h1:r.1=0->∀x:au,x.xs=r.2->x.bq->K (.c (.tuple #[x.val,.int .i64 0])) H (S.and ((bE x).past cx.B.w0.heap.size)) nx):aI cx f args H S nx K:=by
 rw[gN]
 refine⟨hf,λρ w hw=>(hc ρ w hw).mono ?_⟩
 rintro e w' (⟨hr,rfl,he⟩|⟨hr,x,⟨hx1,hx2⟩,rfl,he,hD⟩)
 ·exact⟨.c (.tuple #[.slice none 0 0,.int .i64 r.1]),ρ,H,S,nx,rfl,λ_ _=>rfl,Nat.le_refl _,SV.jk _,hw.ext he,h0 hr⟩
 ·exact⟨.c (.tuple #[x.val,.int .i64 0]),ρ,H,_,nx,rfl,λ_ _=>rfl,Nat.le_refl _,SV.jk _,hw.grow he hD,h1 hr x hx1 hx2⟩
end
section
abbrev ahN:DT:=(eY [0,1,2,3,4,5,6,7,8] (.alt 9 (eY [10,111,112] .done) (eY [111,109,10,112] .done)))
abbrev ajb:DT:=(eY [0,1,2,3,4,5,6,7,8,9,10,111,112,13,114,115,116] .done)
section
variable {w:World} {b:Nat} {nb sb:Option Addr} {nc sc:Nat} {kept:List ai} {st:List Int}
theorem M9(hd:nA w b nb nc kept sb sc st)(k:Nat)(hk:k<kept.length)(bv:Bool)(hv:decide (kept[k].ak=2)=bv):Calls Tryz.prog 109 #[.pointer (some ⟨b,0,none⟩),.int .i64 k] w λe w'=>e= .returned (.bool bv)/\Ext w w':=by
 obtain⟨na,hna⟩:∃a,nb=some a:=aP (j:=k) hd.nodes Ca
 have hrow:=bU hk
 generalize kept[k]=n at*
 subst hv
 refine fH Tryz.func109 [.c (.pointer (some ⟨b,0,none⟩)),ax k] ?_
 by_cases h2:n.ak=2
 ·rw[decide_eq_true h2]
  repeat' ((conv=>whnf)<;>first|refine TW ?_|refine Y9 ?_|(show fT ..;(refine PX (λR w' h=>by rw[<-hna];exact aA h hd.nodes) _ _ hrow rfl ?_))|(show @eZ _ _ _;refine cu h2 ?_)|refine aX ?_)
  all_goals(conv=>whnf)
  all_goals exact bf (λ_ _ h=>h) rfl rfl
 ·rw[decide_eq_false h2]
  repeat' ((conv=>whnf)<;>first|refine TW ?_|refine Y9 ?_|(show fT ..;(refine PX (λR w' h=>by rw[<-hna];exact aA h hd.nodes) _ _ hrow rfl ?_))|(show @eZ _ _ _;refine dA h2 ?_)|refine aX ?_)
  all_goals(conv=>whnf)
  all_goals exact bf (λ_ _ h=>h) rfl rfl
def vk(kept:List ai)(k:Int):Bool:=decide ((kept.getD k.toNat (aT.jh dB)).ak=2)
theorem Bz{kept:List ai}{k:Int}(h:k.toNat<kept.length):decide (kept[k.toNat].ak=2)=vk kept k:=by
 unfold vk;rw[List.getD_eq_getElem?_getD,List.getElem?_eq_getElem h];rfl
theorem OM(kept:List ai)(k:Int):oL (kept.map ai.pl) k=vk kept k:=by
 unfold vk oL
 congr 1
 rw[List.getD_eq_getElem?_getD,List.getD_eq_getElem?_getD,List.getElem?_map]
 cases kept[k.toNat]? <;>rfl
theorem qa(hd:nA w b nb nc kept sb sc st){k:Int}(h0:0<=k)(hk:k.toNat<kept.length){bv:Bool}(hv:vk kept k=bv):Calls Tryz.prog 109 #[.pointer (some ⟨b,0,none⟩),.int .i64 k] w λe w'=>e= .returned (.bool bv)/\Ext w w':=by
 have:=M9 hd k.toNat hk bv ((Bz hk).trans hv)
 rwa[Int.toNat_of_nonneg h0]at this
theorem aaq(hd:nA w b nb nc kept sb sc st)(n:ai)(hn:gZ n.pl kept.length)(hk:gU (kept.map ai.pl) n.pl=false):Calls Tryz.prog 55 #[.pointer (some ⟨b,0,none⟩),n.j3] w λe w'=>e= .returned n.j3/\Ext w w':=by
 have hkk:=hn.ak
 have kk:n.pl.ak=n.ak:=rfl
 have ka:n.pl.a=n.a:=rfl
 have kb:n.pl.b=n.b:=rfl
 have ha0:=hn.a0
 have hb0:=hn.b0
 have ha1:=hn.a1
 have hb1:=hn.b1
 rw[kk]at hkk ha1 hb1
 rw[ka]at ha0 ha1
 rw[kb]at hb0 hb1
 unfold gU at hk
 rw[OM,OM,kk,ka,kb]at hk
 by_cases h12:n.ak=1\/n.ak=2
 ·refine fH Tryz.func55 [.c (.pointer (some ⟨b,0,none⟩)),.agg (jN n)] ?_
  repeat' ((conv=>whnf)<;>first|refine aX ?_|refine ag ?_ ?_<;>intro _)
  all_goals(conv=>whnf)
  all_goals first|(exfalso;omega)|exact cz (λ_ _ h=>h) (λ_=>rfl) rfl
 ·have a1:=ha1 aa aa
  have hk':(vk kept n.a&&(decide (n.ak≠6)||vk kept n.b))=false:=by
   rw[decide_eq_false h12]at hk;simpa using hk
  cases hA:vk kept n.a with
  |false=>
   refine fH Tryz.func55 [.c (.pointer (some ⟨b,0,none⟩)),.agg (jN n)] ?_
   repeat' ((conv=>whnf)<;>first|(show aI _ 109 ..;refine aQ (f:=109) Tryz.call109 (.bool false) (λρ w' hw=>qa (ae hw λR h=>hd.later h) ha0 a1 hA) ?_)|refine aX ?_|refine ag ?_ ?_<;>intro _)
   all_goals(conv=>whnf)
   all_goals first|(exfalso;omega)|exact cz (λ_ _ h=>h) (λ_=>rfl) rfl
  |true=>
   rw[hA,Bool.true_and]at hk'
   simp only[Bool.or_eq_false_iff,decide_eq_false_iff_not,Decidable.not_not]at hk'
   obtain⟨h6,hB⟩:=hk'
   have b1:=hb1 h6
   by_cases hab:n.a=n.b
   ·rw[hab,hB]at hA;cases hA
   refine fH Tryz.func55 [.c (.pointer (some ⟨b,0,none⟩)),.agg (jN n)] ?_
   repeat' ((conv=>whnf)<;>first|(show aI _ 109 [_,ax n.a] ..;refine aQ (f:=109) Tryz.call109 (.bool true) (λρ w' hw=>qa (ae hw λR h=>hd.later h) ha0 a1 hA) ?_)|(show aI _ 109 [_,ax n.b] ..;refine aQ (f:=109) Tryz.call109 (.bool false) (λρ w' hw=>qa (ae hw λR h=>hd.later h) hb0 b1 hB) ?_)|refine aX ?_|refine ag ?_ ?_<;>intro _)
   all_goals(conv=>whnf)
   all_goals first|(exfalso;omega)|exact cz (λ_ _ h=>h) (λ_=>rfl) rfl
end
end
end Go.Proofs.YtgndjjdeopfdkaaGreat

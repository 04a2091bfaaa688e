import Derived.DeepKeys
import Derived.Test.YtgndjjdeopfdkaaGreatKLowerMeans5
/- texts IV NM of the proof of LowerMeansSaid -/
set_option maxHeartbeats 16000000
set_option maxRecDepth 20000
set_option linter.unusedVariables false
set_option linter.unusedSimpArgs false
namespace Go.Proofs.YtgndjjdeopfdkaaGreat
open Go.SX Go.RowKit
def dZ(n:ak)(tl:List Int)(o:Nat):List Sp:=
 if n.ai=3 then uK n o (au tl).toNat
 else if n.ai=4 then CS n.data.xs (n.az.xs.getD 1 0) (n.az.xs.getD 2 0) (n.az.xs.getD 3 0) (tl.getD 1 0) (tl.getD 2 0) o
 else CQ n.size (tl.getD 1 0) (tl.getD 2 0) o
theorem ai3{n:ak}{at_:Nat}(h:cz n at_=true)(hk:n.ai=4):(n.data.xs.length:Int)=h_ n.az.xs/\(n.aQ.xs.length:Int)=n.az.xs.getD 0 0:=by
 unfold cz at h;repeat(first|rw[if_pos aa]at h|rw[if_neg aa]at h)
 simp only[afF,decide_eq_true_eq]at h;exact⟨h.1.2,h.2⟩
theorem aiR{l:List Int}(h:l.length=4):l=[l.getD 0 0,l.getD 1 0,l.getD 2 0,l.getD 3 0]:=by
 match l,h with
 |[a,b,c,d],_=>rfl
structure aiX(n:ak)(t:ax)(cnt:Nat)(F:FuncId)(P0:Value):Prop where
 fn:uN n t.val cnt= .func (.func F) #[P0] #[]
 terms:∀w,t.ok w->n.ok w->Vg w F P0 cnt (dZ n t.xs)
 lin:∀w,n.ok w->ace w n cnt
 at_:∀o,o<cnt->∀s∈dZ n t.xs o,0<=s.2/\s.2<au t.xs
theorem ajH{n:ak}{sh:List (List Int)}{s:List Int}{t:ax}{cnt:Nat}(hn:jb n sh s)(hk:n.ai=3\/n.ai=4\/n.ai=5)(ht:sh.getD n.a.toNat []=t.xs)(hg:0<au t.xs)(hgs:∀q∈sh,0<au q)(hc:au s=cnt):∃F P0,aiX n t cnt F P0:=by
 have hsh:=hn.az;have hfo:=dJ hn.form;have h4:=ai3 hn.form;obtain⟨nd,nb,_,_,_⟩:=Gp hn.near;have heb:=(dN t.xs).2;have hcb:cnt<=64:=by have:=(dN s).2;omega
 have hsp:=(dN s).1;rcases hk with hk|hk|hk
 ·unfold bP at hsh;rw[if_neg aa,if_pos hk,ht]at hsh;by_cases hdl:(n.data.xs.length:Int)=n.aQ.xs.length*au t.xs
  ·rw[if_pos hdl,Option.some.injEq]at hsh;obtain⟨b1,b2⟩:=hfo.aQ hk;have he1:au [(n.aQ.xs.length:Int)]=n.aQ.xs.length:=by
    unfold au;rw[if_neg aI];simp only[dX];rw[if_neg aa];omega
   rw[<-hsh,he1]at hc;have hbl:n.aQ.xs.length=cnt:=by omega
   obtain⟨size,hsz⟩:∃size:Nat,au t.xs=size:=⟨(au t.xs).toNat,by omega⟩;have ad8:n.data.xs.length=n.aQ.xs.length*size:=by
    rw[hsz,<-akv]at hdl;exact Int.ofNat.inj hdl
   have hG:∀o,dZ n t.xs o=uK n o size:=λo=>by unfold dZ;rw[if_pos hk,hsz];rfl
   refine⟨_,_,if_pos hk,λw hto hno=>⟨Tryz.call104,λR w' hb o ho=> ?_,λo ho=> ?_,λo ho x hx=> ?_⟩,λw hno=>⟨.inl hk,hno.aQ,nb,hcb,λ_=>hbl,λh=>by omega⟩,λo ho x hx=> ?_⟩
   ·rw[hG];exact ad7 w' n (hno.data.later hb) ⟨b1,b2⟩ (.slice none 0 0) .nilFunc cnt o size aa ad8 aa
   ·rw[hG];simp[uK];omega
   ·rw[hG]at hx;obtain⟨i,_,rfl⟩:=abl.1 hx;exact iY nd _
   ·rw[hG]at hx;obtain⟨i,hi,rfl⟩:=abl.1 hx;rw[ahe]at hi;simp only;omega
  ·rw[if_neg hdl]at hsh;cases hsh
 ·obtain⟨g1,g2⟩:=h4 hk;have QW:=hfo.acS hk;obtain⟨hl4,acD⟩:=uu QW;have hsx:=aiR hl4;unfold bP at hsh;rw[if_neg aa,if_neg aa,if_pos hk,ht]at hsh;have hG:∀o,dZ n t.xs o=CS n.data.xs (n.az.xs.getD 1 0) (n.az.xs.getD 2 0) (n.az.xs.getD 3 0) (t.xs.getD 1 0) (t.xs.getD 2 0) o:=λo=>by unfold dZ;rw[if_neg aa,if_pos hk]
  have dm:∀k,k<4->1<=n.az.xs.getD k 0/\n.az.xs.getD k 0<=64:=λk hk=>acD _ (cu aa);have dm0:=dm 0 ay;have dm1:=dm 1 ay;have dm2:=dm 2 ay;have dm3:=dm 3 ay;rw[hsx]at g1 QW;have hke:=XR QW;rw[hke]at g1;generalize n.az.xs.getD 0 0=k0 at*;generalize n.az.xs.getD 1 0=k1 at*;generalize n.az.xs.getD 2 0=k2 at*;generalize n.az.xs.getD 3 0=k3 at*;by_cases hbad:t.xs.length≠3\/t.xs.getD 0 0≠k1\/t.xs.getD 1 0<k2\/t.xs.getD 2 0<k3
  ·rw[if_pos hbad]at hsh;cases hsh
  rw[if_neg hbad]at hsh;have hl3:t.xs.length=3:=by omega
  have htx:=adL hl3;have YR:=(g_ hg).2.2;have td1:=YR _ (cu (xs:=t.xs) (k:=1) aa);have td2:=YR _ (cu (xs:=t.xs) (k:=2) aa);have te:au t.xs=k1*t.xs.getD 1 0*t.xs.getD 2 0:=by
   have h0:t.xs.getD 0 0=k1:=by omega
   have:=jP (a:=t.xs.getD 0 0) (b:=t.xs.getD 1 0) (c:=t.xs.getD 2 0) Am;rw[<-htx,h0]at this;exact this
  generalize hi0:t.xs.getD 0 0=i0 at*;generalize t.xs.getD 1 0=i1 at*;generalize t.xs.getD 2 0=i2 at*;by_cases hpos:0<au [k0,i1-k2+1,i2-k3+1]
  ·rw[if_pos hpos,Option.some.injEq]at hsh;have hcv:=jP hpos;rw[hsh,hc]at hcv;have hQ:k1*k2*k3<=k1*i1*i2:=by
    have q1:k1*k2<=k1*i1:=ai6 aa aa;have q0:0<k1*k2:=amz aa aa;exact ag8 q1 aa aa aa
   have hQ0:0<k1*k2*k3:=amz (amz aa aa) aa;have hob:∀o:Nat,o<cnt->(o:Int)<k0*(i1-k2+1)*(i2-k3+1):=λo ho=>by rw[<-hcv];omega
   refine⟨_,_,by unfold uN;rw[if_neg aa,if_pos hk],λw hto hno=>⟨Tryz.call105,λR w' hb o ho=> ?_,λo ho=> ?_,λo ho x hx=> ?_⟩,λw hno=>⟨.inr (.inl hk),hno.aQ,nb,hcb,λh=>by omega,λ_=> ?_⟩,λo ho x hx=> ?_⟩
   ·rw[hG];exact aeD w' n t (hno.data.later hb) (hno.az.later hb) (hto.later hb) .nilFunc cnt k0 k1 k2 k3 i1 i2 o ⟨hsx,⟨i0,htx⟩,dm1,by omega,by omega,by omega,by omega,g1,by omega,by omega,U1 (hob o ho) aa aa⟩
   ·rw[hG];simp only[CS,aas,amj];omega
   ·rw[hG]at hx;obtain⟨i,_,rfl⟩:=abl.1 hx;exact iY nd _
   ·have hw1:0<(i1-k2+1)*(i2-k3+1):=amz aa aa;obtain⟨A,hA⟩:∃A:Nat,(i1-k2+1)*(i2-k3+1)=A:=⟨((i1-k2+1)*(i2-k3+1)).toNat,by omega⟩;obtain⟨B,hB⟩:∃B:Nat,k0=B:=⟨k0.toNat,by omega⟩;have hcA:cnt=B*A:=by
     have:(cnt:Int)=B*A:=by rw[hcv,ank,hA,hB]
     exact_mod_cast this
    have hbB:n.aQ.xs.length=B:=by omega
    have hA1:1<=A:=by omega
    have hB1:1<=B:=by omega
    rw[hbB,hcA];refine⟨hB1,Nat.le_mul_of_pos_right B hA1,λo ho=> ?_⟩;rw[Nat.mul_div_cancel_left A hB1];exact(Nat.div_lt_iff_lt_mul hA1).2 ho
   ·rw[hG]at hx;obtain⟨i,hi,rfl⟩:=abl.1 hx;rw[ahe]at hi;rw[te];exact aie aa aa aa aa aa
  ·rw[if_neg hpos]at hsh;cases hsh
 ·have hz:=hfo.pool hk;unfold bP at hsh;rw[if_neg aa,if_neg aa,if_neg aa,if_pos hk,ht]at hsh;have hG:∀o,dZ n t.xs o=CQ n.size (t.xs.getD 1 0) (t.xs.getD 2 0) o:=λo=>by unfold dZ;rw[if_neg aa,if_neg aa]
  by_cases hbad:t.xs.length≠3\/t.xs.getD 1 0%n.size≠0\/t.xs.getD 2 0%n.size≠0
  ·rw[if_pos hbad]at hsh;cases hsh
  rw[if_neg hbad,Option.some.injEq]at hsh;have hl3:t.xs.length=3:=by omega
  have htx:=adL hl3;have YR:=(g_ hg).2.2;have td0:=YR _ (cu (xs:=t.xs) (k:=0) aa);have td1:=YR _ (cu (xs:=t.xs) (k:=1) aa);have td2:=YR _ (cu (xs:=t.xs) (k:=2) aa);have te:au t.xs=t.xs.getD 0 0*t.xs.getD 1 0*t.xs.getD 2 0:=by
   have:=jP (a:=t.xs.getD 0 0) (b:=t.xs.getD 1 0) (c:=t.xs.getD 2 0) Am;rw[<-htx]at this;exact this
  generalize t.xs.getD 0 0=i0 at*;generalize t.xs.getD 1 0=i1 at*;generalize t.xs.getD 2 0=i2 at*;have m1:i1%n.size=0:=by omega
  have m2:i2%n.size=0:=by omega
  have z1:n.size<=i1:=by
   rcases(by omega:i1<n.size\/n.size<=i1)with hlt|hge
   ·rw[anc aa hlt]at m1;omega
   ·exact hge
  have z2:n.size<=i2:=by
   rcases(by omega:i2<n.size\/n.size<=i2)with hlt|hge
   ·rw[anc aa hlt]at m2;omega
   ·exact hge
  have hpos:0<au [i0,i1/n.size,i2/n.size]:=by
   have:=jG hfo hgs hn.az rfl;rw[hsh];exact this
  have hcv:=jP hpos;rw[hsh,hc]at hcv;have hQ:n.size*n.size<=i1*i2:=ag8 z1 z2 aa aa;have hQ2:i1*i2<=i0*i1*i2:=by
   have:1*(i1*i2)<=i0*(i1*i2):=ahi aa (agJ aa aa);rw[ank];omega
  have hob:∀o:Nat,o<cnt->(o:Int)<i0*(i1/n.size)*(i2/n.size):=λo ho=>by rw[<-hcv];omega
  refine⟨_,_,by unfold uN;rw[if_neg aa,if_neg aa],λw hto hno=>⟨Tryz.call106,λR w' hb o ho=> ?_,λo ho=> ?_,λo ho x hx=> ?_⟩,λw hno=>⟨.inr (.inr hk),hno.aQ,nb,hcb,λh=>by omega,λh=>by omega⟩,λo ho x hx=> ?_⟩
  ·rw[hG];exact aeQ w' n t (hto.later hb) .nilFunc cnt i1 i2 o ⟨⟨i0,htx⟩,by omega,z2,by omega,by omega,by omega⟩
  ·rw[hG];simp only[CQ,aas,amj];omega
  ·rw[hG]at hx;obtain⟨i,_,rfl⟩:=abl.1 hx;exact⟨(show(-1048576:Int)<=1 by decide),(show(1:Int)<=1048576 by decide)⟩
  ·rw[hG]at hx;obtain⟨i,hi,rfl⟩:=abl.1 hx;rw[ahe]at hi;rw[te];have hzz:=amz (show 0<n.size by omega) (show 0<n.size by omega);exact aim aa z1 z2 m1 m2 ⟨by omega,hob o ho⟩ aa
section
def eF(n:ak):Prop:=n.ai=3\/n.ai=4\/n.ai=5
instance(n:ak):Decidable (eF n):=inferInstanceAs (Decidable (_\/_))
def inA(n:ak)(t:ax):Value:=if eF n then t.val else .slice none 0 0
def fnA(n:ak)(t:ax)(cnt:Int):Value:=if eF n then uN n t.val cnt else .nilFunc
theorem adb(n:ak)(t:ax):∃b l c,inA n t= .slice b l c:=by
 unfold inA;split
 ·exact⟨_,_,_,rfl⟩
 ·exact⟨_,_,_,rfl⟩
theorem agV(n:ak)(t:ax)(cnt:Int):fnA n t cnt= .nilFunc\/∃f a r,fnA n t cnt= .func f a r:=by
 unfold fnA uN;split
 ·right;split
  ·exact⟨_,_,_,rfl⟩
  ·split
   ·exact⟨_,_,_,rfl⟩
   ·exact⟨_,_,_,rfl⟩
 ·exact .inl rfl
def jw(n:ak)(cnt:Nat)(t:List Int)(a b:Sp):List Int:=if eF n then nH n cnt (dZ n t) a else fA n a b
def gH(n:ak)(cnt:Nat)(t a b:List Int):List Int:=if eF n then jh n cnt cnt (dZ n t) a else o5 n cnt a b
theorem Qc{g:bM}(h:(check g).1=0):∀q∈(check g).2,0<au q:=by
 obtain⟨_,_,_,hcl,hin⟩:=gK h;have key:∀i,i<=g.l.length->∀q∈(check g).2.take i,0<au q:=by
  intro i;induction i with
  |zero=>intro _ q hq;simp at hq
  |succ i ih=>
   intro hi q hq;obtain⟨s,hs,hni⟩:=hin i g.l[i] (YL aa);obtain⟨hls,hse⟩:=abH.1 hs;rw[ajP hls,hse]at hq;rcases aeh.1 hq with hq|hq
   ·exact ih aa q hq
   ·simp at hq;subst hq;exact jG (dJ hni.form) (ih aa) hni.az rfl
 intro q hq;have:=key g.l.length (Tw _) q;rw[aen aa]at this;exact this hq
structure gN(n:ak)(sh:List (List Int))(s t:List Int)(cnt:Nat):Prop where
 node:jb n sh s
 cnt:au s=cnt
 pos:∀q∈sh,0<au q
 first:eF n->sh.getD n.a.toNat []=t/\0<au t
variable {sh:List (List Int)} {s t:List Int} {cnt:Nat}
theorem gN.few{n:ak}(h:gN n sh s t cnt):1<=cnt/\cnt<=64:=by
 have h1:=jG (dJ h.node.form) h.pos h.node.az rfl;have h2:=(dN s).2;have h3:=h.cnt;omega
theorem gN.lin{n:ak}{t:ax}(h:gN n sh s t.xs cnt)(hl:eF n):∃F P0,aiX n t cnt F P0:=
 ajH h.node hl (h.first hl).1 (h.first hl).2 h.pos h.cnt
theorem agj(w:World)(n:ak)(sv:aY)(hs:sv.ok w)(i:Nat)(s t:ax)(cnt:Nat)(hi:sv.l[i]? =some s)(hj:sv.l[n.a.toNat]? =some t)(h0:0<=n.a)(hc:au s.xs=cnt):Calls Tryz.prog 50 #[n.p9,sv.val,.int .i64 i] w λe w'=>e= .returned (kz n (inA n t) (fnA n t cnt) cnt)/\Ext w w':=by
 by_cases hl:eF n
 ·have e1:inA n t=t.val:=if_pos hl;have e2:fnA n t cnt=uN n t.val cnt:=if_pos hl;rw[e1,e2,<-hc];exact aj1 w n sv hs i n.a.toNat s t hi hj aa hl
 ·have e1:inA n t= .slice none 0 0:=if_neg hl;have e2:fnA n t cnt= .nilFunc:=if_neg hl;rw[e1,e2,<-hc];unfold eF at hl;exact ae2 w n sv hs i s hi aa
theorem afm(w:World)(n:ak)(sh:List (List Int))(s:List Int)(t:ax)(cnt:Nat)(h:gN n sh s t.xs cnt)(hno:n.ok w)(hto:t.ok w)(a b:Sp)(ha:fJ a.1/\fJ a.2)(hb:fJ b.1/\fJ b.2):Calls Tryz.prog 51 #[kz n (inA n t) (fnA n t cnt) cnt,o7 a,o7 b] w (Co w n (jw n cnt t.xs a b)):=by
 by_cases hl:eF n
 ·obtain⟨F,P0,hL⟩:=h.lin hl;have e2:fnA n t cnt= .func (.func F) #[P0] #[]:=(if_pos hl).trans hL.fn;have e3:jw n cnt t.xs a b=nH n cnt (dZ n t.xs) a:=if_pos hl;rw[e2,e3];exact aeq w n _ F P0 cnt _ a b (hL.terms w hto hno) (hL.lin w hno) ha
 ·have e3:jw n cnt t.xs a b=fA n a b:=if_neg hl;rw[e3];obtain⟨_,_,h7,h8,h2⟩:=uG h.node.form;obtain⟨nd,nb,nlo,nhi,nle⟩:=Gp h.node.near;have hkind:=(dJ h.node.form).ai;unfold eF at hl;exact Zz w n hno.data _ _ _ a b ⟨by omega,nd,h7,h8,nlo,nhi,ha.1,ha.2,hb.1,hb.2⟩
theorem I7{n:ak}(h:gN n sh s t cnt)(a b:Sp):1<=(jw n cnt t a b).length:=by
 unfold jw;split
 ·have:=h.few;unfold nH;rw[FJ];omega
 ·exact adp h.node.form
structure NumIn(n:ak)(sh:List (List Int))(a b:List Int):Prop where
 Yh:n.ai≠1->n.ai≠2->(a.length:Int)=au (sh.getD n.a.toNat [])
 ae5:n.ai=6->(b.length:Int)=au (sh.getD n.b.toNat [])
theorem Oa{n:ak}(h:bP n sh=some s)(hnk:¬eF n)(hk:1<=n.ai/\n.ai<=9)(hk1:n.ai≠1):(n.ai=2->s=n.az.xs)/\(n.ai≠2->au (sh.getD n.a.toNat [])=au s)/\(n.ai=6->au (sh.getD n.b.toNat [])=au s):=by
 unfold eF at hnk;unfold bP at h;by_cases h2:n.ai=2
 ·rw[if_pos aa]at h;exact⟨λ_=>by simpa using h.symm,λh=>absurd h2 h,λh=>by omega⟩
 ·rw[if_neg aa,if_neg aa,if_neg aa,if_neg aa]at h;refine⟨λh=>absurd h h2,λ_=> ?_,λh6=> ?_⟩
  ·split at h
   ·split at h
    ·simp only[Option.some.injEq]at h;rw[h]
    ·cases h
   ·split at h
    ·split at h
     ·rename_i he;simp only[Option.some.injEq]at h;rw[<-h];exact he.symm
     ·cases h
    ·simp only[Option.some.injEq]at h;rw[h]
  ·rw[if_pos h6]at h;split at h
   ·rename_i he;simp only[Option.some.injEq]at h;rw[<-he,h]
   ·cases h
variable {b:List Int}
theorem OQ{n:ak}(h:gN n sh s t cnt)(hl:¬eF n)(hk1:n.ai≠1){a:List Int}(hn:NumIn n sh a b):(n.ai=2\/n.ai=6\/n.ai=7\/n.ai=8\/n.ai=9)/\(n.ai=2->n.data.xs.length=cnt)/\(n.ai≠2->a.length=cnt)/\(n.ai=6->b.length=cnt):=by
 obtain⟨_,_,h7,h8,h2⟩:=uG h.node.form;have hkind:=(dJ h.node.form).ai;obtain⟨r2,rA,rB⟩:=Oa h.node.az hl hkind hk1;have hc:=h.cnt;unfold eF at hl;refine⟨by omega,λhk=> ?_,λhk=> ?_,λhk=> ?_⟩
 ·have:=h2 hk;rw[<-r2 hk,hc]at this;omega
 ·have:=hn.Yh hk1 hk;rw[rA hk,hc]at this;omega
 ·have:=hn.ae5 hk;rw[rB hk,hc]at this;omega
theorem ae1(w:World)(n:ak)(sh:List (List Int))(s:List Int)(t:ax)(cnt:Nat)(h:gN n sh s t.xs cnt)(hk1:n.ai≠1)(hno:n.ok w)(hto:t.ok w)(a b:ax)(ha:a.ok w)(hb:b.ok w)(hab:∀x∈a.xs,fJ x)(hbb:∀x∈b.xs,fJ x)(hn:NumIn n sh a.xs b.xs):Calls Tryz.prog 146 #[kz n (inA n t) (fnA n t cnt) cnt,a.val,b.val] w (DJ w (gH n cnt t.xs a.xs b.xs)):=by
 by_cases hl:eF n
 ·obtain⟨F,P0,hL⟩:=h.lin hl;have e2:fnA n t cnt= .func (.func F) #[P0] #[]:=(if_pos hl).trans hL.fn;have e3:gH n cnt t.xs a.xs b.xs=jh n cnt cnt (dZ n t.xs) a.xs:=if_pos hl;rw[e2,e3];have hk2:n.ai≠2:=by unfold eF at hl;omega
  have hal:=hn.Yh hk1 hk2;rw[(h.first hl).1]at hal;exact af0 w n _ F P0 cnt _ a b (hL.terms w hto hno) (hL.lin w hno) ha hab λo ho s hs=>by
   have:=hL.at_ o ho s hs;omega
 ·have e3:gH n cnt t.xs a.xs b.xs=o5 n cnt a.xs b.xs:=if_neg hl;rw[e3];obtain⟨_,_,h7,h8,h2⟩:=uG h.node.form;obtain⟨nd,nb,nlo,nhi,nle⟩:=Gp h.node.near;obtain⟨q1,q2,q3,q4⟩:=OQ h hl hk1 hn;exact Zy w n _ _ cnt a b ⟨q1,h.few.2,hno.data,nd,q2,h7,h8,ha,hb,q3,q4,hab,hbb⟩
theorem Ox{A:Sp}{av:List Int}(hA:within A av):∀{l:List Sp} {s1 s s2:Int},s1<=s->s<=s2->(∀t∈l,0<=t.2/\t.2<av.length)->l.foldl (Qt A) s1<=l.foldl (FP av) s/\l.foldl (FP av) s<=l.foldl (Qu A) s2
 |[],s1,s,s2,h1,h2,_=>⟨h1,h2⟩
 |t::r,s1,s,s2,h1,h2,h=>by
  have ht:=h t YV;have hw:=qw hA (o:=t.2.toNat) aa;have hs:=H7 (d:=t.1) hw.1 hw.2;have m1:foldI min [t.1*A.1,t.1*A.2]=min (t.1*A.1) (t.1*A.2):=rfl;have m2:foldI max [t.1*A.1,t.1*A.2]=max (t.1*A.1) (t.1*A.2):=rfl;rw[m1,m2,ajF (av.getD t.2.toNat 0) t.1]at hs;have e1:Qt A s1 t=s1+min (t.1*A.1) (t.1*A.2):=rfl;have e2:Qu A s2 t=s2+max (t.1*A.1) (t.1*A.2):=rfl;have e3:FP av s t=s+t.1*av.getD t.2.toNat 0:=rfl;simp only[ahb];exact Ox hA aa aa λx hx=>h x (aeg _ hx)
def rq(l:List Int):Sp:=(foldI min l,foldI max l)
variable {A:Sp}
theorem Ul{n:ak}{t:ax}(h:gN n sh s t.xs cnt)(hk1:n.ai≠1){a:List Int}{B:Sp}(hn:NumIn n sh a b)(hA:within A a)(hB:within B b):within (rq (jw n cnt t.xs A B)) (gH n cnt t.xs a b)/\(gH n cnt t.xs a b).length=cnt:=by
 by_cases hl:eF n
 ·obtain⟨F,P0,hL⟩:=h.lin hl;have e1:jw n cnt t.xs A B=nH n cnt (dZ n t.xs) A:=if_pos hl;have e3:gH n cnt t.xs a b=jh n cnt cnt (dZ n t.xs) a:=if_pos hl;rw[e1,e3];have hk2:n.ai≠2:=by unfold eF at hl;omega
  have hal:=hn.Yh hk1 hk2;rw[(h.first hl).1]at hal;refine⟨λx hx=> ?_,by simp[jh]⟩;obtain⟨o,ho,rfl⟩:=abl.1 hx;have ho':=ahe.1 ho;have hw:=Ox hA (l:=dZ n t.xs o) (aem (dV n cnt o)) (aem _) λs hs=>by
   have:=hL.at_ o ho' s hs;omega
  have m1:(dZ n t.xs o).foldl (Qt A) (dV n cnt o)∈nH n cnt (dZ n t.xs) A:=am5.2 ⟨o,ho,by simp⟩;have m2:(dZ n t.xs o).foldl (Qu A) (dV n cnt o)∈nH n cnt (dZ n t.xs) A:=am5.2 ⟨o,ho,by simp⟩;exact⟨aha (kI m1) hw.1,aha hw.2 (kK m2)⟩
 ·have e1:jw n cnt t.xs A B=fA n A B:=if_neg hl;have e3:gH n cnt t.xs a b=o5 n cnt a b:=if_neg hl;rw[e1,e3];obtain⟨q1,q2,q3,q4⟩:=OQ h hl hk1 hn;refine⟨λx hx=> ?_,by simp[o5]⟩;obtain⟨o,ho,rfl⟩:=abl.1 hx;exact N9 q1 q2 q3 q4 hA hB (ahe.1 ho)
end
abbrev alh:DT:=(bS [0,1,2,3,4,5,6,7,8,9,10,111,12] .done)
theorem Tk{l:List (List Int)}{k:Nat}(h:k<l.length):l.getD k []∈l:=by
 rw[TR,YL h];exact aby h
def jm(sh:List (List Int))(n:ak)(acc:List Sp):List Int:=jw n (au (sh.getD acc.length [])).toNat (sh.getD n.a.toNat []) (acc.getD n.a.toNat (0,0)) (acc.getD n.b.toNat (0,0))
def iJ(sh:List (List Int)):List ak->List Sp->Int×List Sp
 |[],acc=>(0,acc)
 |n::r,acc=>
  if foldI min (jm sh n acc)< -1048576\/1048576<foldI max (jm sh n acc)then(5,[])
  else iJ sh r (acc++[(foldI min (jm sh n acc),foldI max (jm sh n acc))])
def cZ(g:bM):Int×List Sp:=if(check g).1≠0 then((check g).1,[])else iJ (check g).2 g.l []
theorem yl{g:bM}(h:(check g).1=0){i:Nat}{n:ak}(hn:g.l[i]? =some n):(0<=n.a/\n.a.toNat<(check g).2.length/\(n.a.toNat<i\/n.a.toNat=0))/\(0<=n.b/\n.b.toNat<(check g).2.length/\(n.b.toNat<i\/n.b.toNat=0))/\∃cnt:Nat,au ((check g).2.getD i [])=cnt/\gN n ((check g).2.take i) ((check g).2.getD i []) ((check g).2.getD n.a.toNat []) cnt:=by
 obtain⟨hl1,Ez,hout,hcl,hin⟩:=gK h;have hpos:=Qc h;obtain⟨hlt,_⟩:=abH.1 hn;obtain⟨s,hs,hni⟩:=hin i n hn;have hti:((check g).2.take i).length=i:=by rw[aek,hcl];omega
 have hform:=hni.form;rw[hti]at hform;obtain⟨hA,hB,_⟩:=uG hform;have hfo:=dJ hform;have e1:(check g).2.getD i []=s:=by rw[TR,hs];rfl
 rw[e1];refine⟨⟨hA.1,by omega,by omega⟩,⟨hB.1,by omega,by omega⟩,(au s).toNat,by have:=(dN s).1;omega,⟨hni,by have:=(dN s).1;omega,λq hq=>hpos q (ams hq),λhl=> ?_⟩⟩;unfold eF at hl;have ha:=hfo.a aa aa;have e2:((check g).2.take i).getD n.a.toNat []=(check g).2.getD n.a.toNat []:=by
  rw[TR,TR,al2,if_pos aa]
 refine⟨e2,hpos _ (Tk aa)⟩
theorem yj(w:World)(g:bM)(hg:g.ok w):Calls Tryz.prog 22 #[g.val] w (Dn w (cZ g)):=by
 refine fH Tryz.func22 [.agg [.c (.slice g.base g.l.length g.cap),aC g.out]] ?_;repeat' ((conv=>whnf)<;>first|refine bV ?_|refine ag ?_ ?_<;>intro _)
 refine oD (f:=24) (check g) Tryz.call24 (λρ w' hw=>qE w' g (ae hw λR h=>hg.later h)) (λhne=> ?_) (λhe sv hm hsv=> ?_)
 ·have hq:cZ g=((check g).1,[]):=if_pos hne;rw[hq];repeat' ((conv=>whnf)<;>first|(show @iG _ _ _;refine gJ hne ?_)|refine bV ?_)
  conv=>whnf
  exact Rc (λ_ _ h=>h) rfl hne (λ_=>rfl)
 have hq:cZ g=iJ (check g).2 g.l []:=if_neg (λh=>h he);rw[hq];obtain⟨hl1,Ez,hout,hcl,hin⟩:=gK he;have hsl:sv.l.length=g.l.length:=by rw[<-hcl,<-hm];simp
 repeat' ((conv=>whnf)<;>first|(show pg ..;(refine lD g.l.length rfl rfl (by show 16*_<=_;omega) aa ?_))|refine bV ?_|refine ag ?_ ?_<;>intro _)
 refine Wp.loop (σ:=Nat×List Sp) 2 (λ⟨i,_⟩=>[(6,.os 1 g.l.length),(4,.c sv.val),(24,.c (.slice g.base g.l.length g.cap)),(25,aC g.l.length),(26,aC i)]) (λ⟨_,acc⟩=>[(1,.rows (gz (nD g.l.length acc)) 2 58)]) (λ_=>(aU w).and ((jD sv).past w.heap.size))
  (λ⟨i,acc⟩=>i<=g.l.length/\acc.length=i/\iJ (check g).2 (g.l.drop i) acc=iJ (check g).2 g.l []/\(∀s∈acc,fJ s.1/\fJ s.2)) (λs=>g.l.length-s.1) (0,[]) [] ay (λs=>⟨rfl,rfl⟩) ⟨aae _,rfl,rfl,λs hs=>by simp at hs⟩ ⟨rfl,⟨rfl,rfl,rfl,rfl,rfl,trivial⟩,⟨?_,trivial⟩,λ_ _ h=>h⟩ ?_
 ·have:gz (nD g.l.length [])=List.replicate g.l.length [Value.int .i64 0,.int .i64 0]:=by simp[gz,nD]
  show(1,b_.rows (gz (nD g.l.length [])) 2 58)∈_;rw[this];exact aj
 rintro⟨i,acc⟩ ⟨hi,hal,hsp,hab⟩;by_cases hlt:i<g.l.length
 ·obtain⟨a,ha⟩:∃a,g.base=some a:=aT (j:=i) hg.rows ko;have hnm:=aby hlt;obtain⟨s,hs,hni⟩:=hin i g.l[i] (YL hlt);have hdrop:g.l.drop i=g.l[i]::g.l.drop (i+1):=ahc hlt;rw[hdrop]at hsp;have hrow:=fP hlt;have hpi:=yl he (YL hlt);generalize g.l[i]=n at*;have hn:=hg.each n hnm;obtain⟨⟨ha0,akK,hai⟩,⟨hb0,alB,hbi⟩,cnt,hcnt,hpl⟩:=hpi;have e1:(check g).2.getD i []=s:=by rw[TR,hs];rfl
  rw[e1]at hcnt hpl;obtain⟨u,hu,iL⟩:∃u,sv.l[i]? =some u/\u.xs=s:=by
   rw[<-hm,ab5]at hs;cases hu:sv.l[i]? with
   |none=>rw[hu]at hs;simp at hs
   |some u=>rw[hu]at hs;exact⟨u,rfl,by simpa using hs⟩
  obtain⟨t,ht,hts⟩:∃t,sv.l[n.a.toNat]? =some t/\t.xs=(check g).2.getD n.a.toNat []:=by
   have hlt2:n.a.toNat<sv.l.length:=by omega
   refine⟨sv.l[n.a.toNat],YL hlt2,?_⟩;rw[<-hm,TR,ab5,YL hlt2];rfl
  have htm:t∈sv.l:=adu ht;have ak2:au u.xs=cnt:=by rw[iL];exact hcnt
  rw[<-hts]at hpl;have hEq:jm (check g).2 n acc=jw n cnt t.xs (acc.getD n.a.toNat (0,0)) (acc.getD n.b.toNat (0,0)):=by
   unfold jm;rw[hal,e1,hcnt,hts];rfl
  have hA2:=acg hab n.a.toNat;have hB2:=acg hab n.b.toNat;have hEL:=I7 hpl (acc.getD n.a.toNat (0,0)) (acc.getD n.b.toNat (0,0));have gA:=Ad (n:=g.l.length) (acc:=acc) (j:=n.a.toNat) aa aa;have gB:=Ad (n:=g.l.length) (acc:=acc) (j:=n.b.toNat) aa aa;repeat' ((conv=>whnf)<;>first|refine pR ?_|refine A_ ?_|(show aJ _ 50 ..;refine aR (f:=50) Tryz.call50 (kz n (inA n t) (fnA n t cnt) cnt) (λρ w' hw=>agj w' n sv (ae hw λR h=>zy hsv aa h.2) i u t cnt hu ht ha0 ak2) ?_)|(show eP ..;(first|refine bY n.a.toNat aa aa FC ?_|refine bY n.b.toNat aa aa FC ?_))|(show G9 ..;(first|refine I_ _ _ gA rfl rfl ?_|refine I_ _ _ gB rfl rfl ?_))|(show cO _ 9 ..;refine mV [] _ alh ?_)|(show aJ _ 51 ..;refine jU Tryz.call51 (λx:ax×Bool=>x.1.val) ajC (λx=>x.1.xs=jw n cnt t.xs (acc.getD n.a.toNat (0,0)) (acc.getD n.b.toNat (0,0))/\x.1.bF/\(x.2=true->x.1=n.data)) (λρ w' hw=>afm w' n _ s t cnt hpl (ae hw λR h=>hn.later h.1) (ae hw λR h=>(zy hsv aa h.2).each t htm) (acc.getD n.a.toNat (0,0)) (acc.getD n.b.toNat (0,0)) hA2 hB2) (λx hx=> ?_))|refine bV ?_|refine ag ?_ ?_<;>intro _)
  all_goals
   obtain⟨hx1,hx2,hx3⟩:=hx;rw[<-hx1]at hEL;by_cases hr:foldI min x.1.xs< -1048576\/1048576<foldI max x.1.xs
   ·have hq2:iJ (check g).2 (n::g.l.drop (i+1)) acc=(5,[]):=by simp only[iJ];rw[hEq,<-hx1,if_pos hr]
    rw[hq2]at hsp;rw[<-hsp];repeat' ((conv=>whnf)<;>first|refine Nt ?_|refine Po ?_|refine Pt ?_|refine Nz ?_|(show dH ..;refine BC hal hlt ?_)|(show rQ ..;refine row_of _ _ (VS hal hlt) rfl ?_)|refine bV ?_|refine ag ?_ ?_<;>intro _)
    all_goals(conv=>whnf)
    all_goals first|omega|exact Rc (λ_ _ h=>h.1.1) rfl ay (λ_=>rfl)
   ·have hq2:iJ (check g).2 (n::g.l.drop (i+1)) acc=iJ (check g).2 (g.l.drop (i+1)) (acc++[(foldI min x.1.xs,foldI max x.1.xs)]):=by
     conv=>lhs;unfold iJ
     rw[hEq,<-hx1,if_neg hr]
    rw[hq2]at hsp;have hle:=XT hEL;repeat' ((conv=>whnf)<;>first|refine Nt ?_|refine Po ?_|refine Pt ?_|refine Nz ?_|(show dH ..;refine BC hal hlt ?_)|(show rQ ..;refine row_of _ _ (VS hal hlt) rfl ?_)|refine bV ?_|refine ag ?_ ?_<;>intro _)
    all_goals(conv=>whnf)
    all_goals exact⟨(i+1,acc++[(foldI min x.1.xs,foldI max x.1.xs)]),[],⟨hlt,by rw[adx,hal];rfl,hsp,λs hs=>by
     rcases aeh.1 hs with h|h
     ·exact hab s h
     ·simp at h;subst h;unfold fJ;omega⟩,by simp only;omega,rfl,⟨rfl,rfl,rfl,rfl,rfl,trivial⟩,⟨aj,trivial⟩,λ_ _ h=>h.1⟩
 ·obtain rfl:i=g.l.length:=by omega
  rw[akY]at hsp;repeat' ((conv=>whnf)<;>first|refine bV ?_|refine ag ?_ ?_<;>intro _)
  conv=>whnf
  have hgr:nD g.l.length acc=acc:=by unfold nD;rw[hal,aiH];simp
  exact aar (l:=nD g.l.length acc) (λ_ _ h=>h.1) rfl aj (by rw[hgr,hal]) (by rw[hgr,<-hsp];rfl)
section
def DR(w:World)(r:Int×List Int)(e:Ending)(w':World):Prop:=
 (r.1≠0/\e= .returned (.tuple #[.slice none 0 0,.int .i64 r.1])/\Ext w w')\/(r.1=0/\∃x:ax,(x.xs=r.2/\x.bF)/\e= .returned (.tuple #[x.val,.int .i64 0])/\Ext w w'/\(bX x).holds (λb=>w.heap.size<=b/\b<w'.heap.size) w')
variable {B:Base} {v:SV} {H:Heap} {S:bR} {nx:Nat} {w:World} {r:Int×List Int}
theorem abU(hb:∀R w',S.holds R w'->(aU B.w0).holds R w')(hw0:B.w0=w)(hn:r.1≠0)(hv:∀ρ,v.rf ρ= .tuple #[.slice none 0 0,.int .i64 r.1]):jS B v H S nx (DR w r):=by
 subst hw0;exact dK λρ w' hw=> .inl ⟨hn,by rw[hv],bG hw hb⟩
variable {x:ax}
theorem aeV(hb:∀R w',S.holds R w'->(aU B.w0).holds R w')(hw0:B.w0=w)(hs:x.bF)(hr:r=(0,x.xs))(hD:∀R w',S.holds R w'->((bX x).past B.w0.heap.size).holds R w'):jS B (.xg [.c x.val,aC 0]) H S nx (DR w r):=by
 subst hw0 hr;exact dK λρ w' hw=> .inr ⟨rfl,x,⟨rfl,hs⟩,rfl,bG hw hb,lW hw hD⟩
variable {r':Int×List (List Int)}
theorem Jn{X:Int×List Int}(hb:∀R w',S.holds R w'->(aU B.w0).holds R w')(hw0:B.w0=w)(hr:r'=(12,[]))(hv:∀ρ,v.rf ρ= .tuple #[.slice none 0 0,.int .i64 12]):jS B v H S nx (DR w (if r'.1≠0 then(r'.1,[])else X)):=by
 subst hr;have e:(if((12:Int),([]:List (List Int))).1≠0 then(((12:Int),([]:List (List Int))).1,([]:List Int))else X)=(12,[]):=if_pos (show(12:Int)≠0 by decide);rw[e];exact abU hb hw0 (show(12:Int)≠0 by decide) hv
theorem aee{k:Nat}{L:List (List Int)}(hb:∀R w',S.holds R w'->(aU B.w0).holds R w')(hw0:B.w0=w)(hs:x.bF)(hr:r'=(0,L))(hx:L.getD k []=x.xs)(hD:∀R w',S.holds R w'->((bX x).past B.w0.heap.size).holds R w'):jS B (.xg [.c x.val,aC 0]) H S nx (DR w (if r'.1≠0 then(r'.1,[])else(0,r'.2.getD k []))):=by
 subst hr;have e:(if((0:Int),L).1≠0 then(((0:Int),L).1,([]:List Int))else(0,((0:Int),L).2.getD k []))=(0,L.getD k []):=if_neg (show¬(0:Int)≠0 by decide);rw[e,hx];exact aeV hb hw0 hs rfl hD
theorem wZ{cx:Cx}{f:FuncId}{args:List SV}{K:SV->Heap->bR->Nat->Prop}(r:Int×List Sp)(hf:∀ar w,(callFunc f ar).run cx.P w= .ok (.enter f ar) w)
 (hc:∀ρ w',dO cx.B ρ nx H S w'->Calls cx.P f (SV.dW ρ args).toArray w' (Dn w' r))
 (h0:r.1≠0->K (.c (.tuple #[.slice none 0 0,.int .i64 r.1])) H S nx)
 (h1:r.1=0->∀base cap,K (.c (.tuple #[.slice base r.2.length cap,.int .i64 0])) H (S.and ((f_ base 2 (gz r.2)).past cx.B.w0.heap.size)) nx):aJ cx f args H S nx K:=by
 rw[fZ];refine⟨hf,λρ w hw=>(hc ρ w hw).mono ?_⟩;rintro e w' (⟨hr,rfl,he⟩|⟨hr,v,rfl,he,hn⟩)
 ·exact⟨.c (.tuple #[.slice none 0 0,.int .i64 r.1]),ρ,H,S,nx,rfl,λ_ _=>rfl,Tw _,SV.iW _,hw.ext he,h0 hr⟩
 ·obtain⟨base,cap,e1,hD⟩:=ig hn;rw[jg]at e1;subst e1;exact⟨.c (.tuple #[.slice base r.2.length cap,.int .i64 0]),ρ,H,_,nx,rfl,λ_ _=>rfl,Tw _,SV.iW _,hw.grow he hD,h1 hr base cap⟩
theorem abG{N:Nat}{l:List ax}{R:Nat->Prop}(hs:∀u∈l,u.bF)(h:(rT N l).holds R w)(k:Nat):(l.getD k cK).ok w:=by
 rcases ack k l.length with hk|hk
 ·rw[TR,YL hk];exact dw (hs _ (aby hk)) ((bX _).mono (h _ (aby hk)) (λb hb=>hb.1))
 ·rw[TR,aiQ hk];exact dw iC (dI R w)
theorem zl(l:List ax)(k:Nat):(l.getD k cK).xs=(l.map ax.xs).getD k []:=by
 rcases ack k l.length with hk|hk
 ·simp[TR,hk]
 ·simp[TR,hk,cK]
end
section
abbrev ak1:DT:=(bS [0,1,2,3,4,5,6,7,8,9,10,11,12,113,14,115] .done)
abbrev al4:DT:=(bS [0,1,2,6] (.alt 3 (.alt 4 (.alt 5 (.alt 7 (bS [108,109,10] .done) (.one 8 (.alt 7 (bS [109,10] .done) (bS [109,107,10] .done)))) (bS [107,105,108,109,10] .done)) (bS [107,104,105,108,109,10] .done)) (bS [107,103,104,105,108,109,10] .done)))
def gy(sh:List (List Int))(n:ak)(known:List (List Int)):List Int:=gH n (au (sh.getD known.length [])).toNat (sh.getD n.a.toNat []) (known.getD n.a.toNat []) (known.getD n.b.toNat [])
def d9(sh:List (List Int)):List ak->List (List Int)->List (List Int)->Int×List (List Int)
 |[],known,inp=>if 0<inp.length then(12,[])else(0,known)
 |n::r,known,inp=>
  if n.ai≠1 then d9 sh r (known++[gy sh n known]) inp
  else match inp with
   |[]=>(12,[])
   |x::xs=>if(x.length:Int)≠au (sh.getD known.length [])\/foldI min x<n.lo\/n.hi<foldI max x then(12,[])else d9 sh r (known++[x]) xs
def pE(g:bM)(inp:List (List Int)):Int×List (List Int):=d9 (check g).2 g.l [] inp
def Je(g:bM)(inp:List (List Int)):Int×List Int:=
 if(cZ g).1≠0 then((cZ g).1,[])else if(pE g inp).1≠0 then((pE g inp).1,[])else(0,(pE g inp).2.getD g.out.toNat [])
def r9(sh:List (List Int))(n:ak)(acc:List Sp):Sp:=rq (jm sh n acc)
theorem Rl{sh:List (List Int)}:∀{l:List ak} {acc S:List Sp},iJ sh l acc=(0,S)->∃q,S=acc++q/\q.length=l.length/\∀i n,l[i]? =some n->∃s,q[i]? =some s/\s=r9 sh n (acc++q.take i)/\ -1048576<=s.1/\s.2<=1048576
 |[],acc,S,h=>by
  obtain rfl:acc=S:=by simpa[iJ]using h
  exact⟨[],by simp,rfl,λi n hn=>by simp at hn⟩
 |m::r,acc,S,h=>by
  by_cases hr:(r9 sh m acc).1< -1048576\/1048576<(r9 sh m acc).2
  ·have:iJ sh (m::r) acc=(5,[]):=if_pos hr;rw[this]at h;simp at h
  ·have:iJ sh (m::r) acc=iJ sh r (acc++[r9 sh m acc]):=if_neg hr;rw[this]at h;obtain⟨q,hq,hl,ha⟩:=Rl h;refine⟨r9 sh m acc::q,by rw[hq,ahZ];rfl,by simp[hl],λi n hin=> ?_⟩;cases i with
   |zero=>
    simp only[amO,Option.some.injEq]at hin;subst hin;exact⟨_,rfl,by simp,by omega,by omega⟩
   |succ i=>
    simp only[ane]at hin;obtain⟨t,h1,h2,h3⟩:=ha i n hin;refine⟨t,by simpa using h1,?_,h3⟩;rw[List.take_succ_cons,show acc++r9 sh m acc::q.take i=acc++[r9 sh m acc]++q.take i by simp];exact h2
variable {g:bM}
theorem jC(h:(cZ g).1=0):(check g).1=0/\(cZ g).2.length=g.l.length/\∀i n,g.l[i]? =some n->∃s,(cZ g).2[i]? =some s/\s=r9 (check g).2 n ((cZ g).2.take i)/\ -1048576<=s.1/\s.2<=1048576:=by
 unfold cZ at h|-
 by_cases hc:(check g).1≠0
 ·rw[if_pos hc]at h;exact absurd h hc
 ·rw[if_neg hc]at h|-
  obtain⟨q,hq,hl,ha⟩:=Rl (l:=g.l) (acc:=[]) (S:=(iJ (check g).2 g.l []).2) (Prod.ext h rfl);rw[akg]at hq;rw[hq];exact⟨by omega,hl,λi n hn=>by simpa using ha i n hn⟩
structure Gc(g:bM)(kn:List ax)(i:Nat):Prop where
 len:kn.length=i
 bF:∀u∈kn,u.bF
 each:∀(j:Nat) (u:ax) (s:Sp) (q:List Int),kn[j]? =some u->(cZ g).2[j]? =some s->(check g).2[j]? =some q->within s u.xs/\(u.xs.length:Int)=au q
variable {kn:List ax} {i:Nat}
theorem ow(hsp:(cZ g).1=0)(hkn:Gc g kn i)(hi:i<=g.l.length)(k:Nat):within (((cZ g).2.take i).getD k (0,0)) (kn.getD k cK).xs/\(∀x∈(kn.getD k cK).xs,fJ x)/\(k<i->((kn.getD k cK).xs.length:Int)=au (((check g).2.take i).getD k [])):=by
 obtain⟨hck,hsl,hsi⟩:=jC hsp;obtain⟨hl1,Ez,hout,hcl,hin⟩:=gK hck;have hkl:=hkn.len;rcases ack k i with hk|hk
 ·have hkg:k<g.l.length:=by omega
  obtain⟨p,hp,_,hp1,hp2⟩:=hsi k g.l[k] (YL hkg);obtain⟨s,hs,_⟩:=hin k g.l[k] (YL hkg);have hk':k<kn.length:=by omega
  obtain⟨h1,h2⟩:=hkn.each k kn[k] p s (YL hk') hp hs;have e1:kn.getD k cK=kn[k]:=by rw[TR,YL hk'];rfl
  have e2:((cZ g).2.take i).getD k (0,0)=p:=by rw[TR,al2,if_pos hk,hp];rfl
  have e3:((check g).2.take i).getD k []=s:=by rw[TR,al2,if_pos hk,hs];rfl
  rw[e1,e2,e3];exact⟨h1,λx hx=>by have:=h1 x hx;unfold fJ;omega,λ_=>h2⟩
 ·have e1:kn.getD k cK=cK:=by rw[TR,aiQ aa];rfl
  rw[e1];exact⟨λx hx=>by simp[cK]at hx,λx hx=>by simp[cK]at hx,λh=>by omega⟩
theorem abo{n:ak}(hsp:(cZ g).1=0)(hkn:Gc g kn i)(hi:i<=g.l.length)(hf:Ac n i):NumIn n ((check g).2.take i) (kn.getD n.a.toNat cK).xs (kn.getD n.b.toNat cK).xs:=
 ⟨λk1 k2=>(ow hsp hkn hi n.a.toNat).2.2 (by have:=hf.a k1 k2;omega),λk6=>(ow hsp hkn hi n.b.toNat).2.2 (by have:=hf.b k6;omega)⟩
theorem xI{x:ax}{s:List Int}{p:Sp}(hkn:Gc g kn i)(hx:x.bF)(hp:(cZ g).2[i]? =some p)(hs:(check g).2[i]? =some s)(hw:within p x.xs)(hl:(x.xs.length:Int)=au s):Gc g (kn++[x]) (i+1):=by
 have hkl:=hkn.len;refine⟨by rw[adx,hkl];rfl,λu hu=> ?_,λj u p' q hu hp' hq=> ?_⟩
 ·rcases aeh.1 hu with h|h
  ·exact hkn.bF u h
  ·simp at h;subst h;exact hx
 ·rcases ack j i with hj|hj
  ·rw[ag9 aa]at hu;exact hkn.each j u p' q hu hp' hq
  ·rw[ahg aa]at hu;have h0:j-kn.length=0:=by
    rcases amm (j-kn.length)with h|h
    ·exact h
    ·rw[aiQ fK]at hu;cases hu
   rw[h0]at hu;simp only[amO,Option.some.injEq]at hu;subst hu;obtain rfl:j=i:=by omega
   rw[hp]at hp';rw[hs]at hq;simp only[Option.some.injEq]at hp' hq;subst hp' hq;exact⟨hw,hl⟩
theorem ab7(w:World)(g:bM)(hg:g.ok w)(iv:aY)(hiv:InV.ok w iv):Calls Tryz.prog 110 #[g.val,iv.val] w (DR w (Je g (iv.l.map ax.xs))):=by
 have apk:=hiv.few;refine fH Tryz.func110 [.agg [.c (.slice g.base g.l.length g.cap),aC g.out],.c iv.val] ?_;repeat' ((conv=>whnf)<;>first|refine bV ?_|refine ag ?_ ?_<;>intro _)
 refine wZ (f:=22) (cZ g) Tryz.call22 (λρ w' hw=>yj w' g (ae hw λR h=>hg.later h)) (λhne=> ?_) (λhsp base cap=> ?_)
 ·have hq:Je g (iv.l.map ax.xs)=((cZ g).1,[]):=if_pos hne;rw[hq];repeat' ((conv=>whnf)<;>first|(show @iG _ _ _;refine gJ hne ?_)|refine bV ?_)
  conv=>whnf
  exact abU (λ_ _ h=>h) rfl hne (λ_=>rfl)
 have hq:Je g (iv.l.map ax.xs)=if(pE g (iv.l.map ax.xs)).1≠0 then((pE g (iv.l.map ax.xs)).1,[])else(0,(pE g (iv.l.map ax.xs)).2.getD g.out.toNat []):=if_neg (λh=>h hsp)
 rw[hq];obtain⟨hck,hsl,hsi⟩:=jC hsp;obtain⟨hl1,Ez,hout,hcl,hin⟩:=gK hck;repeat' ((conv=>whnf)<;>first|refine bV ?_|refine ag ?_ ?_<;>intro _)
 refine oD (f:=24) (check g) Tryz.call24 (λρ w' hw=>qE w' g (ae hw λR h=>hg.later h.1)) (λhne=>absurd hck hne) (λ_ sv hm hsv=> ?_);have apM:sv.l.length=g.l.length:=by rw[<-hcl,<-hm];simp
 repeat' ((conv=>whnf)<;>first|(show pg ..;(refine lD g.l.length rfl rfl Fv aa ?_))|refine bV ?_)
 refine Wp.loop (σ:=Nat×List ax×aY) 2 (λ⟨i,_,cur⟩=>[(2,.lp 0 0 0 0),(1,.c cur.val),(8,.c sv.val),(10,.os 1 g.l.length),(32,.c (.slice g.base g.l.length g.cap)),(33,aC g.l.length),(34,aC i)]) (λ⟨_,kn,_⟩=>[(1,.rows (bA (xO g.l.length kn)) 1 32),(0,.box [.c (.slice g.base g.l.length g.cap),aC g.out] 24)]) (λ⟨_,kn,_⟩=>((aU w).and ((jD sv).past w.heap.size)).and (rT w.heap.size kn))
  (λ⟨i,kn,cur⟩=>i<=g.l.length/\Gc g kn i/\InV.ok w cur/\d9 (check g).2 (g.l.drop i) (kn.map ax.xs) (cur.l.map ax.xs)=pE g (iv.l.map ax.xs)) (λs=>g.l.length-s.1) (0,[],iv) [] ay (λs=>⟨rfl,rfl⟩) ⟨aae _,⟨rfl,λu hu=>by simp at hu,λj u s q hu=>by simp at hu⟩,hiv,rfl⟩ ⟨rfl,⟨rfl,rfl,rfl,rfl,rfl,rfl,rfl,trivial⟩,⟨?_,aj,trivial⟩,λR w h=>⟨⟨h.1.1,h.2⟩,yD _ R w⟩⟩ ?_
 ·have:bA (xO g.l.length [])=List.replicate g.l.length [Value.slice none 0 0]:=by simp[bA,xO];exact .inr rfl
  show(1,b_.rows (bA (xO g.l.length [])) 1 32)∈_;rw[this];exact aj
 rintro⟨i,kn,cur⟩ ⟨hi,hkn,Kj,hv⟩;have hkl:=hkn.len;have hcf:=Kj.few;by_cases hlt:i<g.l.length
 ·obtain⟨a,ha⟩:∃a,g.base=some a:=aT (j:=i) hg.rows ko;have hnm:=aby hlt;obtain⟨s,hs,hni⟩:=hin i g.l[i] (YL hlt);obtain⟨p,hp,hpe,hp1,hp2⟩:=hsi i g.l[i] (YL hlt);have hdrop:g.l.drop i=g.l[i]::g.l.drop (i+1):=ahc hlt;rw[hdrop]at hv;have hrow:=fP hlt;have hpi:=yl hck (YL hlt);generalize g.l[i]=n at*;have hn:=hg.each n hnm;obtain⟨⟨ha0,akK,hai⟩,⟨hb0,alB,hbi⟩,cnt,HY,hpl⟩:=hpi;have e1:(check g).2.getD i []=s:=by rw[TR,hs];rfl
  rw[e1]at HY hpl;have hti:((check g).2.take i).length=i:=by rw[aek,hcl];omega
  have hform:=hni.form;rw[hti]at hform;have aea:(kn.map ax.xs).length=i:=by rw[aas,hkl]
  obtain⟨t,ht,hts⟩:∃t,sv.l[n.a.toNat]? =some t/\t.xs=(check g).2.getD n.a.toNat []:=by
   have hlt2:n.a.toNat<sv.l.length:=by omega
   refine⟨sv.l[n.a.toNat],YL hlt2,?_⟩;rw[<-hm,TR,ab5,YL hlt2];rfl
  have htm:t∈sv.l:=adu ht;rw[<-hts]at hpl;obtain⟨u,hu,iL⟩:∃u,sv.l[i]? =some u/\u.xs=s:=by
   have hs':=hs;rw[<-hm,ab5]at hs';cases hu:sv.l[i]? with
   |none=>rw[hu]at hs';simp at hs'
   |some u=>rw[hu]at hs';exact⟨u,rfl,by simpa using hs'⟩
  have hcnt:au u.xs=cnt:=by rw[iL];exact HY
  have hcb:=(dN u.xs).2;have hat:∀w',sv.ok w'->Calls Tryz.prog 50 #[n.p9,sv.val,.int .i64 i] w' (λe w''=>e= .returned (kz n (inA n t) (fnA n t cnt) cnt)/\Ext w' w''):=λw' h=>agj w' n sv h i u t cnt hu ht ha0 hcnt;have hnm:n.ai≠1->∀w',n.ok w'->t.ok w'->∀a b:ax,a.ok w'->b.ok w'->(∀x∈a.xs,fJ x)->(∀x∈b.xs,fJ x)->NumIn n ((check g).2.take i) a.xs b.xs->Calls Tryz.prog 146 #[kz n (inA n t) (fnA n t cnt) cnt,a.val,b.val] w' (DJ w' (gH n cnt t.xs a.xs b.xs)):=λhk1 w' h1 h2 a b h3 h4 h5 h6 h7=>ae1 w' n _ s t cnt hpl hk1 h1 h2 a b h3 h4 h5 h6 h7;obtain⟨ib,il,ic,hinv⟩:=adb n t;have hfn:=agV n t cnt;rw[hinv]at hat hnm;by_cases hk1:n.ai=1
  ·have hf0:fnA n t cnt= .nilFunc:=if_neg jF;rw[hf0]at hat;obtain⟨cb,cc,cl⟩:=cur;cases cl with
   |nil=>
    have hv1:d9 (check g).2 (n::g.l.drop (i+1)) (kn.map ax.xs) []=(12,[]):=by
     conv=>lhs;unfold d9
     rw[if_neg (λh=>h hk1)]
    have hv2:pE g (iv.l.map ax.xs)=(12,[]):=by rw[<-hv];exact hv1
    repeat' ((conv=>whnf)<;>first|(show @iG _ _ _;refine gJ rfl ?_)|refine pR ?_|refine Ae ?_|refine zF ?_|refine bV ?_|refine ag ?_ ?_<;>intro _)
    all_goals(conv=>whnf)
    all_goals exact Jn (λ_ _ h=>h.1.1) rfl hv2 (λ_=>rfl)
   |cons x xs=>
    obtain⟨ca,hca⟩:∃a,cb=some a:=aT (j:=0) Kj.rows (by show 0<(bA (x::xs)).length;rw[acN];exact Nat.succ_pos _);subst hca;have ae3:x.ok w:=Kj.each x YV;have hcs:au s=cnt:=by rw[<-iL];exact hcnt
    have hroom:=Kj.room;have hxl:xs.length+1<=cc:=hroom;have hne0:¬((({base:=some ca,cap:=cc,l:=x::xs}:aY).l.length:Nat):Int)=0:=by show¬((xs.length+1:Nat):Int)=0;omega
    have hpos:1<=cnt:=by
     have hso:=hni.az;unfold bP at hso;rw[if_pos (.inl hk1),Option.some.injEq]at hso;have:=(dJ hform).own (.inl hk1);rw[hso]at this;omega
    by_cases hbad:(x.xs.length:Int)≠au s\/foldI min x.xs<n.lo\/n.hi<foldI max x.xs
    ·have hv1:d9 (check g).2 (n::g.l.drop (i+1)) (kn.map ax.xs) (x.xs::xs.map ax.xs)=(12,[]):=by
      conv=>lhs;unfold d9
      rw[if_neg (λh=>h hk1)];simp only;rw[aea,e1,if_pos hbad]
     have hv2:pE g (iv.l.map ax.xs)=(12,[]):=by rw[<-hv];exact hv1
     rw[hcs]at hbad;repeat' ((conv=>whnf)<;>first|(show @iG _ _ _;refine jc hne0 ?_)|(show dn ..;(first|refine aM a i ha rfl hlt ?_|refine aM ca 0 rfl rfl aa ?_))|refine Ae ?_|(show gZ ..;refine bN (λR w' h=>aH h.1.1 Kj.rows) _ _ (j:=0) rfl rfl ?_)|refine zF ?_|refine Oq ?_|refine M6 ?_|refine bV ?_|refine ag ?_ ?_<;>intro _)
     all_goals(conv=>whnf)
     all_goals first|(exfalso;omega)|exact Jn (λ_ _ h=>h.1.1) rfl hv2 (λ_=>rfl)
    ·have hv1:d9 (check g).2 (n::g.l.drop (i+1)) (kn.map ax.xs) (x.xs::xs.map ax.xs)=d9 (check g).2 (g.l.drop (i+1)) (kn.map ax.xs++[x.xs]) (xs.map ax.xs):=by
      conv=>lhs;unfold d9
      rw[if_neg (λh=>h hk1)];simp only;rw[aea,e1,if_neg hbad]
     have hv2:=hv1.symm.trans hv;rw[hcs]at hbad;have hwi:within p x.xs:=by
      rw[hpe];have hL:jm (check g).2 n ((cZ g).2.take i)=[n.lo,n.hi]:=by
       unfold jm jw;rw[if_neg jF];exact if_pos hk1
      unfold r9 rq;rw[hL];intro z hz;have m1:foldI min [n.lo,n.hi]=min n.lo n.hi:=rfl;have m2:foldI max [n.lo,n.hi]=max n.lo n.hi:=rfl;have:=kI hz;have:=kK hz;simp only[m1,m2];omega
     repeat' ((conv=>whnf)<;>first|(show @iG _ _ _;refine jc hne0 ?_)|(show dn ..;(first|refine aM a i ha rfl hlt ?_|refine aM ca 0 rfl rfl aa ?_))|refine Ae ?_|(show gZ ..;refine bN (λR w' h=>aH h.1.1 Kj.rows) _ _ (j:=0) rfl rfl ?_)|(show eP ..;(refine bY i rfl hlt wM ?_))|refine zF ?_|refine Oq ?_|refine M6 ?_|(show cO _ 14 ..;refine mV [] [] al4 ?_ (h6:=amG _))|refine eU ?_|(show aJ _ 32 ..;refine Qj x.xs Tryz.call32 ae3.fits ae3.few (λρ w' hw=>Du w' x (ae hw λR h=>ae3.later h.1.1) aa) (λy hy hys=> ?_))|(show ny ..;refine ZW aa aa ?_)|(show dH ..;refine KU hkl hlt ?_)|refine bV ?_|refine ag ?_ ?_<;>intro _|refine And.intro ?_ ?_)
     all_goals(conv=>whnf)
     all_goals exact⟨(i+1,kn++[y],⟨some (if cc=1 then ca else ca.add 1),cc-1,xs⟩),[],⟨hlt,xI hkn hys hp hs (by rw[hy];exact hwi) (by rw[hy,hcs];omega),InV.ahW Kj rfl,by rw[afn,afY,aiK,hy];exact hv2⟩,by simp only;omega,rfl,fE,fE,λR w' h=>⟨h.1.1,mR h.1.2 h.2⟩⟩
  ·have hv1:d9 (check g).2 (n::g.l.drop (i+1)) (kn.map ax.xs) (cur.l.map ax.xs)=d9 (check g).2 (g.l.drop (i+1)) (kn.map ax.xs++[gH n cnt t.xs (kn.getD n.a.toNat cK).xs (kn.getD n.b.toNat cK).xs]) (cur.l.map ax.xs):=by
    conv=>lhs;unfold d9
    unfold gy;rw[if_pos hk1,zl,zl,aea,e1,HY,hts];rfl
   rw[hv1]at hv;have hcs:au s=cnt:=by rw[<-iL];exact hcnt
   have kA:=ow hsp hkn aa n.a.toNat;have kB:=ow hsp hkn aa n.b.toNat;have acA:=abo hsp hkn aa (dJ hform);have hwn:=Ul hpl hk1 acA kA.1 kB.1;have hEq:jm (check g).2 n ((cZ g).2.take i)=jw n cnt t.xs (((cZ g).2.take i).getD n.a.toNat (0,0)) (((cZ g).2.take i).getD n.b.toNat (0,0)):=by
    unfold jm;rw[show((cZ g).2.take i).length=i by rw[aek,hsl];omega,e1,HY,hts];rfl
   have gA:=AZ (n:=g.l.length) (l:=kn) (j:=n.a.toNat) aa aa;have gB:=AZ (n:=g.l.length) (l:=kn) (j:=n.b.toNat) aa aa;rcases hfn with hf0|⟨f1,f2,f3,hf0⟩
   all_goals rw[hf0]at hat hnm
   all_goals
    repeat' ((conv=>whnf)<;>first|refine pR ?_|refine Ae ?_|refine zF ?_|(show eP ..;(first|refine bY n.a.toNat aa aa wM ?_|refine bY n.b.toNat aa aa wM ?_|refine bY i rfl hlt wM ?_))|(show rQ ..;(first|refine row_of _ _ gA rfl ?_|refine row_of _ _ gB rfl ?_))|refine eU ?_|(show aJ _ 146 ..;refine jU Tryz.call146 ax.val bX (λx=>x.xs=gH n cnt t.xs (kn.getD n.a.toNat cK).xs (kn.getD n.b.toNat cK).xs/\x.bF) (λρ w' hw=>hnm hk1 w' (ae hw λR h=>hn.later h.1.1) (ae hw λR h=>(zy hsv aa h.1.2).each t htm) (kn.getD n.a.toNat cK) (kn.getD n.b.toNat cK) (ae hw λR h=>abG hkn.bF h.2 _) (ae hw λR h=>abG hkn.bF h.2 _) kA.2.1 kB.2.1 acA) (λx hx=> ?_))|(show dH ..;refine KU hkl hlt ?_)|(show cO _ 11 ..;refine mV [15] _ ak1 ?_)|refine bV ?_|refine ag ?_ ?_<;>intro _)
    all_goals(conv=>whnf)
    all_goals exact⟨(i+1,kn++[x],cur),[],⟨hlt,xI hkn hx.2 hp hs ao9 (by rw[hx.1,hcs,hwn.2]),Kj,by rw[afn,afY,aiK,hx.1];exact hv⟩,by simp only;omega,rfl,fE,fE,λR w' h=>⟨h.1.1,mR h.1.2 h.2⟩⟩
 ·obtain rfl:i=g.l.length:=by omega
  rw[akY]at hv;have hgO:=AZ (n:=g.l.length) (l:=kn) (j:=g.out.toNat) aa aa;by_cases hrest:0<cur.l.length
  ·have hv2:pE g (iv.l.map ax.xs)=(12,[]):=by
    rw[<-hv];conv=>lhs;unfold d9
    rw[if_pos (by simpa using hrest)]
   repeat' ((conv=>whnf)<;>first|refine bV ?_|refine ag ?_ ?_<;>intro _)
   conv=>whnf
   exact Jn (λ_ _ h=>h.1.1) rfl hv2 (λ_=>rfl)
  ·have hv2:pE g (iv.l.map ax.xs)=(0,kn.map ax.xs):=by
    rw[<-hv];conv=>lhs;unfold d9
    rw[if_neg (by simpa using hrest)]
   repeat' ((conv=>whnf)<;>first|(show eP ..;(refine bY g.out.toNat aa aa wM ?_))|(show rQ ..;refine row_of _ _ hgO rfl ?_)|refine bV ?_|refine ag ?_ ?_<;>intro _)
   conv=>whnf
   have hko:g.out.toNat<kn.length:=by omega
   have hge:kn.getD g.out.toNat cK=kn[g.out.toNat]:=by rw[TR,YL hko];rfl
   exact aee (λ_ _ h=>h.1.1) rfl (by rw[hge];exact hkn.bF _ (aby hko)) hv2 (zl _ _).symm (λR w' h=>by rw[hge];exact h.2 _ (aby hko))
end
def G8(a b:aN):Bool:=decide (a.ai=b.ai)&&decide (a.a=b.a)&&decide (a.b=b.b)&&decide (a.az=b.az)&&decide (a.lo=b.lo)&&decide (a.hi=b.hi)&&decide (a.size=b.size)&&decide (a.data=b.data)&&decide (a.aQ=b.aQ)
theorem Rb{a b:aN}:G8 a b=true↔a=b:=by
 unfold G8;simp only[afF,decide_eq_true_eq];constructor
 ·rintro⟨⟨⟨⟨⟨⟨⟨⟨h1,h2⟩,h3⟩,h4⟩,h5⟩,h6⟩,h7⟩,h8⟩,h9⟩;cases a;cases b;simp only at*;subst_vars;rfl
 ·rintro rfl;simp
def dh:aN:=⟨0,0,0,[],0,0,0,[],[]⟩
def eX(n:aN):List Int:=if n.ai=1\/n.ai=2 then []else if n.ai=6 then [n.a,n.b]else [n.a]
def bu(st:List Nat)(n:aN):aN:=
 if n.ai=1\/n.ai=2 then n else if n.ai=6 then {n with a:=st.getD n.a.toNat 0,b:=st.getD n.b.toNat 0}else {n with a:=st.getD n.a.toNat 0}
def AL(row:List aN)(k:Int):Bool:=decide ((row.getD k.toNat dh).ai=2)
def jO(row:List aN)(n:aN):Bool:= !decide (n.ai=1\/n.ai=2)&&AL row n.a&&(decide (n.ai≠6)||AL row n.b)
def lm(s:List Int)(row:List aN)(n:aN):List Int:=gH n.toV (au s).toNat (row.getD n.a.toNat dh).az (row.getD n.a.toNat dh).data (if n.ai=6 then(row.getD n.b.toNat dh).data else [])
def kg(s:List Int)(row:List aN)(n:aN):aN:=if jO row n=true then⟨2,0,0,s,0,0,0,lm s row n,[]⟩else n
def Fa(n:aN):List aN->Nat->Option Nat
 |[],_=>none
 |x::r,k=>if G8 x n=true then some k else Fa n r (k+1)
def rU(row:List aN)(n:aN):Option Nat:=if n.ai=1 then none else Fa n row 0
def Bt(row:List aN)(n:aN):List aN×Nat:=match rU row n with|some k=>(row,k)|none=>(row++[n],row.length)
def o8(s:List Int)(x:List aN×List Nat)(n:aN):List aN×List Nat:=
 ((Bt x.1 (kg s x.1 (bu x.2 n))).1,x.2++[(Bt x.1 (kg s x.1 (bu x.2 n))).2])
def rG:List aN->List (List Int)->List aN×List Nat->List aN×List Nat
 |n::r,s::ss,x=>rG r ss (o8 s x n)
 |_,_,x=>x
theorem SQ{n:aN}:∀{row:List aN} {j k:Nat},Fa n row j=some k->j<=k/\row[k-j]? =some n
 |[],_,_,h=>by cases h
 |x::r,j,k,h=>by
  unfold Fa at h;split at h
  ·rename_i hs;simp only[Option.some.injEq]at h;subst h;rw[Rb]at hs;subst hs;simp
  ·obtain⟨h1,h2⟩:=SQ h;refine⟨by omega,?_⟩;have:k-j=(k-(j+1))+1:=by omega
   rw[this,ane];exact h2
theorem zI{row:List aN}{n:aN}{k:Nat}(h:rU row n=some k):n.ai≠1/\row[k]? =some n:=by
 unfold rU at h;split at h
 ·cases h
 ·rename_i hk;exact⟨hk,by simpa using(SQ h).2⟩
def xW(n:ak)(a b:Int):ak:=⟨n.ai,a,b,n.az,n.lo,n.hi,n.size,n.data,n.aQ⟩
theorem y8{n:ak}{i k:Nat}{a b:Int}(h:cz n i=true)(ha:n.ai≠1->n.ai≠2->0<=a/\a<k)(ha2:n.ai=1\/n.ai=2->a=n.a)(hb:n.ai=6->0<=b/\b<k)(hb2:n.ai≠6->b=n.b):cz (xW n a b) k=true:=by
 have hkk:=(dJ h).ai;unfold cz at h|-
 have hk:n.ai=1\/n.ai=2\/n.ai=3\/n.ai=4\/n.ai=5\/n.ai=6\/n.ai=7\/n.ai=8\/n.ai=9:=by omega
 have e1:(xW n a b).ai=n.ai:=rfl;have e2:(xW n a b).az=n.az:=rfl;have e3:(xW n a b).data=n.data:=rfl;have e4:(xW n a b).aQ=n.aQ:=rfl;have e5:(xW n a b).size=n.size:=rfl;have e6:(xW n a b).a=a:=rfl;have e7:(xW n a b).b=b:=rfl;have e8:(xW n a b).lo=n.lo:=rfl;have e9:(xW n a b).hi=n.hi:=rfl;rw[e1];rcases hk with hk|hk|hk|hk|hk|hk|hk|hk|hk
 all_goals repeat(first|rw[if_pos hk]at h|- |rw[if_neg aa]at h|-)
 all_goals simp only[gW,iI,Bool.true_or,Bool.false_or,anE,Bool.and_true,afF,decide_eq_true_eq,e1,e2,e3,e4,e5,e6,e7,e8,e9]at h|-
 ·have:=ha2 aa;have:=hb2 aa;subst_vars;exact h
 ·have:=ha2 aa;have:=hb2 aa;subst_vars;exact h
 all_goals have hA:=ha aa aa
 case inr.inr.inr.inr.inr.inl=>have hB:=hb hk;refine⟨⟨h.1.1,hA⟩,hB⟩
 all_goals(have:=hb2 aa;subst_vars;grind)
theorem wQ{n:ak}{sh sh':List (List Int)}{a b:Int}(hA:n.ai≠1->n.ai≠2->sh'.getD a.toNat []=sh.getD n.a.toNat [])(hB:n.ai=6->sh'.getD b.toNat []=sh.getD n.b.toNat []):bP (xW n a b) sh'=bP n sh:=by
 by_cases h12:n.ai=1\/n.ai=2
 ·unfold bP;have:(xW n a b).ai=1\/(xW n a b).ai=2:=h12;rw[if_pos h12,if_pos this];rfl
 ·have hA:=hA aa aa;unfold bP;have e1:(xW n a b).ai=n.ai:=rfl;have e6:(xW n a b).a=a:=rfl;have e7:(xW n a b).b=b:=rfl;simp only[e1,e6,e7,hA];by_cases h6:n.ai=6
  ·simp only[hB h6];rfl
  ·simp only[if_neg h6];rfl
theorem Da(n:ak)(a b:Int):gP (xW n a b)=gP n:=by unfold gP;rfl
theorem Sv(n:ak)(a b:Int)(cnt:Nat)(t:List Int)(A B:Sp):jw (xW n a b) cnt t A B=jw n cnt t A B:=rfl
theorem SG(n:ak)(a b:Int)(cnt:Nat)(t x y:List Int):gH (xW n a b) cnt t x y=gH n cnt t x y:=rfl
theorem aiq(n:ak)(i:Int):cz n.pl.toV i=cz n i:=by unfold cz gW;rfl
theorem ahJ(n:ak):gP n.pl.toV=gP n:=by unfold gP;rfl
theorem ahB(n:ak)(cnt:Nat)(t x y:List Int):gH n.pl.toV cnt t x y=gH n cnt t x y:=rfl
def tight(a b:Sp):Prop:=b.1<=a.1/\a.2<=b.2
theorem Pb(a:Sp):tight a a:=⟨aem _,aem _⟩
theorem VY{a b c:Sp}(h1:tight a b)(h2:tight b c):tight a c:=⟨aha h2.1 h1.1,aha h1.2 h2.2⟩
theorem ZT{L L':List Int}(h1:1<=L'.length)(h:∀e∈L',foldI min L<=e/\e<=foldI max L):tight (rq L') (rq L):=⟨(h _ (Er h1)).1,(h _ (Ei h1)).2⟩
theorem Xl{d a1 a2 b1 b2:Int}(h1:b1<=a1)(h2:a2<=b2)(h3:a1<=a2):min (d*b1) (d*b2)<=min (d*a1) (d*a2)/\max (d*a1) (d*a2)<=max (d*b1) (d*b2):=by
 rcases(by omega:0<=d\/d<=0)with hd|hd
 ·have:=ai6 h1 hd;have:=ai6 h2 hd;have:=ai6 h3 hd;omega
 ·have:=aoo hd h1;have:=aoo hd h2;have:=aoo hd h3;omega
theorem Si{A B:Sp}(h:tight A B)(h3:A.1<=A.2):∀{l:List Sp} {s1 s2 s3 s4:Int},s1<=s2->s2<=s3->s3<=s4->l.foldl (Qt B) s1<=l.foldl (Qt A) s2/\l.foldl (Qt A) s2<=l.foldl (Qu A) s3/\l.foldl (Qu A) s3<=l.foldl (Qu B) s4
 |[],_,_,_,_,h1,h2,h3=>⟨h1,h2,h3⟩
 |t::r,s1,s2,s3,s4,h1,h2,h4=>by
  simp only[ahb];have:=Xl (d:=t.1) h.1 h.2 h3;exact Si h h3 (by unfold Qt;omega) (by unfold Qt Qu;omega) (by unfold Qu;omega)
theorem OG{A:Sp}{x:Int}(h1:A.1<=x)(h2:x<=A.2):within A [x]:=λy hy=>by
 obtain rfl:y=x:=by simpa using hy
 exact⟨h1,h2⟩
theorem Wl{n:ak}{A A' B B':Sp}(hk:n.ai=6\/n.ai=7\/n.ai=8\/n.ai=9)(hA:tight A' A)(hA2:A'.1<=A'.2)(hB:n.ai=6->tight B' B/\B'.1<=B'.2):∀e∈fA n A' B',foldI min (fA n A B)<=e/\e<=foldI max (fA n A B):=by
 obtain⟨hA,hA'⟩:=hA;have key:∀x,A'.1<=x->x<=A'.2->∀y,(n.ai=6->B'.1<=y/\y<=B'.2)->foldI min (fA n A B)<=gu n [x] (if n.ai=6 then [y]else []) 0/\gu n [x] (if n.ai=6 then [y]else []) 0<=foldI max (fA n A B):=λx h1 h2 y hy=>by
  refine N9 (cnt:=1) aa (λh=>by omega) (λ_=>rfl) (λh=>by rw[if_pos h];rfl) (OG aa aa) ?_ (Nat.zero_lt_one);by_cases h6:n.ai=6
  ·rw[if_pos h6];have:=(hB h6).1;have:=hy h6;exact OG (by unfold tight at*;omega) (by unfold tight at*;omega)
  ·rw[if_neg h6];exactλz hz=>by simp at hz
 intro e he;have hE:∀x y,e=gu n [x] (if n.ai=6 then [y]else []) 0->A'.1<=x->x<=A'.2->(n.ai=6->B'.1<=y/\y<=B'.2)->foldI min (fA n A B)<=e/\e<=foldI max (fA n A B):=λx y h1 h2 h3 h4=>by rw[h1];exact key x h2 h3 y h4
 unfold fA at he;rw[if_neg aa,if_neg aa]at he;rcases hk with hk|hk|hk|hk
 ·have hb:=(hB hk).2;rw[if_pos hk]at he;have hN:∀x y,gu n [x] (if n.ai=6 then [y]else []) 0=x+y:=λx y=>by unfold gu;rw[if_neg aa,if_pos hk,if_pos hk];rfl
  simp only[abr,aiF,or_false]at he;rcases he with he|he
  ·exact hE A'.1 B'.1 AJ (aem _) hA2 (λ_=>⟨aem _,hb⟩)
  ·exact hE A'.2 B'.2 AJ hA2 (aem _) (λ_=>⟨hb,aem _⟩)
 ·rw[if_neg aa,if_pos hk]at he;have hN:∀x y,gu n [x] (if n.ai=6 then [y]else []) 0=x*n.data.xs.getD 0 0:=λx y=>by unfold gu;rw[if_neg aa,if_neg aa,if_pos hk];rfl
  simp only[abr,aiF,or_false]at he;rcases he with he|he
  ·exact hE A'.1 0 (by rw[hN,ajF];exact he) (aem _) hA2 (λh=>by omega)
  ·exact hE A'.2 0 (by rw[hN,ajF];exact he) hA2 (aem _) (λh=>by omega)
 ·rw[if_neg aa,if_neg aa,if_pos hk]at he;have hN:∀x y,gu n [x] (if n.ai=6 then [y]else []) 0=iF n.data.xs x:=λx y=>by unfold gu;rw[if_neg aa,if_neg aa,if_neg aa,if_pos hk];rfl
  have h2:∀x,e=iF n.data.xs x->A'.1<=x->x<=A'.2->foldI min (fA n A B)<=e/\e<=foldI max (fA n A B):=λx h1 h2 h3=>hE x 0 (by rw[hN];exact h1) h2 h3 (λh=>by omega);have h3:e∈[iF n.data.xs A'.1,iF n.data.xs A'.2]->foldI min (fA n A B)<=e/\e<=foldI max (fA n A B):=λhe=>by
   simp only[abr,aiF,or_false]at he;rcases he with he|he
   ·exact h2 _ he (aem _) hA2
   ·exact h2 _ he hA2 (aem _)
  split at he
  ·exact h3 he
  ·rcases aeh.1 he with he|he
   ·exact h3 he
   ·obtain⟨x,hx,rfl⟩:=abl.1 he;rw[O6]at hx;have q1:A'.1<=loI n.data.xs A':=by unfold loI;omega
    have q2:hiI n.data.xs A'<=A'.2:=by unfold hiI;omega
    exact h2 x rfl aa aa
 ·rw[if_neg aa,if_neg aa,if_neg aa]at he;have hN:∀x y,gu n [x] (if n.ai=6 then [y]else []) 0=x:=λx y=>by unfold gu;rw[if_neg aa,if_neg aa,if_neg aa,if_neg aa];rfl
  simp only[abr,aiF,or_false]at he;rcases he with he|he
  ·exact hE A'.1 0 AJ (aem _) hA2 (λh=>by omega)
  ·exact hE A'.2 0 AJ hA2 (aem _) (λh=>by omega)
theorem MF{n:ak}{sh:List (List Int)}{s t:List Int}{cnt:Nat}(h:gN n sh s t cnt){A A' B B':Sp}(hA:n.ai≠1->n.ai≠2->tight A' A/\A'.1<=A'.2)(hB:n.ai=6->tight B' B/\B'.1<=B'.2):tight (rq (jw n cnt t A' B')) (rq (jw n cnt t A B)):=by
 have hkind:=(dJ h.node.form).ai;refine ZT (I7 h A' B') ?_;by_cases hl:eF n
 ·have hk:n.ai=3\/n.ai=4\/n.ai=5:=hl;have hA:=hA aa aa;have e1:jw n cnt t A B=nH n cnt (dZ n t) A:=if_pos hl;have e2:jw n cnt t A' B'=nH n cnt (dZ n t) A':=if_pos hl;rw[e1,e2];intro e he;obtain⟨o,ho,he⟩:=am5.1 he;have hw:=Si hA.1 hA.2 (l:=dZ n t o) (aem (dV n cnt o)) (aem _) (aem _);have m1:(dZ n t o).foldl (Qt A) (dV n cnt o)∈nH n cnt (dZ n t) A:=am5.2 ⟨o,ho,by simp⟩;have m2:(dZ n t o).foldl (Qu A) (dV n cnt o)∈nH n cnt (dZ n t) A:=am5.2 ⟨o,ho,by simp⟩;have:=kI m1;have:=kK m2;simp only[abr,aiF,or_false]at he;rcases he with rfl|rfl<;>omega
 ·have e1:jw n cnt t A B=fA n A B:=if_neg hl;have e2:jw n cnt t A' B'=fA n A' B':=if_neg hl;rw[e1,e2];by_cases h12:n.ai=1\/n.ai=2
  ·have e3:fA n A' B'=fA n A B:=by
    unfold fA;rcases h12 with h1|h2
    ·rw[if_pos h1,if_pos h1]
    ·rw[if_neg aa,if_pos h2,if_neg aa,if_pos h2]
   rw[e3];exactλe he=>⟨kI he,kK he⟩
  ·unfold eF at hl;exact Wl aa (hA aa aa).1 (hA aa aa).2 hB
theorem Gy{n:ak}{sh:List (List Int)}{s t:List Int}{cnt:Nat}(h:gN n sh s t cnt)(A B:Sp):(rq (jw n cnt t A B)).1<=(rq (jw n cnt t A B)).2:=XT (I7 h A B)
structure jf where
 op:Int
 KD:Int
 a:Int
 b:Int
 k:Int
structure BZ where
 lo:Int
 hi:Int
 aA:List Int
structure dL where
 inputs:List BZ
 aF:List (List Int)
 code:List jf
def bI(s:dL)(op a b k:Int):dL×Int:=(⟨s.inputs,s.aF,s.code++[⟨op,s.code.length,a,b,k⟩]⟩,s.code.length)
def J5(r:List Int):List (List Int)->Nat->Option Nat
 |[],_=>none
 |x::l,k=>if x=r then some k else J5 r l (k+1)
def dF(s:dL)(r:List Int):dL×Int:=match J5 r s.aF 0 with
 |some k=>(s,k)
 |none=>(⟨s.inputs,s.aF++[r],s.code⟩,s.aF.length)
def l9(f:Nat->Int):List Int->Nat->List Int->List Int
 |[],_,row=>row
 |s::r,e,row=>l9 f r (e+1) (row.set s.toNat (f e))
def bU(n:Nat)(aA:List Int)(f:Nat->Int):List Int:=l9 f aA 0 (List.replicate n 0)
def bH(n:Nat)(s:dL)(aA:List Int)(f:Nat->Int):dL×Int:=dF s (bU n aA f)
def vB(n:Nat)(s:dL)(x:Int):dL×Int:=bI (dF s (List.replicate n 0)).1 5 x 0 (dF s (List.replicate n 0)).2
def iU(s:dL)(m:Option Int)(v:Int):dL×Int:=match m with
 |none=>(s,v)
 |some a=>bI s 3 a v 0
def rY(s:dL)(t:Int->Option Int)(x:Int)(i:Nat):dL×(Int->Option Int)×Int:=match t i with
 |some a=>(s,t,a)
 |none=>((bI s 8 x 0 i).1,λz=>if z=i then some (bI s 8 x 0 i).2 else t z,(bI s 8 x 0 i).2)
structure oZ where
 s:dL
 t:Int->Option Int
 m:Option Int
def wR(n base:Nat)(d:List Int):List Int:=d.drop (n-base)++d.take (n-base)
def uX(n base:Nat)(x:Int)(y:oZ)(i:Nat)(d:List Int):oZ:=
 if d=[]then y else
 let q:=rY y.s y.t x i
 let p:=dF q.1 (wR n base d)
 let l:=bI p.1 5 q.2.2 0 p.2
 let a:=iU l.1 y.m l.2
 ⟨a.1,q.2.1,some a.2⟩
def sN(n base:Nat)(x:Int):List (List Int)->Nat->oZ->oZ
 |[],_,y=>y
 |d::r,i,y=>sN n base x r (i+1) (uX n base x y i d)
def sV(n base:Nat)(x:Int)(y:oZ)(ds:List (List Int)):oZ:=
 let z:=sN n base x ds 0 ⟨y.s,y.t,none⟩
 match z.m with
 |none=>⟨z.s,z.t,y.m⟩
 |some a=>
  let u:=if 0<base then bI z.s 8 a 0 base else(z.s,a)
  let v:=iU u.1 y.m u.2
  ⟨v.1,z.t,some v.2⟩
def p8(n g:Nat)(x:Int)(all:List (List Int)):Nat->Nat->oZ->oZ
 |0,_,y=>y
 |f+1,base,y=>if base<n then p8 n g x all f (base+g) (sV n base x y ((all.drop base).take (min n (base+g)-base)))else y
def qY(x:Int):Int->Option Int:=λz=>if z=0 then some x else none
def stepG:Nat->Nat->Nat->Nat
 |0,_,g=>g
 |f+1,n,g=>if g*g<n then stepG f n (2*g)else g
def tT(giant:Bool)(n:Nat):Nat:=if giant then stepG n n 1 else n
def nG(n:Nat)(giant:Bool)(s:dL)(x:Int)(all:List (List Int)):dL×Int:=
 let y:=p8 n (tT giant n) x all n 0 ⟨s,qY x,none⟩
 match y.m with
 |none=>vB n y.s x
 |some a=>(y.s,a)
def rM(n:Nat)(s:dL)(x:Int)(data aA:List Int):dL×Int:=
 let a:=data.getD 2 0
 let b:=data.getD 1 0
 let c:=data.getD 0 0
 let y:dL×Option Int:=if a=0 then(s,none)else
  let q:=bI s 6 x x 0
  if a=1 then(q.1,some q.2)else
  let p:=bH n q.1 aA (λ_=>a)
  let l:=bI p.1 5 q.2 0 p.2
  (l.1,some l.2)
 let z:dL×Option Int:=if b=0 then y else if b=1 then
     let u:=iU y.1 y.2 x
     (u.1,some u.2)
  else
   let p:=bH n y.1 aA (λ_=>b)
   let l:=bI p.1 5 x 0 p.2
   let u:=iU l.1 y.2 l.2
   (u.1,some u.2)
 let o:dL×Int:=match z.2 with
  |none=>vB n z.1 x
  |some m=>(z.1,m)
 if c=0 then o else
  let p:=bH n o.1 aA (λ_=>c)
  bI p.1 4 o.2 0 p.2
section
structure lZ(n:ak)(sh:List (List Int)):Prop where
 form:cz n sh.length=true
 az:∃s,bP n sh=some s/\uH s
 near:gP n=true
 made:Made n
theorem PW{xs:List Int}(h:nA xs):nR xs=true:=by
 unfold nR;rw[akM];intro x hx;have:=h x hx;exact decide_eq_true ⟨by omega,by omega⟩
theorem j3:nA cK.xs:=λx hx=>by simp[cK]at hx
theorem vH{n:ak}(hd:nA n.data.xs)(hb:nA n.aQ.xs)(hl: -4<=n.lo/\n.lo<=n.hi/\n.hi<=9):gP n=true:=by
 unfold gP;rw[PW hd,PW hb,decide_eq_true hl.2.1];have:nR [n.lo,n.hi]=true:=by
  unfold nR;rw[akM];intro x hx;simp only[abr,aiF,or_false]at hx;exact decide_eq_true (by rcases hx with rfl|rfl<;>omega)
 rw[this];rfl
theorem Nb{n:ak}{sh:List (List Int)}(h:ab3 n):lZ n sh:=by
 refine⟨?_,⟨n.az.xs,?_,h.az⟩,vH (by rw[h.data];exact j3) (by rw[h.aQ];exact j3) ⟨h.lo.1,h.hi.1,h.hi.2⟩,h.made⟩
 ·unfold cz;rw[if_pos h.ai];unfold gW;have:=h.az.pos;simp[h.a,h.b,h.size,h.data,h.aQ,cK,this]
 ·unfold bP;rw[if_pos (.inl h.ai)]
section
variable {sh:List (List Int)} {u d e:ax} {i j:Nat} {s:List Int}
theorem Cm{k:Int}(h: -100<=k/\k<=10000):i64 k:=⟨by omega,by omega⟩
theorem ahp{s:List Int}(h:uH s):s.length<=3:=(g_ h.pos).2.1
theorem YU(hu:u.bF)(hs:uH u.xs)(hd:d.bF)(hdl:(d.xs.length:Int)=au u.xs)(hsm:nA d.xs):lZ ⟨2,0,0,u,0,0,0,d,cK⟩ sh:=by
 have h1:=hs.pos;have h2:=hs.few;have h3:=ahp hs;refine⟨?_,⟨u.xs,?_,hs⟩,vH hsm j3 ⟨by simp,by simp,by simp⟩,⟨hu,hd,iC,by simp only;omega,by simp only;omega,by simp[cK],Cm aI,z0,z0,z0,z0,z0⟩⟩
 ·unfold cz gW;simp[cK,h1,hdl]
 ·unfold bP;simp
theorem MC(hi:i<sh.length)(hg:sh.getD i []=s)(hs:uH s)(hd:d.bF)(he:e.bF)(ho:1<=e.xs.length/\e.xs.length<=4)(hdl:(d.xs.length:Int)=e.xs.length*au s)(h1:nA d.xs)(h2:nA e.xs)(D5:sh.length<=24):lZ ⟨3,i,0,cK,0,0,0,d,e⟩ sh:=by
 have h3:=hs.pos;have h4:=hs.few;have hm:(e.xs.length:Int)*au s<=4*18:=ag8 aa h4 aa aa;have hg':sh.getD ((i:Int)).toNat []=s:=hg;refine⟨?_,⟨[(e.xs.length:Int)],?_,⟨VM aa aa,?_,λh=>by simp at h⟩⟩,vH h1 h2 ⟨by simp,by simp,by simp⟩,⟨iC,hd,he,by simp[cK],by simp only;omega,by simp only;omega,Cm aI,Cm mJ,z0,z0,z0,z0⟩⟩
 ·unfold cz gW iI;simp[cK,hi];omega
 ·unfold bP;simp only[hg',hdl];simp
 ·have:au [(e.xs.length:Int)]=e.xs.length\/au [(e.xs.length:Int)]=0:=by
   unfold au;rw[if_neg aI];simp only[dX];split
   ·exact .inr rfl
   ·left;omega
  omega
theorem Vz(hi:i<sh.length)(hj:j<sh.length)(hg:sh.getD i []=s)(hg2:sh.getD j []=s)(hs:uH s)(D5:sh.length<=24):lZ ⟨6,i,j,cK,0,0,0,cK,cK⟩ sh:=by
 have hg':sh.getD ((i:Int)).toNat []=s:=hg;have am1:sh.getD ((j:Int)).toNat []=s:=hg2;refine⟨?_,⟨s,?_,hs⟩,vH j3 j3 ⟨by simp,by simp,by simp⟩,⟨iC,iC,iC,by simp[cK],by simp[cK],by simp[cK],Cm aI,Cm mJ,Cm mJ,z0,z0,z0⟩⟩
 ·unfold cz gW iI;simp[cK,hi,hj]
 ·unfold bP;simp only[hg',am1];simp
theorem aam(hi:i<sh.length)(hg:sh.getD i []=s)(hs:uH s)(hd:d.bF)(hl:d.xs.length=3)(h1:nA d.xs)(D5:sh.length<=24):lZ ⟨8,i,0,cK,0,0,0,d,cK⟩ sh:=by
 have hg':sh.getD ((i:Int)).toNat []=s:=hg;refine⟨?_,⟨s,?_,hs⟩,vH h1 j3 ⟨by simp,by simp,by simp⟩,⟨iC,hd,iC,by simp[cK],by simp only;omega,by simp[cK],Cm aI,Cm mJ,z0,z0,z0,z0⟩⟩
 ·unfold cz gW iI;simp[cK,hi,hl]
 ·unfold bP;simp only[hg'];simp
theorem zD(hi:i<sh.length)(hg:sh.getD i []=s)(hs:uH s)(hd:d.bF)(hl:d.xs.length=1)(h1:nA d.xs)(D5:sh.length<=24):lZ ⟨7,i,0,cK,0,0,0,d,cK⟩ sh:=by
 have hg':sh.getD ((i:Int)).toNat []=s:=hg;refine⟨?_,⟨s,?_,hs⟩,vH h1 j3 ⟨by simp,by simp,by simp⟩,⟨iC,hd,iC,by simp[cK],by simp only;omega,by simp[cK],Cm aI,Cm mJ,z0,z0,z0,z0⟩⟩
 ·unfold cz gW iI;simp[cK,hi,hl]
 ·unfold bP;simp only[hg'];simp
theorem XC{n:Int}(h1:1<=n)(h2:n<=64):au [n]=n:=by
 unfold au;rw[if_neg aI];simp only[dX];rw[if_neg aa];omega
theorem acL(hi:i<sh.length)(hg:sh.getD i []=s)(hs:uH s)(hu:u.bF)(hx:u.xs=[au s])(D5:sh.length<=24):lZ ⟨9,i,0,u,0,0,0,cK,cK⟩ sh:=by
 have h3:=hs.pos;have h4:=hs.few;have hg':sh.getD ((i:Int)).toNat []=s:=hg;have h5:=XC (n:=au s) aa aa;refine⟨?_,⟨[au s],?_,⟨by omega,by omega,λh=>by simp at h⟩⟩,vH j3 j3 ⟨by simp,by simp,by simp⟩,⟨hu,iC,iC,by simp only[hx];simp,by simp[cK],by simp[cK],Cm aI,Cm mJ,z0,z0,z0,z0⟩⟩
 ·unfold cz gW iI;simp[cK,hi,hx,h5,h3]
 ·unfold bP;simp only[hg',hx,h5];simp
theorem U_{a b c:Int}(h:0<au [a,b,c]):au [a,b,c]=a*b*c:=by
 have e:au [a,b,c]=dX 1 [a,b,c]:=by unfold au;rw[if_neg aI]
 rw[e]at h|-
 simp only[dX]at h|-
 by_cases t1:a<1\/a>64/1
 ·rw[if_pos t1]at h;omega
 rw[if_neg t1]at h|-
 by_cases t2:b<1\/b>64/(1*a)
 ·rw[if_pos t2]at h;omega
 rw[if_neg t2]at h|-
 by_cases t3:c<1\/c>64/(1*a*b)
 ·rw[if_pos t3]at h;omega
 rw[if_neg t3,age]
theorem ai0{a b c:Int}(ha:1<=a/\a<=2)(hb:1<=b)(hc:1<=c)(hbc:b*c<=9):uH [a,b,c]:=by
 have h0:1<=b*c:=by have:=ag8 hb hc aa aa;omega
 have h1:a*(b*c)<=2*9:=ag8 ha.2 hbc aa aa;rw[<-ank]at h1;have h2:=WV ha.1 hb hc aa;exact⟨h2,by rw[U_ h2];omega,λ_=>⟨by simpa using ha.2,by simpa using hbc⟩⟩
theorem acd{s:List Int}(hs:uH s)(h3:s.length=3):s=[s.getD 0 0,s.getD 1 0,s.getD 2 0]/\1<=s.getD 0 0/\s.getD 0 0<=2/\1<=s.getD 1 0/\1<=s.getD 2 0/\s.getD 1 0*s.getD 2 0<=9/\s.getD 1 0<=9/\s.getD 2 0<=9:=by
 have e:=adL h3;have hp:=hs.pos;rw[e]at hp;obtain⟨p0,p1,p2,_⟩:=Eu hp;obtain⟨q1,q2⟩:=hs.three h3;have r1:s.getD 1 0*1<=s.getD 1 0*s.getD 2 0:=ai6 p2 aa;have r2:1*s.getD 2 0<=s.getD 1 0*s.getD 2 0:=ahi p1 aa;exact⟨e,p0,q1,p1,p2,q2,by omega,by omega⟩
theorem adN(hi:i<sh.length)(hg:sh.getD i []=s)(hs:uH s)(h3:s.length=3)(he1:s.getD 1 0%2=0)(he2:s.getD 2 0%2=0)(D5:sh.length<=24):lZ ⟨5,i,0,cK,0,0,2,cK,cK⟩ sh:=by
 have hg':sh.getD ((i:Int)).toNat []=s:=hg;obtain⟨_,p0,q0,p1,p2,q2,_,_⟩:=acd hs h3;have m:s.getD 1 0/2*(s.getD 2 0/2)<=s.getD 1 0*s.getD 2 0:=ag8 aa aa aa aa;refine⟨?_,⟨[s.getD 0 0,s.getD 1 0/2,s.getD 2 0/2],?_,ai0 ⟨p0,q0⟩ aa aa aa⟩,vH j3 j3 ⟨by simp,by simp,by simp⟩,⟨iC,iC,iC,by simp[cK],by simp[cK],by simp[cK],Cm aI,Cm mJ,z0,z0,z0,Cm aI⟩⟩
 ·unfold cz gW iI;simp[cK,hi]
 ·unfold bP;simp only[hg'];rw[if_neg aI,if_neg aI,if_neg aI,if_pos trivial,if_neg aa]
theorem ahR{a b c e:Int}(ha:1<=a/\a<=64)(hb:1<=b/\b<=64)(hc:1<=c/\c<=64)(he:1<=e/\e<=64):h_ [a,b,c,e]=a*b*c*e:=by
 unfold h_;rw[if_pos aI];simp only[nE];rw[if_neg aa,if_neg aa,if_neg aa,if_neg aa,age]
theorem adq{k0 k2 k3:Int}(hi:i<sh.length)(hg:sh.getD i []=s)(hs:uH s)(h3:s.length=3)(h0:1<=k0/\k0<=2)(h2:1<=k2/\k2<=2/\k2<=s.getD 1 0)(hk3:1<=k3/\k3<=2/\k3<=s.getD 2 0)(hu:u.bF)(hx:u.xs=[k0,s.getD 0 0,k2,k3])(hd:d.bF)(he:e.bF)
 (hdl:(d.xs.length:Int)=k0*s.getD 0 0*k2*k3) (hel:(e.xs.length:Int)=k0) (h1:nA d.xs) (hh:nA e.xs) (D5:sh.length<=24):lZ ⟨4,i,0,u,0,0,0,d,e⟩ sh:=by
 have hg':sh.getD ((i:Int)).toNat []=s:=hg;obtain⟨_,p0,q0,p1,p2,q2,q3,q4⟩:=acd hs h3;have hk:=ahR (a:=k0) (b:=s.getD 0 0) (c:=k2) (e:=k3) aa aa aa aa;have m1:k0*s.getD 0 0<=2*2:=ag8 h0.2 q0 aa aa;have n1:1*1<=k0*s.getD 0 0:=ag8 h0.1 p0 aa aa;have m2:k0*s.getD 0 0*k2<=4*2:=ag8 m1 h2.2.1 aa aa;have n2:1*1<=k0*s.getD 0 0*k2:=ag8 n1 h2.1 aa aa;have m3:k0*s.getD 0 0*k2*k3<=8*2:=ag8 m2 hk3.2.1 aa aa;have n3:1*1<=k0*s.getD 0 0*k2*k3:=ag8 n2 hk3.1 aa aa;have m:(s.getD 1 0-k2+1)*(s.getD 2 0-k3+1)<=s.getD 1 0*s.getD 2 0:=ag8 aa aa aa aa;have hok:=ai0 (a:=k0) (b:=s.getD 1 0-k2+1) (c:=s.getD 2 0-k3+1) h0 aa aa aa;refine⟨?_,⟨[k0,s.getD 1 0-k2+1,s.getD 2 0-k3+1],?_,hok⟩,vH h1 hh ⟨by simp,by simp,by simp⟩,⟨hu,hd,he,by simp only[hx];simp,by simp only;omega,by simp only;omega,Cm aI,Cm mJ,z0,z0,z0,z0⟩⟩
 ·unfold cz;rw[if_neg aI,if_neg aI,if_neg aI,if_pos rfl];unfold gW iI;simp only[hx,hk,hdl,hel];generalize k0*s.getD 0 0*k2*k3=K at*;have hK:0<K:=by omega
  simp[hi,hK]
 ·unfold bP;simp only[hg',hx];rw[if_neg aI,if_neg aI,if_pos trivial];simp only[List.getD_cons_zero,List.getD_cons_succ];rw[if_neg aa,if_pos hok.pos]
end
end
section
abbrev gD(l:List (List Int))(k:Nat):List Int:=l.getD k []
abbrev gS(l:List Sp)(k:Nat):Sp:=l.getD k (0,0)
def jk(p:aN)(s:List Int)(df:List (List Int))(dU:List Sp):Sp:=rq (jw p.toV (au s).toNat (gD df p.a.toNat) (gS dU p.a.toNat) (gS dU p.b.toNat))
structure dD(row:List aN)(df:List (List Int))(dU:List Sp):Prop where
 oK:df.length=row.length
 UT:dU.length=row.length
 pos:∀q∈df,0<au q
 node:∀k p,row[k]? =some p->jb p.toV (df.take k) (gD df k)
 span:∀k p,row[k]? =some p->gS dU k=jk p (gD df k) df dU/\ -1048576<=(gS dU k).1/\(gS dU k).2<=1048576
theorem vS{n:ak}(h:n.ai=1\/n.ai=2)(cnt cnt':Nat)(t t':List Int)(A B A' B':Sp):jw n cnt t A B=jw n cnt' t' A' B':=by
 have hl:¬eF n:=by unfold eF;omega
 have e1:jw n cnt t A B=fA n A B:=if_neg hl;have e2:jw n cnt' t' A' B'=fA n A' B':=if_neg hl;rw[e1,e2];unfold fA;rcases h with h1|h2
 ·rw[if_pos h1,if_pos h1]
 ·rw[if_neg aa,if_pos h2,if_neg aa,if_pos h2]
theorem EK{n:ak}(h:n.ai≠6)(cnt:Nat)(t:List Int)(A B B':Sp):jw n cnt t A B=jw n cnt t A B':=by
 unfold jw;split
 ·rfl
 ·unfold fA;rw[if_neg h,if_neg h]
variable {l:List (List Int)} {k:Nat}
theorem tX{r:List (List Int)}(h:k<l.length):gD (l++r) k=gD l k:=by
 unfold gD;rw[TR,TR,ag9 h]
theorem zU{l r:List Sp}(h:k<l.length):gS (l++r) k=gS l k:=by
 unfold gS;rw[TR,TR,ag9 h]
theorem vG{x:List Int}(h:k=l.length):gD (l++[x]) k=x:=by
 subst h;unfold gD;rw[TR,ahg (Tw _),aiH];rfl
theorem Dz{l:List Sp}{x:Sp}(h:k=l.length):gS (l++[x]) k=x:=by
 subst h;unfold gS;rw[TR,ahg (Tw _),aiH];rfl
variable {i:Nat}
theorem qU(h:k<i):gD (l.take i) k=gD l k:=by
 unfold gD;rw[TR,TR,al2,if_pos h]
theorem C8{l:List Sp}(h:k<i):gS (l.take i) k=gS l k:=by
 unfold gS;rw[TR,TR,al2,if_pos h]
theorem aj2(h:k<l.length):gD l k∈l:=Tk h
structure gL(p:aN)(k:Nat):Prop where
 a0:0<=p.a
 a1:p.ai≠1->p.ai≠2->p.a.toNat<k
 a2:p.ai=1\/p.ai=2->p.a=0
 b0:0<=p.b
 b1:p.ai=6->p.b.toNat<k
 b2:p.ai≠6->p.b=0
 ai:1<=p.ai/\p.ai<=9
theorem afr{n:ak}(h:cz n i=true):(n.ai=1\/n.ai=2->n.a=0)/\(n.ai≠6->n.b=0):=by
 have hkk:=(dJ h).ai;unfold cz at h;have hk:n.ai=1\/n.ai=2\/n.ai=3\/n.ai=4\/n.ai=5\/n.ai=6\/n.ai=7\/n.ai=8\/n.ai=9:=by omega
 rcases hk with hk|hk|hk|hk|hk|hk|hk|hk|hk
 all_goals repeat(first|rw[if_pos hk]at h|rw[if_neg aa]at h)
 all_goals simp only[gW,Bool.true_or,Bool.false_or,anE,Bool.and_true,afF,decide_eq_true_eq]at h
 all_goals exact⟨by omega,by omega⟩
theorem kE{p:aN}(h:cz p.toV k=true):gL p k:=by
 obtain⟨hA,hB,_⟩:=uG h;obtain⟨lA,lB⟩:=afr h;have hf:=dJ h;have e1:p.toV.ai=p.ai:=rfl;have e2:p.toV.a=p.a:=rfl;have e3:p.toV.b=p.b:=rfl;have hfa:=hf.a;have nL:=hf.b;have hfk:=hf.ai;rw[e1,e2]at*;rw[e3]at*;exact⟨hA.1,λh1 h2=>by have:=hfa h1 h2;omega,lA,hB.1,λh=>by have:=nL h;omega,lB,hfk⟩
variable {row:List aN} {df:List (List Int)} {dU:List Sp}
theorem dD.ajX(h:dD row df dU){p:aN}(hk:row[k]? =some p):k<row.length/\(df.take k).length=k:=by
 have hlt:=(abH.1 hk).1;exact⟨hlt,by rw[aek,h.oK];omega⟩
theorem dD.ahead(h:dD row df dU){p:aN}(hk:row[k]? =some p):gL p k:=by
 have hf:=(h.node k p hk).form;rw[(h.ajX hk).2]at hf;exact kE hf
variable {sh:List (List Int)} {s:List Int}
theorem V4{p:aN}(hn:jb p.toV sh s)(hp:∀q∈sh,0<au q):gN p.toV sh s (gD sh p.a.toNat) (au s).toNat:=by
 refine⟨hn,by have:=(dN s).1;omega,hp,λhl=>⟨rfl,hp _ (aj2 ?_)⟩⟩;have:=(kE hn.form).a1;have hl:p.ai=3\/p.ai=4\/p.ai=5:=hl;exact this aa aa
theorem dD.place(h:dD row df dU){p:aN}(hk:row[k]? =some p):gN p.toV (df.take k) (gD df k) (gD (df.take k) p.a.toNat) (au (gD df k)).toNat:=
 V4 (h.node k p hk) λq hq=>h.pos q (ams hq)
theorem dD.nil:dD [] [] []:=⟨rfl,rfl,λq hq=>by simp at hq,λk p hk=>by simp at hk,λk p hk=>by simp at hk⟩
theorem PN{p:aN}(ha:gL p k){r1:List (List Int)}{r2:List Sp}(h1:k<=df.length)(h2:k<=dU.length):jk p s (df++r1) (dU++r2)=jk p s df dU:=by
 unfold jk;by_cases h12:p.ai=1\/p.ai=2
 ·rw[vS (n:=p.toV) h12]
 ·have hA:=ha.a1 aa aa;rw[tX aa,zU aa];by_cases h6:p.ai=6
  ·have:=ha.b1 h6;rw[zU aa]
  ·rw[EK (n:=p.toV) h6]
theorem dD.snoc(h:dD row df dU){m:aN}(hn:jb m.toV df s)(h1: -1048576<=(jk m s df dU).1)(h2:(jk m s df dU).2<=1048576):dD (row++[m]) (df++[s]) (dU++[jk m s df dU]):=by
 have l1:=h.oK;have l2:=h.UT;have hm:=kE hn.form;refine⟨by simp[l1],by simp[l2],λq hq=> ?_,λk p hk=> ?_,λk p hk=> ?_⟩
 ·rcases aeh.1 hq with hq|hq
  ·exact h.pos q hq
  ·simp at hq;subst hq;exact jG (dJ hn.form) h.pos hn.az rfl
 ·rcases ack k row.length with hlt|hge
  ·rw[ag9 hlt]at hk;rw[List.take_append_of_le_length aa,tX aa];exact h.node k p hk
  ·rw[ahg hge]at hk;have h0:k-row.length=0:=by
    rcases amm (k-row.length)with h|h
    ·exact h
    ·rw[aiQ fK]at hk;cases hk
   rw[h0]at hk;simp only[amO,Option.some.injEq]at hk;subst hk;have hk:k=df.length:=by omega
   rw[vG hk,hk,List.take_left];exact hn
 ·rcases ack k row.length with hlt|hge
  ·rw[ag9 hlt]at hk;have:=h.span k p hk;rw[zU aa,tX aa,PN (h.ahead hk) aa aa];exact this
  ·rw[ahg hge]at hk;have h0:k-row.length=0:=by
    rcases amm (k-row.length)with h|h
    ·exact h
    ·rw[aiQ fK]at hk;cases hk
   rw[h0]at hk;simp only[amO,Option.some.injEq]at hk;subst hk;rw[Dz aa,vG aa,PN hm (Tw _) aa];exact⟨rfl,h1,h2⟩
theorem dD.fq{row:List aN}{df:List (List Int)}{dU:List Sp}(h:dD row df dU):fq (row.map aN.toV) []=(0,df):=by
 have l1:=h.oK;have key:∀d k,row.length-k=d->k<=row.length->Go.Proofs.YtgndjjdeopfdkaaGreat.fq ((row.drop k).map aN.toV) (df.take k)=(0,df):=by
  intro d;induction d with
  |zero=>
   intro k hd hk;rw[amC aa,aen aa]
   rfl
  |succ d ih=>
   intro k hd hk;have hlt:k<row.length:=by omega
   have hn:=h.node k row[k] (YL hlt);rw[ahc hlt,afY,iE hn.form hn.az hn.near];have:df.take k++[gD df k]=df.take (k+1):=by
    have hlt2:k<df.length:=by omega
    rw[ajP hlt2];unfold gD;rw[TR,YL hlt2];rfl
   rw[this];exact ih (k+1) aa aa
 simpa using key row.length 0 aa aa
theorem zK{p:aN}(ha:gL p k):jk p s df dU=rq (jw p.toV (au s).toNat (gD df p.a.toNat) (gS (dU.take k) p.a.toNat) (gS (dU.take k) p.b.toNat)):=by
 unfold jk;by_cases h12:p.ai=1\/p.ai=2
 ·rw[vS (n:=p.toV) h12]
 ·have hA:=ha.a1 aa aa;rw[C8 aa];by_cases h6:p.ai=6
  ·rw[C8 (ha.b1 h6)]
  ·rw[EK (n:=p.toV) h6]
theorem dD.iJ{row:List aN}{df:List (List Int)}{dU:List Sp}(h:dD row df dU):iJ df (row.map aN.toV) []=(0,dU):=by
 have l1:=h.oK;have l2:=h.UT;have key:∀d k,row.length-k=d->k<=row.length->Go.Proofs.YtgndjjdeopfdkaaGreat.iJ df ((row.drop k).map aN.toV) (dU.take k)=(0,dU):=by
  intro d;induction d with
  |zero=>
   intro k hd hk;rw[amC aa,aen aa]
   rfl
  |succ d ih=>
   intro k hd hk;have hlt:k<row.length:=by omega
   have hkk:row[k]? =some row[k]:=YL hlt;obtain⟨q1,q2,q3⟩:=h.span k row[k] hkk;rw[ahc hlt,afY];have e:rq (jm df row[k].toV (dU.take k))=gS dU k:=by
    rw[q1,zK (h.ahead hkk)];unfold jm;rw[aek,ajY aa]
    rfl
   have e1:foldI min (jm df row[k].toV (dU.take k))=(gS dU k).1:=by rw[<-e];rfl
   have e2:foldI max (jm df row[k].toV (dU.take k))=(gS dU k).2:=by rw[<-e];rfl
   have:dU.take k++[((gS dU k).1,(gS dU k).2)]=dU.take (k+1):=by
    have hlt2:k<dU.length:=by omega
    rw[ajP hlt2];unfold gS;rw[TR,YL hlt2];rfl
   unfold Go.Proofs.YtgndjjdeopfdkaaGreat.iJ;rw[e1,e2,if_neg aa,this];exact ih (k+1) aa aa
 simpa using key row.length 0 aa aa
theorem dD.check{row:List aN}{df:List (List Int)}{dU:List Sp}(h:dD row df dU)(D5:row.length<=24){g:bM}(hg:g.l.map ak.pl=row)(h0:0<=g.out)(h1:g.out<row.length):Go.Proofs.YtgndjjdeopfdkaaGreat.check g=(0,df):=by
 have hl:g.l.length=row.length:=by rw[<-hg];simp
 unfold Go.Proofs.YtgndjjdeopfdkaaGreat.check;rw[if_neg aa,Ja (m:=row.map aN.toV) [] Ql];exact h.fq
theorem Tj{sh:List (List Int)}:∀{l m:List ak} {acc:List Sp},l.map ak.pl=m.map ak.pl->iJ sh l acc=iJ sh m acc
 |[],[],_,_=>rfl
 |[],_::_,_,h=>by simp at h
 |_::_,[],_,h=>by simp at h
 |x::l,y::m,acc,h=>by
  simp only[afY,List.cons.injEq]at h;have e:jm sh x acc=jm sh y acc:=by
   have:∀z:ak,jm sh z acc=jm sh z.pl.toV acc:=λz=>rfl;rw[this x,this y,h.1]
  unfold iJ;rw[e];split
  ·rfl
  ·exact Tj h.2
theorem dD.spans{row:List aN}{df:List (List Int)}{dU:List Sp}(h:dD row df dU)(D5:row.length<=24){g:bM}(hg:g.l.map ak.pl=row)(h0:0<=g.out)(h1:g.out<row.length):cZ g=(0,dU):=by
 have hc:=h.check D5 hg h0 h1;unfold cZ;rw[hc,if_neg aI,Tj (m:=row.map aN.toV) Ql];exact h.iJ
variable {g:bM}
theorem CK(hsp:(cZ g).1=0):dD (g.l.map ak.pl) (check g).2 (cZ g).2:=by
 obtain⟨hck,hsl,hsi⟩:=jC hsp;obtain⟨hl1,Ez,hout,hcl,hin⟩:=gK hck;have ags:∀k p,(g.l.map ak.pl)[k]? =some p->∃n:ak,g.l[k]? =some n/\n.pl=p:=λk p hk=>by
  rw[ab5]at hk;cases hn:g.l[k]? with
  |none=>rw[hn]at hk;simp at hk
  |some n=>rw[hn]at hk;exact⟨n,hn,by simpa using hk⟩
 have hN:∀k p,(g.l.map ak.pl)[k]? =some p->jb p.toV ((check g).2.take k) (gD (check g).2 k):=λk p hk=>by
  obtain⟨n,hn,rfl⟩:=ags k p hk;obtain⟨s,hs,h⟩:=hin k n hn;have:gD (check g).2 k=s:=by unfold gD;rw[TR,hs];rfl
  rw[this];exact⟨by rw[aiq];exact h.form,h.az,by rw[ahJ];exact h.near⟩
 refine⟨by rw[hcl,aas],by rw[hsl,aas],Qc hck,hN,λk p hk=> ?_⟩;have hah:gL p k:=by
  have hf:=(hN k p hk).form;obtain⟨n,hn,rfl⟩:=ags k p hk;have:=(abH.1 hn).1;rw[aek,hcl,ajY aa]at hf;exact kE hf
 obtain⟨n,hn,rfl⟩:=ags k p hk;obtain⟨s,hs,he,h1,h2⟩:=hsi k n hn;have hkl:=(abH.1 hn).1;have:gS (cZ g).2 k=s:=by unfold gS;rw[TR,hs];rfl
 rw[this];refine⟨?_,h1,h2⟩;rw[he,zK hah];unfold r9 jm;rw[aek,hsl,ajY aa]
 rfl
end
section
variable {s:List Int}
theorem af4{p:aN}{sh:List (List Int)}(h:jb p.toV sh s)(h2:p.ai=2):s=p.az/\(p.data.length:Int)=au p.az/\0<au p.az/\∀x∈p.data,fJ x:=by
 obtain⟨_,_,_,_,hd⟩:=uG h.form;have hs:=h.az;unfold bP at hs;have hk:p.toV.ai=2:=h2;rw[if_pos (.inr hk),Option.some.injEq]at hs;exact⟨hs.symm,hd h2,(dJ h.form).own (.inr (.inl hk)),(Gp h.near).1⟩
theorem xL{p:aN}(h2:p.ai=2)(s:List Int)(df:List (List Int))(dU:List Sp):jk p s df dU=rq p.data:=by
 unfold jk;have hk:p.toV.ai=2:=h2;have hl:¬eF p.toV:=by unfold eF;omega
 have e1:jw p.toV (au s).toNat (gD df p.a.toNat) (gS dU p.a.toNat) (gS dU p.b.toNat)=fA p.toV (gS dU p.a.toNat) (gS dU p.b.toNat):=if_neg hl;rw[e1];unfold fA;rw[if_neg aa,if_pos hk]
 rfl
variable {k:Nat}
theorem ZL{p:aN}{i:Nat}(h2:p.ai=2)(h:cz p.toV i=true):cz p.toV k=true:=by
 have:=y8 (k:=k) (a:=p.a) (b:=p.b) h (λ_ g=>absurd h2 g) (λ_=>rfl) (λg=>absurd (h2.symm.trans g) ay) (λ_=>rfl);exact this
theorem aah{p:aN}{sh sh':List (List Int)}(h:jb p.toV sh s)(h2:p.ai=2):jb p.toV sh' s:=by
 refine⟨ZL h2 h.form,?_,h.near⟩;have hs:=h.az;have hk:p.toV.ai=2:=h2;unfold bP at hs|-
 rw[if_pos (.inr hk)]at hs|-
 exact hs
structure Std(sh:List (List Int))(sp:List Sp)(df:List (List Int))(dU:List Sp)(st:List Nat):Prop where
 lt:∀j,j<st.length->st.getD j 0<df.length
 sh:∀j,j<st.length->gD df (st.getD j 0)=gD sh j
 sp:∀j,j<st.length->tight (gS dU (st.getD j 0)) (gS sp j)
theorem lU(st:List Nat)(n:aN):(bu st n).toV=xW n.toV (bu st n).a (bu st n).b/\(bu st n).ai=n.ai/\(n.ai≠1->n.ai≠2->(bu st n).a=st.getD n.a.toNat 0)/\(n.ai=1\/n.ai=2->(bu st n).a=n.a)/\(n.ai=6->(bu st n).b=st.getD n.b.toNat 0)/\(n.ai≠6->(bu st n).b=n.b):=by
 unfold bu;by_cases h12:n.ai=1\/n.ai=2
 ·rw[if_pos h12];exact⟨rfl,rfl,λh1 h2=>by omega,λ_=>rfl,λh=>by omega,λ_=>rfl⟩
 ·rw[if_neg h12];by_cases h6:n.ai=6
  ·rw[if_pos h6];exact⟨rfl,rfl,λ_ _=>rfl,λh=>absurd h h12,λ_=>rfl,λh=>absurd h6 h⟩
  ·rw[if_neg h6];exact⟨rfl,rfl,λ_ _=>rfl,λh=>absurd h h12,λh=>absurd h h6,λ_=>rfl⟩
section
variable {l:List aN} {sh:List (List Int)} {sp:List Sp} {row:List aN} {df:List (List Int)} {dU:List Sp} {st:List Nat} {n:aN}
theorem Qb(hL:dD l sh sp)(hR:dD row df dU)(hst:Std sh sp df dU st)(hn:l[st.length]? =some n):jb (bu st n).toV df (gD sh st.length)/\tight (jk (bu st n) (gD sh st.length) df dU) (gS sp st.length):=by
 obtain⟨e0,ek,ea,ea2,eb,eb2⟩:=lU st n;have hni:=hL.node _ _ hn;have hah:=hL.ahead hn;have hti:=(hL.ajX hn).2;have hf:=hni.form;rw[hti]at hf;have kk:n.toV.ai=n.ai:=rfl;have ka:n.toV.a=n.a:=rfl;have kb:n.toV.b=n.b:=rfl;have hA:n.ai≠1->n.ai≠2->(bu st n).a.toNat=st.getD n.a.toNat 0:=λh1 h2=>by rw[ea h1 h2];omega
 have hB:n.ai=6->(bu st n).b.toNat=st.getD n.b.toNat 0:=λh=>by rw[eb h];omega
 refine⟨⟨?_,?_,?_⟩,?_⟩
 ·rw[e0];refine y8 hf (λh1 h2=> ?_) (λh=> ?_) (λh=> ?_) (λh=> ?_)
  ·have:=hst.lt _ (hah.a1 h1 h2);rw[ea h1 h2];omega
  ·exact ea2 h
  ·have:=hst.lt _ (hah.b1 h);rw[eb h];omega
  ·exact eb2 h
 ·rw[e0,wQ (sh:=sh.take st.length) (λh1 h2=> ?_) (λh=> ?_)]
  ·exact hni.az
  ·show gD df (bu st n).a.toNat=gD (sh.take st.length) n.a.toNat;rw[hA h1 h2,hst.sh _ (hah.a1 h1 h2),qU (hah.a1 h1 h2)]
  ·show gD df (bu st n).b.toNat=gD (sh.take st.length) n.b.toNat;rw[hB h,hst.sh _ (hah.b1 h),qU (hah.b1 h)]
 ·rw[e0,Da];exact hni.near
 ·obtain⟨q1,q2,q3⟩:=hL.span _ _ hn;rw[q1,zK hah];unfold jk;rw[e0,Sv];by_cases h12:n.ai=1\/n.ai=2
  ·rw[vS (n:=n.toV) h12 _ (au (gD sh st.length)).toNat _ (gD sh n.a.toNat) _ _ (gS (sp.take st.length) n.a.toNat) (gS (sp.take st.length) n.b.toNat)];exact Pb _
  ·have ha1:=hah.a1 aa aa;have hp:=hL.place hn;rw[qU ha1]at hp;rw[hA aa aa,hst.sh _ ha1,C8 ha1];have lo:∀j,j<st.length->(gS dU (st.getD j 0)).1<=(gS dU (st.getD j 0)).2:=λj hj=>by
    have hk:=hst.lt j hj;rw[hR.oK]at hk;have hk':=YL hk;rw[(hR.span _ _ hk').1];unfold jk;by_cases g12:(row[st.getD j 0]).ai=1\/(row[st.getD j 0]).ai=2
    ·rw[vS (n:=(row[st.getD j 0]).toV) g12 _ _ _ _ _ _ (0,0) (0,0)];exact Gy (hR.place hk') (0,0) (0,0)
    ·have:=(hR.ahead hk').a1 aa aa;have hp2:=hR.place hk';rw[qU this]at hp2;exact Gy hp2 _ _
   refine MF hp (λh1 h2=>⟨hst.sp _ ha1,lo _ ha1⟩) (λh6=> ?_);have h6':n.ai=6:=h6;have hb1:=hah.b1 h6';rw[hB h6',C8 hb1];exact⟨hst.sp _ hb1,lo _ hb1⟩
theorem getD_some{row:List aN}(h:k<row.length):row[k]? =some (row.getD k dh):=by
 rw[TR,YL h];rfl
structure Ma(row:List aN)(df:List (List Int))(dU:List Sp)(m:aN)(s:List Int):Prop where
 ai:m.ai≠1/\m.ai≠2
 NZ:m.a.toNat<row.length
 aK:(row.getD m.a.toNat dh).ai=2
 aSh:gD df m.a.toNat=(row.getD m.a.toNat dh).az
 Yh:((row.getD m.a.toNat dh).data.length:Int)=au (row.getD m.a.toNat dh).az
 aSp:gS dU m.a.toNat=rq (row.getD m.a.toNat dh).data
 bLt:m.ai=6->m.b.toNat<row.length
 bK:m.ai=6->(row.getD m.b.toNat dh).ai=2
 bSh:m.ai=6->gD df m.b.toNat=(row.getD m.b.toNat dh).az
 ae5:m.ai=6->((row.getD m.b.toNat dh).data.length:Int)=au (row.getD m.b.toNat dh).az
 bSp:m.ai=6->gS dU m.b.toNat=rq (row.getD m.b.toNat dh).data
theorem M_(hR:dD row df dU)(hk:k<row.length)(h2:(row.getD k dh).ai=2):gD df k=(row.getD k dh).az/\((row.getD k dh).data.length:Int)=au (row.getD k dh).az/\gS dU k=rq (row.getD k dh).data/\(∀x∈(row.getD k dh).data,fJ x)/\0<au (row.getD k dh).az:=by
 have hk':=getD_some hk;obtain⟨q1,q2,q3,q4⟩:=af4 (hR.node k _ hk') h2;obtain⟨p1,_,_⟩:=hR.span k _ hk';rw[xL h2]at p1;exact⟨q1,q2,p1,q4,q3⟩
variable {m:aN}
theorem BV(hR:dD row df dU)(hm:jb m.toV df s)(hk:jO row m=true):Ma row df dU m s:=by
 have hah:=kE hm.form;rw[hR.oK]at hah;unfold jO AL at hk;simp only[afF,aoe,decide_eq_false_iff_not,decide_eq_true_eq,amh]at hk;obtain⟨⟨h12,hA⟩,hB⟩:=hk;have a1:=hah.a1 aa aa;obtain⟨c1,c2,c3,_⟩:=M_ hR a1 hA;refine⟨by omega,a1,hA,c1,c2,c3,hah.b1,λh=> ?_,λh=> ?_,λh=> ?_,λh=> ?_⟩
 ·exact hB.resolve_left (λg=>g h)
 all_goals
  obtain⟨c1,c2,c3,_⟩:=M_ hR (hah.b1 h) (hB.resolve_left (λg=>g h));assumption
def X6(row:List aN)(m:aN):List Int:=if m.ai=6 then(row.getD m.b.toNat dh).data else []
theorem Lc{l:List Int}:within (rq l) l:=λx hx=>⟨kI hx,kK hx⟩
theorem aeZ(hR:dD row df dU)(h:Ma row df dU m s):NumIn m.toV df (row.getD m.a.toNat dh).data (X6 row m):=
 ⟨λ_ _=>by show _=au (gD df m.a.toNat);rw[h.aSh];exact h.Yh,λh6=>by
  have h6':m.ai=6:=h6;show _=au (gD df m.b.toNat);unfold X6;rw[if_pos h6',h.bSh h6'];exact h.ae5 h6'⟩
theorem tF{n:ak}(h:n.ai≠6)(cnt:Nat)(t a b b':List Int):gH n cnt t a b=gH n cnt t a b':=by
 unfold gH;split
 ·rfl
 ·unfold o5 gu;simp only[if_neg h]
theorem Qf(hR:dD row df dU)(hm:jb m.toV df s)(h:Ma row df dU m s):within (jk m s df dU) (lm s row m)/\(lm s row m).length=(au s).toNat:=by
 have hp:=V4 hm hR.pos;have hA:within (gS dU m.a.toNat) (row.getD m.a.toNat dh).data:=by rw[h.aSp];exact Lc
 have hB:within (gS dU m.b.toNat) (X6 row m):=by
  unfold X6;by_cases h6:m.ai=6
  ·rw[if_pos h6,h.bSp h6];exact Lc
  ·rw[if_neg h6];exactλx hx=>by simp at hx
 have:=Ul (t:=⟨none,0,gD df m.a.toNat⟩) hp h.ai.1 (aeZ hR h) hA hB;have e:lm s row m=gH m.toV (au s).toNat (gD df m.a.toNat) (row.getD m.a.toNat dh).data (X6 row m):=by rw[h.aSh];rfl
 rw[e];exact this
theorem ad2{d:List Int}{sh:List (List Int)}(hs:0<au s)(hd:(d.length:Int)=au s)(hb:∀x∈d,fJ x):jb (aN.toV ⟨2,0,0,s,0,0,0,d,[]⟩) sh s:=by
 refine⟨?_,?_,?_⟩
 ·unfold cz;have e1:(aN.toV ⟨2,0,0,s,0,0,0,d,[]⟩).ai=2:=rfl;rw[e1,if_neg ay,if_pos ay];simp only[gW,aN.toV];simp[hs,hd]
 ·unfold bP;rw[if_pos (.inr rfl)];rfl
 ·unfold gP nR;simp only[aN.toV,afF,akM,decide_eq_true_eq];exact⟨⟨⟨hb,λx hx=>by simp at hx⟩,λx hx=>by simp at hx;subst hx;omega⟩,rfl⟩
theorem TP(hL:dD l sh sp)(hR:dD row df dU)(hst:Std sh sp df dU st)(hn:l[st.length]? =some n):jb (kg (gD sh st.length) row (bu st n)).toV df (gD sh st.length)/\tight (jk (kg (gD sh st.length) row (bu st n)) (gD sh st.length) df dU) (gS sp st.length):=by
 obtain⟨hm,ht⟩:=Qb hL hR hst hn;unfold kg;by_cases hk:jO row (bu st n)=true
 ·rw[if_pos hk];obtain⟨w1,w2⟩:=Qf hR hm (BV hR hm hk);have ad5:=(hL.span _ _ hn).2;have hpos:=jG (dJ hm.form) hR.pos hm.az rfl;have hne:1<=(lm (gD sh st.length) row (bu st n)).length:=by rw[w2];omega
  refine⟨ad2 hpos (by rw[w2];omega) (λx hx=> ?_),?_⟩
  ·have:=w1 x hx;unfold tight at ht;unfold fJ;omega
  ·rw[xL rfl];refine VY ?_ ht;exact⟨(w1 _ (Er hne)).1,(w1 _ (Ei hne)).2⟩
 ·rw[if_neg hk];exact⟨hm,ht⟩
theorem Oh(hR:dD row df dU){p:aN}(hk:row[k]? =some p)(hm:jb p.toV df s):gD df k=s/\gS dU k=jk p s df dU:=by
 have hah:=hR.ahead hk;have hn:=hR.node k p hk;have e:bP p.toV (df.take k)=bP p.toV df:=by
  have:=wQ (n:=p.toV) (sh:=df) (sh':=df.take k) (a:=p.a) (b:=p.b) (λh1 h2=>qU (hah.a1 h1 h2)) (λh6=>qU (hah.b1 h6));exact this
 have h1:=hn.az;rw[e,hm.az,Option.some.injEq]at h1;refine⟨h1.symm,?_⟩;rw[(hR.span k p hk).1,h1]
theorem step_ok(hL:dD l sh sp)(hR:dD row df dU)(hst:Std sh sp df dU st)(hn:l[st.length]? =some n):∃uD uL,dD (o8 (gD sh st.length) (row,st) n).1 uD uL/\Std sh sp uD uL (o8 (gD sh st.length) (row,st) n).2:=by
 obtain⟨hm,ht⟩:=TP hL hR hst hn;have ad5:=(hL.span _ _ hn).2;unfold o8 Bt;simp only;generalize kg (gD sh st.length) row (bu st n)=m at*;cases hf:rU row m with
 |some k=>
  simp only;obtain⟨hk1,hk⟩:=zI hf;have hkl:=(abH.1 hk).1;obtain⟨q1,q2⟩:=Oh hR hk hm;refine⟨df,dU,hR,λj hj=> ?_,λj hj=> ?_,λj hj=> ?_⟩;all_goals rw[adx,ag_]at hj
  all_goals
   rcases ack j st.length with hlt|hge
   ·rw[show(st++[k]).getD j 0=st.getD j 0 by rw[TR,TR,ag9 hlt]];first|exact hst.lt j hlt|exact hst.sh j hlt|exact hst.sp j hlt
   ·obtain rfl:j=st.length:=by omega
    rw[show(st++[k]).getD st.length 0=k by rw[TR,ahg (Tw _),aiH];rfl];first|(rw[hR.oK];exact hkl)|exact q1|(rw[q2];exact ht)
 |none=>
  simp only;have hR':=hR.snoc hm kP kP;have l1:=hR.oK;have l2:=hR.UT;refine⟨_,_,hR',λj hj=> ?_,λj hj=> ?_,λj hj=> ?_⟩;all_goals rw[adx,ag_]at hj
  all_goals
   rcases ack j st.length with hlt|hge
   ·have hlt2:=hst.lt j hlt;rw[show(st++[row.length]).getD j 0=st.getD j 0 by rw[TR,TR,ag9 hlt]];first|(rw[adx];omega)|(rw[tX aa];exact hst.sh j hlt)|(rw[zU aa];exact hst.sp j hlt)
   ·obtain rfl:j=st.length:=by omega
    rw[show(st++[row.length]).getD st.length 0=row.length by rw[TR,ahg (Tw _),aiH];rfl];first|(rw[adx,ag_];omega)|(rw[vG aa])|(rw[Dz aa];exact ht)
theorem ag4(s:List Int)(x:List aN×List Nat)(n:aN):(o8 s x n).2.length=x.2.length+1/\(o8 s x n).1.length<=x.1.length+1/\x.1.length<=(o8 s x n).1.length:=by
 unfold o8 Bt;refine⟨by simp,?_,?_⟩<;>split<;>simp
end
end
section
def VX(row:List aN)(m:aN):List aN:=
 if m.ai=6 then [row.getD m.a.toNat dh,row.getD m.b.toNat dh,⟨m.ai,0,1,m.az,m.lo,m.hi,m.size,m.data,m.aQ⟩]
 else [row.getD m.a.toNat dh,⟨m.ai,0,m.b,m.az,m.lo,m.hi,m.size,m.data,m.aQ⟩]
def Hw(m:aN):Int:=if m.ai=6 then 2 else 1
theorem aaL{l:List Int}{c:Nat}(hc:l.length=c):((List.range c).map λo=>l.getD o 0)=l:=by
 subst hc;apply alQ
 ·simp
 ·intro i h1 h2;simp only[anm,am3];rw[TR,YL h2];rfl
theorem wK{p:aN}{sh known:List (List Int)}(h2:p.ai=2)(hd:(p.data.length:Int)=au p.az)(hs:sh.getD known.length []=p.az):gy sh p.toV known=p.data:=by
 have hk:p.toV.ai=2:=h2;have hl:¬eF p.toV:=by unfold eF;omega
 unfold gy;rw[hs];have e1:gH p.toV (au p.az).toNat (sh.getD p.toV.a.toNat []) (known.getD p.toV.a.toNat []) (known.getD p.toV.b.toNat [])=o5 p.toV (au p.az).toNat (known.getD p.toV.a.toNat []) (known.getD p.toV.b.toNat []):=if_neg hl;rw[e1];have e2:gu p.toV (known.getD p.toV.a.toNat []) (known.getD p.toV.b.toNat [])=λo=>p.data.getD o 0:=by
  funext o
  unfold gu;rw[if_pos hk];rfl
 unfold o5;rw[e2];exact aaL aa
theorem Gr{sh:List (List Int)}:∀{l m:List ak} {known inp:List (List Int)},l.map ak.pl=m.map ak.pl->d9 sh l known inp=d9 sh m known inp
 |[],[],_,_,_=>rfl
 |[],_::_,_,_,h=>by simp at h
 |_::_,[],_,_,h=>by simp at h
 |x::l,y::m,known,inp,h=>by
  simp only[afY,List.cons.injEq]at h;have e:gy sh x known=gy sh y known:=by
   have:∀z:ak,gy sh z known=gy sh z.pl.toV known:=λz=>rfl;rw[this x,this y,h.1]
  have ek:x.ai=y.ai:=congrArg aN.ai h.1;have el:x.lo=y.lo:=congrArg aN.lo h.1;have eh:x.hi=y.hi:=congrArg aN.hi h.1;unfold d9;rw[e,ek,el,eh,Gr h.2];cases inp with
  |nil=>rfl
  |cons z zs=>simp only[Gr h.2]
theorem ab_(row:List aN):(row.map aN.toV).map ak.pl=row:=by rw[List.map_map];exact List.map_id row
section
variable {row:List aN} {df:List (List Int)} {dU:List Sp}
theorem Td(hR:dD row df dU){k:Nat}(hk:k<row.length)(h2:(row.getD k dh).ai=2){r:List aN}{sh:List (List Int)}{sp:List Sp}(h:dD r sh sp):dD (r++[row.getD k dh]) (sh++[gD df k]) (sp++[gS dU k]):=by
 have hk':=getD_some hk;obtain⟨q1,q2,q3⟩:=hR.span k _ hk';have e:jk (row.getD k dh) (gD df k) sh sp=gS dU k:=by rw[q1,xL h2,xL h2]
 have:=h.snoc (aah (sh':=sh) (hR.node k _ hk') h2) (by rw[e];exact q2) (by rw[e];exact q3);rw[e]at this;exact this
theorem abp(hR:dD row df dU){m:aN}{s:List Int}(hm:jb m.toV df s)(hk:Ma row df dU m s)(h1: -1048576<=(jk m s df dU).1)(h2:(jk m s df dU).2<=1048576){g:bM}(hg:g.l.map ak.pl=VX row m)(ho:g.out=Hw m):
 (check g).1=0/\gD (check g).2 g.out.toNat=s/\Je g []=(0,lm s row m):=by
 have hah:=kE hm.form;have R1:=Td hR hk.NZ hk.aK dD.nil;by_cases h6:m.ai=6
 ·have R2:=Td hR (hk.bLt h6) (hk.bK h6) R1;have hn:jb (xW m.toV 0 1) (([]++[gD df m.a.toNat])++[gD df m.b.toNat]) s:=by
   refine⟨y8 (i:=df.length) hm.form (λ_ _=>⟨aem _,by simp⟩) (λh=>absurd h (by show¬(m.ai=1\/m.ai=2);omega)) (λ_=>⟨by decide,by simp⟩) (λh=>absurd h6 h),?_,?_⟩
   ·exact(wQ (n:=m.toV) (sh:=df) (a:=0) (b:=1) (λ_ _=>rfl) (λ_=>rfl)).trans hm.az
   ·rw[Da];exact hm.near
  have e:jk ⟨m.ai,0,1,m.az,m.lo,m.hi,m.size,m.data,m.aQ⟩ s (([]++[gD df m.a.toNat])++[gD df m.b.toNat]) (([]++[gS dU m.a.toNat])++[gS dU m.b.toNat])=jk m s df dU:=rfl;have R3:=R2.snoc (m:=⟨m.ai,0,1,m.az,m.lo,m.hi,m.size,m.data,m.aQ⟩) hn (by rw[e];exact h1) (by rw[e];exact h2);unfold VX at hg;unfold Hw at ho;rw[if_pos h6]at hg ho;have hc:=R3.check aI hg aa Aj;have hs:=R3.spans aI hg aa Aj;rw[hc,ho];refine⟨rfl,rfl,?_⟩;have hv:pE g []=(0,[(row.getD m.a.toNat dh).data,(row.getD m.b.toNat dh).data,lm s row m]):=by
   unfold pE;rw[hc];simp only;rw[Gr (m:=List.map aN.toV _) (hg.trans (ab_ _).symm)];simp only[afY,aiK];have kA:(row.getD m.a.toNat dh).toV.ai≠1:=by show(row.getD m.a.toNat dh).ai≠1;rw[hk.aK];decide
   have kB:(row.getD m.b.toNat dh).toV.ai≠1:=by show(row.getD m.b.toNat dh).ai≠1;rw[hk.bK h6];decide
   have kM:(aN.toV ⟨m.ai,0,1,m.az,m.lo,m.hi,m.size,m.data,m.aQ⟩).ai≠1:=hk.ai.1;unfold d9;rw[if_pos kA,wK hk.aK hk.Yh (by rw[<-hk.aSh];rfl)];unfold d9;rw[if_pos kB,wK (hk.bK h6) (hk.ae5 h6) (by rw[<-hk.bSh h6];rfl)];unfold d9;rw[if_pos kM];have eN:gy (([]++[gD df m.a.toNat])++[gD df m.b.toNat]++[s]) (aN.toV ⟨m.ai,0,1,m.az,m.lo,m.hi,m.size,m.data,m.aQ⟩) ([]++[(row.getD m.a.toNat dh).data]++[(row.getD m.b.toNat dh).data])=lm s row m:=by
    unfold lm;rw[if_pos h6,<-hk.aSh]
    rfl
   rw[eN];unfold d9;rw[if_neg aI]
   rfl
  unfold Je;rw[hs,hv,ho]
  rfl
 ·have hn:jb (xW m.toV 0 m.b) ([]++[gD df m.a.toNat]) s:=by
   refine⟨y8 (i:=df.length) hm.form (λ_ _=>⟨aem _,by simp⟩) (λh=>absurd h (by show¬(m.ai=1\/m.ai=2);have:=hk.ai;omega)) (λh=>absurd h h6) (λ_=>rfl),?_,?_⟩
   ·exact(wQ (n:=m.toV) (sh:=df) (a:=0) (b:=m.b) (λ_ _=>rfl) (λh=>absurd h h6)).trans hm.az
   ·rw[Da];exact hm.near
  have e:jk ⟨m.ai,0,m.b,m.az,m.lo,m.hi,m.size,m.data,m.aQ⟩ s ([]++[gD df m.a.toNat]) ([]++[gS dU m.a.toNat])=jk m s df dU:=by
   unfold jk;exact congrArg rq (EK (n:=m.toV) h6 _ _ _ _ _)
  have R3:=R1.snoc (m:=⟨m.ai,0,m.b,m.az,m.lo,m.hi,m.size,m.data,m.aQ⟩) hn (by rw[e];exact h1) (by rw[e];exact h2);unfold VX at hg;unfold Hw at ho;rw[if_neg h6]at hg ho;have hc:=R3.check aI hg aa Aj;have hs:=R3.spans aI hg aa Aj;rw[hc,ho];refine⟨rfl,rfl,?_⟩;have hv:pE g []=(0,[(row.getD m.a.toNat dh).data,lm s row m]):=by
   unfold pE;rw[hc];simp only;rw[Gr (m:=List.map aN.toV _) (hg.trans (ab_ _).symm)];simp only[afY,aiK];have kA:(row.getD m.a.toNat dh).toV.ai≠1:=by show(row.getD m.a.toNat dh).ai≠1;rw[hk.aK];decide
   have kM:(aN.toV ⟨m.ai,0,m.b,m.az,m.lo,m.hi,m.size,m.data,m.aQ⟩).ai≠1:=hk.ai.1;unfold d9;rw[if_pos kA,wK hk.aK hk.Yh (by rw[<-hk.aSh];rfl)];unfold d9;rw[if_pos kM];have eN:gy (([]++[gD df m.a.toNat])++[s]) (aN.toV ⟨m.ai,0,m.b,m.az,m.lo,m.hi,m.size,m.data,m.aQ⟩) ([]++[(row.getD m.a.toNat dh).data])=lm s row m:=by
    unfold lm;rw[<-hk.aSh];exact tF (n:=m.toV) h6 _ _ _ _ _
   rw[eN];unfold d9;rw[if_neg aI]
   rfl
  unfold Je;rw[hs,hv,ho]
  rfl
end
end
section
abbrev alE:DT:=(bS [0,1,2,3,4,5,6,7,8,109] .done)
abbrev alW:DT:=(bS [0,1,2,3,8,9,10,11] (.alt 4 (.alt 5 (bS [6,7,112,113,14,15,116,117,118,119] .done) (.one 12 (.alt 5 (bS [6,7,113,14,15,116,117,118,119] .done) (bS [113,14,15,105,6,7,116,117,118,119] .done)))) (.one 12 (.alt 4 (.alt 5 (bS [6,7,113,14,15,116,117,118,119] .done) (bS [113,14,15,105,6,7,116,117,118,119] .done)) (bS [113,14,15,104,105,6,7,116,117,118,119] .done)))))
structure om(w:World)(b:Nat)(nb:Option Addr)(nc:Nat)(kept:List ak)(sb:Option Addr)(sc:Nat)(st:List Int):Prop where
 c0:w.cell? ⟨b,0,none⟩=some (.slice nb kept.length nc)
 c2:w.cell? ⟨b,2,none⟩=some (.slice sb st.length sc)
 nodes:bE w nb 9 (bO kept)
 st:bE w sb 1 (aZ st)
theorem om.later{w w':World}{R:Nat->Prop}{b:Nat}{nb:Option Addr}{nc:Nat}{kept:List ak}{sb:Option Addr}{sc:Nat}{st:List Int}(h:om w b nb nc kept sb sc st)(hb:(aU w).holds R w'):om w' b nb nc kept sb sc st:=
 ⟨by rw[jE (hb _ (iA h.c0)).2];exact h.c0,by rw[jE (hb _ (iA h.c2)).2];exact h.c2,aH hb h.nodes,aH hb h.st⟩
theorem A9{a:Addr}{S:bR}{K:SV->Prop}{v:Value}(h:∀R w,S.holds R w->w.cell? a=some v)(hK:K (.c v)):gZ a S K:=by rw[Io];exact⟨v,h,hK⟩
def xU(st:List Nat):List Int:=st.map Int.ofNat
theorem Ih{st:List Nat}{k:Nat}(h:k<st.length):(aZ (xU st))[k]? =some [.int .i64 (st.getD k 0)]:=by
 rw[eO (by unfold xU;simpa using h)];unfold xU;rw[TR,YL h];simp
def dR(st:List Nat)(n:ak):ak:=xW n (bu st n.pl).a (bu st n.pl).b
theorem Tt(st:List Nat)(n:ak):(dR st n).pl=bu st n.pl:=by
 unfold dR bu;split
 ·rfl
 ·split<;>rfl
section
variable {w:World} {b:Nat} {nb sb:Option Addr} {nc sc:Nat} {kept:List ak} {st:List Nat}
theorem RD(hd:om w b nb nc kept sb sc (xU st))(n:ak)(hn:gL n.pl st.length)(hf:st.length<=1000000):Calls Tryz.prog 54 #[.pointer (some ⟨b,0,none⟩),n.p9] w λe w'=>e= .returned (dR st n).p9/\Ext w w':=by
 have hkk:=hn.ai;have kk:n.pl.ai=n.ai:=rfl;have ka:n.pl.a=n.a:=rfl;have kb:n.pl.b=n.b:=rfl;have ha0:=hn.a0;have hb0:=hn.b0;rw[kk]at hkk;have hsl:(xU st).length=st.length:=by unfold xU;simp
 by_cases h12:n.ai=1\/n.ai=2
 ·have e:dR st n=n:=by unfold dR bu;rw[if_pos (show n.pl.ai=1\/n.pl.ai=2 from h12)];rfl
  rw[e];refine fH Tryz.func54 [.c (.pointer (some ⟨b,0,none⟩)),.agg (vo n)] ?_;repeat' ((conv=>whnf)<;>first|refine a_ ?_|refine ag ?_ ?_<;>intro _)
  all_goals(conv=>whnf)
  all_goals exact bZ (λ_ _ h=>h) (λ_=>rfl) rfl
 ·have a1:=hn.a1 aa aa;obtain⟨sa,hsa⟩:∃a,sb=some a:=aT (j:=0) hd.st dS;by_cases h6:n.ai=6
  ·have b1:=hn.b1 h6;have e:dR st n=xW n (st.getD n.a.toNat 0) (st.getD n.b.toNat 0):=by unfold dR bu;rw[if_neg (show¬(n.pl.ai=1\/n.pl.ai=2)from h12),if_pos (show n.pl.ai=6 from h6)];rfl
   rw[e];refine fH Tryz.func54 [.c (.pointer (some ⟨b,0,none⟩)),.agg (vo n)] ?_;repeat' ((conv=>whnf)<;>first|(show cO _ 6 ..;refine mV [] [] alW ?_ (h6:=amG _))|(show mW ..;refine ed (amG _) (λ_ _ h=>h) ?_)|refine tJ ?_|(show dn ..;(first|refine aM sa n.a.toNat hsa aa aa ?_|refine aM sa n.b.toNat hsa aa aa ?_))|(show gZ ..;(first|refine bN (λR w' h=>by rw[<-hsa];exact aH h hd.st) _ _ (Ih a1) rfl ?_|refine bN (λR w' h=>by rw[<-hsa];exact aH h hd.st) _ _ (Ih b1) rfl ?_))|refine a_ ?_|refine ag ?_ ?_<;>intro _|refine And.intro ?_ ?_)
   all_goals(conv=>whnf)
   all_goals exact bZ (λ_ _ h=>h) (λ_=>rfl) rfl
  ·have e:dR st n=xW n (st.getD n.a.toNat 0) n.b:=by unfold dR bu;rw[if_neg (show¬(n.pl.ai=1\/n.pl.ai=2)from h12),if_neg (show¬n.pl.ai=6 from h6)];rfl
   rw[e];refine fH Tryz.func54 [.c (.pointer (some ⟨b,0,none⟩)),.agg (vo n)] ?_;repeat' ((conv=>whnf)<;>first|refine tJ ?_|(show dn ..;refine aM sa n.a.toNat hsa aa aa ?_)|(show gZ ..;(refine bN (λR w' h=>by rw[<-hsa];exact aH h hd.st) _ _ (Ih a1) rfl ?_))|(show cO _ 2 ..;refine mV [9] _ alE ?_)|refine a_ ?_|refine ag ?_ ?_<;>intro _)
   all_goals(conv=>whnf)
   all_goals exact bZ (λ_ _ h=>h) (λ_=>rfl) rfl
end
end
def inN(u:ax)(lo hi:Int):ak:=⟨1,0,0,u,lo,hi,0,cK,cK⟩
def an5(v:ax):ak:=⟨8,0,0,cK,0,0,0,v,cK⟩
def g2(nb:Option Addr)(nc:Nat)(u v:ax)(lo hi:Int):bM:=⟨nb,nc,[inN u lo hi,an5 v],1⟩
theorem abQ{l:List Int}(h:∀x∈l,fJ x):nR l=true:=akM.2 λx hx=>by have:=h x hx;unfold fJ at this;simpa using this
def ah0(m:Int)(s:Sp):Int:=max (max (max (max m s.1) (0-s.1)) s.2) (0-s.2)
theorem aqs:∀{l:List Sp} {m:Int},0<=m->m<=1048576->(∀s∈l,fJ s.1/\fJ s.2)->0<=l.foldl ah0 m/\l.foldl ah0 m<=1048576
 |[],m,h0,h1,_=>⟨h0,h1⟩
 |s::r,m,h0,h1,h=>by
  have hs:=h s YV;unfold fJ at hs;exact aqs (l:=r) (m:=ah0 m s) (by unfold ah0;omega) (by unfold ah0;omega) (λx hx=>h x (aeg _ hx))
theorem agH:Tryz.prog.cellsOf 58=2:=by kernel_rfl
theorem agx:Tryz.prog.cellsOf 3=1:=by kernel_rfl
theorem EN{x:Int}(h:i64 x):(Lit.int .i64 x).wf=true:=by
 simp[Lit.wf,IntKind.min,IntKind.max,IntKind.signed,IntKind.bits];exact⟨h.1,by have:=h.2;omega⟩
def Kw(s:Sp):List Lit:=[.int .i64 s.1,.int .i64 s.2]
theorem abh(s:Sp)(h1:i64 s.1)(h2:i64 s.2):Tryz.prog.keyLits 2 58 [.int .i64 s.1,.int .i64 s.2]=some (Kw s):=by
 simp[Program.keyLits,Tryz.underlying58,agH,List.mapM_cons,Tryz.underlying3,agx,EN h1,EN h2]
 rfl
theorem acX{s t:Sp}(h1:i64 s.1)(h2:i64 s.2)(h3:i64 t.1)(h4:i64 t.2){ox oy:Operand}{K:SV->Prop}(hy:s=t->K (.c (.bool true)))(hn:s≠t->K (.c (.bool false))):mi Tryz.prog (do eqGuard .eql 58 ox oy (o7 s) (o7 t);binOp .eql 58 (o7 s) (o7 t)) K:=by
 have hK:K (.c (.bool (decide (s=t)))):=by
  by_cases h:s=t
  ·rw[decide_eq_true h];exact hy h
  ·rw[decide_eq_false h];exact hn h
 rw[yR];refine⟨_,λw=> ?_,hK⟩;have g1:(eqGuard .eql 58 ox oy (o7 s) (o7 t)).run Tryz.prog w= .ok () w:=by
  have:Tryz.prog.eqGuardType Tryz.prog.depth 58=false:=by kernel_rfl
  simp[eqGuard,o7,this]
 obtain⟨r,q2,q3⟩:=run_equalIn_deep (P:=Tryz.prog) 9998 2 58 bg w 2 2 (o7 s) (o7 t) (Kw s) (Kw t) OO OO (abh s h1 h2) (abh t h3 h4);have hr:r=decide (s=t):=by
  have e:Kw s=Kw t↔s=t:=by
   obtain⟨a,b⟩:=s;obtain⟨c,d⟩:=t;simp[Kw]
  rw[e]at q3;cases r with
  |true=>exact(decide_eq_true (q3.1 rfl)).symm
  |false=>exact(decide_eq_false (λh=>by have:=q3.2 h;cases this)).symm
 subst hr;have h5:(Op.equal 58 (o7 s) (o7 t)).run Tryz.prog w= .ok (decide (s=t)) w:=q2;simp only[Sem.run_bind,g1,Result.andThen_ok];simp[o7,binOp]at h5|-
 rw[h5];rfl
theorem HV(w:World)(n:ak):Calls Tryz.prog 147 #[n.p9] w λe w'=>e= .returned (o7 (n.lo,n.hi))/\Ext w w':=by
 refine fH Tryz.func147 [.agg (vo n)] ?_;repeat' ((conv=>whnf)<;>first|refine a_ ?_)
 all_goals(conv=>whnf)
 all_goals exact bZ (λ_ _ h=>h) (λ_=>rfl) rfl
theorem adD(w:World)(m n:ak)(hm:m.ok w)(hn:n.ok w):Calls Tryz.prog 113 #[m.p9,n.p9] w λe w'=>e= .returned (.bool (G8 m.pl n.pl))/\Ext w w':=by
 refine fH Tryz.func113 [.agg [aC m.ai,aC m.a,aC m.b,.c m.az.val,aC m.lo,aC m.hi,aC m.size,.c m.data.val,.c m.aQ.val],.agg (vo n)] ?_;repeat' ((conv=>whnf)<;>first|(show jQ _ 147 [.agg [aC m.ai,aC m.a,aC m.b,.c m.az.val,aC m.lo,aC m.hi,aC m.size,.c m.data.val,.c m.aQ.val]] ..;refine jo (f:=147) Tryz.call147 (o7 (m.lo,m.hi)) (λρ w' hw=>HV w' m) ?_)|(show jQ _ 147 [.agg (vo n)] ..;refine jo (f:=147) Tryz.call147 (o7 (n.lo,n.hi)) (λρ w' hw=>HV w' n) ?_)|(show mi ..;((refine acX (s:=(m.lo,m.hi)) (t:=(n.lo,n.hi)) hm.nk hm.ng hn.nk hn.ng ?_ ?_<;>intro _)))|(show jQ _ 62 [.c m.az.val,.c n.az.val] ..;((refine sS (f:=62) Tryz.call62 (decide (m.az.xs=n.az.xs)) (λρ w' hw=>tK w' m.az n.az (ae hw λR h=>hm.az.later h) (ae hw λR h=>hn.az.later h)) ?_ ?_<;>intro _)))|(show jQ _ 62 [.c m.data.val,.c n.data.val] ..;((refine sS (f:=62) Tryz.call62 (decide (m.data.xs=n.data.xs)) (λρ w' hw=>tK w' m.data n.data (ae hw λR h=>hm.data.later h) (ae hw λR h=>hn.data.later h)) ?_ ?_<;>intro _)))|(show jQ _ 62 [.c m.aQ.val,.c n.aQ.val] ..;((refine sS (f:=62) Tryz.call62 (decide (m.aQ.xs=n.aQ.xs)) (λρ w' hw=>tK w' m.aQ n.aQ (ae hw λR h=>hm.aQ.later h) (ae hw λR h=>hn.aQ.later h)) ?_ ?_<;>intro _)))|refine bV ?_|refine ag ?_ ?_<;>intro _)
 all_goals(conv=>whnf)
 all_goals exact bq (λ_ _ h=>h) rfl (by simp_all [G8,ak.pl])
theorem RJ(w:World)(x n:ak)(c:Nat)(hx:x.ok w)(hn:n.ok w)(hc:bE w (some ⟨c,0,none⟩) 9 (bO [n])):Calls Tryz.prog 112 #[x.p9,.pointer (some ⟨c,0,none⟩)] w λe w'=>e= .returned (.bool (G8 x.pl n.pl))/\Ext w w':=by
 refine fH Tryz.func112 [.agg [aC x.ai,aC x.a,aC x.b,.c x.az.val,aC x.lo,aC x.hi,aC x.size,.c x.data.val,.c x.aQ.val],.c (.pointer (some ⟨c,0,none⟩))] ?_;repeat' ((conv=>whnf)<;>first|(show lK ..;refine gI (j:=0) (xs:=bO [n]) (λR w' h=>aH h hc) n.cells rfl rfl ?_)|(show aJ _ 113 ..;refine aR (f:=113) Tryz.call113 (.bool (G8 x.pl n.pl)) (λρ w' hw=>adD w' x n (ae hw λR h=>hx.later h) (ae hw λR h=>hn.later h)) ?_)|refine a_ ?_)
 all_goals(conv=>whnf)
 all_goals exact bq (λ_ _ h=>h) rfl rfl
def Zn(n:aN)(row:List aN):Int:=match Fa n row 0 with|some k=>k|none=> -1
theorem ac3{n p:aN}{r:List aN}{k:Nat}:Fa n (p::r) k=if G8 p n=true then some k else Fa n r (k+1):=rfl
theorem Ec(w:World)(n:ak)(c:Nat)(hn:n.ok w)(hc:bE w (some ⟨c,0,none⟩) 9 (bO [n]))(nb:Option Addr)(nc:Nat)(kept:List ak)(hk:bE w nb 9 (bO kept))(hko:∀k∈kept,k.ok w)(ug:kept.length<=1000000):
 Calls Tryz.prog 111 #[.slice nb kept.length nc,.func (.func 112) #[] #[.pointer (some ⟨c,0,none⟩)]] w λe w'=>e= .returned (.int .i64 (Zn n.pl (kept.map ak.pl)))/\Ext w w':=by
 refine fH Tryz.func111 [.c (.slice nb kept.length nc),.c (.func (.func 112) #[] #[.pointer (some ⟨c,0,none⟩)])] ?_;repeat' ((conv=>whnf)<;>first|refine a_ ?_|refine ag ?_ ?_<;>intro _)
 refine Wp.loop (σ:=Nat) 0 (λk=>[(0,.c (.slice nb kept.length nc)),(1,.c (.func (.func 112) #[] #[.pointer (some ⟨c,0,none⟩)])),(7,aC kept.length),(8,aC k)]) (λ_=>[]) (λ_=>aU w)
  (λk=>k<=kept.length/\Fa n.pl ((kept.drop k).map ak.pl) k=Fa n.pl (kept.map ak.pl) 0) (λk=>kept.length-k) 0 [] ay (λs=>⟨rfl,rfl⟩) ⟨by simp,rfl⟩ ⟨rfl,⟨rfl,rfl,rfl,rfl,trivial⟩,trivial,λR w' h=>h⟩ ?_
 rintro k ⟨hkl,he⟩;by_cases hlt:k<kept.length
 ·obtain⟨a,ha⟩:∃a,nb=some a:=aT (j:=k) hk ko;rw[ahc hlt,afY,ac3]at he;have hrow:=fP hlt;have hxo:=hko _ (aby hlt);generalize kept[k]=x at*;cases hs:G8 x.pl n.pl with
  |true=>
   rw[if_pos hs]at he;repeat' ((conv=>whnf)<;>first|(show dn ..;refine aM a k ha rfl hlt ?_)|(show lK ..;(refine gI (λR w' h=>by rw[<-ha];exact aH h hk) _ hrow rfl ?_))|(show aJ _ 112 ..;(refine aR (f:=112) Tryz.call112 (.bool true) (λρ w' hw=>by have:=RJ w' x n c (ae hw λR h=>hxo.later h) (ae hw λR h=>hn.later h) (ae hw λR h=>aH h hc);rw[hs]at this;exact this) ?_))|refine a_ ?_|refine ag ?_ ?_<;>intro _)
   all_goals(conv=>whnf)
   all_goals exact bZ (λ_ _ h=>h) (λ_=>by unfold Zn;rw[<-he];rfl) rfl
  |false=>
   rw[if_neg (by rw[hs];simp)]at he;repeat' ((conv=>whnf)<;>first|(show dn ..;refine aM a k ha rfl hlt ?_)|(show lK ..;(refine gI (λR w' h=>by rw[<-ha];exact aH h hk) _ hrow rfl ?_))|(show aJ _ 112 ..;(refine aR (f:=112) Tryz.call112 (.bool false) (λρ w' hw=>by have:=RJ w' x n c (ae hw λR h=>hxo.later h) (ae hw λR h=>hn.later h) (ae hw λR h=>aH h hc);rw[hs]at this;exact this) ?_))|refine a_ ?_|refine ag ?_ ?_<;>intro _)
   all_goals(conv=>whnf)
   all_goals exact⟨k+1,[],⟨hlt,he⟩,by omega,rfl,fE,trivial,λR w' h=>h⟩
 ·rw[amC aa]at he;repeat' ((conv=>whnf)<;>first|refine a_ ?_|refine ag ?_ ?_<;>intro _)
  conv=>whnf
  exact bZ (λ_ _ h=>h) (λ_=>by unfold Zn;rw[<-he];rfl) rfl
section
inductive Reach(row:List aN):Nat->Nat->Prop
 |refl (k:Nat):Reach row k k
 |step {k j:Nat} {t:Int} (h:Reach row k j) (ht:t∈eX (row.getD j dh)):Reach row k t.toNat
variable {row:List aN} {k j:Nat}
theorem Reach.head{t:Int}(ht:t∈eX (row.getD k dh))(h:Reach row t.toNat j):Reach row k j:=by
 induction h with
 |refl=>exact .step (.refl k) ht
 |step _ h2 ih=>exact .step ih h2
def uZ(s:Nat->Bool):Int->Option Value:=λj=>if 0<=j/\s j.toNat=true then some (.bool true)else none
def jM(s:Nat->Bool)(k:Nat):Nat->Bool:=λj=>decide (j=k)||s j
theorem aeJ(s:Nat->Bool)(k:Nat):Az (uZ s) k (.bool true)=uZ (jM s k):=by
 funext j
 unfold Az uZ jM;by_cases h:j=k
 ·subst h;rw[if_pos rfl];simp
 ·rw[if_neg h];by_cases h0:0<=j
  ·have:j.toNat≠k:=by omega
   simp[this,h0]
  ·rw[if_neg aa,if_neg aa]
theorem af9(s:Nat->Bool)(k:Nat):(uZ s k).getD (.bool false)= .bool (s k):=by
 unfold uZ;by_cases h:s k=true
 ·rw[if_pos ⟨by omega,by simpa using h⟩,h];rfl
 ·rw[if_neg wU];have:s k=false:=by simpa using h
  rw[this];rfl
structure nT(row:List aN)(k:Nat)(s s':Nat->Bool):Prop where
 sub:∀j,s j=true->s' j=true
 at_:s' k=true
 closed:∀j,s' j=true->s j=false->∀t∈eX (row.getD j dh),s' t.toNat=true
 reach:∀j,s' j=true->s j=false->Reach row k j
variable {s:Nat->Bool}
theorem nT.same(h:s k=true):nT row k s s:=
 ⟨λ_ h=>h,h,λj h1 h2=>(by rw[h1]at h2;cases h2),λj h1 h2=>(by rw[h1]at h2;cases h2)⟩
theorem Lj(s:Nat->Bool)(k:Nat):jM s k k=true:=by simp[jM]
theorem SS(h:jM s k j=true)(hj:s j=false):j=k:=by
 unfold jM at h;rw[hj]at h;simpa using h
theorem nT.none(h:eX (row.getD k dh)=[]):nT row k s (jM s k):=
 ⟨λj h=>by unfold jM;rw[h];simp,Lj s k,λj h1 h2 t ht=>(by rw[SS h1 h2,h]at ht;cases ht),λj h1 h2=>(by rw[SS h1 h2];exact .refl k)⟩
variable {s1:Nat->Bool}
theorem abV(h:∀j,jM s k j=true->s1 j=true):(∀j,s j=true->s1 j=true)/\s1 k=true:=
 ⟨λj hj=>h j (by unfold jM;rw[hj];simp),h k (Lj s k)⟩
theorem nT.one{a:Int}(h:eX (row.getD k dh)=[a])(h1:nT row a.toNat (jM s k) s1):nT row k s s1:=by
 obtain⟨q1,q2⟩:=abV h1.sub;have new:∀j,s j=false->j≠k->jM s k j=false:=λj hj hk=>by unfold jM;rw[hj];simp[hk]
 refine⟨q1,q2,λj hj hs t ht=> ?_,λj hj hs=> ?_⟩
 ·by_cases hjk:j=k
  ·subst hjk;rw[h]at ht;simp at ht;subst ht;exact h1.at_
  ·exact h1.closed j hj (new j hs hjk) t ht
 ·by_cases hjk:j=k
  ·subst hjk;exact .refl _
  ·exact(h1.reach j hj (new j hs hjk)).head (by rw[h];simp)
theorem nT.two{a b:Int}{s2:Nat->Bool}(h:eX (row.getD k dh)=[a,b])(h1:nT row b.toNat (jM s k) s1)(h2:nT row a.toNat s1 s2):nT row k s s2:=by
 obtain⟨q1,q2⟩:=abV h1.sub;have new:∀j,s j=false->j≠k->jM s k j=false:=λj hj hk=>by unfold jM;rw[hj];simp[hk]
 refine⟨λj hj=>h2.sub j (q1 j hj),h2.sub k q2,λj hj hs t ht=> ?_,λj hj hs=> ?_⟩
 ·by_cases hjk:j=k
  ·subst hjk;rw[h]at ht;simp only[abr,aiF,or_false]at ht;rcases ht with rfl|rfl
   ·exact h2.at_
   ·exact h2.sub _ h1.at_
  ·cases h3:s1 j with
   |true=>exact h2.sub _ (h1.closed j h3 (new j hs hjk) t ht)
   |false=>exact h2.closed j hj h3 t ht
 ·by_cases hjk:j=k
  ·subst hjk;exact .refl _
  ·cases h3:s1 j with
   |true=>exact(h1.reach j h3 (new j hs hjk)).head (by rw[h];simp)
   |false=>exact(h2.reach j hj h3).head (by rw[h];simp)
theorem aeR(h:nT row k (λ_=>false) s)(j:Nat):s j=true↔Reach row k j:=by
 constructor
 ·exactλhj=>h.reach j hj rfl
 ·intro hr;induction hr with
  |refl=>exact h.at_
  |step _ ht ih=>exact h.closed _ ih rfl _ ht
variable {w:World} {b r nc sc:Nat} {nb sb:Option Addr} {kept:List ak} {st:List Int}
theorem om.rest{w':World}{R:Nat->Prop}{m:Int->Option Value}(h:om w b nb nc kept sb sc st)(hm:kH r m w)(hr:(l8 w (λx=>x=r)).holds R w'):om w' b nb nc kept sb sc st:=
 ⟨Qq hm h.c0 hr,Qq hm h.c2 hr,Ms hm h.nodes hr,Ms hm h.st hr⟩
theorem acn:(Tryz.prog.info? 4).bind (·.zero)=some (.bool false):=by kernel_rfl
variable {H:Heap} {S:bR} {i:Nat} {B:Base} {tb:List (Nat×TI)}
theorem Oo{K:SV->Prop}{n:Nat}(hi:(i,b_.ext (lC r (uZ s)))∈H){v:Bool}(hv:s k=v)(h:K (.c (.bool v))):Ce ⟨Tryz.prog,B,n,tb⟩ 112 (.c (.map (some r))) (aC k) false H S K:=by
 have hz:=acn;cases ht:Tryz.prog.info? 4 with
 |none=>rw[ht]at hz;cases hz
 |some ti=>
  rw[ht]at hz;refine abv (z:= .bool false) Tryz.underlying112 Tryz.underlying3 ht (by simpa using hz) hi ?_;rw[if_neg ay,af9,hv];exact h
theorem ah_{K:Heap->Prop}{n:Nat}(hi:(i,b_.ext (lC r (uZ s)))∈H)(h:Ed i (.ext (lC r (uZ (jM s k)))) K H):qV ⟨Tryz.prog,B,n,tb⟩ 112 (.c (.map (some r))) (aC k) (.c (.bool true)) H S K:=
 Ji Tryz.underlying112 Tryz.underlying3 hi (by rw[aeJ];exact h)
theorem Db{v:SV}{nx:Nat}{p:(Nat->Bool)->Prop}(hB:B=⟨w,[]⟩)(hS:∀R w',S.holds R w'->(l8 w (λx=>x=r)).holds R w')(hi:(i,b_.ext (lC r (uZ s)))∈H)(hv:∀ρ,v.rf ρ= .tuple #[])(hp:p s):jS B v H S nx (L8 w r (λ_=> .tuple #[]) uZ p):=by
 subst hB;exact dK λρ w' hw=>⟨s,hp,by rw[hv],(abz hw hS hi).1,(abz hw hS hi).2⟩
theorem Qn{b:Nat}{nb sb:Option Addr}{nc sc:Nat}{kept:List ak}{st:List Int}{df:List (List Int)}{dU:List Sp}{r:Nat}(hR:dD (kept.map ak.pl) df dU):∀(N k:Nat),k<N->k<kept.length->∀(w:World) (s:Nat->Bool),om w b nb nc kept sb sc st->kH r (uZ s) w->
 Calls Tryz.prog 57 #[.pointer (some ⟨b,0,none⟩),.int .i64 k,.map (some r)] w (L8 w r (λ_=> .tuple #[]) uZ (nT (kept.map ak.pl) k s))
 |0,k,h,_,_,_,_,_=>absurd h (ahf _)
 |N+1,k,hkN,hk,w,s,hd,hm=>by
  have ih:=Qn (b:=b) (nb:=nb) (sb:=sb) (nc:=nc) (sc:=sc) (st:=st) (r:=r) hR N;cases hs:s k with
  |true=>
   refine zzF Tryz.func57 [] (λ_=>⟨none,0⟩) [.c (.pointer (some ⟨b,0,none⟩)),aC k,.c (.map (some r))] [(0,.ext (lC r (uZ s)))] (l8 w (λx=>x=r)) 1 (abD hm) ?_;repeat' ((conv=>whnf)<;>first|refine Au ?_|refine a_ ?_)
   all_goals(conv=>whnf)
   all_goals exact Db rfl (λ_ _ h=>h) aj (λ_=>rfl) (nT.same hs)
  |false=>
   have hkr:k<(kept.map ak.pl).length:=by rw[aas];exact hk
   have hah:=hR.ahead (getD_some hkr);have hrk:(kept.map ak.pl).getD k dh=kept[k].pl:=by rw[TR,ab5,YL hk];rfl
   rw[hrk]at hah;have hrow:=fP hk;obtain⟨na,hna⟩:∃a,nb=some a:=aT (j:=k) hd.nodes ko;generalize kept[k]=n at*;have kk:n.pl.ai=n.ai:=rfl;have ka:n.pl.a=n.a:=rfl;have kb:n.pl.b=n.b:=rfl;have ha0:=hah.a0;have hb0:=hah.b0;have ha1:=hah.a1;have hb1:=hah.b1;rw[kk]at ha1 hb1;rw[ka]at ha0 ha1;rw[kb]at hb0 hb1;have ihz:∀(a:Int) (s':Nat->Bool),0<=a->a.toNat<k->∀w',om w' b nb nc kept sb sc st->kH r (uZ s') w'->Calls Tryz.prog 57 #[.pointer (some ⟨b,0,none⟩),.int .i64 a,.map (some r)] w' (L8 w' r (λ_=> .tuple #[]) uZ (nT (kept.map ak.pl) a.toNat s')):=λa s' h0 h1 w' g1 g2=>by
    have:=ih a.toNat aa aa w' s' g1 g2
    rwa[alP h0]at this
   refine zzF Tryz.func57 [] (λ_=>⟨none,0⟩) [.c (.pointer (some ⟨b,0,none⟩)),aC k,.c (.map (some r))] [(0,.ext (lC r (uZ s)))] (l8 w (λx=>x=r)) 1 (abD hm) ?_;by_cases h12:n.ai=1\/n.ai=2
   ·have ht:eX ((kept.map ak.pl).getD k dh)=[]:=by rw[hrk];unfold eX;rw[if_pos (show n.pl.ai=1\/n.pl.ai=2 from h12)]
    repeat' ((conv=>whnf)<;>first|refine Au ?_|refine zY ?_|refine F8 ?_|refine wI ?_|refine EW ?_|refine a_ ?_|refine ag ?_ ?_<;>intro _)
    all_goals(conv=>whnf)
    all_goals exact Db rfl (λ_ _ h=>h) aj (λ_=>rfl) (nT.none ht)
   ·by_cases h6:n.ai=6
    ·have ht:eX ((kept.map ak.pl).getD k dh)=[n.a,n.b]:=by rw[hrk];unfold eX;rw[if_neg (show¬(n.pl.ai=1\/n.pl.ai=2)from h12),if_pos (show n.pl.ai=6 from h6)];rfl
     repeat' ((conv=>whnf)<;>first|refine Au ?_|refine zY ?_|refine F8 ?_|refine wI ?_|refine EW ?_|(show aJ _ 57 [_,aC n.b,_] ..;(refine Ik aj Tryz.call57 (λ_=> .tuple #[]) uZ (nT (kept.map ak.pl) n.b.toNat (jM s k)) (λρ w' hw hm'=>ihz n.b (jM s k) hb0 (hb1 h6) w' (ae hw λR h=>hd.rest hm h) hm') (λs1 h1=> ?_)))|(show aJ _ 57 [_,aC n.a,_] ..;(refine Ik aj Tryz.call57 (λ_=> .tuple #[]) uZ (nT (kept.map ak.pl) n.a.toNat s1) (λρ w' hw hm'=>ihz n.a s1 ha0 (ha1 aa aa) w' (ae hw λR h=>hd.rest hm h) hm') (λs2 h2=> ?_)))|refine a_ ?_|refine ag ?_ ?_<;>intro _)
     all_goals(conv=>whnf)
     all_goals exact Db rfl (λ_ _ h=>h) aj (λ_=>rfl) (nT.two ht h1 h2)
    ·have ht:eX ((kept.map ak.pl).getD k dh)=[n.a]:=by rw[hrk];unfold eX;rw[if_neg (show¬(n.pl.ai=1\/n.pl.ai=2)from h12),if_neg (show¬n.pl.ai=6 from h6)];rfl
     repeat' ((conv=>whnf)<;>first|refine Au ?_|refine zY ?_|refine F8 ?_|refine wI ?_|refine EW ?_|(show aJ _ 57 [_,aC n.a,_] ..;(refine Ik aj Tryz.call57 (λ_=> .tuple #[]) uZ (nT (kept.map ak.pl) n.a.toNat (jM s k)) (λρ w' hw hm'=>ihz n.a (jM s k) ha0 (ha1 aa aa) w' (ae hw λR h=>hd.rest hm h) hm') (λs1 h1=> ?_)))|refine a_ ?_|refine ag ?_ ?_<;>intro _)
     all_goals(conv=>whnf)
     all_goals exact Db rfl (λ_ _ h=>h) aj (λ_=>rfl) (nT.one ht h1)
end
def xJ(u:ax):bR where
 holds R w:=u.xs=[]\/∃b off c,u.base=some ⟨b,off,none⟩/\R b/\w.heap[b]? =some (.cells c 3 (0,0))/\off+u.xs.length<=c.size/\∀(i:Nat) (v:Int),u.xs[i]? =some v->c[off+i]? =some (.int .i64 v)
 stable:=by
  intro R R' w w' hR hw h;rcases h with h|⟨b,off,c,h1,h2,h3,h4⟩
  ·exact .inl h
  ·exact .inr ⟨b,off,c,h1,hR b h2,by rw[hw b h2];exact h3,h4⟩
theorem Dh{u:ax}{R:Nat->Prop}{w:World}(h:(xJ u).holds R w):(bX u).holds R w:=by
 refine⟨kJ,?_⟩;rcases h with h|⟨b,off,c,h1,h2,h3,h4,h5⟩
 ·left;rw[h];rfl
 ·refine .inr ⟨b,off,h1,h2,λi r hi j v hj=> ?_⟩;have hil:i<u.xs.length:=by have:=(abH.1 hi).1;rwa[aP]at this
  rw[eO hil]at hi;simp only[Option.some.injEq]at hi;subst hi;cases j with
  |zero=>
   simp only[amO,Option.some.injEq]at hj;subst hj;have:=h5 i _ (YL hil);simp[World.cell?,h3,this]
  |succ j=>simp at hj
theorem VR{w w':World}{v:Value}{xs:List Int}(h:je w w' v 1 3 (aZ xs))(hf:∀x∈xs,i64 x)(hl:xs.length<=1000000):
 ∃u:ax,u.xs=xs/\u.bF/\v=u.val/\(xJ u).holds (λb=>w.heap.size<=b/\b<w'.heap.size) w':=by
 obtain⟨l,e2,F,hF,hr,hcap,hent⟩:=h;refine⟨⟨l.base,l.cap,xs⟩,rfl,⟨hf,by rw[aP]at hcap;exact hcap,hl⟩,by rw[e2];simp[ax.val,aP],?_⟩;rw[aP]at hcap;rcases hent with⟨h1,h2,_⟩|⟨b,off,c,h1,h2,h3,h4,h5⟩
 ·exact .inl (ahV (by show xs.length=0;omega))
 ·refine .inr ⟨b,off,c,h1,⟨hF b ((h2 b).2 rfl),iT h3⟩,h3,by show off+xs.length<=c.size;omega,λi v hi=> ?_⟩;have hil:=(abH.1 hi).1;have hrow:=eO (xs:=xs) (k:=i) hil;have:=h5 i _ hrow 0 _ rfl;have e:xs[i]=v:=by
   have h0:=YL (l:=xs) hil;have hi':xs[i]? =some v:=hi;rw[h0]at hi';simpa using hi'
  rw[e]at this;simpa using this
def RB(w:World)(xs:List Int)(e:Ending)(w':World):Prop:=
 ∃u:ax,(u.xs=xs/\u.bF)/\e= .returned u.val/\Ext w w'/\(xJ u).holds (λb=>w.heap.size<=b/\b<w'.heap.size) w'
theorem Fw(w:World)(x:ax)(hx:x.ok w):Calls Tryz.prog 32 #[x.val] w (RB w x.xs):=by
 by_cases hl:0<x.xs.length
 ·refine(Du w x hx hl).mono ?_;rintro e w' ⟨v,rfl,he,hn⟩;obtain⟨u,h1,h2,h3,h4⟩:=VR hn hx.fits hx.few;exact⟨u,⟨h1,h2⟩,by rw[h3],he,h4⟩
 ·obtain⟨xb,xc,xs⟩:=x;obtain rfl:xs=[]:=ahV (by show xs.length=0;have:¬0<xs.length:=hl;omega);cases xb with
  |none=>
   refine fH Tryz.func32 [.c (.slice none 0 xc)] ?_;repeat' ((conv=>whnf)<;>first|refine ji (ti 32 rfl) rfl ?_|refine a_ ?_)
   all_goals(conv=>whnf)
   all_goals exact dK λρ w' hw=>⟨cK,⟨rfl,λx hx=>by simp[cK]at hx,Tw _,aae _⟩,rfl,bG hw (λ_ _ h=>h),.inl rfl⟩
  |some a=>
   have hc:Calls Tryz.prog 32 #[.slice (some a) 0 xc] w λe w'=>∃v,e= .returned v/\Ext w w'/\je w w' v 1 3 (aZ []):=by
    refine fH Tryz.func32 [.c (.slice (some a) 0 xc)] ?_;repeat' ((conv=>whnf)<;>first|refine ji (ti 32 rfl) rfl ?_|refine kF (xs:=aZ []) rfl (λR w' h=> .inl rfl) kJ ?_|(show jv ..;refine fU (of_decide_eq_true rfl) ?_)|(show Gn ..;refine mg (of_decide_eq_true rfl) ?_)|refine a_ ?_)
    all_goals(conv=>whnf)
    all_goals exact gT (λ_ _ h=>h) rfl (.head _) rfl
   refine hc.mono ?_;rintro e w' ⟨v,rfl,he,hn⟩;obtain⟨u,h1,h2,h3,h4⟩:=VR hn (λx hx=>by simp at hx) (aae _);exact⟨u,⟨h1,h2⟩,by rw[h3],he,h4⟩
section
def marks(ts:List Int)(nd:List Bool):List Bool:=ts.foldl (λnd t=>nd.set t.toNat true) nd
def aaX(row:List aN):Nat->List Bool->List Bool
 |0,nd=>nd
 |i+1,nd=>aaX row i (if nd.getD i false=true then marks (eX (row.getD i dh)) nd else nd)
def ai_(row:List aN)(out:Nat):List Bool:=aaX row row.length ((List.replicate row.length false).set out true)
def rC(row:List aN)(out:Nat):Nat->Bool:=λj=>(ai_ row out).getD j false
theorem Vd(ts:List Int):∀nd:List Bool,(marks ts nd).length=nd.length:=by
 induction ts with
 |nil=>intro nd;rfl
 |cons t r ih=>intro nd;unfold marks at ih|-;rw[ahb,ih];simp
variable {k:Nat}
theorem NY{nd:List Bool}{j:Nat}(hk:k<nd.length):(nd.set k true).getD j false=if j=k then true else nd.getD j false:=by
 rw[TR,amx];by_cases h:k=j
 ·subst h;rw[if_pos rfl,if_pos hk,if_pos rfl];rfl
 ·rw[if_neg h,if_neg (λe=>h e.symm),TR]
theorem R5:∀{ts:List Int} {nd:List Bool} {j:Nat},(∀t∈ts,t.toNat<nd.length)->((marks ts nd).getD j false=true↔nd.getD j false=true\/∃t∈ts,j=t.toNat)
 |[],nd,j,_=>by simp[marks]
 |t::r,nd,j,h=>by
  have ht:=h t YV;have ih:=R5 (ts:=r) (nd:=nd.set t.toNat true) (j:=j) (λu hu=>by rw[ajc];exact h u (aeg _ hu));have e:marks (t::r) nd=marks r (nd.set t.toNat true):=rfl;rw[e,ih,NY ht];constructor
  ·rintro(h1|⟨u,hu,rfl⟩)
   ·split at h1
    ·rename_i hj;exact .inr ⟨t,YV,hj⟩
    ·exact .inl h1
   ·exact .inr ⟨u,aeg _ hu,rfl⟩
  ·rintro(h1|⟨u,hu,rfl⟩)
   ·left;split
    ·rfl
    ·exact h1
   ·rcases abr.1 hu with rfl|hu
    ·left;rw[if_pos rfl]
    ·exact .inr ⟨u,hu,rfl⟩
variable {row:List aN}
theorem VF(h:gL (row.getD k dh) k):∀t∈eX (row.getD k dh),t.toNat<k:=by
 intro t ht;unfold eX at ht;split at ht
 ·simp at ht
 ·rename_i h12;split at ht
  ·rename_i h6;simp only[abr,aiF,or_false]at ht;rcases ht with rfl|rfl
   ·exact h.a1 aa aa
   ·exact h.b1 h6
  ·simp only[afe]at ht;subst ht;exact h.a1 aa aa
structure agX(row:List aN)(out i:Nat)(nd:List Bool):Prop where
 len:nd.length=row.length
 reach:∀j,nd.getD j false=true->Reach row out j
 closed:∀j,i<=j->nd.getD j false=true->∀t∈eX (row.getD j dh),nd.getD t.toNat false=true
 out:nd.getD out false=true
theorem Yv{row:List aN}{out:Nat}(ha:∀k,k<row.length->gL (row.getD k dh) k):∀(i:Nat) (nd:List Bool),i<=row.length->agX row out i nd->agX row out 0 (aaX row i nd)
 |0,nd,_,h=>h
 |i+1,nd,hi,h=>by
  unfold aaX;refine Yv ha i _ aa ?_;by_cases hb:nd.getD i false=true
  ·rw[if_pos hb];have hlt:=VF (ha i aa);have hl:∀t∈eX (row.getD i dh),t.toNat<nd.length:=λt ht=>by have:=hlt t ht;rw[h.len];omega
   have hm:∀j,((marks (eX (row.getD i dh)) nd).getD j false=true↔nd.getD j false=true\/∃t∈eX (row.getD i dh),j=t.toNat):=λj=>R5 hl;refine⟨by rw[Vd,h.len],λj hj=> ?_,λj hij hj t ht=> ?_,(hm _).2 (.inl h.out)⟩
   ·rcases(hm j).1 hj with h1|⟨t,ht,rfl⟩
    ·exact h.reach j h1
    ·exact .step (h.reach i hb) ht
   ·by_cases hji:j=i
    ·subst hji;exact(hm _).2 (.inr ⟨t,ht,rfl⟩)
    ·rcases(hm j).1 hj with h1|⟨u,hu,rfl⟩
     ·exact(hm _).2 (.inl (h.closed j aa h1 t ht))
     ·have:=hlt u hu;omega
  ·rw[if_neg hb];refine⟨h.len,h.reach,λj hij hj t ht=> ?_,h.out⟩;by_cases hji:j=i
   ·subst hji;exact absurd hj hb
   ·exact h.closed j aa hj t ht
variable {out:Nat}
theorem agu(ha:∀k,k<row.length->gL (row.getD k dh) k)(ho:out<row.length):agX row out 0 (ai_ row out):=by
 have h0:∀j,((List.replicate row.length false).set out true).getD j false=true->j=out:=λj hj=>by
  rw[NY (by simpa using ho)]at hj;split at hj
  ·assumption
  ·rw[TR,amT]at hj;split at hj<;>simp at hj
 refine Yv ha row.length _ (Tw _) ⟨by simp,λj hj=>by rw[h0 j hj];exact .refl _,λj hij hj=>by have:=h0 j hj;omega,by rw[NY (by simpa using ho),if_pos rfl]⟩
theorem n_(ha:∀k,k<row.length->gL (row.getD k dh) k)(ho:out<row.length)(j:Nat):rC row out j=true↔Reach row out j:=by
 have h:=agu ha ho;constructor
 ·exact h.reach j
 ·intro hr;induction hr with
  |refl=>exact h.out
  |step _ ht ih=>exact h.closed _ (aae _) ih _ ht
theorem aff{s:Nat->Bool}(ha:∀k,k<row.length->gL (row.getD k dh) k)(ho:out<row.length)(h:nT row out (λ_=>false) s):s=rC row out:=by
 funext j
 have h1:=aeR h j;have h2:=n_ ha ho j;cases hs:s j<;>cases hn:rC row out j<;>simp_all
theorem dD.BD{df:List (List Int)}{dU:List Sp}(h:dD row df dU):∀k,k<row.length->gL (row.getD k dh) k:=λk hk=>h.ahead (getD_some hk)
def ve(need:Nat->Bool):List aN->Nat->List aN×List Nat->List aN×List Nat
 |[],_,x=>x
 |n::r,i,x=>ve need r (i+1) (if need i=true\/n.ai=1 then(x.1++[bu x.2 n],x.2++[x.1.length])else(x.1,x.2++[0]))
def jl(l:List aN)(sh:List (List Int))(out:Nat):List aN×Nat:=
 ((ve (rC (rG l sh ([],[])).1 ((rG l sh ([],[])).2.getD out 0)) (rG l sh ([],[])).1 0 ([],[])).1,
  (ve (rC (rG l sh ([],[])).1 ((rG l sh ([],[])).2.getD out 0)) (rG l sh ([],[])).1 0 ([],[])).2.getD ((rG l sh ([],[])).2.getD out 0) 0)
structure zR(l:List aN)(sh:List (List Int))(sp:List Sp)(i:Nat)(row:List aN)(st:List Nat):Prop where
 rest:rG (l.drop i) (sh.drop i) (row,st)=rG l sh ([],[])
 len:st.length=i
 few:row.length<=i
 ok:∃df dU,dD row df dU/\Std sh sp df dU st
theorem zC(l:List aN)(sh:List (List Int))(sp:List Sp):zR l sh sp 0 [] []:=⟨rfl,rfl,aae _,[],[],dD.nil,λj hj=>absurd hj (ahf _),λj hj=>absurd hj (ahf _),λj hj=>absurd hj (ahf _)⟩
variable {l:List aN} {sh:List (List Int)} {sp:List Sp} {st:List Nat}
theorem zR.step{i:Nat}(hL:dD l sh sp)(h:zR l sh sp i row st){n:aN}(hn:l[i]? =some n):zR l sh sp (i+1) (o8 (gD sh i) (row,st) n).1 (o8 (gD sh i) (row,st) n).2:=by
 obtain⟨h1,rfl,h3,df,dU,hR,hS⟩:=h;obtain⟨uD,uL,h5,h6⟩:=step_ok hL hR hS hn;have hil:=(abH.1 hn).1;obtain⟨s1,s2,_⟩:=ag4 (gD sh st.length) (row,st) n;simp only at s1 s2;refine⟨?_,s1,by omega,uD,uL,h5,h6⟩;rw[<-h1,ahc hil,ahc (l:=sh) (i:=st.length) ER];have e1:l[st.length]=n:=by rw[YL hil]at hn;simpa using hn
 have e2:sh[st.length]' ER=gD sh st.length:=by unfold gD;rw[TR,YL ER];rfl
 rw[e1,e2]
 rfl
theorem zR.done(h:zR l sh sp l.length row st):rG l sh ([],[])=(row,st):=by
 rw[<-h.rest,akY];rfl
end
end Go.Proofs.YtgndjjdeopfdkaaGreat

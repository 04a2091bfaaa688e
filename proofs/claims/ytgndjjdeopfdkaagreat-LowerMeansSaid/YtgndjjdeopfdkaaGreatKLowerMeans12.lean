import Derived.DeepKeys
import Derived.Test.YtgndjjdeopfdkaaGreatKLowerMeans12d
/- texts UK PI of the proof of LowerMeansSaid -/
set_option maxHeartbeats 16000000
set_option maxRecDepth 20000
set_option linter.unusedVariables false
set_option linter.unusedSimpArgs false
namespace Go.Proofs.YtgndjjdeopfdkaaGreat
open Go.SX Go.RowKit
section
def afl(s:List Int)(n:ak)(x:List Int):Prop:=(x.length:Int)=au s/\n.lo<=foldI min x/\foldI max x<=n.hi
inductive jB(sh:List (List Int)):List ak->List (List Int)->List (List Int)->List (List Int)->Prop
 |nil (known:List (List Int)):jB sh [] known [] []
 |num {n:ak} {r:List ak} {known inp q:List (List Int)} (hk:n.ai≠1) (h:jB sh r (known++[gy sh n known]) inp q):jB sh (n::r) known inp (gy sh n known::q)
 |inp {n:ak} {r:List ak} {known xs q:List (List Int)} {x:List Int} (hk:n.ai=1) (hx:afl (sh.getD known.length []) n x) (h:jB sh r (known++[x]) xs q):jB sh (n::r) known (x::xs) (x::q)
theorem aaN{sh:List (List Int)}:∀{l:List ak} {known inp V:List (List Int)},d9 sh l known inp=(0,V)->∃q,V=known++q/\jB sh l known inp q
 |[],known,inp,V,h=>by
  unfold d9 at h;split at h
  ·simp at h
  ·rename_i h0;obtain rfl:inp=[]:=ahV aa;simp only[Prod.mk.injEq,true_and]at h;exact⟨[],by rw[ajM];exact h.symm,.nil known⟩
 |n::r,known,inp,V,h=>by
  unfold d9 at h;split at h
  ·rename_i hk;obtain⟨q,h1,h2⟩:=aaN h;exact⟨gy sh n known::q,by rw[h1,ahZ];rfl,.num hk h2⟩
  ·rename_i hk;cases inp with
   |nil=>simp at h
   |cons x xs=>
    simp only at h;split at h
    ·simp at h
    ·rename_i hc;obtain⟨q,h1,h2⟩:=aaN h;exact⟨x::q,by rw[h1,ahZ];rfl,.inp aa ⟨by omega,by omega,by omega⟩ h2⟩
variable {sh known inp q:List (List Int)} {l:List ak}
theorem ajL(h:jB sh l known inp q):d9 sh l known inp=(0,known++q):=by
 induction h with
 |nil known=>unfold d9;rw[if_neg aI,ajM]
 |num hk h ih=>
  unfold d9;rw[if_pos hk,ih,ahZ];rfl
 |inp hk hx h ih=>
  unfold d9;rw[if_neg aa];simp only;obtain⟨h1,h2,h3⟩:=hx;rw[if_neg aa,ih,ahZ];rfl
theorem jB.len(h:jB sh l known inp q):q.length=l.length:=by
 induction h with
 |nil=>rfl
 |num _ _ ih=>simp[ih]
 |inp _ _ _ ih=>simp[ih]
theorem jB.split{sh:List (List Int)}:∀{a b:List ak} {known inp q:List (List Int)},jB sh (a++b) known inp q->∃i1 i2 q1 q2,inp=i1++i2/\q=q1++q2/\jB sh a known i1 q1/\jB sh b (known++q1) i2 q2
 |[],b,known,ip,q,h=>⟨[],ip,[],q,rfl,rfl,.nil known,by rw[ajM];exact h⟩
 |n::a,b,known,ip,q,h=>by
  cases h with
  |num hk h=>
   obtain⟨i1,i2,q1,q2,e1,e2,g1,g2⟩:=jB.split (a:=a) h;exact⟨i1,i2,_::q1,q2,e1,by rw[e2];rfl,.num hk g1,by rw[ahZ]at g2;exact g2⟩
  |inp hk hx h=>
   obtain⟨i1,i2,q1,q2,e1,e2,g1,g2⟩:=jB.split (a:=a) h;exact⟨_::i1,i2,_::q1,q2,by rw[e1];rfl,by rw[e2];rfl,.inp hk hx g1,by rw[ahZ]at g2;exact g2⟩
theorem jB.join{a b:List ak}{i1 i2 q1 q2:List (List Int)}(h1:jB sh a known i1 q1)(h2:jB sh b (known++q1) i2 q2):jB sh (a++b) known (i1++i2) (q1++q2):=by
 induction h1 with
 |nil known=>rw[ajM]at h2;exact h2
 |num hk h ih=>exact .num hk (ih (by rw[ahZ];exact h2))
 |inp hk hx h ih=>exact .inp hk hx (ih (by rw[ahZ];exact h2))
theorem jB.wide{sh':List (List Int)}(h:jB sh l known inp q)(hs:∀k,k<known.length+l.length->sh'.getD k []=sh.getD k [])(ha:∀(k:Nat) n,l[k]? =some n->gL n.pl (known.length+k)):jB sh' l known inp q:=by
 induction h with
 |nil known=>exact .nil known
 | @num n r known inp q hk h ih=>
   have hah:=ha 0 n rfl;have e:gy sh n known=gy sh' n known:=by
    unfold gy;rw[hs known.length aI];by_cases h2:n.ai=2
    ·unfold gH;rw[if_neg jF,if_neg jF]
    ·rw[hs n.a.toNat (by
      have:=hah.a1 hk h2;rw[show n.pl.a=n.a from rfl]at this;simp only[ahN];omega)]
   have hi:=ih (λk hk=>hs k O0) (λk m hm=>by
    have:=ha (k+1) m hm;rw[adx,ag_,show known.length+1+k=known.length+(k+1) by omega];exact this)
   rw[e]at hi|-
   exact .num hk hi
 | @inp n r known xs q x hk hx h ih=>
   have hi:=ih (λk hk=>hs k O0) (λk m hm=>by
    have:=ha (k+1) m hm;rw[adx,ag_,show known.length+1+k=known.length+(k+1) by omega];exact this)
   exact .inp hk (by rw[hs known.length aI];exact hx) hi
end
section
variable {sh known:List (List Int)} {m:ak}
theorem ZH{n:ak}(h:n.pl=m.pl):gy sh n known=gy sh m known:=by
 have e:∀z:ak,gy sh z known=gH z.pl.toV (au (sh.getD known.length [])).toNat (sh.getD z.pl.a.toNat []) (known.getD z.pl.a.toNat []) (known.getD z.pl.b.toNat []):=λz=>by
  rw[ahB];rfl
 rw[e n,e m,h]
theorem Zg{s x:List Int}{n:ak}(h:n.pl=m.pl)(hi:afl s n x):afl s m x:=by
 obtain⟨h1,h2,h3⟩:=hi;have e1:n.lo=m.lo:=congrArg aN.lo h;have e2:n.hi=m.hi:=congrArg aN.hi h;exact⟨h1,by omega,by omega⟩
variable {l:List ak} {ip q:List (List Int)}
theorem jB.ai9(h:jB sh l known ip q):∀{m:List ak},m.map ak.pl=l.map ak.pl->jB sh m known ip q:=by
 induction h with
 |nil known=>
  intro m hm;obtain rfl:m=[]:=by cases m with|nil=>rfl|cons _ _=>simp at hm
  exact .nil known
 | @num n r known ip q hk h ih=>
   intro m hm;cases m with
   |nil=>simp at hm
   |cons x m=>
    simp only[afY,List.cons.injEq]at hm;have ek:x.ai=n.ai:=congrArg aN.ai hm.1;have:=ih hm.2;rw[<-ZH hm.1]at this|-
    exact .num aa this
 | @inp n r known xs q x hk hx h ih=>
   intro m hm;cases m with
   |nil=>simp at hm
   |cons y m=>
    simp only[afY,List.cons.injEq]at hm;have ek:y.ai=n.ai:=congrArg aN.ai hm.1;exact .inp aa (Zg hm.1.symm hx) (ih hm.2)
theorem jB.val(h:jB sh l [] ip q){k:Nat}{n:ak}(hn:l[k]? =some n)(hk:n.ai≠1):q.getD k []=gy sh n (q.take k):=by
 have hkl:=(abH.1 hn).1;have e:l=l.take k++n::l.drop (k+1):=by
  have h1:=ahc hkl;have h2:l[k]=n:=by rw[YL hkl]at hn;simpa using hn
  rw[<-h2,<-h1,List.take_append_drop]
 rw[e]at h;obtain⟨i1,i2,q1,q2,rfl,rfl,g1,g2⟩:=h.split;have hl1:=g1.len;rw[aek,ajY aa]at hl1;cases g2 with
 |num _ g2=>
  rw[List.take_left' hl1,TR,ahg aa,hl1,aiH]
  rfl
 |inp hk1 _ _=>exact absurd hk1 hk
end
section
theorem yI{n:ak}(h2:n.ai=2)(cnt:Nat)(t t' a a' b b':List Int):gH n cnt t a b=gH n cnt t' a' b':=by
 unfold gH;rw[if_neg jF,if_neg jF];unfold o5 gu;simp only[if_pos h2]
section
variable {sh df:List (List Int)} {sp dU:List Sp} {st:List Nat} {n:aN} {V W:List (List Int)} {row:List aN}
theorem aap(hS:Std sh sp df dU st)(hah:gL n st.length)(hVW:∀k,k<st.length->W.getD (st.getD k 0) []=V.getD k [])(h1:n.ai≠1)(cnt:Nat):
 gH (bu st n).toV cnt (gD df (bu st n).a.toNat) (W.getD (bu st n).a.toNat []) (W.getD (bu st n).b.toNat [])=gH n.toV cnt (gD sh n.a.toNat) (V.getD n.a.toNat []) (V.getD n.b.toNat []):=by
 obtain⟨e0,ek,ea,_,eb,_⟩:=lU st n;rw[e0,SG];by_cases h2:n.ai=2
 ·exact yI (n:=n.toV) h2 _ _ _ _ _ _ _
 ·have ha:=hah.a1 h1 h2;rw[ea h1 h2,ahh,hS.sh _ ha,hVW _ ha];by_cases h6:n.ai=6
  ·have hb:=hah.b1 h6;rw[eb h6,ahh,hVW _ hb]
  ·exact tF (n:=n.toV) h6 _ _ _ _ _
theorem adn(hR:dD row df dU){s:List Int}(hm:jb (bu st n).toV df s)(hW:∀k,k<row.length->(row.getD k dh).ai=2->W.getD k []=(row.getD k dh).data):
 gH (kg s row (bu st n)).toV (au s).toNat (gD df (kg s row (bu st n)).a.toNat) (W.getD (kg s row (bu st n)).a.toNat []) (W.getD (kg s row (bu st n)).b.toNat [])=gH (bu st n).toV (au s).toNat (gD df (bu st n).a.toNat) (W.getD (bu st n).a.toNat []) (W.getD (bu st n).b.toNat []):=by
 unfold kg;by_cases hk:jO row (bu st n)=true
 ·rw[if_pos hk];have hK:=BV hR hm hk;have hl:=(Qf hR hm hK).2;have hpos:=jG (dJ hm.form) hR.pos hm.az rfl;have e1:∀t a b,gH (aN.toV ⟨2,0,0,s,0,0,0,lm s row (bu st n),[]⟩) (au s).toNat t a b=lm s row (bu st n):=λt a b=>by
   have h:=wK (p:=⟨2,0,0,s,0,0,0,lm s row (bu st n),[]⟩) (sh:=[s]) (known:=[]) rfl (by show((lm s row (bu st n)).length:Int)=au s;rw[hl];omega) rfl;unfold gy at h;exact(yI (n:=aN.toV ⟨2,0,0,s,0,0,0,lm s row (bu st n),[]⟩) rfl _ t _ a _ b _).trans h
  rw[e1];unfold lm;rw[hK.aSh,hW _ hK.NZ hK.aK];by_cases h6:(bu st n).ai=6
  ·rw[if_pos h6,hW _ (hK.bLt h6) (hK.bK h6)]
  ·rw[if_neg h6];exact tF (n:=(bu st n).toV) h6 _ _ _ _ _
 ·rw[if_neg hk]
end
end
section
structure X3(l:List aN)(sh:List (List Int))(sp:List Sp)(inp V:List (List Int))(i:Nat)(row:List aN)(st:List Nat)(df:List (List Int))(dU:List Sp)(ip W:List (List Int)):Prop where
 at_:zR l sh sp i row st
 ok:dD row df dU
 std:Std sh sp df dU st
 run:jB df (row.map aN.toV) [] ip W
 rest:∃ip2,inp=ip++ip2/\jB sh ((l.drop i).map aN.toV) (V.take i) ip2 (V.drop i)
 vals:∀k,k<i->W.getD (st.getD k 0) []=V.getD k []
theorem XL{l:List aN}{sh:List (List Int)}{sp:List Sp}{inp V:List (List Int)}(h:jB sh (l.map aN.toV) [] inp V):X3 l sh sp inp V 0 [] [] [] [] [] []:=
 ⟨zC l sh sp,dD.nil,⟨λj hj=>absurd hj (ahf _),λj hj=>absurd hj (ahf _),λj hj=>absurd hj (ahf _)⟩,.nil [],⟨inp,rfl,h⟩,λk hk=>absurd hk (ahf _)⟩
variable {row:List aN} {df ip W:List (List Int)} {dU:List Sp} {k:Nat}
theorem ZZ(hR:dD row df dU)(h:jB df (row.map aN.toV) [] ip W)(hk:k<row.length)(h2:(row.getD k dh).ai=2):W.getD k []=(row.getD k dh).data:=by
 have hg:(row.map aN.toV)[k]? =some (row.getD k dh).toV:=by rw[ab5,getD_some hk];rfl
 have hne:(row.getD k dh).toV.ai≠1:=by
  show(row.getD k dh).ai≠1;omega
 rw[h.val hg hne];obtain⟨c1,c2,_⟩:=M_ hR hk h2;have hl:=h.len;rw[aas]at hl;refine wK h2 c2 ?_;rw[aek,ajY aa];exact c1
theorem ah8(hR:dD row df dU)(h:jB df (row.map aN.toV) [] ip W){m:aN}(hm:row[k]? =some m)(h1:m.ai≠1):W.getD k []=gH m.toV (au (gD df k)).toNat (gD df m.a.toNat) (W.getD m.a.toNat []) (W.getD m.b.toNat []):=by
 have hk:=(abH.1 hm).1;have hg:(row.map aN.toV)[k]? =some m.toV:=by rw[ab5,hm];rfl
 have hne:m.toV.ai≠1:=h1;rw[h.val hg hne];have hl:=h.len;rw[aas]at hl;have hah:=hR.ahead hm;unfold gy;rw[aek,ajY aa];have ht:∀j,j<k->(W.take k).getD j []=W.getD j []:=λj hj=>by
  rw[TR,TR,aop hj]
 by_cases h2:m.ai=2
 ·exact yI (n:=m.toV) h2 _ _ _ _ _ _ _
 ·have ea:m.toV.a=m.a:=rfl;have eb:m.toV.b=m.b:=rfl;rw[ea,eb,ht _ (hah.a1 h1 h2)];by_cases h6:m.ai=6
  ·rw[ht _ (hah.b1 h6)]
  ·exact tF (n:=m.toV) h6 _ _ _ _ _
end
section
variable {s:List Int} {row:List aN} {st:List Nat}
theorem adi{n:aN}:(kg s row (bu st n)).ai=1↔n.ai=1:=by
 have ek:=(lU st n).2.1;unfold kg;by_cases hk:jO row (bu st n)=true
 ·rw[if_pos hk];constructor
  ·intro h;exact absurd (show(2:Int)=1 from h) ay
  ·intro h;unfold jO at hk;rw[ek,decide_eq_true (.inl h)]at hk;simp at hk
 ·rw[if_neg hk,ek]
theorem Y3{n:aN}(h:n.ai=1):kg s row (bu st n)=n:=by
 have e:bu st n=n:=by unfold bu;rw[if_pos (.inl h)]
 rw[e];unfold kg;rw[if_neg];unfold jO;rw[decide_eq_true (.inl h)];simp
variable {y:List Int} {k:Nat}
theorem PS{p:List (List Int)}(h:k<p.length):(p++[y]).getD k []=p.getD k []:=by
 rw[TR,TR,ag9 h]
theorem OE{p:List (List Int)}(h:k=p.length):(p++[y]).getD k []=y:=by
 subst h;rw[TR,ahg (Tw _),aiH];rfl
variable {df ip W:List (List Int)} {dU:List Sp} {m:aN}
theorem jB.XU(hR:dD row df dU)(h:jB df (row.map aN.toV) [] ip W)(hm:gL m row.length)(h1:m.ai≠1)(s:List Int):jB (df++[s]) ((row++[m]).map aN.toV) [] ip (W++[gH m.toV (au s).toNat (gD df m.a.toNat) (W.getD m.a.toNat []) (W.getD m.b.toNat [])]):=by
 have hl:=h.len;rw[aas]at hl;have hw:=h.wide (sh':=df++[s]) (λk hk=>tX (by rw[hR.oK];simpa using hk)) (λk n hn=>by
  rw[ab5]at hn;cases hr:row[k]? with
  |none=>rw[hr]at hn;simp at hn
  |some p=>
   rw[hr]at hn;simp only[amk,Option.some.injEq]at hn;subst hn;rw[amn,aiD];exact hR.ahead hr)
 have e:gy (df++[s]) m.toV W=gH m.toV (au s).toNat (gD df m.a.toNat) (W.getD m.a.toNat []) (W.getD m.b.toNat []):=by
  unfold gy;rw[show(df++[s]).getD W.length []=s from vG (by rw[hR.oK];exact hl)];by_cases h2:m.ai=2
  ·exact yI (n:=m.toV) h2 _ _ _ _ _ _ _
  ·rw[show(df++[s]).getD m.toV.a.toNat []=gD df m.a.toNat from tX (by rw[hR.oK];exact hm.a1 h1 h2)]
   rfl
 rw[<-e,afn,<-ajM ip];exact hw.join (.num (show m.toV.ai≠1 from h1) (.nil _))
theorem jB.Yu(hR:dD row df dU)(h:jB df (row.map aN.toV) [] ip W){x:List Int}(h1:m.ai=1)(hx:afl s m.toV x):jB (df++[s]) ((row++[m]).map aN.toV) [] (ip++[x]) (W++[x]):=by
 have hl:=h.len;rw[aas]at hl;have hw:=h.wide (sh':=df++[s]) (λk hk=>tX (by rw[hR.oK];simpa using hk)) (λk n hn=>by
  rw[ab5]at hn;cases hr:row[k]? with
  |none=>rw[hr]at hn;simp at hn
  |some p=>
   rw[hr]at hn;simp only[amk,Option.some.injEq]at hn;subst hn;rw[amn,aiD];exact hR.ahead hr)
 rw[afn];refine hw.join (.inp (show m.toV.ai=1 from h1) ?_ (.nil _));rw[akg,show(df++[s]).getD W.length []=s from vG (by rw[hR.oK];exact hl)];exact hx
end
section
variable {l:List aN} {i:Nat}
theorem XV{n:aN}(hn:l[i]? =some n):(l.drop i).map aN.toV=n.toV::(l.drop (i+1)).map aN.toV:=by
 have hil:=(abH.1 hn).1;rw[ahc hil,afY];rw[YL hil]at hn;rw[Option.some.inj hn]
variable {V:List (List Int)}
theorem sj(h:i<V.length):V.take (i+1)=V.take i++[V.getD i []]:=by
 rw[List.take_add_one,TR,YL h];rfl
theorem O4(h:i<V.length):V.drop i=V.getD i []::V.drop (i+1):=by
 rw[ahc h,TR,YL h];rfl
variable {k:Nat}
theorem R4(h:k<i):(V.take i).getD k []=V.getD k []:=qU h
variable {sh known ip q:List (List Int)} {r:List ak} {v:List Int}
theorem jB.OW{n:ak}(h:jB sh (n::r) known ip (v::q))(hk:n.ai≠1):v=gy sh n known/\jB sh r (known++[v]) ip q:=by
 cases h with
 |num _ h=>exact⟨rfl,h⟩
 |inp h1 _ _=>exact absurd h1 hk
theorem jB.aql{n:ak}(h:jB sh (n::r) known ip (v::q))(hk:n.ai=1):∃xs,ip=v::xs/\afl (sh.getD known.length []) n v/\jB sh r (known++[v]) xs q:=by
 cases h with
 |num h1 _=>exact absurd hk h1
 |inp _ hx h=>exact⟨_,rfl,hx,h⟩
variable {df:List (List Int)} {sp dU:List Sp} {st:List Nat}
theorem Std.old(h:Std sh sp df dU st)(hk:k<df.length)(e1:gD df k=gD sh st.length)(e2:tight (gS dU k) (gS sp st.length)):Std sh sp df dU (st++[k]):=by
 refine⟨λj hj=> ?_,λj hj=> ?_,λj hj=> ?_⟩;all_goals
  rw[adx,ag_]at hj;rcases ack j st.length with hlt|hge
 ·rw[gV hlt];exact h.lt j hlt
 ·obtain rfl:j=st.length:=by omega
  rw[mY rfl];exact hk
 ·rw[gV hlt];exact h.sh j hlt
 ·obtain rfl:j=st.length:=by omega
  rw[mY rfl];exact e1
 ·rw[gV hlt];exact h.sp j hlt
 ·obtain rfl:j=st.length:=by omega
  rw[mY rfl];exact e2
theorem Std.more(h:Std sh sp df dU st)(hl:dU.length=df.length)(s:List Int)(p:Sp):Std sh sp (df++[s]) (dU++[p]) st:=by
 refine⟨λj hj=> ?_,λj hj=> ?_,λj hj=> ?_⟩;all_goals have:=h.lt j hj
 ·rw[adx];omega
 ·rw[tX this];exact h.sh j hj
 ·rw[zU aa];exact h.sp j hj
theorem VG{n:aN}(hi:i<=V.length)(hah:gL n i)(h1:n.ai≠1):gy sh n.toV (V.take i)=gH n.toV (au (gD sh i)).toNat (gD sh n.a.toNat) (V.getD n.a.toNat []) (V.getD n.b.toNat []):=by
 unfold gy;rw[aek,ajY hi];by_cases h2:n.ai=2
 ·exact yI (n:=n.toV) h2 _ _ _ _ _ _ _
 ·have ea:n.toV.a=n.a:=rfl;have eb:n.toV.b=n.b:=rfl;rw[ea,eb,R4 (hah.a1 h1 h2)];by_cases h6:n.ai=6
  ·rw[R4 (hah.b1 h6)]
  ·exact tF (n:=n.toV) h6 _ _ _ _ _
theorem X3.step{l:List aN}{sh:List (List Int)}{sp:List Sp}{inp V:List (List Int)}{i:Nat}{row:List aN}{st:List Nat}{df:List (List Int)}{dU:List Sp}{ip W:List (List Int)}(hL:dD l sh sp)(hV:V.length=l.length)(h:X3 l sh sp inp V i row st df dU ip W)(hi:i<l.length):∃row' st' uD uL ip' W',X3 l sh sp inp V (i+1) row' st' uD uL ip' W':=by
 obtain⟨h1,hR,hS,hrun,⟨ip2,e1,hrest⟩,BJ⟩:=h;have hlen:=h1.len;subst hlen;have hn:l[st.length]? =some (l.getD st.length dh):=getD_some hi;generalize l.getD st.length dh=n at hn;have h1':=h1.step hL hn;have hah:=hL.ahead hn;obtain⟨hm,ht⟩:=TP hL hR hS hn;have hmv:=(Qb hL hR hS hn).1;have ad5:=(hL.span _ _ hn).2;have hWl:=hrun.len;rw[aas]at hWl;have hW:=λk hk h2=>ZZ (k:=k) hR hrun hk h2;have hiV:st.length<V.length:=by omega
 rw[XV hn,O4 hiV]at hrest;have al6:∀k,k<st.length->st.getD k 0<row.length:=λk hk=>by have:=hS.lt k hk;rw[hR.oK]at this;exact this
 have hmf:=hm.form;rw[hR.oK]at hmf;have hma:=kE hmf;by_cases hk1:n.ai=1
 ·
  have hf:=Y3 (s:=gD sh st.length) (row:=row) (st:=st) hk1;rw[hf]at hm ht hma;have hR':=hR.snoc hm kP kP;have e2:o8 (gD sh st.length) (row,st) n=(row++[n],st++[row.length]):=by
   unfold o8 Bt;simp only[hf];have:rU row n=none:=by unfold rU;rw[if_pos hk1]
   rw[this]
  rw[e2]at h1';obtain⟨xs,e3,hx,hrest⟩:=hrest.aql hk1;rw[aek,ajY aa]at hx;have hr2:=hrun.Yu hR (m:=n) (s:=gD sh st.length) hk1 hx;refine⟨_,_,_,_,_,_,h1',hR',?_,hr2,⟨xs,by rw[e1,e3,ahZ];rfl,by rw[sj hiV];exact hrest⟩,λk hk=> ?_⟩
  ·exact(hS.more (by rw[hR.oK,hR.UT]) _ _).old (k:=row.length) P9 (vG hR.oK.symm) (by rw[Dz hR.UT.symm];exact ht)
  ·rcases ack k st.length with hlt|hge
   ·rw[gV hlt,PS (by rw[hWl];exact al6 k hlt)];exact BJ k hlt
   ·obtain rfl:k=st.length:=by omega
    rw[mY rfl,OE hWl.symm]
 ·obtain⟨hv,hrest⟩:=hrest.OW hk1;have hv2:=VG (sh:=sh) (Nat.le_of_lt hiV) hah hk1;have hval:=(adn hR hmv hW).trans (aap hS hah BJ hk1 (au (gD sh st.length)).toNat);rw[<-hv2]at hval;have hfk:(kg (gD sh st.length) row (bu st n)).ai≠1:=λh=>hk1 (adi.1 h);have e2:o8 (gD sh st.length) (row,st) n=((Bt row (kg (gD sh st.length) row (bu st n))).1,st++[(Bt row (kg (gD sh st.length) row (bu st n))).2]):=rfl;rw[e2]at h1';generalize kg (gD sh st.length) row (bu st n)=m at*;rw[<-ajM ip,<-ajM ip]at e1;unfold Bt at h1';cases hf:rU row m with
  |some k=>
   rw[hf]at h1';obtain⟨_,hk⟩:=zI hf;have hkl:=(abH.1 hk).1;obtain⟨q1,q2⟩:=Oh hR hk hm;have hwk:=ah8 hR hrun hk hfk;rw[q1,hval]at hwk;refine⟨_,_,df,dU,ip,W,h1',hR,hS.old (by rw[hR.oK];exact hkl) q1 (by rw[q2];exact ht),hrun,⟨ip2,by simpa using e1,by rw[sj hiV];exact hrest⟩,λj hj=> ?_⟩;rcases ack j st.length with hlt|hge
   ·rw[gV hlt];exact BJ j hlt
   ·obtain rfl:j=st.length:=by omega
    rw[mY rfl,hwk,hv]
  |none=>
   rw[hf]at h1';have hR':=hR.snoc hm kP kP;have hr2:=hrun.XU hR hma hfk (gD sh st.length);rw[hval]at hr2;refine⟨_,_,_,_,_,_,h1',hR',(hS.more (by rw[hR.oK,hR.UT]) _ _).old (k:=row.length) P9 (vG hR.oK.symm) (by rw[Dz hR.UT.symm];exact ht),hr2,⟨ip2,by simpa using e1,by rw[sj hiV];exact hrest⟩,λj hj=> ?_⟩;rcases ack j st.length with hlt|hge
   ·rw[gV hlt,PS (by rw[hWl];exact al6 j hlt)];exact BJ j hlt
   ·obtain rfl:j=st.length:=by omega
    rw[mY rfl,OE hWl.symm,hv]
end
theorem ah1{sh df:List (List Int)}{st:List Nat}{n:aN}{V W:List (List Int)}(h1:n.ai≠1)(hA:n.ai≠2->gD df (st.getD n.a.toNat 0)=gD sh n.a.toNat/\W.getD (st.getD n.a.toNat 0) []=V.getD n.a.toNat [])(hB:n.ai=6->W.getD (st.getD n.b.toNat 0) []=V.getD n.b.toNat [])(cnt:Nat):
 gH (bu st n).toV cnt (gD df (bu st n).a.toNat) (W.getD (bu st n).a.toNat []) (W.getD (bu st n).b.toNat [])=gH n.toV cnt (gD sh n.a.toNat) (V.getD n.a.toNat []) (V.getD n.b.toNat []):=by
 obtain⟨e0,ek,ea,_,eb,_⟩:=lU st n;rw[e0,SG];by_cases h2:n.ai=2
 ·exact yI (n:=n.toV) h2 _ _ _ _ _ _ _
 ·rw[ea h1 h2,ahh,(hA h2).1,(hA h2).2];by_cases h6:n.ai=6
  ·rw[eb h6,ahh,hB h6]
  ·exact tF (n:=n.toV) h6 _ _ _ _ _
structure U6(row:List aN)(df:List (List Int))(dU:List Sp)(need:Nat->Bool)(inp V:List (List Int))(i:Nat)(r:List aN)(p:List Nat)(uD:List (List Int))(uL:List Sp)(ip W:List (List Int)):Prop where
 at_:uj row df dU need i r p
 ok:dD r uD uL
 place:∀k,k<i->lq row need k->gD uD (p.getD k 0)=gD df k/\tight (gS uL (p.getD k 0)) (gS dU k)
 run:jB uD (r.map aN.toV) [] ip W
 rest:∃ip2,inp=ip++ip2/\jB df ((row.drop i).map aN.toV) (V.take i) ip2 (V.drop i)
 vals:∀k,k<i->lq row need k->W.getD (p.getD k 0) []=V.getD k []
theorem U6.step{row:List aN}{df:List (List Int)}{dU:List Sp}{need:Nat->Bool}{inp V:List (List Int)}{i:Nat}{r:List aN}{p:List Nat}{uD:List (List Int)}{uL:List Sp}{ip W:List (List Int)}(hR:dD row df dU)(hcl:∀k,k<row.length->need k=true->∀t∈eX (row.getD k dh),need t.toNat=true)(hV:V.length=row.length)(h:U6 row df dU need inp V i r p uD uL ip W)(hi:i<row.length):∃r' p' anT anQ ip2 W2,U6 row df dU need inp V (i+1) r' p' anT anQ ip2 W2:=by
 obtain⟨h1,hR',h7,hrun,⟨ip2,e1,hrest⟩,BJ⟩:=h;have hs:=h1.steps hR hcl hi;have hlen:=h1.len;have h4:=h1.at_;subst hlen;have hp:=getD_some hi;have hai:=hR.ahead hp;have hiV:p.length<V.length:=by omega
 rw[XV hp,O4 hiV]at hrest;have hWl:=hrun.len;rw[aas]at hWl;have hl2:=hR'.oK;have hl3:=hR'.UT;have hlt:∀k,k<p.length->lq row need k->p.getD k 0<r.length:=λk hk hq=>(abH.1 (h4 k hk hq)).1;by_cases hk:lq row need p.length
 ·have hc:=hs.1 hk;have hkt:(row.getD p.length dh).ai≠1->∀t∈eX (row.getD p.length dh),lq row need t.toNat:=λhne t ht=> .inl (hcl _ hi (hk.resolve_right hne) t ht);obtain⟨hm,ht⟩:=Wy (st:=p) hR hR' hp
   (λg1 g2=>by
     have ha:=hai.a1 g1 g2;have hq:=hkt g1 _ (xS g1 g2);exact⟨by rw[hl2];exact hlt _ ha hq,(h7 _ ha hq).1,(h7 _ ha hq).2⟩)
   (λg6=>by
     have hb:=hai.b1 g6;have hq:=hkt aa _ (Dt g6);exact⟨by rw[hl2];exact hlt _ hb hq,(h7 _ hb hq).1,(h7 _ hb hq).2⟩)
  have ad5:=(hR.span _ _ hp).2;have hR2:=hR'.snoc hm kP kP;have hpl:∀k,k<p.length+1->lq row need k->gD (uD++[gD df p.length]) ((p++[r.length]).getD k 0)=gD df k/\tight (gS (uL++[jk (bu p (row.getD p.length dh)) (gD df p.length) uD uL]) ((p++[r.length]).getD k 0)) (gS dU k):=λk hk1 hk2=>by
   rcases ack k p.length with hlk|hge
   ·have hlr:=hlt k hlk hk2;rw[gV hlk,tX aa,zU aa];exact h7 k hlk hk2
   ·obtain rfl:k=p.length:=by omega
    rw[mY rfl,vG aa,Dz aa];exact⟨rfl,ht⟩
  have hvs:∀x,x=V.getD p.length []->∀k,k<p.length+1->lq row need k->(W++[x]).getD ((p++[r.length]).getD k 0) []=V.getD k []:=λx hx k hk1 hk2=>by
   rcases ack k p.length with hlk|hge
   ·rw[gV hlk,PS (by rw[hWl];exact hlt k hlk hk2)];exact BJ k hlk hk2
   ·obtain rfl:k=p.length:=by omega
    rw[mY rfl,OE hWl.symm,hx]
  by_cases hk1:(row.getD p.length dh).ai=1
  ·obtain⟨xs,e3,hx,hrest⟩:=hrest.aql hk1;have ef:bu p (row.getD p.length dh)=row.getD p.length dh:=by
    unfold bu;rw[if_pos (.inl hk1)]
   rw[aek,ajY aa]at hx;have hr2:=hrun.Yu hR' (m:=row.getD p.length dh) (s:=gD df p.length) hk1 hx;rw[ef]at hc hR2 hpl;exact⟨_,_,_,_,_,_,hc,hR2,hpl,hr2,⟨_,by rw[e1,e3,ahZ];rfl,by rw[sj hiV];exact hrest⟩,hvs _ rfl⟩
  ·obtain⟨hv,hrest⟩:=hrest.OW hk1;have hmf:=hm.form;rw[hR'.oK]at hmf;have hr2:=hrun.XU hR' (kE hmf) (by rw[(lU p _).2.1];exact hk1) (gD df p.length);have hv2:=VG (sh:=df) (Nat.le_of_lt hiV) hai hk1;rw[ah1 hk1 (λg2=>by
    have ha:=hai.a1 hk1 g2;have hq:=hkt hk1 _ (xS hk1 g2);exact⟨(h7 _ ha hq).1,BJ _ ha hq⟩) (λg6=>by
    have hb:=hai.b1 g6;have hq:=hkt aa _ (Dt g6);exact BJ _ hb hq),<-hv2,<-hv]at hr2
   exact⟨_,_,_,_,_,_,hc,hR2,hpl,hr2,⟨ip2,e1,by rw[sj hiV];exact hrest⟩,hvs _ rfl⟩
 ·have hc:=hs.2 hk;have hne:∀k,k<p.length+1->lq row need k->k<p.length:=λk h1 h2=>by
   rcases ack k p.length with h|h
   ·exact h
   ·obtain rfl:k=p.length:=by omega
    exact absurd h2 hk
  obtain⟨_,hrest⟩:=hrest.OW (λh=>hk (.inr h));exact⟨r,_,uD,uL,ip,W,hc,hR',λk q1 q2=>by rw[gV (hne k q1 q2)];exact h7 k (hne k q1 q2) q2,hrun,⟨ip2,e1,by rw[sj hiV];exact hrest⟩,λk q1 q2=>by rw[gV (hne k q1 q2)];exact BJ k (hne k q1 q2) q2⟩
theorem Ws{l:List aN}{sh:List (List Int)}{sp:List Sp}{inp V:List (List Int)}(hL:dD l sh sp)(hV:V.length=l.length)(h:jB sh (l.map aN.toV) [] inp V):∀i,i<=l.length->∃row st df dU ip W,X3 l sh sp inp V i row st df dU ip W
 |0,_=>⟨_,_,_,_,_,_,XL h⟩
 |i+1,hi=>by
  obtain⟨_,_,_,_,_,_,h1⟩:=Ws hL hV h i aa;exact h1.step hL hV aa
theorem S9{row:List aN}{df:List (List Int)}{dU:List Sp}{need:Nat->Bool}{inp V:List (List Int)}(hR:dD row df dU)(hcl:∀k,k<row.length->need k=true->∀t∈eX (row.getD k dh),need t.toNat=true)(hV:V.length=row.length)(h:jB df (row.map aN.toV) [] inp V):∀i,i<=row.length->∃r p uD uL ip W,U6 row df dU need inp V i r p uD uL ip W
 |0,_=>⟨[],[],[],[],[],[],⟨rfl,rfl,Tw _,λk hk=>absurd hk (ahf _),λj hj=>absurd hj (ahf _),λj k _ hk=>absurd hk (ahf _),[],[],dD.nil,λk hk=>absurd hk (ahf _)⟩,dD.nil,λk hk=>absurd hk (ahf _),.nil [],⟨inp,rfl,h⟩,λk hk=>absurd hk (ahf _)⟩
 |i+1,hi=>by
  obtain⟨_,_,_,_,_,_,h1⟩:=S9 hR hcl hV h i aa;exact h1.step hR hcl hV aa
theorem jB.ended{sh:List (List Int)}{known ip q:List (List Int)}(h:jB sh [] known ip q):ip=[]:=by cases h;rfl
theorem adS{l:List aN}{sh:List (List Int)}{sp:List Sp}{inp V:List (List Int)}(hL:dD l sh sp){out:Nat}(ho:out<l.length)(h:jB sh (l.map aN.toV) [] inp V):∃df dU W,dD (jl l sh out).1 df dU/\(jl l sh out).2<(jl l sh out).1.length/\(jl l sh out).1.length<=l.length/\jB df ((jl l sh out).1.map aN.toV) [] inp W/\W.getD (jl l sh out).2 []=V.getD out []:=by
 have hV:=h.len;rw[aas]at hV;obtain⟨row,st,df,dU,ip,W,⟨h1,hR,hS,hrun,⟨ip2,e1,hrest⟩,BJ⟩⟩:=Ws hL hV h l.length (Tw _);rw[akY,aiK]at hrest;have e2:=hrest.ended;subst e2;rw[ajM]at e1;subst e1;have hd:=h1.done;have hsl:=h1.len;have hob:st.getD out 0<row.length:=by have:=hS.lt out aa;rw[hR.oK]at this;exact this
 have hWl:=hrun.len;rw[aas]at hWl;obtain⟨r,p,uD,uL,ip',W',hC⟩:=S9 (need:=rC row (st.getD out 0)) hR (KG hR hob) hWl hrun row.length (Tw _);obtain⟨c1,hR',c3,hrun',⟨ip2,e1,hrest⟩,akn⟩:=hC;rw[akY,aiK]at hrest;have e2:=hrest.ended;subst e2;rw[ajM]at e1;subst e1;have e:(r,p)=ve (rC row (st.getD out 0)) row 0 ([],[]):=by
  have e:=c1.rest;rw[akY]at e;exact e
 have et:jl l sh out=(r,p.getD (st.getD out 0) 0):=by
  unfold jl;rw[hd];simp only;rw[<-e]
 rw[et];have hkeep:lq row (rC row (st.getD out 0)) (st.getD out 0):= .inl ((n_ hR.BD hob _).2 (.refl _));refine⟨uD,uL,W',hR',(abH.1 (c1.at_ _ hob hkeep)).1,by have:=c1.few;have:=h1.few;show r.length<=_;omega,hrun',?_⟩;show W'.getD (p.getD (st.getD out 0) 0) []=_;rw[akn _ hob hkeep,BJ _ ho]
theorem aib(p:aN):p.toV.pl=p:=rfl
theorem Iq:∀{l:List aN},(l.map aN.toV).map ak.pl=l
 |[]=>rfl
 |p::l=>by rw[afY,afY,aib,Iq]
theorem ahM{l:List ak}:((l.map ak.pl).map aN.toV).map ak.pl=l.map ak.pl:=Iq
theorem Vb{g:bM}(hsp:(cZ g).1=0){inp V:List (List Int)}(hv:d9 (check g).2 g.l [] inp=(0,V)):∃df dU,∀h:bM,h.l.map ak.pl=(jl (g.l.map ak.pl) (check g).2 g.out.toNat).1->h.out=((jl (g.l.map ak.pl) (check g).2 g.out.toNat).2:Int)->check h=(0,df)/\cZ h=(0,dU)/\Je h inp=(0,V.getD g.out.toNat []):=by
 obtain⟨hck,_,_⟩:=jC hsp;obtain⟨hl1,Ez,hout,hcl,hin⟩:=gK hck;obtain⟨q,e1,hq⟩:=aaN hv;rw[akg]at e1;subst e1;have hq2:=hq.ai9 (m:=(g.l.map ak.pl).map aN.toV) ahM;obtain⟨df,dU,W,hR,ho,hlen,hrun,hval⟩:=adS (CK hsp) (out:=g.out.toNat) vZ hq2;rw[aas]at hlen;generalize jl (g.l.map ak.pl) (check g).2 g.out.toNat=X at*;refine⟨df,dU,λh e2 e3=> ?_⟩;have h1:check h=(0,df):=hR.check aa e2 aa aa;have h2:cZ h=(0,dU):=hR.spans aa e2 aa aa;have hr:=ajL (hrun.ai9 (m:=h.l) (by rw[Iq];exact e2));refine⟨h1,h2,?_⟩;unfold Je pE;rw[h2,h1,hr,if_neg aI,if_neg aI,e3,ahh];simp only[akg];rw[hval]
end Go.Proofs.YtgndjjdeopfdkaaGreat

import Derived.Test.YtgndjjdeopfdkaaGreatKLowerSame12c
/- texts WJ VA of the proof of LowerSameSaid -/
set_option maxHeartbeats 16000000
set_option maxRecDepth 20000
set_option linter.unusedVariables false
set_option linter.unusedSimpArgs false
namespace Go.Proofs.YtgndjjdeopfdkaaGreat
open Go.SX Go.RowKit
section
def afl(s:List Int)(n:ak)(x:List Int):Prop:=(x.length:Int)=au s/\n.lo<=foldI min x/\foldI max x<=n.hi
inductive jB(sh:List (List Int)):List ak->List (List Int)->List (List Int)->List (List Int)->Prop
 |nil (known:List (List Int)):jB sh [] known [] []
 |num {n:ak} {r:List ak} {known inp q:List (List Int)} (hk:n.ai≠1) (h:jB sh r (known++[gy sh n known]) inp q):jB sh (n::r) known inp (gy sh n known::q)
 |inp {n:ak} {r:List ak} {known xs q:List (List Int)} {x:List Int} (hk:n.ai=1) (hx:afl (sh.getD known.length []) n x) (h:jB sh r (known++[x]) xs q):jB sh (n::r) known (x::xs) (x::q)
theorem aaN{sh:List (List Int)}:∀{l:List ak} {known inp V:List (List Int)},d9 sh l known inp=(0,V)->∃q,V=known++q/\jB sh l known inp q
 |[],known,inp,V,h=>by
  unfold d9 at h
  split at h
  ·simp at h
  ·rename_i h0
   obtain rfl:inp=[]:=List.eq_nil_of_length_eq_zero aa
   simp only[Prod.mk.injEq,true_and]at h
   exact⟨[],by rw[List.append_nil];exact h.symm,.nil known⟩
 |n::r,known,inp,V,h=>by
  unfold d9 at h
  split at h
  ·rename_i hk
   obtain⟨q,h1,h2⟩:=aaN h
   exact⟨gy sh n known::q,by rw[h1,List.append_assoc];rfl,.num hk h2⟩
  ·rename_i hk
   cases inp with
   |nil=>simp at h
   |cons x xs=>
    simp only at h
    split at h
    ·simp at h
    ·rename_i hc
     obtain⟨q,h1,h2⟩:=aaN h
     exact⟨x::q,by rw[h1,List.append_assoc];rfl,.inp aa ⟨by omega,by omega,by omega⟩ h2⟩
variable {sh known inp q:List (List Int)} {l:List ak}
theorem ajL(h:jB sh l known inp q):d9 sh l known inp=(0,known++q):=by
 induction h with
 |nil known=>unfold d9;rw[if_neg aI,List.append_nil]
 |num hk h ih=>
  unfold d9
  rw[if_pos hk,ih,List.append_assoc];rfl
 |inp hk hx h ih=>
  unfold d9
  rw[if_neg aa]
  simp only
  obtain⟨h1,h2,h3⟩:=hx
  rw[if_neg aa,ih,List.append_assoc];rfl
theorem jB.len(h:jB sh l known inp q):q.length=l.length:=by
 induction h with
 |nil=>rfl
 |num _ _ ih=>simp[ih]
 |inp _ _ _ ih=>simp[ih]
theorem jB.split{sh:List (List Int)}:∀{a b:List ak} {known inp q:List (List Int)},jB sh (a++b) known inp q->∃i1 i2 q1 q2,inp=i1++i2/\q=q1++q2/\jB sh a known i1 q1/\jB sh b (known++q1) i2 q2
 |[],b,known,ip,q,h=>⟨[],ip,[],q,rfl,rfl,.nil known,by rw[List.append_nil];exact h⟩
 |n::a,b,known,ip,q,h=>by
  cases h with
  |num hk h=>
   obtain⟨i1,i2,q1,q2,e1,e2,g1,g2⟩:=jB.split (a:=a) h
   exact⟨i1,i2,_::q1,q2,e1,by rw[e2];rfl,.num hk g1,by rw[List.append_assoc]at g2;exact g2⟩
  |inp hk hx h=>
   obtain⟨i1,i2,q1,q2,e1,e2,g1,g2⟩:=jB.split (a:=a) h
   exact⟨_::i1,i2,_::q1,q2,by rw[e1];rfl,by rw[e2];rfl,.inp hk hx g1,by rw[List.append_assoc]at g2;exact g2⟩
theorem jB.join{a b:List ak}{i1 i2 q1 q2:List (List Int)}(h1:jB sh a known i1 q1)(h2:jB sh b (known++q1) i2 q2):jB sh (a++b) known (i1++i2) (q1++q2):=by
 induction h1 with
 |nil known=>rw[List.append_nil]at h2;exact h2
 |num hk h ih=>exact .num hk (ih (by rw[List.append_assoc];exact h2))
 |inp hk hx h ih=>exact .inp hk hx (ih (by rw[List.append_assoc];exact h2))
theorem jB.wide{sh':List (List Int)}(h:jB sh l known inp q)(hs:∀k,k<known.length+l.length->sh'.getD k []=sh.getD k [])(ha:∀(k:Nat) n,l[k]? =some n->gL n.pl (known.length+k)):jB sh' l known inp q:=by
 induction h with
 |nil known=>exact .nil known
 | @num n r known inp q hk h ih=>
   have hah:=ha 0 n rfl
   have e:gy sh n known=gy sh' n known:=by
    unfold gy
    rw[hs known.length aI]
    by_cases h2:n.ai=2
    ·unfold gH
     rw[if_neg jF,if_neg jF]
    ·rw[hs n.a.toNat (by
      have:=hah.a1 hk h2
      rw[show n.pl.a=n.a from rfl]at this
      simp only[List.length_cons]
      omega)]
   have hi:=ih (λk hk=>hs k O0) (λk m hm=>by
    have:=ha (k+1) m hm
    rw[List.length_append,List.length_singleton,show known.length+1+k=known.length+(k+1) by omega];exact this)
   rw[e]at hi|-
   exact .num hk hi
 | @inp n r known xs q x hk hx h ih=>
   have hi:=ih (λk hk=>hs k O0) (λk m hm=>by
    have:=ha (k+1) m hm
    rw[List.length_append,List.length_singleton,show known.length+1+k=known.length+(k+1) by omega];exact this)
   exact .inp hk (by rw[hs known.length aI];exact hx) hi
end
section
variable {sh known:List (List Int)} {m:ak}
theorem ZH{n:ak}(h:n.pl=m.pl):gy sh n known=gy sh m known:=by
 have e:∀z:ak,gy sh z known=gH z.pl.fo (au (sh.getD known.length [])).toNat (sh.getD z.pl.a.toNat []) (known.getD z.pl.a.toNat []) (known.getD z.pl.b.toNat []):=λz=>by
  rw[ahB];rfl
 rw[e n,e m,h]
theorem Zg{s x:List Int}{n:ak}(h:n.pl=m.pl)(hi:afl s n x):afl s m x:=by
 obtain⟨h1,h2,h3⟩:=hi
 have e1:n.lo=m.lo:=congrArg aN.lo h
 have e2:n.hi=m.hi:=congrArg aN.hi h
 exact⟨h1,by omega,by omega⟩
variable {l:List ak} {ip q:List (List Int)}
theorem jB.ai9(h:jB sh l known ip q):∀{m:List ak},m.map ak.pl=l.map ak.pl->jB sh m known ip q:=by
 induction h with
 |nil known=>
  intro m hm
  obtain rfl:m=[]:=by cases m with|nil=>rfl|cons _ _=>simp at hm
  exact .nil known
 | @num n r known ip q hk h ih=>
   intro m hm
   cases m with
   |nil=>simp at hm
   |cons x m=>
    simp only[List.map_cons,List.cons.injEq]at hm
    have ek:x.ai=n.ai:=congrArg aN.ai hm.1
    have:=ih hm.2
    rw[<-ZH hm.1]at this|-
    exact .num aa this
 | @inp n r known xs q x hk hx h ih=>
   intro m hm
   cases m with
   |nil=>simp at hm
   |cons y m=>
    simp only[List.map_cons,List.cons.injEq]at hm
    have ek:y.ai=n.ai:=congrArg aN.ai hm.1
    exact .inp aa (Zg hm.1.symm hx) (ih hm.2)
theorem jB.val(h:jB sh l [] ip q){k:Nat}{n:ak}(hn:l[k]? =some n)(hk:n.ai≠1):q.getD k []=gy sh n (q.take k):=by
 have hkl:=(List.getElem?_eq_some_iff.1 hn).1
 have e:l=l.take k++n::l.drop (k+1):=by
  have h1:=List.drop_eq_getElem_cons hkl
  have h2:l[k]=n:=by rw[List.getElem?_eq_getElem hkl]at hn;simpa using hn
  rw[<-h2,<-h1,List.take_append_drop]
 rw[e]at h
 obtain⟨i1,i2,q1,q2,rfl,rfl,g1,g2⟩:=h.split
 have hl1:=g1.len
 rw[List.length_take,Nat.min_eq_left aa]at hl1
 cases g2 with
 |num _ g2=>
  rw[List.take_left' hl1,List.getD_eq_getElem?_getD,List.getElem?_append_right aa,hl1,Nat.sub_self]
  rfl
 |inp hk1 _ _=>exact absurd hk1 hk
end
section
theorem yI{n:ak}(h2:n.ai=2)(cnt:Nat)(t t' a a' b b':List Int):gH n cnt t a b=gH n cnt t' a' b':=by
 unfold gH
 rw[if_neg jF,if_neg jF]
 unfold o5 gu
 simp only[if_pos h2]
section
variable {sh df:List (List Int)} {sp dU:List Sp} {st:List Nat} {n:aN} {V W:List (List Int)} {row:List aN}
theorem aap(hS:Std sh sp df dU st)(hah:gL n st.length)(hVW:∀k,k<st.length->W.getD (st.getD k 0) []=V.getD k [])(h1:n.ai≠1)(cnt:Nat):
 gH (bu st n).fo cnt (gD df (bu st n).a.toNat) (W.getD (bu st n).a.toNat []) (W.getD (bu st n).b.toNat [])=gH n.fo cnt (gD sh n.a.toNat) (V.getD n.a.toNat []) (V.getD n.b.toNat []):=by
 obtain⟨e0,ek,ea,_,eb,_⟩:=lU st n
 rw[e0,SG]
 by_cases h2:n.ai=2
 ·exact yI (n:=n.fo) h2 _ _ _ _ _ _ _
 ·have ha:=hah.a1 h1 h2
  rw[ea h1 h2,Int.toNat_natCast,hS.sh _ ha,hVW _ ha]
  by_cases h6:n.ai=6
  ·have hb:=hah.b1 h6
   rw[eb h6,Int.toNat_natCast,hVW _ hb]
  ·exact tF (n:=n.fo) h6 _ _ _ _ _
theorem adn(hR:dD row df dU){s:List Int}(hm:jb (bu st n).fo df s)(hW:∀k,k<row.length->(row.getD k dh).ai=2->W.getD k []=(row.getD k dh).data):
 gH (kg s row (bu st n)).fo (au s).toNat (gD df (kg s row (bu st n)).a.toNat) (W.getD (kg s row (bu st n)).a.toNat []) (W.getD (kg s row (bu st n)).b.toNat [])=gH (bu st n).fo (au s).toNat (gD df (bu st n).a.toNat) (W.getD (bu st n).a.toNat []) (W.getD (bu st n).b.toNat []):=by
 unfold kg
 by_cases hk:jO row (bu st n)=true
 ·rw[if_pos hk]
  have hK:=BV hR hm hk
  have hl:=(Qf hR hm hK).2
  have hpos:=jG (dJ hm.form) hR.pos hm.az rfl
  have e1:∀t a b,gH (aN.fo ⟨2,0,0,s,0,0,0,lm s row (bu st n),[]⟩) (au s).toNat t a b=lm s row (bu st n):=λt a b=>by
   have h:=wK (p:=⟨2,0,0,s,0,0,0,lm s row (bu st n),[]⟩) (sh:=[s]) (known:=[]) rfl (by show((lm s row (bu st n)).length:Int)=au s;rw[hl];omega) rfl
   unfold gy at h
   exact(yI (n:=aN.fo ⟨2,0,0,s,0,0,0,lm s row (bu st n),[]⟩) rfl _ t _ a _ b _).trans h
  rw[e1]
  unfold lm
  rw[hK.aSh,hW _ hK.NZ hK.aK]
  by_cases h6:(bu st n).ai=6
  ·rw[if_pos h6,hW _ (hK.bLt h6) (hK.bK h6)]
  ·rw[if_neg h6]
   exact tF (n:=(bu st n).fo) h6 _ _ _ _ _
 ·rw[if_neg hk]
end
end
section
structure X3(l:List aN)(sh:List (List Int))(sp:List Sp)(inp V:List (List Int))(i:Nat)(row:List aN)(st:List Nat)(df:List (List Int))(dU:List Sp)(ip W:List (List Int)):Prop where
 at_:zR l sh sp i row st
 ok:dD row df dU
 std:Std sh sp df dU st
 run:jB df (row.map aN.fo) [] ip W
 rest:∃ip2,inp=ip++ip2/\jB sh ((l.drop i).map aN.fo) (V.take i) ip2 (V.drop i)
 vals:∀k,k<i->W.getD (st.getD k 0) []=V.getD k []
theorem XL{l:List aN}{sh:List (List Int)}{sp:List Sp}{inp V:List (List Int)}(h:jB sh (l.map aN.fo) [] inp V):X3 l sh sp inp V 0 [] [] [] [] [] []:=
 ⟨zC l sh sp,dD.nil,⟨λj hj=>absurd hj (Nat.not_lt_zero _),λj hj=>absurd hj (Nat.not_lt_zero _),λj hj=>absurd hj (Nat.not_lt_zero _)⟩,.nil [],⟨inp,rfl,h⟩,λk hk=>absurd hk (Nat.not_lt_zero _)⟩
variable {row:List aN} {df ip W:List (List Int)} {dU:List Sp} {k:Nat}
theorem ZZ(hR:dD row df dU)(h:jB df (row.map aN.fo) [] ip W)(hk:k<row.length)(h2:(row.getD k dh).ai=2):W.getD k []=(row.getD k dh).data:=by
 have hg:(row.map aN.fo)[k]? =some (row.getD k dh).fo:=by rw[List.getElem?_map,getD_some hk];rfl
 have hne:(row.getD k dh).fo.ai≠1:=by
  show(row.getD k dh).ai≠1
  omega
 rw[h.val hg hne]
 obtain⟨c1,c2,_⟩:=M_ hR hk h2
 have hl:=h.len
 rw[List.length_map]at hl
 refine wK h2 c2 ?_
 rw[List.length_take,Nat.min_eq_left aa]
 exact c1
theorem ah8(hR:dD row df dU)(h:jB df (row.map aN.fo) [] ip W){m:aN}(hm:row[k]? =some m)(h1:m.ai≠1):W.getD k []=gH m.fo (au (gD df k)).toNat (gD df m.a.toNat) (W.getD m.a.toNat []) (W.getD m.b.toNat []):=by
 have hk:=(List.getElem?_eq_some_iff.1 hm).1
 have hg:(row.map aN.fo)[k]? =some m.fo:=by rw[List.getElem?_map,hm];rfl
 have hne:m.fo.ai≠1:=h1
 rw[h.val hg hne]
 have hl:=h.len
 rw[List.length_map]at hl
 have hah:=hR.ahead hm
 unfold gy
 rw[List.length_take,Nat.min_eq_left aa]
 have ht:∀j,j<k->(W.take k).getD j []=W.getD j []:=λj hj=>by
  rw[List.getD_eq_getElem?_getD,List.getD_eq_getElem?_getD,List.getElem?_take_of_lt hj]
 by_cases h2:m.ai=2
 ·exact yI (n:=m.fo) h2 _ _ _ _ _ _ _
 ·have ea:m.fo.a=m.a:=rfl
  have eb:m.fo.b=m.b:=rfl
  rw[ea,eb,ht _ (hah.a1 h1 h2)]
  by_cases h6:m.ai=6
  ·rw[ht _ (hah.b1 h6)]
  ·exact tF (n:=m.fo) h6 _ _ _ _ _
end
section
variable {s:List Int} {row:List aN} {st:List Nat}
theorem adi{n:aN}:(kg s row (bu st n)).ai=1↔n.ai=1:=by
 have ek:=(lU st n).2.1
 unfold kg
 by_cases hk:jO row (bu st n)=true
 ·rw[if_pos hk]
  constructor
  ·intro h;exact absurd (show(2:Int)=1 from h) ay
  ·intro h
   unfold jO at hk
   rw[ek,decide_eq_true (.inl h)]at hk
   simp at hk
 ·rw[if_neg hk,ek]
theorem Y3{n:aN}(h:n.ai=1):kg s row (bu st n)=n:=by
 have e:bu st n=n:=by unfold bu;rw[if_pos (.inl h)]
 rw[e]
 unfold kg
 rw[if_neg]
 unfold jO
 rw[decide_eq_true (.inl h)];simp
variable {y:List Int} {k:Nat}
theorem PS{p:List (List Int)}(h:k<p.length):(p++[y]).getD k []=p.getD k []:=by
 rw[List.getD_eq_getElem?_getD,List.getD_eq_getElem?_getD,List.getElem?_append_left h]
theorem OE{p:List (List Int)}(h:k=p.length):(p++[y]).getD k []=y:=by
 subst h
 rw[List.getD_eq_getElem?_getD,List.getElem?_append_right (Nat.le_refl _),Nat.sub_self];rfl
variable {df ip W:List (List Int)} {dU:List Sp} {m:aN}
theorem jB.XU(hR:dD row df dU)(h:jB df (row.map aN.fo) [] ip W)(hm:gL m row.length)(h1:m.ai≠1)(s:List Int):jB (df++[s]) ((row++[m]).map aN.fo) [] ip (W++[gH m.fo (au s).toNat (gD df m.a.toNat) (W.getD m.a.toNat []) (W.getD m.b.toNat [])]):=by
 have hl:=h.len
 rw[List.length_map]at hl
 have hw:=h.wide (sh':=df++[s]) (λk hk=>tX (by rw[hR.oK];simpa using hk)) (λk n hn=>by
  rw[List.getElem?_map]at hn
  cases hr:row[k]? with
  |none=>rw[hr]at hn;simp at hn
  |some p=>
   rw[hr]at hn
   simp only[Option.map_some,Option.some.injEq]at hn
   subst hn
   rw[List.length_nil,Nat.zero_add]
   exact hR.ahead hr)
 have e:gy (df++[s]) m.fo W=gH m.fo (au s).toNat (gD df m.a.toNat) (W.getD m.a.toNat []) (W.getD m.b.toNat []):=by
  unfold gy
  rw[show(df++[s]).getD W.length []=s from vG (by rw[hR.oK];exact hl)]
  by_cases h2:m.ai=2
  ·exact yI (n:=m.fo) h2 _ _ _ _ _ _ _
  ·rw[show(df++[s]).getD m.fo.a.toNat []=gD df m.a.toNat from tX (by rw[hR.oK];exact hm.a1 h1 h2)]
   rfl
 rw[<-e,List.map_append,<-List.append_nil ip]
 exact hw.join (.num (show m.fo.ai≠1 from h1) (.nil _))
theorem jB.Yu(hR:dD row df dU)(h:jB df (row.map aN.fo) [] ip W){x:List Int}(h1:m.ai=1)(hx:afl s m.fo x):jB (df++[s]) ((row++[m]).map aN.fo) [] (ip++[x]) (W++[x]):=by
 have hl:=h.len
 rw[List.length_map]at hl
 have hw:=h.wide (sh':=df++[s]) (λk hk=>tX (by rw[hR.oK];simpa using hk)) (λk n hn=>by
  rw[List.getElem?_map]at hn
  cases hr:row[k]? with
  |none=>rw[hr]at hn;simp at hn
  |some p=>
   rw[hr]at hn
   simp only[Option.map_some,Option.some.injEq]at hn
   subst hn
   rw[List.length_nil,Nat.zero_add]
   exact hR.ahead hr)
 rw[List.map_append]
 refine hw.join (.inp (show m.fo.ai=1 from h1) ?_ (.nil _))
 rw[List.nil_append,show(df++[s]).getD W.length []=s from vG (by rw[hR.oK];exact hl)]
 exact hx
end
section
variable {l:List aN} {i:Nat}
theorem XV{n:aN}(hn:l[i]? =some n):(l.drop i).map aN.fo=n.fo::(l.drop (i+1)).map aN.fo:=by
 have hil:=(List.getElem?_eq_some_iff.1 hn).1
 rw[List.drop_eq_getElem_cons hil,List.map_cons]
 rw[List.getElem?_eq_getElem hil]at hn
 rw[Option.some.inj hn]
variable {V:List (List Int)}
theorem sj(h:i<V.length):V.take (i+1)=V.take i++[V.getD i []]:=by
 rw[List.take_add_one,List.getD_eq_getElem?_getD,List.getElem?_eq_getElem h];rfl
theorem O4(h:i<V.length):V.drop i=V.getD i []::V.drop (i+1):=by
 rw[List.drop_eq_getElem_cons h,List.getD_eq_getElem?_getD,List.getElem?_eq_getElem h];rfl
variable {k:Nat}
theorem R4(h:k<i):(V.take i).getD k []=V.getD k []:=qU h
variable {sh known ip q:List (List Int)} {r:List ak} {v:List Int}
theorem jB.OW{n:ak}(h:jB sh (n::r) known ip (v::q))(hk:n.ai≠1):v=gy sh n known/\jB sh r (known++[v]) ip q:=by
 cases h with
 |num _ h=>exact⟨rfl,h⟩
 |inp h1 _ _=>exact absurd h1 hk
theorem jB.YI{n:ak}(h:jB sh (n::r) known ip (v::q))(hk:n.ai=1):∃xs,ip=v::xs/\afl (sh.getD known.length []) n v/\jB sh r (known++[v]) xs q:=by
 cases h with
 |num h1 _=>exact absurd hk h1
 |inp _ hx h=>exact⟨_,rfl,hx,h⟩
variable {df:List (List Int)} {sp dU:List Sp} {st:List Nat}
theorem Std.old(h:Std sh sp df dU st)(hk:k<df.length)(e1:gD df k=gD sh st.length)(e2:tight (gS dU k) (gS sp st.length)):Std sh sp df dU (st++[k]):=by
 refine⟨λj hj=> ?_,λj hj=> ?_,λj hj=> ?_⟩
 all_goals
  rw[List.length_append,List.length_singleton]at hj
  rcases Nat.lt_or_ge j st.length with hlt|hge
 ·rw[gV hlt];exact h.lt j hlt
 ·obtain rfl:j=st.length:=by omega
  rw[mY rfl];exact hk
 ·rw[gV hlt];exact h.sh j hlt
 ·obtain rfl:j=st.length:=by omega
  rw[mY rfl];exact e1
 ·rw[gV hlt];exact h.sp j hlt
 ·obtain rfl:j=st.length:=by omega
  rw[mY rfl];exact e2
theorem Std.more(h:Std sh sp df dU st)(hl:dU.length=df.length)(s:List Int)(p:Sp):Std sh sp (df++[s]) (dU++[p]) st:=by
 refine⟨λj hj=> ?_,λj hj=> ?_,λj hj=> ?_⟩
 all_goals have:=h.lt j hj
 ·rw[List.length_append];omega
 ·rw[tX this];exact h.sh j hj
 ·rw[zU aa];exact h.sp j hj
theorem VG{n:aN}(hi:i<=V.length)(hah:gL n i)(h1:n.ai≠1):gy sh n.fo (V.take i)=gH n.fo (au (gD sh i)).toNat (gD sh n.a.toNat) (V.getD n.a.toNat []) (V.getD n.b.toNat []):=by
 unfold gy
 rw[List.length_take,Nat.min_eq_left hi]
 by_cases h2:n.ai=2
 ·exact yI (n:=n.fo) h2 _ _ _ _ _ _ _
 ·have ea:n.fo.a=n.a:=rfl
  have eb:n.fo.b=n.b:=rfl
  rw[ea,eb,R4 (hah.a1 h1 h2)]
  by_cases h6:n.ai=6
  ·rw[R4 (hah.b1 h6)]
  ·exact tF (n:=n.fo) h6 _ _ _ _ _
theorem X3.step{l:List aN}{sh:List (List Int)}{sp:List Sp}{inp V:List (List Int)}{i:Nat}{row:List aN}{st:List Nat}{df:List (List Int)}{dU:List Sp}{ip W:List (List Int)}(hL:dD l sh sp)(hV:V.length=l.length)(h:X3 l sh sp inp V i row st df dU ip W)(hi:i<l.length):∃row' st' uD uL ip' W',X3 l sh sp inp V (i+1) row' st' uD uL ip' W':=by
 obtain⟨h1,hR,hS,hrun,⟨ip2,e1,hrest⟩,BJ⟩:=h
 have hlen:=h1.len
 subst hlen
 have hn:l[st.length]? =some (l.getD st.length dh):=getD_some hi
 generalize l.getD st.length dh=n at hn
 have h1':=h1.step hL hn
 have hah:=hL.ahead hn
 obtain⟨hm,ht⟩:=TP hL hR hS hn
 have hmv:=(Qb hL hR hS hn).1
 have ad5:=(hL.span _ _ hn).2
 have hWl:=hrun.len
 rw[List.length_map]at hWl
 have hW:=λk hk h2=>ZZ (k:=k) hR hrun hk h2
 have hiV:st.length<V.length:=by omega
 rw[XV hn,O4 hiV]at hrest
 have al6:∀k,k<st.length->st.getD k 0<row.length:=λk hk=>by have:=hS.lt k hk;rw[hR.oK]at this;exact this
 have hmf:=hm.form
 rw[hR.oK]at hmf
 have hma:=kE hmf
 by_cases hk1:n.ai=1
 ·
  have hf:=Y3 (s:=gD sh st.length) (row:=row) (st:=st) hk1
  rw[hf]at hm ht hma
  have hR':=hR.snoc hm kP kP
  have e2:o8 (gD sh st.length) (row,st) n=(row++[n],st++[row.length]):=by
   unfold o8 Bt
   simp only[hf]
   have:rU row n=none:=by unfold rU;rw[if_pos hk1]
   rw[this]
  rw[e2]at h1'
  obtain⟨xs,e3,hx,hrest⟩:=hrest.YI hk1
  rw[List.length_take,Nat.min_eq_left aa]at hx
  have hr2:=hrun.Yu hR (m:=n) (s:=gD sh st.length) hk1 hx
  refine⟨_,_,_,_,_,_,h1',hR',?_,hr2,⟨xs,by rw[e1,e3,List.append_assoc];rfl,by rw[sj hiV];exact hrest⟩,λk hk=> ?_⟩
  ·exact(hS.more (by rw[hR.oK,hR.UT]) _ _).old (k:=row.length) P9 (vG hR.oK.symm) (by rw[Dz hR.UT.symm];exact ht)
  ·rcases Nat.lt_or_ge k st.length with hlt|hge
   ·rw[gV hlt,PS (by rw[hWl];exact al6 k hlt)]
    exact BJ k hlt
   ·obtain rfl:k=st.length:=by omega
    rw[mY rfl,OE hWl.symm]
 ·obtain⟨hv,hrest⟩:=hrest.OW hk1
  have hv2:=VG (sh:=sh) (Nat.le_of_lt hiV) hah hk1
  have hval:=(adn hR hmv hW).trans (aap hS hah BJ hk1 (au (gD sh st.length)).toNat)
  rw[<-hv2]at hval
  have hfk:(kg (gD sh st.length) row (bu st n)).ai≠1:=λh=>hk1 (adi.1 h)
  have e2:o8 (gD sh st.length) (row,st) n=((Bt row (kg (gD sh st.length) row (bu st n))).1,st++[(Bt row (kg (gD sh st.length) row (bu st n))).2]):=rfl
  rw[e2]at h1'
  generalize kg (gD sh st.length) row (bu st n)=m at*
  rw[<-List.append_nil ip,<-List.append_nil ip]at e1
  unfold Bt at h1'
  cases hf:rU row m with
  |some k=>
   rw[hf]at h1'
   obtain⟨_,hk⟩:=zI hf
   have hkl:=(List.getElem?_eq_some_iff.1 hk).1
   obtain⟨q1,q2⟩:=Oh hR hk hm
   have hwk:=ah8 hR hrun hk hfk
   rw[q1,hval]at hwk
   refine⟨_,_,df,dU,ip,W,h1',hR,hS.old (by rw[hR.oK];exact hkl) q1 (by rw[q2];exact ht),hrun,⟨ip2,by simpa using e1,by rw[sj hiV];exact hrest⟩,λj hj=> ?_⟩
   rcases Nat.lt_or_ge j st.length with hlt|hge
   ·rw[gV hlt];exact BJ j hlt
   ·obtain rfl:j=st.length:=by omega
    rw[mY rfl,hwk,hv]
  |none=>
   rw[hf]at h1'
   have hR':=hR.snoc hm kP kP
   have hr2:=hrun.XU hR hma hfk (gD sh st.length)
   rw[hval]at hr2
   refine⟨_,_,_,_,_,_,h1',hR',(hS.more (by rw[hR.oK,hR.UT]) _ _).old (k:=row.length) P9 (vG hR.oK.symm) (by rw[Dz hR.UT.symm];exact ht),hr2,⟨ip2,by simpa using e1,by rw[sj hiV];exact hrest⟩,λj hj=> ?_⟩
   rcases Nat.lt_or_ge j st.length with hlt|hge
   ·rw[gV hlt,PS (by rw[hWl];exact al6 j hlt)]
    exact BJ j hlt
   ·obtain rfl:j=st.length:=by omega
    rw[mY rfl,OE hWl.symm,hv]
end
end Go.Proofs.YtgndjjdeopfdkaaGreat

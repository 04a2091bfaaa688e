import Derived.Test.YtgndjjdeopfdkaaGreatKLowerMeans11d
/- texts QT OC of the proof of LowerMeansSaid -/
set_option maxHeartbeats 16000000
set_option maxRecDepth 20000
set_option linter.unusedVariables false
set_option linter.unusedSimpArgs false
namespace Go.Proofs.YtgndjjdeopfdkaaGreat
open Go.SX Go.RowKit
section
structure Oy(row:List aN):Prop where
 known:∀(k:Nat) p,row[k]? =some p->jO row p=false
 once:∀(j k:Nat) p,j<k->row[j]? =some p->row[k]? =some p->p.ai=1
variable {row:List aN}
theorem Le{row':List aN}{p:aN}(hA:p.ai≠1->p.ai≠2->(row.getD p.a.toNat dh).ai=(row'.getD p.a.toNat dh).ai)(hB:p.ai=6->(row.getD p.b.toNat dh).ai=(row'.getD p.b.toNat dh).ai):jO row p=jO row' p:=by
 unfold jO AL;by_cases h12:p.ai=1\/p.ai=2
 ·rw[decide_eq_true h12];rfl
 ·rw[hA aa aa];by_cases h6:p.ai=6
  ·rw[hB h6]
  ·rw[decide_eq_true (show p.ai≠6 from h6),Bool.true_or,Bool.true_or]
variable {m:aN} {k:Nat}
theorem aqH(h:k<row.length):(row++[m]).getD k dh=row.getD k dh:=by
 rw[TR,TR,ag9 h]
theorem Rn{p:aN}(h:gL p row.length):jO (row++[m]) p=jO row p:=
 Le (λh1 h2=>by rw[aqH (h.a1 h1 h2)]) (λh6=>by rw[aqH (h.b1 h6)])
theorem gL.up{p:aN}{m:Nat}(h:gL p k)(hm:k<=m):gL p m:=⟨h.a0,λh1 h2=>ahd (h.a1 h1 h2) hm,h.a2,h.b0,λh6=>ahd (h.b1 h6) hm,h.b2,h.ai⟩
theorem Sb{n:aN}:∀{row:List aN} {k:Nat},Fa n row k=none->∀j:Nat,row[j]?≠some n
 |[],_,_,j=>by simp
 |x::r,k,h,j=>by
  unfold Fa at h;split at h
  ·cases h
  ·rename_i hs;cases j with
   |zero=>
    simp only[amO,ne_eq,Option.some.injEq];exactλe=>hs (Rb.2 e)
   |succ j=>rw[ane];exact Sb h j
theorem ae0:Oy []:=⟨λk p h=>by simp at h,λj k p _ h=>by simp at h⟩
theorem Oy.snoc(h:Oy row)(ha:∀(k:Nat) p,row[k]? =some p->gL p k)(hm:gL m row.length)(hk:jO row m=false)(hf:rU row m=none):Oy (row++[m]):=by
 refine⟨λk p hp=> ?_,λj k p hjk hj hk2=> ?_⟩
 ·rcases ack k row.length with hlt|hge
  ·rw[ag9 hlt]at hp;rw[Rn ((ha k p hp).up (Nat.le_of_lt hlt))];exact h.known k p hp
  ·rw[ahg hge]at hp;have:m=p:=by
    cases hq:k-row.length with
    |zero=>rw[hq]at hp;simpa using hp
    |succ q=>rw[hq]at hp;simp at hp
   subst this;rw[Rn hm];exact hk
 ·rcases ack k row.length with hlt|hge
  ·rw[ag9 hlt]at hk2;rw[ag9 aa]at hj;exact h.once j k p hjk hj hk2
  ·rw[ahg hge]at hk2;have hkq:k=row.length:=by
    have:=(abH.1 hk2).1;simp at this;omega
   subst hkq;have:m=p:=by simpa using hk2
   subst this;rw[ag9 hjk]at hj;unfold rU at hf;split at hf
   ·assumption
   ·exact absurd hj (Sb hf j)
theorem aaF{s:List Int}{n:aN}:jO row (kg s row n)=false:=by
 unfold kg;by_cases h:jO row n=true
 ·rw[if_pos h];rfl
 ·rw[if_neg h];simpa using h
theorem SF{l:List aN}{sh:List (List Int)}{sp:List Sp}(hL:dD l sh sp):∀i,i<=l.length->∃row st,zR l sh sp i row st/\Oy row
 |0,_=>⟨[],[],zC l sh sp,ae0⟩
 |i+1,hi=>by
  obtain⟨row,st,hT,hN⟩:=SF hL i aa;have hn:l[i]? =some l[i]:=YL aa;refine⟨_,_,hT.step hL hn,?_⟩;obtain⟨df,dU,hR,hS⟩:=hT.ok;have hlen:=hT.len;have hn':l[st.length]? =some l[i]:=by rw[hlen];exact hn
  obtain⟨hm,_⟩:=TP hL hR hS hn';rw[hlen]at hm;unfold o8 Bt;simp only;cases hf:rU row (kg (gD sh i) row (bu st l[i]))with
  |some k=>exact hN
  |none=>
   have hah:=kE hm.form;rw[hR.oK]at hah;exact hN.snoc (λk p hp=>hR.ahead hp) hah aaF hf
def ZO(n:Nat):List Nat:=List.range n
theorem Ho{n:Nat}(h:k<n):(ZO n).getD k 0=k:=by
 unfold ZO;rw[TR,am7 h];rfl
theorem aqh{p:aN}{n:Nat}(h:gL p n):bu (ZO n) p=p:=by
 have a0:=h.a0;have b0:=h.b0;unfold bu;by_cases h12:p.ai=1\/p.ai=2
 ·rw[if_pos h12]
 ·rw[if_neg h12,Ho (h.a1 aa aa)];have ea:((p.a.toNat:Nat):Int)=p.a:=by omega
  by_cases h6:p.ai=6
  ·rw[if_pos h6,Ho (h.b1 h6),ea];have eb:((p.b.toNat:Nat):Int)=p.b:=by omega
   rw[eb]
  ·rw[if_neg h6,ea]
theorem XE(n:Nat):ZO (n+1)=ZO n++[n]:=by unfold ZO;exact ait
variable {df:List (List Int)} {dU:List Sp}
theorem adA(hR:dD row df dU)(hN:Oy row){i:Nat}{p:aN}(hp:row[i]? =some p)(s:List Int):o8 s (row.take i,ZO i) p=(row.take (i+1),ZO (i+1)):=by
 have hah:=hR.ahead hp;have hil:=(abH.1 hp).1;have hgt:∀k,k<i->(row.take i).getD k dh=row.getD k dh:=λk hk=>by
  rw[TR,TR,aop hk]
 have hkn:jO (row.take i) p=false:=by
  rw[Le (row':=row) (λh1 h2=>by rw[hgt _ (hah.a1 h1 h2)]) (λh6=>by rw[hgt _ (hah.b1 h6)])];exact hN.known i p hp
 have aa1:kg s (row.take i) (bu (ZO i) p)=p:=by
  rw[aqh hah];unfold kg;rw[if_neg (by rw[hkn];decide)]
 have hfind:rU (row.take i) p=none:=by
  cases hf:rU (row.take i) p with
  |none=>rfl
  |some k=>
   obtain⟨h1,h2⟩:=zI hf;have hk:=(abH.1 h2).1;rw[aek]at hk;have hki:k<i:=by omega
   rw[aop hki]at h2;exact absurd (hN.once k i p hki h2 hp) h1
 unfold o8 Bt;simp only;rw[aa1,hfind];simp only;rw[aek,ajY aa,XE,List.take_add_one,hp]
 rfl
theorem Qd{row:List aN}{df:List (List Int)}{dU:List Sp}(hR:dD row df dU)(hN:Oy row):∀i,i<=row.length->rG (row.drop (row.length-i)) (df.drop (row.length-i)) (row.take (row.length-i),ZO (row.length-i))=(row,ZO row.length)
 |0,_=>by
  rw[am4,akY,List.take_length];rfl
 |i+1,hi=>by
  have hlt:row.length-(i+1)<row.length:=by omega
  have hl2:row.length-(i+1)<df.length:=by rw[hR.oK];exact hlt
  rw[ahc hlt,ahc hl2];show rG _ _ (o8 _ _ _)=_;rw[adA hR hN (YL hlt)];have e:row.length-(i+1)+1=row.length-i:=by omega
  rw[e];exact Qd hR hN i aa
theorem agP(hR:dD row df dU)(hN:Oy row):rG row df ([],[])=(row,ZO row.length):=by
 have:=Qd hR hN row.length (Tw _);rw[aiH]at this;exact this
theorem aaY{row:List aN}{need:Nat->Bool}(ha:∀(k:Nat) p,row[k]? =some p->gL p k)(hn:∀(k:Nat) p,row[k]? =some p->need k=true\/p.ai=1):∀i,i<=row.length->ve need (row.drop (row.length-i)) (row.length-i) (row.take (row.length-i),ZO (row.length-i))=(row,ZO row.length)
 |0,_=>by
  rw[am4,akY,List.take_length];rfl
 |i+1,hi=>by
  have hlt:row.length-(i+1)<row.length:=by omega
  have hp:=YL hlt;rw[ahc hlt];unfold ve;rw[if_pos (hn _ _ hp)];simp only;rw[aqh (ha _ _ hp),aek,ajY aa,<-XE];have e:row.length-(i+1)+1=row.length-i:=by omega
  have e2:row.take (row.length-(i+1))++[row[row.length-(i+1)]]=row.take (row.length-i):=by
   rw[<-e,List.take_add_one,hp];rfl
  rw[e2,e];exact aaY ha hn i aa
variable {need:Nat->Bool}
theorem aec(ha:∀(k:Nat) p,row[k]? =some p->gL p k)(hn:∀(k:Nat) p,row[k]? =some p->need k=true\/p.ai=1):ve need row 0 ([],[])=(row,ZO row.length):=by
 have:=aaY ha hn row.length (Tw _);rw[aiH]at this;exact this
theorem aaR{out:Nat}(hR:dD row df dU)(hN:Oy row)(ho:out<row.length)(hn:∀(k:Nat) p,row[k]? =some p->rC row out k=true\/p.ai=1):jl row df out=(row,out):=by
 unfold jl;rw[agP hR hN];simp only;rw[Ho ho,aec (λk p hp=>hR.ahead hp) hn];simp only;rw[Ho ho]
end
section
section
variable {l:List aN} {sh:List (List Int)} {sp:List Sp} {row:List aN} {df:List (List Int)} {dU:List Sp} {st:List Nat} {n:aN} {i:Nat}
theorem Wy(hL:dD l sh sp)(hR:dD row df dU)(hn:l[i]? =some n)
 (hSA:n.ai≠1->n.ai≠2->st.getD n.a.toNat 0<df.length/\gD df (st.getD n.a.toNat 0)=gD sh n.a.toNat/\tight (gS dU (st.getD n.a.toNat 0)) (gS sp n.a.toNat))
 (hSB:n.ai=6->st.getD n.b.toNat 0<df.length/\gD df (st.getD n.b.toNat 0)=gD sh n.b.toNat/\tight (gS dU (st.getD n.b.toNat 0)) (gS sp n.b.toNat)):
 jb (bu st n).toV df (gD sh i)/\tight (jk (bu st n) (gD sh i) df dU) (gS sp i):=by
 obtain⟨e0,ek,ea,ea2,eb,eb2⟩:=lU st n;have hni:=hL.node _ _ hn;have hah:=hL.ahead hn;have hti:=(hL.ajX hn).2;have hf:=hni.form;rw[hti]at hf;have kk:n.toV.ai=n.ai:=rfl;have hA:n.ai≠1->n.ai≠2->(bu st n).a.toNat=st.getD n.a.toNat 0:=λh1 h2=>by rw[ea h1 h2];omega
 have hB:n.ai=6->(bu st n).b.toNat=st.getD n.b.toNat 0:=λh=>by rw[eb h];omega
 refine⟨⟨?_,?_,?_⟩,?_⟩
 ·rw[e0];refine y8 hf (λh1 h2=> ?_) (λh=> ?_) (λh=> ?_) (λh=> ?_)
  ·have:=(hSA h1 h2).1;rw[ea h1 h2];omega
  ·exact ea2 h
  ·have:=(hSB h).1;rw[eb h];omega
  ·exact eb2 h
 ·rw[e0,wQ (sh:=sh.take i) (λh1 h2=> ?_) (λh=> ?_)]
  ·exact hni.az
  ·show gD df (bu st n).a.toNat=gD (sh.take i) n.a.toNat;rw[hA h1 h2,(hSA h1 h2).2.1,qU (hah.a1 h1 h2)]
  ·show gD df (bu st n).b.toNat=gD (sh.take i) n.b.toNat;rw[hB h,(hSB h).2.1,qU (hah.b1 h)]
 ·rw[e0,Da];exact hni.near
 ·obtain⟨q1,q2,q3⟩:=hL.span _ _ hn;rw[q1,zK hah];unfold jk;rw[e0,Sv];by_cases h12:n.ai=1\/n.ai=2
  ·rw[vS (n:=n.toV) h12 _ (au (gD sh i)).toNat _ (gD sh n.a.toNat) _ _ (gS (sp.take i) n.a.toNat) (gS (sp.take i) n.b.toNat)];exact Pb _
  ·have ha1:=hah.a1 aa aa;have hp:=hL.place hn;rw[qU ha1]at hp;have sA:=hSA aa aa;rw[hA aa aa,sA.2.1,C8 ha1];have lo:∀j,j<df.length->(gS dU j).1<=(gS dU j).2:=λj hj=>by
    rw[hR.oK]at hj;have hk':=YL hj;rw[(hR.span _ _ hk').1];unfold jk;by_cases g12:(row[j]).ai=1\/(row[j]).ai=2
    ·rw[vS (n:=(row[j]).toV) g12 _ _ _ _ _ _ (0,0) (0,0)];exact Gy (hR.place hk') (0,0) (0,0)
    ·have:=(hR.ahead hk').a1 aa aa;have hp2:=hR.place hk';rw[qU this]at hp2;exact Gy hp2 _ _
   refine MF hp (λh1 h2=>⟨sA.2.2,lo _ sA.1⟩) (λh6=> ?_);have h6':n.ai=6:=h6;have hb1:=hah.b1 h6';have sB:=hSB h6';rw[hB h6',C8 hb1];exact⟨sB.2.2,lo _ sB.1⟩
end
abbrev lq(row:List aN)(need:Nat->Bool)(k:Nat):Prop:=need k=true\/(row.getD k dh).ai=1
structure uj(row:List aN)(df:List (List Int))(dU:List Sp)(need:Nat->Bool)(i:Nat)(r:List aN)(p:List Nat):Prop where
 rest:ve need (row.drop i) i (r,p)=ve need row 0 ([],[])
 len:p.length=i
 few:r.length<=i
 at_:∀k,k<i->lq row need k->r[p.getD k 0]? =some (bu p (row.getD k dh))
 inv:∀j,j<r.length->∃k,k<i/\lq row need k/\p.getD k 0=j
 mono:∀j k,j<k->k<i->lq row need j->lq row need k->p.getD j 0<p.getD k 0
 ok:∃uD uL,dD r uD uL/\∀k,k<i->lq row need k->gD uD (p.getD k 0)=gD df k/\tight (gS uL (p.getD k 0)) (gS dU k)
theorem gV{p:List Nat}{y k:Nat}(h:k<p.length):(p++[y]).getD k 0=p.getD k 0:=by
 rw[TR,TR,ag9 h]
theorem mY{p:List Nat}{y k:Nat}(h:k=p.length):(p++[y]).getD k 0=y:=by
 subst h;rw[TR,ahg (Tw _),aiH];rfl
section
variable {row:List aN} {df:List (List Int)} {dU:List Sp} {need:Nat->Bool}
theorem xS{n:aN}(h1:n.ai≠1)(h2:n.ai≠2):n.a∈eX n:=by
 unfold eX;rw[if_neg aa];split<;>simp
theorem Dt{n:aN}(h6:n.ai=6):n.b∈eX n:=by
 unfold eX;rw[if_neg aa,if_pos h6];simp
theorem uj.steps(hR:dD row df dU)(hcl:∀k,k<row.length->need k=true->∀t∈eX (row.getD k dh),need t.toNat=true){i:Nat}{r:List aN}{p:List Nat}(h:uj row df dU need i r p)(hi:i<row.length):(lq row need i->uj row df dU need (i+1) (r++[bu p (row.getD i dh)]) (p++[r.length]))/\(¬lq row need i->uj row df dU need (i+1) r (p++[0])):=by
 obtain⟨h1,rfl,h3,h4,h5,h6,uD,uL,hR',h7⟩:=h;have hp:=getD_some hi;have hah:∀k,k<row.length->gL (row.getD k dh) k:=λk hk=>hR.ahead (getD_some hk);have hrest:=h1;have hdr:row.drop p.length=row.getD p.length dh::row.drop (p.length+1):=by
  rw[ahc hi,TR,YL hi];rfl
 rw[hdr,SB]at hrest;have hms:∀k y,k<p.length->bu (p++[y]) (row.getD k dh)=bu p (row.getD k dh):=λk y hk=>Ev ((hah k aa).up (Nat.le_of_lt hk));refine⟨λhk=> ?_,λhk=> ?_⟩
 ·rw[if_pos hk]at hrest;simp only at hrest;have hlt:∀k,k<p.length->lq row need k->p.getD k 0<r.length:=λk hk hq=>(abH.1 (h4 k hk hq)).1;have hkt:(row.getD p.length dh).ai≠1->∀t∈eX (row.getD p.length dh),lq row need t.toNat:=λhne t ht=> .inl (hcl _ hi (hk.resolve_right hne) t ht);have hai:=hah _ hi;have hl2:=hR'.oK;obtain⟨hm,ht⟩:=Wy (st:=p) hR hR' hp
   (λg1 g2=>by
     have ha:=hai.a1 g1 g2;have hq:=hkt g1 _ (xS g1 g2);exact⟨by rw[hl2];exact hlt _ ha hq,(h7 _ ha hq).1,(h7 _ ha hq).2⟩)
   (λg6=>by
     have hb:=hai.b1 g6;have hq:=hkt aa _ (Dt g6);exact⟨by rw[hl2];exact hlt _ hb hq,(h7 _ hb hq).1,(h7 _ hb hq).2⟩)
  have ad5:=(hR.span _ _ hp).2;have hR2:=hR'.snoc hm kP kP;have hl3:=hR'.UT;refine⟨hrest,by simp,by simp;omega,λk hk1 hk2=> ?_,λj hj=> ?_,λj k hjk hk1 hj2 hk2=> ?_,_,_,hR2,λk hk1 hk2=> ?_⟩
  ·rcases ack k p.length with hlk|hge
   ·rw[gV hlk,hms k _ hlk,ag9 (hlt k hlk hk2)];exact h4 k hlk hk2
   ·obtain rfl:k=p.length:=by omega
    rw[mY rfl,ahg (Tw _),aiH,Ev hai];rfl
  ·rw[adx,ag_]at hj;rcases ack j r.length with hlj|hge
   ·obtain⟨k,q1,q2,q3⟩:=h5 j hlj;exact⟨k,by omega,q2,by rw[gV q1];exact q3⟩
   ·exact⟨p.length,by omega,hk,by rw[mY rfl];omega⟩
  ·rcases ack k p.length with hlk|hge
   ·rw[gV hlk,gV aa];exact h6 j k hjk hlk hj2 hk2
   ·obtain rfl:k=p.length:=by omega
    rw[mY rfl,gV hjk];exact hlt j hjk hj2
  ·rcases ack k p.length with hlk|hge
   ·have hlr:=hlt k hlk hk2;rw[gV hlk,tX aa,zU aa];exact h7 k hlk hk2
   ·obtain rfl:k=p.length:=by omega
    rw[mY rfl,vG aa,Dz aa];exact⟨rfl,ht⟩
 ·rw[if_neg hk]at hrest;simp only at hrest;have hne:∀k,k<p.length+1->lq row need k->k<p.length:=λk h1 h2=>by
   rcases ack k p.length with h|h
   ·exact h
   ·obtain rfl:k=p.length:=by omega
    exact absurd h2 hk
  refine⟨hrest,by simp,by omega,λk hk1 hk2=> ?_,λj hj=> ?_,λj k hjk hk1 hj2 hk2=> ?_,uD,uL,hR',λk hk1 hk2=> ?_⟩
  ·have hlk:=hne k hk1 hk2;rw[gV hlk,hms k _ hlk];exact h4 k hlk hk2
  ·obtain⟨k,q1,q2,q3⟩:=h5 j hj;exact⟨k,by omega,q2,by rw[gV q1];exact q3⟩
  ·have hlk:=hne k hk1 hk2;rw[gV hlk,gV aa];exact h6 j k hjk hlk hj2 hk2
  ·have hlk:=hne k hk1 hk2;rw[gV hlk];exact h7 k hlk hk2
theorem uj.step(hR:dD row df dU)(hcl:∀k,k<row.length->need k=true->∀t∈eX (row.getD k dh),need t.toNat=true){i:Nat}{r:List aN}{p:List Nat}(h:uj row df dU need i r p)(hi:i<row.length):∃r' p',uj row df dU need (i+1) r' p':=by
 by_cases hk:lq row need i
 ·exact⟨_,_,(h.steps hR hcl hi).1 hk⟩
 ·exact⟨_,_,(h.steps hR hcl hi).2 hk⟩
theorem afB(hR:dD row df dU)(hcl:∀k,k<row.length->need k=true->∀t∈eX (row.getD k dh),need t.toNat=true):∀i,i<=row.length->∃r p,uj row df dU need i r p
 |0,_=>⟨[],[],rfl,rfl,Tw _,λk hk=>absurd hk (ahf _),λj hj=>absurd hj (ahf _),λj k _ hk=>absurd hk (ahf _),[],[],dD.nil,λk hk=>absurd hk (ahf _)⟩
 |i+1,hi=>by
  obtain⟨r,p,h⟩:=afB hR hcl i aa;exact h.step hR hcl aa
theorem ajW(hR:dD row df dU)(hcl:∀k,k<row.length->need k=true->∀t∈eX (row.getD k dh),need t.toNat=true):uj row df dU need row.length (ve need row 0 ([],[])).1 (ve need row 0 ([],[])).2:=by
 obtain⟨r,p,h⟩:=afB hR hcl row.length (Tw _);have e:=h.rest;rw[akY]at e;have e:(r,p)=ve need row 0 ([],[]):=e;rw[<-e];exact h
end
end
section
section
variable {row:List aN} {df:List (List Int)} {dU:List Sp} {need:Nat->Bool} {r:List aN} {p:List Nat}
theorem uj.get(h:uj row df dU need row.length r p){k:Nat}(hk:k<row.length)(hq:lq row need k):p.getD k 0<r.length/\r.getD (p.getD k 0) dh=bu p (row.getD k dh):=by
 have:=h.at_ k hk hq;refine⟨(abH.1 this).1,?_⟩;rw[TR,this];rfl
theorem uj.back(h:uj row df dU need row.length r p){j:Nat}{m:aN}(hm:r[j]? =some m):∃k,k<row.length/\lq row need k/\p.getD k 0=j/\m=bu p (row.getD k dh):=by
 obtain⟨k,h1,h2,h3⟩:=h.inv j (abH.1 hm).1;have:=h.at_ k h1 h2;rw[h3,hm]at this;exact⟨k,h1,h2,h3,by simpa using this⟩
theorem uj.inj(h:uj row df dU need row.length r p){j k:Nat}(hj:j<row.length)(hk:k<row.length)(hqj:lq row need j)(hqk:lq row need k)(e:p.getD j 0=p.getD k 0):j=k:=by
 rcases Nat.lt_trichotomy j k with hlt|he|hgt
 ·have:=h.mono j k hlt hk hqj hqk;omega
 ·exact he
 ·have:=h.mono k j hgt hj hqk hqj;omega
theorem Gd(hcl:∀k,k<row.length->need k=true->∀t∈eX (row.getD k dh),need t.toNat=true){k:Nat}(hk:k<row.length)(hq:lq row need k)(h1:(row.getD k dh).ai≠1){t:Int}(ht:t∈eX (row.getD k dh)):lq row need t.toNat:= .inl (hcl k hk (hq.resolve_right h1) t ht)
theorem afv(hR:dD row df dU)(hN:Oy row)(hcl:∀k,k<row.length->need k=true->∀t∈eX (row.getD k dh),need t.toNat=true)(h:uj row df dU need row.length r p):Oy r:=by
 have hah:∀k,k<row.length->gL (row.getD k dh) k:=λk hk=>hR.ahead (getD_some hk);refine⟨λj m hm=> ?_,λj1 j2 m hj h1 h2=> ?_⟩
 ·obtain⟨k,hk,hq,hpk,rfl⟩:=h.back hm;have hn:=hN.known k _ (getD_some hk);have hai:=hah k hk;have hkt:=λt ht h1=>Gd (t:=t) hcl hk hq h1 ht;generalize row.getD k dh=q at*;obtain⟨_,ek,ea,_,eb,_⟩:=lU p q;unfold jO AL at hn|-
  rw[ek];by_cases h12:q.ai=1\/q.ai=2
  ·rw[decide_eq_true h12];rfl
  ·have key:∀t,t.toNat<k->t∈eX q->(r.getD (p.getD t.toNat 0) dh).ai=(row.getD t.toNat dh).ai:=λt h1 h2=>by
    rw[(h.get aa (hkt t h2 aa)).2];exact(lU p _).2.1
   have eA:(r.getD (bu p q).a.toNat dh).ai=(row.getD q.a.toNat dh).ai:=by
    rw[ea aa aa,ahh];exact key q.a (hai.a1 aa aa) (xS aa aa)
   rw[eA];by_cases h6:q.ai=6
   ·have eB:(r.getD (bu p q).b.toNat dh).ai=(row.getD q.b.toNat dh).ai:=by
     rw[eb h6,ahh];exact key q.b (hai.b1 h6) (Dt h6)
    rw[eB];exact hn
   ·rw[decide_eq_true (show q.ai≠6 from h6),Bool.true_or]at hn|-
    exact hn
 ·obtain⟨k1,hk1,hq1,hp1,e1⟩:=h.back h1;obtain⟨k2,hk2,hq2,hp2,e2⟩:=h.back h2;have hne:k1≠k2:=λe=>by subst e;omega
  have hsame:row.getD k1 dh=row.getD k2 dh:=by
   have hai1:=hah k1 hk1;have hai2:=hah k2 hk2;have an1:=λt ht h1=>Gd (t:=t) hcl hk1 hq1 h1 ht;have amZ:=λt ht h1=>Gd (t:=t) hcl hk2 hq2 h1 ht;have e:bu p (row.getD k1 dh)=bu p (row.getD k2 dh):=by rw[<-e1,e2]
   generalize row.getD k1 dh=q1 at*;generalize row.getD k2 dh=q2 at*;have hkk:q1.ai=q2.ai:=by rw[<-(lU p q1).2.1,<-(lU p q2).2.1,e]
   have a1:=hai1.a0;have a2:=hai2.a0;have b1:=hai1.b0;have b2:=hai2.b0;have hinj:∀t1 t2:Int,0<=t1->0<=t2->t1.toNat<k1->t2.toNat<k2->t1∈eX q1->t2∈eX q2->q1.ai≠1->p.getD t1.toNat 0=p.getD t2.toNat 0->t1=t2:=λt1 t2 g1 g2 g3 g4 g5 g6 g7 g8=>by
    have:=h.inj aa aa (an1 t1 g5 g7) (amZ t2 g6 aa) g8;omega
   have ee:=e;unfold bu at ee;by_cases h12:q1.ai=1\/q1.ai=2
   ·rw[if_pos h12,if_pos (show q2.ai=1\/q2.ai=2 by omega)]at ee;exact ee
   ·rw[if_neg h12,if_neg (show¬(q2.ai=1\/q2.ai=2) by omega)]at ee;by_cases h6:q1.ai=6
    ·rw[if_pos h6,if_pos (show q2.ai=6 by omega)]at ee;simp only[aN.mk.injEq]at ee;obtain⟨c1,c2,c3,c4,c5,c6,c7,c8,c9⟩:=ee;have ga:=hinj q1.a q2.a a1 a2 (hai1.a1 aa aa) (hai2.a1 aa aa) (xS aa aa) (xS aa aa) aa aa;have gb:=hinj q1.b q2.b b1 b2 (hai1.b1 h6) (hai2.b1 aa) (Dt h6) (Dt aa) aa aa;cases q1;cases q2;simp only at*;subst_vars;rfl
    ·rw[if_neg h6,if_neg (show¬q2.ai=6 by omega)]at ee;simp only[aN.mk.injEq]at ee;obtain⟨c1,c2,c3,c4,c5,c6,c7,c8,c9⟩:=ee;have ga:=hinj q1.a q2.a a1 a2 (hai1.a1 aa aa) (hai2.a1 aa aa) (xS aa aa) (xS aa aa) aa aa;cases q1;cases q2;simp only at*;subst_vars;rfl
  have g1:=getD_some hk1;have g2:=getD_some hk2;rw[<-hsame]at g2;have hkind:(row.getD k1 dh).ai=1:=by
   rcases Nat.lt_or_gt_of_ne hne with hlt|hgt
   ·exact hN.once k1 k2 _ hlt g1 g2
   ·exact hN.once k2 k1 _ hgt g2 g1
  rw[e1,(lU p _).2.1];exact hkind
theorem Ye{q:aN}{t:Int}(ht:t∈eX q):((p.getD t.toNat 0:Nat):Int)∈eX (bu p q):=by
 unfold eX at ht;split at ht
 ·simp at ht
 ·rename_i h12;split at ht
  ·rename_i h6;have e:bu p q={q with a:=p.getD q.a.toNat 0,b:=p.getD q.b.toNat 0}:=by unfold bu;rw[if_neg h12,if_pos h6]
   rw[e];unfold eX;rw[if_neg h12,if_pos h6];simp only[abr,aiF,or_false]at ht|-
   rcases ht with rfl|rfl
   ·exact .inl rfl
   ·exact .inr rfl
  ·rename_i h6;have e:bu p q={q with a:=p.getD q.a.toNat 0}:=by unfold bu;rw[if_neg h12,if_neg h6]
   rw[e];unfold eX;rw[if_neg h12,if_neg h6];simp only[afe]at ht|-
   rw[ht]
end
theorem KG{row:List aN}{df:List (List Int)}{dU:List Sp}{out:Nat}(hR:dD row df dU)(ho:out<row.length):∀k,k<row.length->rC row out k=true->∀t∈eX (row.getD k dh),rC row out t.toNat=true:=λk _ hk t ht=>
 (n_ hR.BD ho _).2 (.step ((n_ hR.BD ho k).1 hk) ht)
theorem aeO{row:List aN}{df:List (List Int)}{dU:List Sp}{out k:Nat}(hR:dD row df dU)(ho:out<row.length)(h:Reach row out k):k<row.length:=by
 induction h with
 |refl=>exact ho
 |step _ ht ih=>
  have:=VF (hR.ahead (getD_some ih)) _ ht;omega
theorem Yb{l:List aN}{sh:List (List Int)}{sp:List Sp}(hL:dD l sh sp){out:Nat}(ho:out<l.length):∃df dU,dD (jl l sh out).1 df dU/\(jl l sh out).2<(jl l sh out).1.length/\(jl l sh out).1.length<=l.length/\jl (jl l sh out).1 df (jl l sh out).2=jl l sh out:=by
 obtain⟨row,st,hT,hN⟩:=SF hL l.length (Tw _);have hd:=hT.done;have ug:=hT.few;have hlen:=hT.len;obtain⟨df,dU,hR,hS⟩:=hT.ok;have hout:st.getD out 0<row.length:=by have:=hS.lt out aa;rwa[hR.oK]at this
 have hcl:=KG hR hout;have hC:=ajW (df:=df) (dU:=dU) hR hcl;have hno:lq row (rC row (st.getD out 0)) (st.getD out 0):= .inl ((n_ hR.BD hout _).2 (.refl _));have e:jl l sh out=((ve (rC row (st.getD out 0)) row 0 ([],[])).1,(ve (rC row (st.getD out 0)) row 0 ([],[])).2.getD (st.getD out 0) 0):=by unfold jl;rw[hd]
 rw[e];simp only;generalize hx:ve (rC row (st.getD out 0)) row 0 ([],[])=x at*;obtain⟨r,p⟩:=x;simp only at hC|-
 generalize st.getD out 0=o at*;have hNr:=afv hR hN hcl hC;obtain⟨uD,uL,hR',h7⟩:=hC.ok;obtain⟨hpo,_⟩:=hC.get hout hno;refine⟨uD,uL,hR',hpo,aiC hC.few ug,aaR hR' hNr hpo λj m hm=> ?_⟩;obtain⟨k,hk,hq,hpk,hmk⟩:=hC.back hm;rcases hq with hq|hq
 ·left;rw[n_ hR'.BD hpo,<-hpk];have hr:=(n_ hR.BD hout k).1 hq;clear hq hpk hk hmk hm;induction hr with
  |refl=>exact .refl _
  |step hrj ht ih=>
   rename_i j' t';have hj:=aeO hR hout hrj;have hkj:lq row (rC row o) j':= .inl ((n_ hR.BD hout _).2 hrj);have hg:=(hC.get hj hkj).2;have:=Reach.step ih (t:=((p.getD t'.toNat 0:Nat):Int)) (by rw[hg];exact Ye ht);rw[ahh]at this;exact this
 ·right;rw[hmk,(lU p _).2.1];exact hq
end
end Go.Proofs.YtgndjjdeopfdkaaGreat

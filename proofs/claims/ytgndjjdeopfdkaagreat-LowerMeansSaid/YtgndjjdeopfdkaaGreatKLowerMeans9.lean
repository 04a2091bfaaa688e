import Derived.Test.YtgndjjdeopfdkaaGreatKLowerMeans9e
/- texts MH MD of the proof of LowerMeansSaid -/
set_option maxHeartbeats 16000000
set_option maxRecDepth 20000
set_option linter.unusedVariables false
set_option linter.unusedSimpArgs false
namespace Go.Proofs.YtgndjjdeopfdkaaGreat
open Go.SX Go.RowKit
section
def W64(z:Int):Int:=IntKind.i64.wrap z
theorem Na(z:Int):W64 z=if z%18446744073709551616>=9223372036854775808 then z%18446744073709551616-18446744073709551616 else z%18446744073709551616:=by
 unfold W64 IntKind.wrap;simp[IntKind.signed,IntKind.bits]
theorem air(z:Int):i64 (W64 z):=by
 rw[Na];constructor<;>split<;>omega
theorem ahw(a b:Int):W64 (W64 a+W64 b)=W64 (a+b):=by
 rw[Na (W64 a+W64 b),Na (a+b),Na a,Na b];split<;>split<;>split<;>split<;>omega
def DE(D:List (List Int))(k s:Nat):Int:=(D.getD k []).getD s 0
structure ZC(n:Nat)(D:List (List Int)):Prop where
 len:D.length=n
 each:∀k,D.getD k []=[]\/(D.getD k []).length=n
theorem BP{α:Type}{l:List α}{k:Nat}{y:α}(h:l.length<=k):l.getD k y=y:=by simp[List.getD,h]
variable {s:Nat}
theorem oL{n:Nat}:(List.replicate n (0:Int)).getD s 0=0:=by
 simp only[List.getD,amT];split<;>rfl
theorem Qe{n:Nat}:(List.replicate n ([]:List Int)).getD s []=[]:=by
 simp only[List.getD,amT];split<;>rfl
theorem XP{n d s0:Nat}{D:List (List Int)}{s f w:Int}(h:ZC n D)(hd:((f-s+n)%n).toNat=d)(hdn:d<n)(hs:s.toNat=s0)(hsn:s0<n)(hz:DE D d s0=0):
 ZC n (nu n D s f w)/\∀k j,DE (nu n D s f w) k j=if k=d/\j=s0 then w else DE D k j:=by
 unfold nu;by_cases hw:w=0
 ·rw[if_pos hw];refine⟨h,λk j=> ?_⟩;split
  ·rename_i g;rw[g.1,g.2,hz,hw]
  ·rfl
 ·rw[if_neg hw,hd,hs];obtain⟨l0,hl0⟩:∃l,(if D.getD d []=[]then List.replicate n 0 else D.getD d [])=l:=⟨_,rfl⟩;have hl:l0.length=n/\∀j,l0.getD j 0=DE D d j:=by
   rw[<-hl0];split
   ·rename_i g;refine⟨aiS,λj=> ?_⟩;rw[oL,DE,g];rfl
   ·rename_i g;exact⟨(h.each d).resolve_left g,λj=>rfl⟩
  rw[hl0];refine⟨⟨by rw[ajc];exact h.len,λk=> ?_⟩,λk j=> ?_⟩
  ·by_cases e:d=k
   ·subst e;rw[qh (by rw[h.len];exact hdn),ajc];exact .inr hl.1
   ·rw[getD_set_ne e];exact h.each k
  ·unfold DE;by_cases e:d=k
   ·subst e;rw[qh (by rw[h.len];exact hdn)];by_cases e2:s0=j
    ·subst e2;rw[qh (by rw[hl.1];exact hsn),if_pos ⟨rfl,rfl⟩]
    ·rw[getD_set_ne e2,if_neg (λg=>e2 g.2.symm),hl.2];rfl
   ·rw[getD_set_ne e,if_neg (λg=>e g.1.symm)]
theorem abk(g h:Nat->Int)(d:Nat):∀n:Nat,(∀k,k≠d->h k=g k)->((List.range n).map h).sum=((List.range n).map g).sum+(if d<n then h d-g d else 0)
 |0,_=>by simp
 |n+1,he=>by
  rw[ait,afn,afn,List.sum_append,List.sum_append,abk g h d n he];simp only[afY,aiK,List.sum_cons,List.sum_nil];by_cases e:n=d
  ·subst e;simp only[Nat.lt_irrefl,if_false,amD,if_true];omega
  ·rw[he n e];by_cases e2:d<n
   ·rw[if_pos e2,if_pos aa];omega
   ·rw[if_neg e2,if_neg aa];omega
def BG(D:List (List Int))(X:Nat->Int)(n m s:Nat):Int:=((List.range m).map λk=>DE D k s*X ((s+k)%n)).sum
def wC(X:Nat->Int)(T:List agA)(s:Nat):Int:=(T.map λt=>if t.1.toNat=s then t.2.2*X t.2.1.toNat else 0).sum
theorem XN{n:Nat}(X:Nat->Int):∀(T:List agA) (D:List (List Int)),T.Pairwise (λa b=>¬(a.1=b.1/\a.2.1=b.2.1))->(∀t∈T,(0<=t.1/\t.1<n)/\0<=t.2.1/\t.2.1<n)->ZC n D->(∀t∈T,DE D ((t.2.1-t.1+n)%n).toNat t.1.toNat=0)->
 ∀s,BG (T.foldl (λD t=>nu n D t.1 t.2.1 t.2.2) D) X n n s=BG D X n n s+wC X T s
 |[],D,_,_,_,_,s=>by simp[wC]
 |t::T,D,hp,hin,hD,hz,s=>by
  obtain⟨hp1,hp2⟩:=aiN.1 hp;have ht:=hin t YV;have hn0:(0:Int)<n:=by omega
  obtain⟨d,hd⟩:∃d,((t.2.1-t.1+n)%n).toNat=d:=⟨_,rfl⟩;have hdn:d<n:=by
   have:=alL (t.2.1-t.1+n) (show(n:Int)≠0 by omega);have:=akS (t.2.1-t.1+n) hn0;omega
  have hz0:=hz t YV;rw[hd]at hz0;obtain⟨hD',hent⟩:=XP (w:=t.2.2) hD hd hdn rfl aa hz0;rw[ahb];have ih:=XN X T (nu n D t.1 t.2.1 t.2.2) hp2 (λu hu=>hin u (aeg _ hu)) hD' (λu hu=>by
   rw[hent,if_neg,hz u (aeg _ hu)];rintro⟨g1,g2⟩;have hu':=hin u (aeg _ hu);have e1:t.1=u.1:=by omega
   refine hp1 u hu ⟨e1,?_⟩;have c1:=(Gs ht.1 ht.2 hdn).2 hd;have c2:=(Gs hu'.1 hu'.2 hdn).2 g1;rw[<-c1,<-c2,e1]) s
  rw[ih];have hw:wC X (t::T) s=(if t.1.toNat=s then t.2.2*X t.2.1.toNat else 0)+wC X T s:=by simp[wC]
  rw[hw];have hs1:BG (nu n D t.1 t.2.1 t.2.2) X n n s=BG D X n n s+(if t.1.toNat=s then t.2.2*X t.2.1.toNat else 0):=by
   unfold BG;rw[abk (λk=>DE D k s*X ((s+k)%n)) _ d n (λk hk=>by rw[hent,if_neg (λg=>hk g.1)]),if_pos hdn,hent];by_cases e:t.1.toNat=s
   ·rw[if_pos ⟨rfl,e.symm⟩,if_pos e,<-e,hz0];have hc:=(Gs ht.1 ht.2 hdn).2 hd;have e2:(t.1.toNat+d)%n=t.2.1.toNat:=by
     have h1:t.1=(t.1.toNat:Int):=by omega
     rw[h1]at hc;have h2:(((t.1.toNat+d)%n:Nat):Int)=t.2.1:=by rw[Int.natCast_emod,anM];exact hc
     omega
    rw[e2];omega
   ·rw[if_neg (λg=>e g.2.symm),if_neg e];omega
  rw[hs1];omega
variable {rows:List (List Int)} {fr to:List Int}
theorem SK{n:Nat}(hf:(∀x∈fr,0<=x/\x<n)/\fr.Nodup)(ht:(∀x∈to,0<=x/\x<n)/\to.Nodup)(X:Nat->Int)(s:Nat):
 BG (pQ n rows fr to to.length) X n n s=wC X (qo rows fr to to.length) s:=by
 have hD0:ZC n (List.replicate n ([]:List Int)):=⟨by simp,λk=> .inl Qe⟩;have hz:∀k j,DE (List.replicate n ([]:List Int)) k j=0:=λk j=>by rw[DE,Qe];rfl
 rw[Hf,XN X _ _ (K8 hf.2 ht.2 _ (Tw _)) (VI hf.1 ht.1 (Tw _)) hD0 (λt _=>hz _ _)];have:∀m,((List.range m).map λk=>DE (List.replicate n ([]:List Int)) k s*X ((s+k)%n)).sum=0:=λm=>by
  induction m with
  |zero=>rfl
  |succ m ih=>rw[ait,afn,List.sum_append,ih];simp[hz]
 rw[BG,this];omega
theorem ac5(D:List (List Int))(X:Nat->Int)(n m s:Nat):BG D X n (m+1) s=BG D X n m s+DE D m s*X ((s+m)%n):=by
 simp[BG,ait,List.sum_append]
theorem YT{n:Nat}(hf:(∀x∈fr,0<=x/\x<n)/\fr.Nodup)(ht:(∀x∈to,0<=x/\x<n)/\to.Nodup)(hn:0<n):ZC n (pQ n rows fr to to.length):=by
 have key:∀d,d<n->aco n d (pQ n rows fr to to.length) (aaa n d rows fr to to.length):=λd hd=>by
  rw[Hf,TH];refine VV hd _ _ _ (K8 hf.2 ht.2 _ (Tw _)) (VI hf.1 ht.1 (Tw _)) ⟨by simp,by simp,by simp[List.getD,hd],λ_=>rfl⟩ λt _ _=>oL
 refine⟨(key 0 hn).akO,λk=> ?_⟩;rcases ack k n with g|g
 ·have h:=key k g;rw[h.is];split
  ·exact .inr h.len
  ·exact .inl rfl
 ·exact .inl (BP (by rw[(key 0 hn).akO];exact g))
def xN(rows:List (List Int))(fr to:List Int)(o i:Nat):List agA:=qo rows fr to o++(List.range i).map λi=>(to.getD o 0,fr.getD i 0,(rows.getD o []).getD i 0)
theorem Ur(rows:List (List Int))(fr to:List Int)(o:Nat):xN rows fr to o 0=qo rows fr to o:=by simp[xN]
theorem UQ(rows:List (List Int))(fr to:List Int)(o:Nat):xN rows fr to o fr.length=qo rows fr to (o+1):=by simp[xN,qo,ait]
theorem Zr(X:Nat->Int)(rows:List (List Int))(fr to:List Int)(o i s:Nat):wC X (xN rows fr to o (i+1)) s=wC X (xN rows fr to o i) s+(if(to.getD o 0).toNat=s then(rows.getD o []).getD i 0*X (fr.getD i 0).toNat else 0):=by
 simp[wC,xN,ait,List.sum_append,akw]
structure KS(n:Nat)(E:Nat->Int)(l:List Int):Prop where
 len:l.length=n
 at_:∀s,s<n->l.getD s 0=W64 (E s)
variable {E:Nat->Int} {l:List Int}
theorem KS.fits{n:Nat}(h:KS n E l):∀x∈l,i64 x:=λx hx=>by
 obtain⟨k,hk,rfl⟩:=am0.1 hx;have:=h.at_ k (by rw[<-h.len];exact hk);rw[getD_at hk]at this;rw[this];exact air _
variable {E':Nat->Int}
theorem KS.eq{n:Nat}{l':List Int}(h:KS n E l)(h':KS n E' l')(he:∀s,s<n->E s=E' s):l=l':=by
 apply alQ
 ·rw[h.len,h'.len]
 ·intro k h1 h2;have a1:=h.at_ k FI;have a2:=h'.at_ k FI;rw[getD_at h1]at a1;rw[getD_at h2]at a2;rw[a1,a2,he k FI]
theorem KS.step{n:Nat}(h:KS n E l)(hs:s<n){p:Int}(he:E' s=E s+p)(hne:∀j,j≠s->E' j=E j):KS n E' (l.set s (W64 (l.getD s 0+W64 p))):=by
 refine⟨by rw[ajc];exact h.len,λj hj=> ?_⟩;by_cases e:s=j
 ·subst e;rw[qh (by rw[h.len];exact hs),h.at_ s hs,ahw,he]
 ·rw[getD_set_ne e,h.at_ j hj,hne j (λg=>e g.symm)]
end
end Go.Proofs.YtgndjjdeopfdkaaGreat

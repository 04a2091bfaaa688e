import Derived.Test.YtgndjjdeopfdkaaGreatKLowerMakes7
/- texts LP MG of the proof of LowerMakesSaid -/
set_option maxHeartbeats 16000000
set_option maxRecDepth 20000
namespace Go.Proofs.YtgndjjdeopfdkaaGreat
open Go.RowKit Go.SX
section
variable {w:World} {B:Base} {H:Heap} {S:bJ} {nx:Nat}
def ni(x:aY):bJ where
 holds R w:=(eY x.base 1 (aM x.l)).holds R w/\∀u∈x.l,(bn u).holds R w
 stable:=λhR hw h=>⟨(eY _ _ _).stable hR hw h.1,λu hu=>(bn u).stable hR hw (h.2 u hu)⟩
structure wF(D:List (List Int))(x:aY):Prop where
 rows:x.l.map aj.xs=D
 a_:∀u∈x.l,u.a_
 room:x.l.length<=x.cap
def Ab(w:World)(D:List (List Int))(er:Int):Ending->World->Prop:=λe w'=>∃x:aY,wF D x/\e= .returned (.tuple #[x.val,.int .i64 er])/\Ext w w'/\(ni x).holds (λb=>w.heap.size<=b/\b<w'.heap.size) w'
def Ze(n:Nat)(x:aY):Prop:=∀u∈x.l,(u.xs=[]/\u.base=none)\/u.xs.length=n
def rC(w:World)(n:Nat)(D:List (List Int))(er:Int):Ending->World->Prop:=λe w'=>∃x:aY,(wF D x/\Ze n x)/\e= .returned (.tuple #[x.val,.int .i64 er])/\Ext w w'/\(ni x).holds (λb=>w.heap.size<=b/\b<w'.heap.size) w'
theorem rC.post{w':World}{n:Nat}{D:List (List Int)}{er:Int}{e:Ending}(h:rC w n D er e w'):Ab w D er e w':=by
 obtain⟨x,h1,h2⟩:=h
 exact⟨x,h1.1,h2⟩
def oQ(rows:List (List Int))(fr to:List Int)(slots:Int):Prop:=1<=slots/\slots<=4096/\rows.length=to.length/\jO fr slots=true/\jO to slots=true/\∀r∈rows,r.length=fr.length
theorem aaI(hb:∀R w',S.holds R w'->(aH B.w0).holds R w')(hw0:B.w0=w):jE B (.sI [.c (.slice none 0 0),ak 3]) H S nx (Ab w [] 3):=by
 subst hw0
 refine dz λρ w' hw=>⟨⟨none,0,[]⟩,⟨rfl,λ_ h=>kJ,Nat.le_refl _⟩,rfl,aV hw hb,⟨⟨λ_ h=>kJ,.inl rfl⟩,λ_ h=>by cases h⟩⟩
theorem WR{n:Nat}(hb:∀R w',S.holds R w'->(aH B.w0).holds R w')(hw0:B.w0=w):jE B (.sI [.c (.slice none 0 0),ak 3]) H S nx (rC w n [] 3):=by
 subst hw0
 refine dz λρ w' hw=>⟨⟨none,0,[]⟩,⟨⟨rfl,λ_ h=>kJ,Nat.le_refl _⟩,λ_ h=>kJ⟩,rfl,aV hw hb,⟨⟨λ_ h=>kJ,.inl rfl⟩,λ_ h=>by cases h⟩⟩
theorem j5{l:List Int}{slots:Int}(h:jO l slots=true):(∀x∈l,0<=x/\x<slots)/\l.Nodup:=by simpa[jO]using h
def oU(p:iX):aj:=⟨p.1.base,p.1.cap,p.2⟩
theorem ad4{i g n m:Nat}{L:List iX}(hb:∀R w',S.holds R w'->(aH B.w0).holds R w')(hw0:B.w0=w)(hL:DOk n L)(hf:∀p∈L,∀x∈p.2,i64 x)(hn:n<=1000000)(hm:m=n)(hi:(i,bU.rows (gF L) 1 32)∈H)(hg:(g,bU.ext (mh 3 (kr L)))∈H):
 jE B (.sI [.os i m,ak 0]) H S nx (rC w n (L.map Prod.snd) 0):=by
 subst hw0 hm
 refine dz λρ w' hw=> ?_
 have hn1:=dF hw hb hi
 have hsh:gF L=aM (L.map oU):=by simp[gF,aM,Hr,oU,aj.val]
 rw[hsh]at hn1
 obtain⟨base,cap,e,h1,h2⟩:∃base cap,(SV.os i (aM (L.map oU)).length).rf ρ= .slice base (L.map oU).length cap/\(L.map oU).length<=cap/\(eY base 1 (aM (L.map oU))).holds (λb=>B.w0.heap.size<=b/\b<w'.heap.size) w':=by
  obtain⟨base,cap,e,h1⟩:=fw hn1
  obtain⟨lc,e2,F,hF,hr,hcap,_⟩:=hn1
  rw[e2]at e
  simp only[Value.slice.injEq]at e
  obtain⟨e3,_,e4⟩:=e
  refine⟨base,cap,?_,?_,h1⟩
  ·rw[e2,e3,e4,aR]
  ·rw[<-e4];simpa[aR]using hcap
 have hlen:(aM (L.map oU)).length=m:=by rw[aR,List.length_map,hL.len]
 rw[hlen]at e
 refine⟨⟨base,cap,L.map oU⟩,⟨⟨by simp[oU],λu hu=> ?_,h1⟩,λu hu=> ?_⟩,?_,aV hw hb,h2,λu hu=> ?_⟩
 ·obtain⟨p,hp,rfl⟩:=List.mem_map.1 hu
  rcases hL.each p hp with⟨e1,e2⟩|⟨_,e2,e3⟩
  ·exact⟨hf p hp,by simp[oU,e2],by simp[oU,e2]⟩
  ·exact⟨hf p hp,by simp[oU,e2,e3],by simp[oU,e2,hn]⟩
 ·obtain⟨p,hp,rfl⟩:=List.mem_map.1 hu
  rcases hL.each p hp with⟨e1,e2⟩|⟨_,e2,e3⟩
  ·exact .inl ⟨e2,by simp[oU,e1]⟩
  ·exact .inr e2
 ·have:(SV.sI [.os i m,ak 0]).rf ρ= .tuple #[(SV.os i m).rf ρ,.int .i64 0]:=rfl
  rw[this,e];rfl
 ·obtain⟨p,hp,rfl⟩:=List.mem_map.1 hu
  rcases hL.each p hp with⟨e1,e2⟩|⟨⟨b,off,e1⟩,e2,e3⟩
  ·show(eY (oU p).base 1 (ints (oU p).xs)).holds _ w'
   have:(oU p).xs=[]:=e2
   rw[this]
   exact⟨λr hr=>(by cases hr),.inl rfl⟩
  ·have hp':((p.1,p.2.map (Value.int .i64)):xx)∈kr L:=List.mem_map.2 ⟨p,hp,rfl⟩
   obtain⟨g1,g2,g3⟩:=Zd hw hb hg hp' e1
   refine⟨kN,.inr ⟨b,off,e1,⟨g1,g2⟩,λk r hk j v hj=> ?_⟩⟩
   have hkl:k<p.2.length:=by
    have:=(List.getElem?_eq_some_iff.1 hk).1
    rwa[aF]at this
   have hk':(ints p.2)[k]? =some r:=hk
   rw[d9 hkl]at hk'
   obtain rfl:[Value.int .i64 p.2[k]]=r:=by simpa using hk'
   have hj0:j=0:=by
    rcases Nat.eq_zero_or_pos j with h|h
    ·exact h
    ·rw[List.getElem?_eq_none Ym]at hj;cases hj
   subst hj0
   have:=g3 k (Value.int .i64 p.2[k]) (by simp[hkl])
   obtain rfl:Value.int .i64 p.2[k]=v:=by simpa using hj
   simpa using this
end
section
variable {w:World} {B:Base} {H:Heap} {S:bJ} {nx d:Nat} {l:List aj} {x:Int}
instance(rows:List (List Int))(fr to:List Int)(slots:Int):Decidable (oQ rows fr to slots):=by unfold oQ;infer_instance
def mK(rows:List (List Int))(fr to:List Int)(slots:Int):List (List Int)×Int:=if oQ rows fr to slots then(nY slots.toNat rows fr to to.length,0)else([],3)
theorem yK{rows:List (List Int)}{fr to:List Int}{slots:Int}(hno:¬oQ rows fr to slots)(hb:∀R w',S.holds R w'->(aH B.w0).holds R w')(hw0:B.w0=w):jE B (.sI [.c (.slice none 0 0),ak 3]) H S nx (rC w slots.toNat (mK rows fr to slots).1 (mK rows fr to slots).2):=by
 rw[mK,if_neg hno];exact WR hb hw0
theorem Ht{ρ:Nat->SX.Loc}{T:TypeId}{fv:aj}(hw:dY B ρ nx H S w)(he:(0,bU.box [.c fv.val] T)∈H)(rv:aY)(hr:rv.okB w):
 Calls Tryz.prog 127 (SV.d_ ρ [.c rv.val,.fn (.func 128) [] [.lp 0 0 0 0]]).toArray w λe w'=>e= .returned (.bool (rv.l.any λu=>decide (u.xs.length≠fv.xs.length)))/\Ext w w':=by
 obtain⟨R,φ,hw⟩:=hw
 obtain⟨b,h1,h2,h3⟩:=hw.kS _ he
 simp only at h1
 have ha:(SV.d_ ρ [.c rv.val,.fn (.func 128) [] [.lp 0 0 0 0]]).toArray= #[rv.val,.func (.func 128) #[] #[.pointer (some ⟨b,0,none⟩)]]:=by
  simp[SV.d_,SV.rf,h1,Addr.add]
 rw[ha]
 exact Hl w rv hr ⟨b,0,none⟩ fv.base fv.xs.length fv.cap (by simp[World.cell?,h3,SV.d_,SV.rf,aj.val])
theorem Zf{n:Nat}(h:(l.any λu=>decide (u.xs.length≠n))=false):∀r∈l.map aj.xs,r.length=n:=by
 intro r hr
 obtain⟨u,hu,rfl⟩:=List.mem_map.1 hr
 have:=List.any_eq_false.1 h u hu
 simpa using this
theorem ad5{n:Nat}(h:(l.any λu=>decide (u.xs.length≠n))=true)(hall:∀r∈l.map aj.xs,r.length=n):False:=by
 obtain⟨u,hu,hx⟩:=List.any_eq_true.1 h
 exact absurd (hall _ (List.mem_map.2 ⟨u,hu,rfl⟩)) (by simpa using hx)
theorem ad6{y z:Int}{K:Int->Prop}(h0:0<=x)(hy:y≠0)(e:x%y=z)(h:K z):ww x y K:=rO h0 hy RS
theorem OG(b off k:Nat):(⟨b,off,none⟩:Addr).add (k*1)=⟨b,off+k,none⟩:=by simp[Addr.add]
theorem OH{L:List iX}{p:iX}(h:∀p∈L,∀x∈p.2,i64 x)(hp:∀x∈p.2,i64 x):∀q∈L.set d p,∀x∈q.2,i64 x:=λq hq=>by
 rcases List.mem_or_eq_of_mem_set hq with hq|hq
 ·exact h q hq
 ·rw[hq];exact hp
theorem KU{l:List Int}{k:Nat}(h:∀y∈l,i64 y)(hx:i64 x):∀y∈l.set k x,i64 y:=λy hy=>by
 rcases List.mem_or_eq_of_mem_set hy with hy|hy
 ·exact h y hy
 ·rw[hy];exact hx
theorem OI{l:List Int}(h:∀y∈l,i64 y)(k:Nat):i64 (l.getD k 0):=by
 rcases Nat.lt_or_ge k l.length with g|g
 ·have e:l.getD k 0=l[k]:=by simp[List.getD,g]
  rw[e];exact h _ (List.getElem_mem g)
 ·have e:l.getD k 0=0:=by simp[List.getD,g]
  rw[e];exact⟨by decide,by decide⟩
theorem ad7(n s:Nat)(x:Int):(List.replicate n (Value.int .i64 0)).set s (.int .i64 x)=((List.replicate n (0:Int)).set s x).map (Value.int .i64):=by simp[List.map_set]
theorem XV{a:Addr}{j:Nat}{xs:List Int}{v:Int}{K:SV->Prop}(hx:∀R w,S.holds R w->bf w (some a) 1 (ints xs))(hj:j<xs.length)(e:xs.getD j 0=v)(h:K (ak v)):fu (a.add (j*1)) S K:=by
 subst e;exact bO hx hj h
theorem List.TU{α:Type}{l:List α}{x:α}(h:l[d]? =some x):l.set d x=l:=by
 apply List.ext_getElem?
 intro i
 rw[List.getElem?_set]
 split
 ·rename_i e;subst e;split
  ·exact h.symm
  ·rw[List.getElem?_eq_none aa]
 ·rfl
theorem aaJ(w:World)(rv:aY)(hr:rv.okB w)(fv tv:aj)(Vw:fv.ok w)(WS:tv.ok w)(slots:Int)(hs:i64 slots):
 Calls Tryz.prog 64 #[rv.val,fv.val,tv.val,.int .i64 slots] w (rC w slots.toNat (mK (rv.l.map aj.xs) fv.xs tv.xs slots).1 (mK (rv.l.map aj.xs) fv.xs tv.xs slots).2):=by
 have hr1:=hr.few
 have hf1:=Vw.few
 have ht1:=WS.few
 obtain⟨hs1,hs2⟩:=hs
 have hrl:(rv.l.map aj.xs).length=rv.l.length:=List.length_map _
 refine fq Tryz.func64 [.c rv.val,.c fv.val,.c tv.val,ak slots] ?_
 (repeat' ((conv=>whnf)<;>first|(show aC _ 126 [.c fv.val,ak slots] ..;refine fE (f:=126) Tryz.call126 _ (λρ w' hw=>KR w' fv (ae hw λR h=>Vw.later h) slots) (λhp1=> ?_) (λhp1=> ?_))|(show aC _ 126 [.c tv.val,ak slots] ..;refine fE (f:=126) Tryz.call126 _ (λρ w' hw=>KR w' tv (ae hw λR h=>WS.later h) slots) (λhp2=> ?_) (λhp2=> ?_))|(show aC _ 127 ..;(refine fE (f:=127) Tryz.call127 _ (λρ w' hw=>Ht (fv:=fv) hw aQ rv (ae hw λR h=>hr.later h)) (λhp3=> ?_) (λhp3=> ?_)))|(show kv ..;(refine g_ slots.toNat aa aa acQ aa ?_))|refine aN ?_|refine ag ?_ ?_<;>intro _))
 all_goals(conv=>whnf)
 all_goals first|exact yK (λh=>by have:=h.1;have:=h.2.1;have:=h.2.2.1;omega) (λ_ _ h=>h) rfl|exact yK (λh=>Bool.false_ne_true (hp1.symm.trans h.2.2.2.1)) (λ_ _ h=>h) rfl|exact yK (λh=>Bool.false_ne_true (hp2.symm.trans h.2.2.2.2.1)) (λ_ _ h=>h) rfl|exact yK (λh=>ad5 hp3 h.2.2.2.2.2) (λ_ _ h=>h) rfl|skip
 have hok:oQ (rv.l.map aj.xs) fv.xs tv.xs slots:=⟨by omega,by omega,by omega,hp1,hp2,Zf hp3⟩
 rw[mK,if_pos hok]
 obtain⟨n,hn⟩:∃n:Nat,slots=n:=⟨slots.toNat,by omega⟩
 subst hn
 rw[Int.toNat_natCast]
 have hfr:=(j5 hp1).1
 have hto:=(j5 hp2).1
 refine Wp.grp 3 n ?_
 refine Wp.loop (σ:=Nat×List iX) 3 (λs=>[(0,.c rv.val),(3,ak n),(5,.lp 0 0 0 0),(10,.os 1 n),(49,.c tv.val),(50,ak tv.xs.length),(51,ak s.1)])
  (λs=>[(0,.box [.c fv.val] 32),(1,.rows (gF s.2) 1 32),(2,.ext (mh 3 (kr s.2)))]) (λ_=>aH w)
  (λs=>DOk n s.2/\(∀p∈s.2,∀x∈p.2,i64 x)/\s.2.map Prod.snd=nY n (rv.l.map aj.xs) fv.xs tv.xs s.1/\s.1<=tv.xs.length) (λs=>tv.xs.length-s.1) (0,xI n) [] aS (λs=>⟨rfl,rfl⟩)
  ⟨agq n,(λp hp x hx=>by rw[(List.mem_replicate.1 hp).2]at hx;cases hx),by rw[TT];rfl,Nat.zero_le _⟩ ⟨rfl,aU,?_,λ_ _ h=>h⟩ ?_
 ·show kL [] _ [(0,.box [.c fv.val] 32),(1,.rows (gF (xI n)) 1 32),(2,.ext (mh 3 (kr (xI n))))]
  rw[OE,KT]
  exact aU
 rintro⟨o,L⟩ ⟨hL,hLf,hLs,hol⟩
 dsimp only at hL hLf hLs hol
 by_cases hlt:o<tv.xs.length
 ·obtain⟨ta,Ia⟩:=WS.base aa
  have htr:∀(R:Nat->Prop) w',(aH w).holds R w'->bf w' (some ta) 1 (ints tv.xs):=λR w' h=>by rw[<-Ia];exact au h WS.rows
  have CZ:o<rv.l.length:=by omega
  have hsb:0<=tv.xs.getD o 0/\tv.xs.getD o 0<n:=by
   have e:tv.xs.getD o 0=tv.xs[o]:=by simp[List.getD,hlt]
   rw[e];exact hto _ (List.getElem_mem hlt)
  obtain⟨sv,hsv⟩:∃sv,tv.xs.getD o 0=sv:=⟨_,rfl⟩
  (repeat' ((conv=>whnf)<;>first|(show bC ..;refine ax ta o Ia rfl hlt ?_)|(show fu ..;refine bO htr (j:=o) hlt ?_)|refine aN ?_|refine ag ?_ ?_<;>intro _))
  all_goals(conv=>whnf)
  have hrow:(rv.l.map aj.xs).getD o []=rv.l[o].xs:=by simp[List.getD,CZ]
  have hrlen:rv.l[o].xs.length=fv.xs.length:=Zf hp3 _ (List.mem_map.2 ⟨_,List.getElem_mem CZ,rfl⟩)
  have hro:=hr.each rv.l[o] (List.getElem_mem CZ)
  obtain⟨ra,hra⟩:∃a,rv.base=some a:=aI (j:=o) hr.rows (by rw[aR];exact CZ)
  rw[hsv]at hsb|-
  refine Wp.loop (σ:=Nat×List iX) 3 (λs=>[(0,.c rv.val),(3,ak n),(5,.lp 0 0 0 0),(10,.os 1 n),(49,.c tv.val),(50,ak tv.xs.length),(51,ak o),(11,ak o),(12,ak sv),(56,.c fv.val),(57,ak fv.xs.length),(58,ak s.1)])
   (λs=>[(0,.box [.c fv.val] 32),(1,.rows (gF s.2) 1 32),(2,.ext (mh 3 (kr s.2)))]) (λ_=>aH w)
   (λs=>DOk n s.2/\(∀p∈s.2,∀x∈p.2,i64 x)/\s.2.map Prod.snd=z8 n fv.xs rv.l[o].xs sv (nY n (rv.l.map aj.xs) fv.xs tv.xs o) s.1/\s.1<=fv.xs.length) (λs=>fv.xs.length-s.1) (0,L) [] aS (λs=>⟨rfl,rfl⟩)
   ⟨hL,hLf,hLs,Nat.zero_le _⟩ ⟨rfl,aU,aU,λ_ _ h=>h⟩ ?_
  clear hL hLf hLs
  rintro⟨i,M⟩ ⟨hM,hMf,hMs,hil⟩
  dsimp only at hM hMf hMs hil
  by_cases Eu:i<fv.xs.length
  ·obtain⟨fa,hfa⟩:=Vw.base aa
   have aiZ:∀(R:Nat->Prop) w',(aH w).holds R w'->bf w' (some fa) 1 (ints fv.xs):=λR w' h=>by rw[<-hfa];exact au h Vw.rows
   obtain⟨wa,hwa⟩:=hro.base aa
   have hwr:∀(R:Nat->Prop) w',(aH w).holds R w'->bf w' (some wa) 1 (ints rv.l[o].xs):=λR w' h=>by rw[<-hwa];exact au h hro.rows
   have mI:0<=fv.xs.getD i 0/\fv.xs.getD i 0<n:=by
    have e:fv.xs.getD i 0=fv.xs[i]:=by simp[List.getD,Eu]
    rw[e];exact hfr _ (List.getElem_mem Eu)
   have hwf:=OI hro.fits i
   have hstep:=TR n fv.xs rv.l[o].xs sv (nY n (rv.l.map aj.xs) fv.xs tv.xs o) i
   rw[<-hMs]at hstep
   obtain⟨fi,hfi⟩:∃x,fv.xs.getD i 0=x:=⟨_,rfl⟩
   obtain⟨wi,ZH⟩:∃x,rv.l[o].xs.getD i 0=x:=⟨_,rfl⟩
   rw[hfi]at mI hstep
   rw[ZH]at hwf hstep
   by_cases hw0:wi=0
   ·(repeat' ((conv=>whnf)<;>first|refine akV ?_|refine aiY ?_|refine aN ?_|refine ag ?_ ?_<;>intro _))
    all_goals(conv=>whnf)
    exact⟨(i+1,M),[],⟨hM,hMf,by rw[hstep,qG,if_pos hw0],Eu⟩,by show fv.xs.length-(i+1)<fv.xs.length-i;omega,rfl,aU,aU,λ_ _ h=>h⟩
   ·obtain⟨d,hdd,hdn,hd0⟩:=anO hsb mI
    have hMd:d<M.length:=by rw[hM.len];exact hdn
    have hdl:=uf M
    obtain⟨q,hq⟩:∃q,M[d]? =some q:=⟨_,List.getElem?_eq_getElem hMd⟩
    have hqm:=List.mem_of_getElem? hq
    obtain⟨sn,hsn⟩:∃k:Nat,sv=k:=⟨sv.toNat,by omega⟩
    have ags:sv.toNat=sn:=by omega
    rcases hM.each q hqm with⟨e1,e2⟩|⟨⟨b,off,e1⟩,e2,e3⟩
    ·obtain⟨ql,qv⟩:=q
     simp only at e1 e2
     subst e1 e2
     (repeat' ((conv=>whnf)<;>first|refine akV ?_|refine aiY ?_|(show ww ..;refine ad6 hd0 aa hdd ?_)|(show bV ..;refine aT d rfl hdn (Nat.le_of_eq (hdl.trans hM.len).symm) ?_)|(show kC ..;refine row_of _ _ (rz hq) rfl ?_)|(show l_ ..;refine agr (ti 32 rfl) rfl ?_)|(show kv ..;(refine g_ n rfl rfl xY aa ?_))|refine qP ?_|refine ag ?_ ?_<;>intro _))
     all_goals(conv=>whnf)
     refine Fs (g:=2) (d:=d) (us:=[]) (l0:=⟨none,0⟩) (L:=kr M) (vs:=List.replicate n (.int .i64 0)) aQ (z_ hq) rfl rfl (by rw[qF,List.map_replicate]) VL (λl hlc hlb=> ?_)
     rw[List.length_replicate]at hlc
     obtain⟨b,off,hlb⟩:=hlb
     have hset:((gF M).set d [.slice l.base n l.cap])[d]? =some [.slice l.base n l.cap]:=List.getElem?_set_self (by rw[hdl];exact hMd)
     have hgs:((kr M).set d (l,List.replicate n (.int .i64 0)))[d]? =some (l,List.replicate n (.int .i64 0)):=List.getElem?_set_self (by rw[kr,List.length_map];exact hMd)
     (repeat' ((conv=>whnf)<;>first|(show bS ..;(refine iV _ (rz hq) Ja ?_))|(show bV ..;(first|refine aT d rfl hdn (Nat.le_of_eq (hdl.trans hM.len).symm) ?_|refine aT d rfl hdn (Nat.le_of_eq (by rw[List.length_set];exact(hdl.trans hM.len).symm)) ?_))|(show kC ..;refine row_of _ _ hset rfl ?_)|(show bC ..;refine ax ⟨b,off,none⟩ sn hlb hsn aa ?_)|(show wrK ..;(refine KG (g:=2) (d:=d) (s:=sn) (l:=l) (vs:=List.replicate n (.int .i64 0)) aQ hgs hlb VL (OG b off sn) ?_))|refine aN ?_))
     all_goals(conv=>whnf)
     have eg:kr (M.set d (l,(List.replicate n 0).set sn wi))=((kr M).set d (l,List.replicate n (.int .i64 0))).set d (l,(List.replicate n (Value.int .i64 0)).set sn (.int .i64 wi)):=by rw[Aa,List.set_set,ad7]
     have er:gF (M.set d (l,(List.replicate n 0).set sn wi))=(gF M).set d [.slice l.base n l.cap]:=by rw[xH];simp[Hr,List.length_replicate]
     have hlenV:((l,(List.replicate n 0).set sn wi):iX).2.length=n:=by simp[List.length_replicate]
     refine⟨(i+1,M.set d (l,(List.replicate n 0).set sn wi)),[],⟨hM.set (.inr ⟨⟨b,off,hlb⟩,hlenV,hlc⟩),OH hMf (KU (λy hy=>by rw[(List.mem_replicate.1 hy).2];exact⟨by decide,by decide⟩) hwf),by rw[hstep];rw[<-ad2 hq rfl hw0 hdd,ags],Eu⟩,by show fv.xs.length-(i+1)<fv.xs.length-i;omega,rfl,aU,?_,λ_ _ h=>h⟩
     show kL [] _ [(0,.box [.c fv.val] 32),(1,.rows (gF (M.set d (l,(List.replicate n 0).set sn wi))) 1 32),(2,.ext (mh 3 (kr (M.set d (l,(List.replicate n 0).set sn wi)))))]
     rw[eg,er]
     exact aU
    ·obtain⟨ql,qv⟩:=q
     simp only at e1 e2 e3
     (repeat' ((conv=>whnf)<;>first|(show bC ..;(first|refine ax fa i hfa rfl Eu ?_|refine ax ra o hra rfl CZ ?_|refine ax wa i hwa rfl aa ?_|refine ax ⟨b,off,none⟩ sn e1 hsn (show sn<qv.length by omega) ?_))|refine aiY ?_|(show ww ..;refine ad6 hd0 aa hdd ?_)|(show bV ..;refine aT d rfl hdn (Nat.le_of_eq (hdl.trans hM.len).symm) ?_)|(show kC ..;refine row_of _ _ (rz hq) rfl ?_)|(show l_ ..;refine ajV (ti 32 rfl) rfl e1 ?_)|(show wrK ..;(refine KG (g:=2) (d:=d) (s:=sn) (l:=ql) (vs:=qv.map (Value.int .i64)) aQ (z_ hq) e1 Yk (OG b off sn) ?_))|refine aN ?_|refine ag ?_ ?_<;>intro _))
     all_goals(conv=>whnf)
     have eg:kr (M.set d (ql,qv.set sn wi))=(kr M).set d (ql,(qv.map (Value.int .i64)).set sn (.int .i64 wi)):=by rw[Aa,List.map_set]
     have er:gF (M.set d (ql,qv.set sn wi))=(gF M).set d [.slice ql.base n ql.cap]:=by rw[xH];simp[Hr,e2]
     have hlenV:((ql,qv.set sn wi):iX).2.length=n:=by simp[e2]
     refine⟨(i+1,M.set d (ql,qv.set sn wi)),[],⟨hM.set (.inr ⟨⟨b,off,e1⟩,hlenV,e3⟩),OH hMf (KU (hMf _ hqm) hwf),by rw[hstep];rw[<-ad3 hq (λh0=>by have:=congrArg List.length h0;simp only[List.length_nil]at this;omega) hw0 hdd,ags],Eu⟩,by show fv.xs.length-(i+1)<fv.xs.length-i;omega,rfl,aU,?_,λ_ _ h=>h⟩
     show kL [] _ [(0,.box [.c fv.val] 32),(1,.rows (gF (M.set d (ql,qv.set sn wi))) 1 32),(2,.ext (mh 3 (kr (M.set d (ql,qv.set sn wi)))))]
     rw[eg,er,show(gF M).set d [.slice ql.base n ql.cap]=gF M from ?_]
     exact aU
     rw[<-e2,show [Value.slice ql.base qv.length ql.cap]=Hr (ql,qv)from rfl,<-xH,List.TU hq]
  ·(repeat' ((conv=>whnf)<;>first|refine aN ?_|refine ag ?_ ?_<;>intro _))
   all_goals(conv=>whnf)
   obtain rfl:i=fv.xs.length:=by omega
   exact⟨(o+1,M),[],⟨hM,hMf,by rw[hMs,TS,hrow,hsv],hlt⟩,by show tv.xs.length-(o+1)<tv.xs.length-o;omega,rfl,aU,aU,λ_ _ h=>h⟩
 ·(repeat' ((conv=>whnf)<;>first|refine aN ?_|refine ag ?_ ?_<;>intro _))
  all_goals(conv=>whnf)
  obtain rfl:o=tv.xs.length:=by omega
  have:=ad4 (w:=w) (B:=⟨w,[]⟩) (H:=[(0,.box [.c fv.val] 32),(1,.rows (gF L) 1 32),(2,.ext (mh 3 (kr L)))]) (S:=aH w) (nx:=3) (i:=1) (g:=2) (n:=n) (m:=n) (λ_ _ h=>h) rfl hL hLf aa rfl aQ aQ
  rw[hLs]at this
  exact this
end
section
variable {w:World} {u:aj} {l h nx:Nat} {lo hi:Option Int} {K:SV->Prop} {cx:Cx} {H:Heap} {S:bJ}
theorem KV{base:Option Addr}{cap:Nat}{xs:List (List Value)}(l m:Nat)(hc:xs.length<=cap)(h:bf w base 1 xs):bf w (if cap=l then base else base.map (·.add (l*1))) 1 ((xs.drop l).take m):=by
 by_cases hl:cap<=l
 ·rw[List.drop_eq_nil_of_le aa,List.take_nil]
  exact .inl rfl
 rw[if_neg aa]
 rcases h with h|⟨a,rfl,h⟩
 ·subst h;rw[List.drop_nil,List.take_nil];exact .inl rfl
 ·refine .inr ⟨_,rfl,λk r hk j v hj=> ?_⟩
  rw[List.getElem?_take]at hk
  split at hk
  ·rw[List.getElem?_drop]at hk
   have:=h (l+k) r hk j v hj
   rw[Addr.add_add]
   rw[show l*1+(k*1+j)=(l+k)*1+j by omega]
   exact this
  ·cases hk
def cutV(u:aj)(l h:Nat):aj:=⟨if u.cap=l then u.base else u.base.map (·.add (l*1)),u.cap-l,(u.xs.drop l).take (h-l)⟩
theorem kH(h2:h<=u.xs.length):(cutV u l h).xs.length=h-l:=by
 show((u.xs.drop l).take (h-l)).length=_
 rw[List.length_take,List.length_drop];omega
theorem I6(hlo:match lo with|some z=>z=l|none=>l=0)(hhi:match hi with|some z=>z=h|none=>h=u.xs.length)(h1:l<=h)(h2:h<=u.xs.length)(h3:u.xs.length<=u.cap)(hk:K (.c (cutV u l h).val)):nU u.base u.xs.length u.cap 1 lo hi none K:=by
 rw[oG]
 refine⟨l,h,u.cap,hlo,hhi,rfl,h1,by omega,Nat.le_refl _,λh=>kJ,?_⟩
 have e:(cutV u l h).val= .slice (if u.cap=l then u.base else u.base.map (·.add (l*1))) (h-l) (u.cap-l):=by
  show Value.slice _ _ _=_
  rw[kH h2];rfl
 rw[<-e];exact hk
theorem Av(hr:bf w u.base 1 (ints u.xs))(h3:u.xs.length<=u.cap):bf w (cutV u l h).base 1 (ints (cutV u l h).xs):=by
 have:=KV l (h-l) (by rw[aF];exact h3) hr
 rwa[show((ints u.xs).drop l).take (h-l)=ints ((u.xs.drop l).take (h-l)) by simp[ints,List.map_drop,List.map_take]]at this
theorem Aw(hu:u.a_):(cutV u l h).a_:=by
 refine⟨λx hx=>hu.fits x (List.mem_of_mem_drop (List.mem_of_mem_take hx)),?_,?_⟩
 ·have:=hu.room
  show((u.xs.drop l).take (h-l)).length<=u.cap-l
  rw[List.length_take,List.length_drop];omega
 ·have:=hu.few
  show((u.xs.drop l).take (h-l)).length<=_
  rw[List.length_take,List.length_drop];omega
def Hu(d:aY)(l h:Nat):aY:=⟨if d.cap=l then d.base else d.base.map (·.add (l*1)),d.cap-l,(d.l.drop l).take (h-l)⟩
theorem Gh{u:aY}(h2:h<=u.l.length):(Hu u l h).l.length=h-l:=by
 show((u.l.drop l).take (h-l)).length=_
 rw[List.length_take,List.length_drop];omega
theorem WT{u:aY}(hlo:match lo with|some z=>z=l|none=>l=0)(hhi:match hi with|some z=>z=h|none=>h=u.l.length)(h1:l<=h)(h2:h<=u.l.length)(h3:u.l.length<=u.cap)(hk:K (.c (Hu u l h).val)):nU u.base u.l.length u.cap 1 lo hi none K:=by
 rw[oG]
 refine⟨l,h,u.cap,hlo,hhi,rfl,h1,by omega,Nat.le_refl _,λh=>kJ,?_⟩
 have e:(Hu u l h).val= .slice (if u.cap=l then u.base else u.base.map (·.add (l*1))) (h-l) (u.cap-l):=by
  show Value.slice _ _ _=_
  rw[Gh h2];rfl
 rw[<-e];exact hk
theorem aaK{u:aY}(hr:bf w u.base 1 (aM u.l))(h3:u.l.length<=u.cap):bf w (Hu u l h).base 1 (aM (Hu u l h).l):=by
 have:=KV l (h-l) (by rw[aR];exact h3) hr
 rwa[show((aM u.l).drop l).take (h-l)=aM ((u.l.drop l).take (h-l)) by simp[aM,List.map_drop,List.map_take]]at this
theorem ad8{f:FuncId}{args:List SV}{K:SV->Heap->bJ->Nat->Prop}(hk:aC cx f args H S nx (λv H S nx=>jd v H S nx K)):aC cx f args H S nx K:=by
 rw[gI]at hk|-
 refine⟨hk.1,λρ w hw=>(hk.2 ρ w hw).mono ?_⟩
 rintro e w' ⟨v,ρ',H',S',nx',h1,h2,h3,h4,h5,h6⟩
 obtain⟨v2,H2,S2,g1,g2,g3,g4⟩:=EL h6 h5 h4
 exact⟨v2,ρ',H2,S2,nx',by rw[g1];exact h1,h2,h3,g2,g3,g4⟩
theorem TV(w:World)(base:Option Addr)(cap:Nat)(u v:aj)(hr:bf w base 1 [[u.val],[v.val]])(hu:u.ok w)(hv:v.ok w)(h0:0<u.xs.length+v.xs.length):
 Calls Tryz.prog 129 #[.slice base 2 cap] w λe w'=>∃x,e= .returned x/\Ext w w'/\j_ w w' x 1 3 (ints (u.xs++v.xs)):=by
 obtain⟨a,rfl⟩:=aI (j:=0) hr (by show 0<2;decide)
 exact WQ w a cap u v hr hu hv h0
theorem FQ(hP:cx.P=Tryz.prog){j:Nat}{T:TypeId}{K:SV->Heap->bJ->Nat->Prop}(u v:aj)(G:Nat->Prop)(hG:∀R w,S.holds R w->∀b,G b->R b)(hu:∀R w,S.holds R w->bf w u.base 1 (ints u.xs))(hv:∀R w,S.holds R w->bf w v.base 1 (ints v.xs))(fP:u.a_)(hvs:v.a_)(h0:0<u.xs.length+v.xs.length)(hl:u.xs.length+v.xs.length<=1000000)
 (h:∀m:aj,m.xs=u.xs++v.xs->m.a_->K (.c m.val) H (S.and ((bn m).off G)) (nx+1)):aC cx 129 [.os j 2] ((j,.rows [[u.val],[v.val]] 1 T)::H) S nx K:=by
 obtain⟨P,B,n,tab⟩:=cx
 subst hP
 refine ad8 ?_
 refine TP (K':=λx H' S' nx'=>x= .os nx (ints (u.xs++v.xs)).length/\H'=(nx,.rows (ints (u.xs++v.xs)) 1 3)::(j,.rows [[u.val],[v.val]] 1 T)::H/\S'=S/\nx'=nx+1) (wW (f:=129) Tryz.call129 1 3 (λ_:Unit=>ints (u.xs++v.xs)) (λ_=>True) (λρ w' hw=> ?_) (λ_ _=>⟨rfl,rfl,rfl,rfl⟩)) ?_
 ·have hr:=ed hw (i:=j) (xs:=[[u.val],[v.val]]) (k:=1) (T:=T) List.mem_cons_self
  exact(TV w' _ _ u v hr ⟨ae hw λR h=>hu R _ h,fP.fits,fP.room,fP.few⟩ ⟨ae hw λR h=>hv R _ h,hvs.fits,hvs.room,hvs.few⟩ h0).mono (λe w2 h=>⟨(),trivial,h⟩)
 ·rintro x H' S' nx' ⟨rfl,rfl,rfl,rfl⟩
  refine⟨_,List.Sublist.cons_cons _ (List.sublist_cons_self _ _),?_⟩
  rw[aF]
  exact rq (u.xs++v.xs) G hG rfl rfl (λx hx=>(List.mem_append.1 hx).elim (fP.fits x) (hvs.fits x)) (by rw[List.length_append];exact hl) (λm hm hms=>h m hm hms)
def oV(t:Int->Option Int):Int->Option Value:=λz=>(t z).map (Value.int .i64)
theorem WU(x:Int):yg (λ_=>none) 0 (.int .i64 x)=oV (mG x):=by
 funext z
 unfold yg oV mG
 split<;>rfl
theorem ad9(t:Int->Option Int)(k v:Int):yg (oV t) k (.int .i64 v)=oV (λz=>if z=k then some v else t z):=by
 funext z
 unfold yg oV
 by_cases h:z=k
 ·simp[h]
 ·simp[h]
end
abbrev Zg:Go.SX.DT:=(eF [0,1,2,3,5,6,7,8,4,9,110,111,12] .done)
abbrev abX:Go.SX.DT:=(eF [0,1,2,3,4,5,6,7,8,109,110] .done)
section
variable {H:Heap} {S:bJ} {i r base g f:Nat} {t:Int->Option Int} {k x:Int} {K:SV->Prop} {B:Base} {tb:List (Nat×TI)} {y:oo}
theorem ad_:(Tryz.prog.info? 3).map (λi=>i.zero)=some (some (.int .i64 0)):=by kernel_rfl
theorem ai1{n:Nat}(hi:(i,bU.ext (lg r (oV t)))∈H){v:Option Int}(hv:t k=v)(h:K (.c (.tuple #[.int .i64 (v.getD 0),.bool v.isSome]))):I4 ⟨Tryz.prog,B,n,tb⟩ 161 (.c (.map (some r))) (ak k) true H S K:=by
 have hz:=ad_
 cases ht:Tryz.prog.info? 3 with
 |none=>rw[ht]at hz;cases hz
 |some ti=>
  rw[ht]at hz
  refine YA (z:= .int .i64 0) Tryz.underlying161 Tryz.underlying3 ht (by simpa using hz) hi ?_
  have e:(oV t k).getD (.int .i64 0)= .int .i64 (v.getD 0)/\(oV t k).isSome=v.isSome:=by
   unfold oV
   rw[hv]
   cases v<;>exact⟨rfl,rfl⟩
  rw[if_pos rfl,e.1,e.2]
  exact h
theorem ai0{K:Heap->Prop}{n:Nat}(hi:(i,bU.ext (lg r (λ_=>none)))∈H)(h:BD i (.ext (lg r (oV (mG x)))) K H):tN ⟨Tryz.prog,B,n,tb⟩ 161 (.c (.map (some r))) (ak 0) (ak x) H S K:=
 EO Tryz.underlying161 Tryz.underlying3 hi (by rw[WU];exact h)
theorem akY{v:Int}{K:Heap->Prop}{n:Nat}(hi:(i,bU.ext (lg r (oV t)))∈H)(h:BD i (.ext (lg r (oV (λz=>if z=k then some v else t z)))) K H):tN ⟨Tryz.prog,B,n,tb⟩ 161 (.c (.map (some r))) (ak k) (ak v) H S K:=
 EO Tryz.underlying161 Tryz.underlying3 hi (by rw[ad9];exact h)
theorem agt{y z:Int}{K':Bool->Prop}{Kt:SV->Prop}(hz:z=min x y)(e1:K' true=mmK false .i64 Kt y [])(e2:K' false=mmK false .i64 Kt x [])(h:Kt (ak z)):dR (y<x) K':=by
 refine ag (λhy=> ?_) (λhy=> ?_)
 ·rw[e1];show Kt _;rw[<-show z=y by omega];exact h
 ·rw[e2];show Kt _;rw[<-show z=x by omega];exact h
theorem C8{P:Program}{t:TypeId}{ti:TI}(h:lN P t=some ti)(hk:ti.kind=1){ox oy:Operand}{base:Option Addr}{len cap:Nat}{b:Bool}(hb:base.isNone=b)(hK:K (.c (.bool b))):
 l_ P (do eqGuard .eql t ox oy (.slice base len cap) (.slice none 0 0);binOp .eql t (.slice base len cap) (.slice none 0 0)) K:=by
 subst hb
 exact jP h hk hK
structure yL where
 s:cZ
 t:Int->Option Int
 m:Option Int
def yL.pl(y:yL):oo:=⟨y.s.pl,y.t,y.m⟩
def jL(m:Option Int):List SV:=[.lp 0 0 0 0,ak (m.getD 0),.c (.bool m.isSome)]
def tH(s:cZ)(t:Int->Option Int)(x:Int)(i:Nat):cZ×(Int->Option Int)×Int:=match t i with
 |some a=>(s,t,a)
 |none=>(cu s 8 x 0 i,λz=>if z=i then some (s.code.length:Int)else t z,s.code.length)
def Ac(s:cZ)(t:Int->Option Int)(m:Option Int)(v:Int):yL:=match m with
 |none=>⟨s,t,some v⟩
 |some a=>⟨cu s 3 a v 0,t,some s.code.length⟩
def Ad(x:Int)(y:yL)(i:Nat)(m:aj):yL:=
 Ac (cu (az (tH y.s y.t x i).1 m).1 5 (tH y.s y.t x i).2.2 0 (az (tH y.s y.t x i).1 m).2) (tH y.s y.t x i).2.1 y.m (az (tH y.s y.t x i).1 m).1.code.length
def ve(base:Nat)(mo:Option Int)(z:yL):yL:=match z.m with
 |none=>⟨z.s,z.t,mo⟩
 |some a=>if 0<base then Ac (cu z.s 8 a 0 base) z.t mo z.s.code.length else Ac z.s z.t mo a
theorem Qv(s:cZ)(t:Int->Option Int)(m:Option Int)(v:Int):(Ac s t m v).pl=⟨(lq s.pl m v).1,t,some (lq s.pl m v).2⟩:=by
 cases m<;>rfl
theorem xJ{n:Nat}{y:yL}{m:aj}{dd:List Int}(hm:m.xs=jH n base dd)(hd:dd≠[]):(Ad x y i m).pl=q9 n base x y.pl i dd:=by
 have ep:∀s:cZ,fZ s.pl (jH n base dd)=((az s m).1.pl,(az s m).2):=λs=>by rw[<-hm,<-Bb]
 unfold Ad q9
 rw[if_neg hd,Qv]
 have et:qw y.pl.s y.pl.t x i=((tH y.s y.t x i).1.pl,(tH y.s y.t x i).2):=by
  unfold qw tH
  show(match y.t i with|some a=>_|none=>_)=_
  cases y.t i<;>rfl
 simp only[et,ep,nO]
 rfl
theorem OJ{n:Nat}{z:yL}{ds:List (List Int)}(hz:mZ n base x ds 0 ⟨y.s,y.t,none⟩=z.pl):(ve base y.m z).pl=sZ n base x y ds:=by
 unfold ve sZ
 simp only[hz]
 show _=(match z.m with|none=>_|some a=>_)
 cases z.m with
 |none=>rfl
 |some a=>
  show(if 0<base then _ else _:yL).pl=_
  by_cases hb:0<base
  ·simp only[if_pos hb,Qv];rfl
  ·simp only[if_neg hb,Qv];rfl
theorem lJ.mono{c:dM}{k k':Nat}{s:cZ}(h:lJ c k s)(hk:k<=k'):lJ c k' s:=⟨h.ok,Nat.le_trans h.qM hk,Nat.le_trans h.lM hk⟩
theorem KW{n:Nat}{all:List (List Int)}(h:¬base<n):kG n g x all f base y=y:=by
 cases f with
 |zero=>rfl
 |succ f=>rw[kG,if_neg h]
theorem TW{n:Nat}(h:g*g<n)(hf:n<=g+f)(h1:1<=g):∃f',f=f'+1/\stepG f n g=stepG f' n (2*g):=by
 have hg:g<=g*g:=Nat.le_mul_of_pos_right g h1
 obtain⟨f',rfl⟩:∃f',f=f'+1:=⟨f-1,by omega⟩
 exact⟨f',rfl,by rw[stepG,if_pos h]⟩
theorem stepG_end{n:Nat}(h:¬g*g<n):stepG f n g=g:=by
 cases f with
 |zero=>rfl
 |succ f=>rw[stepG,if_neg h]
theorem TY{n:Nat}(h:g*g<n)(hn:n<=4096):g<64:=by
 rcases Nat.lt_or_ge g 64 with h1|h1
 ·exact h1
 ·have:64*64<=g*g:=Nat.mul_le_mul h1 h1
  omega
theorem vg{cx:Cx}{cc:Operand}{a b:Code}{bb:Bool}{env:Env}{nx:Nat}{K:Exit->Env->Heap->bJ->Nat->Prop}(hev:∀k:SV->Prop,wL cx.n env cc k=k (.c (.bool bb)))(h1:bb=true->vcC cx a env H S nx K)(h2:bb=false->vcC cx b env H S nx K):vcC cx (.cond cc a b) env H S nx K:=by
 show wL cx.n env cc _
 rw[hev]
 cases bb
 ·exact h2 rfl
 ·exact h1 rfl
abbrev WV(w:World)(F:Nat->Prop)(s0:cZ)(d:aY)(s:cZ):bJ:=(((dP s.ay).and ((D6 s0.ay s.ay).off (dU w F))).and (ni d)).and (f_ w F)
abbrev alR(c:dM)(vl:List Int)(r:Nat)(y:yL):Heap:=(6,.box (jL y.m) 129)::(5,.ext (lg r (oV y.t)))::xG c y.s vl 0 1 7 8 9
abbrev alS(c:dM)(vl:List Int)(r:Nat)(m:Option Int)(y:yL):Heap:=(10,.box (jL y.m) 129)::(6,.box (jL m) 129)::(5,.ext (lg r (oV y.t)))::xG c y.s vl 0 1 11 12 13
theorem aea(c:dM)(s:cZ)(vl:List Int)(x:Int)(d:aY)(hN:lH c s vl)(hdl:d.l.length=c.slots)(hdn:Ze c.slots d)(hds:∀u∈d.l,u.a_)(hdc:d.l.length<=d.cap)(w:World)(ρ:Nat->SX.Loc)(F:Nat->Prop)(h:iW w ρ F 2 5 (kR c s vl) ((dP s.ay).and (ni d))):
 Calls Tryz.prog 65 (SV.d_ ρ [.lp 0 0 0 0,ak x,.c d.val]).toArray w (ou w ρ F c s vl (jl c.slots c.giant s.pl x (d.l.map aj.xs))):=by
 have hn1:=hN.slots.1
 have hn2:=hN.slots.2
 refine Es Tryz.func65 (mq 2 ρ) ρ [.lp 0 0 0 0,ak x,.c d.val] (kR c s vl) (((dP s.ay).and (ni d)).and (f_ w F)) 5 h.abs ?_
 (repeat' ((conv=>whnf)<;>first|refine aN ?_))
 refine vg (λ_=>rfl) (λhg=> ?_) (λhg=> ?_)
 focus
  (repeat' ((conv=>whnf)<;>first|refine aN ?_))
  refine Wp.loop (σ:=Nat×Nat) 5 (λq=>[(0,.lp 0 0 0 0),(1,ak x),(2,.c d.val),(7,ak c.slots),(8,ak q.2)]) (λ_=>kR c s vl) (λ_=>((dP s.ay).and (ni d)).and (f_ w F)) (λq=>stepG q.1 c.slots q.2=stepG c.slots c.slots 1/\c.slots<=q.2+q.1/\1<=q.2/\q.2<=128) (λq=>q.1) (c.slots,1) [] aS (λq=>⟨rfl,rfl⟩) ⟨rfl,by omega,Nat.le_refl _,(by decide:1<=128)⟩ ⟨rfl,aU,aU,λR w' h=>h⟩ ?_
  rintro⟨f,g⟩ ⟨hgs,hgf,hg1,hg2⟩
  simp only at hgs hgf hg1 hg2
  have hgg:g*g<=128*128:=Nat.mul_le_mul hg2 hg2
  have hgc:((g*g:Nat):Int)=(g:Int)*g:=by push_cast;rfl
  by_cases hlt:g*g<c.slots
  focus
   obtain⟨f',rfl,e⟩:=TW hlt hgf hg1
   have:=TY hlt hn2
   (repeat' ((conv=>whnf)<;>first|(show @dR _ _ _;(refine bA He ?_))|(show iw ..;(first|refine wrap_i64 He He ?_))|refine aN ?_))
   all_goals(conv=>whnf)
   exact⟨(f',g*2),[],⟨by rw[<-hgs,e,Nat.mul_comm],by show c.slots<=g*2+f';omega,by show 1<=g*2;omega,by show g*2<=128;omega⟩,Nat.lt_succ_self f',rfl,aU,aU,λR w' h=>h⟩
  rw[stepG_end hlt]at hgs
  have hgv:oC c.giant c.slots=g:=by rw[hg];exact hgs.symm
  have hg4:g<=4096:=by omega
  (repeat' ((conv=>whnf)<;>first|(show @dR _ _ _;(refine cK He ?_))|(show iw ..;(refine wrap_i64 He He ?_))|(show yh ..;refine Ns (λr=> ?_))|refine akW ?_|refine aN ?_))
  clear hgs hgf hgg hgc hg2 hlt hg
 rotate_left
 focus
  let g:Nat:=c.slots
  have hgv:oC c.giant c.slots=g:=by rw[hg];show c.slots=g;rfl
  have hg1:1<=g:=hn1
  have hg4:g<=4096:=hn2
  (repeat' ((conv=>whnf)<;>first|(show yh ..;refine Ns (λr=> ?_))|refine akW ?_|refine aN ?_))
  clear hg
 all_goals
  obtain⟨Y,hY0⟩:∃Y,kG c.slots g x (d.l.map aj.xs) c.slots 0 ⟨s.pl,mG x,none⟩=Y:=⟨_,rfl⟩
  refine Wp.loop (σ:=Nat×Nat×yL) 10 (λq=>[(0,.lp 0 0 0 0),(1,ak x),(2,.c d.val),(7,ak c.slots),(8,ak g),(9,.c (.map (some r))),(10,.lp 6 0 0 0),(11,ak q.1)]) (λq=>alR c vl r q.2.2) (λq=>WV w F s d q.2.2.s) (λq=>kG c.slots g x (d.l.map aj.xs) q.2.1 q.1 q.2.2.pl=Y/\c.slots<=q.1+q.2.1/\q.1<=8192/\lJ c (500000+6*q.1) q.2.2.s) (λq=>c.slots-q.1) (0,c.slots,⟨s,mG x,none⟩) [(7,some 2),(8,some 3),(9,some 4)] aS (λq=>⟨rfl,rfl⟩) ⟨hY0,by show c.slots<=0+c.slots;omega,Nat.zero_le _,hN.ok,hN.qM,hN.lM⟩ ⟨rfl,aU,aU,λR w' h=>⟨⟨⟨h.1.1,lG _ _ _⟩,h.1.2⟩,h.2⟩⟩ ?_
  rintro⟨base,f,ys,yt,ym⟩ ⟨hY,hf,hb8,z0⟩
  simp only at hY hf hb8 z0
  by_cases hlt:base<c.slots
  focus
   obtain⟨f',rfl⟩:∃f',f=f'+1:=⟨f-1,by omega⟩
   rw[kG,if_pos hlt]at hY
   obtain⟨hi,hhi⟩:∃hi,hi=min c.slots (base+g):=⟨_,rfl⟩
   rw[<-hhi]at hY
   have hhi1:base<hi:=by omega
   have hhi2:hi<=c.slots:=by omega
   (repeat' ((conv=>whnf)<;>first|(show @dR _ _ _;(first|refine agt (z:=(hi:Int)) aa rfl rfl ?_|refine bA aa ?_))|(show nU ..;refine WT (u:=d) (l:=base) (h:=hi) rfl rfl aa aa hdc ?_)|refine aN ?_))
   have anQ:(Hu d base hi).l.length=hi-base:=Gh aa
   have air:∀u∈(Hu d base hi).l,u∈d.l:=λu hu=>List.mem_of_mem_drop (List.mem_of_mem_take hu)
   obtain⟨Z,TZ⟩:∃Z,mZ c.slots base x (((Hu d base hi).l.drop 0).map aj.xs) 0 ⟨ys.pl,yt,none⟩=Z:=⟨_,rfl⟩
   have Rn:mZ c.slots base x (List.take (hi-base) (List.drop base (d.l.map aj.xs))) 0 ⟨ys.pl,yt,none⟩=Z:=by rw[<-TZ];simp[Hu,List.map_drop,List.map_take]
   have hcr:∀R w',(ni d).holds R w'->bf w' (Hu d base hi).base 1 (aM (Hu d base hi).l):=λR w' h=>aaK (aO h.1) hdc
   generalize hds':Hu d base hi=ds at*
   refine Wp.loop (σ:=Nat×yL) 14 (λq=>[(0,.lp 0 0 0 0),(1,ak x),(2,.c d.val),(7,ak c.slots),(8,ak g),(9,.c (.map (some r))),(10,.lp 6 0 0 0),(11,ak base),(12,.lp 10 0 0 0),(57,.c ds.val),(58,ak ds.l.length),(59,ak q.1)]) (λq=>alS c vl r ym q.2) (λq=>WV w F s d q.2.s) (λq=>q.1<=ds.l.length/\mZ c.slots base x ((ds.l.drop q.1).map aj.xs) q.1 q.2.pl=Z/\lJ c (500000+6*base+4*q.1) q.2.s) (λq=>ds.l.length-q.1) (0,⟨ys,yt,none⟩) [(11,some 7),(12,some 8),(13,some 9)] aS (λq=>⟨rfl,rfl⟩) ⟨Nat.zero_le _,TZ,z0⟩ ⟨rfl,aU,aU,λR w' h=>h⟩ ?_
   clear TZ z0
   rintro⟨k,qs,qt,qm⟩ ⟨hkl,hZ,z0⟩
   simp only at hkl hZ z0
   by_cases hlt2:k<ds.l.length
   focus
    rw[List.drop_eq_getElem_cons hlt2,List.map_cons,mZ]at hZ
    have hrow:=dh hlt2
    have wN:=air _ (List.getElem_mem hlt2)
    generalize ds.l[k]=u at*
    have fP:=hds u wN
    refine Wp.know (p:=∃a,ds.base=some a) (λρ w' hw=>ae hw λR h=>aI (j:=k) (hcr _ _ h.1.2) (by rw[aR];exact hlt2)) ?_
    rintro⟨da,hda⟩
    rcases hdn u wN with⟨hx0,hb0⟩|hxl
    focus
     rw[q9,if_pos hx0]at hZ
     (repeat' ((conv=>whnf)<;>first|refine abV ?_|refine abW ?_|(show l_ ..;(refine C8 (ti 32 rfl) rfl (b:=true) (by rw[hb0];rfl) ?_))|refine aN ?_|refine ag ?_ ?_<;>intro _))
     all_goals(conv=>whnf)
     all_goals exact⟨(k+1,⟨qs,qt,qm⟩),[],⟨hlt2,hZ,z0.mono acw⟩,by show ds.l.length-(k+1)<ds.l.length-k;omega,rfl,aU,aU,λR w' h=>h⟩
    have aaL:u.xs≠[]:=λh=>by rw[h]at hxl;simp at hxl;omega
    refine Wp.know (p:=∃a,u.base=some a) (λρ w' hw=>ae hw λR h=>aI (j:=0) (aO (h.1.2.2 u wN)) vD) ?_
    rintro⟨ua,jr⟩
    have hu1:(cutV u (c.slots-base) c.slots).xs=u.xs.drop (c.slots-base):=by show(u.xs.drop (c.slots-base)).take (c.slots-(c.slots-base))=_;rw[List.take_of_length_le acO]
    have hu2:(cutV u 0 (c.slots-base)).xs=u.xs.take (c.slots-base):=by show(u.xs.drop 0).take (c.slots-base-0)=_;rw[List.drop_zero,Nat.sub_zero]
    rcases ht:qt k with _|t
    focus
     rcases qm with _|a
     focus
      (repeat' ((conv=>whnf)<;>first|refine abV ?_|refine abW ?_|refine afV ?_|refine afW ?_|refine aN ?_|refine ag ?_ ?_<;>intro _))
      refine dN [(10,.box (jL none) 129),(6,.box (jL ym) 129),(5,.ext (lg r (oV qt)))] 0 1 11 12 13 c (qs) vl dW [.lp 0 0 0 0,ak (8),ak (x),ak (0),ak (k)] _ _ _ _ Tryz.call68 rfl rfl rfl (λR w' h=>trivial) (dU w F) (λR w' h b hb=>((h).2 b hb).1) (λw' ρ' F' h'=>gN c (qs) vl (8) (x) (0) (k) G_ w' ρ' F' h') (λ_ _=> ?_)
      have z1:=z0.lay (8) (x) (0) (k)
      (repeat' ((conv=>whnf)<;>first|refine akX ?_|(show cO _ 21 ..;refine mE [] _ Zg ?_)|refine afX ?_|(refine akZ ?_;intro m hm ms)|refine aN ?_))
      have hmv:m.xs=jH c.slots base u.xs:=by rw[hm,hu1,hu2];rfl
      refine dN [(10,.box (jL none) 129),(6,.box (jL ym) 129),(5,.ext (lg r (oV (λz=>if z=(k:Int)then some ((qs).code.length:Int)else qt z))))] 0 1 16 17 18 c (cu (qs) (8) (x) (0) (k)) vl ((dP (cu (qs) (8) (x) (0) (k)).ay).and (bn m)) [.lp 0 0 0 0,.c m.val] _ _ _ _ Tryz.call130 rfl rfl rfl (λR w' h=>⟨(h.1.1).1.1.1,jN (h).2⟩) (dU w F) (λR w' h b hb=>((h.1.1).2 b hb).1) (λw' ρ' F' h'=>uG c (cu (qs) (8) (x) (0) (k)) vl m ms z1.ok.ay (by have:=z1.qM;omega) w' ρ' F' h') (λ_ _=> ?_)
      have z2:=z1.plain ms
      (repeat' ((conv=>whnf)<;>first|refine aN ?_))
      refine dN [(10,.box (jL none) 129),(6,.box (jL ym) 129),(5,.ext (lg r (oV (λz=>if z=(k:Int)then some ((qs).code.length:Int)else qt z))))] 0 1 23 24 25 c ((az (cu (qs) (8) (x) (0) (k)) m).1) vl dW [.lp 0 0 0 0,ak (5),ak (((qs).code.length:Int)),ak (0),ak ((az (cu (qs) (8) (x) (0) (k)) m).2)] _ _ _ _ Tryz.call68 rfl rfl rfl (λR w' h=>trivial) (dU w F) (λR w' h b hb=>((h.1.1.1).2 b hb).1) (λw' ρ' F' h'=>gN c ((az (cu (qs) (8) (x) (0) (k)) m).1) vl (5) (((qs).code.length:Int)) (0) ((az (cu (qs) (8) (x) (0) (k)) m).2) acW w' ρ' F' h') (λ_ _=> ?_)
      have z3:=z2.lay (5) (((qs).code.length:Int)) (0) ((az (cu (qs) (8) (x) (0) (k)) m).2)
      (repeat' ((conv=>whnf)<;>first|refine G7 ?_|refine G8 ?_|refine G9 ?_|refine aN ?_))
      all_goals(conv=>whnf)
      all_goals exact⟨(k+1,⟨cu ((az (cu (qs) (8) (x) (0) (k)) m).1) (5) (((qs).code.length:Int)) (0) ((az (cu (qs) (8) (x) (0) (k)) m).2),(λz=>if z=(k:Int)then some ((qs).code.length:Int)else qt z),some (((az (cu (qs) (8) (x) (0) (k)) m).1).code.length:Int)⟩),[(11,some 28),(12,some 29),(13,some 30)],⟨hlt2,by rw[<-hZ,<-xJ (y:=⟨qs,qt,none⟩) (x:=x) (i:=k) hmv aaL];simp only[Ad,tH,ht,Ac],z3.mono acw⟩,by show ds.l.length-(k+1)<ds.l.length-k;omega,rfl,aU,aU,λR w' h=>⟨⟨⟨(mr ((h.1.1.1.1).1.1.1) (jN (h.1.1).2)),(gQ ((h.1.1.1.1).1.1.2) (h.1.1).2)⟩,(h.1.1.1.1).1.2⟩,(h.1.1.1.1).2⟩⟩
     focus
      (repeat' ((conv=>whnf)<;>first|refine abV ?_|refine abW ?_|refine afV ?_|refine afW ?_|refine aN ?_|refine ag ?_ ?_<;>intro _))
      refine dN [(10,.box (jL (some a)) 129),(6,.box (jL ym) 129),(5,.ext (lg r (oV qt)))] 0 1 11 12 13 c (qs) vl dW [.lp 0 0 0 0,ak (8),ak (x),ak (0),ak (k)] _ _ _ _ Tryz.call68 rfl rfl rfl (λR w' h=>trivial) (dU w F) (λR w' h b hb=>((h).2 b hb).1) (λw' ρ' F' h'=>gN c (qs) vl (8) (x) (0) (k) G_ w' ρ' F' h') (λ_ _=> ?_)
      have z1:=z0.lay (8) (x) (0) (k)
      (repeat' ((conv=>whnf)<;>first|refine akX ?_|(show cO _ 21 ..;refine mE [] _ Zg ?_)|refine afX ?_|(refine akZ ?_;intro m hm ms)|refine aN ?_))
      have hmv:m.xs=jH c.slots base u.xs:=by rw[hm,hu1,hu2];rfl
      refine dN [(10,.box (jL (some a)) 129),(6,.box (jL ym) 129),(5,.ext (lg r (oV (λz=>if z=(k:Int)then some ((qs).code.length:Int)else qt z))))] 0 1 16 17 18 c (cu (qs) (8) (x) (0) (k)) vl ((dP (cu (qs) (8) (x) (0) (k)).ay).and (bn m)) [.lp 0 0 0 0,.c m.val] _ _ _ _ Tryz.call130 rfl rfl rfl (λR w' h=>⟨(h.1.1).1.1.1,jN (h).2⟩) (dU w F) (λR w' h b hb=>((h.1.1).2 b hb).1) (λw' ρ' F' h'=>uG c (cu (qs) (8) (x) (0) (k)) vl m ms z1.ok.ay (by have:=z1.qM;omega) w' ρ' F' h') (λ_ _=> ?_)
      have z2:=z1.plain ms
      (repeat' ((conv=>whnf)<;>first|refine aN ?_))
      refine dN [(10,.box (jL (some a)) 129),(6,.box (jL ym) 129),(5,.ext (lg r (oV (λz=>if z=(k:Int)then some ((qs).code.length:Int)else qt z))))] 0 1 23 24 25 c ((az (cu (qs) (8) (x) (0) (k)) m).1) vl dW [.lp 0 0 0 0,ak (5),ak (((qs).code.length:Int)),ak (0),ak ((az (cu (qs) (8) (x) (0) (k)) m).2)] _ _ _ _ Tryz.call68 rfl rfl rfl (λR w' h=>trivial) (dU w F) (λR w' h b hb=>((h.1.1.1).2 b hb).1) (λw' ρ' F' h'=>gN c ((az (cu (qs) (8) (x) (0) (k)) m).1) vl (5) (((qs).code.length:Int)) (0) ((az (cu (qs) (8) (x) (0) (k)) m).2) acW w' ρ' F' h') (λ_ _=> ?_)
      have z3:=z2.lay (5) (((qs).code.length:Int)) (0) ((az (cu (qs) (8) (x) (0) (k)) m).2)
      (repeat' ((conv=>whnf)<;>first|refine G7 ?_|refine G8 ?_|refine G9 ?_|refine aN ?_))
      refine dN [(10,.box (jL (some a)) 129),(6,.box (jL ym) 129),(5,.ext (lg r (oV (λz=>if z=(k:Int)then some ((qs).code.length:Int)else qt z))))] 0 1 28 29 30 c (cu ((az (cu (qs) (8) (x) (0) (k)) m).1) (5) (((qs).code.length:Int)) (0) ((az (cu (qs) (8) (x) (0) (k)) m).2)) vl dW [.lp 0 0 0 0,ak (3),ak (a),ak ((((az (cu (qs) (8) (x) (0) (k)) m).1).code.length:Int)),ak (0)] _ _ _ _ Tryz.call68 rfl rfl rfl (λR w' h=>trivial) (dU w F) (λR w' h b hb=>((h.1.1.1.1).2 b hb).1) (λw' ρ' F' h'=>gN c (cu ((az (cu (qs) (8) (x) (0) (k)) m).1) (5) (((qs).code.length:Int)) (0) ((az (cu (qs) (8) (x) (0) (k)) m).2)) vl (3) (a) ((((az (cu (qs) (8) (x) (0) (k)) m).1).code.length:Int)) (0) (by have:=z3.lM;omega) w' ρ' F' h') (λ_ _=> ?_)
      have z4:=z3.lay (3) (a) ((((az (cu (qs) (8) (x) (0) (k)) m).1).code.length:Int)) (0)
      (repeat' ((conv=>whnf)<;>first|refine G7 ?_|refine G8 ?_|refine G9 ?_|refine aN ?_))
      all_goals(conv=>whnf)
      all_goals exact⟨(k+1,⟨cu (cu ((az (cu (qs) (8) (x) (0) (k)) m).1) (5) (((qs).code.length:Int)) (0) ((az (cu (qs) (8) (x) (0) (k)) m).2)) (3) (a) ((((az (cu (qs) (8) (x) (0) (k)) m).1).code.length:Int)) (0),(λz=>if z=(k:Int)then some ((qs).code.length:Int)else qt z),some ((cu ((az (cu (qs) (8) (x) (0) (k)) m).1) (5) (((qs).code.length:Int)) (0) ((az (cu (qs) (8) (x) (0) (k)) m).2)).code.length:Int)⟩),[(11,some 33),(12,some 34),(13,some 35)],⟨hlt2,by rw[<-hZ,<-xJ (y:=⟨qs,qt,some a⟩) (x:=x) (i:=k) hmv aaL];simp only[Ad,tH,ht,Ac],z4.mono acw⟩,by show ds.l.length-(k+1)<ds.l.length-k;omega,rfl,aU,aU,λR w' h=>⟨⟨⟨(mr ((h.1.1.1.1.1).1.1.1) (jN (h.1.1.1).2)),(gQ ((h.1.1.1.1.1).1.1.2) (h.1.1.1).2)⟩,(h.1.1.1.1.1).1.2⟩,(h.1.1.1.1.1).2⟩⟩
    focus
     rcases qm with _|a
     focus
      (repeat' ((conv=>whnf)<;>first|refine abV ?_|refine abW ?_|refine afV ?_|refine afW ?_|(show cO _ 21 ..;refine mE [] _ Zg ?_)|refine afX ?_|(refine ak0 ?_;intro m hm ms)|refine aN ?_|refine ag ?_ ?_<;>intro _))
      have hmv:m.xs=jH c.slots base u.xs:=by rw[hm,hu1,hu2];rfl
      refine dN [(10,.box (jL none) 129),(6,.box (jL ym) 129),(5,.ext (lg r (oV qt)))] 0 1 11 12 13 c (qs) vl ((dP (qs).ay).and (bn m)) [.lp 0 0 0 0,.c m.val] _ _ _ _ Tryz.call130 rfl rfl rfl (λR w' h=>⟨(h.1).1.1.1,jN (h).2⟩) (dU w F) (λR w' h b hb=>((h.1).2 b hb).1) (λw' ρ' F' h'=>uG c (qs) vl m ms z0.ok.ay RO w' ρ' F' h') (λ_ _=> ?_)
      have z1:=z0.plain ms
      (repeat' ((conv=>whnf)<;>first|refine aN ?_))
      refine dN [(10,.box (jL none) 129),(6,.box (jL ym) 129),(5,.ext (lg r (oV qt)))] 0 1 18 19 20 c ((az (qs) m).1) vl dW [.lp 0 0 0 0,ak (5),ak (t),ak (0),ak ((az (qs) m).2)] _ _ _ _ Tryz.call68 rfl rfl rfl (λR w' h=>trivial) (dU w F) (λR w' h b hb=>((h.1.1).2 b hb).1) (λw' ρ' F' h'=>gN c ((az (qs) m).1) vl (5) (t) (0) ((az (qs) m).2) ZP w' ρ' F' h') (λ_ _=> ?_)
      have z2:=z1.lay (5) (t) (0) ((az (qs) m).2)
      (repeat' ((conv=>whnf)<;>first|refine G7 ?_|refine G8 ?_|refine G9 ?_|refine aN ?_))
      all_goals(conv=>whnf)
      all_goals exact⟨(k+1,⟨cu ((az (qs) m).1) (5) (t) (0) ((az (qs) m).2),qt,some (((az (qs) m).1).code.length:Int)⟩),[(11,some 23),(12,some 24),(13,some 25)],⟨hlt2,by rw[<-hZ,<-xJ (y:=⟨qs,qt,none⟩) (x:=x) (i:=k) hmv aaL];simp only[Ad,tH,ht,Ac],z2.mono acw⟩,by show ds.l.length-(k+1)<ds.l.length-k;omega,rfl,aU,aU,λR w' h=>⟨⟨⟨(mr ((h.1.1.1).1.1.1) (jN (h.1.1).2)),(gQ ((h.1.1.1).1.1.2) (h.1.1).2)⟩,(h.1.1.1).1.2⟩,(h.1.1.1).2⟩⟩
     focus
      (repeat' ((conv=>whnf)<;>first|refine abV ?_|refine abW ?_|refine afV ?_|refine afW ?_|(show cO _ 21 ..;refine mE [] _ Zg ?_)|refine afX ?_|(refine ak0 ?_;intro m hm ms)|refine aN ?_|refine ag ?_ ?_<;>intro _))
      have hmv:m.xs=jH c.slots base u.xs:=by rw[hm,hu1,hu2];rfl
      refine dN [(10,.box (jL (some a)) 129),(6,.box (jL ym) 129),(5,.ext (lg r (oV qt)))] 0 1 11 12 13 c (qs) vl ((dP (qs).ay).and (bn m)) [.lp 0 0 0 0,.c m.val] _ _ _ _ Tryz.call130 rfl rfl rfl (λR w' h=>⟨(h.1).1.1.1,jN (h).2⟩) (dU w F) (λR w' h b hb=>((h.1).2 b hb).1) (λw' ρ' F' h'=>uG c (qs) vl m ms z0.ok.ay RO w' ρ' F' h') (λ_ _=> ?_)
      have z1:=z0.plain ms
      (repeat' ((conv=>whnf)<;>first|refine aN ?_))
      refine dN [(10,.box (jL (some a)) 129),(6,.box (jL ym) 129),(5,.ext (lg r (oV qt)))] 0 1 18 19 20 c ((az (qs) m).1) vl dW [.lp 0 0 0 0,ak (5),ak (t),ak (0),ak ((az (qs) m).2)] _ _ _ _ Tryz.call68 rfl rfl rfl (λR w' h=>trivial) (dU w F) (λR w' h b hb=>((h.1.1).2 b hb).1) (λw' ρ' F' h'=>gN c ((az (qs) m).1) vl (5) (t) (0) ((az (qs) m).2) ZP w' ρ' F' h') (λ_ _=> ?_)
      have z2:=z1.lay (5) (t) (0) ((az (qs) m).2)
      (repeat' ((conv=>whnf)<;>first|refine G7 ?_|refine G8 ?_|refine G9 ?_|refine aN ?_))
      refine dN [(10,.box (jL (some a)) 129),(6,.box (jL ym) 129),(5,.ext (lg r (oV qt)))] 0 1 23 24 25 c (cu ((az (qs) m).1) (5) (t) (0) ((az (qs) m).2)) vl dW [.lp 0 0 0 0,ak (3),ak (a),ak ((((az (qs) m).1).code.length:Int)),ak (0)] _ _ _ _ Tryz.call68 rfl rfl rfl (λR w' h=>trivial) (dU w F) (λR w' h b hb=>((h.1.1.1).2 b hb).1) (λw' ρ' F' h'=>gN c (cu ((az (qs) m).1) (5) (t) (0) ((az (qs) m).2)) vl (3) (a) ((((az (qs) m).1).code.length:Int)) (0) acW w' ρ' F' h') (λ_ _=> ?_)
      have z3:=z2.lay (3) (a) ((((az (qs) m).1).code.length:Int)) (0)
      (repeat' ((conv=>whnf)<;>first|refine G7 ?_|refine G8 ?_|refine G9 ?_|refine aN ?_))
      all_goals(conv=>whnf)
      all_goals exact⟨(k+1,⟨cu (cu ((az (qs) m).1) (5) (t) (0) ((az (qs) m).2)) (3) (a) ((((az (qs) m).1).code.length:Int)) (0),qt,some ((cu ((az (qs) m).1) (5) (t) (0) ((az (qs) m).2)).code.length:Int)⟩),[(11,some 28),(12,some 29),(13,some 30)],⟨hlt2,by rw[<-hZ,<-xJ (y:=⟨qs,qt,some a⟩) (x:=x) (i:=k) hmv aaL];simp only[Ad,tH,ht,Ac],z3.mono acw⟩,by show ds.l.length-(k+1)<ds.l.length-k;omega,rfl,aU,aU,λR w' h=>⟨⟨⟨(mr ((h.1.1.1.1).1.1.1) (jN (h.1.1.1).2)),(gQ ((h.1.1.1.1).1.1.2) (h.1.1.1).2)⟩,(h.1.1.1.1).1.2⟩,(h.1.1.1.1).2⟩⟩
   obtain rfl:k=ds.l.length:=by omega
   rw[List.drop_length]at hZ
   have hZ:(⟨qs,qt,qm⟩:yL).pl=Z:=hZ
   have hS:sZ c.slots base x (yL.pl ⟨ys,yt,ym⟩) (List.take (hi-base) (List.drop base (d.l.map aj.xs)))=(ve base ym ⟨qs,qt,qm⟩).pl:=(OJ (y:=yL.pl ⟨ys,yt,ym⟩) (Rn.trans hZ.symm)).symm
   rw[hS]at hY
   clear hS hZ Rn hcr air hkl hds'
   have hkg:ds.l.length<=g:=by omega
   rcases qm with _|a
   focus
    (repeat' ((conv=>whnf)<;>first|refine abY ?_|refine aN ?_))
    all_goals(conv=>whnf)
    all_goals exact⟨(base+g,f',⟨qs,qt,ym⟩),[(7,some 11),(8,some 12),(9,some 13)],⟨by rw[<-hY];simp only[ve],by show c.slots<=base+g+f';omega,by show base+g<=8192;omega,z0.mono acy⟩,by show c.slots-(base+g)<c.slots-base;omega,rfl,aU,aU,λR w' h=>⟨⟨⟨(h).1.1.1,(h).1.1.2⟩,(h).1.2⟩,(h).2⟩⟩
   rcases Nat.lt_or_ge 0 base with hb|hb
   focus
    rcases ym with _|b
    focus
     (repeat' ((conv=>whnf)<;>first|(show @dR _ _ _;refine bA aa ?_)|refine aN ?_|refine ag ?_ ?_<;>intro _))
     refine dN [(10,.box (jL (some a)) 129),(6,.box (jL none) 129),(5,.ext (lg r (oV qt)))] 0 1 11 12 13 c (qs) vl dW [.lp 0 0 0 0,ak (8),ak (a),ak (0),ak (base)] _ _ _ _ Tryz.call68 rfl rfl rfl (λR w' h=>trivial) (dU w F) (λR w' h b hb=>((h).2 b hb).1) (λw' ρ' F' h'=>gN c (qs) vl (8) (a) (0) (base) G_ w' ρ' F' h') (λ_ _=> ?_)
     have z1:=z0.lay (8) (a) (0) (base)
     (repeat' ((conv=>whnf)<;>first|refine G7 ?_|refine G8 ?_|refine G9 ?_|refine aN ?_))
     all_goals(conv=>whnf)
     all_goals exact⟨(base+g,f',⟨cu (qs) (8) (a) (0) (base),qt,some ((qs).code.length:Int)⟩),[(7,some 16),(8,some 17),(9,some 18)],⟨by rw[<-hY];simp only[ve,Ac,if_pos hb],by show c.slots<=base+g+f';omega,by show base+g<=8192;omega,z1.mono acy⟩,by show c.slots-(base+g)<c.slots-base;omega,rfl,aU,aU,λR w' h=>⟨⟨⟨(h.1).1.1.1,(h.1).1.1.2⟩,(h.1).1.2⟩,(h.1).2⟩⟩
    focus
     (repeat' ((conv=>whnf)<;>first|(show @dR _ _ _;refine bA aa ?_)|refine aN ?_|refine ag ?_ ?_<;>intro _))
     refine dN [(10,.box (jL (some a)) 129),(6,.box (jL (some b)) 129),(5,.ext (lg r (oV qt)))] 0 1 11 12 13 c (qs) vl dW [.lp 0 0 0 0,ak (8),ak (a),ak (0),ak (base)] _ _ _ _ Tryz.call68 rfl rfl rfl (λR w' h=>trivial) (dU w F) (λR w' h b hb=>((h).2 b hb).1) (λw' ρ' F' h'=>gN c (qs) vl (8) (a) (0) (base) G_ w' ρ' F' h') (λ_ _=> ?_)
     have z1:=z0.lay (8) (a) (0) (base)
     (repeat' ((conv=>whnf)<;>first|refine G7 ?_|refine G8 ?_|refine G9 ?_|refine aN ?_))
     refine dN [(10,.box (jL (some ((qs).code.length:Int))) 129),(6,.box (jL (some b)) 129),(5,.ext (lg r (oV qt)))] 0 1 16 17 18 c (cu (qs) (8) (a) (0) (base)) vl dW [.lp 0 0 0 0,ak (3),ak (b),ak (((qs).code.length:Int)),ak (0)] _ _ _ _ Tryz.call68 rfl rfl rfl (λR w' h=>trivial) (dU w F) (λR w' h b hb=>((h.1).2 b hb).1) (λw' ρ' F' h'=>gN c (cu (qs) (8) (a) (0) (base)) vl (3) (b) (((qs).code.length:Int)) (0) ZP w' ρ' F' h') (λ_ _=> ?_)
     have z2:=z1.lay (3) (b) (((qs).code.length:Int)) (0)
     (repeat' ((conv=>whnf)<;>first|refine G7 ?_|refine G8 ?_|refine G9 ?_|refine aN ?_))
     all_goals(conv=>whnf)
     all_goals exact⟨(base+g,f',⟨cu (cu (qs) (8) (a) (0) (base)) (3) (b) (((qs).code.length:Int)) (0),qt,some ((cu (qs) (8) (a) (0) (base)).code.length:Int)⟩),[(7,some 21),(8,some 22),(9,some 23)],⟨by rw[<-hY];simp only[ve,Ac,if_pos hb],by show c.slots<=base+g+f';omega,by show base+g<=8192;omega,z2.mono acy⟩,by show c.slots-(base+g)<c.slots-base;omega,rfl,aU,aU,λR w' h=>⟨⟨⟨(h.1.1).1.1.1,(h.1.1).1.1.2⟩,(h.1.1).1.2⟩,(h.1.1).2⟩⟩
   focus
    have hb:¬0<base:=by omega
    rcases ym with _|b
    focus
     (repeat' ((conv=>whnf)<;>first|refine abY ?_|refine G7 ?_|refine G8 ?_|refine G9 ?_|refine aN ?_))
     all_goals(conv=>whnf)
     all_goals exact⟨(base+g,f',⟨qs,qt,some a⟩),[(7,some 11),(8,some 12),(9,some 13)],⟨by rw[<-hY];simp only[ve,Ac,if_neg hb],by show c.slots<=base+g+f';omega,by show base+g<=8192;omega,z0.mono acy⟩,by show c.slots-(base+g)<c.slots-base;omega,rfl,aU,aU,λR w' h=>⟨⟨⟨(h).1.1.1,(h).1.1.2⟩,(h).1.2⟩,(h).2⟩⟩
    focus
     (repeat' ((conv=>whnf)<;>first|refine abY ?_|refine G7 ?_|refine G8 ?_|refine G9 ?_|refine aN ?_))
     refine dN [(10,.box (jL (some a)) 129),(6,.box (jL (some b)) 129),(5,.ext (lg r (oV qt)))] 0 1 11 12 13 c (qs) vl dW [.lp 0 0 0 0,ak (3),ak (b),ak (a),ak (0)] _ _ _ _ Tryz.call68 rfl rfl rfl (λR w' h=>trivial) (dU w F) (λR w' h b hb=>((h).2 b hb).1) (λw' ρ' F' h'=>gN c (qs) vl (3) (b) (a) (0) G_ w' ρ' F' h') (λ_ _=> ?_)
     have z1:=z0.lay (3) (b) (a) (0)
     (repeat' ((conv=>whnf)<;>first|refine G7 ?_|refine G8 ?_|refine G9 ?_|refine aN ?_))
     all_goals(conv=>whnf)
     all_goals exact⟨(base+g,f',⟨cu (qs) (3) (b) (a) (0),qt,some ((qs).code.length:Int)⟩),[(7,some 16),(8,some 17),(9,some 18)],⟨by rw[<-hY];simp only[ve,Ac,if_neg hb],by show c.slots<=base+g+f';omega,by show base+g<=8192;omega,z1.mono acy⟩,by show c.slots-(base+g)<c.slots-base;omega,rfl,aU,aU,λR w' h=>⟨⟨⟨(h.1).1.1.1,(h.1).1.1.2⟩,(h.1).1.2⟩,(h.1).2⟩⟩
  rw[KW hlt]at hY
  subst hY
  rw[<-hgv]at hY0
  rcases ym with _|a
  focus
   (repeat' ((conv=>whnf)<;>first|refine abY ?_|refine aN ?_))
   refine dN [(6,.box (jL none) 129),(5,.ext (lg r (oV yt)))] 0 1 7 8 9 c (ys) vl (dP (ys).ay) [.lp 0 0 0 0,ak (x)] _ _ _ _ Tryz.call74 rfl rfl rfl (λR w' h=>(h).1.1.1) (dU w F) (λR w' h b hb=>((h).2 b hb).1) (λw' ρ' F' h'=>Ty c (ys) vl (x) hn2 z0.ok.ay RO G_ w' ρ' F' h') (λu ⟨hu,hsu⟩=> ?_)
   have z1:=z0.zero hsu (x)
   (repeat' ((conv=>whnf)<;>first|refine aN ?_))
   all_goals(conv=>whnf)
   have e:jl c.slots c.giant s.pl x (d.l.map aj.xs)=((zeroV (ys) u (x)).pl,((ys).code.length:Int)):=by unfold jl;rw[hY0];exact yJ hu
   all_goals exact eU _ _ _ _ (zeroV (ys) u (x),(((ys).code.length:Int):Int)) [(2,some 12),(3,some 13),(4,some 14)] ⟨(congrArg Prod.fst e).symm,(congrArg Prod.snd e).symm,z1.ok⟩ aS rfl rfl rfl rfl aU (λR w' h=>⟨(h.1).2,(gQ ((h.1).1.1.2) (h).2)⟩)
  focus
   (repeat' ((conv=>whnf)<;>first|refine abY ?_|refine aN ?_))
   all_goals(conv=>whnf)
   have e:jl c.slots c.giant s.pl x (d.l.map aj.xs)=((ys).pl,a):=by unfold jl;rw[hY0];rfl
   all_goals exact eU _ _ _ _ (ys,(a:Int)) [(2,some 7),(3,some 8),(4,some 9)] ⟨(congrArg Prod.fst e).symm,(congrArg Prod.snd e).symm,z0.ok⟩ aS rfl rfl rfl rfl aU (λR w' h=>⟨(h).2,(h).1.1.2⟩)
end
def lZ(g:Nat->Int->Int):Nat->List Int->Int
 |_,[]=>0
 |i,w::r=>g i w+lZ g (i+1) r
def zg(g:Nat->Int->Int):List Sp->Int
 |[]=>0
 |t::r=>g t.2.toNat t.1+zg g r
def wG(r:List Int)(t:Sp):List Int:=r.set t.2.toNat t.1
theorem Gi(g:Nat->Int->Int):∀(a b:List Int) (i:Nat),lZ g i (a++b)=lZ g i a+lZ g (i+a.length) b
 |[],b,i=>by simp[lZ]
 |x::r,b,i=>by
  rw[List.cons_append,lZ,lZ,Gi g r b (i+1),List.length_cons,show i+1+r.length=i+(r.length+1) by omega]
  omega
theorem Fu(g:Nat->Int->Int){l:List Int}{j:Nat}(h:j<l.length):lZ g 0 (l.take (j+1))=lZ g 0 (l.take j)+g j (l.getD j 0):=by
 rw[List.take_succ_eq_append_getElem h,Gi,List.length_take,Nat.min_eq_left (Nat.le_of_lt h)]
 have:l.getD j 0=l[j]:=by rw[List.getD_eq_getElem?_getD,List.getElem?_eq_getElem h];rfl
 rw[this]
 simp[lZ]
theorem T9(g:Nat->Int->Int){v:Int}:∀{r:List Int} {i j:Nat},j<r.length->r.getD j 0=0->g (i+j) 0=0->lZ g i (r.set j v)=lZ g i r+g (i+j) v
 |[],i,j,h,_,_=>by simp at h
 |x::r,i,0,_,h0,hg=>by
  have hx:x=0:=by simpa using h0
  subst hx
  rw[List.set_cons_zero,lZ,lZ]
  simp only[Nat.add_zero]at hg|-
  omega
 |x::r,i,j+1,h,h0,hg=>by
  rw[List.set_cons_succ,lZ,lZ,T9 g (i:=i+1) Yu (by simpa using h0) (by rw[show i+1+j=i+(j+1) by omega];exact hg),show i+1+j=i+(j+1) by omega]
  omega
theorem OL(g:Nat->Int->Int)(hg:∀k,g k 0=0):∀(n i:Nat),lZ g i (List.replicate n 0)=0
 |0,i=>rfl
 |n+1,i=>by rw[List.replicate_succ,lZ,hg,OL g hg n (i+1)];rfl
theorem Gj(r:List Int)(t:Sp):(wG r t).length=r.length:=by simp[wG]
theorem ug:∀(T:List Sp) (r:List Int),(T.foldl wG r).length=r.length
 |[],r=>rfl
 |t::T,r=>by rw[List.foldl_cons,ug T,Gj]
theorem KX(g:Nat->Int->Int)(hg:∀k,g k 0=0):∀{T:List Sp} {r:List Int},(∀t∈T,(0<=t.2/\t.2<r.length)/\r.getD t.2.toNat 0=0)->T.Pairwise (λx y=>x.2≠y.2)->lZ g 0 (T.foldl wG r)=lZ g 0 r+zg g T
 |[],r,_,_=>by simp[zg]
 |t::T,r,h,hp=>by
  obtain⟨hp1,hp2⟩:=List.pairwise_cons.1 hp
  obtain⟨⟨h1,h2⟩,h3⟩:=h t List.mem_cons_self
  rw[List.foldl_cons,KX g hg (T:=T) (r:=wG r t) (λu hu=> ?_) hp2]
  ·have e:lZ g 0 (wG r t)=lZ g 0 r+g t.2.toNat t.1:=by
    have:=T9 g (v:=t.1) (r:=r) (i:=0) (j:=t.2.toNat) aa h3 (hg _)
    rw[Nat.zero_add]at this
    exact this
   rw[e,zg];omega
  ·obtain⟨g1,g2⟩:=h u (List.mem_cons_of_mem _ hu)
   refine⟨by rw[Gj];exact g1,?_⟩
   have hne:=hp1 u hu
   unfold wG
   rw[List.getD_eq_getElem?_getD,List.getElem?_set_ne aa,<-List.getD_eq_getElem?_getD]
   exact g2
def gLo(a:Sp)(_:Nat)(w:Int):Int:=min (w*a.1) (w*a.2)
def gHi(a:Sp)(_:Nat)(w:Int):Int:=max (w*a.1) (w*a.2)
def ME(av:List Int)(i:Nat)(w:Int):Int:=w*av.getD i 0
theorem aed(a:Sp)(k:Nat):gLo a k 0=0:=by unfold gLo;omega
theorem aee(a:Sp)(k:Nat):gHi a k 0=0:=by unfold gHi;omega
theorem aaM(av:List Int)(k:Nat):ME av k 0=0:=by unfold ME;omega
theorem T_(a:Sp):∀(T:List Sp) (s:Int),T.foldl (H9 a) s=s+zg (gLo a) T
 |[],s=>by simp[zg]
 |t::T,s=>by
  rw[List.foldl_cons,T_ a T,zg]
  have e1:H9 a s t=s+min (t.1*a.1) (t.1*a.2):=rfl
  have e2:gLo a t.2.toNat t.1=min (t.1*a.1) (t.1*a.2):=rfl
  omega
theorem Ua(a:Sp):∀(T:List Sp) (s:Int),T.foldl (H_ a) s=s+zg (gHi a) T
 |[],s=>by simp[zg]
 |t::T,s=>by
  rw[List.foldl_cons,Ua a T,zg]
  have e1:H_ a s t=s+max (t.1*a.1) (t.1*a.2):=rfl
  have e2:gHi a t.2.toNat t.1=max (t.1*a.1) (t.1*a.2):=rfl
  omega
theorem OM(av:List Int):∀(T:List Sp) (s:Int),T.foldl (Cr av) s=s+zg (ME av) T
 |[],s=>by simp[zg]
 |t::T,s=>by
  rw[List.foldl_cons,OM av T,zg]
  have e1:Cr av s t=s+t.1*av.getD t.2.toNat 0:=rfl
  have e2:ME av t.2.toNat t.1=t.1*av.getD t.2.toNat 0:=rfl
  omega
theorem Ae{A B x y m:Int}(hx:0<=x/\x<m)(hy:0<=y/\y<m)(h:A*m+x=B*m+y):A=B/\x=y:=by
 have hm:0<m:=by omega
 have e1:(A*m+x)/m=A:=by rw[Int.add_comm,Int.add_mul_ediv_right _ _ aa,Int.ediv_eq_zero_of_lt hx.1 hx.2];omega
 have e2:(B*m+y)/m=B:=by rw[Int.add_comm,Int.add_mul_ediv_right _ _ aa,Int.ediv_eq_zero_of_lt hy.1 hy.2];omega
 have:A=B:=by rw[<-e1,<-e2,h]
 subst this
 exact⟨rfl,by omega⟩
theorem Af{i j m:Int}(_hm:0<m)(h1:i/m=j/m)(h2:i%m=j%m):i=j:=by
 have q1:=Int.mul_ediv_add_emod i m
 have q2:=Int.mul_ediv_add_emod j m
 rw[h1,h2]at q1
 omega
theorem aef{d:List Int}{k1 k2 k3 i1 i2 o:Int}{i j:Nat}(h2:1<=k2/\k2<=i1)(h3:1<=k3/\k3<=i2)(ho:0<=o)(h:(gK d k1 k2 k3 i1 i2 o i).2=(gK d k1 k2 k3 i1 i2 o j).2):i=j:=by
 have hW:0<i2-k3+1:=by omega
 have hH:0<i1-k2+1:=by omega
 obtain⟨d1,d2,d3,d4⟩:=jG ho hW
 obtain⟨d5,d6,d7,d8⟩:=jG d1 hH
 have c3:=Int.emod_nonneg (i:Int) (show k3≠0 by omega)
 have c4:=Int.emod_lt_of_pos (i:Int) (show 0<k3 by omega)
 have e3:=Int.emod_nonneg (j:Int) (show k3≠0 by omega)
 have e4:=Int.emod_lt_of_pos (j:Int) (show 0<k3 by omega)
 have c7:=Int.emod_nonneg ((i:Int)/k3) (show k2≠0 by omega)
 have c8:=Int.emod_lt_of_pos ((i:Int)/k3) (show 0<k2 by omega)
 have e7:=Int.emod_nonneg ((j:Int)/k3) (show k2≠0 by omega)
 have e8:=Int.emod_lt_of_pos ((j:Int)/k3) (show 0<k2 by omega)
 have h':((i:Int)/k3/k2*i1+o/(i2-k3+1)%(i1-k2+1)+(i:Int)/k3%k2)*i2+o%(i2-k3+1)+(i:Int)%k3=((j:Int)/k3/k2*i1+o/(i2-k3+1)%(i1-k2+1)+(j:Int)/k3%k2)*i2+o%(i2-k3+1)+(j:Int)%k3:=h
 rw[Int.add_assoc,Int.add_assoc _ _ ((j:Int)%k3)]at h'
 obtain⟨q1,q2⟩:=Ae ⟨by omega,by omega⟩ ⟨by omega,by omega⟩ h'
 rw[Int.add_assoc,Int.add_assoc _ _ ((j:Int)/k3%k2)]at q1
 obtain⟨q3,q4⟩:=Ae ⟨by omega,by omega⟩ ⟨by omega,by omega⟩ q1
 have q5:=Af aa q3 (show(i:Int)/k3%k2=(j:Int)/k3%k2 by omega)
 have q6:=Af aa q5 (show(i:Int)%k3=(j:Int)%k3 by omega)
 omega
theorem aeg{z i1 i2 o:Int}{i j:Nat}(hz:1<=z)(h1:z<=i1)(h2:z<=i2)(m1:i1%z=0)(m2:i2%z=0)(ho:0<=o)(hi:(i:Int)<z*z)(hj:(j:Int)<z*z)(h:(iB z i1 i2 o i).2=(iB z i1 i2 o j).2):i=j:=by
 have hW:=om (x:=i2) (y:=z) aa h2
 have hH:=om (x:=i1) (y:=z) aa h1
 have q1:=Int.mul_ediv_add_emod i1 z
 have q2:=Int.mul_ediv_add_emod i2 z
 obtain⟨d1,d2,d3,d4⟩:=jG (x:=o) (y:=i2/z) ho aa
 obtain⟨d5,d6,d7,d8⟩:=jG (x:=o/(i2/z)) (y:=i1/z) d1 aa
 obtain⟨c1,c2,c3,c4⟩:=jG (x:=(i:Int)) (y:=z) aa aa
 obtain⟨e1,e2,e3,e4⟩:=jG (x:=(j:Int)) (y:=z) aa aa
 have hdy:(i:Int)/z<z:=Int.ediv_lt_of_lt_mul aa hi
 have hdj:(j:Int)/z<z:=Int.ediv_lt_of_lt_mul aa hj
 have h':(o/(i2/z)/(i1/z)*i1+o/(i2/z)%(i1/z)*z+(i:Int)/z)*i2+o%(i2/z)*z+(i:Int)%z=(o/(i2/z)/(i1/z)*i1+o/(i2/z)%(i1/z)*z+(j:Int)/z)*i2+o%(i2/z)*z+(j:Int)%z:=h
 have y0:0<=o/(i2/z)%(i1/z)*z:=Int.mul_nonneg d7 aa
 have x0:0<=o%(i2/z)*z:=Int.mul_nonneg d3 aa
 have y1:o/(i2/z)%(i1/z)*z<=(i1/z-1)*z:=Int.mul_le_mul_of_nonneg_right aa aa
 have x1:o%(i2/z)*z<=(i2/z-1)*z:=Int.mul_le_mul_of_nonneg_right aa aa
 have y2:(i1/z-1)*z=z*(i1/z)-z:=by rw[Int.sub_mul,Int.one_mul,Int.mul_comm]
 have x2:(i2/z-1)*z=z*(i2/z)-z:=by rw[Int.sub_mul,Int.one_mul,Int.mul_comm]
 rw[Int.add_assoc,Int.add_assoc _ _ ((j:Int)%z)]at h'
 obtain⟨g1,g2⟩:=Ae ⟨by omega,by omega⟩ ⟨by omega,by omega⟩ h'
 have q6:=Af aa (show(i:Int)/z=(j:Int)/z by omega) (show(i:Int)%z=(j:Int)%z by omega)
 omega
section
variable {sh:List (List Int)} {s t:List Int} {cnt:Nat}
def iH(n:ai)(tl:List Int)(o:Nat):List Int:=
 if n.kind=3 then(n.data.xs.drop (o*(entries tl).toNat)).take (entries tl).toNat else(bN n tl o).foldl wG (List.replicate (entries tl).toNat 0)
def yM(n:ai)(tl:List Int)(cnt:Nat):List (List Int):=(List.range cnt).map (iH n tl)
def uj(n:ai)(cnt:Nat):List Int:=(List.range cnt).map (dA n cnt)
theorem vk{f:Nat->Sp}{m:Nat}(h:∀i j,i<m->j<m->(f i).2=(f j).2->i=j):((List.range m).map f).Pairwise (λx y=>x.2≠y.2):=by
 rw[List.pairwise_map]
 refine List.Pairwise.imp_of_mem ?_ (List.pairwise_lt_range (n:=m))
 intro i j hi hj hlt e
 have:=h i j (List.mem_range.1 hi) (List.mem_range.1 hj) e
 omega
structure ajW(n:ai)(t:List Int):Prop where
 k2:1<=n.shape.xs.getD 2 0/\n.shape.xs.getD 2 0<=t.getD 1 0
 k3:1<=n.shape.xs.getD 3 0/\n.shape.xs.getD 3 0<=t.getD 2 0
theorem Im{n:ai}(h:eT n sh s t cnt)(hk:n.kind=4):ajW n t:=by
 have hsh:=h.node.shape
 have DD:=(dH h.node.form).V6 hk
 obtain⟨hl4,S_⟩:=pq DD
 have dm2:=S_ _ (df (xs:=n.shape.xs) (k:=2) aa)
 have dm3:=S_ _ (df (xs:=n.shape.xs) (k:=3) aa)
 unfold bM at hsh
 rw[if_neg aa,if_neg aa,if_pos hk,(h.first (.inr (.inl hk))).1]at hsh
 split at hsh
 ·cases hsh
 ·exact⟨by omega,by omega⟩
structure ajX(n:ai)(t:List Int):Prop where
 z:1<=n.size
 z1:n.size<=t.getD 1 0
 z2:n.size<=t.getD 2 0
 m1:t.getD 1 0%n.size=0
 m2:t.getD 2 0%n.size=0
theorem Io{n:ai}(h:eT n sh s t cnt)(hk:n.kind=5):ajX n t:=by
 have hsh:=h.node.shape
 have hz:=(dH h.node.form).pool hk
 obtain⟨hf,hg⟩:=h.first (.inr (.inr hk))
 unfold bM at hsh
 rw[if_neg aa,if_neg aa,if_neg aa,if_pos hk,hf]at hsh
 split at hsh
 ·cases hsh
 ·rename_i hbad
  have Kn:=(gJ hg).2.2
  have td1:=Kn _ (df (xs:=t) (k:=1) aa)
  have td2:=Kn _ (df (xs:=t) (k:=2) aa)
  have m1:t.getD 1 0%n.size=0:=by omega
  have m2:t.getD 2 0%n.size=0:=by omega
  refine⟨by omega,?_,?_,m1,m2⟩
  ·rcases(by omega:t.getD 1 0<n.size\/n.size<=t.getD 1 0)with hlt|hge
   ·rw[Int.emod_eq_of_lt aa hlt]at m1;omega
   ·exact hge
  ·rcases(by omega:t.getD 2 0<n.size\/n.size<=t.getD 2 0)with hlt|hge
   ·rw[Int.emod_eq_of_lt aa hlt]at m2;omega
   ·exact hge
theorem aeh{n:ai}(h:eT n sh s t cnt)(hl:dQ n)(hk3:n.kind≠3)(o:Nat):(bN n t o).Pairwise (λx y=>x.2≠y.2):=by
 rcases hl with hk|hk|hk
 ·exact absurd hk hk3
 ·have c:=Im h hk
  have hG:bN n t o=pF n.data.xs (n.shape.xs.getD 1 0) (n.shape.xs.getD 2 0) (n.shape.xs.getD 3 0) (t.getD 1 0) (t.getD 2 0) o:=by unfold bN;rw[if_neg aa,if_pos hk]
  rw[hG]
  exact vk λi j _ _ e=>aef c.k2 c.k3 aa e
 ·have c:=Io h hk
  have hG:bN n t o=pG n.size (t.getD 1 0) (t.getD 2 0) o:=by unfold bN;rw[if_neg aa,if_neg aa]
  rw[hG]
  exact vk λi j hi hj e=>aeg c.z c.z1 c.z2 c.m1 c.m2 aa aa aa e
theorem KY(g:Nat->Int->Int)(f:Nat->Int):∀(m i:Nat),zg g ((List.range' i m).map λk=>(f k,(k:Int)))=lZ g i ((List.range' i m).map f)
 |0,i=>rfl
 |m+1,i=>by
  rw[List.range'_succ,List.map_cons,List.map_cons,zg,lZ,KY g f m (i+1)]
  simp
theorem Zh{n:ai}(h:eT n sh s t cnt)(hl:dQ n){o:Nat}(ho:o<cnt)(g:Nat->Int->Int)(hg:∀k,g k 0=0):lZ g 0 (iH n t o)=zg g (bN n t o):=by
 obtain⟨F,P0,hL⟩:=eT.lin (t:=⟨none,0,t⟩) h hl
 by_cases hk:n.kind=3
 ·have hG:bN n t o=sW n o (entries t).toNat:=by unfold bN;rw[if_pos hk]
  have hR:iH n t o=(n.data.xs.drop (o*(entries t).toNat)).take (entries t).toNat:=if_pos hk
  rw[hG,hR]
  unfold sW
  have hsh:=h.node.shape
  have hc:=h.cnt
  obtain⟨hf,hgp⟩:=h.first hl
  obtain⟨b1,b2⟩:=(dH h.node.form).aG hk
  unfold bM at hsh
  rw[if_neg aa,if_pos hk,hf]at hsh
  split at hsh
  ·rename_i hdl
   rw[Option.some.injEq]at hsh
   have he1:entries [(n.aG.xs.length:Int)]=n.aG.xs.length:=by
    unfold entries
    rw[if_neg fC]
    simp only[eZ]
    rw[if_neg aa]
    omega
   rw[<-hsh,he1]at hc
   obtain⟨size,hsz⟩:∃size:Nat,entries t=size:=⟨(entries t).toNat,by omega⟩
   have Qe:n.data.xs.length=n.aG.xs.length*size:=by
    rw[hsz,<-Int.natCast_mul]at hdl
    exact Int.ofNat.inj hdl
   rw[hsz,Int.toNat_natCast]
   have hle:o*size+size<=n.data.xs.length:=by
    have:(o+1)*size<=n.aG.xs.length*size:=Nat.mul_le_mul_right _ aa
    rw[Nat.add_mul,Nat.one_mul]at this
    omega
   have e:=KY g (λi=>n.data.xs.getD (o*size+i) 0) size 0
   rw[<-List.range_eq_range']at e
   rw[e]
   congr 1
   apply List.ext_getElem
   ·simp;omega
   ·intro i h1 h2
    rw[List.getElem_take,List.getElem_drop,List.getElem_map,List.getElem_range,List.getD_eq_getElem?_getD,List.getElem?_eq_getElem]
    rfl
  ·cases hsh
 ·have hR:iH n t o=(bN n t o).foldl wG (List.replicate (entries t).toNat 0):=if_neg hk
  rw[hR,KX g hg (λu hu=> ?_) (aeh h hl hk o),OL g hg]
  ·omega
  ·have:0<=u.2/\u.2<entries t:=hL.at_ o ho u hu
   rw[List.length_replicate]
   refine⟨by omega,?_⟩
   rw[List.getD_eq_getElem?_getD,List.getElem?_replicate]
   split<;>rfl
end
section
variable {w:World} {u:aj}
theorem KZ{w':World}{v:Value}{l:List aj}{T:TypeId}(h:j_ w w' v 1 T (aM l)):∃base cap,v= .slice base l.length cap/\l.length<=cap/\(eY base 1 (aM l)).holds (λb=>w.heap.size<=b/\b<w'.heap.size) w':=by
 obtain⟨base,cap,e,h1⟩:=fw h
 obtain⟨lc,e2,F,hF,hr,hcap,_⟩:=h
 rw[e2]at e
 simp only[Value.slice.injEq]at e
 obtain⟨e3,_,e4⟩:=e
 refine⟨base,cap,?_,?_,h1⟩
 ·rw[e2,e3,e4,aR]
 ·rw[<-e4];simpa[aR]using hcap
structure K3 where
 rows:aY
 aG:aj
 own:Bool
def K3.val(x:K3):Value:= .tuple #[x.rows.val,x.aG.val]
def vG(x:K3):bJ where
 holds R w:=(eY x.rows.base 1 (aM x.rows.l)).holds R w/\(x.own=true->(∀u∈x.rows.l,(bn u).holds R w)/\(bn x.aG).holds R w)
 stable:=λhR hw h=>⟨(eY _ _ _).stable hR hw h.1,λe=>⟨λu hu=>(bn u).stable hR hw ((h.2 e).1 u hu),(bn _).stable hR hw (h.2 e).2⟩⟩
structure BP(n:ai)(tl:List Int)(cnt:Nat)(x:K3):Prop where
 rows:x.rows.l.map aj.xs=yM n tl cnt
 aG:x.aG.xs=uj n cnt
 a_:∀u∈x.rows.l,u.a_
 xK:x.aG.a_
 old:x.own=false->x.aG=n.aG/\∀w,n.data.ok w->∀u∈x.rows.l,u.ok w
def uk(w:World)(n:ai)(tl:List Int)(cnt:Nat)(e:Ending)(w':World):Prop:=
 ∃x,BP n tl cnt x/\e= .returned x.val/\Ext w w'/\(vG x).holds (λb=>w.heap.size<=b/\b<w'.heap.size) w'
def WW(u:aj)(a:Addr)(size o:Nat):aj:=⟨some (a.add (o*size)),u.cap-o*size,(u.xs.drop (o*size)).take size⟩
theorem aaN{base:Option Addr}{a:Addr}{len cap lo hi:Nat}{z1 z2:Int}{K:SV->Prop}(hb:base=some a)(h1:z1=lo)(h2:z2=hi)(h3:lo<hi)(h4:hi<=len)(h5:len<=cap)(h:K (.c (.slice (some (a.add lo)) (hi-lo) (cap-lo)))):nU base len cap 1 (some z1) (some z2) none K:=by
 subst hb
 rw[oG]
 refine⟨lo,hi,cap,h1,h2,rfl,by omega,by omega,by omega,λh=>kJ,?_⟩
 rw[if_neg aa]
 simpa using h
theorem aaO{a:Addr}{xs:List (List Value)}(lo m:Nat)(h:bf w (some a) 1 xs):bf w (some (a.add lo)) 1 ((xs.drop lo).take m):=by
 rcases h with h|⟨a',ha,h⟩
 ·subst h;exact .inl fC
 ·obtain rfl:a=a':=by simpa using ha
  refine .inr ⟨_,rfl,λi r hr j v hj=> ?_⟩
  rw[List.getElem?_take]at hr
  split at hr
  ·rw[List.getElem?_drop]at hr
   have:=h (lo+i) r hr j v hj
   rw[add_add,show lo+(i*1+j)=(lo+i)*1+j by omega]
   exact this
  ·cases hr
theorem Ip{a:Addr}(size o:Nat)(hu:u.ok w)(ha:u.base=some a)(hl:o*size+size<=u.xs.length):(WW u a size o).ok w:=by
 have hr:=hu.rows
 rw[ha]at hr
 refine⟨?_,λx hx=>hu.fits x (List.mem_of_mem_drop (List.mem_of_mem_take hx)),?_,?_⟩
 ·show bf w (some (a.add (o*size))) 1 (ints ((u.xs.drop (o*size)).take size))
  have e:ints ((u.xs.drop (o*size)).take size)=((ints u.xs).drop (o*size)).take size:=by simp[ints,List.map_drop,List.map_take]
  rw[e]
  exact aaO _ _ hr
 ·show((u.xs.drop (o*size)).take size).length<=u.cap-o*size
  have:=hu.room
  simp only[List.length_take,List.length_drop]
  omega
 ·show((u.xs.drop (o*size)).take size).length<=_
  have:=hu.few
  simp only[List.length_take,List.length_drop]
  omega
theorem aaP{a:Addr}(size o:Nat)(hu:u.ok w)(ha:u.base=some a)(hl:o*size+size<=u.xs.length):(WW u a size o).a_:=⟨(Ip size o hu ha hl).fits,(Ip size o hu ha hl).room,(Ip size o hu ha hl).few⟩
end
abbrev alU:Go.SX.DT:=(eF [0,1,2,3,4,5,6,7,8,9,10,11,12,13,14,15,16,17,18,19,20,21,22,23,24,125] .done)
abbrev alV:Go.SX.DT:=(eF [0,1,2,4,103,5] .done)
abbrev alW:Go.SX.DT:=(eF [0,1,2,3,4,5,6,7,8,9,10,11,12,13,14,15,16,17,18,19,20,21,22,23,24,25,26,27,28,29,30,31,32,33,34,35,36,37,38,39,40,41,142] .done)
theorem Ub{B:Base}{H:Heap}{S:bJ}{nx i m:Nat}{w:World}{n:ai}{tl:List Int}{cnt:Nat}{us:List aj}(hb:∀R w',S.holds R w'->(aH B.w0).holds R w')(hw0:B.w0=w)(he:(i,bU.rows (aM us) 1 32)∈H)(hm:m=us.length)
 (h1:us.map aj.xs=yM n tl cnt) (h2:n.aG.xs=uj n cnt) (h3:∀u∈us,u.a_) (h4:n.aG.a_) (h5:∀w,n.data.ok w->∀u∈us,u.ok w):jE B (.sI [.os i m,.c n.aG.val]) H S nx (uk w n tl cnt):=by
 subst hw0 hm
 refine dz λρ w' hw=> ?_
 have hn:=dF hw hb he
 rw[aR]at hn
 obtain⟨base,cap,e,hc,hD⟩:=KZ hn
 refine⟨⟨⟨base,cap,us⟩,n.aG,false⟩,⟨h1,h2,h3,h4,λ_=>⟨rfl,h5⟩⟩,?_,aV hw hb,hD,λh=>by cases h⟩
 show Ending.returned (.tuple #[(SV.os i us.length).rf ρ,n.aG.val])=_
 rw[e];rfl
theorem aaQ(w:World)(n:ai)(t:aj)(ht:t.ok w)(hno:n.ok w)(hk:n.kind=3)(size cnt:Nat)(hsz:entries t.xs=size)(h1:1<=size/\size<=64)(hb:n.aG.xs.length=cnt)(hc:1<=cnt/\cnt<=64)(hdl:n.data.xs.length=cnt*size):Calls Tryz.prog 91 #[n.jS,t.val] w (uk w n t.xs cnt):=by
 have hd:=hno.data
 have hpos:size<=cnt*size:=Nat.le_mul_of_pos_left _ hc.1
 obtain⟨ua,jr⟩:=hd.base aa
 refine fq Tryz.func91 [.agg (jM n),.c t.val] ?_
 (repeat' ((conv=>whnf)<;>first|(show aC _ 42 ..;refine aJ (f:=42) Tryz.call42 (.int .i64 (entries t.xs)) (λρ w' hw=>gT w' t.base t.cap t.xs (ae hw λR h=>au h ht.rows)) ?_)|refine aZ ?_|refine ag ?_ ?_<;>intro _))
 refine Wp.loop (σ:=Nat×Nat×List aj) 2 (λ⟨o,m,us⟩=>[(2,.lp 0 0 0 0),(6,ak size),(7,.os 1 m),(33,ak cnt),(34,ak o)]) (λ⟨_,_,us⟩=>[(1,.rows (aM us) 1 32),(0,.box (jM n) 41)]) (λ_=>aH w)
  (λ⟨o,m,us⟩=>o<=cnt/\m=us.length/\us=(List.range o).map (WW n.data ua size)) (λs=>cnt-s.1) (0,0,[]) [(1,none)] aS (λs=>⟨rfl,rfl⟩) ⟨Nat.zero_le _,rfl,rfl⟩ ⟨rfl,⟨rfl,?_,rfl,?_,rfl,trivial⟩,⟨rfl,aQ,trivial⟩,λ_ _ h=>h⟩ ?_
 ·rw[hsz];rfl
 ·rw[hb];rfl
 rintro⟨o,m,us⟩ ⟨ho,hm,fP⟩
 have hml:us.length=o:=by rw[fP];simp
 by_cases hlt:o<cnt
 ·have q1:o*size+size<=cnt*size:=by
   have:(o+1)*size<=cnt*size:=Nat.mul_le_mul_right _ aa
   rw[Nat.add_mul,Nat.one_mul]at this
   exact this
  have q2:cnt*size<=64*64:=Nat.mul_le_mul hc.2 h1.2
  have e1:(o:Int)*size=((o*size:Nat):Int):=by rw[Int.natCast_mul]
  have e2:((o:Int)+1)*size=((o*size+size:Nat):Int):=by rw[Int.add_mul,Int.one_mul,Int.natCast_add,Int.natCast_mul]
  generalize hP:o*size=P at*
  have hroom:=hd.room
  (repeat' ((conv=>whnf)<;>first|(show nU ..;refine aaN jr e1 e2 aa aa aa ?_)|(show sH ..;(refine fO (by rw[aR,hm];exact Nat.le_refl _) ?_))|(show fG ..;(refine b_ ajb ?_))|refine aZ ?_|refine ag ?_ ?_<;>intro _))
  all_goals(conv=>whnf)
  have hval:Value.slice (some (ua.add P)) (P+size-P) (n.data.cap-P)=(WW n.data ua size o).val:=by
   unfold WW aj.val
   simp only[List.length_take,List.length_drop,hP]
   congr 1
   omega
  exact⟨(o+1,m+1,us++[WW n.data ua size o]),[(1,some 3)],⟨hlt,by rw[hm];simp,by rw[fP,List.range_succ,List.map_append];rfl⟩,by simp only;omega,rfl,aU,⟨by
   have:=w_ us (WW n.data ua size o) (i:=3) (T:=32) (H:=[])
   rw[<-hval,<-hm]at this
   exact List.mem_cons.2 (.inl (List.mem_singleton.1 this)),aQ,trivial⟩,λ_ _ h=>h⟩
 ·obtain rfl:o=cnt:=by omega
  (repeat' ((conv=>whnf)<;>first|refine aZ ?_|refine ag ?_ ?_<;>intro _))
  all_goals(conv=>whnf)
  have hcl:∀k,k<o->k*size+size<=n.data.xs.length:=λk hk=>by
   have:(k+1)*size<=o*size:=Nat.mul_le_mul_right _ aa
   rw[Nat.add_mul,Nat.one_mul]at this
   omega
  refine Ub (λ_ _ h=>h) rfl aQ hm ?_ ?_ ?_ ⟨hno.aG.fits,hno.aG.room,hno.aG.few⟩ ?_
  ·rw[fP,yM,List.map_map]
   refine List.map_congr_left λk _=> ?_
   unfold iH
   rw[if_pos hk,hsz,Int.toNat_natCast];rfl
  ·unfold uj
   apply List.ext_getElem
   ·simp[hb]
   ·intro k g1 g2
    rw[List.getElem_map,List.getElem_range]
    unfold dA
    rw[if_pos hk,List.getD_eq_getElem?_getD,List.getElem?_eq_getElem g1];rfl
  ·intro u hu
   rw[fP]at hu
   obtain⟨k,hk',rfl⟩:=List.mem_map.1 hu
   exact aaP size k hd jr (hcl k (List.mem_range.1 hk'))
  ·intro w' hd' u hu
   rw[fP]at hu
   obtain⟨k,hk',rfl⟩:=List.mem_map.1 hu
   exact Ip size k hd' jr (hcl k (List.mem_range.1 hk'))
section
variable {A x c y H W o v i z i1 i2:Int} {m size k j:Nat} {T:List Sp} {S:bJ} {tl:List Int} {us:List aj}
theorem mul_add_div{m:Int}(hx:0<=x/\x<m):(A*m+x)/m=A/\(A*m+x)%m=x:=by
 have hm:0<m:=by omega
 constructor
 ·rw[Int.add_comm,Int.add_mul_ediv_right _ _ aa,Int.ediv_eq_zero_of_lt hx.1 hx.2];omega
 ·rw[Int.add_comm,Int.add_mul_emod_self_right,Int.emod_eq_of_lt hx.1 hx.2]
theorem aaR(ho:o=(c*H+y)*W+x)(hx:0<=x/\x<W)(hy:0<=y/\y<H):o/W/H=c/\o/W%H=y/\o%W=x:=by
 subst ho
 rw[(mul_add_div hx).1,(mul_add_div hx).2,(mul_add_div hy).1,(mul_add_div hy).2]
 exact⟨rfl,rfl,rfl⟩
def rowP(T:List Sp)(size m:Nat):List Int:=(T.take m).foldl wG (List.replicate size 0)
theorem jm(T:List Sp)(size m:Nat):(rowP T size m).length=size:=by unfold rowP;rw[ug,List.length_replicate]
theorem OO(h:m<T.length):rowP T size (m+1)=wG (rowP T size m) T[m]:=by
 unfold rowP
 rw[List.take_succ_eq_append_getElem h,List.foldl_append];rfl
theorem K4{r:List Int}{K:List (List Value)->Prop}(hk:k<r.length)(h:K (ints (r.set k v))):bS (ints r) k 0 [.int .i64 v] K:=by
 refine iV _ (d9 hk) Ja ?_
 have e:(ints r).set k (bR [Value.int .i64 r[k]] 0 [.int .i64 v])=ints (r.set k v):=by
  have e2:bR [Value.int .i64 r[k]] 0 [.int .i64 v]=[Value.int .i64 v]:=rfl
  rw[e2]
  simp[ints,List.map_set]
 rw[e];exact h
theorem Qw:∀(T:List Sp) (r:List Int),(∀x∈r,bX x)->(∀t∈T,bX t.1)->∀x∈T.foldl wG r,bX x
 |[],r,h,_=>h
 |t::T,r,h,ht=>by
  rw[List.foldl_cons]
  refine Qw T _ (λx hx=> ?_) (λu hu=>ht u (List.mem_cons_of_mem _ hu))
  rcases List.mem_or_eq_of_mem_set hx with hx|hx
  ·exact h x hx
  ·rw[hx];exact ht t List.mem_cons_self
theorem Zi(hT:∀t∈T,bX t.1):∀x∈rowP T size m,bX x:=
 Qw _ _ (λx hx=>by rw[(List.mem_replicate.1 hx).2];exact⟨by decide,by decide⟩) (λt ht=>hT t (List.mem_of_mem_take ht))
theorem ja{a:Addr}{xs:List Int}{K:SV->Prop}(hx:∀R w,S.holds R w->bf w (some a) 1 (ints xs))(hj:j<xs.length)(e:xs.getD j 0=v)(h:K (ak v)):fu (a.add (j*1)) S K:=by
 subst e;exact bO hx hj h
theorem D8{a b B:Int}(ha:0<=a/\a<=A)(hb:0<=b/\b<=B):0<=a*b/\a*b<=A*B:=⟨Int.mul_nonneg ha.1 hb.1,Int.mul_le_mul ha.2 hb.2 hb.1 aa⟩
structure wH(n:ai)(tl:List Int)(us:List aj)(o:Nat):Prop where
 rows:us.map aj.xs=(List.range o).map (iH n tl)
 a_:∀u∈us,u.a_
theorem wH.len{n:ai}{o:Nat}(h:wH n tl us o):us.length=o:=by
 have:=congrArg List.length h.rows
 simpa using this
theorem wH.next{n:ai}{o:Nat}{u:aj}(h:wH n tl us o)(hu:u.a_)(hx:u.xs=iH n tl o):wH n tl (us++[u]) (o+1):=by
 refine⟨by rw[List.map_append,h.rows,List.range_succ,List.map_append,List.map_cons,List.map_nil,List.map_cons,List.map_nil,hx],λv hv=> ?_⟩
 rcases List.mem_append.1 hv with hv|hv
 ·exact h.a_ v hv
 ·rw[List.mem_singleton.1 hv];exact hu
theorem Gl{B:Base}{H:Heap}{nx i m':Nat}{w:World}{n:ai}{cnt:Nat}{bs:List Int}(hb:∀R w',S.holds R w'->(aH B.w0).holds R w')(hE:∀R w',S.holds R w'->(lS B.w0.heap.size us).holds R w')(hw0:B.w0=w)(he:(i,bU.rows (aM us) 1 32)∈H)(hj:(j,bU.rows (ints bs) 1 3)∈H)(hm:m=us.length)(hm':m'=bs.length)
 (h1:wH n tl us cnt) (h2:bs=uj n cnt) (h3:∀x∈bs,i64 x) (h4:bs.length<=1000000):jE B (.sI [.os i m,.os j m']) H S nx (uk w n tl cnt):=by
 subst hw0 hm hm'
 refine dz λρ w' hw=> ?_
 have hn:=dF hw hb he
 have hn2:=dF hw hb hj
 rw[aR]at hn
 rw[aF]at hn2
 obtain⟨base,cap,e,hc,hD⟩:=KZ hn
 obtain⟨u,f1,f2,f3,f4⟩:=tX hn2 h3 h4
 refine⟨⟨⟨base,cap,us⟩,u,true⟩,⟨h1.rows,by rw[<-h2];exact f2,h1.a_,f3,λh=>by cases h⟩,?_,aV hw hb,hD,λ_=>⟨λv hv=>oh hw (D:=bn v) λR w' h=>hE R w' h v hv,f4⟩⟩
 show Ending.returned (.tuple #[(SV.os i us.length).rf ρ,(SV.os j bs.length).rf ρ])=_
 rw[e,f1];rfl
theorem aei{n:ai}{t:aj}(hk:n.kind=5)(hsz:entries t.xs=size)(o:Nat)(hT:T=pG n.size (t.xs.getD 1 0) (t.xs.getD 2 0) o)(hm:m=T.length):rowP T size m=iH n t.xs o:=by
 subst hT hm
 unfold iH bN rowP
 rw[if_neg aa,if_neg aa,if_neg aa,List.take_of_length_le (Nat.le_refl _),hsz];rfl
theorem Qx{k m n:Int}(hm:m=(c*H+y)*W+x)(hn:n=k*H*W)(hx:0<=x/\x<W)(hy:0<=y/\y<H)(hc:c<k):m<n:=by
 have u1:(c*H+y)*W+x<(c*H+y+1)*W:=by rw[Int.add_mul _ 1];omega
 have u2:c*H+y+1<=(c+1)*H:=by rw[Int.add_mul];omega
 have u3:(c*H+y+1)*W<=(c+1)*H*W:=Int.mul_le_mul_of_nonneg_right u2 aa
 have u4:(c+1)*H*W<=k*H*W:=Int.mul_le_mul_of_nonneg_right (Int.mul_le_mul_of_nonneg_right aa aa) aa
 omega
theorem aej{j:Int}{p:Nat}(hT:T=pG z i1 i2 m)(hWd:i2/z=W)(hHd:i1/z=H)(hmx:(m:Int)=(c*H+y)*W+x)(hx:0<=x/\x<W)(hy:0<=y/\y<H)(hp:p<T.length)(he:(p:Int)=i*z+j)(hj:0<=j/\j<z):T[p]=(1,(c*i1+y*z+i)*i2+x*z+j):=by
 subst hT
 have hpos:=aaR hmx hx hy
 have hq:=mul_add_div (A:=i) (x:=j) (m:=z) hj
 simp only[pG,List.getElem_map,List.getElem_range]
 unfold iB
 rw[hWd,hHd,hpos.1,hpos.2.1,hpos.2.2,he,hq.1,hq.2]
theorem Uc(hT:T=pG z i1 i2 o):∀t∈T,bX t.1:=λt ht=>by
 subst hT
 obtain⟨k,_,rfl⟩:=List.mem_map.1 ht
 exact⟨(show(-1048576:Int)<=1 by decide),(show(1:Int)<=1048576 by decide)⟩
theorem alX{p:Nat}{L j:Int}(hL:L=z*z)(hp:(p:Int)=i*z+j)(hi:i<z)(hj:0<=j/\j<z):p<L:=by
 have u1:(i+1)*z<=z*z:=Int.mul_le_mul_of_nonneg_right aa aa
 rw[Int.add_mul,Int.one_mul]at u1
 omega
theorem alY(hc:0<=c/\c<=64)(h1:0<=i1/\i1<=64)(hy:0<=y/\y<=64)(hz:0<=z/\z<=64)(hi:0<=i/\i<=64)(h2:0<=i2/\i2<=64)(hx:0<=x/\x<=64):(0<=c*i1/\c*i1<=4096)/\(0<=y*z/\y*z<=4096)/\(0<=(c*i1+y*z+i)*i2/\(c*i1+y*z+i)*i2<=576000)/\(0<=x*z/\x*z<=4096):=by
 have e1:=D8 (a:=c) (b:=i1) (A:=64) (B:=64) hc h1
 have e2:=D8 (a:=y) (b:=z) (A:=64) (B:=64) hy hz
 have e3:=D8 (a:=c*i1+y*z+i) (b:=i2) (A:=9000) (B:=64) aa h2
 have e4:=D8 (a:=x) (b:=z) (A:=64) (B:=64) hx hz
 omega
theorem K5(us:List aj)(base:Option Addr)(cap:Nat)(xs:List Int)(hm:m=us.length)(hk:k=xs.length){i:Nat}{T:TypeId}{H:Heap}:(i,bU.rows (aM (us++[aj.mk base cap xs])) 1 T)∈(i,bU.rows (List.take m (aM us)++[[.slice base k cap]]) 1 T)::H:=by
 subst hm hk;exact w_ us _
theorem WX(k:Nat):ints (List.replicate k 0)=List.replicate k [Value.int .i64 0]:=by simp[ints]
end
theorem aek(w:World)(n:ai)(t:aj)(ht:t.ok w)(hno:n.ok w)(hk:n.kind=5)(size cnt:Nat)(i0 i1 i2:Int)(htx:t.xs=[i0,i1,i2])(hsz:entries t.xs=size)(aaS:size<=64)(b0:1<=i0/\i0<=64)(b1:n.size<=i1/\i1<=64)(b2:n.size<=i2/\i2<=64)(bz:1<=n.size)(m1:i1%n.size=0)(m2:i2%n.size=0)(hcnt:(cnt:Int)=i0*(i1/n.size)*(i2/n.size))(Ud:cnt<=64)(hat:∀o:Nat,o<cnt->∀s∈pG n.size i1 i2 o,0<=s.2/\s.2<size):Calls Tryz.prog 91 #[n.jS,t.val] w (uk w n t.xs cnt):=by
 obtain⟨ut,hut⟩:=ht.base (by rw[htx];simp)
 have hur:∀(R:Nat->Prop) w',(aH w).holds R w'->bf w' (some ut) 1 (ints t.xs):=λR w' h=>by rw[<-hut];exact au h ht.rows
 have g0:t.xs.getD 0 0=i0:=by rw[htx];rfl
 have g1:t.xs.getD 1 0=i1:=by rw[htx];rfl
 have g2:t.xs.getD 2 0=i2:=by rw[htx];rfl
 have hz0:0<=n.size:=Int.le_trans aS bz
 have hW:=om (x:=i2) (y:=n.size) bz b2.1
 have hH:=om (x:=i1) (y:=n.size) bz b1.1
 have hW2:=Int.ediv_le_self n.size (show 0<=i2 from Int.le_trans hz0 b2.1)
 have hH2:=Int.ediv_le_self n.size (show 0<=i1 from Int.le_trans hz0 b1.1)
 have hTl:∀o:Nat,((pG n.size i1 i2 o).length:Int)=n.size*n.size:=λo=>by
  have:0<=n.size*n.size:=Int.mul_nonneg hz0 hz0
  simp only[pG,List.length_map,List.length_range];exact Int.toNat_of_nonneg this
 generalize hWd:i2/n.size=W at*
 generalize hHd:i1/n.size=H at*
 have hW0:0<=W:=Int.le_trans aS hW
 have hH0:0<=H:=Int.le_trans aS hH
 have anR:0<=i0:=Int.le_trans aS b0.1
 clear m1 m2
 have hl3:t.xs.length=3:=by rw[htx];rfl
 have hd1:t.xs.getD 1 0/n.size=H:=by rw[g1,hHd]
 have hd2:t.xs.getD 2 0/n.size=W:=by rw[g2,hWd]
 refine fq Tryz.func91 [.agg (jM n),.c t.val] ?_
 (repeat' ((conv=>whnf)<;>first|(show aC _ 42 ..;refine aJ (f:=42) Tryz.call42 (.int .i64 (entries t.xs)) (λρ w' hw=>gT w' t.base t.cap t.xs (ae hw λR h=>au h ht.rows)) ?_)|(show bC ..;refine ax _ 1 hut rfl aa ?_)|(show fu ..;refine bO hur (j:=1) aa ?_)|(show bC ..;refine ax _ 2 hut rfl aa ?_)|(show fu ..;refine bO hur (j:=2) aa ?_)|(show qQ ..;(first|refine Qa hd1 aa aa aa ?_|refine Qa hd2 aa aa aa ?_))|refine aZ ?_|refine ag ?_ ?_<;>intro _))
 refine Wp.loop (σ:=Int×Nat×List aj) 2 (λ⟨c,m,us⟩=>[(1,.c t.val),(2,.lp 0 0 0 0),(6,ak size),(9,ak H),(10,ak W),(7,.os 1 m),(11,ak c)]) (λ⟨_,_,us⟩=>[(1,.rows (aM us) 1 32),(0,.box (jM n) 41)]) (λ⟨_,_,us⟩=>(aH w).and (lS w.heap.size us))
  (λ⟨c,m,us⟩=>(0<=c/\c<=i0)/\wH n t.xs us m/\(m:Int)=c*H*W) (λs=>(i0-s.1).toNat) (0,0,[]) [(1,none)] aS (λs=>⟨rfl,rfl⟩) ⟨⟨Int.le_refl _,anR⟩,⟨rfl,λu hu=>by simp at hu⟩,by simp⟩ ⟨rfl,⟨rfl,rfl,?_,rfl,rfl,rfl,rfl,trivial⟩,⟨rfl,aQ,trivial⟩,λR w' h=>⟨h,wZ _ R w'⟩⟩ ?_
 ·rw[hsz];rfl
 rintro⟨c,m,us⟩ ⟨⟨hc0,hc1⟩,hso,hmc⟩
 by_cases hci:c<i0
 ·(repeat' ((conv=>whnf)<;>first|(show bC ..;refine ax _ 0 hut rfl aa ?_)|(show fu ..;refine bO (λR w' h=>hur R w' h.1) (j:=0) aa ?_)|refine aZ ?_|refine ag ?_ ?_<;>intro _))
  refine Wp.loop (σ:=Int×Nat×List aj) 3 (λ⟨y,m,us⟩=>[(1,.c t.val),(2,.lp 0 0 0 0),(6,ak size),(9,ak H),(10,ak W),(7,.os 2 m),(11,ak c),(12,ak y)]) (λ⟨_,_,us⟩=>[(2,.rows (aM us) 1 32),(0,.box (jM n) 41)]) (λ⟨_,_,us⟩=>(aH w).and (lS w.heap.size us))
   (λ⟨y,m,us⟩=>(0<=y/\y<=H)/\wH n t.xs us m/\(m:Int)=(c*H+y)*W) (λs=>(H-s.1).toNat) (0,m,us) [(2,some 1)] aS (λs=>⟨rfl,rfl⟩) ⟨⟨Int.le_refl _,hH0⟩,hso,by rw[hmc,Int.add_zero]⟩ ⟨rfl,aU,aU,λ_ _ h=>h⟩ ?_
  clear hmc hso
  have hcB:0<=c/\c<=64:=⟨hc0,Int.le_trans hc1 b0.2⟩
  rintro⟨y,m,us⟩ ⟨⟨hy0,hy1⟩,hso,hmy⟩
  by_cases hyi:y<H
  ·(repeat' ((conv=>whnf)<;>first|refine aZ ?_|refine ag ?_ ?_<;>intro _))
   refine Wp.loop (σ:=Int×Nat×List aj) 4 (λ⟨x,m,us⟩=>[(1,.c t.val),(2,.lp 0 0 0 0),(6,ak size),(9,ak H),(10,ak W),(7,.os 3 m),(11,ak c),(12,ak y),(13,ak x)]) (λ⟨_,_,us⟩=>[(3,.rows (aM us) 1 32),(0,.box (jM n) 41)]) (λ⟨_,_,us⟩=>(aH w).and (lS w.heap.size us))
    (λ⟨x,m,us⟩=>(0<=x/\x<=W)/\wH n t.xs us m/\(m:Int)=(c*H+y)*W+x) (λs=>(W-s.1).toNat) (0,m,us) [(3,some 2)] aS (λs=>⟨rfl,rfl⟩) ⟨⟨Int.le_refl _,hW0⟩,hso,by rw[hmy,Int.add_zero]⟩ ⟨rfl,aU,aU,λ_ _ h=>h⟩ ?_
   clear hmy hso
   have hyB:0<=y/\y<=64:=⟨hy0,Int.le_trans hy1 (Int.le_trans hH2 b1.2)⟩
   rintro⟨x,m,us⟩ ⟨⟨hx0,hx1⟩,hso,hmx⟩
   by_cases hxi:x<W
   ·(repeat' ((conv=>whnf)<;>first|(show kv ..;(refine g_ size rfl rfl xY aa ?_))|refine aZ ?_|refine ag ?_ ?_<;>intro _))
    have ael:m<cnt:=by have:=Qx hmx hcnt ⟨hx0,hxi⟩ ⟨hy0,hyi⟩ hci;omega
    have Qy:=hat m ael
    have hTe:∃T,T=pG n.size i1 i2 m:=⟨_,rfl⟩
    obtain⟨T,hT⟩:=hTe
    have hTz:=hTl m
    have WY:∀(p:Nat) (i j:Int) (hp:p<T.length),(p:Int)=i*n.size+j->0<=j->j<n.size->T[p]=(1,(c*i1+y*n.size+i)*i2+x*n.size+j):=λp i j hp he h0 h1=>aej hT hWd hHd hmx ⟨hx0,hxi⟩ ⟨hy0,hyi⟩ hp he ⟨h0,h1⟩
    have hTb:=Uc hT
    have hxB:0<=x/\x<=64:=⟨hx0,Int.le_trans hx1 (Int.le_trans hW2 b2.2)⟩
    have hzB:0<=n.size/\n.size<=64:=⟨hz0,Int.le_trans b1.1 b1.2⟩
    have hB1:0<=i1/\i1<=64:=⟨Int.le_trans hz0 b1.1,b1.2⟩
    have hB2:0<=i2/\i2<=64:=⟨Int.le_trans hz0 b2.1,b2.2⟩
    rw[<-hT]at Qy hTz
    refine Wp.loop (σ:=Int×Nat) 5 (λ⟨i,_⟩=>[(1,.c t.val),(2,.lp 0 0 0 0),(6,ak size),(9,ak H),(10,ak W),(7,.os 3 m),(11,ak c),(12,ak y),(13,ak x),(14,.os 4 size),(15,ak i)]) (λ⟨_,p⟩=>[(4,.rows (ints (rowP T size p)) 1 3),(3,.rows (aM us) 1 32),(0,.box (jM n) 41)]) (λ_=>(aH w).and (lS w.heap.size us))
     (λ⟨i,p⟩=>(0<=i/\i<=n.size)/\(p:Int)=i*n.size) (λs=>(n.size-s.1).toNat) (0,0) [] aS (λs=>⟨rfl,rfl⟩) ⟨⟨Int.le_refl _,hz0⟩,(Int.zero_mul _).symm⟩ ⟨rfl,aU,⟨?_,aQ,aQ,trivial⟩,λ_ _ h=>h⟩ ?_
    ·have:ints (rowP T size 0)=List.replicate size [Value.int .i64 0]:=by simp[ints,rowP]
     show(4,bU.rows (ints (rowP T size 0)) 1 3)∈_
     rw[this]
     exact aQ
    rintro⟨i,p⟩ ⟨⟨hi0,hi1⟩,hpi⟩
    by_cases hii:i<n.size
    ·clear hcnt hmx ael hso hTl hat hT hTb hsz hno ht hW hH hW2 hH2 hd1 hd2 hWd hHd b1 b2 b0 Ud
     (repeat' ((conv=>whnf)<;>first|refine aZ ?_|refine ag ?_ ?_<;>intro _))
     refine Wp.loop (σ:=Int×Nat) 5 (λ⟨j,_⟩=>[(1,.c t.val),(2,.lp 0 0 0 0),(6,ak size),(9,ak H),(10,ak W),(7,.os 3 m),(11,ak c),(12,ak y),(13,ak x),(14,.os 4 size),(15,ak i),(16,ak j)]) (λ⟨_,p⟩=>[(4,.rows (ints (rowP T size p)) 1 3),(3,.rows (aM us) 1 32),(0,.box (jM n) 41)]) (λ_=>(aH w).and (lS w.heap.size us))
      (λ⟨j,p⟩=>(0<=j/\j<=n.size)/\(p:Int)=i*n.size+j) (λs=>(n.size-s.1).toNat) (0,p) [] aS (λs=>⟨rfl,rfl⟩) ⟨⟨Int.le_refl _,hz0⟩,by rw[hpi,Int.add_zero]⟩ ⟨rfl,aU,aU,λ_ _ h=>h⟩ ?_
     rintro⟨j,p⟩ ⟨⟨hj0,hj1⟩,hpj⟩
     by_cases hji:j<n.size
     ·have hpT:p<T.length:=by have:=alX hTz hpj hii ⟨hj0,hji⟩;omega
      have hTp:=WY p i j hpT hpj hj0 hji
      have hb:=Qy _ (List.getElem_mem hpT)
      have hsu:=OO (size:=size) hpT
      rw[hTp]at hb hsu
      have E:=alY (c:=c) (i1:=i1) (y:=y) (z:=n.size) (i:=i) (i2:=i2) (x:=x) hcB hB1 hyB hzB ⟨hi0,Int.le_trans hi1 hzB.2⟩ hB2 hxB
      have e1:=E.1
      have e2:=E.2.1
      have e3:=E.2.2.1
      have e4:=E.2.2.2
      clear E
      have hb2:0<=(c*i1+y*n.size+i)*i2+x*n.size+j/\(c*i1+y*n.size+i)*i2+x*n.size+j<size:=hb
      have hex:∃r:Nat,(c*i1+y*n.size+i)*i2+x*n.size+j=r:=⟨_,(Int.toNat_of_nonneg hb2.1).symm⟩
      obtain⟨r,hr⟩:=hex
      rw[hr]at hsu hb2
      have hrl:r<size:=Int.ofNat_lt.1 hb2.2
      clear WY Qy hTp hTz hpi hb hb2
      (repeat' ((conv=>whnf)<;>first|(show bC ..;(first|refine ax _ 1 hut rfl aa ?_|refine ax _ 2 hut rfl aa ?_))|(show fu ..;(first|refine ja (λR w' h=>hur R w' h.1) (j:=1) aa g1 ?_|refine ja (λR w' h=>hur R w' h.1) (j:=2) aa g2 ?_))|(show bV ..;(refine aT r hr hrl ahN ?_))|(show bS ..;(refine K4 (by rw[jm];exact hrl) ?_))|(show cO _ 28 ..;refine mE [25] _ alU ?_)|refine aZ ?_|refine ag ?_ ?_<;>intro _))
      all_goals(conv=>whnf)
      exact⟨(j+1,p+1),[],⟨⟨Int.le_add_one hj0,hji⟩,by rw[Int.natCast_add,hpj,Int.add_assoc];rfl⟩,by simp only;omega,rfl,aU,⟨by
       show(4,bU.rows (ints (rowP T size (p+1))) 1 3)∈_
       rw[hsu];exact aQ,aQ,aQ,trivial⟩,λ_ _ h=>h⟩
     ·have hjz:j=n.size:=Int.le_antisymm hj1 (Int.not_lt.1 hji)
      subst hjz
      (repeat' ((conv=>whnf)<;>first|refine aZ ?_|refine ag ?_ ?_<;>intro _))
      all_goals(conv=>whnf)
      exact⟨(i+1,p),[],⟨⟨Int.le_add_one hi0,hii⟩,by rw[hpj,Int.add_mul,Int.one_mul]⟩,by simp only;omega,rfl,aU,aU,λ_ _ h=>h⟩
    ·have hiz:i=n.size:=Int.le_antisymm hi1 (Int.not_lt.1 hii)
     subst hiz
     have hpT:p=T.length:=Int.ofNat.inj (hpi.trans hTz.symm)
     refine Wp.yE 4 w.heap.size (k:=1) (xs:=ints (rowP T size p)) (T:=3) aQ (λR w' h b hb=>(h.1 b hb).1) (λl1 hl1=> ?_)
     rw[aF,jm]at hl1
     have hml:us.length=m:=hso.len
     clear hcnt hpi hTz WY Qy hTl hat
     (repeat' ((conv=>whnf)<;>first|(show sH ..;(refine fO ahS ?_))|(show fG ..;(refine b_ ajb ?_))|refine aZ ?_|refine ag ?_ ?_<;>intro _))
     all_goals(conv=>whnf)
     exact⟨(x+1,m+1,us++[aj.mk l1.base l1.cap (rowP T size p)]),[(3,some 6)],⟨⟨Int.le_add_one hx0,hxi⟩,hso.next ⟨λv hv=>by have:=Zi hTb v hv;unfold bX at this;exact⟨by omega,by omega⟩,by rw[jm];exact hl1,by rw[jm];omega⟩ (aei hk hsz m (hT.trans (by rw[g1,g2])) hpT),by rw[Int.natCast_add,hmx,Int.add_assoc];rfl⟩,by simp only;omega,rfl,aU,⟨K5 us l1.base l1.cap (rowP T size p) hml.symm (jm _ _ _).symm,aQ,trivial⟩,λR w' h=>⟨h.1.1,kW h.1.2 h.2⟩⟩
   ·have hxz:x=W:=Int.le_antisymm hx1 (Int.not_lt.1 hxi)
    subst hxz
    (repeat' ((conv=>whnf)<;>first|refine aZ ?_|refine ag ?_ ?_<;>intro _))
    all_goals(conv=>whnf)
    exact⟨(y+1,m,us),[(2,some 3)],⟨⟨by omega,by omega⟩,hso,by rw[hmx];grind⟩,by simp only;omega,rfl,aU,aU,λ_ _ h=>h⟩
  ·have hyz:y=H:=Int.le_antisymm hy1 (Int.not_lt.1 hyi)
   subst hyz
   (repeat' ((conv=>whnf)<;>first|refine aZ ?_|refine ag ?_ ?_<;>intro _))
   all_goals(conv=>whnf)
   exact⟨(c+1,m,us),[(1,some 2)],⟨⟨by omega,by omega⟩,hso,by rw[hmy];grind⟩,by simp only;omega,rfl,aU,aU,λ_ _ h=>h⟩
 ·obtain rfl:c=i0:=Int.le_antisymm hc1 (Int.not_lt.1 hci)
  have aeo:m=cnt:=by omega
  subst aeo
  (repeat' ((conv=>whnf)<;>first|(show bC ..;refine ax _ 0 hut rfl aa ?_)|(show fu ..;refine bO (λR w' h=>hur R w' h.1) (j:=0) aa ?_)|(show kv ..;(refine g_ m rfl rfl xY aa ?_))|(show cO _ 30 ..;refine mE [] _ alV ?_)|refine aZ ?_|refine ag ?_ ?_<;>intro _))
  all_goals(conv=>whnf)
  refine Gl (i:=1) (j:=2) (B:=⟨w,[]⟩) (S:=(aH w).and (lS w.heap.size us)) (bs:=List.replicate m 0) (λ_ _ h=>h.1) (λ_ _ h=>h.2) rfl aQ (by rw[WX];exact aQ) hso.len.symm (by rw[List.length_replicate]) hso ?_ (λx hx=>by rw[(List.mem_replicate.1 hx).2];exact⟨by decide,by decide⟩) VL
  unfold uj
  apply List.ext_getElem
  ·simp
  ·intro k g1 g2
   rw[List.getElem_map,List.getElem_range,List.getElem_replicate]
   unfold dA
   rw[if_neg aa,if_neg aa]
section
variable {o k1 c k0 k2 k3 i1 i2 W H y x i j:Int} {T:List Sp} {d tl bs:List Int} {m cnt:Nat} {us:List aj}
theorem K6(ho:0<=o/\o<k0)(hc:0<=c/\c<k1):o*k1+c<k0*k1:=by
 have u:(o+1)*k1<=k0*k1:=Int.mul_le_mul_of_nonneg_right aa aa
 rw[Int.add_mul,Int.one_mul]at u
 omega
theorem aep{p q:Nat}(hT:T=pF d k1 k2 k3 i1 i2 m)(hWd:i2-k3+1=W)(hHd:i1-k2+1=H)(hmx:(m:Int)=(o*H+y)*W+x)(hx:0<=x/\x<W)(hy:0<=y/\y<H)(hp:p<T.length)(he:(p:Int)=(c*k2+i)*k3+j)(hi:0<=i/\i<k2)(hj:0<=j/\j<k3)(hq:((o*k1+c)*k2+i)*k3+j=q):T[p]=(d.getD q 0,(c*i1+y+i)*i2+x+j):=by
 subst hT
 have h1:=aaR hmx hx hy
 have h2:=aaR he hj hi
 have h3:(o*k1*k2*k3+(p:Int)).toNat=q:=by
  have:o*k1*k2*k3+(p:Int)=q:=by rw[he,<-hq];grind
  rw[this];rfl
 simp only[pF,List.getElem_map,List.getElem_range]
 unfold gK
 rw[hWd,hHd,h1.1,h1.2.1,h1.2.2,h2.1,h2.2.1,h2.2.2,h3]
theorem aeq{len:Nat}(hcnt:(cnt:Int)=k0*H*W)(hbl:(len:Int)=k0)(hk:0<k0)(hm:(m:Int)=(o*H+y)*W+x)(hx:0<=x/\x<W)(hy:0<=y/\y<H)(ho:0<=o):m/(cnt/len)=o.toNat:=by
 have e1:((cnt/len:Nat):Int)=H*W:=by rw[Int.natCast_ediv,hcnt,hbl,Int.mul_assoc];exact Int.mul_ediv_cancel_left _ aa
 have e2:((m/(cnt/len):Nat):Int)=o:=by
  rw[Int.natCast_ediv,e1,hm]
  have e:(o*H+y)*W+x=o*(H*W)+(y*W+x):=by grind
  rw[e]
  have b:y*W+x<H*W:=K6 hy hx
  have b0:=Int.mul_nonneg hy.1 (show 0<=W by omega)
  exact(mul_add_div ⟨by omega,b⟩).1
 omega
theorem aer{n:ai}{t:aj}(hk:n.kind=4){size:Nat}(hsz:entries t.xs=size)(o:Nat)(hT:T=pF n.data.xs (n.shape.xs.getD 1 0) (n.shape.xs.getD 2 0) (n.shape.xs.getD 3 0) (t.xs.getD 1 0) (t.xs.getD 2 0) o)(hm:m=T.length):rowP T size m=iH n t.xs o:=by
 subst hT hm
 unfold iH bN rowP
 rw[if_neg aa,if_neg aa,if_pos hk,List.take_of_length_le (Nat.le_refl _),hsz];rfl
theorem Ue(hd:∀x∈d,bX x)(hT:T=pF d k1 k2 k3 i1 i2 o):∀t∈T,bX t.1:=λt ht=>by
 subst hT
 obtain⟨k,_,rfl⟩:=List.mem_map.1 ht
 exact dJ hd _
structure IxC(c i1 y i i2 x j o k1 k2 k3:Int):Prop where
 a1:0<=c*i1/\c*i1<=4096
 a2:0<=(c*i1+y+i)*i2/\(c*i1+y+i)*i2<=270336
 a3:0<=o*k1/\o*k1<=4096
 a4:0<=(o*k1+c)*k2/\(o*k1+c)*k2<=266240
 a5:0<=((o*k1+c)*k2+i)*k3/\((o*k1+c)*k2+i)*k3<=17043456
abbrev Qz(x:Int):Prop:=0<=x/\x<=64
theorem anS(hc:Qz c)(h1:Qz i1)(hy:Qz y)(hi:Qz i)(h2:Qz i2)(ho:Qz o)(g1:Qz k1)(g2:Qz k2)(g3:Qz k3):IxC c i1 y i i2 x j o k1 k2 k3:=by
 have e1:=D8 (a:=c) (b:=i1) (A:=64) (B:=64) hc h1
 have e2:=D8 (a:=c*i1+y+i) (b:=i2) (A:=4224) (B:=64) aa h2
 have e3:=D8 (a:=o) (b:=k1) (A:=64) (B:=64) ho g1
 have e4:=D8 (a:=o*k1+c) (b:=k2) (A:=4160) (B:=64) aa g2
 have e5:=D8 (a:=(o*k1+c)*k2+i) (b:=k3) (A:=266304) (B:=64) aa g3
 exact⟨e1,e2,e3,e4,e5⟩
structure Ag(n:ai)(tl:List Int)(cnt:Nat)(us:List aj)(bs:List Int)(m:Nat):Prop where
 rows:wH n tl us m
 aG:bs=(List.range m).map (dA n cnt)
theorem Ag.ajZ{n:ai}(h:Ag n tl cnt us bs m):bs.length=m:=by rw[h.aG];simp
theorem Ag.next{n:ai}{u:aj}{b:Int}(h:Ag n tl cnt us bs m)(hu:u.a_)(hx:u.xs=iH n tl m)(hb:dA n cnt m=b):Ag n tl cnt (us++[u]) (bs++[b]) (m+1):=
 ⟨h.rows.next hu hx,by rw[h.aG,<-hb,List.range_succ,List.map_append];rfl⟩
theorem oW(bs:List Int)(x:Int)(hm:m=bs.length){i:Nat}{T:TypeId}{H:Heap}:(i,bU.rows (ints (bs++[x])) 1 T)∈(i,bU.rows (List.take m (ints bs)++[[.int .i64 x]]) 1 T)::H:=by
 subst hm;exact NZ bs x
end
theorem aes(w:World)(n:ai)(t:aj)(ht:t.ok w)(hno:n.ok w)(hk:n.kind=4)(size cnt:Nat)(k0 k1 k2 k3 i1 i2:Int)(hsx:n.shape.xs=[k0,k1,k2,k3])(htx:t.xs=[k1,i1,i2])(hsz:entries t.xs=size)(aaS:size<=64)(b0:1<=k0/\k0<=64)(b1:1<=k1/\k1<=64)(b2:1<=k2/\k2<=i1)(b3:1<=k3/\k3<=i2)(bi1:i1<=64)(bi2:i2<=64)(hdl:(n.data.xs.length:Int)=k0*k1*k2*k3)(hbl:(n.aG.xs.length:Int)=k0)(hdb:∀x∈n.data.xs,bX x)(hbb:∀x∈n.aG.xs,bX x)(hcnt:(cnt:Int)=k0*(i1-k2+1)*(i2-k3+1))(Ud:cnt<=64)(hat:∀o:Nat,o<cnt->∀s∈pF n.data.xs k1 k2 k3 i1 i2 o,0<=s.2/\s.2<size):Calls Tryz.prog 91 #[n.jS,t.val] w (uk w n t.xs cnt):=by
 have al0:0<n.data.xs.length:=by
  have:=Int.mul_pos (Int.mul_pos (Int.mul_pos (show 0<k0 by omega) (show 0<k1 by omega)) (show 0<k2 by omega)) (show 0<k3 by omega)
  omega
 obtain⟨ut,hut⟩:=ht.base (by rw[htx];simp)
 obtain⟨ua,fP⟩:=hno.shape.base (by rw[hsx];simp)
 obtain⟨ub,hub⟩:=hno.aG.base aa
 obtain⟨ud,hud⟩:=hno.data.base al0
 have hur:∀(R:Nat->Prop) w',(aH w).holds R w'->bf w' (some ut) 1 (ints t.xs):=λR w' h=>by rw[<-hut];exact au h ht.rows
 have Pj:∀(R:Nat->Prop) w',(aH w).holds R w'->bf w' (some ua) 1 (ints n.shape.xs):=λR w' h=>by rw[<-fP];exact au h hno.shape.rows
 have hbr:∀(R:Nat->Prop) w',(aH w).holds R w'->bf w' (some ub) 1 (ints n.aG.xs):=λR w' h=>by rw[<-hub];exact au h hno.aG.rows
 have hdr:∀(R:Nat->Prop) w',(aH w).holds R w'->bf w' (some ud) 1 (ints n.data.xs):=λR w' h=>by rw[<-hud];exact au h hno.data.rows
 have g1:t.xs.getD 1 0=i1:=by rw[htx];rfl
 have g2:t.xs.getD 2 0=i2:=by rw[htx];rfl
 have s0:n.shape.xs.getD 0 0=k0:=by rw[hsx];rfl
 have s1:n.shape.xs.getD 1 0=k1:=by rw[hsx];rfl
 have s2:n.shape.xs.getD 2 0=k2:=by rw[hsx];rfl
 have s3:n.shape.xs.getD 3 0=k3:=by rw[hsx];rfl
 have hl3:t.xs.length=3:=by rw[htx];rfl
 have hl4:n.shape.xs.length=4:=by rw[hsx];rfl
 obtain⟨H,hHd⟩:∃H,i1-k2+1=H:=⟨_,rfl⟩
 obtain⟨W,hWd⟩:∃W,i2-k3+1=W:=⟨_,rfl⟩
 rw[hHd,hWd]at hcnt
 have hH0:0<=H:=by omega
 have hW0:0<=W:=by omega
 have hTl:∀o:Nat,((pF n.data.xs k1 k2 k3 i1 i2 o).length:Int)=k1*k2*k3:=λo=>by
  have:0<=k1*k2*k3:=Int.mul_nonneg (Int.mul_nonneg aa aa) aa
  simp only[pF,List.length_map,List.length_range];exact Int.toNat_of_nonneg this
 have c1:Qz k1:=⟨by omega,b1.2⟩
 have c2:Qz k2:=⟨by omega,by omega⟩
 have c3:Qz k3:=⟨by omega,by omega⟩
 have ci1:Qz i1:=⟨by omega,bi1⟩
 have ci2:Qz i2:=⟨by omega,bi2⟩
 refine fq Tryz.func91 [.agg (jM n),.c t.val] ?_
 (repeat' ((conv=>whnf)<;>first|(show aC _ 42 ..;refine aJ (f:=42) Tryz.call42 (.int .i64 (entries t.xs)) (λρ w' hw=>gT w' t.base t.cap t.xs (ae hw λR h=>au h ht.rows)) ?_)|refine aZ ?_|refine ag ?_ ?_<;>intro _))
 refine Wp.loop (σ:=Int×Nat×List aj×List Int) 3 (λ⟨o,m,us,bs⟩=>[(1,.c t.val),(2,.lp 0 0 0 0),(6,ak size),(18,.c n.shape.val),(7,.os 1 m),(17,.os 2 m),(19,ak o)]) (λ⟨_,_,us,bs⟩=>[(1,.rows (aM us) 1 32),(2,.rows (ints bs) 1 3),(0,.box (jM n) 41)]) (λ⟨_,_,us,_⟩=>(aH w).and (lS w.heap.size us))
  (λ⟨o,m,us,bs⟩=>(0<=o/\o<=k0)/\Ag n t.xs cnt us bs m/\(m:Int)=o*H*W) (λs=>(k0-s.1).toNat) (0,0,[],[]) [(1,none),(2,none)] aS (λs=>⟨rfl,rfl⟩) ⟨⟨Int.le_refl _,by omega⟩,⟨⟨rfl,λu hu=>by simp at hu⟩,rfl⟩,by simp⟩ ⟨rfl,⟨rfl,rfl,?_,rfl,rfl,rfl,rfl,trivial⟩,⟨rfl,rfl,aQ,trivial⟩,λR w' h=>⟨h,wZ _ R w'⟩⟩ ?_
 ·rw[hsz];rfl
 rintro⟨o,m,us,bs⟩ ⟨⟨ho0,ho1⟩,hso,hmo⟩
 by_cases hok:o<k0
 ·(repeat' ((conv=>whnf)<;>first|refine Mi ?_|refine Mj ?_|refine aZ ?_|refine ag ?_ ?_<;>intro _))
  refine Wp.loop (σ:=Int×Nat×List aj×List Int) 5 (λ⟨y,m,us,bs⟩=>[(1,.c t.val),(2,.lp 0 0 0 0),(6,ak size),(18,.c n.shape.val),(7,.os 3 m),(17,.os 4 m),(19,ak o),(20,ak y)]) (λ⟨_,_,us,bs⟩=>[(3,.rows (aM us) 1 32),(4,.rows (ints bs) 1 3),(0,.box (jM n) 41)]) (λ⟨_,_,us,_⟩=>(aH w).and (lS w.heap.size us))
   (λ⟨y,m,us,bs⟩=>(0<=y/\y<=H)/\Ag n t.xs cnt us bs m/\(m:Int)=(o*H+y)*W) (λs=>(H-s.1).toNat) (0,m,us,bs) [(3,some 1),(4,some 2)] aS (λs=>⟨rfl,rfl⟩) ⟨⟨Int.le_refl _,hH0⟩,hso,by rw[hmo,Int.add_zero]⟩ ⟨rfl,aU,aU,λ_ _ h=>h⟩ ?_
  clear hmo hso
  have co:Qz o:=⟨ho0,Int.le_trans ho1 b0.2⟩
  rintro⟨y,m,us,bs⟩ ⟨⟨hy0,hy1⟩,hso,hmy⟩
  by_cases hyi:y<H
  ·(repeat' ((conv=>whnf)<;>first|refine Mi ?_|refine Mj ?_|refine aZ ?_|refine ag ?_ ?_<;>intro _))
   refine Wp.loop (σ:=Int×Nat×List aj×List Int) 7 (λ⟨x,m,us,bs⟩=>[(1,.c t.val),(2,.lp 0 0 0 0),(6,ak size),(18,.c n.shape.val),(7,.os 5 m),(17,.os 6 m),(19,ak o),(20,ak y),(21,ak x)]) (λ⟨_,_,us,bs⟩=>[(5,.rows (aM us) 1 32),(6,.rows (ints bs) 1 3),(0,.box (jM n) 41)]) (λ⟨_,_,us,_⟩=>(aH w).and (lS w.heap.size us))
    (λ⟨x,m,us,bs⟩=>(0<=x/\x<=W)/\Ag n t.xs cnt us bs m/\(m:Int)=(o*H+y)*W+x) (λs=>(W-s.1).toNat) (0,m,us,bs) [(5,some 3),(6,some 4)] aS (λs=>⟨rfl,rfl⟩) ⟨⟨Int.le_refl _,hW0⟩,hso,by rw[hmy,Int.add_zero]⟩ ⟨rfl,aU,aU,λ_ _ h=>h⟩ ?_
   clear hmy hso
   have cy:Qz y:=⟨hy0,by omega⟩
   rintro⟨x,m,us,bs⟩ ⟨⟨hx0,hx1⟩,hso,hmx⟩
   by_cases hxi:x<W
   ·(repeat' ((conv=>whnf)<;>first|refine Mi ?_|refine Mj ?_|(show kv ..;(refine g_ size rfl rfl xY aa ?_))|refine aZ ?_|refine ag ?_ ?_<;>intro _))
    have ael:m<cnt:=Int.ofNat_lt.1 (Qx hmx hcnt ⟨hx0,hxi⟩ ⟨hy0,hyi⟩ hok)
    have Qy:=hat m ael
    have hTe:∃T,T=pF n.data.xs k1 k2 k3 i1 i2 m:=⟨_,rfl⟩
    obtain⟨T,hT⟩:=hTe
    have hTz:=hTl m
    have WY:∀(p q:Nat) (c i j:Int) (hp:p<T.length),(p:Int)=(c*k2+i)*k3+j->0<=i/\i<k2->0<=j/\j<k3->((o*k1+c)*k2+i)*k3+j=q->T[p]=(n.data.xs.getD q 0,(c*i1+y+i)*i2+x+j):=λp q c i j hp he h0 h1 hq=>aep hT hWd hHd hmx ⟨hx0,hxi⟩ ⟨hy0,hyi⟩ hp he h0 h1 hq
    have hTb:=Ue hdb hT
    have hbi:dA n cnt m=n.aG.xs.getD o.toNat 0:=by
     unfold dA
     rw[if_neg aa,if_pos hk,aeq hcnt hbl aa hmx ⟨hx0,hxi⟩ ⟨hy0,hyi⟩ ho0]
    have cx:Qz x:=⟨hx0,by omega⟩
    rw[<-hT]at Qy hTz
    clear hTl hat
    refine Wp.loop (σ:=Int×Nat) 8 (λ⟨c,_⟩=>[(1,.c t.val),(2,.lp 0 0 0 0),(6,ak size),(18,.c n.shape.val),(7,.os 5 m),(17,.os 6 m),(19,ak o),(20,ak y),(21,ak x),(22,.os 7 size),(23,ak c)]) (λ⟨_,p⟩=>[(7,.rows (ints (rowP T size p)) 1 3),(5,.rows (aM us) 1 32),(6,.rows (ints bs) 1 3),(0,.box (jM n) 41)]) (λ_=>(aH w).and (lS w.heap.size us))
     (λ⟨c,p⟩=>(0<=c/\c<=k1)/\(p:Int)=c*k2*k3) (λs=>(k1-s.1).toNat) (0,0) [] aS (λs=>⟨rfl,rfl⟩) ⟨⟨Int.le_refl _,c1.1⟩,by simp⟩ ⟨rfl,aU,⟨?_,aQ,aQ,aQ,trivial⟩,λ_ _ h=>h⟩ ?_
    ·have:ints (rowP T size 0)=List.replicate size [Value.int .i64 0]:=by simp[ints,rowP]
     show(7,bU.rows (ints (rowP T size 0)) 1 3)∈_
     rw[this]
     exact aQ
    rintro⟨c,p⟩ ⟨⟨hc0,hc1⟩,hpc⟩
    by_cases hck:c<k1
    ·clear hcnt hmx ael hso hT hTb hbi hbb hdb hsz hHd hWd
     have cc:Qz c:=⟨hc0,Int.le_trans hc1 b1.2⟩
     (repeat' ((conv=>whnf)<;>first|refine Mi ?_|refine Mj ?_|refine aZ ?_|refine ag ?_ ?_<;>intro _))
     refine Wp.loop (σ:=Int×Nat) 8 (λ⟨i,_⟩=>[(1,.c t.val),(2,.lp 0 0 0 0),(6,ak size),(18,.c n.shape.val),(7,.os 5 m),(17,.os 6 m),(19,ak o),(20,ak y),(21,ak x),(22,.os 7 size),(23,ak c),(24,ak i)]) (λ⟨_,p⟩=>[(7,.rows (ints (rowP T size p)) 1 3),(5,.rows (aM us) 1 32),(6,.rows (ints bs) 1 3),(0,.box (jM n) 41)]) (λ_=>(aH w).and (lS w.heap.size us))
      (λ⟨i,p⟩=>(0<=i/\i<=k2)/\(p:Int)=(c*k2+i)*k3) (λs=>(k2-s.1).toNat) (0,p) [] aS (λs=>⟨rfl,rfl⟩) ⟨⟨Int.le_refl _,c2.1⟩,by rw[hpc,Int.add_zero]⟩ ⟨rfl,aU,aU,λ_ _ h=>h⟩ ?_
     clear hpc
     rintro⟨i,p⟩ ⟨⟨hi0,hi1⟩,hpi⟩
     by_cases hii:i<k2
     ·have ci:Qz i:=⟨hi0,Int.le_trans hi1 c2.2⟩
      (repeat' ((conv=>whnf)<;>first|refine Mi ?_|refine Mj ?_|refine aZ ?_|refine ag ?_ ?_<;>intro _))
      refine Wp.loop (σ:=Int×Nat) 8 (λ⟨j,_⟩=>[(1,.c t.val),(2,.lp 0 0 0 0),(6,ak size),(18,.c n.shape.val),(7,.os 5 m),(17,.os 6 m),(19,ak o),(20,ak y),(21,ak x),(22,.os 7 size),(23,ak c),(24,ak i),(25,ak j)]) (λ⟨_,p⟩=>[(7,.rows (ints (rowP T size p)) 1 3),(5,.rows (aM us) 1 32),(6,.rows (ints bs) 1 3),(0,.box (jM n) 41)]) (λ_=>(aH w).and (lS w.heap.size us))
       (λ⟨j,p⟩=>(0<=j/\j<=k3)/\(p:Int)=(c*k2+i)*k3+j) (λs=>(k3-s.1).toNat) (0,p) [] aS (λs=>⟨rfl,rfl⟩) ⟨⟨Int.le_refl _,c3.1⟩,by rw[hpi,Int.add_zero]⟩ ⟨rfl,aU,aU,λ_ _ h=>h⟩ ?_
      clear hpi
      rintro⟨j,p⟩ ⟨⟨hj0,hj1⟩,hpj⟩
      by_cases hjk:j<k3
      ·have hpT:p<T.length:=Int.ofNat_lt.1 (Qx hpj hTz ⟨hj0,hjk⟩ ⟨hi0,hii⟩ hck)
       have E:=anS (x:=x) (j:=j) cc ci1 cy ci ci2 co c1 c2 c3
       obtain⟨e1,e2,e3,e4,e5⟩:=E
       have hqe:∃q:Nat,((o*k1+c)*k2+i)*k3+j=q:=⟨_,(Int.toNat_of_nonneg aa).symm⟩
       obtain⟨q,hq⟩:=hqe
       have hql:q<n.data.xs.length:=Int.ofNat_lt.1 (Qx hq.symm hdl ⟨hj0,hjk⟩ ⟨hi0,hii⟩ (K6 ⟨ho0,hok⟩ ⟨hc0,hck⟩))
       have hTp:=WY p q c i j hpT hpj ⟨hi0,hii⟩ ⟨hj0,hjk⟩ hq
       have hb:=Qy _ (List.getElem_mem hpT)
       have hsu:=OO (size:=size) hpT
       rw[hTp]at hb hsu
       have hb2:0<=(c*i1+y+i)*i2+x+j/\(c*i1+y+i)*i2+x+j<size:=hb
       have hex:∃r:Nat,(c*i1+y+i)*i2+x+j=r:=⟨_,(Int.toNat_of_nonneg hb2.1).symm⟩
       obtain⟨r,hr⟩:=hex
       rw[hr]at hsu hb2
       have hrl:r<size:=Int.ofNat_lt.1 hb2.2
       clear WY Qy hTp hTz hb hb2 hdl
       (repeat' ((conv=>whnf)<;>first|(show bC ..;(first|refine ax _ 1 hut rfl aa ?_|refine ax _ 2 hut rfl aa ?_|refine ax _ 1 fP rfl aa ?_|refine ax _ 2 fP rfl aa ?_|refine ax _ 3 fP rfl aa ?_|refine ax _ q hud hq hql ?_))|(show fu ..;(first|refine ja (λR w' h=>hur R w' h.1) (j:=1) aa g1 ?_|refine ja (λR w' h=>hur R w' h.1) (j:=2) aa g2 ?_|refine ja (λR w' h=>Pj R w' h.1) (j:=1) aa s1 ?_|refine ja (λR w' h=>Pj R w' h.1) (j:=2) aa s2 ?_|refine ja (λR w' h=>Pj R w' h.1) (j:=3) aa s3 ?_|refine ja (λR w' h=>hdr R w' h.1) (j:=q) hql rfl ?_))|(show bV ..;(refine aT r hr hrl ahN ?_))|(show bS ..;(refine K4 (by rw[jm];exact hrl) ?_))|(show cO _ 52 ..;refine mE [42] _ alW ?_)|refine aZ ?_|refine ag ?_ ?_<;>intro _))
       all_goals(conv=>whnf)
       exact⟨(j+1,p+1),[],⟨⟨Int.le_add_one hj0,hjk⟩,by rw[Int.natCast_add,hpj,Int.add_assoc];rfl⟩,by simp only;omega,rfl,aU,⟨by
        show(7,bU.rows (ints (rowP T size (p+1))) 1 3)∈_
        rw[hsu];exact aQ,aQ,aQ,aQ,trivial⟩,λ_ _ h=>h⟩
      ·have hjz:j=k3:=Int.le_antisymm hj1 (Int.not_lt.1 hjk)
       (repeat' ((conv=>whnf)<;>first|refine Mi ?_|refine Mj ?_|refine aZ ?_|refine ag ?_ ?_<;>intro _))
       all_goals(conv=>whnf)
       exact⟨(i+1,p),[],⟨⟨Int.le_add_one hi0,hii⟩,by rw[hpj,hjz,<-Int.add_assoc,Int.add_mul _ 1,Int.one_mul]⟩,by simp only;omega,rfl,aU,aU,λ_ _ h=>h⟩
     ·have hiz:i=k2:=Int.le_antisymm hi1 (Int.not_lt.1 hii)
      (repeat' ((conv=>whnf)<;>first|refine Mi ?_|refine Mj ?_|refine aZ ?_|refine ag ?_ ?_<;>intro _))
      all_goals(conv=>whnf)
      exact⟨(c+1,p),[],⟨⟨Int.le_add_one hc0,hck⟩,by rw[hpi,hiz,Int.add_mul c 1,Int.one_mul]⟩,by simp only;omega,rfl,aU,aU,λ_ _ h=>h⟩
    ·have hcz:c=k1:=Int.le_antisymm hc1 (Int.not_lt.1 hck)
     rw[hcz]at hpc
     have hpT:p=T.length:=Int.ofNat.inj (hpc.trans hTz.symm)
     have hml:us.length=m:=hso.rows.len
     have Wq:bs.length=m:=hso.ajZ
     have hol:o.toNat<n.aG.xs.length:=by omega
     have hoe:o=(o.toNat:Int):=(Int.toNat_of_nonneg ho0).symm
     refine Wp.yE 7 w.heap.size (k:=1) (xs:=ints (rowP T size p)) (T:=3) aQ (λR w' h b hb=>(h.1 b hb).1) (λl1 hl1=> ?_)
     rw[aF,jm]at hl1
     clear hcnt hTz WY Qy hdl
     (repeat' ((conv=>whnf)<;>first|(show @dR _ _ _;refine cK hck ?_)|(show bC ..;(first|refine ax _ 1 fP rfl aa ?_|refine ax _ o.toNat hub hoe hol ?_))|(show fu ..;(first|refine ja (λR w' h=>Pj R w' h.1.1) (j:=1) aa s1 ?_|refine ja (λR w' h=>hbr R w' h.1.1) (j:=o.toNat) hol rfl ?_))|(show sH ..;(first|refine fO ahS ?_|refine fO (by rw[aF,Wq];exact Nat.le_refl _) ?_))|(show fG ..;(first|refine b_ ajb ?_|refine b_ acD ?_))|refine aZ ?_))
     all_goals(conv=>whnf)
     exact⟨(x+1,m+1,us++[aj.mk l1.base l1.cap (rowP T size p)],bs++[n.aG.xs.getD o.toNat 0]),[(5,some 9),(6,some 11)],⟨⟨Int.le_add_one hx0,hxi⟩,hso.next ⟨λv hv=>by have:=Zi hTb v hv;unfold bX at this;exact⟨by omega,by omega⟩,by rw[jm];exact hl1,by rw[jm];omega⟩ (aer hk hsz m (hT.trans (by rw[g1,g2,s1,s2,s3])) hpT) hbi,by rw[Int.natCast_add,hmx,Int.add_assoc];rfl⟩,by simp only;omega,rfl,aU,⟨by repeat(first|exact K5 us l1.base l1.cap (rowP T size p) hml.symm (jm _ _ _).symm|apply List.mem_cons_of_mem),by repeat(first|exact oW bs _ Wq.symm|apply List.mem_cons_of_mem),aQ,trivial⟩,λR w' h=>⟨h.1.1,kW h.1.2 h.2⟩⟩
   ·have hxz:x=W:=Int.le_antisymm hx1 (Int.not_lt.1 hxi)
    (repeat' ((conv=>whnf)<;>first|refine Mi ?_|refine Mj ?_|refine aZ ?_|refine ag ?_ ?_<;>intro _))
    all_goals(conv=>whnf)
    exact⟨(y+1,m,us,bs),[(3,some 5),(4,some 6)],⟨⟨Int.le_add_one hy0,hyi⟩,hso,by rw[hmx,hxz,<-Int.add_assoc,Int.add_mul _ 1,Int.one_mul]⟩,by simp only;omega,rfl,aU,aU,λ_ _ h=>h⟩
  ·have hyz:y=H:=Int.le_antisymm hy1 (Int.not_lt.1 hyi)
   (repeat' ((conv=>whnf)<;>first|refine Mi ?_|refine Mj ?_|refine aZ ?_|refine ag ?_ ?_<;>intro _))
   all_goals(conv=>whnf)
   exact⟨(o+1,m,us,bs),[(1,some 3),(2,some 4)],⟨⟨Int.le_add_one ho0,hok⟩,hso,by rw[hmy,hyz,Int.add_mul o 1,Int.one_mul]⟩,by simp only;omega,rfl,aU,aU,λ_ _ h=>h⟩
 ·have hoz:o=k0:=Int.le_antisymm ho1 (Int.not_lt.1 hok)
  rw[hoz]at hmo
  have aeo:m=cnt:=Int.ofNat.inj (hmo.trans hcnt.symm)
  subst aeo
  (repeat' ((conv=>whnf)<;>first|refine Mi ?_|refine Mj ?_|refine aZ ?_|refine ag ?_ ?_<;>intro _))
  all_goals(conv=>whnf)
  exact Gl (i:=1) (j:=2) (B:=⟨w,[]⟩) (S:=(aH w).and (lS w.heap.size us)) (bs:=bs) (λ_ _ h=>h.1) (λ_ _ h=>h.2) rfl aQ aQ hso.rows.len.symm hso.ajZ.symm hso.rows hso.aG (λx hx=>by
   rw[hso.aG]at hx
   obtain⟨k,_,rfl⟩:=List.mem_map.1 hx
   have:bX (dA n m k):=by
    unfold dA
    rw[if_neg aa,if_pos hk]
    exact dJ hbb _
   unfold bX at this
   exact⟨by omega,by omega⟩) (by rw[hso.ajZ];omega)
theorem QV(w:World)(n:ai)(sh:List (List Int))(s:List Int)(t:aj)(cnt:Nat)(h:eT n sh s t.xs cnt)(hl:dQ n)(hno:n.ok w)(hto:t.ok w):Calls Tryz.prog 91 #[n.jS,t.val] w (uk w n t.xs cnt):=by
 obtain⟨F,P0,hL⟩:=h.lin hl
 have hat:=hL.at_
 have hsh:=h.node.shape
 have hfo:=dH h.node.form
 have h4:=adu h.node.form
 obtain⟨nd,nb,_,_,_⟩:=rT h.node.near
 have heb:=(dL t.xs).2
 have hc:=h.cnt
 have nX:=h.few
 have hgs:=h.pos
 obtain⟨ht,hg⟩:=h.first hl
 obtain⟨size,hsz⟩:∃size:Nat,entries t.xs=size:=⟨(entries t.xs).toNat,by omega⟩
 rcases hl with hk|hk|hk
 ·unfold bM at hsh
  rw[if_neg aa,if_pos hk,ht]at hsh
  by_cases hdl:(n.data.xs.length:Int)=n.aG.xs.length*entries t.xs
  ·rw[if_pos hdl,Option.some.injEq]at hsh
   obtain⟨b1,b2⟩:=hfo.aG hk
   have he1:entries [(n.aG.xs.length:Int)]=n.aG.xs.length:=by
    unfold entries
    rw[if_neg fC]
    simp only[eZ]
    rw[if_neg aa]
    omega
   rw[<-hsh,he1]at hc
   have hbl:n.aG.xs.length=cnt:=by omega
   have Qe:n.data.xs.length=n.aG.xs.length*size:=by
    rw[hsz,<-Int.natCast_mul]at hdl
    exact Int.ofNat.inj hdl
   rw[hbl]at Qe
   exact aaQ w n t hto hno hk size cnt hsz aa hbl nX Qe
  ·rw[if_neg hdl]at hsh;cases hsh
 ·obtain⟨g1,g2⟩:=h4 hk
  have DD:=hfo.V6 hk
  obtain⟨hl4,S_⟩:=pq DD
  have hsx:=adv hl4
  have hC:=Im h hk
  unfold bM at hsh
  rw[if_neg aa,if_neg aa,if_pos hk,ht]at hsh
  have hG:∀o,bN n t.xs o=pF n.data.xs (n.shape.xs.getD 1 0) (n.shape.xs.getD 2 0) (n.shape.xs.getD 3 0) (t.xs.getD 1 0) (t.xs.getD 2 0) o:=λo=>by unfold bN;rw[if_neg aa,if_pos hk]
  have dm:∀k,k<4->1<=n.shape.xs.getD k 0/\n.shape.xs.getD k 0<=64:=λk hk=>S_ _ (df aa)
  have dm0:=dm 0 aS
  have dm1:=dm 1 aS
  have dm2:=dm 2 aS
  have dm3:=dm 3 aS
  rw[hsx]at g1 DD
  have hke:=Km DD
  rw[hke]at g1
  by_cases hbad:t.xs.length≠3\/t.xs.getD 0 0≠n.shape.xs.getD 1 0\/t.xs.getD 1 0<n.shape.xs.getD 2 0\/t.xs.getD 2 0<n.shape.xs.getD 3 0
  ·rw[if_pos hbad]at hsh;cases hsh
  rw[if_neg hbad]at hsh
  have hl3:t.xs.length=3:=by omega
  have htx:=V7 hl3
  have h0:t.xs.getD 0 0=n.shape.xs.getD 1 0:=by omega
  rw[h0]at htx
  have Kn:=(gJ hg).2.2
  have td1:=Kn _ (df (xs:=t.xs) (k:=1) aa)
  have td2:=Kn _ (df (xs:=t.xs) (k:=2) aa)
  by_cases hpos:0<entries [n.shape.xs.getD 0 0,t.xs.getD 1 0-n.shape.xs.getD 2 0+1,t.xs.getD 2 0-n.shape.xs.getD 3 0+1]
  ·rw[if_pos hpos,Option.some.injEq]at hsh
   have hcv:=iJ hpos
   rw[hsh,hc]at hcv
   exact aes w n t hto hno hk size cnt _ _ _ _ _ _ hsx htx hsz aa dm0 dm1 hC.k2 hC.k3 td1.2 td2.2 g1 g2 nd nb hcv nX.2 λo ho x hx=>by
    have:=hat o ho x (by rw[hG];exact hx)
    rw[hsz]at this
    exact this
  ·rw[if_neg hpos]at hsh;cases hsh
 ·have hP:=Io h hk
  unfold bM at hsh
  rw[if_neg aa,if_neg aa,if_neg aa,if_pos hk,ht]at hsh
  have hG:∀o,bN n t.xs o=pG n.size (t.xs.getD 1 0) (t.xs.getD 2 0) o:=λo=>by unfold bN;rw[if_neg aa,if_neg aa]
  by_cases hbad:t.xs.length≠3\/t.xs.getD 1 0%n.size≠0\/t.xs.getD 2 0%n.size≠0
  ·rw[if_pos hbad]at hsh;cases hsh
  rw[if_neg hbad,Option.some.injEq]at hsh
  have hl3:t.xs.length=3:=by omega
  have htx:=V7 hl3
  have Kn:=(gJ hg).2.2
  have td0:=Kn _ (df (xs:=t.xs) (k:=0) aa)
  have td1:=Kn _ (df (xs:=t.xs) (k:=1) aa)
  have td2:=Kn _ (df (xs:=t.xs) (k:=2) aa)
  have hpos:0<entries [t.xs.getD 0 0,t.xs.getD 1 0/n.size,t.xs.getD 2 0/n.size]:=by
   have:=jF hfo hgs h.node.shape rfl
   rw[hsh];exact this
  have hcv:=iJ hpos
  rw[hsh,hc]at hcv
  exact aek w n t hto hno hk size cnt _ _ _ htx hsz aa td0 ⟨hP.z1,td1.2⟩ ⟨hP.z2,td2.2⟩ hP.z hP.m1 hP.m2 hcv nX.2 λo ho x hx=>by
   have:=hat o ho x (by rw[hG];exact hx)
   rw[hsz]at this
   exact this
def yN(n:ai)(tl:List Int)(o i:Int):Int:=
 if n.kind=3 then n.data.xs.getD (o*entries tl+i).toNat 0
 else if n.kind=4 then
  (let y:=i/tl.getD 2 0%tl.getD 1 0-o/(tl.getD 2 0-n.shape.xs.getD 3 0+1)%(tl.getD 1 0-n.shape.xs.getD 2 0+1)
   let x:=i%tl.getD 2 0-o%(tl.getD 2 0-n.shape.xs.getD 3 0+1)
   if y<0\/n.shape.xs.getD 2 0<=y\/x<0\/n.shape.xs.getD 3 0<=x then 0
   else n.data.xs.getD (((o/(tl.getD 2 0-n.shape.xs.getD 3 0+1)/(tl.getD 1 0-n.shape.xs.getD 2 0+1)*n.shape.xs.getD 1 0+i/tl.getD 2 0/tl.getD 1 0)*n.shape.xs.getD 2 0+y)*n.shape.xs.getD 3 0+x).toNat 0)
 else if i/tl.getD 2 0/tl.getD 1 0≠o/(tl.getD 2 0/n.size)/(tl.getD 1 0/n.size)\/i/tl.getD 2 0%tl.getD 1 0/n.size≠o/(tl.getD 2 0/n.size)%(tl.getD 1 0/n.size)\/i%tl.getD 2 0/n.size≠o%(tl.getD 2 0/n.size)then 0 else 1
theorem WZ{r:List Int}{x:Sp}{i:Nat}(h:x.2.toNat≠i):(wG r x).getD i 0=r.getD i 0:=by simp[wG,List.getD,List.getElem?_set_ne h]
theorem Bc:∀(T:List Sp) (r:List Int) (i:Nat),(∀x∈T,x.2.toNat≠i)->(T.foldl wG r).getD i 0=r.getD i 0
 |[],_,_,_=>rfl
 |x::T,r,i,h=>by
  rw[List.foldl_cons,Bc T _ i (λy hy=>h y (List.mem_cons_of_mem _ hy)),WZ (h x List.mem_cons_self)]
theorem K7:∀(T:List Sp) (r:List Int) (i:Nat) (x:Sp),i<r.length->x∈T->x.2.toNat=i->(∀y∈T,y.2.toNat=i->y.1=x.1)->(T.foldl wG r).getD i 0=x.1
 |[],_,_,_,_,h,_,_=>by cases h
 |z::T,r,i,x,hl,hx,he,hu=>by
  rw[List.foldl_cons]
  by_cases hex:∃y∈T,y.2.toNat=i
  ·obtain⟨y,hy,hyi⟩:=hex
   have h1:=K7 T (wG r z) i y (by rw[wG,List.length_set];exact hl) hy hyi (λu hu' hui=>(hu u (List.mem_cons_of_mem _ hu') hui).trans (hu y (List.mem_cons_of_mem _ hy) hyi).symm)
   rw[h1];exact hu y (List.mem_cons_of_mem _ hy) hyi
  ·rw[Bc T _ i (λy hy e=>hex ⟨y,hy,e⟩)]
   have hzx:x=z:=by
    rcases List.mem_cons.1 hx with g|g
    ·exact g
    ·exact absurd ⟨x,g,he⟩ hex
   subst hzx
   simp[wG,List.getD,he,hl]
theorem OP(n i:Nat):(List.replicate n (0:Int)).getD i 0=0:=by
 simp only[List.getD,List.getElem?_replicate];split<;>rfl
theorem lK{i I1 I2:Int}(h0:0<=i)(h1:0<I1)(h2:0<I2):i=(i/I2/I1*I1+i/I2%I1)*I2+i%I2/\(0<=i%I2/\i%I2<I2)/\(0<=i/I2%I1/\i/I2%I1<I1)/\0<=i/I2/I1:=by
 have e1:=Int.mul_ediv_add_emod i I2
 have e2:=Int.mul_ediv_add_emod (i/I2) I1
 have g0:0<=i/I2:=Int.ediv_nonneg h0 aa
 refine⟨?_,⟨Int.emod_nonneg _ aa,Int.emod_lt_of_pos _ h2⟩,⟨Int.emod_nonneg _ aa,Int.emod_lt_of_pos _ h1⟩,Int.ediv_nonneg g0 aa⟩
 have e3:i/I2/I1*I1+i/I2%I1=i/I2:=by rw[Int.mul_comm];exact e2
 rw[e3,Int.mul_comm];exact e1.symm
theorem rD{a b c:Int}(hb:0<b)(h:a<c*b):a/b<c:=Int.ediv_lt_of_lt_mul hb h
theorem Uf{d:List Int}{k1 k2 k3 i1 i2 o i:Int}{E:Nat}(hk2:1<=k2/\k2<=i1)(hk3:1<=k3/\k3<=i2)(hE:(E:Int)=k1*i1*i2)(hi:0<=i/\i<E)(ho:0<=o):
 ((pF d k1 k2 k3 i1 i2 o).foldl wG (List.replicate E 0)).getD i.toNat 0=
   (if i/i2%i1-o/(i2-k3+1)%(i1-k2+1)<0\/k2<=i/i2%i1-o/(i2-k3+1)%(i1-k2+1)\/i%i2-o%(i2-k3+1)<0\/k3<=i%i2-o%(i2-k3+1)then 0
    else d.getD (((o/(i2-k3+1)/(i1-k2+1)*k1+i/i2/i1)*k2+(i/i2%i1-o/(i2-k3+1)%(i1-k2+1)))*k3+(i%i2-o%(i2-k3+1))).toNat 0):=by
 have h1:0<i1:=by omega
 have h2:0<i2:=by omega
 obtain⟨ei,bx,by_,bc⟩:=lK hi.1 h1 h2
 obtain⟨eo,ox,oy,oc⟩:=lK (i:=o) (I1:=i1-k2+1) (I2:=i2-k3+1) ho aa aa
 obtain⟨c,hc⟩:∃c,i/i2/i1=c:=⟨_,rfl⟩
 obtain⟨fy,W9⟩:∃c,i/i2%i1=c:=⟨_,rfl⟩
 obtain⟨fx,hfx⟩:∃c,i%i2=c:=⟨_,rfl⟩
 obtain⟨tc,htc⟩:∃c,o/(i2-k3+1)/(i1-k2+1)=c:=⟨_,rfl⟩
 obtain⟨ty,hty⟩:∃c,o/(i2-k3+1)%(i1-k2+1)=c:=⟨_,rfl⟩
 obtain⟨tx,htx⟩:∃c,o%(i2-k3+1)=c:=⟨_,rfl⟩
 rw[hc,W9,hfx]at ei
 rw[W9]at by_
 rw[hfx]at bx
 rw[hc]at bc
 rw[htc]at oc
 rw[hty]at oy
 rw[htx]at ox
 rw[hc,W9,hfx,htc,hty,htx]
 have hck:c<k1:=by
  have h3:i/i2<k1*i1:=rD h2 (by rw[<-hE];exact hi.2)
  rw[<-hc];exact rD h1 h3
 have term:∀x∈pF d k1 k2 k3 i1 i2 o,x.2.toNat=i.toNat->∃p:Nat,x=gK d k1 k2 k3 i1 i2 o p/\(p:Int)/k3/k2=c/\ty+(p:Int)/k3%k2=fy/\tx+(p:Int)%k3=fx:=by
  intro x hx hxi
  obtain⟨p,hp,rfl⟩:=List.mem_map.1 hx
  obtain⟨ep,px,py,pc⟩:=lK (i:=(p:Int)) (I1:=k2) (I2:=k3) aa aa aa
  refine⟨p,rfl,?_⟩
  have hpos:(gK d k1 k2 k3 i1 i2 o p).2=(((p:Int)/k3/k2*i1+(ty+(p:Int)/k3%k2))*i2+(tx+(p:Int)%k3)):=by
   unfold gK
   rw[hty,htx]
   simp only
   rw[<-Int.add_assoc,<-Int.add_assoc]
  have hnn:0<=(gK d k1 k2 k3 i1 i2 o p).2:=by
   rw[hpos]
   have:=Int.mul_nonneg (show 0<=(p:Int)/k3/k2*i1+(ty+(p:Int)/k3%k2) by have:=Int.mul_nonneg pc (show 0<=i1 by omega);omega) (show 0<=i2 by omega)
   omega
  have he:i=(((p:Int)/k3/k2*i1+(ty+(p:Int)/k3%k2))*i2+(tx+(p:Int)%k3)):=by rw[<-hpos];omega
  have:=aaR he ⟨by omega,by omega⟩ ⟨by omega,by omega⟩
  rw[hc,W9,hfx]at this
  exact⟨this.1.symm,this.2.1.symm,this.2.2.symm⟩
 split
 ·rename_i hbad
  rw[Bc,OP]
  intro x hx hxi
  obtain⟨p,rfl,g1,g2,g3⟩:=term x hx hxi
  obtain⟨ep,px,py,pc⟩:=lK (i:=(p:Int)) (I1:=k2) (I2:=k3) aa aa aa
  omega
 ·rename_i hgood
  obtain⟨y,hy⟩:∃y,fy-ty=y:=⟨_,rfl⟩
  obtain⟨x,hx⟩:∃x,fx-tx=x:=⟨_,rfl⟩
  rw[hy,hx]at hgood|-
  have hcy:0<=c*k2+y:=by have:=Int.mul_nonneg bc (show 0<=k2 by omega);omega
  have hp0:0<=(c*k2+y)*k3+x:=by have:=Int.mul_nonneg hcy (show 0<=k3 by omega);omega
  obtain⟨p,hp⟩:=Int.eq_ofNat_of_zero_le hp0
  have hp3:=aaR (o:=(p:Int)) (c:=c) (y:=y) (x:=x) (H:=k2) (W:=k3) hp.symm ⟨by omega,by omega⟩ ⟨by omega,by omega⟩
  have hlt:(p:Int)<k1*k2*k3:=by
   rw[<-hp]
   have a1:(c+1)*k2<=k1*k2:=Int.mul_le_mul_of_nonneg_right aa aa
   rw[Int.add_mul,Int.one_mul]at a1
   have a2:(c*k2+y+1)*k3<=k1*k2*k3:=Int.mul_le_mul_of_nonneg_right aa aa
   rw[Int.add_mul,Int.one_mul]at a2
   omega
  have hmem:gK d k1 k2 k3 i1 i2 o p∈pF d k1 k2 k3 i1 i2 o:=List.mem_map.2 ⟨p,List.mem_range.2 aa,rfl⟩
  have hval:∀q:Nat,(q:Int)/k3/k2=c->ty+(q:Int)/k3%k2=fy->tx+(q:Int)%k3=fx->(gK d k1 k2 k3 i1 i2 o q).1=d.getD (((tc*k1+c)*k2+y)*k3+x).toNat 0/\(gK d k1 k2 k3 i1 i2 o q).2=i:=by
   intro q g1 g2 g3
   obtain⟨eq,qx,qy,qc⟩:=lK (i:=(q:Int)) (I1:=k2) (I2:=k3) aa aa aa
   rw[g1]at eq
   have e1:(q:Int)/k3%k2=y:=by omega
   have e2:(q:Int)%k3=x:=by omega
   rw[e1,e2]at eq
   unfold gK
   rw[htc,hty,htx,g1,e1,e2]
   constructor
   ·simp only
    congr 2
    rw[eq];grind
   ·simp only
    rw[ei,<-hy]at*
    have:fx=tx+x:=by omega
    grind
  have hpv:=hval p hp3.1 (by rw[hp3.2.1];omega) (by rw[hp3.2.2];omega)
  rw[K7 _ _ _ (gK d k1 k2 k3 i1 i2 o p) VL hmem (by rw[hpv.2]) (λu hu hui=> ?_)]
  ·exact hpv.1
  ·obtain⟨q,rfl,g1,g2,g3⟩:=term u hu hui
   rw[(hval q g1 g2 g3).1,hpv.1]
end Go.Proofs.YtgndjjdeopfdkaaGreat

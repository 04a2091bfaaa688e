import Derived.Test.YtgndjjdeopfdkaaGreatKLowerMakes7
/- texts LP JM of the proof of LowerMakesSaid -/
set_option maxHeartbeats 16000000
set_option maxRecDepth 20000
set_option linter.unusedVariables false
set_option linter.unusedSimpArgs false
namespace Go.Proofs.YtgndjjdeopfdkaaGreat
open Go.RowKit Go.SX
section
def nM(x:a_):bN where
 holds R w:=(fC x.base 1 (aS x.l)).holds R w/\∀u∈x.l,(bE u).holds R w
 stable:=λhR hw h=>⟨(fC _ _ _).stable hR hw h.1,λu hu=>(bE u).stable hR hw (h.2 u hu)⟩
structure wG(D:List (List Int))(x:a_):Prop where
 rows:x.l.map au.xs=D
 bq:∀u∈x.l,u.bq
 room:x.l.length<=x.cap
def zG(w:World)(D:List (List Int))(er:Int):Ending->World->Prop:=λe w'=>∃x:a_,wG D x/\e= .returned (.tuple #[x.val,.int .i64 er])/\Ext w w'/\(nM x).holds (λb=>w.heap.size<=b/\b<w'.heap.size) w'
def YS(n:Nat)(x:a_):Prop:=∀u∈x.l,(u.xs=[]/\u.base=none)\/u.xs.length=n
def rq(w:World)(n:Nat)(D:List (List Int))(er:Int):Ending->World->Prop:=λe w'=>∃x:a_,(wG D x/\YS n x)/\e= .returned (.tuple #[x.val,.int .i64 er])/\Ext w w'/\(nM x).holds (λb=>w.heap.size<=b/\b<w'.heap.size) w'
variable {w:World}
theorem rq.post{w':World}{n:Nat}{D:List (List Int)}{er:Int}{e:Ending}(h:rq w n D er e w'):zG w D er e w':=by
 obtain⟨x,h1,h2⟩:=h
 exact⟨x,h1.1,h2⟩
def oU(rows:List (List Int))(fr to:List Int)(aj:Int):Prop:=1<=aj/\aj<=4096/\rows.length=to.length/\jP fr aj=true/\jP to aj=true/\∀r∈rows,r.length=fr.length
variable {B:Base} {H:Heap} {S:bN} {nx:Nat}
theorem aar(hb:∀R w',S.holds R w'->(aO B.w0).holds R w')(hw0:B.w0=w):jI B (.sN [.c (.slice none 0 0),ax 3]) H S nx (zG w [] 3):=by
 subst hw0
 refine dH λρ w' hw=>⟨⟨none,0,[]⟩,⟨rfl,λ_ h=>kP,Nat.le_refl _⟩,rfl,aZ hw hb,⟨⟨λ_ h=>kP,.inl rfl⟩,λ_ h=>by cases h⟩⟩
theorem X_{n:Nat}(hb:∀R w',S.holds R w'->(aO B.w0).holds R w')(hw0:B.w0=w):jI B (.sN [.c (.slice none 0 0),ax 3]) H S nx (rq w n [] 3):=by
 subst hw0
 refine dH λρ w' hw=>⟨⟨none,0,[]⟩,⟨⟨rfl,λ_ h=>kP,Nat.le_refl _⟩,λ_ h=>kP⟩,rfl,aZ hw hb,⟨⟨λ_ h=>kP,.inl rfl⟩,λ_ h=>by cases h⟩⟩
theorem j_{l:List Int}{aj:Int}(h:jP l aj=true):(∀x∈l,0<=x/\x<aj)/\l.Nodup:=by simpa[jP]using h
def o_(p:iK):au:=⟨p.1.base,p.1.cap,p.2⟩
theorem adC{i g n m:Nat}{L:List iK}(hb:∀R w',S.holds R w'->(aO B.w0).holds R w')(hw0:B.w0=w)(hL:DOk n L)(hf:∀p∈L,∀x∈p.2,i64 x)(hn:n<=1000000)(hm:m=n)(hi:(i,bZ.rows (gI L) 1 32)∈H)(hg:(g,bZ.ext (mK 3 (kC L)))∈H):
 jI B (.sN [.os i m,ax 0]) H S nx (rq w n (L.map Prod.snd) 0):=by
 subst hw0 hm
 refine dH λρ w' hw=> ?_
 have hn1:=dK hw hb hi
 have hsh:gI L=aS (L.map o_):=by simp[gI,aS,H6,o_,au.val]
 rw[hsh]at hn1
 obtain⟨base,cap,e,h1,h2⟩:∃base cap,(SV.os i (aS (L.map o_)).length).rf ρ= .slice base (L.map o_).length cap/\(L.map o_).length<=cap/\(fC base 1 (aS (L.map o_))).holds (λb=>B.w0.heap.size<=b/\b<w'.heap.size) w':=by
  obtain⟨base,cap,e,h1⟩:=fJ hn1
  obtain⟨lc,e2,F,hF,hr,hcap,_⟩:=hn1
  rw[e2]at e
  simp only[Value.slice.injEq]at e
  obtain⟨e3,_,e4⟩:=e
  refine⟨base,cap,?_,?_,h1⟩
  ·rw[e2,e3,e4,aW]
  ·rw[<-e4];simpa[aW]using hcap
 have hlen:(aS (L.map o_)).length=m:=by rw[aW,List.length_map,hL.len]
 rw[hlen]at e
 refine⟨⟨base,cap,L.map o_⟩,⟨⟨by simp[o_],λu hu=> ?_,h1⟩,λu hu=> ?_⟩,?_,aZ hw hb,h2,λu hu=> ?_⟩
 ·obtain⟨p,hp,rfl⟩:=List.mem_map.1 hu
  rcases hL.each p hp with⟨e1,e2⟩|⟨_,e2,e3⟩
  ·exact⟨hf p hp,by simp[o_,e2],by simp[o_,e2]⟩
  ·exact⟨hf p hp,by simp[o_,e2,e3],by simp[o_,e2,hn]⟩
 ·obtain⟨p,hp,rfl⟩:=List.mem_map.1 hu
  rcases hL.each p hp with⟨e1,e2⟩|⟨_,e2,e3⟩
  ·exact .inl ⟨e2,by simp[o_,e1]⟩
  ·exact .inr e2
 ·have:(SV.sN [.os i m,ax 0]).rf ρ= .tuple #[(SV.os i m).rf ρ,.int .i64 0]:=rfl
  rw[this,e];rfl
 ·obtain⟨p,hp,rfl⟩:=List.mem_map.1 hu
  rcases hL.each p hp with⟨e1,e2⟩|⟨⟨b,off,e1⟩,e2,e3⟩
  ·show(fC (o_ p).base 1 (aN (o_ p).xs)).holds _ w'
   have:(o_ p).xs=[]:=e2
   rw[this]
   exact⟨λr hr=>(by cases hr),.inl rfl⟩
  ·have hp':((p.1,p.2.map (Value.int .i64)):wU)∈kC L:=List.mem_map.2 ⟨p,hp,rfl⟩
   obtain⟨g1,g2,g3⟩:=Y3 hw hb hg hp' e1
   refine⟨kL,.inr ⟨b,off,e1,⟨g1,g2⟩,λk r hk j v hj=> ?_⟩⟩
   have hkl:k<p.2.length:=by
    have:=(List.getElem?_eq_some_iff.1 hk).1
    rwa[aJ]at this
   have hk':(aN p.2)[k]? =some r:=hk
   rw[eH hkl]at hk'
   obtain rfl:[Value.int .i64 p.2[k]]=r:=by simpa using hk'
   have hj0:j=0:=by
    rcases Nat.eq_zero_or_pos j with h|h
    ·exact h
    ·rw[List.getElem?_eq_none ab9]at hj;cases hj
   subst hj0
   have:=g3 k (Value.int .i64 p.2[k]) (by simp[hkl])
   obtain rfl:Value.int .i64 p.2[k]=v:=by simpa using hj
   simpa using this
end
section
instance(rows:List (List Int))(fr to:List Int)(aj:Int):Decidable (oU rows fr to aj):=by unfold oU;infer_instance
def mW(rows:List (List Int))(fr to:List Int)(aj:Int):List (List Int)×Int:=if oU rows fr to aj then(ou aj.toNat rows fr to to.length,0)else([],3)
variable {w:World} {B:Base} {H:Heap} {S:bN} {nx:Nat}
theorem yY{rows:List (List Int)}{fr to:List Int}{aj:Int}(hno:¬oU rows fr to aj)(hb:∀R w',S.holds R w'->(aO B.w0).holds R w')(hw0:B.w0=w):jI B (.sN [.c (.slice none 0 0),ax 3]) H S nx (rq w aj.toNat (mW rows fr to aj).1 (mW rows fr to aj).2):=by
 rw[mW,if_neg hno];exact X_ hb hw0
theorem Hw{ρ:Nat->SX.Loc}{T:TypeId}{fv:au}(hw:eD B ρ nx H S w)(he:(0,bZ.box [.c fv.val] T)∈H)(rv:a_)(hr:rv.okB w):
 Calls Tryz.prog 127 (SV.eO ρ [.c rv.val,.fn (.func 128) [] [.lp 0 0 0 0]]).toArray w λe w'=>e= .returned (.bool (rv.l.any λu=>decide (u.xs.length≠fv.xs.length)))/\Ext w w':=by
 obtain⟨R,φ,hw⟩:=hw
 obtain⟨b,h1,h2,h3⟩:=hw.kV _ he
 simp only at h1
 have ha:(SV.eO ρ [.c rv.val,.fn (.func 128) [] [.lp 0 0 0 0]]).toArray= #[rv.val,.func (.func 128) #[] #[.pointer (some ⟨b,0,none⟩)]]:=by
  simp[SV.eO,SV.rf,h1,Addr.add]
 rw[ha]
 exact Hy w rv hr ⟨b,0,none⟩ fv.base fv.xs.length fv.cap (by simp[World.cell?,h3,SV.eO,SV.rf,au.val])
variable {l:List au}
theorem Y7{n:Nat}(h:(l.any λu=>decide (u.xs.length≠n))=false):∀r∈l.map au.xs,r.length=n:=by
 intro r hr
 obtain⟨u,hu,rfl⟩:=List.mem_map.1 hr
 have:=List.any_eq_false.1 h u hu
 simpa using this
theorem ael{n:Nat}(h:(l.any λu=>decide (u.xs.length≠n))=true)(hall:∀r∈l.map au.xs,r.length=n):False:=by
 obtain⟨u,hu,hx⟩:=List.any_eq_true.1 h
 exact absurd (hall _ (List.mem_map.2 ⟨u,hu,rfl⟩)) (by simpa using hx)
variable {x:Int}
theorem ae9{y z:Int}{K:Int->Prop}(h0:0<=x)(hy:y≠0)(e:x%y=z)(h:K z):CQ x y K:=Ih h0 hy YH
theorem Pp(b off k:Nat):(⟨b,off,none⟩:Addr).add (k*1)=⟨b,off+k,none⟩:=by simp[Addr.add]
variable {d:Nat}
theorem N9{L:List iK}{p:iK}(h:∀p∈L,∀x∈p.2,i64 x)(hp:∀x∈p.2,i64 x):∀q∈L.set d p,∀x∈q.2,i64 x:=λq hq=>by
 rcases List.mem_or_eq_of_mem_set hq with hq|hq
 ·exact h q hq
 ·rw[hq];exact hp
theorem L6{l:List Int}{k:Nat}(h:∀y∈l,i64 y)(hx:i64 x):∀y∈l.set k x,i64 y:=λy hy=>by
 rcases List.mem_or_eq_of_mem_set hy with hy|hy
 ·exact h y hy
 ·rw[hy];exact hx
theorem O_{l:List Int}(h:∀y∈l,i64 y)(k:Nat):i64 (l.getD k 0):=by
 rcases Nat.lt_or_ge k l.length with g|g
 ·have e:l.getD k 0=l[k]:=by simp[List.getD,g]
  rw[e];exact h _ (List.getElem_mem g)
 ·have e:l.getD k 0=0:=by simp[List.getD,g]
  rw[e];exact⟨by decide,by decide⟩
theorem adq(n s:Nat)(x:Int):(List.replicate n (Value.int .i64 0)).set s (.int .i64 x)=((List.replicate n (0:Int)).set s x).map (Value.int .i64):=by simp[List.map_set]
theorem Y_{a:Addr}{j:Nat}{xs:List Int}{v:Int}{K:SV->Prop}(hx:∀R w,S.holds R w->bu w (some a) 1 (aN xs))(hj:j<xs.length)(e:xs.getD j 0=v)(h:K (ax v)):fT (a.add (j*1)) S K:=by
 subst e;exact bY hx hj h
theorem List.Vq{α:Type}{l:List α}{x:α}(h:l[d]? =some x):l.set d x=l:=by
 apply List.ext_getElem?
 intro i
 rw[List.getElem?_set]
 split
 ·rename_i e;subst e;split
  ·exact h.symm
  ·rw[List.getElem?_eq_none aa]
 ·rfl
theorem abv(w:World)(rv:a_)(hr:rv.okB w)(fv tv:au)(VX:fv.ok w)(X5:tv.ok w)(aj:Int)(hs:i64 aj):
 Calls Tryz.prog 64 #[rv.val,fv.val,tv.val,.int .i64 aj] w (rq w aj.toNat (mW (rv.l.map au.xs) fv.xs tv.xs aj).1 (mW (rv.l.map au.xs) fv.xs tv.xs aj).2):=by
 have hr1:=hr.few
 have hf1:=VX.few
 have ht1:=X5.few
 obtain⟨hs1,hs2⟩:=hs
 have hrl:(rv.l.map au.xs).length=rv.l.length:=List.length_map _
 refine fH Tryz.func64 [.c rv.val,.c fv.val,.c tv.val,ax aj] ?_
 repeat' ((conv=>whnf)<;>first|(show aI _ 126 [.c fv.val,ax aj] ..;refine fK (f:=126) Tryz.call126 _ (λρ w' hw=>Kj w' fv (ae hw λR h=>VX.later h) aj) (λhp1=> ?_) (λhp1=> ?_))|(show aI _ 126 [.c tv.val,ax aj] ..;refine fK (f:=126) Tryz.call126 _ (λρ w' hw=>Kj w' tv (ae hw λR h=>X5.later h) aj) (λhp2=> ?_) (λhp2=> ?_))|(show aI _ 127 ..;(refine fK (f:=127) Tryz.call127 _ (λρ w' hw=>Hw (fv:=fv) hw aU rv (ae hw λR h=>hr.later h)) (λhp3=> ?_) (λhp3=> ?_)))|(show mJ ..;(refine jC aj.toNat aa aa aex aa ?_))|refine aX ?_|refine ag ?_ ?_<;>intro _)
 all_goals(conv=>whnf)
 all_goals first|exact yY (λh=>by have:=h.1;have:=h.2.1;have:=h.2.2.1;omega) (λ_ _ h=>h) rfl|exact yY (λh=>Bool.false_ne_true (hp1.symm.trans h.2.2.2.1)) (λ_ _ h=>h) rfl|exact yY (λh=>Bool.false_ne_true (hp2.symm.trans h.2.2.2.2.1)) (λ_ _ h=>h) rfl|exact yY (λh=>ael hp3 h.2.2.2.2.2) (λ_ _ h=>h) rfl|skip
 have hok:oU (rv.l.map au.xs) fv.xs tv.xs aj:=⟨by omega,by omega,by omega,hp1,hp2,Y7 hp3⟩
 rw[mW,if_pos hok]
 obtain⟨n,hn⟩:∃n:Nat,aj=n:=⟨aj.toNat,by omega⟩
 subst hn
 rw[Int.toNat_natCast]
 have hfr:=(j_ hp1).1
 have hto:=(j_ hp2).1
 refine Wp.grp 3 n ?_
 refine Wp.loop (σ:=Nat×List iK) 3 (λs=>[(0,.c rv.val),(3,ax n),(5,.lp 0 0 0 0),(10,.os 1 n),(49,.c tv.val),(50,ax tv.xs.length),(51,ax s.1)])
  (λs=>[(0,.box [.c fv.val] 32),(1,.rows (gI s.2) 1 32),(2,.ext (mK 3 (kC s.2)))]) (λ_=>aO w)
  (λs=>DOk n s.2/\(∀p∈s.2,∀x∈p.2,i64 x)/\s.2.map Prod.snd=ou n (rv.l.map au.xs) fv.xs tv.xs s.1/\s.1<=tv.xs.length) (λs=>tv.xs.length-s.1) (0,xq n) [] aY (λs=>⟨rfl,rfl⟩)
  ⟨agz n,(λp hp x hx=>by rw[(List.mem_replicate.1 hp).2]at hx;cases hx),by rw[Td];rfl,Nat.zero_le _⟩ ⟨rfl,⟨rfl,rfl,rfl,rfl,rfl,rfl,rfl,trivial⟩,?_,λ_ _ h=>h⟩ ?_
 ·show kU [] _ [(0,.box [.c fv.val] 32),(1,.rows (gI (xq n)) 1 32),(2,.ext (mK 3 (kC (xq n))))]
  rw[Nq,Lr]
  exact bM
 rintro⟨o,L⟩ ⟨hL,hLf,hLs,hol⟩
 dsimp only at hL hLf hLs hol
 by_cases hlt:o<tv.xs.length
 ·obtain⟨ta,Iw⟩:=X5.base aa
  have htr:∀(R:Nat->Prop) w',(aO w).holds R w'->bu w' (some ta) 1 (aN tv.xs):=λR w' h=>by rw[<-Iw];exact aA h X5.rows
  have Fq:o<rv.l.length:=by omega
  have hsb:0<=tv.xs.getD o 0/\tv.xs.getD o 0<n:=by
   have e:tv.xs.getD o 0=tv.xs[o]:=by simp[List.getD,hlt]
   rw[e];exact hto _ (List.getElem_mem hlt)
  obtain⟨sv,hsv⟩:∃sv,tv.xs.getD o 0=sv:=⟨_,rfl⟩
  repeat' ((conv=>whnf)<;>first|(show bV ..;refine aH ta o Iw rfl hlt ?_)|(show fT ..;refine bY htr (j:=o) hlt ?_)|refine aX ?_|refine ag ?_ ?_<;>intro _)
  all_goals(conv=>whnf)
  have hrow:(rv.l.map au.xs).getD o []=rv.l[o].xs:=by simp[List.getD,Fq]
  have hrlen:rv.l[o].xs.length=fv.xs.length:=Y7 hp3 _ (List.mem_map.2 ⟨_,List.getElem_mem Fq,rfl⟩)
  have hro:=hr.each rv.l[o] (List.getElem_mem Fq)
  obtain⟨ra,hra⟩:∃a,rv.base=some a:=aP (j:=o) hr.rows (by rw[aW];exact Fq)
  rw[hsv]at hsb|-
  refine Wp.loop (σ:=Nat×List iK) 3 (λs=>[(0,.c rv.val),(3,ax n),(5,.lp 0 0 0 0),(10,.os 1 n),(49,.c tv.val),(50,ax tv.xs.length),(51,ax o),(11,ax o),(12,ax sv),(56,.c fv.val),(57,ax fv.xs.length),(58,ax s.1)])
   (λs=>[(0,.box [.c fv.val] 32),(1,.rows (gI s.2) 1 32),(2,.ext (mK 3 (kC s.2)))]) (λ_=>aO w)
   (λs=>DOk n s.2/\(∀p∈s.2,∀x∈p.2,i64 x)/\s.2.map Prod.snd=Ay n fv.xs rv.l[o].xs sv (ou n (rv.l.map au.xs) fv.xs tv.xs o) s.1/\s.1<=fv.xs.length) (λs=>fv.xs.length-s.1) (0,L) [] aY (λs=>⟨rfl,rfl⟩)
   ⟨hL,hLf,hLs,Nat.zero_le _⟩ ⟨rfl,⟨rfl,rfl,rfl,rfl,rfl,rfl,rfl,rfl,rfl,rfl,rfl,rfl,trivial⟩,bM,λ_ _ h=>h⟩ ?_
  clear hL hLf hLs
  rintro⟨i,M⟩ ⟨hM,hMf,hMs,hil⟩
  dsimp only at hM hMf hMs hil
  by_cases Gm:i<fv.xs.length
  ·obtain⟨fa,hfa⟩:=VX.base aa
   have akk:∀(R:Nat->Prop) w',(aO w).holds R w'->bu w' (some fa) 1 (aN fv.xs):=λR w' h=>by rw[<-hfa];exact aA h VX.rows
   obtain⟨wa,hwa⟩:=hro.base aa
   have hwr:∀(R:Nat->Prop) w',(aO w).holds R w'->bu w' (some wa) 1 (aN rv.l[o].xs):=λR w' h=>by rw[<-hwa];exact aA h hro.rows
   have mX:0<=fv.xs.getD i 0/\fv.xs.getD i 0<n:=by
    have e:fv.xs.getD i 0=fv.xs[i]:=by simp[List.getD,Gm]
    rw[e];exact hfr _ (List.getElem_mem Gm)
   have hwf:=O_ hro.fits i
   have hstep:=U0 n fv.xs rv.l[o].xs sv (ou n (rv.l.map au.xs) fv.xs tv.xs o) i
   rw[<-hMs]at hstep
   obtain⟨fi,hfi⟩:∃x,fv.xs.getD i 0=x:=⟨_,rfl⟩
   obtain⟨wi,hwi⟩:∃x,rv.l[o].xs.getD i 0=x:=⟨_,rfl⟩
   rw[hfi]at mX hstep
   rw[hwi]at hwf hstep
   by_cases hw0:wi=0
   ·repeat' ((conv=>whnf)<;>first|refine O7 ?_|refine aeK ?_|refine aX ?_|refine ag ?_ ?_<;>intro _)
    all_goals(conv=>whnf)
    exact⟨(i+1,M),[],⟨hM,hMf,by rw[hstep,qA,if_pos hw0],Gm⟩,by show fv.xs.length-(i+1)<fv.xs.length-i;omega,rfl,bM,bM,λ_ _ h=>h⟩
   ·obtain⟨d,hdd,hdn,hd0⟩:=aoi hsb mX
    have hMd:d<M.length:=by rw[hM.len];exact hdn
    have hdl:=uk M
    obtain⟨q,hq⟩:∃q,M[d]? =some q:=⟨_,List.getElem?_eq_getElem hMd⟩
    have hqm:=List.mem_of_getElem? hq
    obtain⟨sn,hsn⟩:∃k:Nat,sv=k:=⟨sv.toNat,by omega⟩
    have ags:sv.toNat=sn:=by omega
    rcases hM.each q hqm with⟨e1,e2⟩|⟨⟨b,off,e1⟩,e2,e3⟩
    ·obtain⟨ql,qv⟩:=q
     simp only at e1 e2
     subst e1 e2
     repeat' ((conv=>whnf)<;>first|refine O7 ?_|refine aeK ?_|(show CQ ..;refine ae9 hd0 aa hdd ?_)|(show di ..;refine bg d rfl hdn (Nat.le_of_eq (hdl.trans hM.len).symm) ?_)|(show mq ..;refine row_of _ _ (rH hq) rfl ?_)|(show lY ..;refine agr (ti 32 rfl) rfl ?_)|(show mJ ..;(refine jC n rfl rfl DI aa ?_))|refine uT ?_|refine ag ?_ ?_<;>intro _)
     all_goals(conv=>whnf)
     refine EM (g:=2) (d:=d) (us:=[]) (l0:=⟨none,0⟩) (L:=kC M) (vs:=List.replicate n (.int .i64 0)) aU (Ae hq) rfl rfl (by rw[qG,List.map_replicate]) Oz (λl hlc hlb=> ?_)
     rw[List.length_replicate]at hlc
     obtain⟨b,off,hlb⟩:=hlb
     have hset:((gI M).set d [.slice l.base n l.cap])[d]? =some [.slice l.base n l.cap]:=List.getElem?_set_self (by rw[hdl];exact hMd)
     have hgs:((kC M).set d (l,List.replicate n (.int .i64 0)))[d]? =some (l,List.replicate n (.int .i64 0)):=List.getElem?_set_self (by rw[kC,List.length_map];exact hMd)
     repeat' ((conv=>whnf)<;>first|(show cO ..;(refine iW _ (rH hq) FW ?_))|(show di ..;(first|refine bg d rfl hdn (Nat.le_of_eq (hdl.trans hM.len).symm) ?_|refine bg d rfl hdn (Nat.le_of_eq (by rw[List.length_set];exact(hdl.trans hM.len).symm)) ?_))|(show mq ..;refine row_of _ _ hset rfl ?_)|(show bV ..;refine aH ⟨b,off,none⟩ sn hlb hsn aa ?_)|(show wrK ..;(refine Jm (g:=2) (d:=d) (s:=sn) (l:=l) (vs:=List.replicate n (.int .i64 0)) aU hgs hlb Oz (Pp b off sn) ?_))|refine aX ?_)
     all_goals(conv=>whnf)
     have eg:kC (M.set d (l,(List.replicate n 0).set sn wi))=((kC M).set d (l,List.replicate n (.int .i64 0))).set d (l,(List.replicate n (Value.int .i64 0)).set sn (.int .i64 wi)):=by rw[zT,List.set_set,adq]
     have er:gI (M.set d (l,(List.replicate n 0).set sn wi))=(gI M).set d [.slice l.base n l.cap]:=by rw[wZ];simp[H6,List.length_replicate]
     have hlenV:((l,(List.replicate n 0).set sn wi):iK).2.length=n:=by simp[List.length_replicate]
     refine⟨(i+1,M.set d (l,(List.replicate n 0).set sn wi)),[],⟨hM.set (.inr ⟨⟨b,off,hlb⟩,hlenV,hlc⟩),N9 hMf (L6 (λy hy=>by rw[(List.mem_replicate.1 hy).2];exact⟨by decide,by decide⟩) hwf),by rw[hstep];rw[<-afh hq rfl hw0 hdd,ags],Gm⟩,by show fv.xs.length-(i+1)<fv.xs.length-i;omega,rfl,bM,?_,λ_ _ h=>h⟩
     show kU [] _ [(0,.box [.c fv.val] 32),(1,.rows (gI (M.set d (l,(List.replicate n 0).set sn wi))) 1 32),(2,.ext (mK 3 (kC (M.set d (l,(List.replicate n 0).set sn wi)))))]
     rw[eg,er]
     exact bM
    ·obtain⟨ql,qv⟩:=q
     simp only at e1 e2 e3
     repeat' ((conv=>whnf)<;>first|(show bV ..;(first|refine aH fa i hfa rfl Gm ?_|refine aH ra o hra rfl Fq ?_|refine aH wa i hwa rfl aa ?_|refine aH ⟨b,off,none⟩ sn e1 hsn (show sn<qv.length by omega) ?_))|refine aeK ?_|(show CQ ..;refine ae9 hd0 aa hdd ?_)|(show di ..;refine bg d rfl hdn (Nat.le_of_eq (hdl.trans hM.len).symm) ?_)|(show mq ..;refine row_of _ _ (rH hq) rfl ?_)|(show lY ..;refine akv (ti 32 rfl) rfl e1 ?_)|(show wrK ..;(refine Jm (g:=2) (d:=d) (s:=sn) (l:=ql) (vs:=qv.map (Value.int .i64)) aU (Ae hq) e1 aaw (Pp b off sn) ?_))|refine aX ?_|refine ag ?_ ?_<;>intro _)
     all_goals(conv=>whnf)
     have eg:kC (M.set d (ql,qv.set sn wi))=(kC M).set d (ql,(qv.map (Value.int .i64)).set sn (.int .i64 wi)):=by rw[zT,List.map_set]
     have er:gI (M.set d (ql,qv.set sn wi))=(gI M).set d [.slice ql.base n ql.cap]:=by rw[wZ];simp[H6,e2]
     have hlenV:((ql,qv.set sn wi):iK).2.length=n:=by simp[e2]
     refine⟨(i+1,M.set d (ql,qv.set sn wi)),[],⟨hM.set (.inr ⟨⟨b,off,e1⟩,hlenV,e3⟩),N9 hMf (L6 (hMf _ hqm) hwf),by rw[hstep];rw[<-aeq hq (λh0=>by have:=congrArg List.length h0;simp only[List.length_nil]at this;omega) hw0 hdd,ags],Gm⟩,by show fv.xs.length-(i+1)<fv.xs.length-i;omega,rfl,bM,?_,λ_ _ h=>h⟩
     show kU [] _ [(0,.box [.c fv.val] 32),(1,.rows (gI (M.set d (ql,qv.set sn wi))) 1 32),(2,.ext (mK 3 (kC (M.set d (ql,qv.set sn wi)))))]
     rw[eg,er,show(gI M).set d [.slice ql.base n ql.cap]=gI M from ?_]
     exact bM
     rw[<-e2,show [Value.slice ql.base qv.length ql.cap]=H6 (ql,qv)from rfl,<-wZ,List.Vq hq]
  ·repeat' ((conv=>whnf)<;>first|refine aX ?_|refine ag ?_ ?_<;>intro _)
   all_goals(conv=>whnf)
   obtain rfl:i=fv.xs.length:=by omega
   exact⟨(o+1,M),[],⟨hM,hMf,by rw[hMs,Ux,hrow,hsv],hlt⟩,by show tv.xs.length-(o+1)<tv.xs.length-o;omega,rfl,bM,bM,λ_ _ h=>h⟩
 ·repeat' ((conv=>whnf)<;>first|refine aX ?_|refine ag ?_ ?_<;>intro _)
  all_goals(conv=>whnf)
  obtain rfl:o=tv.xs.length:=by omega
  have:=adC (w:=w) (B:=⟨w,[]⟩) (H:=[(0,.box [.c fv.val] 32),(1,.rows (gI L) 1 32),(2,.ext (mK 3 (kC L)))]) (S:=aO w) (nx:=3) (i:=1) (g:=2) (n:=n) (m:=n) (λ_ _ h=>h) rfl hL hLf aa rfl aU aU
  rw[hLs]at this
  exact this
end
section
variable {w:World}
theorem Jw{base:Option Addr}{cap:Nat}{xs:List (List Value)}(l m:Nat)(hc:xs.length<=cap)(h:bu w base 1 xs):bu w (if cap=l then base else base.map (·.add (l*1))) 1 ((xs.drop l).take m):=by
 by_cases hl:cap<=l
 ·rw[List.drop_eq_nil_of_le aa,List.take_nil]
  exact .inl rfl
 rw[if_neg aa]
 rcases h with h|⟨a,rfl,h⟩
 ·subst h;rw[List.drop_nil,List.take_nil];exact .inl rfl
 ·refine .inr ⟨_,rfl,λk r hk j v hj=> ?_⟩
  rw[List.getElem?_take]at hk
  split at hk
  ·rw[List.getElem?_drop]at hk
   have:=h (l+k) r hk j v hj
   rw[Addr.add_add]
   rw[show l*1+(k*1+j)=(l+k)*1+j by omega]
   exact this
  ·cases hk
def cutV(u:au)(l h:Nat):au:=⟨if u.cap=l then u.base else u.base.map (·.add (l*1)),u.cap-l,(u.xs.drop l).take (h-l)⟩
variable {u:au} {l h:Nat}
theorem zA(h2:h<=u.xs.length):(cutV u l h).xs.length=h-l:=by
 show((u.xs.drop l).take (h-l)).length=_
 rw[List.length_take,List.length_drop];omega
variable {lo hi:Option Int} {K:SV->Prop}
theorem ng(hlo:match lo with|some z=>z=l|none=>l=0)(hhi:match hi with|some z=>z=h|none=>h=u.xs.length)(h1:l<=h)(h2:h<=u.xs.length)(h3:u.xs.length<=u.cap)(hk:K (.c (cutV u l h).val)):l7 u.base u.xs.length u.cap 1 lo hi none K:=by
 rw[oN]
 refine⟨l,h,u.cap,hlo,hhi,rfl,h1,by omega,Nat.le_refl _,λh=>kP,?_⟩
 have e:(cutV u l h).val= .slice (if u.cap=l then u.base else u.base.map (·.add (l*1))) (h-l) (u.cap-l):=by
  show Value.slice _ _ _=_
  rw[zA h2];rfl
 rw[<-e];exact hk
theorem pK(hr:bu w u.base 1 (aN u.xs))(h3:u.xs.length<=u.cap):bu w (cutV u l h).base 1 (aN (cutV u l h).xs):=by
 have:=Jw l (h-l) (by rw[aJ];exact h3) hr
 rwa[show((aN u.xs).drop l).take (h-l)=aN ((u.xs.drop l).take (h-l)) by simp[aN,List.map_drop,List.map_take]]at this
theorem pJ(hu:u.bq):(cutV u l h).bq:=by
 refine⟨λx hx=>hu.fits x (List.mem_of_mem_drop (List.mem_of_mem_take hx)),?_,?_⟩
 ·have:=hu.room
  show((u.xs.drop l).take (h-l)).length<=u.cap-l
  rw[List.length_take,List.length_drop];omega
 ·have:=hu.few
  show((u.xs.drop l).take (h-l)).length<=_
  rw[List.length_take,List.length_drop];omega
def H7(d:a_)(l h:Nat):a_:=⟨if d.cap=l then d.base else d.base.map (·.add (l*1)),d.cap-l,(d.l.drop l).take (h-l)⟩
theorem Gg{u:a_}(h2:h<=u.l.length):(H7 u l h).l.length=h-l:=by
 show((u.l.drop l).take (h-l)).length=_
 rw[List.length_take,List.length_drop];omega
theorem We{u:a_}(hlo:match lo with|some z=>z=l|none=>l=0)(hhi:match hi with|some z=>z=h|none=>h=u.l.length)(h1:l<=h)(h2:h<=u.l.length)(h3:u.l.length<=u.cap)(hk:K (.c (H7 u l h).val)):l7 u.base u.l.length u.cap 1 lo hi none K:=by
 rw[oN]
 refine⟨l,h,u.cap,hlo,hhi,rfl,h1,by omega,Nat.le_refl _,λh=>kP,?_⟩
 have e:(H7 u l h).val= .slice (if u.cap=l then u.base else u.base.map (·.add (l*1))) (h-l) (u.cap-l):=by
  show Value.slice _ _ _=_
  rw[Gg h2];rfl
 rw[<-e];exact hk
theorem aa1{u:a_}(hr:bu w u.base 1 (aS u.l))(h3:u.l.length<=u.cap):bu w (H7 u l h).base 1 (aS (H7 u l h).l):=by
 have:=Jw l (h-l) (by rw[aW];exact h3) hr
 rwa[show((aS u.l).drop l).take (h-l)=aS ((u.l.drop l).take (h-l)) by simp[aS,List.map_drop,List.map_take]]at this
variable {cx:Cx} {H:Heap} {S:bN} {nx:Nat}
theorem adY{f:FuncId}{args:List SV}{K:SV->Heap->bN->Nat->Prop}(hk:aI cx f args H S nx (λv H S nx=>jT v H S nx K)):aI cx f args H S nx K:=by
 rw[gN]at hk|-
 refine⟨hk.1,λρ w hw=>(hk.2 ρ w hw).mono ?_⟩
 rintro e w' ⟨v,ρ',H',S',nx',h1,h2,h3,h4,h5,h6⟩
 obtain⟨v2,H2,S2,g1,g2,g3,g4⟩:=Fj h6 h5 h4
 exact⟨v2,ρ',H2,S2,nx',by rw[g1];exact h1,h2,h3,g2,g3,g4⟩
theorem R8(w:World)(base:Option Addr)(cap:Nat)(u v:au)(hr:bu w base 1 [[u.val],[v.val]])(hu:u.ok w)(hv:v.ok w)(h0:0<u.xs.length+v.xs.length):
 Calls Tryz.prog 129 #[.slice base 2 cap] w λe w'=>∃x,e= .returned x/\Ext w w'/\kv w w' x 1 3 (aN (u.xs++v.xs)):=by
 obtain⟨a,rfl⟩:=aP (j:=0) hr (by show 0<2;decide)
 exact Xl w a cap u v hr hu hv h0
theorem wu(hP:cx.P=Tryz.prog){j:Nat}{T:TypeId}{K:SV->Heap->bN->Nat->Prop}(u v:au)(G:Nat->Prop)(hG:∀R w,S.holds R w->∀b,G b->R b)(hu:∀R w,S.holds R w->bu w u.base 1 (aN u.xs))(hv:∀R w,S.holds R w->bu w v.base 1 (aN v.xs))(fI:u.bq)(hvs:v.bq)(h0:0<u.xs.length+v.xs.length)(hl:u.xs.length+v.xs.length<=1000000)
 (h:∀m:au,m.xs=u.xs++v.xs->m.bq->K (.c m.val) H (S.and ((bE m).off G)) (nx+1)):aI cx 129 [.os j 2] ((j,.rows [[u.val],[v.val]] 1 T)::H) S nx K:=by
 obtain⟨P,B,n,tab⟩:=cx
 subst hP
 refine adY ?_
 refine TN (K':=λx H' S' nx'=>x= .os nx (aN (u.xs++v.xs)).length/\H'=(nx,.rows (aN (u.xs++v.xs)) 1 3)::(j,.rows [[u.val],[v.val]] 1 T)::H/\S'=S/\nx'=nx+1) (w_ (f:=129) Tryz.call129 1 3 (λ_:Unit=>aN (u.xs++v.xs)) (λ_=>True) (λρ w' hw=> ?_) (λ_ _=>⟨rfl,rfl,rfl,rfl⟩)) ?_
 ·have hr:=eT hw (i:=j) (xs:=[[u.val],[v.val]]) (k:=1) (T:=T) List.mem_cons_self
  exact(R8 w' _ _ u v hr ⟨ae hw λR h=>hu R _ h,fI.fits,fI.room,fI.few⟩ ⟨ae hw λR h=>hv R _ h,hvs.fits,hvs.room,hvs.few⟩ h0).mono (λe w2 h=>⟨(),trivial,h⟩)
 ·rintro x H' S' nx' ⟨rfl,rfl,rfl,rfl⟩
  refine⟨_,List.Sublist.cons_cons _ (List.sublist_cons_self _ _),?_⟩
  rw[aJ]
  exact vD (u.xs++v.xs) G hG rfl rfl (λx hx=>(List.mem_append.1 hx).elim (fI.fits x) (hvs.fits x)) (by rw[List.length_append];exact hl) (λm hm hms=>h m hm hms)
def o6(t:Int->Option Int):Int->Option Value:=λz=>(t z).map (Value.int .i64)
theorem Wz(x:Int):yn (λ_=>none) 0 (.int .i64 x)=o6 (mU x):=by
 funext z
 unfold yn o6 mU
 split<;>rfl
theorem aec(t:Int->Option Int)(k v:Int):yn (o6 t) k (.int .i64 v)=o6 (λz=>if z=k then some v else t z):=by
 funext z
 unfold yn o6
 by_cases h:z=k
 ·simp[h]
 ·simp[h]
end
section
abbrev Yg:DT:=(eY [0,1,2,3,5,6,7,8,4,9,110,111,12] .done)
abbrev ww:DT:=(eY [0,1,2,3,4,5,6,7,8,109,110] .done)
theorem ad5:(Tryz.prog.info? 3).map (λi=>i.zero)=some (some (.int .i64 0)):=by kernel_rfl
variable {H:Heap} {S:bN} {i r:Nat} {t:Int->Option Int} {k:Int} {K:SV->Prop} {B:Base} {tb:List (Nat×TI)}
theorem RF{n:Nat}(hi:(i,bZ.ext (lH r (o6 t)))∈H){v:Option Int}(hv:t k=v)(h:K (.c (.tuple #[.int .i64 (v.getD 0),.bool v.isSome]))):BP ⟨Tryz.prog,B,n,tb⟩ 161 (.c (.map (some r))) (ax k) true H S K:=by
 have hz:=ad5
 cases ht:Tryz.prog.info? 3 with
 |none=>rw[ht]at hz;cases hz
 |some ti=>
  rw[ht]at hz
  refine Yx (z:= .int .i64 0) Tryz.underlying161 Tryz.underlying3 ht (by simpa using hz) hi ?_
  have e:(o6 t k).getD (.int .i64 0)= .int .i64 (v.getD 0)/\(o6 t k).isSome=v.isSome:=by
   unfold o6
   rw[hv]
   cases v<;>exact⟨rfl,rfl⟩
  rw[if_pos rfl,e.1,e.2]
  exact h
variable {x:Int}
theorem aeg{K:Heap->Prop}{n:Nat}(hi:(i,bZ.ext (lH r (λ_=>none)))∈H)(h:Cf i (.ext (lH r (o6 (mU x)))) K H):qf ⟨Tryz.prog,B,n,tb⟩ 161 (.c (.map (some r))) (ax 0) (ax x) H S K:=
 EH Tryz.underlying161 Tryz.underlying3 hi (by rw[Wz];exact h)
theorem aih{v:Int}{K:Heap->Prop}{n:Nat}(hi:(i,bZ.ext (lH r (o6 t)))∈H)(h:Cf i (.ext (lH r (o6 (λz=>if z=k then some v else t z)))) K H):qf ⟨Tryz.prog,B,n,tb⟩ 161 (.c (.map (some r))) (ax k) (ax v) H S K:=
 EH Tryz.underlying161 Tryz.underlying3 hi (by rw[aec];exact h)
theorem aho{y z:Int}{K':Bool->Prop}{Kt:SV->Prop}(hz:z=min x y)(e1:K' true=mmK false .i64 Kt y [])(e2:K' false=mmK false .i64 Kt x [])(h:Kt (ax z)):eZ (y<x) K':=by
 refine ag (λhy=> ?_) (λhy=> ?_)
 ·rw[e1];show Kt _;rw[<-show z=y by omega];exact h
 ·rw[e2];show Kt _;rw[<-show z=x by omega];exact h
theorem qw{P:Program}{t:TypeId}{ti:TI}(h:lV P t=some ti)(hk:ti.ak=1){ox oy:Operand}{base:Option Addr}{len cap:Nat}{b:Bool}(hb:base.isNone=b)(hK:K (.c (.bool b))):
 lY P (do eqGuard .eql t ox oy (.slice base len cap) (.slice none 0 0);binOp .eql t (.slice base len cap) (.slice none 0 0)) K:=by
 subst hb
 exact jR h hk hK
structure yN where
 s:dw
 t:Int->Option Int
 m:Option Int
def yN.pl(y:yN):oH:=⟨y.s.pl,y.t,y.m⟩
def jL(m:Option Int):List SV:=[.lp 0 0 0 0,ax (m.getD 0),.c (.bool m.isSome)]
def tK(s:dw)(t:Int->Option Int)(x:Int)(i:Nat):dw×(Int->Option Int)×Int:=match t i with
 |some a=>(s,t,a)
 |none=>(dn s 8 x 0 i,λz=>if z=i then some (s.code.length:Int)else t z,s.code.length)
def Aj(s:dw)(t:Int->Option Int)(m:Option Int)(v:Int):yN:=match m with
 |none=>⟨s,t,some v⟩
 |some a=>⟨dn s 3 a v 0,t,some s.code.length⟩
def zD(x:Int)(y:yN)(i:Nat)(m:au):yN:=
 Aj (dn (aC (tK y.s y.t x i).1 m).1 5 (tK y.s y.t x i).2.2 0 (aC (tK y.s y.t x i).1 m).2) (tK y.s y.t x i).2.1 y.m (aC (tK y.s y.t x i).1 m).1.code.length
def uY(base:Nat)(mo:Option Int)(z:yN):yN:=match z.m with
 |none=>⟨z.s,z.t,mo⟩
 |some a=>if 0<base then Aj (dn z.s 8 a 0 base) z.t mo z.s.code.length else Aj z.s z.t mo a
theorem RB(s:dw)(t:Int->Option Int)(m:Option Int)(v:Int):(Aj s t m v).pl=⟨(lI s.pl m v).1,t,some (lI s.pl m v).2⟩:=by
 cases m<;>rfl
variable {base:Nat}
theorem xM{n:Nat}{y:yN}{m:au}{dd:List Int}(hm:m.xs=jH n base dd)(hd:dd≠[]):(zD x y i m).pl=rG n base x y.pl i dd:=by
 have ep:∀s:dw,gm s.pl (jH n base dd)=((aC s m).1.pl,(aC s m).2):=λs=>by rw[<-hm,<-AR]
 unfold zD rG
 rw[if_neg hd,RB]
 have et:p9 y.pl.s y.pl.t x i=((tK y.s y.t x i).1.pl,(tK y.s y.t x i).2):=by
  unfold p9 tK
  show(match y.t i with|some a=>_|none=>_)=_
  cases y.t i<;>rfl
 simp only[et,ep,nQ]
 rfl
variable {y:oH}
theorem O1{n:Nat}{z:yN}{ds:List (List Int)}(hz:m_ n base x ds 0 ⟨y.s,y.t,none⟩=z.pl):(uY base y.m z).pl=sU n base x y ds:=by
 unfold uY sU
 simp only[hz]
 show _=(match z.m with|none=>_|some a=>_)
 cases z.m with
 |none=>rfl
 |some a=>
  show(if 0<base then _ else _:yN).pl=_
  by_cases hb:0<base
  ·simp only[if_pos hb,RB];rfl
  ·simp only[if_neg hb,RB];rfl
theorem lJ.mono{c:dN}{k k':Nat}{s:dw}(h:lJ c k s)(hk:k<=k'):lJ c k' s:=⟨h.ok,Nat.le_trans h.qW hk,Nat.le_trans h.lW hk⟩
variable {g f:Nat}
theorem Lm{n:Nat}{all:List (List Int)}(h:¬base<n):kI n g x all f base y=y:=by
 cases f with
 |zero=>rfl
 |succ f=>rw[kI,if_neg h]
theorem Sn{n:Nat}(h:g*g<n)(hf:n<=g+f)(h1:1<=g):∃f',f=f'+1/\stepG f n g=stepG f' n (2*g):=by
 have hg:g<=g*g:=Nat.le_mul_of_pos_right g h1
 obtain⟨f',rfl⟩:∃f',f=f'+1:=⟨f-1,by omega⟩
 exact⟨f',rfl,by rw[stepG,if_pos h]⟩
theorem stepG_end{n:Nat}(h:¬g*g<n):stepG f n g=g:=by
 cases f with
 |zero=>rfl
 |succ f=>rw[stepG,if_neg h]
theorem VS{n:Nat}(h:g*g<n)(hn:n<=4096):g<64:=by
 rcases Nat.lt_or_ge g 64 with h1|h1
 ·exact h1
 ·have:64*64<=g*g:=Nat.mul_le_mul h1 h1
  omega
theorem uU{cx:Cx}{cc:Operand}{a b:Code}{bb:Bool}{env:Env}{nx:Nat}{K:Exit->Env->Heap->bN->Nat->Prop}(hev:∀k:SV->Prop,wP cx.n env cc k=k (.c (.bool bb)))(h1:bb=true->vcC cx a env H S nx K)(h2:bb=false->vcC cx b env H S nx K):vcC cx (.cond cc a b) env H S nx K:=by
 show wP cx.n env cc _
 rw[hev]
 cases bb
 ·exact h2 rfl
 ·exact h1 rfl
abbrev X0(w:World)(F:Nat->Prop)(s0:dw)(d:a_)(s:dw):bN:=(((dW s.aF).and ((DV s0.aF s.aF).off (dZ w F))).and (nM d)).and (gu w F)
abbrev amP(c:dN)(vl:List Int)(r:Nat)(y:yN):Heap:=(6,.box (jL y.m) 129)::(5,.ext (lH r (o6 y.t)))::wV c y.s vl 0 1 7 8 9
abbrev amu(c:dN)(vl:List Int)(r:Nat)(m:Option Int)(y:yN):Heap:=(10,.box (jL y.m) 129)::(6,.box (jL m) 129)::(5,.ext (lH r (o6 y.t)))::wV c y.s vl 0 1 11 12 13
theorem aff(c:dN)(s:dw)(vl:List Int)(x:Int)(d:a_)(hN:lU c s vl)(hdl:d.l.length=c.aj)(hdn:YS c.aj d)(hds:∀u∈d.l,u.bq)(hdc:d.l.length<=d.cap)(w:World)(ρ:Nat->SX.Loc)(F:Nat->Prop)(h:iY w ρ F 2 5 (kQ c s vl) ((dW s.aF).and (nM d))):
 Calls Tryz.prog 65 (SV.eO ρ [.lp 0 0 0 0,ax x,.c d.val]).toArray w (oD w ρ F c s vl (jm c.aj c.giant s.pl x (d.l.map au.xs))):=by
 have hn1:=hN.aj.1
 have hn2:=hN.aj.2
 refine Ez Tryz.func65 (mI 2 ρ) ρ [.lp 0 0 0 0,ax x,.c d.val] (kQ c s vl) (((dW s.aF).and (nM d)).and (gu w F)) 5 h.abs ?_
 (repeat' ((conv=>whnf)<;>first|refine Wp.go bQ rfl ?_))
 refine uU (λ_=>rfl) (λhg=> ?_) (λhg=> ?_)
 focus
  (repeat' ((conv=>whnf)<;>first|refine Wp.go bQ rfl ?_))
  refine Wp.loop (σ:=Nat×Nat) 5 (λq=>[(0,.lp 0 0 0 0),(1,ax x),(2,.c d.val),(7,ax c.aj),(8,ax q.2)]) (λ_=>kQ c s vl) (λ_=>((dW s.aF).and (nM d)).and (gu w F)) (λq=>stepG q.1 c.aj q.2=stepG c.aj c.aj 1/\c.aj<=q.2+q.1/\1<=q.2/\q.2<=128) (λq=>q.1) (c.aj,1) [] aY (λq=>⟨rfl,rfl⟩) ⟨rfl,by omega,Nat.le_refl _,(by decide:1<=128)⟩ ⟨rfl,⟨rfl,rfl,rfl,rfl,rfl,trivial⟩,bM,λR w' h=>h⟩ ?_
  rintro⟨f,g⟩ ⟨hgs,hgf,hg1,hg2⟩
  simp only at hgs hgf hg1 hg2
  have hgg:g*g<=128*128:=Nat.mul_le_mul hg2 hg2
  have hgc:((g*g:Nat):Int)=(g:Int)*g:=by push_cast;rfl
  by_cases hlt:g*g<c.aj
  focus
   obtain⟨f',rfl,e⟩:=Sn hlt hgf hg1
   have:=VS hlt hn2
   (repeat' ((conv=>whnf)<;>first|(show @eZ _ _ _;(refine cu EU ?_))|(show iL ..;(first|refine wrap_i64 EU EU ?_))|refine Wp.go bQ rfl ?_|refine lG ?_))
   all_goals(conv=>whnf)
   exact⟨(f',g*2),[],⟨by rw[<-hgs,e,Nat.mul_comm],by show c.aj<=g*2+f';omega,by show 1<=g*2;omega,by show g*2<=128;omega⟩,Nat.lt_succ_self f',rfl,bM,bM,λR w' h=>h⟩
  rw[stepG_end hlt]at hgs
  have hgv:oK c.giant c.aj=g:=by rw[hg];exact hgs.symm
  have hg4:g<=4096:=by omega
  (repeat' ((conv=>whnf)<;>first|(show @eZ _ _ _;(refine dA EU ?_))|(show iL ..;(refine wrap_i64 EU EU ?_))|(show yT ..;refine Pb (λr=> ?_))|(show qf ..;(refine aeg aU ?_))|refine Wp.go bQ rfl ?_))
  clear hgs hgf hgg hgc hg2 hlt hg
 rotate_left
 focus
  let g:Nat:=c.aj
  have hgv:oK c.giant c.aj=g:=by rw[hg];show c.aj=g;rfl
  have hg1:1<=g:=hn1
  have hg4:g<=4096:=hn2
  (repeat' ((conv=>whnf)<;>first|(show yT ..;refine Pb (λr=> ?_))|(show qf ..;(refine aeg aU ?_))|refine Wp.go bQ rfl ?_))
  clear hg
 all_goals
  obtain⟨Y,hY0⟩:∃Y,kI c.aj g x (d.l.map au.xs) c.aj 0 ⟨s.pl,mU x,none⟩=Y:=⟨_,rfl⟩
  refine Wp.loop (σ:=Nat×Nat×yN) 10 (λq=>[(0,.lp 0 0 0 0),(1,ax x),(2,.c d.val),(7,ax c.aj),(8,ax g),(9,.c (.map (some r))),(10,.lp 6 0 0 0),(11,ax q.1)]) (λq=>amP c vl r q.2.2) (λq=>X0 w F s d q.2.2.s) (λq=>kI c.aj g x (d.l.map au.xs) q.2.1 q.1 q.2.2.pl=Y/\c.aj<=q.1+q.2.1/\q.1<=8192/\lJ c (500000+6*q.1) q.2.2.s) (λq=>c.aj-q.1) (0,c.aj,⟨s,mU x,none⟩) [(7,some 2),(8,some 3),(9,some 4)] aY (λq=>⟨rfl,rfl⟩) ⟨hY0,by show c.aj<=0+c.aj;omega,Nat.zero_le _,hN.ok,hN.qW,hN.lW⟩ ⟨rfl,⟨rfl,rfl,rfl,rfl,rfl,rfl,rfl,rfl,trivial⟩,bM,λR w' h=>⟨⟨⟨h.1.1,lQ _ _ _⟩,h.1.2⟩,h.2⟩⟩ ?_
  rintro⟨base,f,ys,yt,ym⟩ ⟨hY,hf,hb8,z0⟩
  simp only at hY hf hb8 z0
  by_cases hlt:base<c.aj
  focus
   obtain⟨f',rfl⟩:∃f',f=f'+1:=⟨f-1,by omega⟩
   rw[kI,if_pos hlt]at hY
   obtain⟨hi,hhi⟩:∃hi,hi=min c.aj (base+g):=⟨_,rfl⟩
   rw[<-hhi]at hY
   have hhi1:base<hi:=by omega
   have hhi2:hi<=c.aj:=by omega
   (repeat' ((conv=>whnf)<;>first|(show @eZ _ _ _;(first|refine aho (z:=(hi:Int)) aa rfl rfl ?_|refine cu aa ?_))|(show l7 ..;refine We (u:=d) (l:=base) (h:=hi) rfl rfl aa aa hdc ?_)|refine Wp.go bQ rfl ?_|refine lG ?_))
   have aof:(H7 d base hi).l.length=hi-base:=Gg aa
   have ah_:∀u∈(H7 d base hi).l,u∈d.l:=λu hu=>List.mem_of_mem_drop (List.mem_of_mem_take hu)
   obtain⟨Z,UX⟩:∃Z,m_ c.aj base x (((H7 d base hi).l.drop 0).map au.xs) 0 ⟨ys.pl,yt,none⟩=Z:=⟨_,rfl⟩
   have RG:m_ c.aj base x (List.take (hi-base) (List.drop base (d.l.map au.xs))) 0 ⟨ys.pl,yt,none⟩=Z:=by rw[<-UX];simp[H7,List.map_drop,List.map_take]
   have hcr:∀R w',(nM d).holds R w'->bu w' (H7 d base hi).base 1 (aS (H7 d base hi).l):=λR w' h=>aa1 (aV h.1) hdc
   generalize hds':H7 d base hi=ds at*
   refine Wp.loop (σ:=Nat×yN) 14 (λq=>[(0,.lp 0 0 0 0),(1,ax x),(2,.c d.val),(7,ax c.aj),(8,ax g),(9,.c (.map (some r))),(10,.lp 6 0 0 0),(11,ax base),(12,.lp 10 0 0 0),(57,.c ds.val),(58,ax ds.l.length),(59,ax q.1)]) (λq=>amu c vl r ym q.2) (λq=>X0 w F s d q.2.s) (λq=>q.1<=ds.l.length/\m_ c.aj base x ((ds.l.drop q.1).map au.xs) q.1 q.2.pl=Z/\lJ c (500000+6*base+4*q.1) q.2.s) (λq=>ds.l.length-q.1) (0,⟨ys,yt,none⟩) [(11,some 7),(12,some 8),(13,some 9)] aY (λq=>⟨rfl,rfl⟩) ⟨Nat.zero_le _,UX,z0⟩ ⟨rfl,⟨rfl,rfl,rfl,rfl,rfl,rfl,rfl,rfl,rfl,rfl,rfl,rfl,trivial⟩,bM,λR w' h=>h⟩ ?_
   clear UX z0
   rintro⟨k,qs,qt,qm⟩ ⟨hkl,hZ,z0⟩
   simp only at hkl hZ z0
   by_cases hlt2:k<ds.l.length
   focus
    rw[List.drop_eq_getElem_cons hlt2,List.map_cons,m_]at hZ
    have hrow:=dF hlt2
    have vY:=ah_ _ (List.getElem_mem hlt2)
    generalize ds.l[k]=u at*
    have fI:=hds u vY
    refine Wp.know (p:=∃a,ds.base=some a) (λρ w' hw=>ae hw λR h=>aP (j:=k) (hcr _ _ h.1.2) (by rw[aW];exact hlt2)) ?_
    rintro⟨da,hda⟩
    rcases hdn u vY with⟨hx0,hb0⟩|hxl
    focus
     rw[rG,if_pos hx0]at hZ
     (repeat' ((conv=>whnf)<;>first|(show bV ..;refine aH da k hda rfl hlt2 ?_)|(show fT ..;(refine bA (λR w' h=>by rw[<-hda];exact hcr _ _ h.1.2) _ _ hrow rfl ?_))|(show lY ..;(refine qw (ti 32 rfl) rfl (b:=true) (by rw[hb0];rfl) ?_))|refine Wp.go bQ rfl ?_|refine zW ?_|refine CB ?_|refine lG ?_|refine ag ?_ ?_<;>intro _))
     all_goals(conv=>whnf)
     all_goals exact⟨(k+1,⟨qs,qt,qm⟩),[],⟨hlt2,hZ,z0.mono Yo⟩,by show ds.l.length-(k+1)<ds.l.length-k;omega,rfl,bM,bM,λR w' h=>h⟩
    have ab4:u.xs≠[]:=λh=>by rw[h]at hxl;simp at hxl;omega
    refine Wp.know (p:=∃a,u.base=some a) (λρ w' hw=>ae hw λR h=>aP (j:=0) (aV (h.1.2.2 u vY)) vK) ?_
    rintro⟨ua,jD⟩
    have hu1:(cutV u (c.aj-base) c.aj).xs=u.xs.drop (c.aj-base):=by show(u.xs.drop (c.aj-base)).take (c.aj-(c.aj-base))=_;rw[List.take_of_length_le ady]
    have hu2:(cutV u 0 (c.aj-base)).xs=u.xs.take (c.aj-base):=by show(u.xs.drop 0).take (c.aj-base-0)=_;rw[List.drop_zero,Nat.sub_zero]
    rcases ht:qt k with _|t
    focus
     rcases qm with _|a
     focus
      (repeat' ((conv=>whnf)<;>first|(show bV ..;refine aH da k hda rfl hlt2 ?_)|(show fT ..;(refine bA (λR w' h=>by rw[<-hda];exact hcr _ _ h.1.2) _ _ hrow rfl ?_))|(show lY ..;(refine qw (ti 32 rfl) rfl (b:=false) Z8 ?_))|(show BP ..;(refine RF aU ht ?_))|refine Wp.go bQ rfl ?_|refine zW ?_|refine CB ?_|refine ag ?_ ?_<;>intro _))
      refine dV [(10,.box (jL none) 129),(6,.box (jL ym) 129),(5,.ext (lH r (o6 qt)))] 0 1 11 12 13 c (qs) vl ed [.lp 0 0 0 0,ax (8),ax (x),ax (0),ax (k)] _ _ _ _ Tryz.call68 rfl rfl rfl (λR w' h=>trivial) (dZ w F) (λR w' h b hb=>((h).2 b hb).1) (λw' ρ' F' h'=>gV c (qs) vl (8) (x) (0) (k) Fu w' ρ' F' h') (λ_ _=> ?_)
      have z1:=z0.lay (8) (x) (0) (k)
      (repeat' ((conv=>whnf)<;>first|(show qf ..;(refine aih aU ?_))|(show b_ _ 21 ..;refine lu [] _ Yg ?_)|(show l7 ..;(first|refine ng (u:=u) (l:=c.aj-base) (h:=c.aj) Nn hxl.symm aa aa fI.room ?_|refine ng (u:=u) (l:=0) (h:=c.aj-base) rfl Nn aa aa fI.room ?_))|(show aI _ 129 ..;(refine wu rfl (cutV u (c.aj-base) c.aj) (cutV u 0 (c.aj-base)) (dZ w F) (λR w' h b hb=>((h.1).2 b hb).1) (λR w' h=>pK (aV ((h.1).1.2.2 u vY)) fI.room) (λR w' h=>pK (aV ((h.1).1.2.2 u vY)) fI.room) (pJ fI) (pJ fI) Lj Lj (λm hm ms=> ?_)))|refine Wp.go bQ rfl ?_|refine lG ?_|refine Uq ?_|refine kT ?_))
      have hmv:m.xs=jH c.aj base u.xs:=by rw[hm,hu1,hu2];rfl
      refine dV [(10,.box (jL none) 129),(6,.box (jL ym) 129),(5,.ext (lH r (o6 (λz=>if z=(k:Int)then some ((qs).code.length:Int)else qt z))))] 0 1 16 17 18 c (dn (qs) (8) (x) (0) (k)) vl ((dW (dn (qs) (8) (x) (0) (k)).aF).and (bE m)) [.lp 0 0 0 0,.c m.val] _ _ _ _ Tryz.call130 rfl rfl rfl (λR w' h=>⟨(h.1.1).1.1.1,jO (h).2⟩) (dZ w F) (λR w' h b hb=>((h.1.1).2 b hb).1) (λw' ρ' F' h'=>uG c (dn (qs) (8) (x) (0) (k)) vl m ms z1.ok.aF (by have:=z1.qW;omega) w' ρ' F' h') (λ_ _=> ?_)
      have z2:=z1.plain ms
      (repeat' ((conv=>whnf)<;>first|refine Wp.go bQ rfl ?_))
      refine dV [(10,.box (jL none) 129),(6,.box (jL ym) 129),(5,.ext (lH r (o6 (λz=>if z=(k:Int)then some ((qs).code.length:Int)else qt z))))] 0 1 23 24 25 c ((aC (dn (qs) (8) (x) (0) (k)) m).1) vl ed [.lp 0 0 0 0,ax (5),ax (((qs).code.length:Int)),ax (0),ax ((aC (dn (qs) (8) (x) (0) (k)) m).2)] _ _ _ _ Tryz.call68 rfl rfl rfl (λR w' h=>trivial) (dZ w F) (λR w' h b hb=>((h.1.1.1).2 b hb).1) (λw' ρ' F' h'=>gV c ((aC (dn (qs) (8) (x) (0) (k)) m).1) vl (5) (((qs).code.length:Int)) (0) ((aC (dn (qs) (8) (x) (0) (k)) m).2) ade w' ρ' F' h') (λ_ _=> ?_)
      have z3:=z2.lay (5) (((qs).code.length:Int)) (0) ((aC (dn (qs) (8) (x) (0) (k)) m).2)
      (repeat' ((conv=>whnf)<;>first|(show aI _ 73 ..;(refine gy bQ Tryz.func73 rfl rfl rfl Tryz.call73 rfl BL ?_))|(show b_ _ 1 ..;refine lu [9,10] _ ww ?_)|(show sG ..;refine l6 ?_)|refine Wp.go bQ rfl ?_|refine lG ?_))
      all_goals(conv=>whnf)
      all_goals exact⟨(k+1,⟨dn ((aC (dn (qs) (8) (x) (0) (k)) m).1) (5) (((qs).code.length:Int)) (0) ((aC (dn (qs) (8) (x) (0) (k)) m).2),(λz=>if z=(k:Int)then some ((qs).code.length:Int)else qt z),some (((aC (dn (qs) (8) (x) (0) (k)) m).1).code.length:Int)⟩),[(11,some 28),(12,some 29),(13,some 30)],⟨hlt2,by rw[<-hZ,<-xM (y:=⟨qs,qt,none⟩) (x:=x) (i:=k) hmv ab4];simp only[zD,tK,ht,Aj],z3.mono Yo⟩,by show ds.l.length-(k+1)<ds.l.length-k;omega,rfl,bM,bM,λR w' h=>⟨⟨⟨(mP ((h.1.1.1.1).1.1.1) (jO (h.1.1).2)),(gW ((h.1.1.1.1).1.1.2) (h.1.1).2)⟩,(h.1.1.1.1).1.2⟩,(h.1.1.1.1).2⟩⟩
     focus
      (repeat' ((conv=>whnf)<;>first|(show bV ..;refine aH da k hda rfl hlt2 ?_)|(show fT ..;(refine bA (λR w' h=>by rw[<-hda];exact hcr _ _ h.1.2) _ _ hrow rfl ?_))|(show lY ..;(refine qw (ti 32 rfl) rfl (b:=false) Z8 ?_))|(show BP ..;(refine RF aU ht ?_))|refine Wp.go bQ rfl ?_|refine zW ?_|refine CB ?_|refine ag ?_ ?_<;>intro _))
      refine dV [(10,.box (jL (some a)) 129),(6,.box (jL ym) 129),(5,.ext (lH r (o6 qt)))] 0 1 11 12 13 c (qs) vl ed [.lp 0 0 0 0,ax (8),ax (x),ax (0),ax (k)] _ _ _ _ Tryz.call68 rfl rfl rfl (λR w' h=>trivial) (dZ w F) (λR w' h b hb=>((h).2 b hb).1) (λw' ρ' F' h'=>gV c (qs) vl (8) (x) (0) (k) Fu w' ρ' F' h') (λ_ _=> ?_)
      have z1:=z0.lay (8) (x) (0) (k)
      (repeat' ((conv=>whnf)<;>first|(show qf ..;(refine aih aU ?_))|(show b_ _ 21 ..;refine lu [] _ Yg ?_)|(show l7 ..;(first|refine ng (u:=u) (l:=c.aj-base) (h:=c.aj) Nn hxl.symm aa aa fI.room ?_|refine ng (u:=u) (l:=0) (h:=c.aj-base) rfl Nn aa aa fI.room ?_))|(show aI _ 129 ..;(refine wu rfl (cutV u (c.aj-base) c.aj) (cutV u 0 (c.aj-base)) (dZ w F) (λR w' h b hb=>((h.1).2 b hb).1) (λR w' h=>pK (aV ((h.1).1.2.2 u vY)) fI.room) (λR w' h=>pK (aV ((h.1).1.2.2 u vY)) fI.room) (pJ fI) (pJ fI) Lj Lj (λm hm ms=> ?_)))|refine Wp.go bQ rfl ?_|refine lG ?_|refine Uq ?_|refine kT ?_))
      have hmv:m.xs=jH c.aj base u.xs:=by rw[hm,hu1,hu2];rfl
      refine dV [(10,.box (jL (some a)) 129),(6,.box (jL ym) 129),(5,.ext (lH r (o6 (λz=>if z=(k:Int)then some ((qs).code.length:Int)else qt z))))] 0 1 16 17 18 c (dn (qs) (8) (x) (0) (k)) vl ((dW (dn (qs) (8) (x) (0) (k)).aF).and (bE m)) [.lp 0 0 0 0,.c m.val] _ _ _ _ Tryz.call130 rfl rfl rfl (λR w' h=>⟨(h.1.1).1.1.1,jO (h).2⟩) (dZ w F) (λR w' h b hb=>((h.1.1).2 b hb).1) (λw' ρ' F' h'=>uG c (dn (qs) (8) (x) (0) (k)) vl m ms z1.ok.aF (by have:=z1.qW;omega) w' ρ' F' h') (λ_ _=> ?_)
      have z2:=z1.plain ms
      (repeat' ((conv=>whnf)<;>first|refine Wp.go bQ rfl ?_))
      refine dV [(10,.box (jL (some a)) 129),(6,.box (jL ym) 129),(5,.ext (lH r (o6 (λz=>if z=(k:Int)then some ((qs).code.length:Int)else qt z))))] 0 1 23 24 25 c ((aC (dn (qs) (8) (x) (0) (k)) m).1) vl ed [.lp 0 0 0 0,ax (5),ax (((qs).code.length:Int)),ax (0),ax ((aC (dn (qs) (8) (x) (0) (k)) m).2)] _ _ _ _ Tryz.call68 rfl rfl rfl (λR w' h=>trivial) (dZ w F) (λR w' h b hb=>((h.1.1.1).2 b hb).1) (λw' ρ' F' h'=>gV c ((aC (dn (qs) (8) (x) (0) (k)) m).1) vl (5) (((qs).code.length:Int)) (0) ((aC (dn (qs) (8) (x) (0) (k)) m).2) ade w' ρ' F' h') (λ_ _=> ?_)
      have z3:=z2.lay (5) (((qs).code.length:Int)) (0) ((aC (dn (qs) (8) (x) (0) (k)) m).2)
      (repeat' ((conv=>whnf)<;>first|(show aI _ 73 ..;(refine gy bQ Tryz.func73 rfl rfl rfl Tryz.call73 rfl BL ?_))|(show b_ _ 1 ..;refine lu [9,10] _ ww ?_)|(show sG ..;refine l6 ?_)|refine Wp.go bQ rfl ?_|refine lG ?_))
      refine dV [(10,.box (jL (some a)) 129),(6,.box (jL ym) 129),(5,.ext (lH r (o6 (λz=>if z=(k:Int)then some ((qs).code.length:Int)else qt z))))] 0 1 28 29 30 c (dn ((aC (dn (qs) (8) (x) (0) (k)) m).1) (5) (((qs).code.length:Int)) (0) ((aC (dn (qs) (8) (x) (0) (k)) m).2)) vl ed [.lp 0 0 0 0,ax (3),ax (a),ax ((((aC (dn (qs) (8) (x) (0) (k)) m).1).code.length:Int)),ax (0)] _ _ _ _ Tryz.call68 rfl rfl rfl (λR w' h=>trivial) (dZ w F) (λR w' h b hb=>((h.1.1.1.1).2 b hb).1) (λw' ρ' F' h'=>gV c (dn ((aC (dn (qs) (8) (x) (0) (k)) m).1) (5) (((qs).code.length:Int)) (0) ((aC (dn (qs) (8) (x) (0) (k)) m).2)) vl (3) (a) ((((aC (dn (qs) (8) (x) (0) (k)) m).1).code.length:Int)) (0) (by have:=z3.lW;omega) w' ρ' F' h') (λ_ _=> ?_)
      have z4:=z3.lay (3) (a) ((((aC (dn (qs) (8) (x) (0) (k)) m).1).code.length:Int)) (0)
      (repeat' ((conv=>whnf)<;>first|(show aI _ 73 ..;(refine gy bQ Tryz.func73 rfl rfl rfl Tryz.call73 rfl BL ?_))|(show b_ _ 1 ..;refine lu [9,10] _ ww ?_)|(show sG ..;refine l6 ?_)|refine Wp.go bQ rfl ?_|refine lG ?_))
      all_goals(conv=>whnf)
      all_goals exact⟨(k+1,⟨dn (dn ((aC (dn (qs) (8) (x) (0) (k)) m).1) (5) (((qs).code.length:Int)) (0) ((aC (dn (qs) (8) (x) (0) (k)) m).2)) (3) (a) ((((aC (dn (qs) (8) (x) (0) (k)) m).1).code.length:Int)) (0),(λz=>if z=(k:Int)then some ((qs).code.length:Int)else qt z),some ((dn ((aC (dn (qs) (8) (x) (0) (k)) m).1) (5) (((qs).code.length:Int)) (0) ((aC (dn (qs) (8) (x) (0) (k)) m).2)).code.length:Int)⟩),[(11,some 33),(12,some 34),(13,some 35)],⟨hlt2,by rw[<-hZ,<-xM (y:=⟨qs,qt,some a⟩) (x:=x) (i:=k) hmv ab4];simp only[zD,tK,ht,Aj],z4.mono Yo⟩,by show ds.l.length-(k+1)<ds.l.length-k;omega,rfl,bM,bM,λR w' h=>⟨⟨⟨(mP ((h.1.1.1.1.1).1.1.1) (jO (h.1.1.1).2)),(gW ((h.1.1.1.1.1).1.1.2) (h.1.1.1).2)⟩,(h.1.1.1.1.1).1.2⟩,(h.1.1.1.1.1).2⟩⟩
    focus
     rcases qm with _|a
     focus
      (repeat' ((conv=>whnf)<;>first|(show bV ..;refine aH da k hda rfl hlt2 ?_)|(show fT ..;(refine bA (λR w' h=>by rw[<-hda];exact hcr _ _ h.1.2) _ _ hrow rfl ?_))|(show lY ..;(refine qw (ti 32 rfl) rfl (b:=false) Z8 ?_))|(show BP ..;(refine RF aU ht ?_))|(show b_ _ 21 ..;refine lu [] _ Yg ?_)|(show l7 ..;(first|refine ng (u:=u) (l:=c.aj-base) (h:=c.aj) Nn hxl.symm aa aa fI.room ?_|refine ng (u:=u) (l:=0) (h:=c.aj-base) rfl Nn aa aa fI.room ?_))|(show aI _ 129 ..;(refine wu rfl (cutV u (c.aj-base) c.aj) (cutV u 0 (c.aj-base)) (dZ w F) (λR w' h b hb=>((h).2 b hb).1) (λR w' h=>pK (aV ((h).1.2.2 u vY)) fI.room) (λR w' h=>pK (aV ((h).1.2.2 u vY)) fI.room) (pJ fI) (pJ fI) Lj Lj (λm hm ms=> ?_)))|refine Wp.go bQ rfl ?_|refine zW ?_|refine CB ?_|refine lG ?_|refine Uq ?_|refine kT ?_|refine ag ?_ ?_<;>intro _))
      have hmv:m.xs=jH c.aj base u.xs:=by rw[hm,hu1,hu2];rfl
      refine dV [(10,.box (jL none) 129),(6,.box (jL ym) 129),(5,.ext (lH r (o6 qt)))] 0 1 11 12 13 c (qs) vl ((dW (qs).aF).and (bE m)) [.lp 0 0 0 0,.c m.val] _ _ _ _ Tryz.call130 rfl rfl rfl (λR w' h=>⟨(h.1).1.1.1,jO (h).2⟩) (dZ w F) (λR w' h b hb=>((h.1).2 b hb).1) (λw' ρ' F' h'=>uG c (qs) vl m ms z0.ok.aF MC w' ρ' F' h') (λ_ _=> ?_)
      have z1:=z0.plain ms
      (repeat' ((conv=>whnf)<;>first|refine Wp.go bQ rfl ?_))
      refine dV [(10,.box (jL none) 129),(6,.box (jL ym) 129),(5,.ext (lH r (o6 qt)))] 0 1 18 19 20 c ((aC (qs) m).1) vl ed [.lp 0 0 0 0,ax (5),ax (t),ax (0),ax ((aC (qs) m).2)] _ _ _ _ Tryz.call68 rfl rfl rfl (λR w' h=>trivial) (dZ w F) (λR w' h b hb=>((h.1.1).2 b hb).1) (λw' ρ' F' h'=>gV c ((aC (qs) m).1) vl (5) (t) (0) ((aC (qs) m).2) Um w' ρ' F' h') (λ_ _=> ?_)
      have z2:=z1.lay (5) (t) (0) ((aC (qs) m).2)
      (repeat' ((conv=>whnf)<;>first|(show aI _ 73 ..;(refine gy bQ Tryz.func73 rfl rfl rfl Tryz.call73 rfl BL ?_))|(show b_ _ 1 ..;refine lu [9,10] _ ww ?_)|(show sG ..;refine l6 ?_)|refine Wp.go bQ rfl ?_|refine lG ?_))
      all_goals(conv=>whnf)
      all_goals exact⟨(k+1,⟨dn ((aC (qs) m).1) (5) (t) (0) ((aC (qs) m).2),qt,some (((aC (qs) m).1).code.length:Int)⟩),[(11,some 23),(12,some 24),(13,some 25)],⟨hlt2,by rw[<-hZ,<-xM (y:=⟨qs,qt,none⟩) (x:=x) (i:=k) hmv ab4];simp only[zD,tK,ht,Aj],z2.mono Yo⟩,by show ds.l.length-(k+1)<ds.l.length-k;omega,rfl,bM,bM,λR w' h=>⟨⟨⟨(mP ((h.1.1.1).1.1.1) (jO (h.1.1).2)),(gW ((h.1.1.1).1.1.2) (h.1.1).2)⟩,(h.1.1.1).1.2⟩,(h.1.1.1).2⟩⟩
     focus
      (repeat' ((conv=>whnf)<;>first|(show bV ..;refine aH da k hda rfl hlt2 ?_)|(show fT ..;(refine bA (λR w' h=>by rw[<-hda];exact hcr _ _ h.1.2) _ _ hrow rfl ?_))|(show lY ..;(refine qw (ti 32 rfl) rfl (b:=false) Z8 ?_))|(show BP ..;(refine RF aU ht ?_))|(show b_ _ 21 ..;refine lu [] _ Yg ?_)|(show l7 ..;(first|refine ng (u:=u) (l:=c.aj-base) (h:=c.aj) Nn hxl.symm aa aa fI.room ?_|refine ng (u:=u) (l:=0) (h:=c.aj-base) rfl Nn aa aa fI.room ?_))|(show aI _ 129 ..;(refine wu rfl (cutV u (c.aj-base) c.aj) (cutV u 0 (c.aj-base)) (dZ w F) (λR w' h b hb=>((h).2 b hb).1) (λR w' h=>pK (aV ((h).1.2.2 u vY)) fI.room) (λR w' h=>pK (aV ((h).1.2.2 u vY)) fI.room) (pJ fI) (pJ fI) Lj Lj (λm hm ms=> ?_)))|refine Wp.go bQ rfl ?_|refine zW ?_|refine CB ?_|refine lG ?_|refine Uq ?_|refine kT ?_|refine ag ?_ ?_<;>intro _))
      have hmv:m.xs=jH c.aj base u.xs:=by rw[hm,hu1,hu2];rfl
      refine dV [(10,.box (jL (some a)) 129),(6,.box (jL ym) 129),(5,.ext (lH r (o6 qt)))] 0 1 11 12 13 c (qs) vl ((dW (qs).aF).and (bE m)) [.lp 0 0 0 0,.c m.val] _ _ _ _ Tryz.call130 rfl rfl rfl (λR w' h=>⟨(h.1).1.1.1,jO (h).2⟩) (dZ w F) (λR w' h b hb=>((h.1).2 b hb).1) (λw' ρ' F' h'=>uG c (qs) vl m ms z0.ok.aF MC w' ρ' F' h') (λ_ _=> ?_)
      have z1:=z0.plain ms
      (repeat' ((conv=>whnf)<;>first|refine Wp.go bQ rfl ?_))
      refine dV [(10,.box (jL (some a)) 129),(6,.box (jL ym) 129),(5,.ext (lH r (o6 qt)))] 0 1 18 19 20 c ((aC (qs) m).1) vl ed [.lp 0 0 0 0,ax (5),ax (t),ax (0),ax ((aC (qs) m).2)] _ _ _ _ Tryz.call68 rfl rfl rfl (λR w' h=>trivial) (dZ w F) (λR w' h b hb=>((h.1.1).2 b hb).1) (λw' ρ' F' h'=>gV c ((aC (qs) m).1) vl (5) (t) (0) ((aC (qs) m).2) Um w' ρ' F' h') (λ_ _=> ?_)
      have z2:=z1.lay (5) (t) (0) ((aC (qs) m).2)
      (repeat' ((conv=>whnf)<;>first|(show aI _ 73 ..;(refine gy bQ Tryz.func73 rfl rfl rfl Tryz.call73 rfl BL ?_))|(show b_ _ 1 ..;refine lu [9,10] _ ww ?_)|(show sG ..;refine l6 ?_)|refine Wp.go bQ rfl ?_|refine lG ?_))
      refine dV [(10,.box (jL (some a)) 129),(6,.box (jL ym) 129),(5,.ext (lH r (o6 qt)))] 0 1 23 24 25 c (dn ((aC (qs) m).1) (5) (t) (0) ((aC (qs) m).2)) vl ed [.lp 0 0 0 0,ax (3),ax (a),ax ((((aC (qs) m).1).code.length:Int)),ax (0)] _ _ _ _ Tryz.call68 rfl rfl rfl (λR w' h=>trivial) (dZ w F) (λR w' h b hb=>((h.1.1.1).2 b hb).1) (λw' ρ' F' h'=>gV c (dn ((aC (qs) m).1) (5) (t) (0) ((aC (qs) m).2)) vl (3) (a) ((((aC (qs) m).1).code.length:Int)) (0) ade w' ρ' F' h') (λ_ _=> ?_)
      have z3:=z2.lay (3) (a) ((((aC (qs) m).1).code.length:Int)) (0)
      (repeat' ((conv=>whnf)<;>first|(show aI _ 73 ..;(refine gy bQ Tryz.func73 rfl rfl rfl Tryz.call73 rfl BL ?_))|(show b_ _ 1 ..;refine lu [9,10] _ ww ?_)|(show sG ..;refine l6 ?_)|refine Wp.go bQ rfl ?_|refine lG ?_))
      all_goals(conv=>whnf)
      all_goals exact⟨(k+1,⟨dn (dn ((aC (qs) m).1) (5) (t) (0) ((aC (qs) m).2)) (3) (a) ((((aC (qs) m).1).code.length:Int)) (0),qt,some ((dn ((aC (qs) m).1) (5) (t) (0) ((aC (qs) m).2)).code.length:Int)⟩),[(11,some 28),(12,some 29),(13,some 30)],⟨hlt2,by rw[<-hZ,<-xM (y:=⟨qs,qt,some a⟩) (x:=x) (i:=k) hmv ab4];simp only[zD,tK,ht,Aj],z3.mono Yo⟩,by show ds.l.length-(k+1)<ds.l.length-k;omega,rfl,bM,bM,λR w' h=>⟨⟨⟨(mP ((h.1.1.1.1).1.1.1) (jO (h.1.1.1).2)),(gW ((h.1.1.1.1).1.1.2) (h.1.1.1).2)⟩,(h.1.1.1.1).1.2⟩,(h.1.1.1.1).2⟩⟩
   obtain rfl:k=ds.l.length:=by omega
   rw[List.drop_length]at hZ
   have hZ:(⟨qs,qt,qm⟩:yN).pl=Z:=hZ
   have hS:sU c.aj base x (yN.pl ⟨ys,yt,ym⟩) (List.take (hi-base) (List.drop base (d.l.map au.xs)))=(uY base ym ⟨qs,qt,qm⟩).pl:=(O1 (y:=yN.pl ⟨ys,yt,ym⟩) (RG.trans hZ.symm)).symm
   rw[hS]at hY
   clear hS hZ RG hcr ah_ hkl hds'
   have hkg:ds.l.length<=g:=by omega
   rcases qm with _|a
   focus
    (repeat' ((conv=>whnf)<;>first|(show @eZ _ _ _;refine dA aa ?_)|refine Wp.go bQ rfl ?_|refine lG ?_))
    all_goals(conv=>whnf)
    all_goals exact⟨(base+g,f',⟨qs,qt,ym⟩),[(7,some 11),(8,some 12),(9,some 13)],⟨by rw[<-hY];simp only[uY],by show c.aj<=base+g+f';omega,by show base+g<=8192;omega,z0.mono Xf⟩,by show c.aj-(base+g)<c.aj-base;omega,rfl,bM,bM,λR w' h=>⟨⟨⟨(h).1.1.1,(h).1.1.2⟩,(h).1.2⟩,(h).2⟩⟩
   rcases Nat.lt_or_ge 0 base with hb|hb
   focus
    rcases ym with _|b
    focus
     (repeat' ((conv=>whnf)<;>first|(show @eZ _ _ _;refine cu aa ?_)|refine Wp.go bQ rfl ?_|refine zW ?_|refine CB ?_|refine ag ?_ ?_<;>intro _))
     refine dV [(10,.box (jL (some a)) 129),(6,.box (jL none) 129),(5,.ext (lH r (o6 qt)))] 0 1 11 12 13 c (qs) vl ed [.lp 0 0 0 0,ax (8),ax (a),ax (0),ax (base)] _ _ _ _ Tryz.call68 rfl rfl rfl (λR w' h=>trivial) (dZ w F) (λR w' h b hb=>((h).2 b hb).1) (λw' ρ' F' h'=>gV c (qs) vl (8) (a) (0) (base) Fu w' ρ' F' h') (λ_ _=> ?_)
     have z1:=z0.lay (8) (a) (0) (base)
     (repeat' ((conv=>whnf)<;>first|(show aI _ 73 ..;(refine gy bQ Tryz.func73 rfl rfl rfl Tryz.call73 rfl BL ?_))|(show b_ _ 1 ..;refine lu [9,10] _ ww ?_)|(show sG ..;refine l6 ?_)|refine Wp.go bQ rfl ?_|refine lG ?_))
     all_goals(conv=>whnf)
     all_goals exact⟨(base+g,f',⟨dn (qs) (8) (a) (0) (base),qt,some ((qs).code.length:Int)⟩),[(7,some 16),(8,some 17),(9,some 18)],⟨by rw[<-hY];simp only[uY,Aj,if_pos hb],by show c.aj<=base+g+f';omega,by show base+g<=8192;omega,z1.mono Xf⟩,by show c.aj-(base+g)<c.aj-base;omega,rfl,bM,bM,λR w' h=>⟨⟨⟨(h.1).1.1.1,(h.1).1.1.2⟩,(h.1).1.2⟩,(h.1).2⟩⟩
    focus
     (repeat' ((conv=>whnf)<;>first|(show @eZ _ _ _;refine cu aa ?_)|refine Wp.go bQ rfl ?_|refine zW ?_|refine CB ?_|refine ag ?_ ?_<;>intro _))
     refine dV [(10,.box (jL (some a)) 129),(6,.box (jL (some b)) 129),(5,.ext (lH r (o6 qt)))] 0 1 11 12 13 c (qs) vl ed [.lp 0 0 0 0,ax (8),ax (a),ax (0),ax (base)] _ _ _ _ Tryz.call68 rfl rfl rfl (λR w' h=>trivial) (dZ w F) (λR w' h b hb=>((h).2 b hb).1) (λw' ρ' F' h'=>gV c (qs) vl (8) (a) (0) (base) Fu w' ρ' F' h') (λ_ _=> ?_)
     have z1:=z0.lay (8) (a) (0) (base)
     (repeat' ((conv=>whnf)<;>first|(show aI _ 73 ..;(refine gy bQ Tryz.func73 rfl rfl rfl Tryz.call73 rfl BL ?_))|(show b_ _ 1 ..;refine lu [9,10] _ ww ?_)|(show sG ..;refine l6 ?_)|refine Wp.go bQ rfl ?_|refine lG ?_))
     refine dV [(10,.box (jL (some ((qs).code.length:Int))) 129),(6,.box (jL (some b)) 129),(5,.ext (lH r (o6 qt)))] 0 1 16 17 18 c (dn (qs) (8) (a) (0) (base)) vl ed [.lp 0 0 0 0,ax (3),ax (b),ax (((qs).code.length:Int)),ax (0)] _ _ _ _ Tryz.call68 rfl rfl rfl (λR w' h=>trivial) (dZ w F) (λR w' h b hb=>((h.1).2 b hb).1) (λw' ρ' F' h'=>gV c (dn (qs) (8) (a) (0) (base)) vl (3) (b) (((qs).code.length:Int)) (0) Um w' ρ' F' h') (λ_ _=> ?_)
     have z2:=z1.lay (3) (b) (((qs).code.length:Int)) (0)
     (repeat' ((conv=>whnf)<;>first|(show aI _ 73 ..;(refine gy bQ Tryz.func73 rfl rfl rfl Tryz.call73 rfl BL ?_))|(show b_ _ 1 ..;refine lu [9,10] _ ww ?_)|(show sG ..;refine l6 ?_)|refine Wp.go bQ rfl ?_|refine lG ?_))
     all_goals(conv=>whnf)
     all_goals exact⟨(base+g,f',⟨dn (dn (qs) (8) (a) (0) (base)) (3) (b) (((qs).code.length:Int)) (0),qt,some ((dn (qs) (8) (a) (0) (base)).code.length:Int)⟩),[(7,some 21),(8,some 22),(9,some 23)],⟨by rw[<-hY];simp only[uY,Aj,if_pos hb],by show c.aj<=base+g+f';omega,by show base+g<=8192;omega,z2.mono Xf⟩,by show c.aj-(base+g)<c.aj-base;omega,rfl,bM,bM,λR w' h=>⟨⟨⟨(h.1.1).1.1.1,(h.1.1).1.1.2⟩,(h.1.1).1.2⟩,(h.1.1).2⟩⟩
   focus
    have hb:¬0<base:=by omega
    rcases ym with _|b
    focus
     (repeat' ((conv=>whnf)<;>first|(show @eZ _ _ _;refine dA aa ?_)|(show aI _ 73 ..;(refine gy bQ Tryz.func73 rfl rfl rfl Tryz.call73 rfl BL ?_))|(show b_ _ 1 ..;refine lu [9,10] _ ww ?_)|(show sG ..;refine l6 ?_)|refine Wp.go bQ rfl ?_|refine lG ?_))
     all_goals(conv=>whnf)
     all_goals exact⟨(base+g,f',⟨qs,qt,some a⟩),[(7,some 11),(8,some 12),(9,some 13)],⟨by rw[<-hY];simp only[uY,Aj,if_neg hb],by show c.aj<=base+g+f';omega,by show base+g<=8192;omega,z0.mono Xf⟩,by show c.aj-(base+g)<c.aj-base;omega,rfl,bM,bM,λR w' h=>⟨⟨⟨(h).1.1.1,(h).1.1.2⟩,(h).1.2⟩,(h).2⟩⟩
    focus
     (repeat' ((conv=>whnf)<;>first|(show @eZ _ _ _;refine dA aa ?_)|(show aI _ 73 ..;(refine gy bQ Tryz.func73 rfl rfl rfl Tryz.call73 rfl BL ?_))|(show b_ _ 1 ..;refine lu [9,10] _ ww ?_)|(show sG ..;refine l6 ?_)|refine Wp.go bQ rfl ?_|refine lG ?_))
     refine dV [(10,.box (jL (some a)) 129),(6,.box (jL (some b)) 129),(5,.ext (lH r (o6 qt)))] 0 1 11 12 13 c (qs) vl ed [.lp 0 0 0 0,ax (3),ax (b),ax (a),ax (0)] _ _ _ _ Tryz.call68 rfl rfl rfl (λR w' h=>trivial) (dZ w F) (λR w' h b hb=>((h).2 b hb).1) (λw' ρ' F' h'=>gV c (qs) vl (3) (b) (a) (0) Fu w' ρ' F' h') (λ_ _=> ?_)
     have z1:=z0.lay (3) (b) (a) (0)
     (repeat' ((conv=>whnf)<;>first|(show aI _ 73 ..;(refine gy bQ Tryz.func73 rfl rfl rfl Tryz.call73 rfl BL ?_))|(show b_ _ 1 ..;refine lu [9,10] _ ww ?_)|(show sG ..;refine l6 ?_)|refine Wp.go bQ rfl ?_|refine lG ?_))
     all_goals(conv=>whnf)
     all_goals exact⟨(base+g,f',⟨dn (qs) (3) (b) (a) (0),qt,some ((qs).code.length:Int)⟩),[(7,some 16),(8,some 17),(9,some 18)],⟨by rw[<-hY];simp only[uY,Aj,if_neg hb],by show c.aj<=base+g+f';omega,by show base+g<=8192;omega,z1.mono Xf⟩,by show c.aj-(base+g)<c.aj-base;omega,rfl,bM,bM,λR w' h=>⟨⟨⟨(h.1).1.1.1,(h.1).1.1.2⟩,(h.1).1.2⟩,(h.1).2⟩⟩
  rw[Lm hlt]at hY
  subst hY
  rw[<-hgv]at hY0
  rcases ym with _|a
  focus
   (repeat' ((conv=>whnf)<;>first|(show @eZ _ _ _;refine dA aa ?_)|refine Wp.go bQ rfl ?_|refine lG ?_))
   refine dV [(6,.box (jL none) 129),(5,.ext (lH r (o6 yt)))] 0 1 7 8 9 c (ys) vl (dW (ys).aF) [.lp 0 0 0 0,ax (x)] _ _ _ _ Tryz.call74 rfl rfl rfl (λR w' h=>(h).1.1.1) (dZ w F) (λR w' h b hb=>((h).2 b hb).1) (λw' ρ' F' h'=>SC c (ys) vl (x) hn2 z0.ok.aF MC Fu w' ρ' F' h') (λu ⟨hu,hsu⟩=> ?_)
   have z1:=z0.zero hsu (x)
   (repeat' ((conv=>whnf)<;>first|refine Wp.go bQ rfl ?_))
   all_goals(conv=>whnf)
   have e:jm c.aj c.giant s.pl x (d.l.map au.xs)=((zeroV (ys) u (x)).pl,((ys).code.length:Int)):=by unfold jm;rw[hY0];exact yM hu
   all_goals exact fw _ _ _ _ (zeroV (ys) u (x),(((ys).code.length:Int):Int)) [(2,some 12),(3,some 13),(4,some 14)] ⟨(congrArg Prod.fst e).symm,(congrArg Prod.snd e).symm,z1.ok⟩ aY rfl rfl rfl rfl bM (λR w' h=>⟨(h.1).2,(gW ((h.1).1.1.2) (h).2)⟩)
  focus
   (repeat' ((conv=>whnf)<;>first|(show @eZ _ _ _;refine dA aa ?_)|refine Wp.go bQ rfl ?_|refine lG ?_))
   all_goals(conv=>whnf)
   have e:jm c.aj c.giant s.pl x (d.l.map au.xs)=((ys).pl,a):=by unfold jm;rw[hY0];rfl
   all_goals exact fw _ _ _ _ (ys,(a:Int)) [(2,some 7),(3,some 8),(4,some 9)] ⟨(congrArg Prod.fst e).symm,(congrArg Prod.snd e).symm,z0.ok⟩ aY rfl rfl rfl rfl bM (λR w' h=>⟨(h).2,(h).1.1.2⟩)
end
def l_(g:Nat->Int->Int):Nat->List Int->Int
 |_,[]=>0
 |i,w::r=>g i w+l_ g (i+1) r
def zl(g:Nat->Int->Int):List Sp->Int
 |[]=>0
 |t::r=>g t.2.toNat t.1+zl g r
def wO(r:List Int)(t:Sp):List Int:=r.set t.2.toNat t.1
theorem F6(g:Nat->Int->Int):∀(a b:List Int) (i:Nat),l_ g i (a++b)=l_ g i a+l_ g (i+a.length) b
 |[],b,i=>by simp[l_]
 |x::r,b,i=>by
  rw[List.cons_append,l_,l_,F6 g r b (i+1),List.length_cons,show i+1+r.length=i+(r.length+1) by omega]
  omega
theorem Fw(g:Nat->Int->Int){l:List Int}{j:Nat}(h:j<l.length):l_ g 0 (l.take (j+1))=l_ g 0 (l.take j)+g j (l.getD j 0):=by
 rw[List.take_succ_eq_append_getElem h,F6,List.length_take,Nat.min_eq_left (Nat.le_of_lt h)]
 have:l.getD j 0=l[j]:=by rw[List.getD_eq_getElem?_getD,List.getElem?_eq_getElem h];rfl
 rw[this]
 simp[l_]
theorem Vw(g:Nat->Int->Int){v:Int}:∀{r:List Int} {i j:Nat},j<r.length->r.getD j 0=0->g (i+j) 0=0->l_ g i (r.set j v)=l_ g i r+g (i+j) v
 |[],i,j,h,_,_=>by simp at h
 |x::r,i,0,_,h0,hg=>by
  have hx:x=0:=by simpa using h0
  subst hx
  rw[List.set_cons_zero,l_,l_]
  simp only[Nat.add_zero]at hg|-
  omega
 |x::r,i,j+1,h,h0,hg=>by
  rw[List.set_cons_succ,l_,l_,Vw g (i:=i+1) ab1 (by simpa using h0) (by rw[show i+1+j=i+(j+1) by omega];exact hg),show i+1+j=i+(j+1) by omega]
  omega
theorem Oe(g:Nat->Int->Int)(hg:∀k,g k 0=0):∀(n i:Nat),l_ g i (List.replicate n 0)=0
 |0,i=>rfl
 |n+1,i=>by rw[List.replicate_succ,l_,hg,Oe g hg n (i+1)];rfl
theorem F4(r:List Int)(t:Sp):(wO r t).length=r.length:=by simp[wO]
theorem uf:∀(T:List Sp) (r:List Int),(T.foldl wO r).length=r.length
 |[],r=>rfl
 |t::T,r=>by rw[List.foldl_cons,uf T,F4]
theorem Lf(g:Nat->Int->Int)(hg:∀k,g k 0=0):∀{T:List Sp} {r:List Int},(∀t∈T,(0<=t.2/\t.2<r.length)/\r.getD t.2.toNat 0=0)->T.Pairwise (λx y=>x.2≠y.2)->l_ g 0 (T.foldl wO r)=l_ g 0 r+zl g T
 |[],r,_,_=>by simp[zl]
 |t::T,r,h,hp=>by
  obtain⟨hp1,hp2⟩:=List.pairwise_cons.1 hp
  obtain⟨⟨h1,h2⟩,h3⟩:=h t List.mem_cons_self
  rw[List.foldl_cons,Lf g hg (T:=T) (r:=wO r t) (λu hu=> ?_) hp2]
  ·have e:l_ g 0 (wO r t)=l_ g 0 r+g t.2.toNat t.1:=by
    have:=Vw g (v:=t.1) (r:=r) (i:=0) (j:=t.2.toNat) aa h3 (hg _)
    rw[Nat.zero_add]at this
    exact this
   rw[e,zl];omega
  ·obtain⟨g1,g2⟩:=h u (List.mem_cons_of_mem _ hu)
   refine⟨by rw[F4];exact g1,?_⟩
   have hne:=hp1 u hu
   unfold wO
   rw[List.getD_eq_getElem?_getD,List.getElem?_set_ne aa,<-List.getD_eq_getElem?_getD]
   exact g2
def gLo(a:Sp)(_:Nat)(w:Int):Int:=min (w*a.1) (w*a.2)
def gHi(a:Sp)(_:Nat)(w:Int):Int:=max (w*a.1) (w*a.2)
def MS(av:List Int)(i:Nat)(w:Int):Int:=w*av.getD i 0
theorem afO(a:Sp)(k:Nat):gLo a k 0=0:=by unfold gLo;omega
theorem aej(a:Sp)(k:Nat):gHi a k 0=0:=by unfold gHi;omega
theorem aat(av:List Int)(k:Nat):MS av k 0=0:=by unfold MS;omega
theorem Uk(a:Sp):∀(T:List Sp) (s:Int),T.foldl (Iq a) s=s+zl (gLo a) T
 |[],s=>by simp[zl]
 |t::T,s=>by
  rw[List.foldl_cons,Uk a T,zl]
  have e1:Iq a s t=s+min (t.1*a.1) (t.1*a.2):=rfl
  have e2:gLo a t.2.toNat t.1=min (t.1*a.1) (t.1*a.2):=rfl
  omega
theorem Tf(a:Sp):∀(T:List Sp) (s:Int),T.foldl (Ii a) s=s+zl (gHi a) T
 |[],s=>by simp[zl]
 |t::T,s=>by
  rw[List.foldl_cons,Tf a T,zl]
  have e1:Ii a s t=s+max (t.1*a.1) (t.1*a.2):=rfl
  have e2:gHi a t.2.toNat t.1=max (t.1*a.1) (t.1*a.2):=rfl
  omega
theorem N8(av:List Int):∀(T:List Sp) (s:Int),T.foldl (CV av) s=s+zl (MS av) T
 |[],s=>by simp[zl]
 |t::T,s=>by
  rw[List.foldl_cons,N8 av T,zl]
  have e1:CV av s t=s+t.1*av.getD t.2.toNat 0:=rfl
  have e2:MS av t.2.toNat t.1=t.1*av.getD t.2.toNat 0:=rfl
  omega
theorem zB{A B x y m:Int}(hx:0<=x/\x<m)(hy:0<=y/\y<m)(h:A*m+x=B*m+y):A=B/\x=y:=by
 have hm:0<m:=by omega
 have e1:(A*m+x)/m=A:=by rw[Int.add_comm,Int.add_mul_ediv_right _ _ aa,Int.ediv_eq_zero_of_lt hx.1 hx.2];omega
 have e2:(B*m+y)/m=B:=by rw[Int.add_comm,Int.add_mul_ediv_right _ _ aa,Int.ediv_eq_zero_of_lt hy.1 hy.2];omega
 have:A=B:=by rw[<-e1,<-e2,h]
 subst this
 exact⟨rfl,by omega⟩
theorem zu{i j m:Int}(_hm:0<m)(h1:i/m=j/m)(h2:i%m=j%m):i=j:=by
 have q1:=Int.mul_ediv_add_emod i m
 have q2:=Int.mul_ediv_add_emod j m
 rw[h1,h2]at q1
 omega
theorem aee{d:List Int}{k1 k2 k3 i1 i2 o:Int}{i j:Nat}(h2:1<=k2/\k2<=i1)(h3:1<=k3/\k3<=i2)(ho:0<=o)(h:(gQ d k1 k2 k3 i1 i2 o i).2=(gQ d k1 k2 k3 i1 i2 o j).2):i=j:=by
 have hW:0<i2-k3+1:=by omega
 have hH:0<i1-k2+1:=by omega
 obtain⟨d1,d2,d3,d4⟩:=jG ho hW
 obtain⟨d5,d6,d7,d8⟩:=jG d1 hH
 have c3:=Int.emod_nonneg (i:Int) (show k3≠0 by omega)
 have c4:=Int.emod_lt_of_pos (i:Int) (show 0<k3 by omega)
 have e3:=Int.emod_nonneg (j:Int) (show k3≠0 by omega)
 have e4:=Int.emod_lt_of_pos (j:Int) (show 0<k3 by omega)
 have c7:=Int.emod_nonneg ((i:Int)/k3) (show k2≠0 by omega)
 have c8:=Int.emod_lt_of_pos ((i:Int)/k3) (show 0<k2 by omega)
 have e7:=Int.emod_nonneg ((j:Int)/k3) (show k2≠0 by omega)
 have e8:=Int.emod_lt_of_pos ((j:Int)/k3) (show 0<k2 by omega)
 have h':((i:Int)/k3/k2*i1+o/(i2-k3+1)%(i1-k2+1)+(i:Int)/k3%k2)*i2+o%(i2-k3+1)+(i:Int)%k3=((j:Int)/k3/k2*i1+o/(i2-k3+1)%(i1-k2+1)+(j:Int)/k3%k2)*i2+o%(i2-k3+1)+(j:Int)%k3:=h
 rw[Int.add_assoc,Int.add_assoc _ _ ((j:Int)%k3)]at h'
 obtain⟨q1,q2⟩:=zB ⟨by omega,by omega⟩ ⟨by omega,by omega⟩ h'
 rw[Int.add_assoc,Int.add_assoc _ _ ((j:Int)/k3%k2)]at q1
 obtain⟨q3,q4⟩:=zB ⟨by omega,by omega⟩ ⟨by omega,by omega⟩ q1
 have q5:=zu aa q3 (show(i:Int)/k3%k2=(j:Int)/k3%k2 by omega)
 have q6:=zu aa q5 (show(i:Int)%k3=(j:Int)%k3 by omega)
 omega
theorem ad_{z i1 i2 o:Int}{i j:Nat}(hz:1<=z)(h1:z<=i1)(h2:z<=i2)(m1:i1%z=0)(m2:i2%z=0)(ho:0<=o)(hi:(i:Int)<z*z)(hj:(j:Int)<z*z)(h:(iH z i1 i2 o i).2=(iH z i1 i2 o j).2):i=j:=by
 have hW:=oF (x:=i2) (y:=z) aa h2
 have hH:=oF (x:=i1) (y:=z) aa h1
 have q1:=Int.mul_ediv_add_emod i1 z
 have q2:=Int.mul_ediv_add_emod i2 z
 obtain⟨d1,d2,d3,d4⟩:=jG (x:=o) (y:=i2/z) ho aa
 obtain⟨d5,d6,d7,d8⟩:=jG (x:=o/(i2/z)) (y:=i1/z) d1 aa
 obtain⟨c1,c2,c3,c4⟩:=jG (x:=(i:Int)) (y:=z) aa aa
 obtain⟨e1,e2,e3,e4⟩:=jG (x:=(j:Int)) (y:=z) aa aa
 have hdy:(i:Int)/z<z:=Int.ediv_lt_of_lt_mul aa hi
 have hdj:(j:Int)/z<z:=Int.ediv_lt_of_lt_mul aa hj
 have h':(o/(i2/z)/(i1/z)*i1+o/(i2/z)%(i1/z)*z+(i:Int)/z)*i2+o%(i2/z)*z+(i:Int)%z=(o/(i2/z)/(i1/z)*i1+o/(i2/z)%(i1/z)*z+(j:Int)/z)*i2+o%(i2/z)*z+(j:Int)%z:=h
 have y0:0<=o/(i2/z)%(i1/z)*z:=Int.mul_nonneg d7 aa
 have x0:0<=o%(i2/z)*z:=Int.mul_nonneg d3 aa
 have y1:o/(i2/z)%(i1/z)*z<=(i1/z-1)*z:=Int.mul_le_mul_of_nonneg_right aa aa
 have x1:o%(i2/z)*z<=(i2/z-1)*z:=Int.mul_le_mul_of_nonneg_right aa aa
 have y2:(i1/z-1)*z=z*(i1/z)-z:=by rw[Int.sub_mul,Int.one_mul,Int.mul_comm]
 have x2:(i2/z-1)*z=z*(i2/z)-z:=by rw[Int.sub_mul,Int.one_mul,Int.mul_comm]
 rw[Int.add_assoc,Int.add_assoc _ _ ((j:Int)%z)]at h'
 obtain⟨g1,g2⟩:=zB ⟨by omega,by omega⟩ ⟨by omega,by omega⟩ h'
 have q6:=zu aa (show(i:Int)/z=(j:Int)/z by omega) (show(i:Int)%z=(j:Int)%z by omega)
 omega
section
def iI(n:ai)(tl:List Int)(o:Nat):List Int:=
 if n.ak=3 then(n.data.xs.drop (o*(az tl).toNat)).take (az tl).toNat else(bS n tl o).foldl wO (List.replicate (az tl).toNat 0)
def yF(n:ai)(tl:List Int)(cnt:Nat):List (List Int):=(List.range cnt).map (iI n tl)
def uz(n:ai)(cnt:Nat):List Int:=(List.range cnt).map (dI n cnt)
theorem vv{f:Nat->Sp}{m:Nat}(h:∀i j,i<m->j<m->(f i).2=(f j).2->i=j):((List.range m).map f).Pairwise (λx y=>x.2≠y.2):=by
 rw[List.pairwise_map]
 refine List.Pairwise.imp_of_mem ?_ (List.pairwise_lt_range (n:=m))
 intro i j hi hj hlt e
 have:=h i j (List.mem_range.1 hi) (List.mem_range.1 hj) e
 omega
structure ajW(n:ai)(t:List Int):Prop where
 k2:1<=n.ay.xs.getD 2 0/\n.ay.xs.getD 2 0<=t.getD 1 0
 k3:1<=n.ay.xs.getD 3 0/\n.ay.xs.getD 3 0<=t.getD 2 0
variable {sh:List (List Int)} {s t:List Int} {cnt:Nat}
theorem Ib{n:ai}(h:fu n sh s t cnt)(hk:n.ak=4):ajW n t:=by
 have hsh:=h.node.ay
 have D6:=(dM h.node.form).X3 hk
 obtain⟨hl4,UW⟩:=pG D6
 have dm2:=UW _ (dz (xs:=n.ay.xs) (k:=2) aa)
 have dm3:=UW _ (dz (xs:=n.ay.xs) (k:=3) aa)
 unfold bR at hsh
 rw[if_neg aa,if_neg aa,if_pos hk,(h.first (.inr (.inl hk))).1]at hsh
 split at hsh
 ·cases hsh
 ·exact⟨by omega,by omega⟩
structure akg(n:ai)(t:List Int):Prop where
 z:1<=n.size
 z1:n.size<=t.getD 1 0
 z2:n.size<=t.getD 2 0
 m1:t.getD 1 0%n.size=0
 m2:t.getD 2 0%n.size=0
theorem Im{n:ai}(h:fu n sh s t cnt)(hk:n.ak=5):akg n t:=by
 have hsh:=h.node.ay
 have hz:=(dM h.node.form).pool hk
 obtain⟨hf,hg⟩:=h.first (.inr (.inr hk))
 unfold bR at hsh
 rw[if_neg aa,if_neg aa,if_neg aa,if_pos hk,hf]at hsh
 split at hsh
 ·cases hsh
 ·rename_i hbad
  have KM:=(gM hg).2.2
  have td1:=KM _ (dz (xs:=t) (k:=1) aa)
  have td2:=KM _ (dz (xs:=t) (k:=2) aa)
  have m1:t.getD 1 0%n.size=0:=by omega
  have m2:t.getD 2 0%n.size=0:=by omega
  refine⟨by omega,?_,?_,m1,m2⟩
  ·rcases(by omega:t.getD 1 0<n.size\/n.size<=t.getD 1 0)with hlt|hge
   ·rw[Int.emod_eq_of_lt aa hlt]at m1;omega
   ·exact hge
  ·rcases(by omega:t.getD 2 0<n.size\/n.size<=t.getD 2 0)with hlt|hge
   ·rw[Int.emod_eq_of_lt aa hlt]at m2;omega
   ·exact hge
theorem af9{n:ai}(h:fu n sh s t cnt)(hl:dX n)(hk3:n.ak≠3)(o:Nat):(bS n t o).Pairwise (λx y=>x.2≠y.2):=by
 rcases hl with hk|hk|hk
 ·exact absurd hk hk3
 ·have c:=Ib h hk
  have hG:bS n t o=pz n.data.xs (n.ay.xs.getD 1 0) (n.ay.xs.getD 2 0) (n.ay.xs.getD 3 0) (t.getD 1 0) (t.getD 2 0) o:=by unfold bS;rw[if_neg aa,if_pos hk]
  rw[hG]
  exact vv λi j _ _ e=>aee c.k2 c.k3 aa e
 ·have c:=Im h hk
  have hG:bS n t o=pW n.size (t.getD 1 0) (t.getD 2 0) o:=by unfold bS;rw[if_neg aa,if_neg aa]
  rw[hG]
  exact vv λi j hi hj e=>ad_ c.z c.z1 c.z2 c.m1 c.m2 aa aa aa e
theorem L8(g:Nat->Int->Int)(f:Nat->Int):∀(m i:Nat),zl g ((List.range' i m).map λk=>(f k,(k:Int)))=l_ g i ((List.range' i m).map f)
 |0,i=>rfl
 |m+1,i=>by
  rw[List.range'_succ,List.map_cons,List.map_cons,zl,l_,L8 g f m (i+1)]
  simp
theorem Za{n:ai}(h:fu n sh s t cnt)(hl:dX n){o:Nat}(ho:o<cnt)(g:Nat->Int->Int)(hg:∀k,g k 0=0):l_ g 0 (iI n t o)=zl g (bS n t o):=by
 obtain⟨F,P0,hL⟩:=fu.lin (t:=⟨none,0,t⟩) h hl
 by_cases hk:n.ak=3
 ·have hG:bS n t o=tJ n o (az t).toNat:=by unfold bS;rw[if_pos hk]
  have hR:iI n t o=(n.data.xs.drop (o*(az t).toNat)).take (az t).toNat:=if_pos hk
  rw[hG,hR]
  unfold tJ
  have hsh:=h.node.ay
  have hc:=h.cnt
  obtain⟨hf,hgp⟩:=h.first hl
  obtain⟨b1,b2⟩:=(dM h.node.form).aM hk
  unfold bR at hsh
  rw[if_neg aa,if_pos hk,hf]at hsh
  split at hsh
  ·rename_i hdl
   rw[Option.some.injEq]at hsh
   have he1:az [(n.aM.xs.length:Int)]=n.aM.xs.length:=by
    unfold az
    rw[if_neg fP]
    simp only[fF]
    rw[if_neg aa]
    omega
   rw[<-hsh,he1]at hc
   obtain⟨size,hsz⟩:∃size:Nat,az t=size:=⟨(az t).toNat,by omega⟩
   have RD:n.data.xs.length=n.aM.xs.length*size:=by
    rw[hsz,<-Int.natCast_mul]at hdl
    exact Int.ofNat.inj hdl
   rw[hsz,Int.toNat_natCast]
   have hle:o*size+size<=n.data.xs.length:=by
    have:(o+1)*size<=n.aM.xs.length*size:=Nat.mul_le_mul_right _ aa
    rw[Nat.add_mul,Nat.one_mul]at this
    omega
   have e:=L8 g (λi=>n.data.xs.getD (o*size+i) 0) size 0
   rw[<-List.range_eq_range']at e
   rw[e]
   congr 1
   apply List.ext_getElem
   ·simp;omega
   ·intro i h1 h2
    rw[List.getElem_take,List.getElem_drop,List.getElem_map,List.getElem_range,List.getD_eq_getElem?_getD,List.getElem?_eq_getElem]
    rfl
  ·cases hsh
 ·have hR:iI n t o=(bS n t o).foldl wO (List.replicate (az t).toNat 0):=if_neg hk
  rw[hR,Lf g hg (λu hu=> ?_) (af9 h hl hk o),Oe g hg]
  ·omega
  ·have:0<=u.2/\u.2<az t:=hL.at_ o ho u hu
   rw[List.length_replicate]
   refine⟨by omega,?_⟩
   rw[List.getD_eq_getElem?_getD,List.getElem?_replicate]
   split<;>rfl
end
theorem Jh{w w':World}{v:Value}{l:List au}{T:TypeId}(h:kv w w' v 1 T (aS l)):∃base cap,v= .slice base l.length cap/\l.length<=cap/\(fC base 1 (aS l)).holds (λb=>w.heap.size<=b/\b<w'.heap.size) w':=by
 obtain⟨base,cap,e,h1⟩:=fJ h
 obtain⟨lc,e2,F,hF,hr,hcap,_⟩:=h
 rw[e2]at e
 simp only[Value.slice.injEq]at e
 obtain⟨e3,_,e4⟩:=e
 refine⟨base,cap,?_,?_,h1⟩
 ·rw[e2,e3,e4,aW]
 ·rw[<-e4];simpa[aW]using hcap
structure Lu where
 rows:a_
 aM:au
 own:Bool
def Lu.val(x:Lu):Value:= .tuple #[x.rows.val,x.aM.val]
def vH(x:Lu):bN where
 holds R w:=(fC x.rows.base 1 (aS x.rows.l)).holds R w/\(x.own=true->(∀u∈x.rows.l,(bE u).holds R w)/\(bE x.aM).holds R w)
 stable:=λhR hw h=>⟨(fC _ _ _).stable hR hw h.1,λe=>⟨λu hu=>(bE u).stable hR hw ((h.2 e).1 u hu),(bE _).stable hR hw (h.2 e).2⟩⟩
structure B_(n:ai)(tl:List Int)(cnt:Nat)(x:Lu):Prop where
 rows:x.rows.l.map au.xs=yF n tl cnt
 aM:x.aM.xs=uz n cnt
 bq:∀u∈x.rows.l,u.bq
 xX:x.aM.bq
 old:x.own=false->x.aM=n.aM/\∀w,n.data.ok w->∀u∈x.rows.l,u.ok w
def tY(w:World)(n:ai)(tl:List Int)(cnt:Nat)(e:Ending)(w':World):Prop:=
 ∃x,B_ n tl cnt x/\e= .returned x.val/\Ext w w'/\(vH x).holds (λb=>w.heap.size<=b/\b<w'.heap.size) w'
def WG(u:au)(a:Addr)(size o:Nat):au:=⟨some (a.add (o*size)),u.cap-o*size,(u.xs.drop (o*size)).take size⟩
theorem abJ{base:Option Addr}{a:Addr}{len cap lo hi:Nat}{z1 z2:Int}{K:SV->Prop}(hb:base=some a)(h1:z1=lo)(h2:z2=hi)(h3:lo<hi)(h4:hi<=len)(h5:len<=cap)(h:K (.c (.slice (some (a.add lo)) (hi-lo) (cap-lo)))):l7 base len cap 1 (some z1) (some z2) none K:=by
 subst hb
 rw[oN]
 refine⟨lo,hi,cap,h1,h2,rfl,by omega,by omega,by omega,λh=>kP,?_⟩
 rw[if_neg aa]
 simpa using h
theorem abn{w:World}{a:Addr}{xs:List (List Value)}(lo m:Nat)(h:bu w (some a) 1 xs):bu w (some (a.add lo)) 1 ((xs.drop lo).take m):=by
 rcases h with h|⟨a',ha,h⟩
 ·subst h;exact .inl fP
 ·obtain rfl:a=a':=by simpa using ha
  refine .inr ⟨_,rfl,λi r hr j v hj=> ?_⟩
  rw[List.getElem?_take]at hr
  split at hr
  ·rw[List.getElem?_drop]at hr
   have:=h (lo+i) r hr j v hj
   rw[add_add,show lo+(i*1+j)=(lo+i)*1+j by omega]
   exact this
  ·cases hr
theorem Ij{w:World}{u:au}{a:Addr}(size o:Nat)(hu:u.ok w)(ha:u.base=some a)(hl:o*size+size<=u.xs.length):(WG u a size o).ok w:=by
 have hr:=hu.rows
 rw[ha]at hr
 refine⟨?_,λx hx=>hu.fits x (List.mem_of_mem_drop (List.mem_of_mem_take hx)),?_,?_⟩
 ·show bu w (some (a.add (o*size))) 1 (aN ((u.xs.drop (o*size)).take size))
  have e:aN ((u.xs.drop (o*size)).take size)=((aN u.xs).drop (o*size)).take size:=by simp[aN,List.map_drop,List.map_take]
  rw[e]
  exact abn _ _ hr
 ·show((u.xs.drop (o*size)).take size).length<=u.cap-o*size
  have:=hu.room
  simp only[List.length_take,List.length_drop]
  omega
 ·show((u.xs.drop (o*size)).take size).length<=_
  have:=hu.few
  simp only[List.length_take,List.length_drop]
  omega
theorem abX{w:World}{u:au}{a:Addr}(size o:Nat)(hu:u.ok w)(ha:u.base=some a)(hl:o*size+size<=u.xs.length):(WG u a size o).bq:=⟨(Ij size o hu ha hl).fits,(Ij size o hu ha hl).room,(Ij size o hu ha hl).few⟩
abbrev ak_:DT:=(eY [0,1,2,3,4,5,6,7,8,9,10,11,12,13,14,15,16,17,18,19,20,21,22,23,24,125] .done)
abbrev ak9:DT:=(eY [0,1,2,4,103,5] .done)
abbrev ak4:DT:=(eY [0,1,2,3,4,5,6,7,8,9,10,11,12,13,14,15,16,17,18,19,20,21,22,23,24,25,26,27,28,29,30,31,32,33,34,35,36,37,38,39,40,41,142] .done)
theorem U5{B:Base}{H:Heap}{S:bN}{nx i m:Nat}{w:World}{n:ai}{tl:List Int}{cnt:Nat}{us:List au}(hb:∀R w',S.holds R w'->(aO B.w0).holds R w')(hw0:B.w0=w)(he:(i,bZ.rows (aS us) 1 32)∈H)(hm:m=us.length)
 (h1:us.map au.xs=yF n tl cnt) (h2:n.aM.xs=uz n cnt) (h3:∀u∈us,u.bq) (h4:n.aM.bq) (h5:∀w,n.data.ok w->∀u∈us,u.ok w):jI B (.sN [.os i m,.c n.aM.val]) H S nx (tY w n tl cnt):=by
 subst hw0 hm
 refine dH λρ w' hw=> ?_
 have hn:=dK hw hb he
 rw[aW]at hn
 obtain⟨base,cap,e,hc,hD⟩:=Jh hn
 refine⟨⟨⟨base,cap,us⟩,n.aM,false⟩,⟨h1,h2,h3,h4,λ_=>⟨rfl,h5⟩⟩,?_,aZ hw hb,hD,λh=>by cases h⟩
 show Ending.returned (.tuple #[(SV.os i us.length).rf ρ,n.aM.val])=_
 rw[e];rfl
theorem abV(w:World)(n:ai)(t:au)(ht:t.ok w)(hno:n.ok w)(hk:n.ak=3)(size cnt:Nat)(hsz:az t.xs=size)(h1:1<=size/\size<=64)(hb:n.aM.xs.length=cnt)(hc:1<=cnt/\cnt<=64)(hdl:n.data.xs.length=cnt*size):Calls Tryz.prog 91 #[n.j3,t.val] w (tY w n t.xs cnt):=by
 have hd:=hno.data
 have hpos:size<=cnt*size:=Nat.le_mul_of_pos_left _ hc.1
 obtain⟨ua,jD⟩:=hd.base aa
 refine fH Tryz.func91 [.agg (jN n),.c t.val] ?_
 repeat' ((conv=>whnf)<;>first|refine afd ?_|refine bn ?_|refine ag ?_ ?_<;>intro _)
 refine Wp.loop (σ:=Nat×Nat×List au) 2 (λ⟨o,m,us⟩=>[(2,.lp 0 0 0 0),(6,ax size),(7,.os 1 m),(33,ax cnt),(34,ax o)]) (λ⟨_,_,us⟩=>[(1,.rows (aS us) 1 32),(0,.box (jN n) 41)]) (λ_=>aO w)
  (λ⟨o,m,us⟩=>o<=cnt/\m=us.length/\us=(List.range o).map (WG n.data ua size)) (λs=>cnt-s.1) (0,0,[]) [(1,none)] aY (λs=>⟨rfl,rfl⟩) ⟨Nat.zero_le _,rfl,rfl⟩ ⟨rfl,⟨rfl,?_,rfl,?_,rfl,trivial⟩,⟨rfl,aU,trivial⟩,λ_ _ h=>h⟩ ?_
 ·rw[hsz];rfl
 ·rw[hb];rfl
 rintro⟨o,m,us⟩ ⟨ho,hm,fI⟩
 have hml:us.length=o:=by rw[fI];simp
 by_cases hlt:o<cnt
 ·have q1:o*size+size<=cnt*size:=by
   have:(o+1)*size<=cnt*size:=Nat.mul_le_mul_right _ aa
   rw[Nat.add_mul,Nat.one_mul]at this
   exact this
  have q2:cnt*size<=64*64:=Nat.mul_le_mul hc.2 h1.2
  have e1:(o:Int)*size=((o*size:Nat):Int):=by rw[Int.natCast_mul]
  have e2:((o:Int)+1)*size=((o*size+size:Nat):Int):=by rw[Int.add_mul,Int.one_mul,Int.natCast_add,Int.natCast_mul]
  generalize hP:o*size=P at*
  have hroom:=hd.room
  repeat' ((conv=>whnf)<;>first|(show l7 ..;refine abJ jD e1 e2 aa aa aa ?_)|(show vO ..;(refine gY (by rw[aW,hm];exact Nat.le_refl _) ?_))|(show gP ..;(refine dP afi ?_))|refine bn ?_|refine ag ?_ ?_<;>intro _)
  all_goals(conv=>whnf)
  have hval:Value.slice (some (ua.add P)) (P+size-P) (n.data.cap-P)=(WG n.data ua size o).val:=by
   unfold WG au.val
   simp only[List.length_take,List.length_drop,hP]
   congr 1
   omega
  exact⟨(o+1,m+1,us++[WG n.data ua size o]),[(1,some 3)],⟨hlt,by rw[hm];simp,by rw[fI,List.range_succ,List.map_append];rfl⟩,by simp only;omega,rfl,bM,⟨by
   have:=wX us (WG n.data ua size o) (i:=3) (T:=32) (H:=[])
   rw[<-hval,<-hm]at this
   exact List.mem_cons.2 (.inl (List.mem_singleton.1 this)),aU,trivial⟩,λ_ _ h=>h⟩
 ·obtain rfl:o=cnt:=by omega
  repeat' ((conv=>whnf)<;>first|refine bn ?_|refine ag ?_ ?_<;>intro _)
  all_goals(conv=>whnf)
  have hcl:∀k,k<o->k*size+size<=n.data.xs.length:=λk hk=>by
   have:(k+1)*size<=o*size:=Nat.mul_le_mul_right _ aa
   rw[Nat.add_mul,Nat.one_mul]at this
   omega
  refine U5 (λ_ _ h=>h) rfl aU hm ?_ ?_ ?_ ⟨hno.aM.fits,hno.aM.room,hno.aM.few⟩ ?_
  ·rw[fI,yF,List.map_map]
   refine List.map_congr_left λk _=> ?_
   unfold iI
   rw[if_pos hk,hsz,Int.toNat_natCast];rfl
  ·unfold uz
   apply List.ext_getElem
   ·simp[hb]
   ·intro k g1 g2
    rw[List.getElem_map,List.getElem_range]
    unfold dI
    rw[if_pos hk,List.getD_eq_getElem?_getD,List.getElem?_eq_getElem g1];rfl
  ·intro u hu
   rw[fI]at hu
   obtain⟨k,hk',rfl⟩:=List.mem_map.1 hu
   exact abX size k hd jD (hcl k (List.mem_range.1 hk'))
  ·intro w' hd' u hu
   rw[fI]at hu
   obtain⟨k,hk',rfl⟩:=List.mem_map.1 hu
   exact Ij size k hd' jD (hcl k (List.mem_range.1 hk'))
section
variable {A x:Int}
theorem mul_add_div{m:Int}(hx:0<=x/\x<m):(A*m+x)/m=A/\(A*m+x)%m=x:=by
 have hm:0<m:=by omega
 constructor
 ·rw[Int.add_comm,Int.add_mul_ediv_right _ _ aa,Int.ediv_eq_zero_of_lt hx.1 hx.2];omega
 ·rw[Int.add_comm,Int.add_mul_emod_self_right,Int.emod_eq_of_lt hx.1 hx.2]
variable {c y H W o:Int}
theorem abo(ho:o=(c*H+y)*W+x)(hx:0<=x/\x<W)(hy:0<=y/\y<H):o/W/H=c/\o/W%H=y/\o%W=x:=by
 subst ho
 rw[(mul_add_div hx).1,(mul_add_div hx).2,(mul_add_div hy).1,(mul_add_div hy).2]
 exact⟨rfl,rfl,rfl⟩
def rowP(T:List Sp)(size m:Nat):List Int:=(T.take m).foldl wO (List.replicate size 0)
theorem jr(T:List Sp)(size m:Nat):(rowP T size m).length=size:=by unfold rowP;rw[uf,List.length_replicate]
variable {T:List Sp} {size m:Nat}
theorem OG(h:m<T.length):rowP T size (m+1)=wO (rowP T size m) T[m]:=by
 unfold rowP
 rw[List.take_succ_eq_append_getElem h,List.foldl_append];rfl
variable {k:Nat} {v:Int}
theorem Kw{r:List Int}{K:List (List Value)->Prop}(hk:k<r.length)(h:K (aN (r.set k v))):cO (aN r) k 0 [.int .i64 v] K:=by
 refine iW _ (eH hk) FW ?_
 have e:(aN r).set k (bW [Value.int .i64 r[k]] 0 [.int .i64 v])=aN (r.set k v):=by
  have e2:bW [Value.int .i64 r[k]] 0 [.int .i64 v]=[Value.int .i64 v]:=rfl
  rw[e2]
  simp[aN,List.map_set]
 rw[e];exact h
theorem Qf:∀(T:List Sp) (r:List Int),(∀x∈r,cK x)->(∀t∈T,cK t.1)->∀x∈T.foldl wO r,cK x
 |[],r,h,_=>h
 |t::T,r,h,ht=>by
  rw[List.foldl_cons]
  refine Qf T _ (λx hx=> ?_) (λu hu=>ht u (List.mem_cons_of_mem _ hu))
  rcases List.mem_or_eq_of_mem_set hx with hx|hx
  ·exact h x hx
  ·rw[hx];exact ht t List.mem_cons_self
theorem Zd(hT:∀t∈T,cK t.1):∀x∈rowP T size m,cK x:=
 Qf _ _ (λx hx=>by rw[(List.mem_replicate.1 hx).2];exact⟨by decide,by decide⟩) (λt ht=>hT t (List.mem_of_mem_take ht))
variable {j:Nat} {S:bN}
theorem jc{a:Addr}{xs:List Int}{K:SV->Prop}(hx:∀R w,S.holds R w->bu w (some a) 1 (aN xs))(hj:j<xs.length)(e:xs.getD j 0=v)(h:K (ax v)):fT (a.add (j*1)) S K:=by
 subst e;exact bY hx hj h
theorem Eo{a b B:Int}(ha:0<=a/\a<=A)(hb:0<=b/\b<=B):0<=a*b/\a*b<=A*B:=⟨Int.mul_nonneg ha.1 hb.1,Int.mul_le_mul ha.2 hb.2 hb.1 aa⟩
structure wM(n:ai)(tl:List Int)(us:List au)(o:Nat):Prop where
 rows:us.map au.xs=(List.range o).map (iI n tl)
 bq:∀u∈us,u.bq
variable {tl:List Int} {us:List au}
theorem wM.len{n:ai}{o:Nat}(h:wM n tl us o):us.length=o:=by
 have:=congrArg List.length h.rows
 simpa using this
theorem wM.next{n:ai}{o:Nat}{u:au}(h:wM n tl us o)(hu:u.bq)(hx:u.xs=iI n tl o):wM n tl (us++[u]) (o+1):=by
 refine⟨by rw[List.map_append,h.rows,List.range_succ,List.map_append,List.map_cons,List.map_nil,List.map_cons,List.map_nil,hx],λv hv=> ?_⟩
 rcases List.mem_append.1 hv with hv|hv
 ·exact h.bq v hv
 ·rw[List.mem_singleton.1 hv];exact hu
theorem Hf{B:Base}{H:Heap}{nx i m':Nat}{w:World}{n:ai}{cnt:Nat}{bs:List Int}(hb:∀R w',S.holds R w'->(aO B.w0).holds R w')(hE:∀R w',S.holds R w'->(lZ B.w0.heap.size us).holds R w')(hw0:B.w0=w)(he:(i,bZ.rows (aS us) 1 32)∈H)(hj:(j,bZ.rows (aN bs) 1 3)∈H)(hm:m=us.length)(hm':m'=bs.length)
 (h1:wM n tl us cnt) (h2:bs=uz n cnt) (h3:∀x∈bs,i64 x) (h4:bs.length<=1000000):jI B (.sN [.os i m,.os j m']) H S nx (tY w n tl cnt):=by
 subst hw0 hm hm'
 refine dH λρ w' hw=> ?_
 have hn:=dK hw hb he
 have hn2:=dK hw hb hj
 rw[aW]at hn
 rw[aJ]at hn2
 obtain⟨base,cap,e,hc,hD⟩:=Jh hn
 obtain⟨u,f1,f2,f3,f4⟩:=uD hn2 h3 h4
 refine⟨⟨⟨base,cap,us⟩,u,true⟩,⟨h1.rows,by rw[<-h2];exact f2,h1.bq,f3,λh=>by cases h⟩,?_,aZ hw hb,hD,λ_=>⟨λv hv=>oC hw (D:=bE v) λR w' h=>hE R w' h v hv,f4⟩⟩
 show Ending.returned (.tuple #[(SV.os i us.length).rf ρ,(SV.os j bs.length).rf ρ])=_
 rw[e,f1];rfl
theorem af7{n:ai}{t:au}(hk:n.ak=5)(hsz:az t.xs=size)(o:Nat)(hT:T=pW n.size (t.xs.getD 1 0) (t.xs.getD 2 0) o)(hm:m=T.length):rowP T size m=iI n t.xs o:=by
 subst hT hm
 unfold iI bS rowP
 rw[if_neg aa,if_neg aa,if_neg aa,List.take_of_length_le (Nat.le_refl _),hsz];rfl
theorem Rp{k m n:Int}(hm:m=(c*H+y)*W+x)(hn:n=k*H*W)(hx:0<=x/\x<W)(hy:0<=y/\y<H)(hc:c<k):m<n:=by
 have u1:(c*H+y)*W+x<(c*H+y+1)*W:=by rw[Int.add_mul _ 1];omega
 have u2:c*H+y+1<=(c+1)*H:=by rw[Int.add_mul];omega
 have u3:(c*H+y+1)*W<=(c+1)*H*W:=Int.mul_le_mul_of_nonneg_right u2 aa
 have u4:(c+1)*H*W<=k*H*W:=Int.mul_le_mul_of_nonneg_right (Int.mul_le_mul_of_nonneg_right aa aa) aa
 omega
variable {z i1 i2 i:Int}
theorem aga{j:Int}{p:Nat}(hT:T=pW z i1 i2 m)(hWd:i2/z=W)(hHd:i1/z=H)(hmx:(m:Int)=(c*H+y)*W+x)(hx:0<=x/\x<W)(hy:0<=y/\y<H)(hp:p<T.length)(he:(p:Int)=i*z+j)(hj:0<=j/\j<z):T[p]=(1,(c*i1+y*z+i)*i2+x*z+j):=by
 subst hT
 have hpos:=abo hmx hx hy
 have hq:=mul_add_div (A:=i) (x:=j) (m:=z) hj
 simp only[pW,List.getElem_map,List.getElem_range]
 unfold iH
 rw[hWd,hHd,hpos.1,hpos.2.1,hpos.2.2,he,hq.1,hq.2]
theorem TV(hT:T=pW z i1 i2 o):∀t∈T,cK t.1:=λt ht=>by
 subst hT
 obtain⟨k,_,rfl⟩:=List.mem_map.1 ht
 exact⟨(show(-1048576:Int)<=1 by decide),(show(1:Int)<=1048576 by decide)⟩
theorem amo{p:Nat}{L j:Int}(hL:L=z*z)(hp:(p:Int)=i*z+j)(hi:i<z)(hj:0<=j/\j<z):p<L:=by
 have u1:(i+1)*z<=z*z:=Int.mul_le_mul_of_nonneg_right aa aa
 rw[Int.add_mul,Int.one_mul]at u1
 omega
theorem amm(hc:0<=c/\c<=64)(h1:0<=i1/\i1<=64)(hy:0<=y/\y<=64)(hz:0<=z/\z<=64)(hi:0<=i/\i<=64)(h2:0<=i2/\i2<=64)(hx:0<=x/\x<=64):(0<=c*i1/\c*i1<=4096)/\(0<=y*z/\y*z<=4096)/\(0<=(c*i1+y*z+i)*i2/\(c*i1+y*z+i)*i2<=576000)/\(0<=x*z/\x*z<=4096):=by
 have e1:=Eo (a:=c) (b:=i1) (A:=64) (B:=64) hc h1
 have e2:=Eo (a:=y) (b:=z) (A:=64) (B:=64) hy hz
 have e3:=Eo (a:=c*i1+y*z+i) (b:=i2) (A:=9000) (B:=64) aa h2
 have e4:=Eo (a:=x) (b:=z) (A:=64) (B:=64) hx hz
 omega
theorem KW(us:List au)(base:Option Addr)(cap:Nat)(xs:List Int)(hm:m=us.length)(hk:k=xs.length){i:Nat}{T:TypeId}{H:Heap}:(i,bZ.rows (aS (us++[au.mk base cap xs])) 1 T)∈(i,bZ.rows (List.take m (aS us)++[[.slice base k cap]]) 1 T)::H:=by
 subst hm hk;exact wX us _
theorem X7(k:Nat):aN (List.replicate k 0)=List.replicate k [Value.int .i64 0]:=by simp[aN]
end
theorem aeX(w:World)(n:ai)(t:au)(ht:t.ok w)(hno:n.ok w)(hk:n.ak=5)(size cnt:Nat)(i0 i1 i2:Int)(htx:t.xs=[i0,i1,i2])(hsz:az t.xs=size)(aa6:size<=64)(b0:1<=i0/\i0<=64)(b1:n.size<=i1/\i1<=64)(b2:n.size<=i2/\i2<=64)(bz:1<=n.size)(m1:i1%n.size=0)(m2:i2%n.size=0)(hcnt:(cnt:Int)=i0*(i1/n.size)*(i2/n.size))(U1:cnt<=64)(hat:∀o:Nat,o<cnt->∀s∈pW n.size i1 i2 o,0<=s.2/\s.2<size):Calls Tryz.prog 91 #[n.j3,t.val] w (tY w n t.xs cnt):=by
 obtain⟨ut,hut⟩:=ht.base (by rw[htx];simp)
 have hur:∀(R:Nat->Prop) w',(aO w).holds R w'->bu w' (some ut) 1 (aN t.xs):=λR w' h=>by rw[<-hut];exact aA h ht.rows
 have g0:t.xs.getD 0 0=i0:=by rw[htx];rfl
 have g1:t.xs.getD 1 0=i1:=by rw[htx];rfl
 have g2:t.xs.getD 2 0=i2:=by rw[htx];rfl
 have hz0:0<=n.size:=Int.le_trans aY bz
 have hW:=oF (x:=i2) (y:=n.size) bz b2.1
 have hH:=oF (x:=i1) (y:=n.size) bz b1.1
 have hW2:=Int.ediv_le_self n.size (show 0<=i2 from Int.le_trans hz0 b2.1)
 have hH2:=Int.ediv_le_self n.size (show 0<=i1 from Int.le_trans hz0 b1.1)
 have hTl:∀o:Nat,((pW n.size i1 i2 o).length:Int)=n.size*n.size:=λo=>by
  have:0<=n.size*n.size:=Int.mul_nonneg hz0 hz0
  simp only[pW,List.length_map,List.length_range];exact Int.toNat_of_nonneg this
 generalize hWd:i2/n.size=W at*
 generalize hHd:i1/n.size=H at*
 have hW0:0<=W:=Int.le_trans aY hW
 have hH0:0<=H:=Int.le_trans aY hH
 have anK:0<=i0:=Int.le_trans aY b0.1
 clear m1 m2
 have hl3:t.xs.length=3:=by rw[htx];rfl
 have hd1:t.xs.getD 1 0/n.size=H:=by rw[g1,hHd]
 have hd2:t.xs.getD 2 0/n.size=W:=by rw[g2,hWd]
 refine fH Tryz.func91 [.agg (jN n),.c t.val] ?_
 repeat' ((conv=>whnf)<;>first|refine afd ?_|(show bV ..;refine aH _ 1 hut rfl aa ?_)|(show fT ..;refine bY hur (j:=1) aa ?_)|(show bV ..;refine aH _ 2 hut rfl aa ?_)|(show fT ..;refine bY hur (j:=2) aa ?_)|(show wK ..;(first|refine P8 hd1 aa aa aa ?_|refine P8 hd2 aa aa aa ?_))|refine bn ?_|refine ag ?_ ?_<;>intro _)
 refine Wp.loop (σ:=Int×Nat×List au) 2 (λ⟨c,m,us⟩=>[(1,.c t.val),(2,.lp 0 0 0 0),(6,ax size),(9,ax H),(10,ax W),(7,.os 1 m),(11,ax c)]) (λ⟨_,_,us⟩=>[(1,.rows (aS us) 1 32),(0,.box (jN n) 41)]) (λ⟨_,_,us⟩=>(aO w).and (lZ w.heap.size us))
  (λ⟨c,m,us⟩=>(0<=c/\c<=i0)/\wM n t.xs us m/\(m:Int)=c*H*W) (λs=>(i0-s.1).toNat) (0,0,[]) [(1,none)] aY (λs=>⟨rfl,rfl⟩) ⟨⟨Int.le_refl _,anK⟩,⟨rfl,λu hu=>by simp at hu⟩,by simp⟩ ⟨rfl,⟨rfl,rfl,?_,rfl,rfl,rfl,rfl,trivial⟩,⟨rfl,aU,trivial⟩,λR w' h=>⟨h,xR _ R w'⟩⟩ ?_
 ·rw[hsz];rfl
 rintro⟨c,m,us⟩ ⟨⟨hc0,hc1⟩,hso,hmc⟩
 by_cases hci:c<i0
 ·repeat' ((conv=>whnf)<;>first|(show bV ..;refine aH _ 0 hut rfl aa ?_)|(show fT ..;refine bY (λR w' h=>hur R w' h.1) (j:=0) aa ?_)|refine bn ?_|refine ag ?_ ?_<;>intro _)
  refine Wp.loop (σ:=Int×Nat×List au) 3 (λ⟨y,m,us⟩=>[(1,.c t.val),(2,.lp 0 0 0 0),(6,ax size),(9,ax H),(10,ax W),(7,.os 2 m),(11,ax c),(12,ax y)]) (λ⟨_,_,us⟩=>[(2,.rows (aS us) 1 32),(0,.box (jN n) 41)]) (λ⟨_,_,us⟩=>(aO w).and (lZ w.heap.size us))
   (λ⟨y,m,us⟩=>(0<=y/\y<=H)/\wM n t.xs us m/\(m:Int)=(c*H+y)*W) (λs=>(H-s.1).toNat) (0,m,us) [(2,some 1)] aY (λs=>⟨rfl,rfl⟩) ⟨⟨Int.le_refl _,hH0⟩,hso,by rw[hmc,Int.add_zero]⟩ ⟨rfl,⟨rfl,rfl,rfl,rfl,rfl,rfl,rfl,rfl,trivial⟩,bM,λ_ _ h=>h⟩ ?_
  clear hmc hso
  have hcB:0<=c/\c<=64:=⟨hc0,Int.le_trans hc1 b0.2⟩
  rintro⟨y,m,us⟩ ⟨⟨hy0,hy1⟩,hso,hmy⟩
  by_cases hyi:y<H
  ·repeat' ((conv=>whnf)<;>first|refine bn ?_|refine ag ?_ ?_<;>intro _)
   refine Wp.loop (σ:=Int×Nat×List au) 4 (λ⟨x,m,us⟩=>[(1,.c t.val),(2,.lp 0 0 0 0),(6,ax size),(9,ax H),(10,ax W),(7,.os 3 m),(11,ax c),(12,ax y),(13,ax x)]) (λ⟨_,_,us⟩=>[(3,.rows (aS us) 1 32),(0,.box (jN n) 41)]) (λ⟨_,_,us⟩=>(aO w).and (lZ w.heap.size us))
    (λ⟨x,m,us⟩=>(0<=x/\x<=W)/\wM n t.xs us m/\(m:Int)=(c*H+y)*W+x) (λs=>(W-s.1).toNat) (0,m,us) [(3,some 2)] aY (λs=>⟨rfl,rfl⟩) ⟨⟨Int.le_refl _,hW0⟩,hso,by rw[hmy,Int.add_zero]⟩ ⟨rfl,⟨rfl,rfl,rfl,rfl,rfl,rfl,rfl,rfl,rfl,trivial⟩,bM,λ_ _ h=>h⟩ ?_
   clear hmy hso
   have hyB:0<=y/\y<=64:=⟨hy0,Int.le_trans hy1 (Int.le_trans hH2 b1.2)⟩
   rintro⟨x,m,us⟩ ⟨⟨hx0,hx1⟩,hso,hmx⟩
   by_cases hxi:x<W
   ·repeat' ((conv=>whnf)<;>first|(show mJ ..;(refine jC size rfl rfl DI aa ?_))|refine bn ?_|refine ag ?_ ?_<;>intro _)
    have ac9:m<cnt:=by have:=Rp hmx hcnt ⟨hx0,hxi⟩ ⟨hy0,hyi⟩ hci;omega
    have Rl:=hat m ac9
    have hTe:∃T,T=pW n.size i1 i2 m:=⟨_,rfl⟩
    obtain⟨T,hT⟩:=hTe
    have hTz:=hTl m
    have Xy:∀(p:Nat) (i j:Int) (hp:p<T.length),(p:Int)=i*n.size+j->0<=j->j<n.size->T[p]=(1,(c*i1+y*n.size+i)*i2+x*n.size+j):=λp i j hp he h0 h1=>aga hT hWd hHd hmx ⟨hx0,hxi⟩ ⟨hy0,hyi⟩ hp he ⟨h0,h1⟩
    have hTb:=TV hT
    have hxB:0<=x/\x<=64:=⟨hx0,Int.le_trans hx1 (Int.le_trans hW2 b2.2)⟩
    have hzB:0<=n.size/\n.size<=64:=⟨hz0,Int.le_trans b1.1 b1.2⟩
    have hB1:0<=i1/\i1<=64:=⟨Int.le_trans hz0 b1.1,b1.2⟩
    have hB2:0<=i2/\i2<=64:=⟨Int.le_trans hz0 b2.1,b2.2⟩
    rw[<-hT]at Rl hTz
    refine Wp.loop (σ:=Int×Nat) 5 (λ⟨i,_⟩=>[(1,.c t.val),(2,.lp 0 0 0 0),(6,ax size),(9,ax H),(10,ax W),(7,.os 3 m),(11,ax c),(12,ax y),(13,ax x),(14,.os 4 size),(15,ax i)]) (λ⟨_,p⟩=>[(4,.rows (aN (rowP T size p)) 1 3),(3,.rows (aS us) 1 32),(0,.box (jN n) 41)]) (λ_=>(aO w).and (lZ w.heap.size us))
     (λ⟨i,p⟩=>(0<=i/\i<=n.size)/\(p:Int)=i*n.size) (λs=>(n.size-s.1).toNat) (0,0) [] aY (λs=>⟨rfl,rfl⟩) ⟨⟨Int.le_refl _,hz0⟩,(Int.zero_mul _).symm⟩ ⟨rfl,⟨rfl,rfl,rfl,rfl,rfl,rfl,rfl,rfl,rfl,rfl,rfl,trivial⟩,⟨?_,aU,aU,trivial⟩,λ_ _ h=>h⟩ ?_
    ·have:aN (rowP T size 0)=List.replicate size [Value.int .i64 0]:=by simp[aN,rowP]
     show(4,bZ.rows (aN (rowP T size 0)) 1 3)∈_
     rw[this]
     exact aU
    rintro⟨i,p⟩ ⟨⟨hi0,hi1⟩,hpi⟩
    by_cases hii:i<n.size
    ·clear hcnt hmx ac9 hso hTl hat hT hTb hsz hno ht hW hH hW2 hH2 hd1 hd2 hWd hHd b1 b2 b0 U1
     repeat' ((conv=>whnf)<;>first|refine bn ?_|refine ag ?_ ?_<;>intro _)
     refine Wp.loop (σ:=Int×Nat) 5 (λ⟨j,_⟩=>[(1,.c t.val),(2,.lp 0 0 0 0),(6,ax size),(9,ax H),(10,ax W),(7,.os 3 m),(11,ax c),(12,ax y),(13,ax x),(14,.os 4 size),(15,ax i),(16,ax j)]) (λ⟨_,p⟩=>[(4,.rows (aN (rowP T size p)) 1 3),(3,.rows (aS us) 1 32),(0,.box (jN n) 41)]) (λ_=>(aO w).and (lZ w.heap.size us))
      (λ⟨j,p⟩=>(0<=j/\j<=n.size)/\(p:Int)=i*n.size+j) (λs=>(n.size-s.1).toNat) (0,p) [] aY (λs=>⟨rfl,rfl⟩) ⟨⟨Int.le_refl _,hz0⟩,by rw[hpi,Int.add_zero]⟩ ⟨rfl,⟨rfl,rfl,rfl,rfl,rfl,rfl,rfl,rfl,rfl,rfl,rfl,rfl,trivial⟩,bM,λ_ _ h=>h⟩ ?_
     rintro⟨j,p⟩ ⟨⟨hj0,hj1⟩,hpj⟩
     by_cases hji:j<n.size
     ·have hpT:p<T.length:=by have:=amo hTz hpj hii ⟨hj0,hji⟩;omega
      have hTp:=Xy p i j hpT hpj hj0 hji
      have hb:=Rl _ (List.getElem_mem hpT)
      have hsu:=OG (size:=size) hpT
      rw[hTp]at hb hsu
      have E:=amm (c:=c) (i1:=i1) (y:=y) (z:=n.size) (i:=i) (i2:=i2) (x:=x) hcB hB1 hyB hzB ⟨hi0,Int.le_trans hi1 hzB.2⟩ hB2 hxB
      have e1:=E.1
      have e2:=E.2.1
      have e3:=E.2.2.1
      have e4:=E.2.2.2
      clear E
      have hb2:0<=(c*i1+y*n.size+i)*i2+x*n.size+j/\(c*i1+y*n.size+i)*i2+x*n.size+j<size:=hb
      have hex:∃r:Nat,(c*i1+y*n.size+i)*i2+x*n.size+j=r:=⟨_,(Int.toNat_of_nonneg hb2.1).symm⟩
      obtain⟨r,hr⟩:=hex
      rw[hr]at hsu hb2
      have hrl:r<size:=Int.ofNat_lt.1 hb2.2
      clear Xy Rl hTp hTz hpi hb hb2
      repeat' ((conv=>whnf)<;>first|(show bV ..;(first|refine aH _ 1 hut rfl aa ?_|refine aH _ 2 hut rfl aa ?_))|(show fT ..;(first|refine jc (λR w' h=>hur R w' h.1) (j:=1) aa g1 ?_|refine jc (λR w' h=>hur R w' h.1) (j:=2) aa g2 ?_))|(show di ..;(refine bg r hr hrl ahy ?_))|(show cO ..;(refine Kw (by rw[jr];exact hrl) ?_))|(show b_ _ 28 ..;refine lu [25] _ ak_ ?_)|refine bn ?_|refine ag ?_ ?_<;>intro _)
      all_goals(conv=>whnf)
      exact⟨(j+1,p+1),[],⟨⟨Int.le_add_one hj0,hji⟩,by rw[Int.natCast_add,hpj,Int.add_assoc];rfl⟩,by simp only;omega,rfl,bM,⟨by
       show(4,bZ.rows (aN (rowP T size (p+1))) 1 3)∈_
       rw[hsu];exact aU,aU,aU,trivial⟩,λ_ _ h=>h⟩
     ·have hjz:j=n.size:=Int.le_antisymm hj1 (Int.not_lt.1 hji)
      subst hjz
      repeat' ((conv=>whnf)<;>first|refine bn ?_|refine ag ?_ ?_<;>intro _)
      all_goals(conv=>whnf)
      exact⟨(i+1,p),[],⟨⟨Int.le_add_one hi0,hii⟩,by rw[hpj,Int.add_mul,Int.one_mul]⟩,by simp only;omega,rfl,bM,bM,λ_ _ h=>h⟩
    ·have hiz:i=n.size:=Int.le_antisymm hi1 (Int.not_lt.1 hii)
     subst hiz
     have hpT:p=T.length:=Int.ofNat.inj (hpi.trans hTz.symm)
     refine Wp.yI 4 w.heap.size (k:=1) (xs:=aN (rowP T size p)) (T:=3) aU (λR w' h b hb=>(h.1 b hb).1) (λl1 hl1=> ?_)
     rw[aJ,jr]at hl1
     have hml:us.length=m:=hso.len
     clear hcnt hpi hTz Xy Rl hTl hat
     repeat' ((conv=>whnf)<;>first|(show vO ..;(refine gY agH ?_))|(show gP ..;(refine dP afi ?_))|refine bn ?_|refine ag ?_ ?_<;>intro _)
     all_goals(conv=>whnf)
     exact⟨(x+1,m+1,us++[au.mk l1.base l1.cap (rowP T size p)]),[(3,some 6)],⟨⟨Int.le_add_one hx0,hxi⟩,hso.next ⟨λv hv=>by have:=Zd hTb v hv;unfold cK at this;exact⟨by omega,by omega⟩,by rw[jr];exact hl1,by rw[jr];omega⟩ (af7 hk hsz m (hT.trans (by rw[g1,g2])) hpT),by rw[Int.natCast_add,hmx,Int.add_assoc];rfl⟩,by simp only;omega,rfl,bM,⟨KW us l1.base l1.cap (rowP T size p) hml.symm (jr _ _ _).symm,aU,trivial⟩,λR w' h=>⟨h.1.1,kX h.1.2 h.2⟩⟩
   ·have hxz:x=W:=Int.le_antisymm hx1 (Int.not_lt.1 hxi)
    subst hxz
    repeat' ((conv=>whnf)<;>first|refine bn ?_|refine ag ?_ ?_<;>intro _)
    all_goals(conv=>whnf)
    exact⟨(y+1,m,us),[(2,some 3)],⟨⟨by omega,by omega⟩,hso,by rw[hmx];grind⟩,by simp only;omega,rfl,bM,bM,λ_ _ h=>h⟩
  ·have hyz:y=H:=Int.le_antisymm hy1 (Int.not_lt.1 hyi)
   subst hyz
   repeat' ((conv=>whnf)<;>first|refine bn ?_|refine ag ?_ ?_<;>intro _)
   all_goals(conv=>whnf)
   exact⟨(c+1,m,us),[(1,some 2)],⟨⟨by omega,by omega⟩,hso,by rw[hmy];grind⟩,by simp only;omega,rfl,bM,bM,λ_ _ h=>h⟩
 ·obtain rfl:c=i0:=Int.le_antisymm hc1 (Int.not_lt.1 hci)
  have adM:m=cnt:=by omega
  subst adM
  repeat' ((conv=>whnf)<;>first|(show bV ..;refine aH _ 0 hut rfl aa ?_)|(show fT ..;refine bY (λR w' h=>hur R w' h.1) (j:=0) aa ?_)|(show mJ ..;(refine jC m rfl rfl DI aa ?_))|(show b_ _ 30 ..;refine lu [] _ ak9 ?_)|refine bn ?_|refine ag ?_ ?_<;>intro _)
  all_goals(conv=>whnf)
  refine Hf (i:=1) (j:=2) (B:=⟨w,[]⟩) (S:=(aO w).and (lZ w.heap.size us)) (bs:=List.replicate m 0) (λ_ _ h=>h.1) (λ_ _ h=>h.2) rfl aU (by rw[X7];exact aU) hso.len.symm (by rw[List.length_replicate]) hso ?_ (λx hx=>by rw[(List.mem_replicate.1 hx).2];exact⟨by decide,by decide⟩) Oz
  unfold uz
  apply List.ext_getElem
  ·simp
  ·intro k g1 g2
   rw[List.getElem_map,List.getElem_range,List.getElem_replicate]
   unfold dI
   rw[if_neg aa,if_neg aa]
section
variable {o k1 c k0:Int}
theorem KO(ho:0<=o/\o<k0)(hc:0<=c/\c<k1):o*k1+c<k0*k1:=by
 have u:(o+1)*k1<=k0*k1:=Int.mul_le_mul_of_nonneg_right aa aa
 rw[Int.add_mul,Int.one_mul]at u
 omega
variable {T:List Sp} {d:List Int} {k2 k3 i1 i2 W H y x i j:Int} {m:Nat}
theorem afv{p q:Nat}(hT:T=pz d k1 k2 k3 i1 i2 m)(hWd:i2-k3+1=W)(hHd:i1-k2+1=H)(hmx:(m:Int)=(o*H+y)*W+x)(hx:0<=x/\x<W)(hy:0<=y/\y<H)(hp:p<T.length)(he:(p:Int)=(c*k2+i)*k3+j)(hi:0<=i/\i<k2)(hj:0<=j/\j<k3)(hq:((o*k1+c)*k2+i)*k3+j=q):T[p]=(d.getD q 0,(c*i1+y+i)*i2+x+j):=by
 subst hT
 have h1:=abo hmx hx hy
 have h2:=abo he hj hi
 have h3:(o*k1*k2*k3+(p:Int)).toNat=q:=by
  have:o*k1*k2*k3+(p:Int)=q:=by rw[he,<-hq];grind
  rw[this];rfl
 simp only[pz,List.getElem_map,List.getElem_range]
 unfold gQ
 rw[hWd,hHd,h1.1,h1.2.1,h1.2.2,h2.1,h2.2.1,h2.2.2,h3]
variable {cnt:Nat}
theorem aeT{len:Nat}(hcnt:(cnt:Int)=k0*H*W)(hbl:(len:Int)=k0)(hk:0<k0)(hm:(m:Int)=(o*H+y)*W+x)(hx:0<=x/\x<W)(hy:0<=y/\y<H)(ho:0<=o):m/(cnt/len)=o.toNat:=by
 have e1:((cnt/len:Nat):Int)=H*W:=by rw[Int.natCast_ediv,hcnt,hbl,Int.mul_assoc];exact Int.mul_ediv_cancel_left _ aa
 have e2:((m/(cnt/len):Nat):Int)=o:=by
  rw[Int.natCast_ediv,e1,hm]
  have e:(o*H+y)*W+x=o*(H*W)+(y*W+x):=by grind
  rw[e]
  have b:y*W+x<H*W:=KO hy hx
  have b0:=Int.mul_nonneg hy.1 (show 0<=W by omega)
  exact(mul_add_div ⟨by omega,b⟩).1
 omega
theorem acG{n:ai}{t:au}(hk:n.ak=4){size:Nat}(hsz:az t.xs=size)(o:Nat)(hT:T=pz n.data.xs (n.ay.xs.getD 1 0) (n.ay.xs.getD 2 0) (n.ay.xs.getD 3 0) (t.xs.getD 1 0) (t.xs.getD 2 0) o)(hm:m=T.length):rowP T size m=iI n t.xs o:=by
 subst hT hm
 unfold iI bS rowP
 rw[if_neg aa,if_neg aa,if_pos hk,List.take_of_length_le (Nat.le_refl _),hsz];rfl
theorem RV(hd:∀x∈d,cK x)(hT:T=pz d k1 k2 k3 i1 i2 o):∀t∈T,cK t.1:=λt ht=>by
 subst hT
 obtain⟨k,_,rfl⟩:=List.mem_map.1 ht
 exact dO hd _
structure IxC(c i1 y i i2 x j o k1 k2 k3:Int):Prop where
 a1:0<=c*i1/\c*i1<=4096
 a2:0<=(c*i1+y+i)*i2/\(c*i1+y+i)*i2<=270336
 a3:0<=o*k1/\o*k1<=4096
 a4:0<=(o*k1+c)*k2/\(o*k1+c)*k2<=266240
 a5:0<=((o*k1+c)*k2+i)*k3/\((o*k1+c)*k2+i)*k3<=17043456
abbrev Ra(x:Int):Prop:=0<=x/\x<=64
theorem aok(hc:Ra c)(h1:Ra i1)(hy:Ra y)(hi:Ra i)(h2:Ra i2)(ho:Ra o)(g1:Ra k1)(g2:Ra k2)(g3:Ra k3):IxC c i1 y i i2 x j o k1 k2 k3:=by
 have e1:=Eo (a:=c) (b:=i1) (A:=64) (B:=64) hc h1
 have e2:=Eo (a:=c*i1+y+i) (b:=i2) (A:=4224) (B:=64) aa h2
 have e3:=Eo (a:=o) (b:=k1) (A:=64) (B:=64) ho g1
 have e4:=Eo (a:=o*k1+c) (b:=k2) (A:=4160) (B:=64) aa g2
 have e5:=Eo (a:=(o*k1+c)*k2+i) (b:=k3) (A:=266304) (B:=64) aa g3
 exact⟨e1,e2,e3,e4,e5⟩
structure zV(n:ai)(tl:List Int)(cnt:Nat)(us:List au)(bs:List Int)(m:Nat):Prop where
 rows:wM n tl us m
 aM:bs=(List.range m).map (dI n cnt)
variable {tl bs:List Int} {us:List au}
theorem zV.ajj{n:ai}(h:zV n tl cnt us bs m):bs.length=m:=by rw[h.aM];simp
theorem zV.next{n:ai}{tl:List Int}{cnt:Nat}{us:List au}{bs:List Int}{m:Nat}{u:au}{b:Int}(h:zV n tl cnt us bs m)(hu:u.bq)(hx:u.xs=iI n tl m)(hb:dI n cnt m=b):zV n tl cnt (us++[u]) (bs++[b]) (m+1):=
 ⟨h.rows.next hu hx,by rw[h.aM,<-hb,List.range_succ,List.map_append];rfl⟩
theorem oO(bs:List Int)(x:Int)(hm:m=bs.length){i:Nat}{T:TypeId}{H:Heap}:(i,bZ.rows (aN (bs++[x])) 1 T)∈(i,bZ.rows (List.take m (aN bs)++[[.int .i64 x]]) 1 T)::H:=by
 subst hm;exact Oj bs x
end
theorem acj(w:World)(n:ai)(t:au)(ht:t.ok w)(hno:n.ok w)(hk:n.ak=4)(size cnt:Nat)(k0 k1 k2 k3 i1 i2:Int)(hsx:n.ay.xs=[k0,k1,k2,k3])(htx:t.xs=[k1,i1,i2])(hsz:az t.xs=size)(aa6:size<=64)(b0:1<=k0/\k0<=64)(b1:1<=k1/\k1<=64)(b2:1<=k2/\k2<=i1)(b3:1<=k3/\k3<=i2)(bi1:i1<=64)(bi2:i2<=64)(hdl:(n.data.xs.length:Int)=k0*k1*k2*k3)(hbl:(n.aM.xs.length:Int)=k0)(hdb:∀x∈n.data.xs,cK x)(hbb:∀x∈n.aM.xs,cK x)(hcnt:(cnt:Int)=k0*(i1-k2+1)*(i2-k3+1))(U1:cnt<=64)(hat:∀o:Nat,o<cnt->∀s∈pz n.data.xs k1 k2 k3 i1 i2 o,0<=s.2/\s.2<size):Calls Tryz.prog 91 #[n.j3,t.val] w (tY w n t.xs cnt):=by
 have amA:0<n.data.xs.length:=by
  have:=Int.mul_pos (Int.mul_pos (Int.mul_pos (show 0<k0 by omega) (show 0<k1 by omega)) (show 0<k2 by omega)) (show 0<k3 by omega)
  omega
 obtain⟨ut,hut⟩:=ht.base (by rw[htx];simp)
 obtain⟨ua,fI⟩:=hno.ay.base (by rw[hsx];simp)
 obtain⟨ub,hub⟩:=hno.aM.base aa
 obtain⟨ud,hud⟩:=hno.data.base amA
 have hur:∀(R:Nat->Prop) w',(aO w).holds R w'->bu w' (some ut) 1 (aN t.xs):=λR w' h=>by rw[<-hut];exact aA h ht.rows
 have P6:∀(R:Nat->Prop) w',(aO w).holds R w'->bu w' (some ua) 1 (aN n.ay.xs):=λR w' h=>by rw[<-fI];exact aA h hno.ay.rows
 have hbr:∀(R:Nat->Prop) w',(aO w).holds R w'->bu w' (some ub) 1 (aN n.aM.xs):=λR w' h=>by rw[<-hub];exact aA h hno.aM.rows
 have hdr:∀(R:Nat->Prop) w',(aO w).holds R w'->bu w' (some ud) 1 (aN n.data.xs):=λR w' h=>by rw[<-hud];exact aA h hno.data.rows
 have g1:t.xs.getD 1 0=i1:=by rw[htx];rfl
 have g2:t.xs.getD 2 0=i2:=by rw[htx];rfl
 have s0:n.ay.xs.getD 0 0=k0:=by rw[hsx];rfl
 have s1:n.ay.xs.getD 1 0=k1:=by rw[hsx];rfl
 have s2:n.ay.xs.getD 2 0=k2:=by rw[hsx];rfl
 have s3:n.ay.xs.getD 3 0=k3:=by rw[hsx];rfl
 have hl3:t.xs.length=3:=by rw[htx];rfl
 have hl4:n.ay.xs.length=4:=by rw[hsx];rfl
 obtain⟨H,hHd⟩:∃H,i1-k2+1=H:=⟨_,rfl⟩
 obtain⟨W,hWd⟩:∃W,i2-k3+1=W:=⟨_,rfl⟩
 rw[hHd,hWd]at hcnt
 have hH0:0<=H:=by omega
 have hW0:0<=W:=by omega
 have hTl:∀o:Nat,((pz n.data.xs k1 k2 k3 i1 i2 o).length:Int)=k1*k2*k3:=λo=>by
  have:0<=k1*k2*k3:=Int.mul_nonneg (Int.mul_nonneg aa aa) aa
  simp only[pz,List.length_map,List.length_range];exact Int.toNat_of_nonneg this
 have c1:Ra k1:=⟨by omega,b1.2⟩
 have c2:Ra k2:=⟨by omega,by omega⟩
 have c3:Ra k3:=⟨by omega,by omega⟩
 have ci1:Ra i1:=⟨by omega,bi1⟩
 have ci2:Ra i2:=⟨by omega,bi2⟩
 refine fH Tryz.func91 [.agg (jN n),.c t.val] ?_
 repeat' ((conv=>whnf)<;>first|refine afd ?_|refine bn ?_|refine ag ?_ ?_<;>intro _)
 refine Wp.loop (σ:=Int×Nat×List au×List Int) 3 (λ⟨o,m,us,bs⟩=>[(1,.c t.val),(2,.lp 0 0 0 0),(6,ax size),(18,.c n.ay.val),(7,.os 1 m),(17,.os 2 m),(19,ax o)]) (λ⟨_,_,us,bs⟩=>[(1,.rows (aS us) 1 32),(2,.rows (aN bs) 1 3),(0,.box (jN n) 41)]) (λ⟨_,_,us,_⟩=>(aO w).and (lZ w.heap.size us))
  (λ⟨o,m,us,bs⟩=>(0<=o/\o<=k0)/\zV n t.xs cnt us bs m/\(m:Int)=o*H*W) (λs=>(k0-s.1).toNat) (0,0,[],[]) [(1,none),(2,none)] aY (λs=>⟨rfl,rfl⟩) ⟨⟨Int.le_refl _,by omega⟩,⟨⟨rfl,λu hu=>by simp at hu⟩,rfl⟩,by simp⟩ ⟨rfl,⟨rfl,rfl,?_,rfl,rfl,rfl,rfl,trivial⟩,⟨rfl,rfl,aU,trivial⟩,λR w' h=>⟨h,xR _ R w'⟩⟩ ?_
 ·rw[hsz];rfl
 rintro⟨o,m,us,bs⟩ ⟨⟨ho0,ho1⟩,hso,hmo⟩
 by_cases hok:o<k0
 ·repeat' ((conv=>whnf)<;>first|refine Jf ?_|refine JD ?_|refine bn ?_|refine ag ?_ ?_<;>intro _)
  refine Wp.loop (σ:=Int×Nat×List au×List Int) 5 (λ⟨y,m,us,bs⟩=>[(1,.c t.val),(2,.lp 0 0 0 0),(6,ax size),(18,.c n.ay.val),(7,.os 3 m),(17,.os 4 m),(19,ax o),(20,ax y)]) (λ⟨_,_,us,bs⟩=>[(3,.rows (aS us) 1 32),(4,.rows (aN bs) 1 3),(0,.box (jN n) 41)]) (λ⟨_,_,us,_⟩=>(aO w).and (lZ w.heap.size us))
   (λ⟨y,m,us,bs⟩=>(0<=y/\y<=H)/\zV n t.xs cnt us bs m/\(m:Int)=(o*H+y)*W) (λs=>(H-s.1).toNat) (0,m,us,bs) [(3,some 1),(4,some 2)] aY (λs=>⟨rfl,rfl⟩) ⟨⟨Int.le_refl _,hH0⟩,hso,by rw[hmo,Int.add_zero]⟩ ⟨rfl,⟨rfl,rfl,rfl,rfl,rfl,rfl,rfl,rfl,trivial⟩,bM,λ_ _ h=>h⟩ ?_
  clear hmo hso
  have co:Ra o:=⟨ho0,Int.le_trans ho1 b0.2⟩
  rintro⟨y,m,us,bs⟩ ⟨⟨hy0,hy1⟩,hso,hmy⟩
  by_cases hyi:y<H
  ·repeat' ((conv=>whnf)<;>first|refine Jf ?_|refine JD ?_|refine bn ?_|refine ag ?_ ?_<;>intro _)
   refine Wp.loop (σ:=Int×Nat×List au×List Int) 7 (λ⟨x,m,us,bs⟩=>[(1,.c t.val),(2,.lp 0 0 0 0),(6,ax size),(18,.c n.ay.val),(7,.os 5 m),(17,.os 6 m),(19,ax o),(20,ax y),(21,ax x)]) (λ⟨_,_,us,bs⟩=>[(5,.rows (aS us) 1 32),(6,.rows (aN bs) 1 3),(0,.box (jN n) 41)]) (λ⟨_,_,us,_⟩=>(aO w).and (lZ w.heap.size us))
    (λ⟨x,m,us,bs⟩=>(0<=x/\x<=W)/\zV n t.xs cnt us bs m/\(m:Int)=(o*H+y)*W+x) (λs=>(W-s.1).toNat) (0,m,us,bs) [(5,some 3),(6,some 4)] aY (λs=>⟨rfl,rfl⟩) ⟨⟨Int.le_refl _,hW0⟩,hso,by rw[hmy,Int.add_zero]⟩ ⟨rfl,⟨rfl,rfl,rfl,rfl,rfl,rfl,rfl,rfl,rfl,trivial⟩,bM,λ_ _ h=>h⟩ ?_
   clear hmy hso
   have cy:Ra y:=⟨hy0,by omega⟩
   rintro⟨x,m,us,bs⟩ ⟨⟨hx0,hx1⟩,hso,hmx⟩
   by_cases hxi:x<W
   ·repeat' ((conv=>whnf)<;>first|refine Jf ?_|refine JD ?_|(show mJ ..;(refine jC size rfl rfl DI aa ?_))|refine bn ?_|refine ag ?_ ?_<;>intro _)
    have ac9:m<cnt:=Int.ofNat_lt.1 (Rp hmx hcnt ⟨hx0,hxi⟩ ⟨hy0,hyi⟩ hok)
    have Rl:=hat m ac9
    have hTe:∃T,T=pz n.data.xs k1 k2 k3 i1 i2 m:=⟨_,rfl⟩
    obtain⟨T,hT⟩:=hTe
    have hTz:=hTl m
    have Xy:∀(p q:Nat) (c i j:Int) (hp:p<T.length),(p:Int)=(c*k2+i)*k3+j->0<=i/\i<k2->0<=j/\j<k3->((o*k1+c)*k2+i)*k3+j=q->T[p]=(n.data.xs.getD q 0,(c*i1+y+i)*i2+x+j):=λp q c i j hp he h0 h1 hq=>afv hT hWd hHd hmx ⟨hx0,hxi⟩ ⟨hy0,hyi⟩ hp he h0 h1 hq
    have hTb:=RV hdb hT
    have hbi:dI n cnt m=n.aM.xs.getD o.toNat 0:=by
     unfold dI
     rw[if_neg aa,if_pos hk,aeT hcnt hbl aa hmx ⟨hx0,hxi⟩ ⟨hy0,hyi⟩ ho0]
    have cx:Ra x:=⟨hx0,by omega⟩
    rw[<-hT]at Rl hTz
    clear hTl hat
    refine Wp.loop (σ:=Int×Nat) 8 (λ⟨c,_⟩=>[(1,.c t.val),(2,.lp 0 0 0 0),(6,ax size),(18,.c n.ay.val),(7,.os 5 m),(17,.os 6 m),(19,ax o),(20,ax y),(21,ax x),(22,.os 7 size),(23,ax c)]) (λ⟨_,p⟩=>[(7,.rows (aN (rowP T size p)) 1 3),(5,.rows (aS us) 1 32),(6,.rows (aN bs) 1 3),(0,.box (jN n) 41)]) (λ_=>(aO w).and (lZ w.heap.size us))
     (λ⟨c,p⟩=>(0<=c/\c<=k1)/\(p:Int)=c*k2*k3) (λs=>(k1-s.1).toNat) (0,0) [] aY (λs=>⟨rfl,rfl⟩) ⟨⟨Int.le_refl _,c1.1⟩,by simp⟩ ⟨rfl,⟨rfl,rfl,rfl,rfl,rfl,rfl,rfl,rfl,rfl,rfl,rfl,trivial⟩,⟨?_,aU,aU,aU,trivial⟩,λ_ _ h=>h⟩ ?_
    ·have:aN (rowP T size 0)=List.replicate size [Value.int .i64 0]:=by simp[aN,rowP]
     show(7,bZ.rows (aN (rowP T size 0)) 1 3)∈_
     rw[this]
     exact aU
    rintro⟨c,p⟩ ⟨⟨hc0,hc1⟩,hpc⟩
    by_cases hck:c<k1
    ·clear hcnt hmx ac9 hso hT hTb hbi hbb hdb hsz hHd hWd
     have cc:Ra c:=⟨hc0,Int.le_trans hc1 b1.2⟩
     repeat' ((conv=>whnf)<;>first|refine Jf ?_|refine JD ?_|refine bn ?_|refine ag ?_ ?_<;>intro _)
     refine Wp.loop (σ:=Int×Nat) 8 (λ⟨i,_⟩=>[(1,.c t.val),(2,.lp 0 0 0 0),(6,ax size),(18,.c n.ay.val),(7,.os 5 m),(17,.os 6 m),(19,ax o),(20,ax y),(21,ax x),(22,.os 7 size),(23,ax c),(24,ax i)]) (λ⟨_,p⟩=>[(7,.rows (aN (rowP T size p)) 1 3),(5,.rows (aS us) 1 32),(6,.rows (aN bs) 1 3),(0,.box (jN n) 41)]) (λ_=>(aO w).and (lZ w.heap.size us))
      (λ⟨i,p⟩=>(0<=i/\i<=k2)/\(p:Int)=(c*k2+i)*k3) (λs=>(k2-s.1).toNat) (0,p) [] aY (λs=>⟨rfl,rfl⟩) ⟨⟨Int.le_refl _,c2.1⟩,by rw[hpc,Int.add_zero]⟩ ⟨rfl,⟨rfl,rfl,rfl,rfl,rfl,rfl,rfl,rfl,rfl,rfl,rfl,rfl,trivial⟩,bM,λ_ _ h=>h⟩ ?_
     clear hpc
     rintro⟨i,p⟩ ⟨⟨hi0,hi1⟩,hpi⟩
     by_cases hii:i<k2
     ·have ci:Ra i:=⟨hi0,Int.le_trans hi1 c2.2⟩
      repeat' ((conv=>whnf)<;>first|refine Jf ?_|refine JD ?_|refine bn ?_|refine ag ?_ ?_<;>intro _)
      refine Wp.loop (σ:=Int×Nat) 8 (λ⟨j,_⟩=>[(1,.c t.val),(2,.lp 0 0 0 0),(6,ax size),(18,.c n.ay.val),(7,.os 5 m),(17,.os 6 m),(19,ax o),(20,ax y),(21,ax x),(22,.os 7 size),(23,ax c),(24,ax i),(25,ax j)]) (λ⟨_,p⟩=>[(7,.rows (aN (rowP T size p)) 1 3),(5,.rows (aS us) 1 32),(6,.rows (aN bs) 1 3),(0,.box (jN n) 41)]) (λ_=>(aO w).and (lZ w.heap.size us))
       (λ⟨j,p⟩=>(0<=j/\j<=k3)/\(p:Int)=(c*k2+i)*k3+j) (λs=>(k3-s.1).toNat) (0,p) [] aY (λs=>⟨rfl,rfl⟩) ⟨⟨Int.le_refl _,c3.1⟩,by rw[hpi,Int.add_zero]⟩ ⟨rfl,⟨rfl,rfl,rfl,rfl,rfl,rfl,rfl,rfl,rfl,rfl,rfl,rfl,rfl,trivial⟩,bM,λ_ _ h=>h⟩ ?_
      clear hpi
      rintro⟨j,p⟩ ⟨⟨hj0,hj1⟩,hpj⟩
      by_cases hjk:j<k3
      ·have hpT:p<T.length:=Int.ofNat_lt.1 (Rp hpj hTz ⟨hj0,hjk⟩ ⟨hi0,hii⟩ hck)
       have E:=aok (x:=x) (j:=j) cc ci1 cy ci ci2 co c1 c2 c3
       obtain⟨e1,e2,e3,e4,e5⟩:=E
       have hqe:∃q:Nat,((o*k1+c)*k2+i)*k3+j=q:=⟨_,(Int.toNat_of_nonneg aa).symm⟩
       obtain⟨q,hq⟩:=hqe
       have hql:q<n.data.xs.length:=Int.ofNat_lt.1 (Rp hq.symm hdl ⟨hj0,hjk⟩ ⟨hi0,hii⟩ (KO ⟨ho0,hok⟩ ⟨hc0,hck⟩))
       have hTp:=Xy p q c i j hpT hpj ⟨hi0,hii⟩ ⟨hj0,hjk⟩ hq
       have hb:=Rl _ (List.getElem_mem hpT)
       have hsu:=OG (size:=size) hpT
       rw[hTp]at hb hsu
       have hb2:0<=(c*i1+y+i)*i2+x+j/\(c*i1+y+i)*i2+x+j<size:=hb
       have hex:∃r:Nat,(c*i1+y+i)*i2+x+j=r:=⟨_,(Int.toNat_of_nonneg hb2.1).symm⟩
       obtain⟨r,hr⟩:=hex
       rw[hr]at hsu hb2
       have hrl:r<size:=Int.ofNat_lt.1 hb2.2
       clear Xy Rl hTp hTz hb hb2 hdl
       repeat' ((conv=>whnf)<;>first|(show bV ..;(first|refine aH _ 1 hut rfl aa ?_|refine aH _ 2 hut rfl aa ?_|refine aH _ 1 fI rfl aa ?_|refine aH _ 2 fI rfl aa ?_|refine aH _ 3 fI rfl aa ?_|refine aH _ q hud hq hql ?_))|(show fT ..;(first|refine jc (λR w' h=>hur R w' h.1) (j:=1) aa g1 ?_|refine jc (λR w' h=>hur R w' h.1) (j:=2) aa g2 ?_|refine jc (λR w' h=>P6 R w' h.1) (j:=1) aa s1 ?_|refine jc (λR w' h=>P6 R w' h.1) (j:=2) aa s2 ?_|refine jc (λR w' h=>P6 R w' h.1) (j:=3) aa s3 ?_|refine jc (λR w' h=>hdr R w' h.1) (j:=q) hql rfl ?_))|(show di ..;(refine bg r hr hrl ahy ?_))|(show cO ..;(refine Kw (by rw[jr];exact hrl) ?_))|(show b_ _ 52 ..;refine lu [42] _ ak4 ?_)|refine bn ?_|refine ag ?_ ?_<;>intro _)
       all_goals(conv=>whnf)
       exact⟨(j+1,p+1),[],⟨⟨Int.le_add_one hj0,hjk⟩,by rw[Int.natCast_add,hpj,Int.add_assoc];rfl⟩,by simp only;omega,rfl,bM,⟨by
        show(7,bZ.rows (aN (rowP T size (p+1))) 1 3)∈_
        rw[hsu];exact aU,aU,aU,aU,trivial⟩,λ_ _ h=>h⟩
      ·have hjz:j=k3:=Int.le_antisymm hj1 (Int.not_lt.1 hjk)
       repeat' ((conv=>whnf)<;>first|refine Jf ?_|refine JD ?_|refine bn ?_|refine ag ?_ ?_<;>intro _)
       all_goals(conv=>whnf)
       exact⟨(i+1,p),[],⟨⟨Int.le_add_one hi0,hii⟩,by rw[hpj,hjz,<-Int.add_assoc,Int.add_mul _ 1,Int.one_mul]⟩,by simp only;omega,rfl,bM,bM,λ_ _ h=>h⟩
     ·have hiz:i=k2:=Int.le_antisymm hi1 (Int.not_lt.1 hii)
      repeat' ((conv=>whnf)<;>first|refine Jf ?_|refine JD ?_|refine bn ?_|refine ag ?_ ?_<;>intro _)
      all_goals(conv=>whnf)
      exact⟨(c+1,p),[],⟨⟨Int.le_add_one hc0,hck⟩,by rw[hpi,hiz,Int.add_mul c 1,Int.one_mul]⟩,by simp only;omega,rfl,bM,bM,λ_ _ h=>h⟩
    ·have hcz:c=k1:=Int.le_antisymm hc1 (Int.not_lt.1 hck)
     rw[hcz]at hpc
     have hpT:p=T.length:=Int.ofNat.inj (hpc.trans hTz.symm)
     have hml:us.length=m:=hso.rows.len
     have Xo:bs.length=m:=hso.ajj
     have hol:o.toNat<n.aM.xs.length:=by omega
     have hoe:o=(o.toNat:Int):=(Int.toNat_of_nonneg ho0).symm
     refine Wp.yI 7 w.heap.size (k:=1) (xs:=aN (rowP T size p)) (T:=3) aU (λR w' h b hb=>(h.1 b hb).1) (λl1 hl1=> ?_)
     rw[aJ,jr]at hl1
     clear hcnt hTz Xy Rl hdl
     repeat' ((conv=>whnf)<;>first|(show @eZ _ _ _;refine dA hck ?_)|(show bV ..;(first|refine aH _ 1 fI rfl aa ?_|refine aH _ o.toNat hub hoe hol ?_))|(show fT ..;(first|refine jc (λR w' h=>P6 R w' h.1.1) (j:=1) aa s1 ?_|refine jc (λR w' h=>hbr R w' h.1.1) (j:=o.toNat) hol rfl ?_))|(show vO ..;(first|refine gY agH ?_|refine gY (by rw[aJ,Xo];exact Nat.le_refl _) ?_))|(show gP ..;(first|refine dP afi ?_|refine dP (by show(m+1)*8<=140737488355328;omega) ?_))|refine bn ?_)
     all_goals(conv=>whnf)
     exact⟨(x+1,m+1,us++[au.mk l1.base l1.cap (rowP T size p)],bs++[n.aM.xs.getD o.toNat 0]),[(5,some 9),(6,some 11)],⟨⟨Int.le_add_one hx0,hxi⟩,hso.next ⟨λv hv=>by have:=Zd hTb v hv;unfold cK at this;exact⟨by omega,by omega⟩,by rw[jr];exact hl1,by rw[jr];omega⟩ (acG hk hsz m (hT.trans (by rw[g1,g2,s1,s2,s3])) hpT) hbi,by rw[Int.natCast_add,hmx,Int.add_assoc];rfl⟩,by simp only;omega,rfl,bM,⟨by repeat(first|exact KW us l1.base l1.cap (rowP T size p) hml.symm (jr _ _ _).symm|apply List.mem_cons_of_mem),by repeat(first|exact oO bs _ Xo.symm|apply List.mem_cons_of_mem),aU,trivial⟩,λR w' h=>⟨h.1.1,kX h.1.2 h.2⟩⟩
   ·have hxz:x=W:=Int.le_antisymm hx1 (Int.not_lt.1 hxi)
    repeat' ((conv=>whnf)<;>first|refine Jf ?_|refine JD ?_|refine bn ?_|refine ag ?_ ?_<;>intro _)
    all_goals(conv=>whnf)
    exact⟨(y+1,m,us,bs),[(3,some 5),(4,some 6)],⟨⟨Int.le_add_one hy0,hyi⟩,hso,by rw[hmx,hxz,<-Int.add_assoc,Int.add_mul _ 1,Int.one_mul]⟩,by simp only;omega,rfl,bM,bM,λ_ _ h=>h⟩
  ·have hyz:y=H:=Int.le_antisymm hy1 (Int.not_lt.1 hyi)
   repeat' ((conv=>whnf)<;>first|refine Jf ?_|refine JD ?_|refine bn ?_|refine ag ?_ ?_<;>intro _)
   all_goals(conv=>whnf)
   exact⟨(o+1,m,us,bs),[(1,some 3),(2,some 4)],⟨⟨Int.le_add_one ho0,hok⟩,hso,by rw[hmy,hyz,Int.add_mul o 1,Int.one_mul]⟩,by simp only;omega,rfl,bM,bM,λ_ _ h=>h⟩
 ·have hoz:o=k0:=Int.le_antisymm ho1 (Int.not_lt.1 hok)
  rw[hoz]at hmo
  have adM:m=cnt:=Int.ofNat.inj (hmo.trans hcnt.symm)
  subst adM
  repeat' ((conv=>whnf)<;>first|refine Jf ?_|refine JD ?_|refine bn ?_|refine ag ?_ ?_<;>intro _)
  all_goals(conv=>whnf)
  exact Hf (i:=1) (j:=2) (B:=⟨w,[]⟩) (S:=(aO w).and (lZ w.heap.size us)) (bs:=bs) (λ_ _ h=>h.1) (λ_ _ h=>h.2) rfl aU aU hso.rows.len.symm hso.ajj.symm hso.rows hso.aM (λx hx=>by
   rw[hso.aM]at hx
   obtain⟨k,_,rfl⟩:=List.mem_map.1 hx
   have:cK (dI n m k):=by
    unfold dI
    rw[if_neg aa,if_pos hk]
    exact dO hbb _
   unfold cK at this
   exact⟨by omega,by omega⟩) (by rw[hso.ajj];omega)
theorem PR(w:World)(n:ai)(sh:List (List Int))(s:List Int)(t:au)(cnt:Nat)(h:fu n sh s t.xs cnt)(hl:dX n)(hno:n.ok w)(hto:t.ok w):Calls Tryz.prog 91 #[n.j3,t.val] w (tY w n t.xs cnt):=by
 obtain⟨F,P0,hL⟩:=h.lin hl
 have hat:=hL.at_
 have hsh:=h.node.ay
 have hfo:=dM h.node.form
 have h4:=af1 h.node.form
 obtain⟨nd,nb,_,_,_⟩:=r9 h.node.near
 have heb:=(dQ t.xs).2
 have hc:=h.cnt
 have oz:=h.few
 have hgs:=h.pos
 obtain⟨ht,hg⟩:=h.first hl
 obtain⟨size,hsz⟩:∃size:Nat,az t.xs=size:=⟨(az t.xs).toNat,by omega⟩
 rcases hl with hk|hk|hk
 ·unfold bR at hsh
  rw[if_neg aa,if_pos hk,ht]at hsh
  by_cases hdl:(n.data.xs.length:Int)=n.aM.xs.length*az t.xs
  ·rw[if_pos hdl,Option.some.injEq]at hsh
   obtain⟨b1,b2⟩:=hfo.aM hk
   have he1:az [(n.aM.xs.length:Int)]=n.aM.xs.length:=by
    unfold az
    rw[if_neg fP]
    simp only[fF]
    rw[if_neg aa]
    omega
   rw[<-hsh,he1]at hc
   have hbl:n.aM.xs.length=cnt:=by omega
   have RD:n.data.xs.length=n.aM.xs.length*size:=by
    rw[hsz,<-Int.natCast_mul]at hdl
    exact Int.ofNat.inj hdl
   rw[hbl]at RD
   exact abV w n t hto hno hk size cnt hsz aa hbl oz RD
  ·rw[if_neg hdl]at hsh;cases hsh
 ·obtain⟨g1,g2⟩:=h4 hk
  have D6:=hfo.X3 hk
  obtain⟨hl4,UW⟩:=pG D6
  have hsx:=adB hl4
  have hC:=Ib h hk
  unfold bR at hsh
  rw[if_neg aa,if_neg aa,if_pos hk,ht]at hsh
  have hG:∀o,bS n t.xs o=pz n.data.xs (n.ay.xs.getD 1 0) (n.ay.xs.getD 2 0) (n.ay.xs.getD 3 0) (t.xs.getD 1 0) (t.xs.getD 2 0) o:=λo=>by unfold bS;rw[if_neg aa,if_pos hk]
  have dm:∀k,k<4->1<=n.ay.xs.getD k 0/\n.ay.xs.getD k 0<=64:=λk hk=>UW _ (dz aa)
  have dm0:=dm 0 aY
  have dm1:=dm 1 aY
  have dm2:=dm 2 aY
  have dm3:=dm 3 aY
  rw[hsx]at g1 D6
  have hke:=JC D6
  rw[hke]at g1
  by_cases hbad:t.xs.length≠3\/t.xs.getD 0 0≠n.ay.xs.getD 1 0\/t.xs.getD 1 0<n.ay.xs.getD 2 0\/t.xs.getD 2 0<n.ay.xs.getD 3 0
  ·rw[if_pos hbad]at hsh;cases hsh
  rw[if_neg hbad]at hsh
  have hl3:t.xs.length=3:=by omega
  have htx:=Xi hl3
  have h0:t.xs.getD 0 0=n.ay.xs.getD 1 0:=by omega
  rw[h0]at htx
  have KM:=(gM hg).2.2
  have td1:=KM _ (dz (xs:=t.xs) (k:=1) aa)
  have td2:=KM _ (dz (xs:=t.xs) (k:=2) aa)
  by_cases hpos:0<az [n.ay.xs.getD 0 0,t.xs.getD 1 0-n.ay.xs.getD 2 0+1,t.xs.getD 2 0-n.ay.xs.getD 3 0+1]
  ·rw[if_pos hpos,Option.some.injEq]at hsh
   have hcv:=iM hpos
   rw[hsh,hc]at hcv
   exact acj w n t hto hno hk size cnt _ _ _ _ _ _ hsx htx hsz aa dm0 dm1 hC.k2 hC.k3 td1.2 td2.2 g1 g2 nd nb hcv oz.2 λo ho x hx=>by
    have:=hat o ho x (by rw[hG];exact hx)
    rw[hsz]at this
    exact this
  ·rw[if_neg hpos]at hsh;cases hsh
 ·have hP:=Im h hk
  unfold bR at hsh
  rw[if_neg aa,if_neg aa,if_neg aa,if_pos hk,ht]at hsh
  have hG:∀o,bS n t.xs o=pW n.size (t.xs.getD 1 0) (t.xs.getD 2 0) o:=λo=>by unfold bS;rw[if_neg aa,if_neg aa]
  by_cases hbad:t.xs.length≠3\/t.xs.getD 1 0%n.size≠0\/t.xs.getD 2 0%n.size≠0
  ·rw[if_pos hbad]at hsh;cases hsh
  rw[if_neg hbad,Option.some.injEq]at hsh
  have hl3:t.xs.length=3:=by omega
  have htx:=Xi hl3
  have KM:=(gM hg).2.2
  have td0:=KM _ (dz (xs:=t.xs) (k:=0) aa)
  have td1:=KM _ (dz (xs:=t.xs) (k:=1) aa)
  have td2:=KM _ (dz (xs:=t.xs) (k:=2) aa)
  have hpos:0<az [t.xs.getD 0 0,t.xs.getD 1 0/n.size,t.xs.getD 2 0/n.size]:=by
   have:=jF hfo hgs h.node.ay rfl
   rw[hsh];exact this
  have hcv:=iM hpos
  rw[hsh,hc]at hcv
  exact aeX w n t hto hno hk size cnt _ _ _ htx hsz aa td0 ⟨hP.z1,td1.2⟩ ⟨hP.z2,td2.2⟩ hP.z hP.m1 hP.m2 hcv oz.2 λo ho x hx=>by
   have:=hat o ho x (by rw[hG];exact hx)
   rw[hsz]at this
   exact this
end Go.Proofs.YtgndjjdeopfdkaaGreat

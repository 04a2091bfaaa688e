import Derived.Test.YtgndjjdeopfdkaaGreatKLowerMeans7
/- texts LP MG of the proof of LowerMeansSaid -/
set_option maxHeartbeats 16000000
set_option maxRecDepth 20000
set_option linter.unusedVariables false
set_option linter.unusedSimpArgs false
namespace Go.Proofs.YtgndjjdeopfdkaaGreat
open Go.RowKit Go.SX
section
def wm(x:aY):bR where
 holds R w:=(f_ x.base 1 (bA x.l)).holds R w/\∀u∈x.l,(bX u).holds R w
 stable:=λhR hw h=>⟨(f_ _ _ _).stable hR hw h.1,λu hu=>(bX u).stable hR hw (h.2 u hu)⟩
structure BO(D:List (List Int))(x:aY):Prop where
 rows:x.l.map ax.xs=D
 bF:∀u∈x.l,u.bF
 room:x.l.length<=x.cap
def afT(w:World)(D:List (List Int))(er:Int):Ending->World->Prop:=λe w'=>∃x:aY,BO D x/\e= .returned (.tuple #[x.val,.int .i64 er])/\Ext w w'/\(wm x).holds (λb=>w.heap.size<=b/\b<w'.heap.size) w'
def abK(n:Nat)(x:aY):Prop:=∀u∈x.l,(u.xs=[]/\u.base=none)\/u.xs.length=n
def tu(w:World)(n:Nat)(D:List (List Int))(er:Int):Ending->World->Prop:=λe w'=>∃x:aY,(BO D x/\abK n x)/\e= .returned (.tuple #[x.val,.int .i64 er])/\Ext w w'/\(wm x).holds (λb=>w.heap.size<=b/\b<w'.heap.size) w'
variable {w:World}
theorem tu.post{w':World}{n:Nat}{D:List (List Int)}{er:Int}{e:Ending}(h:tu w n D er e w'):afT w D er e w':=by
 obtain⟨x,h1,h2⟩:=h;exact⟨x,h1.1,h2⟩
def Bd(rows:List (List Int))(fr to:List Int)(aA:Int):Prop:=1<=aA/\aA<=4096/\rows.length=to.length/\lG fr aA=true/\lG to aA=true/\∀r∈rows,r.length=fr.length
variable {B:Base} {H:Heap} {S:bR} {nx:Nat}
theorem aaz{n:Nat}(hb:∀R w',S.holds R w'->(aU B.w0).holds R w')(hw0:B.w0=w):jS B (.xg [.c (.slice none 0 0),aC 3]) H S nx (tu w n [] 3):=by
 subst hw0;refine dK λρ w' hw=>⟨⟨none,0,[]⟩,⟨⟨rfl,λ_ h=>bT,Tw _⟩,λ_ h=>bT⟩,rfl,bG hw hb,⟨⟨λ_ h=>bT,.inl rfl⟩,λ_ h=>by cases h⟩⟩
theorem wL{l:List Int}{aA:Int}(h:lG l aA=true):(∀x∈l,0<=x/\x<aA)/\l.Nodup:=by simpa[lG]using h
def p_(p:iR):ax:=⟨p.1.base,p.1.cap,p.2⟩
theorem afw{i g n m:Nat}{L:List iR}(hb:∀R w',S.holds R w'->(aU B.w0).holds R w')(hw0:B.w0=w)(hL:DOk n L)(hf:∀p∈L,∀x∈p.2,i64 x)(hn:n<=1000000)(hm:m=n)(hi:(i,b_.rows (iM L) 1 32)∈H)(hg:(g,b_.ext (o_ 3 (nK L)))∈H):
 jS B (.xg [.os i m,aC 0]) H S nx (tu w n (L.map Prod.snd) 0):=by
 subst hw0 hm;refine dK λρ w' hw=> ?_;have hn1:=fI hw hb hi;have hsh:iM L=bA (L.map p_):=by simp[iM,bA,Nj,p_,ax.val]
 rw[hsh]at hn1;obtain⟨base,cap,e,h1,h2⟩:∃base cap,(SV.os i (bA (L.map p_)).length).rf ρ= .slice base (L.map p_).length cap/\(L.map p_).length<=cap/\(f_ base 1 (bA (L.map p_))).holds (λb=>B.w0.heap.size<=b/\b<w'.heap.size) w':=by
  obtain⟨base,cap,e,h1⟩:=ig hn1;obtain⟨lc,e2,F,hF,hr,hcap,_⟩:=hn1;rw[e2]at e;simp only[Value.slice.injEq]at e;obtain⟨e3,_,e4⟩:=e;refine⟨base,cap,?_,?_,h1⟩
  ·rw[e2,e3,e4,acN]
  ·rw[<-e4];simpa[acN]using hcap
 have hlen:(bA (L.map p_)).length=m:=by rw[acN,aas,hL.len]
 rw[hlen]at e;refine⟨⟨base,cap,L.map p_⟩,⟨⟨by simp[p_],λu hu=> ?_,h1⟩,λu hu=> ?_⟩,?_,bG hw hb,h2,λu hu=> ?_⟩
 ·obtain⟨p,hp,rfl⟩:=abl.1 hu;rcases hL.each p hp with⟨e1,e2⟩|⟨_,e2,e3⟩
  ·exact⟨hf p hp,by simp[p_,e2],by simp[p_,e2]⟩
  ·exact⟨hf p hp,by simp[p_,e2,e3],by simp[p_,e2,hn]⟩
 ·obtain⟨p,hp,rfl⟩:=abl.1 hu;rcases hL.each p hp with⟨e1,e2⟩|⟨_,e2,e3⟩
  ·exact .inl ⟨e2,by simp[p_,e1]⟩
  ·exact .inr e2
 ·have:(SV.xg [.os i m,aC 0]).rf ρ= .tuple #[(SV.os i m).rf ρ,.int .i64 0]:=rfl;rw[this,e];rfl
 ·obtain⟨p,hp,rfl⟩:=abl.1 hu;rcases hL.each p hp with⟨e1,e2⟩|⟨⟨b,off,e1⟩,e2,e3⟩
  ·show(f_ (p_ p).base 1 (aZ (p_ p).xs)).holds _ w';have:(p_ p).xs=[]:=e2;rw[this];exact⟨λr hr=>(by cases hr),.inl rfl⟩
  ·have hp':((p.1,p.2.map (Value.int .i64)):zi)∈nK L:=abl.2 ⟨p,hp,rfl⟩;obtain⟨g1,g2,g3⟩:=aa5 hw hb hg hp' e1;refine⟨kJ,.inr ⟨b,off,e1,⟨g1,g2⟩,λk r hk j v hj=> ?_⟩⟩;have hkl:k<p.2.length:=by
    have:=(abH.1 hk).1
    rwa[aP]at this
   have hk':(aZ p.2)[k]? =some r:=hk;rw[eO hkl]at hk';obtain rfl:[Value.int .i64 p.2[k]]=r:=by simpa using hk'
   have hj0:j=0:=by
    rcases amm j with h|h
    ·exact h
    ·rw[aiQ AR]at hj;cases hj
   subst hj0;have:=g3 k (Value.int .i64 p.2[k]) (by simp[hkl]);obtain rfl:Value.int .i64 p.2[k]=v:=by simpa using hj
   simpa using this
end
section
instance(rows:List (List Int))(fr to:List Int)(aA:Int):Decidable (Bd rows fr to aA):=by unfold Bd;infer_instance
def vk(rows:List (List Int))(fr to:List Int)(aA:Int):List (List Int)×Int:=if Bd rows fr to aA then(pQ aA.toNat rows fr to to.length,0)else([],3)
variable {w:World} {B:Base} {H:Heap} {S:bR} {nx:Nat}
theorem zS{rows:List (List Int)}{fr to:List Int}{aA:Int}(hno:¬Bd rows fr to aA)(hb:∀R w',S.holds R w'->(aU B.w0).holds R w')(hw0:B.w0=w):jS B (.xg [.c (.slice none 0 0),aC 3]) H S nx (tu w aA.toNat (vk rows fr to aA).1 (vk rows fr to aA).2):=by
 rw[vk,if_neg hno];exact aaz hb hw0
theorem Lt{ρ:Nat->SX.Loc}{T:TypeId}{fv:ax}(hw:dO B ρ nx H S w)(he:(0,b_.box [.c fv.val] T)∈H)(rv:aY)(hr:rv.okB w):
 Calls Tryz.prog 127 (SV.dW ρ [.c rv.val,.fn (.func 128) [] [.lp 0 0 0 0]]).toArray w λe w'=>e= .returned (.bool (rv.l.any λu=>decide (u.xs.length≠fv.xs.length)))/\Ext w w':=by
 obtain⟨R,φ,hw⟩:=hw;obtain⟨b,h1,h2,h3⟩:=hw.jA _ he;simp only at h1;have ha:(SV.dW ρ [.c rv.val,.fn (.func 128) [] [.lp 0 0 0 0]]).toArray= #[rv.val,.func (.func 128) #[] #[.pointer (some ⟨b,0,none⟩)]]:=by
  simp[SV.dW,SV.rf,h1,Addr.add]
 rw[ha];exact Lp w rv hr ⟨b,0,none⟩ fv.base fv.xs.length fv.cap (by simp[World.cell?,h3,SV.dW,SV.rf,ax.val])
variable {l:List ax}
theorem abm{n:Nat}(h:(l.any λu=>decide (u.xs.length≠n))=false):∀r∈l.map ax.xs,r.length=n:=by
 intro r hr;obtain⟨u,hu,rfl⟩:=abl.1 hr;have:=List.any_eq_false.1 h u hu;simpa using this
theorem afk{n:Nat}(h:(l.any λu=>decide (u.xs.length≠n))=true)(hall:∀r∈l.map ax.xs,r.length=n):False:=by
 obtain⟨u,hu,hx⟩:=anK.1 h;exact absurd (hall _ (abl.2 ⟨u,hu,rfl⟩)) (by simpa using hx)
variable {x:Int}
theorem agN{y z:Int}{K:Int->Prop}(h0:0<=x)(hy:y≠0)(e:x%y=z)(h:K z):x8 x y K:=Ub h0 hy zM
theorem RO(b off k:Nat):(⟨b,off,none⟩:Addr).add (k*1)=⟨b,off+k,none⟩:=by simp[Addr.add]
variable {d:Nat}
theorem R_{L:List iR}{p:iR}(h:∀p∈L,∀x∈p.2,i64 x)(hp:∀x∈p.2,i64 x):∀q∈L.set d p,∀x∈q.2,i64 x:=λq hq=>by
 rcases anz hq with hq|hq
 ·exact h q hq
 ·rw[hq];exact hp
theorem V5{l:List Int}{k:Nat}(h:∀y∈l,i64 y)(hx:i64 x):∀y∈l.set k x,i64 y:=λy hy=>by
 rcases anz hy with hy|hy
 ·exact h y hy
 ·rw[hy];exact hx
theorem acJ{l:List Int}(h:∀y∈l,i64 y)(k:Nat):i64 (l.getD k 0):=by
 rcases ack k l.length with g|g
 ·have e:l.getD k 0=l[k]:=by simp[List.getD,g]
  rw[e];exact h _ (aby g)
 ·have e:l.getD k 0=0:=by simp[List.getD,g]
  rw[e];exact⟨by decide,by decide⟩
theorem agy(n s:Nat)(x:Int):(List.replicate n (Value.int .i64 0)).set s (.int .i64 x)=((List.replicate n (0:Int)).set s x).map (Value.int .i64):=by simp[alq]
theorem aix{a:Addr}{j:Nat}{xs:List Int}{v:Int}{K:SV->Prop}(hx:∀R w,S.holds R w->bE w (some a) 1 (aZ xs))(hj:j<xs.length)(e:xs.getD j 0=v)(h:K (aC v)):gZ (a.add (j*1)) S K:=by
 subst e;exact dP hx hj h
theorem List.X5{α:Type}{l:List α}{x:α}(h:l[d]? =some x):l.set d x=l:=by
 apply an_;intro i;rw[amx];split
 ·rename_i e;subst e;split
  ·exact h.symm
  ·rw[aiQ aa]
 ·rfl
theorem acU(w:World)(rv:aY)(hr:rv.okB w)(fv tv:ax)(hfv:fv.ok w)(htv:tv.ok w)(aA:Int)(hs:i64 aA):
 Calls Tryz.prog 64 #[rv.val,fv.val,tv.val,.int .i64 aA] w (tu w aA.toNat (vk (rv.l.map ax.xs) fv.xs tv.xs aA).1 (vk (rv.l.map ax.xs) fv.xs tv.xs aA).2):=by
 have hr1:=hr.few;have hf1:=hfv.few;have ht1:=htv.few;obtain⟨hs1,hs2⟩:=hs;have hrl:(rv.l.map ax.xs).length=rv.l.length:=aas _;refine fH Tryz.func64 [.c rv.val,.c fv.val,.c tv.val,aC aA] ?_;repeat' ((conv=>whnf)<;>first|(show aJ _ 126 [.c fv.val,aC aA] ..;refine jR (f:=126) Tryz.call126 _ (λρ w' hw=>PX w' fv (ae hw λR h=>hfv.later h) aA) (λhp1=> ?_) (λhp1=> ?_))|(show aJ _ 126 [.c tv.val,aC aA] ..;refine jR (f:=126) Tryz.call126 _ (λρ w' hw=>PX w' tv (ae hw λR h=>htv.later h) aA) (λhp2=> ?_) (λhp2=> ?_))|(show aJ _ 127 ..;(refine jR (f:=127) Tryz.call127 _ (λρ w' hw=>Lt (fv:=fv) hw aj rv (ae hw λR h=>hr.later h)) (λhp3=> ?_) (λhp3=> ?_)))|(show pg ..;(refine lD aA.toNat aa aa Fv aa ?_))|refine a_ ?_|refine ag ?_ ?_<;>intro _)
 all_goals(conv=>whnf)
 all_goals first|exact zS (λh=>by have:=h.1;have:=h.2.1;have:=h.2.2.1;omega) (λ_ _ h=>h) rfl|exact zS (λh=>Bool.false_ne_true (hp1.symm.trans h.2.2.2.1)) (λ_ _ h=>h) rfl|exact zS (λh=>Bool.false_ne_true (hp2.symm.trans h.2.2.2.2.1)) (λ_ _ h=>h) rfl|exact zS (λh=>afk hp3 h.2.2.2.2.2) (λ_ _ h=>h) rfl|skip
 have hok:Bd (rv.l.map ax.xs) fv.xs tv.xs aA:=⟨by omega,by omega,by omega,hp1,hp2,abm hp3⟩;rw[vk,if_pos hok];obtain⟨n,hn⟩:∃n:Nat,aA=n:=⟨aA.toNat,by omega⟩;subst hn;rw[ahh];have hfr:=(wL hp1).1;have hto:=(wL hp2).1;refine Wp.grp 3 n ?_;refine Wp.loop (σ:=Nat×List iR) 3 (λs=>[(0,.c rv.val),(3,aC n),(5,.lp 0 0 0 0),(10,.os 1 n),(49,.c tv.val),(50,aC tv.xs.length),(51,aC s.1)])
  (λs=>[(0,.box [.c fv.val] 32),(1,.rows (iM s.2) 1 32),(2,.ext (o_ 3 (nK s.2)))]) (λ_=>aU w)
  (λs=>DOk n s.2/\(∀p∈s.2,∀x∈p.2,i64 x)/\s.2.map Prod.snd=pQ n (rv.l.map ax.xs) fv.xs tv.xs s.1/\s.1<=tv.xs.length) (λs=>tv.xs.length-s.1) (0,Cb n) [] ay (λs=>⟨rfl,rfl⟩)
  ⟨ahs n,(λp hp x hx=>by rw[(anB.1 hp).2]at hx;cases hx),by rw[Vy];rfl,aae _⟩ ⟨rfl,⟨rfl,rfl,rfl,rfl,rfl,rfl,rfl,trivial⟩,?_,λ_ _ h=>h⟩ ?_
 ·show lI [] _ [(0,.box [.c fv.val] 32),(1,.rows (iM (Cb n)) 1 32),(2,.ext (o_ 3 (nK (Cb n))))];rw[Ru,Vu];exact fE
 rintro⟨o,L⟩ ⟨hL,hLf,hLs,hol⟩;dsimp only at hL hLf hLs hol;by_cases hlt:o<tv.xs.length
 ·obtain⟨ta,Vs⟩:=htv.base aa;have htr:∀(R:Nat->Prop) w',(aU w).holds R w'->bE w' (some ta) 1 (aZ tv.xs):=λR w' h=>by rw[<-Vs];exact aH h htv.rows
  have VH:o<rv.l.length:=by omega
  have hsb:0<=tv.xs.getD o 0/\tv.xs.getD o 0<n:=by
   have e:tv.xs.getD o 0=tv.xs[o]:=by simp[List.getD,hlt]
   rw[e];exact hto _ (aby hlt)
  obtain⟨sv,hsv⟩:∃sv,tv.xs.getD o 0=sv:=⟨_,rfl⟩;repeat' ((conv=>whnf)<;>first|(show dn ..;refine aM ta o Vs rfl hlt ?_)|(show gZ ..;refine dP htr (j:=o) hlt ?_)|refine a_ ?_|refine ag ?_ ?_<;>intro _)
  all_goals(conv=>whnf)
  have hrow:(rv.l.map ax.xs).getD o []=rv.l[o].xs:=by simp[List.getD,VH]
  have hrlen:rv.l[o].xs.length=fv.xs.length:=abm hp3 _ (abl.2 ⟨_,aby VH,rfl⟩);have hro:=hr.each rv.l[o] (aby VH);obtain⟨ra,hra⟩:∃a,rv.base=some a:=aT (j:=o) hr.rows (by rw[acN];exact VH);rw[hsv]at hsb|-
  refine Wp.loop (σ:=Nat×List iR) 3 (λs=>[(0,.c rv.val),(3,aC n),(5,.lp 0 0 0 0),(10,.os 1 n),(49,.c tv.val),(50,aC tv.xs.length),(51,aC o),(11,aC o),(12,aC sv),(56,.c fv.val),(57,aC fv.xs.length),(58,aC s.1)])
   (λs=>[(0,.box [.c fv.val] 32),(1,.rows (iM s.2) 1 32),(2,.ext (o_ 3 (nK s.2)))]) (λ_=>aU w)
   (λs=>DOk n s.2/\(∀p∈s.2,∀x∈p.2,i64 x)/\s.2.map Prod.snd=Ct n fv.xs rv.l[o].xs sv (pQ n (rv.l.map ax.xs) fv.xs tv.xs o) s.1/\s.1<=fv.xs.length) (λs=>fv.xs.length-s.1) (0,L) [] ay (λs=>⟨rfl,rfl⟩)
   ⟨hL,hLf,hLs,aae _⟩ ⟨rfl,⟨rfl,rfl,rfl,rfl,rfl,rfl,rfl,rfl,rfl,rfl,rfl,rfl,trivial⟩,fE,λ_ _ h=>h⟩ ?_
  clear hL hLf hLs;rintro⟨i,M⟩ ⟨hM,hMf,hMs,hil⟩;dsimp only at hM hMf hMs hil;by_cases Vt:i<fv.xs.length
  ·obtain⟨fa,hfa⟩:=hfv.base aa;have ano:∀(R:Nat->Prop) w',(aU w).holds R w'->bE w' (some fa) 1 (aZ fv.xs):=λR w' h=>by rw[<-hfa];exact aH h hfv.rows
   obtain⟨wa,hwa⟩:=hro.base aa;have hwr:∀(R:Nat->Prop) w',(aU w).holds R w'->bE w' (some wa) 1 (aZ rv.l[o].xs):=λR w' h=>by rw[<-hwa];exact aH h hro.rows
   have nL:0<=fv.xs.getD i 0/\fv.xs.getD i 0<n:=by
    have e:fv.xs.getD i 0=fv.xs[i]:=by simp[List.getD,Vt]
    rw[e];exact hfr _ (aby Vt)
   have hwf:=acJ hro.fits i;have hstep:=Yg n fv.xs rv.l[o].xs sv (pQ n (rv.l.map ax.xs) fv.xs tv.xs o) i;rw[<-hMs]at hstep;obtain⟨fi,hfi⟩:∃x,fv.xs.getD i 0=x:=⟨_,rfl⟩;obtain⟨wi,hwi⟩:∃x,rv.l[o].xs.getD i 0=x:=⟨_,rfl⟩;rw[hfi]at nL hstep;rw[hwi]at hwf hstep;by_cases hw0:wi=0
   ·repeat' ((conv=>whnf)<;>first|(show dn ..;(first|refine aM fa i hfa rfl Vt ?_|refine aM ra o hra rfl VH ?_|refine aM wa i hwa rfl aa ?_))|refine ED ?_|refine a_ ?_|refine ag ?_ ?_<;>intro _)
    all_goals(conv=>whnf)
    exact⟨(i+1,M),[],⟨hM,hMf,by rw[hstep,nu,if_pos hw0],Vt⟩,by show fv.xs.length-(i+1)<fv.xs.length-i;omega,rfl,fE,fE,λ_ _ h=>h⟩
   ·obtain⟨d,hdd,hdn,hd0⟩:=amK hsb nL;have hMd:d<M.length:=by rw[hM.len];exact hdn
    have hdl:=He M;obtain⟨q,hq⟩:∃q,M[d]? =some q:=⟨_,YL hMd⟩;have hqm:=adu hq;obtain⟨sn,hsn⟩:∃k:Nat,sv=k:=⟨sv.toNat,by omega⟩;have akD:sv.toNat=sn:=by omega
    rcases hM.each q hqm with⟨e1,e2⟩|⟨⟨b,off,e1⟩,e2,e3⟩
    ·obtain⟨ql,qv⟩:=q;simp only at e1 e2;subst e1 e2;repeat' ((conv=>whnf)<;>first|(show dn ..;(first|refine aM fa i hfa rfl Vt ?_|refine aM ra o hra rfl VH ?_|refine aM wa i hwa rfl aa ?_))|refine ED ?_|(show x8 ..;refine agN hd0 aa hdd ?_)|(show eP ..;refine bY d rfl hdn (amL (hdl.trans hM.len).symm) ?_)|(show rQ ..;refine row_of _ _ (tq hq) rfl ?_)|(show mi ..;refine ahU (ti 32 rfl) rfl ?_)|(show pg ..;(refine lD n rfl rfl mE aa ?_))|refine Lv ?_|refine ag ?_ ?_<;>intro _)
     all_goals(conv=>whnf)
     refine Te (g:=2) (d:=d) (us:=[]) (l0:=⟨none,0⟩) (L:=nK M) (vs:=List.replicate n (.int .i64 0)) aj (H8 hq) rfl rfl (by rw[tQ,List.map_replicate]) AA (λl hlc hlb=> ?_);rw[aiS]at hlc;obtain⟨b,off,hlb⟩:=hlb;have hset:((iM M).set d [.slice l.base n l.cap])[d]? =some [.slice l.base n l.cap]:=anI (by rw[hdl];exact hMd);have hgs:((nK M).set d (l,List.replicate n (.int .i64 0)))[d]? =some (l,List.replicate n (.int .i64 0)):=anI (by rw[nK,aas];exact hMd);repeat' ((conv=>whnf)<;>first|(show dH ..;(refine jq _ (tq hq) kQ ?_))|(show eP ..;(first|refine bY d rfl hdn (amL (hdl.trans hM.len).symm) ?_|refine bY d rfl hdn (amL (by rw[ajc];exact(hdl.trans hM.len).symm)) ?_))|(show rQ ..;refine row_of _ _ hset rfl ?_)|(show dn ..;refine aM ⟨b,off,none⟩ sn hlb hsn aa ?_)|(show wrK ..;(refine YK (g:=2) (d:=d) (s:=sn) (l:=l) (vs:=List.replicate n (.int .i64 0)) aj hgs hlb AA (RO b off sn) ?_))|refine a_ ?_)
     all_goals(conv=>whnf)
     have eg:nK (M.set d (l,(List.replicate n 0).set sn wi))=((nK M).set d (l,List.replicate n (.int .i64 0))).set d (l,(List.replicate n (Value.int .i64 0)).set sn (.int .i64 wi)):=by rw[Ic,List.set_set,agy]
     have er:iM (M.set d (l,(List.replicate n 0).set sn wi))=(iM M).set d [.slice l.base n l.cap]:=by rw[yJ];simp[Nj,aiS]
     have hlenV:((l,(List.replicate n 0).set sn wi):iR).2.length=n:=by simp[aiS]
     refine⟨(i+1,M.set d (l,(List.replicate n 0).set sn wi)),[],⟨hM.set (.inr ⟨⟨b,off,hlb⟩,hlenV,hlc⟩),R_ hMf (V5 (λy hy=>by rw[(anB.1 hy).2];exact⟨by decide,by decide⟩) hwf),by rw[hstep];rw[<-afC hq rfl hw0 hdd,akD],Vt⟩,by show fv.xs.length-(i+1)<fv.xs.length-i;omega,rfl,fE,?_,λ_ _ h=>h⟩;show lI [] _ [(0,.box [.c fv.val] 32),(1,.rows (iM (M.set d (l,(List.replicate n 0).set sn wi))) 1 32),(2,.ext (o_ 3 (nK (M.set d (l,(List.replicate n 0).set sn wi)))))];rw[eg,er];exact fE
    ·obtain⟨ql,qv⟩:=q;simp only at e1 e2 e3;repeat' ((conv=>whnf)<;>first|(show dn ..;(first|refine aM fa i hfa rfl Vt ?_|refine aM ra o hra rfl VH ?_|refine aM wa i hwa rfl aa ?_|refine aM ⟨b,off,none⟩ sn e1 hsn (show sn<qv.length by omega) ?_))|refine ED ?_|(show x8 ..;refine agN hd0 aa hdd ?_)|(show eP ..;refine bY d rfl hdn (amL (hdl.trans hM.len).symm) ?_)|(show rQ ..;refine row_of _ _ (tq hq) rfl ?_)|(show mi ..;refine ajO (ti 32 rfl) rfl e1 ?_)|(show wrK ..;(refine YK (g:=2) (d:=d) (s:=sn) (l:=ql) (vs:=qv.map (Value.int .i64)) aj (H8 hq) e1 vZ (RO b off sn) ?_))|refine a_ ?_|refine ag ?_ ?_<;>intro _)
     all_goals(conv=>whnf)
     have eg:nK (M.set d (ql,qv.set sn wi))=(nK M).set d (ql,(qv.map (Value.int .i64)).set sn (.int .i64 wi)):=by rw[Ic,alq]
     have er:iM (M.set d (ql,qv.set sn wi))=(iM M).set d [.slice ql.base n ql.cap]:=by rw[yJ];simp[Nj,e2]
     have hlenV:((ql,qv.set sn wi):iR).2.length=n:=by simp[e2]
     refine⟨(i+1,M.set d (ql,qv.set sn wi)),[],⟨hM.set (.inr ⟨⟨b,off,e1⟩,hlenV,e3⟩),R_ hMf (V5 (hMf _ hqm) hwf),by rw[hstep];rw[<-agl hq (λh0=>by have:=congrArg List.length h0;simp only[amn]at this;omega) hw0 hdd,akD],Vt⟩,by show fv.xs.length-(i+1)<fv.xs.length-i;omega,rfl,fE,?_,λ_ _ h=>h⟩;show lI [] _ [(0,.box [.c fv.val] 32),(1,.rows (iM (M.set d (ql,qv.set sn wi))) 1 32),(2,.ext (o_ 3 (nK (M.set d (ql,qv.set sn wi)))))];rw[eg,er,show(iM M).set d [.slice ql.base n ql.cap]=iM M from ?_];exact fE;rw[<-e2,show [Value.slice ql.base qv.length ql.cap]=Nj (ql,qv)from rfl,<-yJ,List.X5 hq]
  ·repeat' ((conv=>whnf)<;>first|refine a_ ?_|refine ag ?_ ?_<;>intro _)
   all_goals(conv=>whnf)
   obtain rfl:i=fv.xs.length:=by omega
   exact⟨(o+1,M),[],⟨hM,hMf,by rw[hMs,VJ,hrow,hsv],hlt⟩,by show tv.xs.length-(o+1)<tv.xs.length-o;omega,rfl,fE,fE,λ_ _ h=>h⟩
 ·repeat' ((conv=>whnf)<;>first|refine a_ ?_|refine ag ?_ ?_<;>intro _)
  all_goals(conv=>whnf)
  obtain rfl:o=tv.xs.length:=by omega
  have:=afw (w:=w) (B:=⟨w,[]⟩) (H:=[(0,.box [.c fv.val] 32),(1,.rows (iM L) 1 32),(2,.ext (o_ 3 (nK L)))]) (S:=aU w) (nx:=3) (i:=1) (g:=2) (n:=n) (m:=n) (λ_ _ h=>h) rfl hL hLf aa rfl aj aj;rw[hLs]at this;exact this
end
section
variable {w:World}
theorem ET{base:Option Addr}{cap:Nat}{xs:List (List Value)}(l m:Nat)(hc:xs.length<=cap)(h:bE w base 1 xs):bE w (if cap=l then base else base.map (·.add (l*1))) 1 ((xs.drop l).take m):=by
 by_cases hl:cap<=l
 ·rw[List.drop_eq_nil_of_le aa,List.take_nil];exact .inl rfl
 rw[if_neg aa];rcases h with h|⟨a,rfl,h⟩
 ·subst h;rw[List.drop_nil,List.take_nil];exact .inl rfl
 ·refine .inr ⟨_,rfl,λk r hk j v hj=> ?_⟩;rw[al2]at hk;split at hk
  ·rw[anl]at hk;have:=h (l+k) r hk j v hj;rw[Addr.add_add];rw[show l*1+(k*1+j)=(l+k)*1+j by omega];exact this
  ·cases hk
def cutV(u:ax)(l h:Nat):ax:=⟨if u.cap=l then u.base else u.base.map (·.add (l*1)),u.cap-l,(u.xs.drop l).take (h-l)⟩
variable {u:ax} {l h:Nat}
theorem uy(h2:h<=u.xs.length):(cutV u l h).xs.length=h-l:=by
 show((u.xs.drop l).take (h-l)).length=_;rw[aek,aml];omega
variable {lo hi:Option Int} {K:SV->Prop}
theorem kS(hlo:match lo with|some z=>z=l|none=>l=0)(hhi:match hi with|some z=>z=h|none=>h=u.xs.length)(h1:l<=h)(h2:h<=u.xs.length)(h3:u.xs.length<=u.cap)(hk:K (.c (cutV u l h).val)):ny u.base u.xs.length u.cap 1 lo hi none K:=by
 rw[vU];refine⟨l,h,u.cap,hlo,hhi,rfl,h1,by omega,Tw _,λh=>bT,?_⟩;have e:(cutV u l h).val= .slice (if u.cap=l then u.base else u.base.map (·.add (l*1))) (h-l) (u.cap-l):=by
  show Value.slice _ _ _=_;rw[uy h2];rfl
 rw[<-e];exact hk
theorem qC(hr:bE w u.base 1 (aZ u.xs))(h3:u.xs.length<=u.cap):bE w (cutV u l h).base 1 (aZ (cutV u l h).xs):=by
 have:=ET l (h-l) (by rw[aP];exact h3) hr
 rwa[show((aZ u.xs).drop l).take (h-l)=aZ ((u.xs.drop l).take (h-l)) by simp[aZ,anY,List.map_take]]at this
theorem qp(hu:u.bF):(cutV u l h).bF:=by
 refine⟨λx hx=>hu.fits x (anW (ams hx)),?_,?_⟩
 ·have:=hu.room;show((u.xs.drop l).take (h-l)).length<=u.cap-l;rw[aek,aml];omega
 ·have:=hu.few;show((u.xs.drop l).take (h-l)).length<=_;rw[aek,aml];omega
def Lu(d:aY)(l h:Nat):aY:=⟨if d.cap=l then d.base else d.base.map (·.add (l*1)),d.cap-l,(d.l.drop l).take (h-l)⟩
theorem La{u:aY}(h2:h<=u.l.length):(Lu u l h).l.length=h-l:=by
 show((u.l.drop l).take (h-l)).length=_;rw[aek,aml];omega
theorem Z8{u:aY}(hlo:match lo with|some z=>z=l|none=>l=0)(hhi:match hi with|some z=>z=h|none=>h=u.l.length)(h1:l<=h)(h2:h<=u.l.length)(h3:u.l.length<=u.cap)(hk:K (.c (Lu u l h).val)):ny u.base u.l.length u.cap 1 lo hi none K:=by
 rw[vU];refine⟨l,h,u.cap,hlo,hhi,rfl,h1,by omega,Tw _,λh=>bT,?_⟩;have e:(Lu u l h).val= .slice (if u.cap=l then u.base else u.base.map (·.add (l*1))) (h-l) (u.cap-l):=by
  show Value.slice _ _ _=_;rw[La h2];rfl
 rw[<-e];exact hk
theorem acG{u:aY}(hr:bE w u.base 1 (bA u.l))(h3:u.l.length<=u.cap):bE w (Lu u l h).base 1 (bA (Lu u l h).l):=by
 have:=ET l (h-l) (by rw[acN];exact h3) hr
 rwa[show((bA u.l).drop l).take (h-l)=bA ((u.l.drop l).take (h-l)) by simp[bA,anY,List.map_take]]at this
variable {cx:Cx} {H:Heap} {S:bR} {nx:Nat}
theorem agT{f:FuncId}{args:List SV}{K:SV->Heap->bR->Nat->Prop}(hk:aJ cx f args H S nx (λv H S nx=>qN v H S nx K)):aJ cx f args H S nx K:=by
 rw[fZ]at hk|-
 refine⟨hk.1,λρ w hw=>(hk.2 ρ w hw).mono ?_⟩;rintro e w' ⟨v,ρ',H',S',nx',h1,h2,h3,h4,h5,h6⟩;obtain⟨v2,H2,S2,g1,g2,g3,g4⟩:=Kc h6 h5 h4;exact⟨v2,ρ',H2,S2,nx',by rw[g1];exact h1,h2,h3,g2,g3,g4⟩
theorem Yt(w:World)(base:Option Addr)(cap:Nat)(u v:ax)(hr:bE w base 1 [[u.val],[v.val]])(hu:u.ok w)(hv:v.ok w)(h0:0<u.xs.length+v.xs.length):
 Calls Tryz.prog 129 #[.slice base 2 cap] w λe w'=>∃x,e= .returned x/\Ext w w'/\je w w' x 1 3 (aZ (u.xs++v.xs)):=by
 obtain⟨a,rfl⟩:=aT (j:=0) hr (by show 0<2;decide);exact ZF w a cap u v hr hu hv h0
theorem xR(hP:cx.P=Tryz.prog){j:Nat}{T:TypeId}{K:SV->Heap->bR->Nat->Prop}(u v:ax)(G:Nat->Prop)(hG:∀R w,S.holds R w->∀b,G b->R b)(hu:∀R w,S.holds R w->bE w u.base 1 (aZ u.xs))(hv:∀R w,S.holds R w->bE w v.base 1 (aZ v.xs))(iL:u.bF)(hvs:v.bF)(h0:0<u.xs.length+v.xs.length)(hl:u.xs.length+v.xs.length<=1000000)
 (h:∀m:ax,m.xs=u.xs++v.xs->m.bF->K (.c m.val) H (S.and ((bX m).off G)) (nx+1)):aJ cx 129 [.os j 2] ((j,.rows [[u.val],[v.val]] 1 T)::H) S nx K:=by
 obtain⟨P,B,n,tab⟩:=cx;subst hP;refine agT ?_;refine Wd (K':=λx H' S' nx'=>x= .os nx (aZ (u.xs++v.xs)).length/\H'=(nx,.rows (aZ (u.xs++v.xs)) 1 3)::(j,.rows [[u.val],[v.val]] 1 T)::H/\S'=S/\nx'=nx+1) (jy (f:=129) Tryz.call129 1 3 (λ_:Unit=>aZ (u.xs++v.xs)) (λ_=>True) (λρ w' hw=> ?_) (λ_ _=>⟨rfl,rfl,rfl,rfl⟩)) ?_
 ·have hr:=eZ hw (i:=j) (xs:=[[u.val],[v.val]]) (k:=1) (T:=T) YV;exact(Yt w' _ _ u v hr ⟨ae hw λR h=>hu R _ h,iL.fits,iL.room,iL.few⟩ ⟨ae hw λR h=>hv R _ h,hvs.fits,hvs.room,hvs.few⟩ h0).mono (λe w2 h=>⟨(),trivial,h⟩)
 ·rintro x H' S' nx' ⟨rfl,rfl,rfl,rfl⟩;refine⟨_,aei _ (aom _ _),?_⟩;rw[aP];exact OL (u.xs++v.xs) G hG rfl rfl (λx hx=>(aeh.1 hx).elim (iL.fits x) (hvs.fits x)) (by rw[adx];exact hl) (λm hm hms=>h m hm hms)
def pX(t:Int->Option Int):Int->Option Value:=λz=>(t z).map (Value.int .i64)
theorem Y2(x:Int):Az (λ_=>none) 0 (.int .i64 x)=pX (qY x):=by
 funext z
 unfold Az pX qY;split<;>rfl
theorem afA(t:Int->Option Int)(k v:Int):Az (pX t) k (.int .i64 v)=pX (λz=>if z=k then some v else t z):=by
 funext z
 unfold Az pX;by_cases h:z=k
 ·simp[h]
 ·simp[h]
end
end Go.Proofs.YtgndjjdeopfdkaaGreat

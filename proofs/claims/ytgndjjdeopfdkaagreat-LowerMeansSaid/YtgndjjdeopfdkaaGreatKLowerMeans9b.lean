import Derived.Test.YtgndjjdeopfdkaaGreatKLowerMeans9a
/- texts MH MD of the proof of LowerMeansSaid -/
set_option maxHeartbeats 16000000
set_option maxRecDepth 20000
set_option linter.unusedVariables false
set_option linter.unusedSimpArgs false
namespace Go.Proofs.YtgndjjdeopfdkaaGreat
open Go.SX Go.RowKit
theorem DI(w:World)(n:ak)(t:ax)(hb:n.aQ.ok w)(cnt o:Nat)(hc:cnt<=64)(ho:o<cnt)(h3:n.ai=3->n.aQ.xs.length=cnt)(h4:n.ai=4->1<=n.aQ.xs.length/\n.aQ.xs.length<=64/\0<cnt/n.aQ.xs.length/\o/(cnt/n.aQ.xs.length)<n.aQ.xs.length):
 Calls Tryz.prog 125 #[ou n t,.int .i64 o,.int .i64 cnt] w λe w'=>e= .returned (.int .i64 (dV n cnt o))/\Ext w w':=by
 have ug:=hb.few;by_cases hk3:n.ai=3
 ·have hB:dV n cnt o=n.aQ.xs.getD o 0:=if_pos hk3;have hl:=h3 hk3;rw[hB];obtain⟨ua,rO⟩:=hb.base aa;have hur:∀(R:Nat->Prop) w',(aU w).holds R w'->bE w' (some ua) 1 (aZ n.aQ.xs):=λR w' h=>by rw[<-rO];exact aH h hb.rows
  refine fH Tryz.func125 [.agg [aC n.ai,aC n.a,aC n.b,.c n.az.val,aC n.lo,aC n.hi,aC n.size,.c n.data.val,.c n.aQ.val,.c t.val],aC o,aC cnt] ?_;repeat' ((conv=>whnf)<;>first|(show dn ..;refine aM ua o rO rfl aa ?_)|refine pY ?_|refine bV ?_|refine ag ?_ ?_<;>intro _)
  all_goals(conv=>whnf)
  all_goals exact bZ (λ_ _ h=>h) (λ_=>rfl) rfl
 ·by_cases hk4:n.ai=4
  ·obtain⟨l1,l2,l3,l4⟩:=h4 hk4;have hB:dV n cnt o=n.aQ.xs.getD (o/(cnt/n.aQ.xs.length)) 0:=by rw[dV,if_neg hk3,if_pos hk4]
   rw[hB];obtain⟨ua,rO⟩:=hb.base aa;have hur:∀(R:Nat->Prop) w',(aU w).holds R w'->bE w' (some ua) 1 (aZ n.aQ.xs):=λR w' h=>by rw[<-rO];exact aH h hb.rows
   refine fH Tryz.func125 [.agg [aC n.ai,aC n.a,aC n.b,.c n.az.val,aC n.lo,aC n.hi,aC n.size,.c n.data.val,.c n.aQ.val,.c t.val],aC o,aC cnt] ?_;repeat' ((conv=>whnf)<;>first|(show yM ..;(first|refine vC (am6 cnt n.aQ.xs.length).symm aa aa aa ?_|refine vC (am6 o (cnt/n.aQ.xs.length)).symm aa aa aa ?_))|(show dn ..;refine aM ua (o/(cnt/n.aQ.xs.length)) rO rfl l4 ?_)|(show gZ ..;refine dP hur (j:=o/(cnt/n.aQ.xs.length)) l4 ?_)|refine bV ?_|refine ag ?_ ?_<;>intro _)
   all_goals(conv=>whnf)
   all_goals exact bZ (λ_ _ h=>h) (λ_=>rfl) rfl
  ·have hB:dV n cnt o=0:=by rw[dV,if_neg hk3,if_neg hk4]
   rw[hB];refine fH Tryz.func125 [.agg [aC n.ai,aC n.a,aC n.b,.c n.az.val,aC n.lo,aC n.hi,aC n.size,.c n.data.val,.c n.aQ.val,.c t.val],aC o,aC cnt] ?_;repeat' ((conv=>whnf)<;>first|refine bV ?_|refine ag ?_ ?_<;>intro _)
   all_goals(conv=>whnf)
   all_goals exact bZ (λ_ _ h=>h) (λ_=>rfl) rfl
def Bu(n:ak)(t:List Int)(o:Nat):List Int:=(List.range (au t).toNat).map λ(i:Nat)=>if n.ai=9 then Q9 o i else zO n t o i
def yu(n:ak)(t:List Int)(cnt:Nat):List (List Int):=(List.range cnt).map (Bu n t)
structure RowsIn(n:ak)(t s:List Int)(cnt:Nat):Prop where
 place:gN n [t] s t cnt
 ai:eF n\/n.ai=9
 size:1<=au t
theorem ZI(w:World)(n:ak)(t:ax)(s:List Int)(cnt:Nat)(h:RowsIn n t.xs s cnt)(hno:n.ok w)(ht:t.ok w)(o i:Nat)(ho:o<cnt)(hi:(i:Int)<au t.xs):Calls Tryz.prog 124 #[ou n t,.int .i64 o,.int .i64 i] w λe w'=>e= .returned (.int .i64 (if n.ai=9 then Q9 o i else zO n t.xs o i))/\Ext w w':=by
 have hc:=h.place.few;have heb:=(dN t.xs).2;rcases h.ai with hl|h9
 ·have h9:n.ai≠9:=by rcases hl with g|g|g<;>omega
  rw[if_neg h9];rcases S_ h.place hl with⟨hk,size,hsz,hdl,hbl⟩|⟨k0,k1,k2,k3,i1,i2,hL⟩|⟨i0,i1,i2,hL⟩
  ·exact YQ w n t hno.data hk size cnt hsz hdl hbl hc.2 aa o i ho aa
  ·exact XI w n t hno ht cnt hc.2 hL o i ho hi
  ·exact V3 w n t ht cnt hc.2 hL o i ho hi
 ·rw[if_pos h9];exact YO w n t h9 o i
theorem ahO(w:World)(n:ak)(t:ax)(s:List Int)(cnt:Nat)(h:RowsIn n t.xs s cnt)(hno:n.ok w)(o:Nat)(ho:o<cnt):Calls Tryz.prog 125 #[ou n t,.int .i64 o,.int .i64 cnt] w λe w'=>e= .returned (.int .i64 (dV n cnt o))/\Ext w w':=by
 have hc:=h.place.few;rcases h.ai with hl|h9
 ·rcases S_ h.place hl with⟨hk,size,hsz,hdl,hbl⟩|⟨k0,k1,k2,k3,i1,i2,hL⟩|⟨i0,i1,i2,hL⟩
  ·exact DI w n t hno.aQ cnt o hc.2 ho (λ_=>hbl) (λh4=>by omega)
  ·refine DI w n t hno.aQ cnt o hc.2 ho (λh3=>by have:=hL.ai;omega) λ_=> ?_;have hb:=hL.aQ;have b0:=hL.b0;have hcnt:=hL.cnt;have b2:=hL.b2;have b3:=hL.b3;obtain⟨q,hq⟩:∃q:Nat,(i1-k2+1)*(i2-k3+1)=q:=amo (agJ aa aa);have hq1:1<=q:=by
    have:=amz (show 0<i1-k2+1 by omega) (show 0<i2-k3+1 by omega);omega
   have e1:cnt=n.aQ.xs.length*q:=by
    rw[ank,hq,<-hb,<-akv]at hcnt;exact Int.ofNat.inj hcnt
   have e2:cnt/n.aQ.xs.length=q:=by rw[e1,Nat.mul_div_cancel_left _ aa]
   rw[e2];exact⟨by omega,by omega,hq1,(Nat.div_lt_iff_lt_mul aa).2 (by rw[<-e1];exact ho)⟩
  ·exact DI w n t hno.aQ cnt o hc.2 ho (λh3=>by have:=hL.ai;omega) (λh4=>by have:=hL.ai;omega)
 ·exact DI w n t hno.aQ cnt o hc.2 ho (λh3=>by omega) (λh4=>by omega)
section
def af5:ax:=⟨none,0,[]⟩
def inpN(t:ax):ak:=⟨1,0,0,t,0,0,0,af5,af5⟩
def zB(n:ak)(t:ax):Int×List (List Int):=check ⟨none,0,[inpN t,n],1⟩
theorem abn(n:ak)(t:ax)(b:Option Addr)(c:Nat):check ⟨b,c,[inpN t,n],1⟩=zB n t:=by unfold zB check;rfl
def sW(n:ak)(t:ax):Prop:=(eF n\/n.ai=9)/\n.a=0/\(zB n t).1=0
instance(n:ak)(t:ax):Decidable (sW n t):=by unfold sW;infer_instance
def zw(n:ak)(t:ax):Nat:=(au ((zB n t).2.getD 1 [])).toNat
def pu(n:ak)(t:ax):(List (List Int)×List Int)×Int:=if sW n t then((yu n t.xs (zw n t),(List.range (zw n t)).map (dV n (zw n t))),0)else(([],[]),3)
variable {t:ax}
theorem aaS{n:ak}(h:sW n t):∃s,(zB n t).2=[t.xs,s]/\au s=zw n t/\RowsIn n t.xs s (zw n t):=by
 obtain⟨hk,ha,hc⟩:=h;obtain⟨h1,h2,h3,h4,h5⟩:=gK (g:=⟨none,0,[inpN t,n],1⟩) hc;obtain⟨s0,e0,n0⟩:=h5 0 (inpN t) rfl;obtain⟨s1,e1,n1⟩:=h5 1 n rfl;have hs0:s0=t.xs:=by
  have:=n0.az;unfold bP at this;rw[if_pos (.inl rfl)]at this;exact(Option.some.inj this).symm
 have hl:(zB n t).2.length=2:=h4;have hsh:(zB n t).2=[t.xs,s1]:=by
  have a0:(zB n t).2[0]? =some s0:=e0;have a1:(zB n t).2[1]? =some s1:=e1
  match hq:(zB n t).2,hl with
  |[x,y],_=>
   rw[hq]at a0 a1;simp at a0 a1;rw[a0,a1,hs0]
 obtain⟨_,_,cnt,hcnt,hp⟩:=yl (g:=⟨none,0,[inpN t,n],1⟩) hc (i:=1) (n:=n) rfl;have e2:(check ⟨none,0,[inpN t,n],1⟩).2=[t.xs,s1]:=hsh;rw[e2,ha]at hp;rw[e2]at hcnt;have hc2:zw n t=cnt:=by
  unfold zw;rw[hsh,hcnt];rfl
 refine⟨s1,hsh,by rw[hc2];exact hcnt,by rw[hc2];exact hp,hk,?_⟩;have:=hp.pos t.xs YV;omega
def yY(w:World)(r:(List (List Int)×List Int)×Int):Ending->World->Prop:=λe w'=>∃(x:aY) (y:ax),(BO r.1.1 x/\y.xs=r.1.2/\y.bF)/\e= .returned (.tuple #[x.val,y.val,.int .i64 r.2])/\Ext w w'/\(wm x).holds (λb=>w.heap.size<=b/\b<w'.heap.size) w'/\(bX y).holds (λb=>w.heap.size<=b/\b<w'.heap.size) w'
variable {w:World} {B:Base} {H:Heap} {S:bR} {nx:Nat}
theorem Kl{n:ak}(hno:¬sW n t)(hb:∀R w',S.holds R w'->(aU B.w0).holds R w')(hw0:B.w0=w):jS B (.xg [.c (.slice none 0 0),.c (.slice none 0 0),aC 3]) H S nx (yY w (pu n t)):=by
 subst hw0;rw[pu,if_neg hno];refine dK λρ w' hw=>⟨⟨none,0,[]⟩,⟨none,0,[]⟩,⟨⟨rfl,λ_ h=>bT,Tw _⟩,rfl,⟨λ_ h=>bT,Tw _,by decide⟩⟩,rfl,bG hw hb,⟨⟨λ_ h=>bT,.inl rfl⟩,λ_ h=>bT⟩,⟨λ_ h=>bT,.inl rfl⟩⟩
def RIs(p:iR):Prop:=(p.1=⟨none,0⟩/\p.2=[])\/((∃b off,p.1.base=some ⟨b,off,none⟩)/\p.2≠[]/\p.2.length<=p.1.cap)
theorem afE{i g j n m:Nat}{L:List iR}{bs:List Int}{r:(List (List Int)×List Int)×Int}(hb:∀R w',S.holds R w'->(aU B.w0).holds R w')(hw0:B.w0=w)(hL:∀p∈L,RIs p)(hf:∀p∈L,(∀x∈p.2,i64 x)/\p.2.length<=1000000)(hm:m=L.length)(hn:n=bs.length)(hbf:∀x∈bs,i64 x)(hbl:bs.length<=1000000)
 (hi:(i,b_.rows (iM L) 1 32)∈H) (hg:(g,b_.ext (o_ 3 (nK L)))∈H) (hj:(j,b_.rows (aZ bs) 1 3)∈H) (hr:r=((L.map Prod.snd,bs),0)):
 jS B (.xg [.os i m,.os j n,aC 0]) H S nx (yY w r):=by
 subst hw0 hm hn hr;refine dK λρ w' hw=> ?_;have hn1:=fI hw hb hi;have hsh:iM L=bA (L.map p_):=by simp[iM,bA,Nj,p_,ax.val]
 rw[hsh]at hn1;obtain⟨base,cap,e,h1,h2⟩:∃base cap,(SV.os i (bA (L.map p_)).length).rf ρ= .slice base (L.map p_).length cap/\(L.map p_).length<=cap/\(f_ base 1 (bA (L.map p_))).holds (λb=>B.w0.heap.size<=b/\b<w'.heap.size) w':=by
  obtain⟨base,cap,e,h1⟩:=ig hn1;obtain⟨lc,e2,F,hF,hr,hcap,_⟩:=hn1;rw[e2]at e;simp only[Value.slice.injEq]at e;obtain⟨e3,_,e4⟩:=e;refine⟨base,cap,?_,?_,h1⟩
  ·rw[e2,e3,e4,acN]
  ·rw[<-e4];simpa[acN]using hcap
 have hlen:(bA (L.map p_)).length=L.length:=by rw[acN,aas]
 rw[hlen]at e;have hn2:=fI hw hb hj;rw[aP]at hn2;obtain⟨y,ey,y1,y2,y3⟩:=vv hn2 hbf hbl;refine⟨⟨base,cap,L.map p_⟩,y,⟨⟨by simp[p_],λu hu=> ?_,h1⟩,y1,y2⟩,?_,bG hw hb,⟨h2,λu hu=> ?_⟩,y3⟩
 ·obtain⟨p,hp,rfl⟩:=abl.1 hu;rcases hL p hp with⟨e1,e2⟩|⟨_,e2,e3⟩
  ·exact⟨(hf p hp).1,by simp[p_,e2],by simp[p_,e2]⟩
  ·exact⟨(hf p hp).1,e3,(hf p hp).2⟩
 ·have:(SV.xg [.os i L.length,.os j bs.length,aC 0]).rf ρ= .tuple #[(SV.os i L.length).rf ρ,(SV.os j bs.length).rf ρ,.int .i64 0]:=rfl;rw[this,e,ey,aas];simp[aY.val]
 ·obtain⟨p,hp,rfl⟩:=abl.1 hu;rcases hL p hp with⟨e1,e2⟩|⟨⟨b,off,e1⟩,e2,e3⟩
  ·show(f_ (p_ p).base 1 (aZ (p_ p).xs)).holds _ w';have:(p_ p).xs=[]:=e2;rw[this];exact⟨λr hr=>(by cases hr),.inl rfl⟩
  ·have hp':((p.1,p.2.map (Value.int .i64)):zi)∈nK L:=abl.2 ⟨p,hp,rfl⟩;obtain⟨g1,g2,g3⟩:=aa5 hw hb hg hp' e1;refine⟨kJ,.inr ⟨b,off,e1,⟨g1,g2⟩,λk r hk j v hj=> ?_⟩⟩;have hkl:k<p.2.length:=by
    have:=(abH.1 hk).1
    rwa[aP]at this
   have hk':(aZ p.2)[k]? =some r:=hk;rw[eO hkl]at hk';obtain rfl:[Value.int .i64 p.2[k]]=r:=by simpa using hk'
   have hj0:j=0:=by
    rcases amm j with h|h
    ·exact h
    ·rw[aiQ AR]at hj;cases hj
   subst hj0;have:=g3 k (Value.int .i64 p.2[k]) (by simp[hkl]);obtain rfl:Value.int .i64 p.2[k]=v:=by simpa using hj
   simpa using this
end
abbrev akW:DT:=(bS [0,2] (.alt 1 (bS [4,103,5] .done) (bS [103,101,4,5] .done)))
abbrev aiU:DT:=(bS [0,1,2,3,4,5,6,7,8,109,110,111,12,113] .done)
theorem aeN{l1:SX.Loc}{R:Nat->Prop}{w:World}{n:ak}{t:ax}(hn:n.ok w)(hsm:n.small)(ht:t.ok w)(h:((f_ l1.base 9 (bO [inpN t,n])).past 0).holds R w):(⟨l1.base,l1.cap,[inpN t,n],1⟩:bM).ok w:=by
 have z:i64 0:=⟨by decide,by decide⟩;have nv:af5.ok w:=⟨.inl rfl,λ_ h=>bT,Tw _,by decide⟩;refine⟨bf h,λm hm=> ?_,λm hm=> ?_,(show 2<=1000000 by decide),(show i64 1 from⟨by decide,by decide⟩)⟩
 ·rcases abr.1 hm with rfl|hm
  ·exact⟨ht,nv,nv,(show i64 1 from⟨by decide,by decide⟩),z,z,z,z,z⟩
  ·rw[afe.1 hm];exact hn
 ·rcases abr.1 hm with rfl|hm
  ·exact⟨aae _,aae _⟩
  ·rw[afe.1 hm];exact hsm
theorem Ym{cx:Cx}{f:FuncId}{args:List SV}{H:Heap}{S:bR}{nx:Nat}{K:SV->Heap->bR->Nat->Prop}(r:Int×List (List Int))(hf:∀ar w,(callFunc f ar).run cx.P w= .ok (.enter f ar) w)
 (hc:∀ρ w',dO cx.B ρ nx H S w'->Calls cx.P f (SV.dW ρ args).toArray w' (oW w' r))
 (h0:r.1≠0->K (.c (.tuple #[.slice none 0 0,.int .i64 r.1])) H S nx)
 (h1:r.1=0->∀sv:aY,sv.l.map (·.xs)=r.2->(∀u∈sv.l,u.bF)->(0<sv.l.length->∃a,sv.base=some a)->K (.c (.tuple #[sv.val,.int .i64 0])) H (S.and ((jD sv).past cx.B.w0.heap.size)) nx):aJ cx f args H S nx K:=by
 rw[fZ];refine⟨hf,λρ w hw=>(hc ρ w hw).mono ?_⟩;rintro e w' ⟨v,rfl,he,hbad,hgood⟩;by_cases hr:r.1=0
 ·obtain⟨sv,rfl,hm,hs,hd,hcap⟩:=hgood hr;rw[hr];exact⟨.c (.tuple #[sv.val,.int .i64 0]),ρ,H,_,nx,rfl,λ_ _=>rfl,Tw _,SV.iW _,hw.grow he hd,h1 hr sv hm hs (λh0=>aT (j:=0) (bf hd.1) (by rw[acN];exact h0))⟩
 ·rw[hbad hr];exact⟨.c (.tuple #[.slice none 0 0,.int .i64 r.1]),ρ,H,S,nx,rfl,λ_ _=>rfl,Tw _,SV.iW _,hw.ext he,h0 hr⟩
theorem aax(w:World)(n:ak)(t:ax)(hn:n.ok w)(hsm:n.small)(ht:t.ok w)(hno:¬sW n t):Calls Tryz.prog 63 #[n.p9,t.val] w (yY w (pu n t)):=by
 by_cases hk:eF n\/n.ai=9
 ·have hkk:=hk;unfold eF at hk;refine fH Tryz.func63 [.agg (vo n),.c t.val] ?_;repeat' ((conv=>whnf)<;>first|refine Lv ?_|refine ag ?_ ?_<;>intro _)
  all_goals first|(exfalso;omega)|skip
  all_goals
   repeat' ((conv=>whnf)<;>first|refine Lv ?_|refine ag ?_ ?_<;>intro _)
   refine sH 0 (λ_ _ _ _ hb=>absurd hb (ahf _)) (λl1 hl1=> ?_);repeat' ((conv=>whnf)<;>first|(show aJ _ 24 ..;(refine oD (f:=24) (zB n t) Tryz.call24 (λρ w' hw=>by have:=qE w' ⟨l1.base,l1.cap,[inpN t,n],1⟩ (ae hw λR h=>aeN (hn.later h.1) hsm (ht.later h.1) h.2);rw[abn]at this;exact this) (λhne=> ?_) (λhe sv hm hsv=> ?_)))|(show @iG _ _ _;(first|refine gJ aa ?_|refine jc (λh=>h rfl) ?_|refine gJ (λh=>hno ⟨hkk,h,he⟩) ?_))|refine Lv ?_)
   all_goals(conv=>whnf)
   all_goals first|exact Kl hno (λ_ _ h=>h.1) rfl|exact Kl hno (λ_ _ h=>h.1.1) rfl
 ·have hk':n.ai≠3/\n.ai≠4/\n.ai≠5/\n.ai≠9:=⟨λg=>hk (.inl (.inl g)),λg=>hk (.inl (.inr (.inl g))),λg=>hk (.inl (.inr (.inr g))),λg=>hk (.inr g)⟩;refine fH Tryz.func63 [.agg (vo n),.c t.val] ?_;repeat' ((conv=>whnf)<;>first|refine Lv ?_|refine ag ?_ ?_<;>intro _)
  all_goals(conv=>whnf)
  all_goals first|(exfalso;omega)|exact Kl hno (λ_ _ h=>h) rfl
end Go.Proofs.YtgndjjdeopfdkaaGreat

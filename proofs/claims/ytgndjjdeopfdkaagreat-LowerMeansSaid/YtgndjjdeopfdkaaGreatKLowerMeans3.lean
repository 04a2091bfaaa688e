import Derived.LoopN
import Derived.Laws.BytesString
import Derived.Laws.Cells
import Derived.Lib.Mul64
import Derived.Laws.Bits64b
import Derived.Laws.Externs
import Derived.Test.YtgndjjdeopfdkaaGreatKLowerMeans2
/- texts SxX SxZn of the proof of LowerMeansSaid -/
set_option maxHeartbeats 16000000
set_option maxRecDepth 20000
set_option linter.unusedVariables false
set_option linter.unusedSimpArgs false
namespace Go.SX
open Go.RowKit
section
def LX(cx:Cx)(body:Code)(K:Exit->Env->Heap->bR->Nat->Prop):Nat->Env->Heap->bR->Nat->Prop
 |0,_,_,_,_=>False
 |n+1,env,H,S,nx=>Wp cx body env H S nx (λe env' H' S' nx'=>match e with
   | .normal=>LX cx body K n env' H' S' nx'
   |e=>K e env' H' S' nx')
theorem Wp.rounds{cx:Cx}{body:Code}{env:Env}{H:Heap}{S:bR}{nx:Nat}{K:Exit->Env->Heap->bR->Nat->Prop}(n:Nat)(h:LX cx body K n env H S nx):Wp cx (.loop body) env H S nx K:=by
 refine⟨λρ a w hs hw=>wp_loop_rounds n ?_⟩;have key:∀(n:Nat) {env:Env} {H:Heap} {S:bR} {nx1:Nat} {ρ1:Nat->Loc} {a:Act} {w:World},LX cx body K n env H S nx1->(∀i,i<nx->ρ1 i=ρ i)->nx<=nx1->Sat cx.n ρ1 nx1 env a->dO cx.B ρ1 nx1 H S w->
  Code.rounds cx.P body (λe a' w'=>∃ρ' env' H' S' nx',(∀i,i<nx->ρ' i=ρ i)/\nx<=nx'/\Sat cx.n ρ' nx' env' a'/\dO cx.B ρ' nx' H' S' w'/\K e env' H' S' nx') n a w:=by
  intro n;induction n with
  |zero=>intro env H S nx1 ρ1 a w h;exact h.elim
  |succ n ih=>
   intro env H S nx1 ρ1 a w h hr hn hs hw;rw[rounds_succ];have h':Wp cx body env H S nx1 (λe env' H' S' nx'=>match e with
    | .normal=>LX cx body K n env' H' S' nx'
    |e=>K e env' H' S' nx'):=h
   refine wp_mono (h'.out ρ1 a w hs hw) ?_;rintro e a' w' ⟨ρ',env',H',S',nx',h1,h2,h3,h4,h5⟩;have hr':∀i,i<nx->ρ' i=ρ i:=λi hi=>(h1 i (ahd hi hn)).trans (hr i hi);cases e with
   |normal=>exact ih h5 hr' (aiC hn h2) h3 h4
   |_=>exact⟨ρ',env',H',S',nx',hr',aiC hn h2,h3,h4,h5⟩
 exact key n h (λ_ _=>rfl) (Tw _) hs hw
variable {cx:Cx} {env:Env} {H:Heap} {S:bR} {nx:Nat}
theorem Wp.know{c:Code}{K:Exit->Env->Heap->bR->Nat->Prop}{p:Prop}(h1:∀ρ w,dO cx.B ρ nx H S w->p)(h2:p->Wp cx c env H S nx K):Wp cx c env H S nx K:=
 ⟨λρ a w hs hw=>(h2 (h1 ρ w hw)).out ρ a w hs hw⟩
variable {base:Option Addr} {len size:Nat} {K:SV->Prop}
theorem aiY{z:Int}{a:Addr}(hb:base=some a)(h0:0<=z)(h1:z<len)(h:K (.c (.pointer (some (a.add (z.toNat*size)))))):dn base len size z K:=by
 rw[Qh];exact⟨a,hb,h0,h1,h⟩
theorem dP{a:Addr}{j:Nat}{xs:List Int}(hx:∀R w,S.holds R w->bE w (some a) 1 (aZ xs))(hj:j<xs.length)(h:K (.c (.int .i64 (xs.getD j 0)))):gZ (a.add (j*1)) S K:=
 bN hx [.int .i64 (xs.getD j 0)] (.int .i64 (xs.getD j 0)) (by rw[eO hj];simp[List.getD,hj]) rfl h
theorem Mo{cap:Nat}(hc:len<=cap)(h:K (.c (.slice base len len))):ny base len cap size none (some (len:Int)) (some (len:Int)) K:=by
 rw[vU];refine⟨0,len,len,rfl,rfl,rfl,aae _,Tw _,hc,λ_=>rfl,?_⟩;have:(if len=0 then base else base.map (·.add (0*size)))=base:=by
  split
  ·rfl
  ·cases base<;>simp[Addr.add]
 have e:len-0=len:=am4 len;rw[this,e];exact h
variable {B:Base} {ρ:Nat->Loc} {w:World} {D:bR}
theorem dO.grow{w':World}(hw:dO B ρ nx H S w)(he:Ext w w')(hD:D.holds (λb=>w.heap.size<=b/\b<w'.heap.size) w'):dO B ρ nx H (S.and (D.past B.w0.heap.size)) w':=by
 obtain⟨R,φ,lF⟩:=hw;have uY:=lF.step (Step.I8 he) (λ_ _ h=>h) (λ_ _ _ _ h=>h);refine⟨λb=>R b\/(w.heap.size<=b/\b<w'.heap.size),φ,uY.os,uY.tape,uY.output,uY.size,uY.pin,λb hb=>hb.elim (uY.ro b) (λh=>h.2),⟨S.stable (λ_ h=> .inl h) (λ_ _=>rfl) uY.qL,?_⟩,uY.key,uY.jA,λp hp b hb hb'=> ?_,uY.sep⟩
 ·exact D.stable (λb hb=>⟨.inr hb,aiC lF.size hb.1⟩) (λ_ _=>rfl) hD
 ·rcases hb' with hb'|hb'
  ·exact uY.apart p hp b hb hb'
  ·have:=b_.size (lF.jA p hp) hb;omega
theorem jU{f:FuncId}{args:List SV}{K:SV->Heap->bR->Nat->Prop}(hf:∀ar w,(callFunc f ar).run cx.P w= .ok (.enter f ar) w){α:Type}(val:α->Value)(D:α->bR)(p:α->Prop)
 (hc:∀ρ w,dO cx.B ρ nx H S w->Calls cx.P f (SV.dW ρ args).toArray w (λe w'=>∃x,p x/\e= .returned (val x)/\Ext w w'/\(D x).holds (λb=>w.heap.size<=b/\b<w'.heap.size) w'))
 (h:∀x,p x->K (.c (val x)) H (S.and ((D x).past cx.B.w0.heap.size)) nx):aJ cx f args H S nx K:=by
 rw[fZ];refine⟨hf,λρ w hw=>(hc ρ w hw).mono ?_⟩;rintro e w' ⟨x,hp,rfl,he,hD⟩;exact⟨.c (val x),ρ,H,_,nx,rfl,λ_ _=>rfl,Tw _,SV.iW _,hw.grow he hD,h x hp⟩
theorem lW(hw:dO B ρ nx H S w)(hS:∀R w',S.holds R w'->(D.past B.w0.heap.size).holds R w'):D.holds (λb=>B.w0.heap.size<=b/\b<w.heap.size) w:=by
 obtain⟨R,φ,hw⟩:=hw;exact D.stable (λb hb=>⟨hb.2,hw.ro b hb.1⟩) (λ_ _=>rfl) (hS R w hw.qL)
end
section
def oth(w:World)(b:Nat):Nat->Prop:=λx=>x<w.heap.size/\x≠b
def l_(w0:World)(b:Nat):bR where
 holds R w:=∀x,oth w0 b x->R x/\w.heap[x]? =w0.heap[x]?
 stable:=λhR hw h x hx=>⟨hR x (h x hx).1,(hw x (h x hx).1).trans (h x hx).2⟩
variable {w w':World} {b:Nat} {D:bR}
theorem bC{R:Nat->Prop}(h:D.holds (oth w b) w)(hr:(l_ w b).holds R w'):D.holds R w':=
 D.stable (λx hx=>(hr x hx).1) (λx hx=>(hr x hx).2) h
def mQ(b:Nat):Loc:=⟨some ⟨b,0,none⟩,0⟩
variable {cells:List Value} {T:TypeId}
theorem xn(hb:w.heap[b]? =some (.cells cells.toArray T (0,0))):
 dO ⟨w,[(0,mQ b)]⟩ (λ_=>mQ b) 1 [(0,.box (cs cells) T)] (l_ w b) w:=by
 refine⟨oth w b,λ_ x=>x=b,rfl,rfl,rfl,Tw _,?_,λx hx=>hx.1,λx hx=>⟨hx,rfl⟩,?_,?_,?_,?_⟩
 ·intro p hp;simp at hp;subst hp;exact⟨amD _,rfl⟩
 ·intro p hp;simp at hp;subst hp;exact⟨amD _,λi hi=>absurd hi (by have:=x9 0 cells i;intro h;exact absurd (this h) (ahf _))⟩
 ·intro p hp;simp at hp;subst hp;exact⟨b,rfl,λ_=>Iff.rfl,by rw[mF];exact hb⟩
 ·intro p hp x hx hR;exact hR.2 hx
 ·exact List.pairwise_singleton _ _
variable {ρ:Nat->Loc} {nx:Nat} {H:Heap} {S:bR}
theorem qR(hw:dO ⟨w,[(0,mQ b)]⟩ ρ nx H S w')(hS:∀R w',S.holds R w'->(l_ w b).holds R w')(he:(0,b_.box (cs cells) T)∈H):
 Step (λy=>y=b) w w'/\w'.heap[b]? =some (.cells cells.toArray T (0,0)):=by
 obtain⟨R,φ,hw⟩:=hw;have hp:=(hw.pin (0,mQ b) YV).2;obtain⟨b',h1,h2,h3⟩:=hw.jA _ he;simp only at hp h1;rw[hp]at h1;obtain rfl:b=b':=by simpa[mQ]using h1
 rw[mF]at h3;exact⟨⟨hw.os,hw.tape,hw.output,hw.size,λx hx hne=>(hS R w' hw.qL x ⟨hx,hne⟩).2⟩,h3⟩
theorem abS(hw:dO ⟨w,[(0,mQ b)]⟩ ρ nx H S w')(hD:∀R w',S.holds R w'->(D.past w.heap.size).holds R w'):D.holds (λy=>w.heap.size<=y/\y<w'.heap.size) w':=lW hw hD
def Md{α:Type}(w:World)(b:Nat)(T:TypeId)(val:α->Value)(cells:α->List Value)(D:α->bR)(p:α->Prop)(e:Ending)(w':World):Prop:=
 ∃x,p x/\e= .returned (val x)/\Step (λy=>y=b) w w'/\w'.heap[b]? =some (.cells (cells x).toArray T (0,0))/\(D x).holds (λy=>w.heap.size<=y/\y<w'.heap.size) w'
theorem XJ{cx:Cx}{f:FuncId}{args:List SV}{i:Nat}{K:SV->Heap->bR->Nat->Prop}{cells:List SV}(hi:(i,b_.box cells T)∈H)(hf:∀ar w,(callFunc f ar).run cx.P w= .ok (.enter f ar) w){α:Type}(val:α->Value)(cells':α->List Value)(D:α->bR)(p:α->Prop)
 (hc:∀R ρ w b,dO cx.B ρ nx H S w->S.holds R w->(∀x,R x->oth w b x)->(ρ i).base=some ⟨b,0,none⟩->w.heap[b]? =some (.cells (SV.dW ρ cells).toArray T (0,0))->Calls cx.P f (SV.dW ρ args).toArray w (Md w b T val cells' D p))
 (h:∀x,p x->K (.c (val x)) (setH i (.box (cs (cells' x)) T) H) (S.and ((D x).past cx.B.w0.heap.size)) nx):aJ cx f args H S nx K:=by
 rw[fZ];refine⟨hf,λρ w hw=> ?_⟩;have hw0:=hw;obtain⟨R,φ,lF⟩:=hw;obtain⟨b,h1,h2,h3⟩:=lF.jA _ hi;simp only at h1 h2;refine(hc R ρ w b hw0 lF.qL (λx hx=>⟨lF.ro x hx,λe=>lF.apart _ hi x ((h2 x).2 e) hx⟩) h1 h3).mono ?_;rintro e w' ⟨x,hp,rfl,hs,hb,hD⟩;have hlt:(b_.box (cs (cells' x)) T).lt nx:=λy hy=>x9 nx _ y hy;have h':=lF.store hi hlt (w':=w') λF hF=>by
  obtain⟨b',g1,g2,g3⟩:=hF;obtain rfl:b=b':=by rw[h1]at g1;simpa using g1
  exact⟨⟨hs.os,hs.tape,hs.output,hs.size,λy hy hne=>hs.block y hy λe=>hne ((g2 y).2 e)⟩,b,g1,g2,by rw[mF];exact hb⟩
 refine⟨.c (val x),ρ,_,_,nx,rfl,λ_ _=>rfl,Tw _,SV.iW _,?_,h x hp⟩;refine⟨λy=>R y\/(w.heap.size<=y/\y<w'.heap.size),φ,h'.os,h'.tape,h'.output,h'.size,h'.pin,λy hy=>hy.elim (h'.ro y) (λh=>h.2),⟨S.stable (λ_ h=> .inl h) (λ_ _=>rfl) h'.qL,?_⟩,h'.key,h'.jA,λq hq y hy hy'=> ?_,h'.sep⟩
 ·exact(D x).stable (λy hy=>⟨.inr hy,aiC lF.size hy.1⟩) (λ_ _=>rfl) hD
 ·rcases hy' with hy'|hy'
  ·exact h'.apart q hq y hy hy'
  ·have hk:q.1∈H.map (·.1):=by rw[<-oO i (.box (cs (cells' x)) T) H];exact abl.2 ⟨q,hq,rfl⟩
   obtain⟨q',hq',e⟩:=abl.1 hk;rw[<-e]at hy;have:=b_.size (lF.jA q' hq') hy;omega
end
theorem Ap{φ:Nat->Nat->Prop}:∀{H:Heap},H.Pairwise (λp q=>p.1≠q.1/\∀b,φ p.1 b->¬φ q.1 b)->∀{p q:Nat×b_},p∈H->q∈H->p.1≠q.1->∀b,φ p.1 b->¬φ q.1 b
 |[],_,p,q,hp,_,_,_,_=>by cases hp
 |x::r,hs,p,q,hp,hq,hne,b,hb=>by
  obtain⟨hx,hr⟩:=aiN.1 hs;intro hb';rcases abr.1 hp with gp|gp<;>rcases abr.1 hq with gq|gq
  ·exact hne wS
  ·rw[<-gp]at hx;exact(hx _ gq).2 b hb hb'
  ·rw[<-gq]at hx;exact(hx _ gp).2 b hb' hb
  ·exact Ap hr gp gq hne b hb hb'
theorem Od{w w':World}{b:Nat}{ρ:Nat->Loc}{nx j k:Nat}{H:Heap}{S:bR}{cells:List SV}{T T':TypeId}{xs:List (List Value)}(hw:dO ⟨w,[(0,mQ b)]⟩ ρ nx H S w')(hS:∀R w',S.holds R w'->(l_ w b).holds R w')(h0:(0,b_.box cells T)∈H)(he:(j,b_.rows xs k T')∈H)(hj:j≠0):
 je w w' ((SV.os j xs.length).rf ρ) k T' xs:=by
 obtain⟨R,φ,hw⟩:=hw;have hp:=(hw.pin (0,mQ b) YV).2;obtain⟨b',h1,h2,h3⟩:=hw.jA _ h0;simp only at hp h1;rw[hp]at h1;obtain rfl:b=b':=by simpa[mQ]using h1
 refine⟨ρ j,rfl,φ j,λx hx=> ?_,hw.jA _ he⟩;rcases ack x w.heap.size with hl|hl
 ·exfalso;by_cases hxb:x=b
  ·exact Ap hw.sep he h0 hj x hx ((h2 x).2 hxb)
  ·exact hw.apart _ he x hx (hS R w' hw.qL x ⟨hl,hxb⟩).1
 ·exact hl
def iV(w:World)(F:Nat->Prop):Nat->Prop:=λx=>x<w.heap.size/\¬F x
def l8(w0:World)(F:Nat->Prop):bR where
 holds R w:=∀x,iV w0 F x->R x/\w.heap[x]? =w0.heap[x]?
 stable:=λhR hw h x hx=>⟨hR x (h x hx).1,(hw x (h x hx).1).trans (h x hx).2⟩
def SliceAt(T TE:TypeId)(k:Nat)(xs:List (List Value))(b:Nat)(F:Nat->Prop)(w:World):Prop:=
 ∃(v:Loc) (G:Nat->Prop),w.heap[b]? =some (.cells #[.slice v.base xs.length v.cap] T (0,0))/\(∀x,F x↔x=b\/G x)/\¬G b/\(b_.rows xs k TE).holds (λ_=>v) v G w
theorem SliceAt.stable{T TE:TypeId}{k:Nat}{xs:List (List Value)}{b:Nat}{F:Nat->Prop}{w w':World}(hf:∀x,F x->w'.heap[x]? =w.heap[x]?)(h:SliceAt T TE k xs b F w):SliceAt T TE k xs b F w':=by
 obtain⟨v,G,h1,h2,h3,h4⟩:=h;exact⟨v,G,by rw[hf b ((h2 b).2 (.inl rfl))];exact h1,h2,h3,b_.stable (λx hx=>hf x ((h2 x).2 (.inr hx))) h4⟩
theorem SliceAt.size{T TE:TypeId}{k:Nat}{xs:List (List Value)}{b:Nat}{F:Nat->Prop}{w:World}(h:SliceAt T TE k xs b F w){x:Nat}(hx:F x):x<w.heap.size:=by
 obtain⟨v,G,h1,h2,h3,h4⟩:=h;rcases(h2 x).1 hx with rfl|hx
 ·exact iT h1
 ·exact b_.size h4 hx
def Ow(T TE:TypeId)(k:Nat)(xs:List (List Value)):Own where
 holds l F w:=∃b,l.base=some ⟨b,0,none⟩/\SliceAt T TE k xs b F w
 stable:=λhf ⟨b,h1,h2⟩=>⟨b,h1,h2.stable hf⟩
 lt:=λ⟨_,_,h⟩ hx=>h.size hx
theorem wz.move{B:Base}{R:Nat->Prop}{φ:Nat->Nat->Prop}{ρ:Nat->Loc}{nx:Nat}{H:Heap}{S:bR}{w w':World}{i:Nat}{e e':b_}(h:wz B R φ ρ nx H S w)(hi:(i,e)∈H)(hlt:e'.lt nx){F':Nat->Prop}
 (hs:Step (φ i) w w') (hF:∀y,F' y->φ i y\/w.heap.size<=y) (he':e'.holds ρ (ρ i) F' w'):wz B R (λj=>if j=i then F' else φ j) ρ nx (setH i e' H) S w':=by
 have hR:∀b,R b->¬φ i b:=λb hb hb'=>h.apart _ hi b hb' hb;have hk:((setH i e' H).map (·.1)).Pairwise (·≠·):=by rw[oO];exact aj3.2 (h.sep.imp λx=>x.1)
 have hk':(setH i e' H).Pairwise λp q=>p.1≠q.1/\True:=(aj3.1 hk).imp λx=>⟨x,trivial⟩;have mem:∀p∈setH i e' H,p=(i,e')\/(p.1≠i/\p∈H):=by
  intro p hp;obtain⟨pi,pe⟩:=p;by_cases hpi:pi=i
  ·subst hpi;have:pe=e':=xy hk' hp (tN hi);subst this;exact .inl rfl
  ·rcases wh hp with⟨h1,_⟩|h1
   ·exact absurd (by simpa using congrArg Prod.fst h1) hpi
   ·exact .inr ⟨hpi,h1⟩
 refine⟨hs.os.trans h.os,hs.tape.trans h.tape,hs.output.trans h.output,aiC h.size hs.size,h.pin,λb hb=>ahd (h.ro b hb) hs.size,
  S.stable (λ_ hb=>hb) (λb hb=>hs.block b (h.ro b hb) (hR b hb)) h.qL,?_,?_,?_,?_⟩
 ·intro p hp;rcases mem p hp with rfl|⟨_,hp⟩
  ·exact⟨(h.key _ hi).1,hlt⟩
  ·exact h.key p hp
 ·intro p hp;rcases mem p hp with rfl|⟨hne,hp⟩
  ·simp only[if_true];exact he'
  ·simp only[if_neg hne];exact b_.stable (λb hb=>hs.block b (b_.size (h.jA p hp) hb) (Ap h.sep hp hi hne b hb)) (h.jA p hp)
 ·intro p hp b hb;rcases mem p hp with rfl|⟨hne,hp⟩
  ·simp only[if_true]at hb;rcases hF b hb with hb|hb
   ·exact h.apart _ hi b hb
   ·intro hRb;have:=h.ro b hRb;omega
  ·simp only[if_neg hne]at hb;exact h.apart p hp b hb
 ·refine List.Pairwise.imp_of_mem (R:=λp q=>p.1≠q.1) (λ{p q} hp hq hpq=>⟨hpq,λb hb hb'=> ?_⟩) (aj3.1 hk);rcases mem p hp with rfl|⟨hpn,hp⟩<;>rcases mem q hq with rfl|⟨hqn,hq⟩
  ·exact hpq rfl
  ·simp only[if_true,if_neg hqn]at hb hb';rcases hF b hb with hb|hb
   ·exact Ap h.sep hi hq hpq b hb hb'
   ·have:=b_.size (h.jA q hq) hb';omega
  ·simp only[if_true,if_neg hpn]at hb hb';rcases hF b hb' with hb'|hb'
   ·exact Ap h.sep hp hi hpq b hb hb'
   ·have:=b_.size (h.jA p hp) hb;omega
  ·simp only[if_neg hpn,if_neg hqn]at hb hb';exact Ap h.sep hp hq hpq b hb hb'
theorem SliceAt.at{T TE:TypeId}{k:Nat}{xs:List (List Value)}{b:Nat}{F:Nat->Prop}{w:World}(h:SliceAt T TE k xs b F w):F b:=by
 obtain⟨v,G,h1,h2,h3,h4⟩:=h;exact(h2 b).2 (.inl rfl)
theorem SliceAt.cell{T TE:TypeId}{k:Nat}{xs:List (List Value)}{b:Nat}{F:Nat->Prop}{w:World}(h:SliceAt T TE k xs b F w):∃(v:Loc) (G:Nat->Prop),w.cell? ⟨b,0,none⟩=some (.slice v.base xs.length v.cap)/\(∀x,F x↔x=b\/G x)/\¬G b/\(b_.rows xs k TE).holds (λ_=>v) v G w:=by
 obtain⟨v,G,h1,h2,h3,h4⟩:=h;exact⟨v,G,by simp[World.cell?,h1],h2,h3,h4⟩
theorem Wp.slice{cx:Cx}{c:Code}{env:Env}{H1 H2:Heap}{S:bR}{nx i:Nat}{K:Exit->Env->Heap->bR->Nat->Prop}{T:TypeId}(TE:TypeId)(k:Nat)(h:Wp cx c env (H1++(i,.ext (Ow T TE k []))::H2) S nx K):Wp cx c env (H1++(i,.box [.c (.slice none 0 0)] T)::H2) S nx K:=by
 refine⟨λρ a w hs hw=>h.out ρ a w hs ?_⟩;obtain⟨R,φ,hw⟩:=hw;have conv:∀{Q:Nat×b_->Prop},(∀p∈H1++(i,b_.box [.c (.slice none 0 0)] T)::H2,Q p)->Q (i,.ext (Ow T TE k []))->∀p∈H1++(i,b_.ext (Ow T TE k []))::H2,Q p:=by
  intro Q hQ hq p hp;rcases aeh.1 hp with hp|hp
  ·exact hQ p (aeh.2 (.inl hp))
  ·rcases abr.1 hp with rfl|hp
   ·exact hq
   ·exact hQ p (aeh.2 (.inr (aeg _ hp)))
 have hm:(i,b_.box [.c (.slice none 0 0)] T)∈H1++(i,b_.box [.c (.slice none 0 0)] T)::H2:=by simp
 refine⟨R,φ,hw.os,hw.tape,hw.output,hw.size,hw.pin,hw.ro,hw.qL,conv hw.key ⟨(hw.key _ hm).1,λx hx=>by simp[b_.hass]at hx⟩,conv hw.jA ?_,conv hw.apart (λb hb=>hw.apart _ hm b hb),?_⟩
 ·obtain⟨b,h1,h2,h3⟩:=hw.jA _ hm;refine⟨b,h1,⟨none,0⟩,λ_=>False,by simpa[SV.dW,SV.rf]using h3,λx=>by simp[h2 x],λh=>h,by simp,by simp,.inl ⟨rfl,rfl,λx h=>h⟩⟩
 ·have e1:((H1++(i,b_.box [.c (.slice none 0 0)] T)::H2).map Prod.fst).Pairwise (λa b=>a≠b/\∀x,φ a x->¬φ b x):=aj3.2 hw.sep;rw[afn,afY]at e1;have e2:(H1++(i,b_.ext (Ow T TE k []))::H2).map Prod.fst=H1.map Prod.fst++i::H2.map Prod.fst:=by rw[afn,afY]
  have e3:((H1++(i,b_.ext (Ow T TE k []))::H2).map Prod.fst).Pairwise (λa b=>a≠b/\∀x,φ a x->¬φ b x):=by rw[e2];exact e1
  exact aj3.1 e3
def anF(l:List Int):List (List Value):=l.map λx=>[Value.int .u8 x]
theorem aaS{TE:TypeId}{k:Nat}{xs:List (List Value)}{v:Loc}{G:Nat->Prop}{ρ:Nat->Loc}{w:World}(h:(b_.rows xs k TE).holds ρ v G w):bE w v.base k xs:=by
 obtain⟨_,hcap,h⟩:=h;rcases h with⟨h1,h2,_⟩|⟨b,off,c,h1,_,h3,h4,h5⟩
 ·rw[h2]at hcap;exact .inl (List.length_eq_zero_iff.1 aa)
 ·refine .inr ⟨⟨b,off,none⟩,h1,λi r hi j v hj=> ?_⟩;have:=h5 i r hi j v hj;rw[alF]at this;rw[fG];simpa[World.cell?,h3]using this
theorem RF{z:Int}{K:Int->Prop}(h:K (z%18446744073709551616)):fF .u64 z K:=by
 refine IM ?_ h;simp only[IntKind.wrap,IntKind.signed,IntKind.bits,Bool.false_and];have:(2:Int)^64=18446744073709551616:=by decide
 simp only[this];simp
theorem ajQ{x y z:Int}{K:Int->Prop}(k:Nat)(hy:y=k)(hk:k<=64)(hz:x/2^k=z)(h:K z):CJ .shr .u64 x y K:=by
 rw[EX];subst hy;refine⟨by omega,x/2^k,?_,by rw[hz];exact h⟩;have e:min (k:Int).toNat (IntKind.bits .u64)=k:=by simp[IntKind.bits];omega
 rw[e];exact(Int.fdiv_eq_ediv_of_nonneg x (Int.le_of_lt (Int.pow_pos ay))).symm
section
abbrev W2:Nat:=18446744073709551616
theorem Tc(a:Nat):IntKind.u64.wrap (a:Int)=((a%18446744073709551616:Nat):Int):=by
 have h:fF .u64 (a:Int) (λz=>z=(a:Int)%18446744073709551616):=RF rfl;rw[mZ]at h;rw[h];omega
variable {z:Int} {K:Int->Prop}
theorem zh(y:Nat)(h:z=y)(hy:y<18446744073709551616)(hk:K y):fF .u64 z K:=by
 subst h;exact wrap_u64 aa aa hk
theorem RG(y:Nat)(h:z=y)(hk:K ((y%18446744073709551616:Nat):Int)):fF .u64 z K:=by
 subst h;exact IM (Tc y) hk
variable {b:Nat}
theorem adh{a:Nat}(hk:K ((a+b:Nat):Int))(h:a+b<18446744073709551616:=by first|assumption|omega):fF .u64 ((a:Int)+(b:Int)) K:=zh (a+b) aa h hk
theorem acY{a:Nat}(hk:K ((a*b:Nat):Int))(h:a*b<18446744073709551616:=by first|assumption|omega):fF .u64 ((a:Int)*(b:Int)) K:=zh (a*b) (akv a b).symm h hk
theorem alo{a:Nat}(hk:K ((a/b:Nat):Int))(hb:0<b:=by first|assumption|omega)(ha:a<18446744073709551616:=by first|assumption|omega):yM .u64 (a:Int) (b:Int) K:=by
 rw[Cz];refine⟨by omega,?_⟩;rw[Int.tdiv_eq_ediv_of_nonneg aa,show(a:Int)/(b:Int)=((a/b:Nat):Int)from rfl,Tc,akr (Nat.lt_of_le_of_lt (anJ a b) ha)];exact hk
theorem Yi{a:Nat}(hk:K ((a%b:Nat):Int))(hb:0<b:=by first|assumption|omega):x8 (a:Int) (b:Int) K:=by
 rw[OU];refine⟨by omega,?_⟩;rw[Int.tmod_eq_emod_of_nonneg aa];exact hk
variable {y:Int}
theorem aiy{a:Nat}(k:Nat)(hy:y=k)(aju:k<=64)(hk:K ((a/2^k:Nat):Int)):CJ .shr .u64 (a:Int) y K:=
 ajQ (z:=((a/2^k:Nat):Int)) k hy aju (by rw[am6];simp) hk
theorem Wh(a b:Nat)(ha:a<18446744073709551616)(hb:b<18446744073709551616):bitsOf .and .u64 (a:Int) (b:Int)=((a&&&b:Nat):Int):=bits_and_u64_nat a b ha hb
theorem aip{op:BinOp}{k:IntKind}{x:Int}(e:bitsOf op k x y=z)(h:K z):Ci op k x y K:=by rw[vN,e];exact h
theorem agh{a:Nat}(hk:K ((a%4294967296:Nat):Int))(ha:a<18446744073709551616:=by first|assumption|omega):Ci .and .u64 (a:Int) 4294967295 K:=
 aip ((Wh a 4294967295 ha ay).trans (by rw[show a&&&4294967295=a%4294967296 from Nat.and_two_pow_sub_one_eq_mod a 32])) hk
theorem and_one{a:Nat}(hk:K ((a%2:Nat):Int))(ha:a<18446744073709551616:=by first|assumption|omega):Ci .and .u64 (a:Int) 1 K:=
 aip ((Wh a 1 ha ay).trans (by rw[show a&&&1=a%2 from Nat.and_one_is_mod a])) hk
end
section
structure ahm(cx:Cx)(f:FuncId)(args:List SV)(H:Heap)(S:bR)(nx:Nat)(K:SV->Prop):Prop where
 out:∃val:Value,(∀ρ w,dO cx.B ρ nx H S w->(callFunc f (SV.dW ρ args).toArray).run cx.P w= .ok (.value val) w)/\K (.c val)
theorem ah7{cx:Cx}{f:FuncId}{args:List SV}{H:Heap}{S:bR}{nx:Nat}{K:SV->Prop}(val:Value)
 (hc:∀ρ w,dO cx.B ρ nx H S w->(callFunc f (SV.dW ρ args).toArray).run cx.P w= .ok (.value val) w) (h:K (.c val)):ahm cx f args H S nx K:=⟨val,hc,h⟩
def afp(f:Nat):List Nat->Bool
 |[]=>false
 |x::r=>bif Nat.beq x f then true else afp f r
def Ls(cx:Cx)(X:List Nat)(ops:List Oper)(H:Heap)(S:bR)(nx:Nat)(K:Env->Prop):List Oper->Env->Prop
 |[],env=>K env
 |o::r,env=>EY cx.n ops o.guard env (λb=>match b with
  |true=>(match yS o.op with
   |some (f,as)=>xX cx.n env f λfv=>Mx cx.n env (λl=>match fv with
    | .c (.func (.func g) a b)=>(match a.toList,b.toList with
      |[],[]=>bif afp g X then ahm cx g l H S nx (λv=>qO env o.dst v (Ls cx X ops H S nx K r))else jQ cx g l H S nx (λv=>qO env o.dst v (Ls cx X ops H S nx K r))
      |x,y=>jQ cx g (cs x++l++cs y) H S nx (λv=>qO env o.dst v (Ls cx X ops H S nx K r)))
    | .fn (.func g) a b=>jQ cx g (a++l++b) H S nx (λv=>qO env o.dst v (Ls cx X ops H S nx K r))
    |_=>False) as
   |none=>opQ cx o.op env H S (λv=>qO env o.dst v (Ls cx X ops H S nx K r)))
  |false=>qO env o.dst (.c undef) (Ls cx X ops H S nx K r))
section
variable {cx:Cx} (hok:∀p∈cx.tab,lu cx.P p.1=some p.2)
include hok in
theorem MW{X:List Nat}{ops:Array Oper}{ρ:Nat->Loc}{H:Heap}{S:bR}{nx:Nat}{K:Env->Prop}{w0:World}(hw0:dO cx.B ρ nx H S w0):∀{l:List Oper} {env:Env} {a:Act} {Q:Act->Prop},
 Ls cx X ops.toList H S nx K l env->Sat cx.n ρ nx env a->(∀env' a',Sat cx.n ρ nx env' a'->K env'->Q a')->wpQuiet cx.P ops (λw=>dO cx.B ρ nx H S w) Q l a
 |[],env,a,Q,h,hs,hq=>hq env a hs h
 |o::r,env,a,Q,h,hs,hq=>by
  unfold Ls at h;have h:=uz hs h;unfold wpQuiet;have rest:∀v:SV,v.lt nx->Ls cx X ops.toList H S nx K r (aaf env o.dst v)->wpQuiet cx.P ops (λw=>dO cx.B ρ nx H S w) Q r (a.put o.dst (v.rf ρ)):=λv hv h=>
   MW hw0 h (hs.put (λ_ _=>rfl) (Tw _) hv) hq
  cases hwt:Region.wanted o (yielded ops a.tmps)with
  |false=>
   rw[hwt]at h;rw[if_neg aI];rw[lM]at h;exact rest (.c undef) (SV.iW _) h
  |true=>
   rw[hwt]at h;dsimp only at h;rw[if_pos rfl];cases hc:yS o.op with
   |none=>
    rw[hc]at h;dsimp only at h;obtain⟨v,h1,h2,h3⟩:=Dv hok hs hw0 h;rw[lM]at h2;refine⟨v.rf ρ,λw hw=> ?_,rest v h1 h2⟩;unfold Oper.quietAt;rw[h3 w hw];exact⟨rfl,rfl⟩
   |some x=>
    obtain⟨f,as⟩:=x;rw[hc]at h;dsimp only at h;obtain⟨dst,op,type,pos,after,guard⟩:=o;cases op with
    |call c=>
     simp only[yS]at hc;cases hcc:c.callee with
     |value f'=>
      rw[hcc]at hc;obtain⟨rfl,rfl⟩:f'=f/\c.args.toList=as:=by simpa using hc
      obtain⟨fv,h1,h2,h3⟩:=dB hs h;obtain⟨l,h4,h5,h6⟩:=oN hs h1;have e1:c.args.map a.eval=(SV.dW ρ l).toArray:=by rw[<-h5];apply al8;simp
      have run:∀(g:FuncId) (x y:Array Value),a.eval f'= .func (.func g) x y->∀w,(execOp a.eval ⟨dst,.call c,type,pos,after,guard⟩).run cx.P w=(callFunc g (x++(SV.dW ρ l).toArray++y)).run cx.P w:=by
       intro g x y hf w;simp only[execOp,resolve,hcc,e1,hf,Deferred.ofValue,Sem.run_bind,Sem.run_pure,Result.andThen_ok,invoke]
      have fin:∀(g:FuncId) (x y:Array Value) (args:List SV),a.eval f'= .func (.func g) x y->x++(SV.dW ρ l).toArray++y=(SV.dW ρ args).toArray->
       jQ cx g args H S nx (λv=>qO env dst v (Ls cx X ops.toList H S nx K r))->Oper.quiet cx.P ⟨dst,.call c,type,pos,after,guard⟩ a (λw=>dO cx.B ρ nx H S w) (wpQuiet cx.P ops (λw=>dO cx.B ρ nx H S w) Q r):=by
       intro g x y args hf ha hq';rw[Jj]at hq';obtain⟨g1,val,g2,g3⟩:=hq';rw[lM]at g3;refine⟨val,λw hw=> ?_,rest (.c val) (SV.iW _) g3⟩;unfold Oper.quietAt;rw[run g x y hf w,g1];refine⟨rfl,?_⟩;rw[ha];exact(g2 ρ w hw).mono λe w'' he=>⟨he.1,hw.ext he.2⟩
      have anR:∀(g:FuncId) (x y:Array Value) (args:List SV),a.eval f'= .func (.func g) x y->x++(SV.dW ρ l).toArray++y=(SV.dW ρ args).toArray->
       ahm cx g args H S nx (λv=>qO env dst v (Ls cx X ops.toList H S nx K r))->Oper.quiet cx.P ⟨dst,.call c,type,pos,after,guard⟩ a (λw=>dO cx.B ρ nx H S w) (wpQuiet cx.P ops (λw=>dO cx.B ρ nx H S w) Q r):=by
       intro g x y args hf ha hq';obtain⟨val,g2,g3⟩:=hq';rw[lM]at g3;refine⟨val,λw hw=> ?_,rest (.c val) (SV.iW _) g3⟩;unfold Oper.quietAt;rw[run g x y hf w,ha,g2 ρ w hw];exact⟨rfl,rfl⟩
      split at h4
      ·rename_i g x y;split at h4
       ·rename_i hx hy;have hx':x= #[]:=by cases x;simpa using hx
        have hy':y= #[]:=by cases y;simpa using hy
        cases hn:afp g X with
        |true=>rw[hn]at h4;exact anR g x y _ kU Bb h4
        |false=>rw[hn]at h4;exact fin g x y _ kU Bb h4
       ·exact fin g x y _ kU FH h4
      ·rename_i g x y;exact fin g _ _ _ kU ES h4
      ·exact h4.elim
     |invoke r m=>rw[hcc]at hc;cases hc
     |builtin b=>rw[hcc]at hc;cases hc
    |_=>cases hc
end
theorem Ky{cx:Cx}(hok:∀p∈cx.tab,lu cx.P p.1=some p.2)(hm:cx.P.follows .mixedOrders=true)(X:List Nat){id:Nat}{ops:Array Oper}{env:Env}{H:Heap}{S:bR}{nx:Nat}{K:Env->Heap->bR->Nat->Prop}
 (hB:Region.lexB .any ops=true) (h:Ls cx X ops.toList H S nx (λenv'=>K env' H S nx) ops.toList env):cO cx id ops env H S nx K:=by
 rw[DC,jY];intro ρ a w hs hw;refine wp_region_quiet (C:=λw=>dO cx.B ρ nx H S w) hm hB hw.drew ?_;refine MW hok hw h hs ?_;intro env' a' hs' hk w' hw';exact⟨ρ,env',H,S,nx,λ_ _=>rfl,Tw _,hs',hw',rfl,hk⟩
end
structure RdV where
 base:Option Addr
 cap:Nat
 bs:List Int
def RdV.val(v:RdV):Value:= .slice v.base v.bs.length v.cap
def aiM(u:RdV):bR:=f_ u.base 1 (anF u.bs)
structure Rest(u u':RdV):Prop where
 drop:∃k,u'.bs=u.bs.drop k
 room:u'.bs.length<=u'.cap
 data:∀R w,(aiM u).holds R w->(aiM u').holds R w
theorem Rest.trans{a b c:RdV}(h:Rest a b)(g:Rest b c):Rest a c:=by
 obtain⟨⟨k,hk⟩,h2,h3⟩:=h;obtain⟨⟨j,hj⟩,g2,g3⟩:=g;exact⟨⟨k+j,by rw[hj,hk,List.drop_drop]⟩,g2,λR w hh=>g3 R w (h3 R w hh)⟩
theorem Rest.refl{a:RdV}(h:a.bs.length<=a.cap):Rest a a:=⟨⟨0,rfl⟩,h,λ_ _ h=>h⟩
theorem Rest.bytes{u u':RdV}(h:Rest u u')(hb:∀x∈u.bs,0<=x/\x<=255):∀x∈u'.bs,0<=x/\x<=255:=by
 obtain⟨⟨k,hk⟩,_,_⟩:=h;intro x hx;rw[hk]at hx;exact hb x (anW hx)
theorem Rest.len{u u':RdV}(h:Rest u u'):u'.bs.length<=u.bs.length:=by
 obtain⟨⟨k,hk⟩,_,_⟩:=h;rw[hk,aml];omega
def iK:bR:=⟨λ_ _=>True,λ_ _ h=>h⟩
theorem M0{cx:Cx}{f:FuncId}{args:List SV}{H:Heap}{S:bR}{nx:Nat}{K:SV->Heap->bR->Nat->Prop}
 (h:aJ cx f args H S nx (λv H' S' nx'=>∃S2:bR,(∀R w,S'.holds R w->S2.holds R w)/\K v H' S2 nx')):aJ cx f args H S nx K:=by
 rw[fZ]at h|-
 refine⟨h.1,λρ w hw=>(h.2 ρ w hw).mono ?_⟩;rintro e w' ⟨v,ρ',H',S',nx',h1,h2,h3,h4,h5,S2,h6,h7⟩;exact⟨v,ρ',H',S2,nx',h1,h2,h3,h4,h5.sub (af7 _) h6,h7⟩
section
structure nC(K:SV->Heap->bR->Nat->Prop)(v:SV)(H:Heap)(S:bR)(nx:Nat):Prop where
 out:K v H S nx
variable {K:SV->Heap->bR->Nat->Prop} {H:Heap} {S:bR} {nx:Nat}
theorem iZ{v:SV}(h:K v H S nx):nC K v H S nx:=⟨h⟩
def am2(cx:Cx)(rs:List ResultVar)(K:SV->Heap->bR->Nat->Prop):Exit->Env->Heap->bR->Nat->Prop
 | .normal,env,H,S,nx=>Nh cx env H S (λl=>nC K (oneOf l) H S nx) rs
 | .ret,env,H,S,nx=>Nh cx env H S (λl=>nC K (oneOf l) H S nx) rs
 |_,_,_,_,_=>False
theorem aet{l:List SV}(h:SV.M5 nx l):(oneOf l).lt nx:=by
 match l,h with
 |[],h=>exact SV.Vr.2 h
 |[v],h=>exact SV.oV.1 h v aI
 |a::b::r,h=>exact SV.Vr.2 h
theorem gm{P:Program}{B:Base}{n0:Nat}{tab:List (Nat×TI)}(hok:∀p∈tab,lu P p.1=some p.2){f:FuncId}{fn:Func}{c:Code}{n:Nat}{rs:List ResultVar}(hf:P.funcs[f]? =some fn)(hb:fn.body=some c)(hn:fn.ntmps=n)(hrs:fn.results.toList=rs)(hen:∀as w,(callFunc f as).run P w= .ok (.enter f as) w)
 {args:List SV} (hlt:SV.DW nx args=true) (hlen:args.length<=n) (h:Wp ⟨P,B,n,tab⟩ c (number 0 args) H S nx (am2 ⟨P,B,n,tab⟩ rs K)):aJ ⟨P,B,n0,tab⟩ f args H S nx K:=by
 subst hn;subst hrs;rw[fZ];refine⟨hen,λρ w hw=> ?_⟩;refine calls_of_wp hf hb ?_;rw[jY]at h;refine wp_mono (h ρ _ w ?_ hw) ?_
 ·refine⟨rfl,by simp[j5];omega,λt v hv ht=> ?_,λt v hv=> ?_⟩
  ·obtain⟨j,rfl,hj⟩:=wN hv;have hjl:=(abH.1 hj).1;simp only[aiD];rw[Array.getElem?_append_left (by simp[j5];omega)];simp[SV.o9,hj]
  ·obtain⟨j,rfl,hj⟩:=wN hv;exact SV.oV.1 (SV.xC hlt) v (adu hj)
 ·rintro e a' w' ⟨ρ',env',H',S',nx',h2,h3,h4,h5,h6⟩;have fin:∀{Q:Prop},(Nh ⟨P,B,fn.ntmps,tab⟩ env' H' S' (λl=>nC K (oneOf l) H' S' nx') fn.results.toList)->(a'.defers=[]/\∃v,(results fn a'.tmps).run P w'= .ok v w'/\∃u Vn H'' S'' Q8,Ending.returned v= .returned (u.rf Vn)/\(∀i,i<nx->Vn i=ρ i)/\nx<=Q8/\u.lt Q8/\dO B Vn Q8 H'' S'' w'/\K u H'' S'' Q8):=by
   intro Q h6;obtain⟨l,g1,g2,g3⟩:=DV (cx:=⟨P,B,fn.ntmps,tab⟩) hok h4 h5 h6;refine⟨h4.defers,_,KY g3,oneOf l,ρ',H',S',nx',?_,h2,h3,aet g2,h5,g1.out⟩;rw[YN]
  cases e with
  |normal=>exact fin (Q:=True) h6
  |ret=>exact fin (Q:=True) h6
  |_=>exact h6.elim
end
theorem Wp.Vh{cx:Cx}{c:Code}{env:Env}{H:Heap}{S:bR}{nx:Nat}{K:Exit->Env->Heap->bR->Nat->Prop}(i N:Nat){xs:List (List Value)}{k:Nat}{T:TypeId}(he:(i,b_.rows xs k T)∈H)(hN:∀R w,S.holds R w->∀b,b<N->R b)
 (h:∀l:Loc,xs.length<=l.cap->Wp cx c (env.fz i l) (Heap.fz i l (sM i H)) (S.and ((f_ l.base k xs).past N)) nx K):Wp cx c env H S nx K:=by
 simp only[jY]at*;intro ρ a w hs hw;obtain⟨R,φ,hw⟩:=hw;have hent:=hw.jA _ he;obtain⟨hr,hcap,yB⟩:=hent;have hdel:∀p∈sM i H,p.1≠i/\∀b,φ p.1 b->¬φ i b:=by
  have:∀{H:Heap},H.Pairwise (λp q=>p.1≠q.1/\∀b,φ p.1 b->¬φ q.1 b)->∀{e:b_},(i,e)∈H->∀p∈sM i H,p.1≠i/\∀b,φ p.1 b->¬φ i b:=by
   intro H hsep;induction H with
   |nil=>intro e he;cases he
   |cons q r ih=>
    obtain⟨hq,hr⟩:=aiN.1 hsep;intro e he p hp;obtain⟨qi,qe⟩:=q;unfold sM at hp;cases hbq:Nat.beq qi i with
    |true=>
     rw[hbq,cond_true]at hp;have:=ael hbq;subst this;exact⟨(hq p hp).1.symm,λb hb hb'=>(hq p hp).2 b hb' hb⟩
    |false=>
     rw[hbq,cond_false]at hp;have hne:=akz hbq;have her:(i,e)∈r:=(abr.1 he).resolve_left (λg=>hne wB);rcases abr.1 hp with g|g
     ·subst g;exact⟨hne,(hq _ her).2⟩
     ·exact ih hr her p g
  exact this hw.sep he
 refine h (ρ i) hcap ρ a w ⟨hs.defers,hs.size,λt v hv ht=> ?_,λt v hv=> ?_⟩ ?_
 ·obtain⟨u,hu,rfl⟩:=Env.Al hv;rw[hs.val t u hu ht,SV.Ti]
 ·obtain⟨u,hu,rfl⟩:=Env.Al hv;exactλx hx=>hs.lt t u hu x (SV.I6 hx)
 ·have hsub:=hw.drop (mH i H);refine⟨λb=>R b\/φ i b,φ,hw.os,hw.tape,hw.output,hw.size,hw.pin,λb hb=>hb.elim (hw.ro b) (λhb=>b_.size (hw.jA _ he) hb),⟨S.stable (λ_ h=> .inl h) (λ_ _=>rfl) hw.qL,?_⟩,?_,?_,?_,?_⟩
  ·refine⟨hr,?_⟩;rcases yB with⟨h1,h2,_⟩|⟨b,off,c',h1,h2,h3,h4,h5⟩
   ·simp only at hcap h2;exact .inl (ahV aa)
   ·exact .inr ⟨b,off,h1,⟨.inr ((h2 b).2 rfl),aoa λhb=>hw.apart _ he b ((h2 b).2 rfl) (hN R w hw.qL b hb)⟩,λm r hm j v hj=>by have:=h5 m r hm j v hj;rw[<-alF];simpa[World.cell?,h3]using this⟩
  ·rw[Heap.vg];intro p hp;obtain⟨q,hq,rfl⟩:=abl.1 hp;refine⟨(hsub.key q hq).1,λx hx=> ?_⟩;cases hqe:q.2 with
   |box cs T=>
    rw[hqe]at hx;have:=(hsub.key q hq).2;rw[hqe]at this;exact this x (SV.vJ hx)
   |rows xs k T=>rw[hqe]at hx;simp[b_.fz,b_.hass]at hx
   |ext o=>rw[hqe]at hx;simp[b_.fz,b_.hass]at hx
  ·rw[Heap.vg];intro p hp;obtain⟨q,hq,rfl⟩:=abl.1 hp;have:=hsub.jA q hq;dsimp only;cases hqe:q.2 with
   |box cs T=>
    rw[hqe]at this;obtain⟨b,h1,h2,h3⟩:=this;exact⟨b,h1,h2,by rw[SV.AP];exact h3⟩
   |rows xs k T=>rw[hqe]at this;exact this
   |ext o=>rw[hqe]at this;exact this
  ·rw[Heap.vg];intro p hp b hb hb';obtain⟨q,hq,rfl⟩:=abl.1 hp;exact hb'.elim (hsub.apart q hq b hb) ((hdel q hq).2 b hb)
  ·rw[Heap.vg];exact aj3.2 hsub.sep
theorem Wp.ahX{cx:Cx}{c:Code}{env:Env}{H:Heap}{S:bR}{nx:Nat}{K:Exit->Env->Heap->bR->Nat->Prop}(i N:Nat){xs:List (List Value)}{k:Nat}{T:TypeId}(he:(i,b_.rows xs k T)∈H){b0:Nat}{cells:List SV}{T0:TypeId}(hp:(0,mQ b0)∈cx.B.pin)(h0:(0,b_.box cells T0)∈H)(hi:i≠0)(hN:∀R w,S.holds R w->∀b,b<N->b≠b0->R b)
 (h:∀l:Loc,xs.length<=l.cap->Wp cx c (env.fz i l) (Heap.fz i l (sM i H)) (S.and ((f_ l.base k xs).past N)) nx K):Wp cx c env H S nx K:=by
 simp only[jY]at*;intro ρ a w hs hw;obtain⟨R,φ,hw⟩:=hw;have hent:=hw.jA _ he;obtain⟨hr,hcap,yB⟩:=hent;have hdel:∀p∈sM i H,p.1≠i/\∀b,φ p.1 b->¬φ i b:=by
  have:∀{H:Heap},H.Pairwise (λp q=>p.1≠q.1/\∀b,φ p.1 b->¬φ q.1 b)->∀{e:b_},(i,e)∈H->∀p∈sM i H,p.1≠i/\∀b,φ p.1 b->¬φ i b:=by
   intro H hsep;induction H with
   |nil=>intro e he;cases he
   |cons q r ih=>
    obtain⟨hq,hr⟩:=aiN.1 hsep;intro e he p hp;obtain⟨qi,qe⟩:=q;unfold sM at hp;cases hbq:Nat.beq qi i with
    |true=>
     rw[hbq,cond_true]at hp;have:=ael hbq;subst this;exact⟨(hq p hp).1.symm,λb hb hb'=>(hq p hp).2 b hb' hb⟩
    |false=>
     rw[hbq,cond_false]at hp;have hne:=akz hbq;have her:(i,e)∈r:=(abr.1 he).resolve_left (λg=>hne wB);rcases abr.1 hp with g|g
     ·subst g;exact⟨hne,(hq _ her).2⟩
     ·exact ih hr her p g
  exact this hw.sep he
 have hmem:∀{H:Heap},(0,b_.box cells T0)∈H->(0,b_.box cells T0)∈sM i H:=by
  intro H;induction H with
  |nil=>intro g;cases g
  |cons q r ih=>
   intro g;obtain⟨qi,qe⟩:=q;unfold sM;cases hbq:Nat.beq qi i with
   |true=>
    rw[cond_true];have:=ael hbq;rcases abr.1 g with g|g
    ·exact absurd (by simpa using(congrArg Prod.fst g).symm.trans rfl:qi=0) aa
    ·exact g
   |false=>
    rw[cond_false];rcases abr.1 g with g|g
    ·exact abr.2 (.inl g)
    ·exact aeg _ (ih g)
 have hb0:¬φ i b0:=by
  obtain⟨b',g1,g2,_⟩:=hw.jA _ h0;have yV:=(hw.pin (0,mQ b0) hp).2;simp only at yV g1 g2;rw[yV]at g1;obtain rfl:b0=b':=by simpa[mQ]using g1
  exact(hdel _ (hmem h0)).2 b0 ((g2 b0).2 rfl)
 refine h (ρ i) hcap ρ a w ⟨hs.defers,hs.size,λt v hv ht=> ?_,λt v hv=> ?_⟩ ?_
 ·obtain⟨u,hu,rfl⟩:=Env.Al hv;rw[hs.val t u hu ht,SV.Ti]
 ·obtain⟨u,hu,rfl⟩:=Env.Al hv;exactλx hx=>hs.lt t u hu x (SV.I6 hx)
 ·have hsub:=hw.drop (mH i H);refine⟨λb=>R b\/φ i b,φ,hw.os,hw.tape,hw.output,hw.size,hw.pin,λb hb=>hb.elim (hw.ro b) (λhb=>b_.size (hw.jA _ he) hb),⟨S.stable (λ_ h=> .inl h) (λ_ _=>rfl) hw.qL,?_⟩,?_,?_,?_,?_⟩
  ·refine⟨hr,?_⟩;rcases yB with⟨h1,h2,_⟩|⟨b,off,c',h1,h2,h3,h4,h5⟩
   ·simp only at hcap h2;exact .inl (ahV aa)
   ·exact .inr ⟨b,off,h1,⟨.inr ((h2 b).2 rfl),aoa λhb=>hw.apart _ he b ((h2 b).2 rfl) (hN R w hw.qL b hb λe=>hb0 (e▸(h2 b).2 rfl))⟩,λm r hm j v hj=>by have:=h5 m r hm j v hj;rw[<-alF];simpa[World.cell?,h3]using this⟩
  ·rw[Heap.vg];intro p hp;obtain⟨q,hq,rfl⟩:=abl.1 hp;refine⟨(hsub.key q hq).1,λx hx=> ?_⟩;cases hqe:q.2 with
   |box cs T=>
    rw[hqe]at hx;have:=(hsub.key q hq).2;rw[hqe]at this;exact this x (SV.vJ hx)
   |rows xs k T=>rw[hqe]at hx;simp[b_.fz,b_.hass]at hx
   |ext o=>rw[hqe]at hx;simp[b_.fz,b_.hass]at hx
  ·rw[Heap.vg];intro p hp;obtain⟨q,hq,rfl⟩:=abl.1 hp;have:=hsub.jA q hq;dsimp only;cases hqe:q.2 with
   |box cs T=>
    rw[hqe]at this;obtain⟨b,h1,h2,h3⟩:=this;exact⟨b,h1,h2,by rw[SV.AP];exact h3⟩
   |rows xs k T=>rw[hqe]at this;exact this
   |ext o=>rw[hqe]at this;exact this
  ·rw[Heap.vg];intro p hp b hb hb';obtain⟨q,hq,rfl⟩:=abl.1 hp;exact hb'.elim (hsub.apart q hq b hb) ((hdel q hq).2 b hb)
  ·rw[Heap.vg];exact aj3.2 hsub.sep
section
abbrev zi:=Loc×List Value
def iD(T:TypeId)(L:List zi)(F:Nat->Prop)(w:World):Prop:=
 (∀x,F x↔∃l∈L.map Prod.fst,∃off,l.base=some ⟨x,off,none⟩)/\
 (L.map Prod.fst).Pairwise (λl m=>∀b off off',l.base=some ⟨b,off,none⟩->m.base≠some ⟨b,off',none⟩)/\
 ∀p∈L,p.1.base=none\/∃b off c,p.1.base=some ⟨b,off,none⟩/\w.heap[b]? =some (.cells c T (0,0))/\off+p.2.length<=c.size/\off+p.1.cap<=c.size/\∀(j:Nat) (v:Value),p.2[j]? =some v->c[off+j]? =some v
variable {T:TypeId} {L:List zi} {F:Nat->Prop} {w:World} {b off:Nat}
theorem E_(h:iD T L F w){p:zi}(hp:p∈L)(hb:p.1.base=some ⟨b,off,none⟩):F b/\∃c,w.heap[b]? =some (.cells c T (0,0))/\off+p.2.length<=c.size/\off+p.1.cap<=c.size/\∀(j:Nat) (v:Value),p.2[j]? =some v->c[off+j]? =some v:=by
 refine⟨(h.1 b).2 ⟨p.1,abl.2 ⟨p,hp,rfl⟩,off,hb⟩,?_⟩;rcases h.2.2 p hp with hn|⟨b',off',c,h1,h2⟩
 ·rw[hb]at hn;cases hn
 ·rw[hb]at h1;simp only[Option.some.injEq,Addr.mk.injEq,and_true]at h1;obtain⟨rfl,rfl⟩:=h1;exact⟨c,h2⟩
def o_(T:TypeId)(L:List zi):Own where
 holds _ F w:=iD T L F w
 stable:=by
  intro l F w w' hw h;refine⟨h.1,h.2.1,λp hp=> ?_⟩;rcases h.2.2 p hp with hn|⟨b,off,c,h1,h2,h3,h4,h5⟩
  ·exact .inl hn
  ·exact .inr ⟨b,off,c,h1,(hw b (E_ h hp h1).1).trans h2,h3,h4,h5⟩
 lt:=by
  intro l F w b h hb;obtain⟨m,hm,off,hmb⟩:=(h.1 b).1 hb;obtain⟨p,hp,rfl⟩:=abl.1 hm;obtain⟨_,c,hc,_⟩:=E_ h hp hmb;exact(alu.1 hc).1
variable {d:Nat} {l:Loc} {vs:List Value}
theorem Mk{us:List Value}(hd:L[d]? =some (l,vs)):(L.set d (l,us)).map Prod.fst=L.map Prod.fst:=by
 rw[alq];apply an_;intro i;rw[amx];split
 ·rename_i h;subst h;split
  ·rw[ab5,hd];rfl
  ·rename_i hn;rw[aiQ aa]
 ·rfl
variable {s:Nat} {v:Value}
theorem Rp(h:iD T L F w)(hd:L[d]? =some (l,vs))(hb:l.base=some ⟨b,off,none⟩)(hs:s<vs.length):
 ∃c,w.heap[b]? =some (.cells c T (0,0))/\off+s<c.size/\F b/\iD T (L.set d (l,vs.set s v)) F (w.setRow b (cB c.toList (off+s) [v]).toArray):=by
 have hm:=adu hd;obtain⟨hF,c,hc,hsz,hcap,hcell⟩:=E_ h hm hb;refine⟨c,hc,by simp only at hsz;omega,hF,by rw[Mk hd];exact h.1,by rw[Mk hd];exact h.2.1,λp hp=> ?_⟩;obtain⟨i,hi⟩:=amd.1 hp;rw[amx]at hi;have hrow:=setRow_heap w b c (cB c.toList (off+s) [v]).toArray T (0,0) hc;split at hi
 ·split at hi
  ·have hpe:p=(l,vs.set s v):=by simpa using hi.symm
   subst hpe;refine .inr ⟨b,off,_,hb,hrow,?_,?_,λj u hj=> ?_⟩
   ·simpa[jr]using hsz
   ·simpa[jr]using hcap
   ·simp only at hj;have e:cB c.toList (off+s) [v]=c.toList.set (off+s) v:=by
     simp[cB]
    rw[e];rw[amx]at hj;by_cases hjs:s=j
    ·subst hjs;rw[if_pos rfl,if_pos hs]at hj;have:v=u:=by simpa using hj
     subst this;simp only[amF];rw[anI (by simp only at hsz;simpa using(by omega:off+s<c.size))]
    ·rw[if_neg hjs]at hj;have:=hcell j u hj;simp only[amF];rw[amy aa];simpa using this
  ·cases hi
 ·rename_i hne;have hpm:=adu hi;rcases h.2.2 p hpm with hn|⟨b',off',c',h1,h2,h3,h4,h5⟩
  ·exact .inl hn
  ·have hbb:b'≠b:=λe=>by
    subst e;have hL1:(L.map Prod.fst)[d]? =some l:=by rw[ab5,hd];rfl
    have hL2:(L.map Prod.fst)[i]? =some p.1:=by rw[ab5,hi];rfl
    have hpw:=h.2.1;rw[amA]at hpw;obtain⟨g1,e1⟩:=abH.1 hL1;obtain⟨g2,e2⟩:=abH.1 hL2;rcases ack d i with hlt|hge
    ·have:=hpw d i g1 g2 hlt b' off off' (by rw[e1];exact hb);rw[e2]at this;exact this h1
    ·have:=hpw i d g2 g1 aa b' off' off (by rw[e2];exact h1);rw[e1]at this;exact this hb
   exact .inr ⟨b',off',c',h1,((ol w b _).block b' (alu.1 h2).1 hbb).trans h2,h3,h4,h5⟩
theorem YK{B:Base}{H:Heap}{K:Heap->Prop}{g:Nat}{a:Addr}(hg:(g,b_.ext (o_ T L))∈H)(hd:L[d]? =some (l,vs))(hb:l.base=some ⟨b,off,none⟩)(hs:s<vs.length)(ha:a=⟨b,off+s,none⟩)
 (hK:K (setH g (.ext (o_ T (L.set d (l,vs.set s v)))) H)):wrK B a [v] H K:=by
 subst ha;refine⟨_,λρ nx S w hw=> ?_,hK⟩;have hA:=hw;obtain⟨R,φ,hw⟩:=hw;have hent:iD T L (φ g) w:=hw.jA _ hg;obtain⟨c,hc,hlt,hF,_⟩:=Rp (v:=v) hent hd hb hs;refine⟨b,off+s,c,T,rfl,hc,by show off+s+1<=c.size;omega,hA.store hg (λy hy=>by simp[b_.hass]at hy) λF hF=> ?_⟩;obtain⟨c',hc',hlt',hFb,hnew⟩:=Rp (v:=v) (show iD T L F w from hF) hd hb hs;rw[hc]at hc';obtain rfl:c=c':=by simpa using hc'
 exact⟨⟨rfl,rfl,rfl,by simp[World.setRow],λx hx hne=>(ol w b _).block x hx (λe=>hne (by rw[e];exact hFb))⟩,hnew⟩
end
section
variable {r:Nat} {m:Int->Option Value} {w:World}
theorem abD(h:kH r m w):dO ⟨w,[]⟩ (λ_=>⟨none,0⟩) 1 [(0,.ext (lC r m))] (l8 w (λx=>x=r)) w:=by
 refine⟨iV w (λx=>x=r),λ_ x=>x=r,rfl,rfl,rfl,Tw _,?_,λx hx=>hx.1,λx hx=>⟨hx,rfl⟩,?_,?_,?_,?_⟩
 ·intro p hp;simp at hp
 ·intro p hp;simp at hp;subst hp;exact⟨amD _,λi hi=>by simp[b_.hass]at hi⟩
 ·intro p hp;simp at hp;subst hp;exact⟨λ_=>Iff.rfl,h⟩
 ·intro p hp x hx hR;exact hR.2 hx
 ·exact List.pairwise_singleton _ _
variable {i nx:Nat} {w':World} {H:Heap} {S:bR}
theorem abz{ρ:Nat->Loc}(hw:dO ⟨w,[]⟩ ρ nx H S w')(hS:∀R w',S.holds R w'->(l8 w (λx=>x=r)).holds R w')(hi:(i,b_.ext (lC r m))∈H):Step (λx=>x=r) w w'/\kH r m w':=by
 obtain⟨R,φ,hw⟩:=hw;obtain⟨h1,h2⟩:=hw.jA _ hi;have hrest:=hS R w' hw.qL;exact⟨⟨hw.os,hw.tape,hw.output,hw.size,λx hx hne=>(hrest x ⟨hx,hne⟩).2⟩,h2⟩
variable {R:Nat->Prop}
theorem Qq{a:Addr}{v:Value}(h:kH r m w)(hc:w.cell? a=some v)(hr:(l8 w (λx=>x=r)).holds R w'):w'.cell? a=some v:=by
 have hne:a.block≠r:=by
  rintro rfl;obtain⟨es,clock,h1,_⟩:=h;unfold World.cell? at hc;rw[h1]at hc;simp at hc
 rw[jE (hr _ ⟨iA hc,hne⟩).2];exact hc
theorem Ms{base:Option Addr}{k:Nat}{xs:List (List Value)}(h:kH r m w)(hx:bE w base k xs)(hr:(l8 w (λx=>x=r)).holds R w'):bE w' base k xs:=by
 rcases hx with hx|⟨a,ha,hx⟩
 ·exact .inl hx
 ·exact .inr ⟨a,ha,λi r' hi j v hj=>Qq h (hx i r' hi j v hj) hr⟩
def L8{α:Type}(w:World)(r:Nat)(val:α->Value)(f:α->Int->Option Value)(p:α->Prop)(e:Ending)(w':World):Prop:=
 ∃x,p x/\e= .returned (val x)/\Step (λy=>y=r) w w'/\kH r (f x) w'
theorem Ik{cx:Cx}{f:FuncId}{args:List SV}{K:SV->Heap->bR->Nat->Prop}(hi:(i,b_.ext (lC r m))∈H)(hf:∀ar w,(callFunc f ar).run cx.P w= .ok (.enter f ar) w)
 {α:Type} (val:α->Value) (g:α->Int->Option Value) (p:α->Prop) (hc:∀ρ w,dO cx.B ρ nx H S w->kH r m w->Calls cx.P f (SV.dW ρ args).toArray w (L8 w r val g p))
 (h:∀x,p x->Ed i (.ext (lC r (g x))) (λH'=>K (.c (val x)) H' S nx) H):aJ cx f args H S nx K:=by
 rw[fZ];refine⟨hf,λρ w hw=> ?_⟩;have hw0:=hw;obtain⟨R,φ,lF⟩:=hw;obtain⟨h1,h2⟩:=lF.jA _ hi;refine(hc ρ w hw0 h2).mono ?_;rintro e w' ⟨x,hp,rfl,hs,hm⟩;have h':=h x hp;rw[BX]at h';refine⟨.c (val x),ρ,_,S,nx,rfl,λ_ _=>rfl,Tw _,SV.iW _,hw0.store hi (λy hy=>by simp[b_.hass]at hy) λF hF=> ?_,h'⟩;exact⟨⟨hs.os,hs.tape,hs.output,hs.size,λb hb hne=>hs.block b hb λe=>hne ((hF.1 b).2 e)⟩,hF.1,hm⟩
end
section
def bR.off(G:Nat->Prop)(D:bR):bR where
 holds R w:=D.holds (λb=>R b/\¬G b) w
 stable:=λhR hw h=>D.stable (λb hb=>⟨hR b hb.1,hb.2⟩) (λb hb=>hw b hb.1) h
variable {G R:Nat->Prop} {D:bR} {w:World}
theorem qX(h:(D.off G).holds R w):D.holds R w:=D.mono h (λb hb=>hb.1)
theorem agi{N:Nat}(hG:∀b,b<N->G b)(h:(D.off G).holds R w):(D.past N).holds R w:=D.mono h (λb hb=>⟨hb.1,aoa λhl=>hb.2 (hG b hl)⟩)
variable {i k nx:Nat} {xs:List (List Value)} {T:TypeId} {H:Heap} {S:bR} {K:SV->Heap->bR->Nat->Prop}
theorem aio{n:Nat}(G:Nat->Prop)(hG:∀R w,S.holds R w->∀b,G b->R b)(h:∀l:Loc,xs.length<=l.cap->K (.c (.slice l.base n l.cap)) H (S.and ((f_ l.base k xs).off G)) nx):qN (.os i n) ((i,.rows xs k T)::H) S nx K:=by
 refine VU (α:={l:Loc//xs.length<=l.cap}) (λl=> .c (.slice l.1.base n l.1.cap)) (λ_=>H) (λl=>S.and ((f_ l.1.base k xs).off G)) (λB ρ w hw=> ?_) (λl=>h l.1 l.2);obtain⟨R,φ,hw⟩:=hw;have hent:=hw.jA _ YV;obtain⟨hr,hcap,yB⟩:=hent;obtain⟨hsep,_⟩:=aiN.1 hw.sep;have hsub:=hw.drop (aom _ _);refine⟨⟨ρ i,hcap⟩,rfl,SV.iW _,λb=>R b\/φ i b,φ,?_⟩;refine⟨hw.os,hw.tape,hw.output,hw.size,hw.pin,λb hb=>hb.elim (hw.ro b) (λhb=>b_.size (hw.jA _ YV) hb),⟨S.stable (λ_ h=> .inl h) (λ_ _=>rfl) hw.qL,hr,?_⟩,hsub.key,hsub.jA,?_,hsub.sep⟩
 ·rcases yB with⟨h1,h2,_⟩|⟨b,off,c',h1,h2,h3,h4,h5⟩
  ·simp only at hcap h2;exact .inl (ahV aa)
  ·exact .inr ⟨b,off,h1,⟨.inr ((h2 b).2 rfl),λhb=>hw.apart _ YV b ((h2 b).2 rfl) (hG R w hw.qL b hb)⟩,λm r hm j v hj=>by have:=h5 m r hm j v hj;rw[<-alF];simpa[World.cell?,h3]using this⟩
 ·intro p hp b hb hb';exact hb'.elim (hsub.apart p hp b hb) (λg=>(hsep p hp).2 b g hb)
def yZ(k:Nat)(ρ:Nat->Loc):List (Nat×Loc):=(List.range k).map λi=>(i,ρ i)
variable {ρ:Nat->Loc}
theorem TN{p:Nat×Loc}(h:p∈yZ k ρ):p.1<k/\ρ p.1=p.2:=by
 obtain⟨i,hi,rfl⟩:=abl.1 h;exact⟨ahe.1 hi,rfl⟩
theorem ajv(h:i<k):(i,ρ i)∈yZ k ρ:=abl.2 ⟨i,ahe.2 h,rfl⟩
structure qF(w:World)(ρ:Nat->Loc)(F:Nat->Prop)(k n0:Nat)(H0:Heap)(A:bR):Prop where
 abs:dO ⟨w,yZ k ρ⟩ ρ n0 H0 (A.and (l8 w F)) w
def L6{α:Type}(w:World)(ρ:Nat->Loc)(F:Nat->Prop)(k n0:Nat)(val:α->SV)(H1:α->Heap)(D:α->bR)(p:α->Prop)(e:Ending)(w':World):Prop:=
 ∃x ρ',p x/\e= .returned ((val x).rf ρ')/\(val x).lt n0/\dO ⟨w,yZ k ρ⟩ ρ' n0 (H1 x) ((l8 w F).and ((D x).off (iV w F))) w'
def renG(g:Nat->Option Nat)(ρ:Nat->Loc):Nat->Loc:=λi=>match g i with|some j=>ρ j|none=>⟨none,0⟩
mutual
theorem SV.Um(g:Nat->Option Nat)(ρ:Nat->Loc):∀v:SV,(v.ren g).rf ρ=v.rf (renG g ρ)
 | .c _=>rfl
 | .lp i j k f=>by
   simp only[SV.ren,SV.rf,renG];cases h:g i<;>rfl
 | .os i len=>by
   simp only[SV.ren,SV.rf,renG];cases h:g i<;>rfl
 | .agg l=>by simp only[SV.ren,SV.rf];rw[SV.yK g ρ l]
 | .xg l=>by simp only[SV.ren,SV.rf];rw[SV.yK g ρ l]
 | .fn f a b=>by simp only[SV.ren,SV.rf];rw[SV.yK g ρ a,SV.yK g ρ b]
 | .KN t v=>by simp only[SV.ren,SV.rf];rw[SV.Um g ρ v]
theorem SV.yK(g:Nat->Option Nat)(ρ:Nat->Loc):∀l:List SV,SV.dW ρ (SV.xY g l)=SV.dW (renG g ρ) l
 |[]=>rfl
 |v::r=>by simp only[SV.xY,SV.dW];rw[SV.Um g ρ v,SV.yK g ρ r]
end
mutual
theorem SV.TM{g:Nat->Option Nat}{j:Nat}:∀{v:SV},(v.ren g).has j=true->∃i,v.has i=true/\g i=some j
 | .c _,h=>by simp[SV.ren,SV.has]at h
 | .lp i a k f,h=>by
   simp only[SV.ren]at h;cases hg:g i with
   |none=>rw[hg]at h;simp[SV.has]at h
   |some x=>
    rw[hg]at h;obtain rfl:x=j:=ael h;exact⟨i,Nat.beq_refl i,hg⟩
 | .os i len,h=>by
   simp only[SV.ren]at h;cases hg:g i with
   |none=>rw[hg]at h;simp[SV.has]at h
   |some x=>
    rw[hg]at h;obtain rfl:x=j:=ael h;exact⟨i,Nat.beq_refl i,hg⟩
 | .agg l,h=>SV.yH (l:=l) h
 | .xg l,h=>SV.yH (l:=l) h
 | .fn f a b,h=>by
   simp only[SV.ren,SV.has,amh]at h;rcases h with h|h
   ·obtain⟨i,h1,h2⟩:=SV.yH h;exact⟨i,by simp[SV.has,h1],h2⟩
   ·obtain⟨i,h1,h2⟩:=SV.yH h;exact⟨i,by simp[SV.has,h1],h2⟩
 | .KN t v,h=>SV.TM (v:=v) h
theorem SV.yH{g:Nat->Option Nat}{j:Nat}:∀{l:List SV},SV.hass j (SV.xY g l)=true->∃i,SV.hass i l=true/\g i=some j
 |[],h=>by simp[SV.xY,SV.hass]at h
 |v::r,h=>by
  simp only[SV.xY,SV.hass,amh]at h;rcases h with h|h
  ·obtain⟨i,h1,h2⟩:=SV.TM h;exact⟨i,by simp[SV.hass,h1],h2⟩
  ·obtain⟨i,h1,h2⟩:=SV.yH h;exact⟨i,by simp[SV.hass,h1],h2⟩
end
def BN(k nx:Nat)(θ:Map):Nat->Option Nat:=λi=>bif Nat.blt i k then θ.app i else some (nx+i)
def Vj(g:Nat->Option Nat):Heap->Heap
 |[]=>[]
 |(i,e)::r=>((g i).getD 0,e.ren g)::Vj g r
def yQ(θ:Map)(H0:Heap):Heap->Heap
 |[]=>[]
 |q::r=>bif H0.all (λp=>match θ.app p.1 with|some j=> !Nat.beq j q.1|none=>true)then q::yQ θ H0 r else yQ θ H0 r
theorem yO{g:Nat->Option Nat}{q:Nat×b_}:∀{H:Heap},q∈Vj g H->∃p∈H,q=((g p.1).getD 0,p.2.ren g)
 |[],h=>by cases h
 |(i,e)::r,h=>by
  rcases abr.1 h with rfl|h
  ·exact⟨(i,e),YV,rfl⟩
  ·obtain⟨p,hp,e⟩:=yO h;exact⟨p,aeg _ hp,e⟩
theorem qA{θ:Map}{H0:Heap}{q:Nat×b_}:∀{H:Heap},q∈yQ θ H0 H->q∈H/\∀p∈H0,θ.app p.1≠some q.1
 |[],h=>by cases h
 |y::r,h=>by
  unfold yQ at h;cases hb:H0.all (λp=>match θ.app p.1 with|some j=> !Nat.beq j y.1|none=>true)with
  |true=>
   rw[hb]at h;rcases abr.1 h with rfl|h
   ·refine⟨YV,λp hp e=> ?_⟩;have:=akM.1 hb p hp;rw[e]at this;simp at this
   ·obtain⟨h1,h2⟩:=qA (H:=r) h;exact⟨aeg _ h1,h2⟩
  |false=>
   rw[hb]at h;obtain⟨h1,h2⟩:=qA (H:=r) h;exact⟨aeg _ h1,h2⟩
theorem Kn(θ:Map)(H0:Heap):∀H:Heap,(yQ θ H0 H).Sublist H
 |[]=> .slnil
 |y::r=>by
  unfold yQ;cases H0.all (λp=>match θ.app p.1 with|some j=> !Nat.beq j y.1|none=>true)with
  |true=>exact(Kn θ H0 r).cons_cons y
  |false=>exact(Kn θ H0 r).cons y
theorem UZ{φ:Nat->Nat->Prop}:∀{H:Heap},H.Pairwise (λp q=>p.1≠q.1/\∀b,φ p.1 b->¬φ q.1 b)->∀{p q:Nat×b_},p∈H->q∈H->p.1≠q.1->∀b,φ p.1 b->¬φ q.1 b
 |[],_,p,q,hp,_,_,_,_,_=>by cases hp
 |x::r,hs,p,q,hp,hq,hne,b,hb,hb'=>by
  obtain⟨hx,hr⟩:=aiN.1 hs;rcases abr.1 hp with gp|gp<;>rcases abr.1 hq with gq|gq
  ·exact hne wS
  ·rw[<-gp]at hx;exact(hx _ gq).2 b hb hb'
  ·rw[<-gq]at hx;exact(hx _ gp).2 b hb' hb
  ·exact UZ hr gp gq hne b hb hb'
variable {g:Nat->Option Nat} {F:Nat->Prop}
theorem b_.adB{l:Loc}{e:b_}(h:e.holds (renG g ρ) l F w):(e.ren g).holds ρ l F w:=by
 cases e with
 |box cs T=>
  obtain⟨b,h1,h2,h3⟩:=h;exact⟨b,h1,h2,by rw[SV.yK];exact h3⟩
 |rows xs k T=>exact h
 |ext o=>exact h
theorem b_.ajN{n m:Nat}{e:b_}(h:e.lt n)(hg:∀i j,i<n->g i=some j->j<m):(e.ren g).lt m:=by
 cases e with
 |box cs T=>
  intro j hj;obtain⟨i,h1,h2⟩:=SV.yH hj;exact hg i j (h i h1) h2
 |rows xs k T=>exactλj hj=>by simp[b_.ren,b_.hass]at hj
 |ext o=>exactλj hj=>by simp[b_.ren,b_.hass]at hj
variable {φ:Nat->Nat->Prop}
theorem wz.swap{B:Base}{X Y:Heap}(h:wz B R φ ρ nx (X++Y) S w):wz B R φ ρ nx (Y++X) S w:=by
 have hm:∀p∈Y++X,p∈X++Y:=λp hp=>aeh.2 (aeh.1 hp).symm;refine⟨h.os,h.tape,h.output,h.size,h.pin,h.ro,h.qL,λp hp=>h.key p (hm p hp),λp hp=>h.jA p (hm p hp),λp hp=>h.apart p (hm p hp),?_⟩;obtain⟨h1,h2,h3⟩:=List.pairwise_append.1 h.sep;exact List.pairwise_append.2 ⟨h2,h1,λp hp q hq=>⟨(h3 q hq p hp).1.symm,λb hb hb'=>(h3 q hq p hp).2 b hb' hb⟩⟩
variable {cx:Cx}
theorem Xv{f:FuncId}{args:List SV}{α:Type}(θ:Map)(k n0:Nat)(H0:Heap)(A:bR)(Ef:List SV)(val:α->SV)(H1:α->Heap)(D:α->bR)(p:α->Prop)
 (hf:∀ar w,(callFunc f ar).run cx.P w= .ok (.enter f ar) w) (hm:BM 0 θ H0=true) (hwf:uP n0 H0=true) (hin:lI θ H H0)
 (hk:∀i,i<k->∃j e,θ.app i=some j/\(i,e)∈H0) (hk0:k<=n0) (ha:args=SV.xY θ.app Ef) (hA:∀R w,S.holds R w->A.holds R w) (G:Nat->Prop) (hG:∀R w,S.holds R w->∀b,G b->R b)
 (hc:∀w ρ F,qF w ρ F k n0 H0 A->Calls cx.P f (SV.dW ρ Ef).toArray w (L6 w ρ F k n0 val H1 D p))
 (h:∀x,p x->K ((val x).ren (BN k nx θ)) (yQ θ H0 H++Vj (BN k nx θ) (H1 x)) (S.and ((D x).off G)) (nx+n0)):aJ cx f args H S nx K:=by
 rw[fZ];refine⟨hf,λρ w hw=> ?_⟩;obtain⟨R,φ,lF⟩:=hw;obtain⟨hk1,hk2⟩:=xH hwf;obtain⟨_,hm2⟩:=zG hm;have Tf:=hk2.and hm2;have acZ:∀q∈H0,∀j,θ.app q.1=some j->(j,q.2.ren θ.app)∈H:=λq hq j hj=>by
  have:=gX hin hq;rw[hj]at this;exact this
 obtain⟨F,hF⟩:∃F:Nat->Prop,∀y,F y↔∃q∈H0,∃j,θ.app q.1=some j/\φ j y:=⟨_,λ_=>Iff.rfl⟩;have hFR:∀y,F y->¬R y:=λy hy hR=>by
  obtain⟨q,hq,j,hj,hy⟩:=(hF y).1 hy;exact lF.apart _ (acZ q hq j hj) y hy hR
 have hFl:∀y,F y->y<w.heap.size:=λy hy=>by
  obtain⟨q,hq,j,hj,hy⟩:=(hF y).1 hy;exact b_.size (lF.jA _ (acZ q hq j hj)) hy
 have amP:qF w (rP θ ρ) F k n0 H0 A:=by
  refine⟨λy=>y<w.heap.size/\¬F y,λi y=>match θ.app i with|some j=>φ j y|none=>False,rfl,rfl,rfl,Tw _,λq hq=>⟨ahd (TN hq).1 hk0,(TN hq).2⟩,λy hy=>hy.1,⟨A.stable (λy hy=>⟨lF.ro y hy,λhf=>hFR y hf hy⟩) (λ_ _=>rfl) (hA R w lF.qL),λy h1=>⟨h1,rfl⟩⟩,hk1,?_,?_,?_⟩
  ·intro q hq;have:=gX hin hq;cases hj:θ.app q.1 with
   |some j=>
    rw[hj]at this;have h1:=b_.J6 (lF.jA _ this);have e1:rP θ ρ q.1=ρ j:=by simp only[rP,hj]
    rw[e1];simpa only[hj]using h1
   |none=>
    rw[hj]at this;have hl:rP θ ρ q.1=⟨none,0⟩:=by simp only[rP,hj]
    rw[hl];cases hpe:q.2 with
    |rows xs k T=>
     rw[hpe]at this;have hx:xs=[]:=this;subst hx;exact⟨by simp,Tw _,.inl ⟨rfl,rfl,λx hx=>by simp[hj]at hx⟩⟩
    |box l T=>rw[hpe]at this;exact this.elim
    |ext o=>rw[hpe]at this;exact this.elim
  ·intro q hq y hy hR;cases hj:θ.app q.1 with
   |some j=>simp only[hj]at hy;exact hR.2 ((hF y).2 ⟨q,hq,j,hj,hy⟩)
   |none=>simp only[hj]at hy
  ·refine List.Pairwise.imp_of_mem (R:=λp q=>p.1≠q.1/\∀a b,θ.app p.1=some a->θ.app q.1=some b->a≠b) (λ{p q} hp hq hpq=>⟨hpq.1,λb hb hb'=> ?_⟩) Tf;cases hq1:θ.app p.1 with
   |none=>simp only[hq1]at hb
   |some j1=>
    cases hq2:θ.app q.1 with
    |none=>simp only[hq2]at hb'
    |some j2=>
     simp only[hq1]at hb;simp only[hq2]at hb';exact UZ lF.sep (acZ p hp j1 hq1) (acZ q hq j2 hq2) (hpq.2 j1 j2 hq1 hq2) b hb hb'
 subst ha;rw[SV.AQ];refine(hc w (rP θ ρ) F amP).mono ?_;rintro e w' ⟨x,ρ',hp,rfl,hvl,R1,φ1,hw1⟩;have hrest:=hw1.qL.1;have Ia:∀i,i<k->∃j,θ.app i=some j/\j<nx/\ρ' i=ρ j/\∃e,(i,e)∈H0:=λi hi=>by
  obtain⟨j,e,h1,h2⟩:=hk i hi;have h3:=(hw1.pin _ (ajv hi)).2;simp only at h3;exact⟨j,h1,(lF.key _ (acZ _ h2 j h1)).1,by rw[h3];simp only[rP,h1],e,h2⟩
 have hstep:∀y,y<w.heap.size->¬F y->w'.heap[y]? =w.heap[y]? :=λy h1 h2=>(hrest y ⟨h1,h2⟩).2;have hsz:w.heap.size<=w'.heap.size:=hw1.size;have hbB:cx.B.w0.heap.size<=w.heap.size:=lF.size;obtain⟨g,hg⟩:∃g,g=BN k nx θ:=⟨_,rfl⟩;have Un:∀i,i<k->g i=θ.app i:=λi hi=>by
  rw[hg];unfold BN;rw[show Nat.blt i k=true from anb hi];rfl
 have TL:∀i,k<=i->g i=some (nx+i):=λi hi=>by
  rw[hg];unfold BN;cases hb:Nat.blt i k with
  |true=>have:=an4 hb;omega
  |false=>rfl
 obtain⟨σ,hσ⟩:∃σ:Nat->Loc,σ=λj=>if j<nx then ρ j else ρ' (j-nx):=⟨_,rfl⟩
 have Yx:∀j,j<nx->σ j=ρ j:=λj hj=>by rw[hσ];simp only;rw[if_pos hj]
 have ak7:∀i,σ (nx+i)=ρ' i:=λi=>by rw[hσ];simp only;rw[if_neg aa,Nat.add_sub_cancel_left]
 have hag:∀i,i<n0->renG g σ i=ρ' i:=λi _=>by
  rcases ack i k with hi|hi
  ·obtain⟨j,h1,h2,h3,_⟩:=Ia i hi;simp only[renG,Un i hi,h1];rw[Yx j h2,h3]
  ·simp only[renG,TL i hi];exact ak7 i
 have aj_:∀i j,i<n0->g i=some j->j<nx+n0:=λi j h1 h2=>by
  rcases ack i k with hi|hi
  ·rw[Un i hi]at h2;obtain⟨j',h3,h4,_⟩:=Ia i hi;rw[h2]at h3;obtain rfl:j=j':=by simpa using h3
   omega
  ·rw[TL i hi]at h2;obtain rfl:nx+i=j:=by simpa using h2
   omega
 have ajS:∀i,∃j,(k<=i\/i<k)->g i=some j:=λi=>by
  rcases ack i k with hi|hi
  ·obtain⟨j,h1,_⟩:=Ia i hi;exact⟨j,λ_=>(Un i hi).trans h1⟩
  ·exact⟨_,λ_=>TL i hi⟩
 have hgg:∀i,g i=some ((g i).getD 0):=λi=>by
  obtain⟨j,hj⟩:=ajS i;rw[hj aa];rfl
 have ajm:∀i i',i<n0->i'<n0->(g i).getD 0=(g i').getD 0->i=i':=λi i' hi hi' e=>by
  rcases ack i k with h1|h1<;>rcases ack i' k with h2|h2
  ·obtain⟨j,g1,g2,_,e1,g3⟩:=Ia i h1;obtain⟨j',g1',g2',_,e1',g3'⟩:=Ia i' h2;rw[Un i h1,Un i' h2,g1,g1']at e;have e:j=j':=e;rcases Nat.decEq i i' with hne|heq
   ·exfalso;have key:∀{H:Heap},H.Pairwise (λp q=>p.1≠q.1/\∀a b,θ.app p.1=some a->θ.app q.1=some b->a≠b)->∀{p q:Nat×b_},p∈H->q∈H->p.1≠q.1->∀a b,θ.app p.1=some a->θ.app q.1=some b->a≠b:=by
     intro H hs;induction H with
     |nil=>intro p q hp;cases hp
     |cons x r ih=>
      obtain⟨hx,hr⟩:=aiN.1 hs;intro p q hp hq hne a b ha hb;rcases abr.1 hp with gp|gp<;>rcases abr.1 hq with gq|gq
      ·exact absurd wS hne
      ·rw[<-gp]at hx;exact(hx _ gq).2 a b ha hb
      ·rw[<-gq]at hx;exactλe=>(hx _ gp).2 b a hb ha e.symm
      ·exact ih hr gp gq hne a b ha hb
    exact key Tf g3 g3' hne j j' g1 g1' e
   ·exact heq
  ·obtain⟨j,g1,g2,_⟩:=Ia i h1;rw[Un i h1,TL i' h2,g1]at e;have e:j=nx+i':=e;omega
  ·obtain⟨j,g1,g2,_⟩:=Ia i' h2;rw[Un i' h2,TL i h1,g1]at e;have e:nx+i=j:=e;omega
  ·rw[TL i h1,TL i' h2]at e;have e:nx+i=nx+i':=e;omega
 obtain⟨ψ,hψ⟩:∃ψ:Nat->Nat->Prop,∀j y,ψ j y↔((∃i,i<n0/\g i=some j/\φ1 i y)\/((∀i,i<n0->g i≠some j)/\φ j y)):=⟨λj y=>_,λ_ _=>Iff.rfl⟩;have aev:∀i y,i<n0->(ψ ((g i).getD 0) y↔φ1 i y):=λi y hi=>by
  rw[hψ];constructor
  ·rintro(⟨i',h1,h2,h3⟩|⟨h1,_⟩)
   ·have:(g i').getD 0=(g i).getD 0:=by rw[h2];rfl
    rw[ajm i' i h1 hi this]at h3;exact h3
   ·exact absurd (hgg i) (h1 i hi)
  ·exactλh=> .inl ⟨i,hi,hgg i,h⟩
 have agt:∀q∈yQ θ H0 H,∀y,ψ q.1 y↔φ q.1 y:=λq hq y=>by
  obtain⟨h1,h2⟩:=qA hq;have hlt:=(lF.key _ h1).1;have hno:∀i,i<n0->g i≠some q.1:=λi hi e=>by
   rcases ack i k with hik|hik
   ·obtain⟨j,g1,_,_,e1,g3⟩:=Ia i hik;rw[Un i hik]at e;exact h2 _ g3 e
   ·rw[TL i hik]at e;have:nx+i=q.1:=by simpa using e
    omega
  rw[hψ];exact⟨λh=>h.elim (λ⟨i,a,b,_⟩=>absurd b (hno i a)) (λh=>h.2),λh=> .inr ⟨hno,h⟩⟩
 have aak:∀q∈yQ θ H0 H,∀y,φ q.1 y->¬F y:=λq hq y hy hf=>by
  obtain⟨h1,h2⟩:=qA hq;obtain⟨q',hq',j,hj,hy'⟩:=(hF y).1 hf;exact UZ lF.sep (acZ q' hq' j hj) h1 (λe=>h2 q' hq' (by rw[hj];exact congrArg some e)) y hy' hy
 refine⟨_,σ,_,_,nx+n0,?_,Yx,Nat.le_add_right _ _,?_,?_,h x hp⟩
 ·rw[<-hg,SV.Um];exact congrArg Ending.returned (SV.aeK hvl λi hi=>(hag i hi).symm)
 ·rw[<-hg];intro j hj;obtain⟨i,h1,h2⟩:=SV.TM hj;exact aj_ i j (hvl i h1) h2
 ·rw[<-hg];refine⟨λy=>R y\/(¬iV w F y/\R1 y),ψ,wz.swap (X:=Vj g (H1 x)) ⟨hw1.os.trans lF.os,hw1.tape.trans lF.tape,hw1.output.trans lF.output,aiC hbB hsz,λq hq=>⟨ahd (lF.pin q hq).1 (Nat.le_add_right _ _),by rw[Yx _ (lF.pin q hq).1];exact(lF.pin q hq).2⟩,λy hy=>hy.elim (λh=>ahd (lF.ro y h) hsz) (λh=>hw1.ro y h.2),⟨?_,?_⟩,?_,?_,?_,?_⟩⟩
  ·exact S.stable (λy hy=> .inl hy) (λy hy=>hstep y (lF.ro y hy) (λhf=>hFR y hf hy)) lF.qL
  ·exact(D x).stable (λy hy=>⟨.inr ⟨hy.2,hy.1⟩,λhg=>hy.2 ⟨lF.ro y (hG R w lF.qL y hg),λhf=>hFR y hf (hG R w lF.qL y hg)⟩⟩) (λ_ _=>rfl) hw1.qL.2
  ·intro q hq;rcases aeh.1 hq with hq|hq
   ·obtain⟨r,hr,rfl⟩:=yO hq;obtain⟨h1,h2⟩:=hw1.key r hr;exact⟨aj_ _ _ h1 (hgg r.1),b_.ajN h2 aj_⟩
   ·obtain⟨h1,h2⟩:=lF.key q (qA hq).1;exact⟨ahd h1 (Nat.le_add_right _ _),λi hi=>ahd (h2 i hi) (Nat.le_add_right _ _)⟩
  ·intro q hq;rcases aeh.1 hq with hq|hq
   ·obtain⟨r,hr,rfl⟩:=yO hq;obtain⟨h1,h2⟩:=hw1.key r hr;have e1:σ ((g r.1).getD 0)=ρ' r.1:=by
     rw[<-hag r.1 h1];simp only[renG];rw[hgg r.1];rfl
    have e2:ψ ((g r.1).getD 0)=φ1 r.1:=by funext y;exact propext (aev r.1 y h1)
    simp only;rw[e1,e2];exact b_.adB (b_.qH (λi hi=>(hag i (h2 i hi)).symm) (hw1.jA r hr))
   ·obtain⟨h1,h2⟩:=qA hq;obtain⟨k1,k2⟩:=lF.key q h1;have e2:ψ q.1=φ q.1:=by funext y;exact propext (agt q hq y)
    rw[Yx _ k1,e2];refine b_.qH (λi hi=>(Yx i (k2 i hi)).symm) (b_.stable (λy hy=>hstep y (b_.size (lF.jA _ h1) hy) (aak q hq y hy)) (lF.jA _ h1))
  ·intro q hq y hy hR;rcases aeh.1 hq with hq|hq
   ·obtain⟨r,hr,rfl⟩:=yO hq;have hy:=(aev r.1 y (hw1.key r hr).1).1 hy;refine hw1.apart r hr y hy ?_;rcases hR with hR|hR
    ·exact(hrest y ⟨lF.ro y hR,λhf=>hFR y hf hR⟩).1
    ·exact hR.2
   ·have hy:=(agt q hq y).1 hy;have h1:=(qA hq).1;rcases hR with hR|hR
    ·exact lF.apart _ h1 y hy hR
    ·exact hR.1 ⟨b_.size (lF.jA _ h1) hy,aak q hq y hy⟩
  ·refine List.pairwise_append.2 ⟨?_,?_,?_⟩
   ·have key:∀{L:Heap},(∀r∈L,r∈H1 x)->L.Pairwise (λp q=>p.1≠q.1/\∀b,φ1 p.1 b->¬φ1 q.1 b)->(Vj g L).Pairwise (λp q=>p.1≠q.1/\∀b,ψ p.1 b->¬ψ q.1 b):=by
     intro L;induction L with
     |nil=>exactλ_ _=> .nil
     |cons r L ih=>
      obtain⟨i,e⟩:=r;intro hL hs;obtain⟨hx,hr⟩:=aiN.1 hs;have hi:=(hw1.key _ (hL _ YV)).1;refine aiN.2 ⟨λq hq=> ?_,ih (λr hr=>hL r (aeg _ hr)) hr⟩;obtain⟨r',hr',rfl⟩:=yO hq;have hi':=(hw1.key _ (hL _ (aeg _ hr'))).1;obtain⟨hne,hd⟩:=hx r' hr';exact⟨λe=>hne (ajm i r'.1 hi hi' e),λb hb hb'=>hd b ((aev i b hi).1 hb) ((aev r'.1 b hi').1 hb')⟩
    exact key (λr hr=>hr) hw1.sep
   ·refine List.Pairwise.imp_of_mem (λ{p q} hp hq hpq=>⟨hpq.1,λb hb hb'=>hpq.2 b ((agt p hp b).1 hb) ((agt q hq b).1 hb')⟩) (lF.sep.sublist (Kn θ H0 H))
   ·intro q hq q' hq';obtain⟨r,hr,rfl⟩:=yO hq;obtain⟨h1,h2⟩:=qA hq';have hi:=(hw1.key r hr).1;refine⟨λe=> ?_,λb hb hb'=> ?_⟩
    ·have hlt:=(lF.key _ h1).1;have e:(g r.1).getD 0=q'.1:=e;rcases ack r.1 k with hik|hik
     ·obtain⟨j,g1,_,_,e1,g3⟩:=Ia r.1 hik;rw[Un _ hik,g1]at e;have e:j=q'.1:=e;exact h2 _ g3 (by rw[g1,e])
     ·rw[TL _ hik]at e;have e:nx+r.1=q'.1:=e;omega
    ·have hb:=(aev r.1 b hi).1 hb;have hb':=(agt q' hq' b).1 hb';exact hw1.apart r hr b hb (hrest b ⟨b_.size (lF.jA _ h1) hb',aak q' hq' b hb'⟩).1
theorem lH{α:Type}{ρ0:Nat->Loc}{n0:Nat}{v:SV}(val:α->SV)(H1:α->Heap)(D:α->bR)(p:α->Prop)(x:α)(θ:Map)(hp:p x)(hk:k<=n0)(hv:v=(val x).ren θ.app)(hvl:(val x).bnd n0=true)(hh:uP n0 (H1 x)=true)
 (hm:BM k θ (H1 x)=true) (hi:lI θ H (H1 x)) (hS:∀R w',S.holds R w'->(l8 w F).holds R w'/\((D x).off (iV w F)).holds R w'):jS ⟨w,yZ k ρ0⟩ v H S nx (L6 w ρ0 F k n0 val H1 D p):=by
 refine dK λρ w' hw=> ?_;have yV:∀q∈yZ k ρ0,q.1<k:=λq hq=>(TN hq).1;obtain⟨hm1,hm2⟩:=zG hm;have hlow:∀i,i<k->rP θ ρ i=ρ i:=λi hi=>by simp only[rP,Map.Y1 hm1 hi]
 obtain⟨R,φ,hw⟩:=hw;obtain⟨hk1,hk2⟩:=xH hh;have Tf:=hk2.and hm2;refine⟨x,rP θ ρ,hp,by rw[hv,SV.TU],SV.TK hvl,R,λi y=>match θ.app i with|some j=>φ j y|none=>False,hw.os,hw.tape,hw.output,hw.size,λq hq=>⟨ahd (yV q hq) hk,by rw[hlow _ (yV q hq)];exact(hw.pin q hq).2⟩,hw.ro,hS R w' hw.qL,hk1,?_,?_,?_⟩
 ·intro q hq;have:=gX hi hq;cases hj:θ.app q.1 with
  |some j=>
   rw[hj]at this;have h1:=b_.J6 (hw.jA _ this);have e1:rP θ ρ q.1=ρ j:=by simp only[rP,hj]
   rw[e1];simpa only[hj]using h1
  |none=>
   rw[hj]at this;have hl:rP θ ρ q.1=⟨none,0⟩:=by simp only[rP,hj]
   rw[hl];cases hpe:q.2 with
   |rows xs k T=>
    rw[hpe]at this;have hx:xs=[]:=this;subst hx;exact⟨by simp,Tw _,.inl ⟨rfl,rfl,λx hx=>by simp[hj]at hx⟩⟩
   |box l T=>rw[hpe]at this;exact this.elim
   |ext o=>rw[hpe]at this;exact this.elim
 ·intro q hq y hy;have:=gX hi hq;cases hj:θ.app q.1 with
  |some j=>
   rw[hj]at this;simp only[hj]at hy;exact hw.apart _ this y hy
  |none=>simp only[hj]at hy
 ·refine List.Pairwise.imp_of_mem (R:=λp q=>p.1≠q.1/\∀a b,θ.app p.1=some a->θ.app q.1=some b->a≠b) (λ{p q} hp hq hpq=>⟨hpq.1,λb hb hb'=> ?_⟩) Tf;have h1:=gX hi hp;have h2:=gX hi hq;cases hq1:θ.app p.1 with
  |none=>simp only[hq1]at hb
  |some j1=>
   cases hq2:θ.app q.1 with
   |none=>simp only[hq2]at hb'
   |some j2=>
    rw[hq1]at h1;rw[hq2]at h2;simp only[hq1]at hb;simp only[hq2]at hb';exact UZ hw.sep h1 h2 (hpq.2 j1 j2 hq1 hq2) b hb hb'
theorem Wp.abR{c:Code}{env:Env}{K:Exit->Env->Heap->bR->Nat->Prop}(i:Nat)(G:Nat->Prop)(he:(i,b_.rows xs k T)∈H)(hG:∀R w,S.holds R w->∀b,G b->R b)
 (h:∀l:Loc,xs.length<=l.cap->Wp cx c (env.fz i l) (Heap.fz i l (sM i H)) (S.and ((f_ l.base k xs).off G)) nx K):Wp cx c env H S nx K:=by
 simp only[jY]at*;intro ρ a w hs hw;obtain⟨R,φ,hw⟩:=hw;have hent:=hw.jA _ he;obtain⟨hr,hcap,yB⟩:=hent;have hdel:∀p∈sM i H,p.1≠i/\∀b,φ p.1 b->¬φ i b:=by
  have:∀{H:Heap},H.Pairwise (λp q=>p.1≠q.1/\∀b,φ p.1 b->¬φ q.1 b)->∀{e:b_},(i,e)∈H->∀p∈sM i H,p.1≠i/\∀b,φ p.1 b->¬φ i b:=by
   intro H hsep;induction H with
   |nil=>intro e he;cases he
   |cons q r ih=>
    obtain⟨hq,hr⟩:=aiN.1 hsep;intro e he p hp;obtain⟨qi,qe⟩:=q;unfold sM at hp;cases hbq:Nat.beq qi i with
    |true=>
     rw[hbq,cond_true]at hp;have:=ael hbq;subst this;exact⟨(hq p hp).1.symm,λb hb hb'=>(hq p hp).2 b hb' hb⟩
    |false=>
     rw[hbq,cond_false]at hp;have hne:=akz hbq;have her:(i,e)∈r:=(abr.1 he).resolve_left (λg=>hne wB);rcases abr.1 hp with g|g
     ·subst g;exact⟨hne,(hq _ her).2⟩
     ·exact ih hr her p g
  exact this hw.sep he
 refine h (ρ i) hcap ρ a w ⟨hs.defers,hs.size,λt v hv ht=> ?_,λt v hv=> ?_⟩ ?_
 ·obtain⟨u,hu,rfl⟩:=Env.Al hv;rw[hs.val t u hu ht,SV.Ti]
 ·obtain⟨u,hu,rfl⟩:=Env.Al hv;exactλx hx=>hs.lt t u hu x (SV.I6 hx)
 ·have hsub:=hw.drop (mH i H);refine⟨λb=>R b\/φ i b,φ,hw.os,hw.tape,hw.output,hw.size,hw.pin,λb hb=>hb.elim (hw.ro b) (λhb=>b_.size (hw.jA _ he) hb),⟨S.stable (λ_ h=> .inl h) (λ_ _=>rfl) hw.qL,?_⟩,?_,?_,?_,?_⟩
  ·refine⟨hr,?_⟩;rcases yB with⟨h1,h2,_⟩|⟨b,off,c',h1,h2,h3,h4,h5⟩
   ·simp only at hcap h2;exact .inl (ahV aa)
   ·exact .inr ⟨b,off,h1,⟨.inr ((h2 b).2 rfl),λhb=>hw.apart _ he b ((h2 b).2 rfl) (hG R w hw.qL b hb)⟩,λm r hm j v hj=>by have:=h5 m r hm j v hj;rw[<-alF];simpa[World.cell?,h3]using this⟩
  ·rw[Heap.vg];intro p hp;obtain⟨q,hq,rfl⟩:=abl.1 hp;refine⟨(hsub.key q hq).1,λx hx=> ?_⟩;cases hqe:q.2 with
   |box cs T=>
    rw[hqe]at hx;have:=(hsub.key q hq).2;rw[hqe]at this;exact this x (SV.vJ hx)
   |rows xs k T=>rw[hqe]at hx;simp[b_.fz,b_.hass]at hx
   |ext o=>rw[hqe]at hx;simp[b_.fz,b_.hass]at hx
  ·rw[Heap.vg];intro p hp;obtain⟨q,hq,rfl⟩:=abl.1 hp;have:=hsub.jA q hq;dsimp only;cases hqe:q.2 with
   |box cs T=>
    rw[hqe]at this;obtain⟨b,h1,h2,h3⟩:=this;exact⟨b,h1,h2,by rw[SV.AP];exact h3⟩
   |rows xs k T=>rw[hqe]at this;exact this
   |ext o=>rw[hqe]at this;exact this
  ·rw[Heap.vg];intro p hp b hb hb';obtain⟨q,hq,rfl⟩:=abl.1 hp;exact hb'.elim (hsub.apart q hq b hb) ((hdel q hq).2 b hb)
  ·rw[Heap.vg];exact aj3.2 hsub.sep
end
section
def tQ(vs:List Value):List (List Value):=vs.map λv=>[v]
variable {T:TypeId} {L:List zi} {d:Nat} {us vs:List Value} {l0:Loc}
theorem aaU{F G:Nat->Prop}{w:World}(h:iD T L F w){l:Loc}(hd:L[d]? =some (l0,us))(hn:l0.base=none)(hr:(b_.rows (tQ vs) 1 T).holds (λ_=>l) l G w)(hpos:0<vs.length)(hap:∀b,F b->¬G b):
 iD T (L.set d (l,vs)) (λb=>F b\/G b) w/\∃b off,l.base=some ⟨b,off,none⟩:=by
 obtain⟨_,hcap,hent⟩:=hr;have hlen:(tQ vs).length=vs.length:=by simp[tQ]
 rcases hent with⟨hb,hc0,_⟩|⟨b,off,c,hb,hG,hc,hsz,hcell⟩
 ·exfalso;rw[hlen]at hcap;omega
 rw[hlen]at hcap;have hdl:d<L.length:=(abH.1 hd).1;have hmap:(L.set d (l,vs)).map Prod.fst=(L.map Prod.fst).set d l:=by rw[alq]
 have hLd:(L.map Prod.fst)[d]? =some l0:=by rw[ab5,hd];rfl
 have hmem:∀m:Loc,m∈(L.map Prod.fst).set d l↔m=l\/∃i,i≠d/\(L.map Prod.fst)[i]? =some m:=λm=>by
  constructor
  ·intro hm;obtain⟨i,hi⟩:=amd.1 hm;rw[amx]at hi;split at hi
   ·split at hi
    ·exact .inl (by simpa using hi.symm)
    ·cases hi
   ·rename_i hne;exact .inr ⟨i,λe=>hne e.symm,hi⟩
  ·rintro(rfl|⟨i,hne,hi⟩)
   ·exact amd.2 ⟨d,by rw[anI (by simpa using hdl)]⟩
   ·exact amd.2 ⟨i,by rw[amy (λe=>hne e.symm)];exact hi⟩
 refine⟨⟨λx=> ?_,?_,λp hp=> ?_⟩,b,off,hb⟩
 ·rw[hmap];constructor
  ·rintro(hx|hx)
   ·obtain⟨m,hm,o,ho⟩:=(h.1 x).1 hx;obtain⟨i,hi⟩:=amd.1 hm;refine⟨m,(hmem m).2 (.inr ⟨i,λe=> ?_,hi⟩),o,ho⟩;subst e;rw[hLd]at hi;have:l0=m:=by simpa using hi
    subst this;rw[hn]at ho;cases ho
   ·obtain rfl:=(hG x).1 hx;exact⟨l,(hmem l).2 (.inl rfl),off,hb⟩
  ·rintro⟨m,hm,o,ho⟩;rcases(hmem m).1 hm with rfl|⟨i,_,hi⟩
   ·rw[hb]at ho;simp only[Option.some.injEq,Addr.mk.injEq,and_true]at ho;exact .inr ((hG x).2 ho.1.symm)
   ·exact .inl ((h.1 x).2 ⟨m,adu hi,o,ho⟩)
 ·rw[hmap,amA];have hpw:=h.2.1;rw[amA]at hpw;have hother:∀(k:Nat) (hk:k<(L.map Prod.fst).length) (x o:Nat),(L.map Prod.fst)[k].base=some ⟨x,o,none⟩->x≠b:=λk hk x o ho e=>by
   subst e;exact hap x ((h.1 x).2 ⟨_,aby hk,o,ho⟩) ((hG x).2 rfl)
  intro i j hi hj hij x o o' h1 h2;rw[ajc]at hi hj;rw[List.getElem_set]at h1 h2;by_cases e1:d=i
  ·rw[if_pos e1]at h1;rw[if_neg aa]at h2;rw[hb]at h1;simp only[Option.some.injEq,Addr.mk.injEq,and_true]at h1;exact hother j hj x o' h2 h1.1.symm
  ·rw[if_neg e1]at h1;by_cases e2:d=j
   ·rw[if_pos e2,hb]at h2;simp only[Option.some.injEq,Addr.mk.injEq,and_true]at h2;exact hother i hi x o h1 h2.1.symm
   ·rw[if_neg e2]at h2;exact hpw i j hi hj hij x o o' h1 h2
 ·obtain⟨i,hi⟩:=amd.1 hp;rw[amx]at hi;split at hi
  ·have hpe:p=(l,vs):=by first|(simpa using hi.symm)|(split at hi;·simpa using hi.symm;·cases hi)
   subst hpe;refine .inr ⟨b,off,c,hb,hc,by simp only at hcap|-;omega,by simp only at hsz|-;omega,λj v hj=> ?_⟩;have:=hcell j [v] (by simp only at hj;rw[tQ,ab5,hj];rfl) 0 v rfl;simpa using this
  ·exact h.2.2 p (adu hi)
theorem Te{i n g:Nat}{T':TypeId}{H:Heap}{S:bR}{nx:Nat}{K:SV->Heap->bR->Nat->Prop}(hg:(g,b_.ext (o_ T L))∈H)(hd:L[d]? =some (l0,us))(hn:l0.base=none)(hT:T'=T){rs:List (List Value)}(hrs:rs=tQ vs)(hpos:0<vs.length)
 (h:∀l:Loc,vs.length<=l.cap->(∃b off,l.base=some ⟨b,off,none⟩)->K (.c (.slice l.base n l.cap)) (setH g (.ext (o_ T (L.set d (l,vs)))) H) S nx):qN (.os i n) ((i,.rows rs 1 T')::H) S nx K:=by
 subst hT hrs;refine VU (α:={l:Loc//vs.length<=l.cap/\∃b off,l.base=some ⟨b,off,none⟩}) (λl=> .c (.slice l.1.base n l.1.cap)) (λl=>setH g (.ext (o_ T' (L.set d (l.1,vs)))) H) (λ_=>S) ?_ (λl=>h l.1 l.2.1 l.2.2);intro B ρ w hA;obtain⟨R,φ,hw⟩:=hA;obtain⟨hsep,aiI⟩:=aiN.1 hw.sep;have hrow:=hw.jA _ YV;have adj:iD T' L (φ g) w:=hw.jA _ (aeg _ hg);have hgi:∀b,φ g b->¬φ i b:=λb h1 h2=>(hsep _ hg).2 b h2 h1;have hrow':(b_.rows (tQ vs) 1 T').holds (λ_=>ρ i) (ρ i) (φ i) w:=hrow;obtain⟨hnew,hbase⟩:=aaU adj hd hn hrow' hpos hgi;have hcap:vs.length<=(ρ i).cap:=by have:=hrow.2.1;simpa[tQ]using this
 refine⟨⟨ρ i,hcap,hbase⟩,rfl,SV.iW _,R,λk b=>if k=g then φ g b\/φ i b else φ k b,?_⟩;have hsub:=hw.drop (aom _ _);refine⟨hw.os,hw.tape,hw.output,hw.size,hw.pin,hw.ro,hw.qL,?_,?_,?_,?_⟩
 ·intro p hp;rcases wh hp with⟨rfl,_⟩|hp
  ·exact⟨(hsub.key _ hg).1,λy hy=>by simp[b_.hass]at hy⟩
  ·exact hsub.key p hp
 ·intro p hp;by_cases hpg:p.1=g
  ·obtain⟨pi,pe⟩:=p;simp only at hpg;subst hpg;have hk:(setH pi (.ext (o_ T' (L.set d (ρ i,vs)))) H).Pairwise λp q=>p.1≠q.1/\True:=by
    have:((setH pi (.ext (o_ T' (L.set d (ρ i,vs)))) H).map (·.1)).Pairwise (·≠·):=by
     rw[oO];exact aj3.2 (aiI.imp λx=>x.1)
    exact(aj3.1 this).imp λx=>⟨x,trivial⟩
   have h2:pe= .ext (o_ T' (L.set d (ρ i,vs))):=xy hk hp (tN hg);subst h2;show iD T' (L.set d (ρ i,vs)) _ w;simp only[if_pos rfl];exact hnew
  ·have hpH:p∈H:=by
    rcases wh hp with⟨rfl,_⟩|hp'
    ·exact absurd rfl hpg
    ·exact hp'
   have:=hsub.jA p hpH;simp only[if_neg hpg];exact this
 ·intro p hp b hb;have hpk:p.1∈H.map (·.1):=by
   have:p.1∈(setH g (.ext (o_ T' (L.set d (ρ i,vs)))) H).map (·.1):=abl.2 ⟨p,hp,rfl⟩
   rwa[oO]at this
  obtain⟨q,hq,hqe⟩:=abl.1 hpk;by_cases hpg:p.1=g
  ·simp only[if_pos hpg]at hb;rcases hb with hb|hb
   ·exact hsub.apart _ hg b hb
   ·exact hw.apart _ YV b hb
  ·simp only[if_neg hpg]at hb;exact hsub.apart q hq b (by rw[hqe];exact hb)
 ·have hkeys:(H.map (·.1)).Pairwise (λa b=>a≠b/\∀x,φ a x->¬φ b x):=aj3.2 aiI;have hi:∀a∈H.map (·.1),∀x,φ i x->¬φ a x:=λa ha x hx=>by
   obtain⟨q,hq,rfl⟩:=abl.1 ha;exact(hsep q hq).2 x hx
  have:((setH g (.ext (o_ T' (L.set d (ρ i,vs)))) H).map (·.1)).Pairwise (λa b=>a≠b/\∀x,(if a=g then φ g x\/φ i x else φ a x)->¬(if b=g then φ g x\/φ i x else φ b x)):=by
   rw[oO];refine hkeys.imp_of_mem λ{a b} ha hb hab=>⟨hab.1,λx hx hx'=> ?_⟩;by_cases e1:a=g
   ·rw[if_pos e1]at hx;have e2:b≠g:=λe=>hab.1 (e1.trans e.symm);rw[if_neg e2]at hx';rcases hx with hx|hx
    ·exact hab.2 x (by rw[e1];exact hx) hx'
    ·exact hi b hb x hx hx'
   ·rw[if_neg e1]at hx;by_cases e2:b=g
    ·rw[if_pos e2]at hx';rcases hx' with hx'|hx'
     ·exact hab.2 x hx (by rw[e2];exact hx')
     ·exact hi a ha x hx' hx
    ·rw[if_neg e2]at hx';exact hab.2 x hx hx'
  exact aj3.1 this
end
section
variable {H:Heap} {S:bR} {nx:Nat}
theorem Wp.grp{cx:Cx}{c:Code}{env:Env}{K:Exit->Env->Heap->bR->Nat->Prop}(T:TypeId)(n:Nat)(h:Wp cx c env ((nx,.ext (o_ T (List.replicate n (⟨none,0⟩,[]))))::H) S (nx+1) K):Wp cx c env H S nx K:=by
 simp only[jY]at*;intro ρ a w hs hw;obtain⟨R,φ,lF⟩:=hw;refine wp_mono (h (upd ρ nx ⟨none,0⟩) a w ⟨hs.defers,hs.size,λt v hv ht=> ?_,λt v hv=>(hs.lt t v hv).mono (amN _)⟩ ⟨R,_,lF.add (F:=λ_=>False) (λy hy=>by simp[b_.hass]at hy) ?_ (λ_ hb=>hb.elim) (λ_ _ _ _ hb=>hb)⟩) ?_
 ·rw[hs.val t v hv ht];exact congrArg some (SV.aeK (ρ:=ρ) (ρ':=upd ρ nx ⟨none,0⟩) (hs.lt t v hv) λi hi=>(mI hi).symm)
 ·show iD T _ _ w;have hn:∀l∈(List.replicate n ((⟨none,0⟩,[]):zi)).map Prod.fst,l.base=none:=λl hl=>by
   rw[List.map_replicate]at hl;rw[(anB.1 hl).2]
  refine⟨λx=>⟨λhx=>hx.elim,λ⟨l,hl,off,e⟩=>by rw[hn l hl]at e;cases e⟩,?_,λp hp=> .inl (hn p.1 (abl.2 ⟨p,hp,rfl⟩))⟩;rw[amA];intro i j hi hj _ b off off' h1;rw[hn _ (aby hi)]at h1;cases h1
 ·rintro e a' w' ⟨ρ',env',H',S',nx',h1,h2,h3,h4,h5⟩;exact⟨ρ',env',H',S',nx',λi hi=>(h1 i aa).trans (mI hi),by omega,h3,h4,h5⟩
theorem aa5{B:Base}{ρ:Nat->Loc}{w:World}{g:Nat}{T:TypeId}{L:List zi}(h:dO B ρ nx H S w)(hS:∀R w',S.holds R w'->(aU B.w0).holds R w')(hg:(g,b_.ext (o_ T L))∈H){p:zi}(hp:p∈L){b off:Nat}(hb:p.1.base=some ⟨b,off,none⟩):
 B.w0.heap.size<=b/\b<w.heap.size/\∀(j:Nat) (v:Value),p.2[j]? =some v->w.cell? ⟨b,off+j,none⟩=some v:=by
 obtain⟨R,φ,hw⟩:=h;have hent:iD T L (φ g) w:=hw.jA _ hg;obtain⟨hF,c,hc,h1,h2,h3⟩:=E_ hent hp hb;refine⟨aoa λhlt=>hw.apart _ hg b hF (hS R w hw.qL b hlt).1,(alu.1 hc).1,λj v hj=> ?_⟩;simp[World.cell?,hc,h3 j v hj]
end
section
variable {nx:Nat} {H:Heap} {S:bR} {w:World}
theorem wz.succ{B:Base}{R:Nat->Prop}{φ:Nat->Nat->Prop}{ρ:Nat->Loc}(h:wz B R φ ρ nx H S w):wz B R φ ρ (nx+1) H S w:=
 ⟨h.os,h.tape,h.output,h.size,λp hp=>⟨Nat.lt_succ_of_lt (h.pin p hp).1,(h.pin p hp).2⟩,h.ro,h.qL,λp hp=>⟨Nat.lt_succ_of_lt (h.key p hp).1,λi hi=>Nat.lt_succ_of_lt ((h.key p hp).2 i hi)⟩,h.jA,h.apart,h.sep⟩
variable {L:List zi} {F:Nat->Prop} {T:TypeId} {d b off:Nat} {l:Loc} {vs:List Value}
theorem Ra(h:iD T L F w){i:Nat}{m:Loc}(hd:L[d]? =some (l,vs))(hi:(L.map Prod.fst)[i]? =some m)(hne:i≠d){off':Nat}(hb:l.base=some ⟨b,off,none⟩):m.base≠some ⟨b,off',none⟩:=by
 have hL1:(L.map Prod.fst)[d]? =some l:=by rw[ab5,hd];rfl
 have hpw:=h.2.1;rw[amA]at hpw;obtain⟨g1,e1⟩:=abH.1 hL1;obtain⟨g2,e2⟩:=abH.1 hi;rcases ack d i with hlt|hge
 ·have:=hpw d i g1 g2 hlt b off off' (by rw[e1];exact hb);rw[e2]at this;exact this
 ·intro g;have:=hpw i d g2 g1 aa b off' off (by rw[e2];exact g);rw[e1]at this;exact this hb
theorem aeU(h:iD T L F w)(hd:L[d]? =some (l,vs))(hb:l.base=some ⟨b,off,none⟩):
 iD T (L.set d (⟨none,0⟩,[])) (λx=>F x/\x≠b) w:=by
 have hdl:d<L.length:=(abH.1 hd).1;have hmap:(L.set d ((⟨none,0⟩,[]):zi)).map Prod.fst=(L.map Prod.fst).set d ⟨none,0⟩:=by rw[alq]
 have hmem:∀m:Loc,m∈(L.map Prod.fst).set d ⟨none,0⟩->m=⟨none,0⟩\/∃i,i≠d/\(L.map Prod.fst)[i]? =some m:=λm hm=>by
  obtain⟨i,hi⟩:=amd.1 hm;rw[amx]at hi;split at hi
  ·split at hi
   ·exact .inl (by simpa using hi.symm)
   ·cases hi
  ·rename_i hne;exact .inr ⟨i,λe=>hne e.symm,hi⟩
 refine⟨λx=> ?_,?_,λp hp=> ?_⟩
 ·rw[hmap];constructor
  ·rintro⟨hx,hxb⟩;obtain⟨m,hm,o,ho⟩:=(h.1 x).1 hx;obtain⟨i,hi⟩:=amd.1 hm;have hid:i≠d:=λe=>by
    subst e;have hL1:(L.map Prod.fst)[i]? =some l:=by rw[ab5,hd];rfl
    rw[hL1]at hi;have:l=m:=by simpa using hi
    subst this;rw[hb]at ho;simp only[Option.some.injEq,Addr.mk.injEq,and_true]at ho;exact hxb ho.1.symm
   exact⟨m,amd.2 ⟨i,by rw[amy (λe=>hid e.symm)];exact hi⟩,o,ho⟩
  ·rintro⟨m,hm,o,ho⟩;rcases hmem m hm with rfl|⟨i,hid,hi⟩
   ·cases ho
   ·exact⟨(h.1 x).2 ⟨m,adu hi,o,ho⟩,λe=>Ra h hd hi hid hb (e▸ho)⟩
 ·rw[hmap,amA];have hpw:=h.2.1;rw[amA]at hpw;intro i j hi hj hij x o o' h1 h2;rw[ajc]at hi hj;rw[List.getElem_set]at h1 h2;by_cases e1:d=i
  ·rw[if_pos e1]at h1;cases h1
  ·rw[if_neg e1]at h1;by_cases e2:d=j
   ·rw[if_pos e2]at h2;cases h2
   ·rw[if_neg e2]at h2;exact hpw i j hi hj hij x o o' h1 h2
 ·obtain⟨i,hi⟩:=amd.1 hp;rw[amx]at hi;split at hi
  ·have hpe:p=(⟨none,0⟩,[]):=by first|(simpa using hi.symm)|(split at hi;·simpa using hi.symm;·cases hi)
   subst hpe;exact .inl rfl
  ·exact h.2.2 p (adu hi)
variable {v:Value}
theorem agY(h:iD T L F w)(hd:L[d]? =some (l,vs))(hb:l.base=some ⟨b,off,none⟩){c:Array Value}(hc:w.heap[b]? =some (.cells c T (0,0)))(hfit:off+vs.length+1<=c.size):
 iD T (L.set d (l,vs++[v])) F (w.setRow b (cB c.toList (off+vs.length) [v]).toArray):=by
 have hm:=adu hd;obtain⟨hF,c',hc',hsz,hcap,hcell⟩:=E_ h hm hb;rw[hc]at hc';obtain rfl:c=c':=by simpa using hc'
 refine⟨by rw[Mk hd];exact h.1,by rw[Mk hd];exact h.2.1,λp hp=> ?_⟩;obtain⟨i,hi⟩:=amd.1 hp;rw[amx]at hi;have hrow:=setRow_heap w b c (cB c.toList (off+vs.length) [v]).toArray T (0,0) hc;split at hi
 ·split at hi
  ·have hpe:p=(l,vs++[v]):=by simpa using hi.symm
   subst hpe;refine .inr ⟨b,off,_,hb,hrow,?_,?_,λj u hj=> ?_⟩
   ·simp[jr];omega
   ·simpa[jr]using hcap
   ·simp only at hj;have e:cB c.toList (off+vs.length) [v]=c.toList.set (off+vs.length) v:=by simp[cB]
    rw[e];simp only[amF];rcases ack j vs.length with g|g
    ·rw[ag9 g]at hj;rw[amy aa];have:=hcell j u hj;simpa using this
    ·have hjl:=(abH.1 hj).1;simp only[adx,ag_]at hjl;obtain rfl:j=vs.length:=by omega
     have:v=u:=by simpa using hj
     subst this;rw[anI (by simpa using(by omega:off+vs.length<c.size))]
  ·cases hi
 ·rename_i hne;have hpm:=adu hi;rcases h.2.2 p hpm with hn|⟨b',off',c',h1,h2,h3,h4,h5⟩
  ·exact .inl hn
  ·have hbb:b'≠b:=λe=>by
    subst e;exact Ra h hd (i:=i) (m:=p.1) (by rw[ab5,hi];rfl) (λe=>hne e.symm) hb h1
   exact .inr ⟨b',off',c',h1,((ol w b _).block b' (alu.1 h2).1 hbb).trans h2,h3,h4,h5⟩
theorem Vm{α:Type}(L:List α)(d:Nat)(x y:α):(L.set d x).set d y=L.set d y:=List.set_set ..
theorem agd{cx:Cx}{sT xT xe:TypeId}{g:Nat}{K:SV->Heap->Prop}{i:TypeInfo}{z:Value}(hs:cx.P.underlying sT=some (.slice T))(hx:cx.P.underlying xT=some (.slice xe))(hi:cx.P.info? T=some i)(hz:i.zero=some z)(hsz:i.size=1)(hby:i.bytes=8)(hzs:z.cells.size=1)
 (hg:(g,b_.ext (o_ T L))∈H) (hd:L[d]? =some (l,vs)) (hb:l.base=some ⟨b,off,none⟩) (an7:vs.length<=l.cap) (hroom:(vs.length+1)*8<=140737488355328) (h1v:∀u∈vs,u.oneCell'=true) {ys:List (List Value)} (hye:ys=[[v]]) (n:Nat) (hn:n=vs.length) (cap:Nat) (alM:cap=l.cap)
 (h:∀l':Loc,vs.length+1<=l'.cap->(∃b off,l'.base=some ⟨b,off,none⟩)->K (.c (.slice l'.base (vs.length+1) l'.cap)) (setH g (.ext (o_ T (L.set d (l',vs++[v])))) H)):apQ cx sT xT 1 (.slice (some ⟨b,off,none⟩) n cap) ys H S nx K:=by
 subst hye hn alM;refine⟨λρ w xb xc ty hw hys hfx=> ?_⟩;have hA:=hw;obtain⟨R,φ,hw⟩:=hw;have adj:iD T L (φ g) w:=hw.jA _ hg;have hm:=adu hd;obtain⟨hF,c,hc,hsize,hcap,hcell⟩:=E_ adj hm hb;simp only at hsize hcap hcell;have hv1:v.oneCell'=true:=(hys [v] YV).2 v YV;have hxi:∀k,(TypeDesc.slice xe)≠.int k:=λk e=>by cases e
 by_cases uF:vs.length+1<=l.cap
 ·have hrun:=Eh (P:=cx.P) (ty:=ty) (sT:=sT) (xT:=xT) (e:=T) (i:=i) (w:=w) (b:=b) (off:=off) (sLen:=vs.length) (sCap:=l.cap) (n:=1) (xc:=xc) (xb:=xb) (T:=T) (c:=c) (news:=[v]) hs hx hxi hi uF (by rw[hsz];exact hfx w hA) hc (by rw[hsz];simp;omega) (λu hu=>by rw[afe.1 hu];exact hv1);rw[hsz,Nat.mul_one]at hrun;refine⟨.c (.slice l.base (vs.length+1) l.cap),ρ,_,w.setRow b (cB c.toList (off+vs.length) [v]).toArray,by rw[hb];exact hrun,λ_ _=>rfl,SV.iW _,?_,h l uF ⟨b,off,hb⟩⟩;refine⟨R,φ,(hw.store hg (e':= .ext (o_ T (L.set d (l,vs++[v])))) (λy hy=>by simp[b_.hass]at hy) λF hF'=> ?_).succ⟩;have amb:iD T L F w:=hF';obtain⟨hFb,_⟩:=E_ amb hm hb;exact⟨⟨rfl,rfl,rfl,by simp[World.setRow],λx hx hne=>(ol w b _).block x hx (λe=>hne (by rw[e];exact hFb))⟩,agY amb hd hb hc aa⟩
 ·have hfo:(Builtin.firstCells i.size vs.length (.slice (some ⟨b,off,none⟩) vs.length l.cap)).run cx.P w.drew= .ok vs.toArray w.drew:=by
   refine run_firstCells_some (P:=cx.P) w.drew i.size _ _ _ _ _ (by rw[hsz];simp) λp u hp=> ?_;have:=hcell p u hp;have hcd:w.drew.heap[b]? =some (.cells c T (0,0)):=hc;have e:(⟨b,off,none⟩:Addr).add p=⟨b,off+p,none⟩:=by
    unfold Addr.add;split<;>simp_all
   rw[fG];simp[World.cell?,hcd,this]
  have hrun:=v_ (P:=cx.P) (ty:=ty) (sT:=sT) (xT:=xT) (e:=T) (i:=i) (z:=z) (w:=w) (sb:=some ⟨b,off,none⟩) (xb:=xb) (sLen:=vs.length) (sCap:=l.cap) (n:=1) (xc:=xc) (olds:=vs) (news:=[v]) hs hx hxi hi hz (by rw[hby];decide) aa hfo (by rw[hsz];exact hfx _ hA.drew) (by rw[hby];exact hroom);obtain⟨cp,hcp⟩:∃cp,grownCap w (vs.length+1) l.cap T=cp:=⟨_,rfl⟩;have aiw:vs.length+1<=cp:=by rw[<-hcp];exact grownCap_le _ _ _ _
  rw[hcp]at hrun;obtain⟨w2,hw2⟩:∃w2,w.drew.alloc (.cells (vs++[v]++(Builtin.zeroCells z.cells (cp-(vs.length+1))).toList).toArray T)=w2:=⟨_,rfl⟩;have anx:w2.heap.size=w.heap.size+1:=by rw[<-hw2];exact Array.size_push ..
  have hnew:w2.heap[w.heap.size]? =some (.cells (vs++[v]++(Builtin.zeroCells z.cells (cp-(vs.length+1))).toList).toArray T (0,0)):=by rw[<-hw2];exact oP w.drew _
  have hstep:Step (λ_=>False) w w2:=by
   rw[<-hw2];exact Step.I8 ((show Ext w w.drew from⟨rfl,rfl,rfl,Tw _,λ_ _=>rfl⟩).trans (Ke w.drew _))
  rw[hw2]at hrun;refine⟨.c (.slice (some ⟨w.heap.size,0,none⟩) (vs.length+1) cp),ρ,_,w2,hrun,λ_ _=>rfl,SV.iW _,?_,h ⟨some ⟨w.heap.size,0,none⟩,cp⟩ aiw ⟨_,_,rfl⟩⟩;have alD:iD T L (φ g) w2:=(o_ T L).stable (l:=ρ g) (λx hx=>hstep.block x ((o_ T L).lt (l:=ρ g) adj hx) (λh=>h)) adj;have hdrop:=aeU alD hd hb;have hadd:=aaU (T:=T) (F:=λx=>φ g x/\x≠b) (G:=λx=>x=w.heap.size) hdrop (d:=d) (l:=⟨some ⟨w.heap.size,0,none⟩,cp⟩) (us:=[]) (vs:=vs++[v]) (l0:=⟨none,0⟩) (anI (abH.1 hd).1) rfl ⟨?_,?_,.inr ⟨w.heap.size,0,_,rfl,λ_=>Iff.rfl,hnew,?_,λj r hj k u hu=> ?_⟩⟩ aI (λx hx e=>by
   have:=(o_ T L).lt (l:=ρ g) adj hx.1;omega)
  ·obtain⟨hadd,_⟩:=hadd;rw[Vm]at hadd;refine⟨R,_,(hw.move hg (e':= .ext (o_ T (L.set d (⟨some ⟨w.heap.size,0,none⟩,cp⟩,vs++[v])))) (λy hy=>by simp[b_.hass]at hy) (F':=λx=>(φ g x/\x≠b)\/x=w.heap.size) ⟨hstep.os,hstep.tape,hstep.output,hstep.size,λx hx _=>hstep.block x hx (λh=>h)⟩ (λy hy=>hy.elim (λg=> .inl g.1) (λg=> .inr aa)) hadd).succ⟩
  ·intro r hr;obtain⟨u,hu,rfl⟩:=abl.1 hr;refine⟨rfl,λx hx=> ?_⟩;rw[afe.1 hx];rcases aeh.1 hu with hu|hu
   ·exact h1v u hu
   ·rw[afe.1 hu];exact hv1
  ·simp[tQ];exact aiw
  ·simp[Builtin.zeroCells,hzs];omega
  ·obtain⟨x,hx,rfl⟩:∃x,(vs++[v])[j]? =some x/\r=[x]:=by
    rw[tQ,ab5]at hj;cases hq:(vs++[v])[j]? with
    |none=>rw[hq]at hj;cases hj
    |some x=>rw[hq]at hj;exact⟨x,rfl,by simpa using hj.symm⟩
   have hk0:k=0:=by
    rcases amm k with h|h
    ·exact h
    ·rw[aiQ (by show 1<=k;exact h)]at hu;cases hu
   subst hk0;obtain rfl:x=u:=by simpa using hu
   have hjl:=(abH.1 hx).1;simp only[amF,aiD,Nat.mul_one,amr];rw[ag9 hjl];exact hx
end
def abA:Nat->Code->Code
 |0,c=>c
 |n+1,.seq _ b=>abA n b
 |_+1,c=>c
def bodyC(f:Func):Code:=match f.body with
 |some c=>c
 |none=> .skip
theorem Wp.into{cx:Cx}{c:Code}{env:Env}{H:Heap}{S:bR}{nx:Nat}{K:Exit->Env->Heap->bR->Nat->Prop}(n1:Nat){vals:Env}{hp:Heap}{as:bR}(θ:Map)(h:Wp cx c vals hp as n1 K)
 (hn:nx<=n1) (hwf:Ri n1 vals=true/\uP n1 hp=true) (hi:Into nx env H S θ vals hp as):Wp cx c env H S nx K:=by
 simp only[jY]at*;intro ρ a w hs hw;have yV:∀p∈cx.B.pin,p.1<nx:=by
  obtain⟨R,φ,hw⟩:=hw;exactλp hp=>(hw.pin p hp).1
 obtain⟨h1,h2,h3⟩:=hi.sound hwf.1 hwf.2 hn yV hs hw;refine wp_mono (h _ a w h1 h2) ?_;rintro e a' w' ⟨ρ',env',H',S',nx',g1,g2,g3,g4,g5⟩;exact⟨ρ',env',H',S',nx',λi hi=>(g1 i (ahd hi hn)).trans (h3 i hi),aiC hn g2,g3,g4,g5⟩
end Go.SX

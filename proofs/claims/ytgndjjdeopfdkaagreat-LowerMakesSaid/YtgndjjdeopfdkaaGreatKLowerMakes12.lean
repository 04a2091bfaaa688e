import Derived.Test.YtgndjjdeopfdkaaGreatKLowerMakes11
/- texts NO NS of the proof of LowerMakesSaid -/
set_option maxHeartbeats 16000000
set_option maxRecDepth 20000
namespace Go.Proofs.YtgndjjdeopfdkaaGreat
abbrev ak4:Go.SX.DT:=(eF [0,1,2,3,4,5,6,7,108,109,110,111,112,13,114] .done)
open Go.SX Go.RowKit
section
variable {m nx i k y:Nat} {u1 u2 u3 u x:aj} {l kept acc:List ai} {w:World} {H:Heap} {S:bJ} {K:SV->Heap->bJ->Nat->Prop} {f:FuncId} {B:Base} {st:List Nat} {T:TypeId}
theorem abp{m:ai}(h1:u1.xs=m.shape.xs)(h2:u2.xs=m.data.xs)(h3:u3.xs=m.aG.xs):(wE m u1 u2 u3).pl=m.pl:=by
 show aP.mk _ _ _ u1.xs _ _ _ u2.xs u3.xs=_
 rw[h1,h2,h3];rfl
theorem Gu{m:ai}(hl:wD l)(hm:m.iI)(hs:m.small)(h1:u1.a_)(e2:u2.xs=m.data.xs)(h2:u2.a_)(e3:u3.xs=m.aG.xs)(h3:u3.a_):wD (l++[wE m u1 u2 u3]):=λn hn=>by
 rcases List.mem_append.1 hn with hn|hn
 ·exact hl n hn
 ·rw[List.mem_singleton.1 hn]
  exact⟨⟨h1,h2,h3,hm.jJ,hm.p9,hm.nQ,hm.kE,hm.kF,hm.jK⟩,by show u2.xs.length<=5000;rw[e2];exact hs.data,by show u3.xs.length<=5000;rw[e3];exact hs.aG⟩
theorem Zx{m:ai}(h1:u1.xs=m.shape.xs)(h2:u2.xs=m.data.xs)(h3:u3.xs=m.aG.xs):(kept++[wE m u1 u2 u3]).map ai.pl=kept.map ai.pl++[m.pl]:=by
 rw[List.map_append,List.map_cons,List.map_nil,abp h1 h2 h3]
theorem Ar(hu:u.a_)(hx:x.a_):(fU u x).iI:=⟨hu,hx,⟨λy hy=>by simp[fU,fI]at hy,Nat.le_refl _,Nat.zero_le _⟩,Y5,ol,ol,ol,ol,ol⟩
theorem abq(hu:u.ok w)(hx:x.ok w):(fU u x).ok w:=⟨hu,hx,EY w,Y5,ol,ol,ol,ol,ol⟩
def ae_(x:aj×aj):bJ:=(bn x.1).and (bn x.2)
theorem U6{R:Nat->Prop}{N:Nat}(hu:u.a_)(hx:x.a_)(h:((ae_ (u,x)).past N).holds R w):(fU u x).ok w:=abq (bP hu ((bn u).mono h.1 λb hb=>hb.1)) (bP hx ((bn x).mono h.2 λb hb=>hb.1))
theorem xP{s d:List Int}(h1:u.xs=s)(h2:x.xs=d):(fU u x).pl=⟨2,0,0,s,0,0,0,d,[]⟩:=by subst h1 h2;rfl
theorem afa:(λ_=>none)=t_ (λ_=>false):=by funext j;unfold t_;rw[if_neg fC]
theorem XC(h:∀r,K (.c (.map (some r))) ((nx,.ext (lg r (t_ λ_=>false)))::H) S (nx+1)):yh H S nx K:=⟨λr=>by have:=h r;rwa[<-afa]at this⟩
theorem XD{P:Program}{v u x:Value}{Q:Ending->World->Prop}{b:Nat}(e:v= .pointer (some ⟨b,0,none⟩))(h:Calls P f #[.pointer (some ⟨b,0,none⟩),u,x] w Q):Calls P f #[v,u,x] w Q:=e▸h
def dZ(n:Nat)(p:List Nat):List Nat:=p++List.replicate (n-p.length) 0
theorem uw{n:Nat}{p:List Nat}(h:p.length<=n):(dZ n p).length=n:=by unfold dZ;simp;omega
theorem abr(n:Nat)(p:List Nat):p_ (dZ n p)=jZ n (p_ p):=by unfold dZ p_ jZ;simp
theorem vJ{n x:Nat}{p:List Nat}{K:List (List Value)->Prop}(hl:p.length=i)(hi:i<n)(h:K (ints (p_ (dZ n (p++[x]))))):bS (ints (p_ (dZ n p))) i 0 [.int .i64 (x:Int)] K:=by
 rw[abr]at h|-
 refine zi (by unfold p_;rw[List.length_map];exact hl) hi ?_
 have:p_ (p++[x])=p_ p++[(x:Int)]:=by unfold p_;simp
 rw[<-this];exact h
theorem XE{n:Nat}{p:List Nat}(h:p.length<n):dZ n (p++[0])=dZ n p:=by
 unfold dZ
 obtain⟨k,hk⟩:∃k,n-p.length=k+1:=⟨n-p.length-1,by omega⟩
 rw[hk,List.length_append,List.length_singleton,show n-(p.length+1)=k by omega,List.append_assoc,List.replicate_succ]
 rfl
theorem CW{n:Nat}{p:List Nat}(h:k<p.length):(dZ n p).getD k 0=p.getD k 0:=by
 unfold dZ;rw[List.getD_eq_getElem?_getD,List.getD_eq_getElem?_getD,List.getElem?_append_left h]
theorem Gv{n:Nat}{p:List Nat}{x:aP}(h:gY x p.length):bG (dZ n p) x=bG p x:=by
 unfold bG
 by_cases h12:x.kind=1\/x.kind=2
 ·rw[if_pos h12,if_pos h12]
 ·rw[if_neg h12,if_neg h12,CW (h.a1 aa aa)]
  by_cases h6:x.kind=6
  ·rw[if_pos h6,if_pos h6,CW (h.b1 h6)]
  ·rw[if_neg h6,if_neg h6]
theorem Gw(n:Nat):ints (p_ (dZ n []))=List.replicate n [Value.int .i64 0]:=by
 unfold dZ p_ ints;simp
theorem gY.mono{p:aP}(h:gY p k)(hm:k<=m):gY p m:=⟨h.a0,λh1 h2=>Nat.lt_of_lt_of_le (h.a1 h1 h2) hm,h.a2,h.b0,λh6=>Nat.lt_of_lt_of_le (h.b1 h6) hm,h.b2,h.kind⟩
theorem CX{p:List Nat}{x:aP}(h:gY x p.length):bG (p++[y]) x=bG p x:=by
 have hg:∀k,k<p.length->(p++[y]).getD k 0=p.getD k 0:=λk hk=>by rw[List.getD_eq_getElem?_getD,List.getD_eq_getElem?_getD,List.getElem?_append_left hk]
 unfold bG
 by_cases h12:x.kind=1\/x.kind=2
 ·rw[if_pos h12,if_pos h12]
 ·rw[if_neg h12,if_neg h12,hg _ (h.a1 aa aa)]
  by_cases h6:x.kind=6
  ·rw[if_pos h6,if_pos h6,hg _ (h.b1 h6)]
  ·rw[if_neg h6,if_neg h6]
theorem ZK{ρ:Nat->SX.Loc}{d j:Nat}{out:Int}{T1 T2:TypeId}(hw:dY B ρ nx H S w)(hm:st.length=m)(hd:(d,bU.box [.os i kept.length,ak out,.os j m] T)∈H)(hi:(i,bU.rows (bq kept) 9 T1)∈H)(hj:(j,bU.rows (ints (p_ st)) 1 T2)∈H):
 ∃b,(SV.lp d 0 0 0).rf ρ= .pointer (some ⟨b,0,none⟩)/\m_ w b (ρ i).base (ρ i).cap kept (ρ j).base (ρ j).cap (p_ st):=by subst hm;exact zk hw hd hi hj
theorem FJ{need:Nat->Bool}{n:aP}{r:List aP}{x:List aP×List Nat}:oP need (n::r) i x=oP need r (i+1) (if need i=true\/n.kind=1 then(x.1++[bG x.2 n],x.2++[x.1.length])else(x.1,x.2++[0])):=rfl
theorem Gx{n:ai}(h:n.iI)(hs:∀k,st.getD k 0<=1000000):(dw st n).iI:=by
 obtain⟨_,_,ea,ea2,eb,eb2⟩:=qz st n.pl
 have ha:i64 (bG st n.pl).a:=by
  by_cases h12:n.pl.kind=1\/n.pl.kind=2
  ·rw[ea2 h12];exact h.p9
  ·rw[ea aa aa]
   have:=hs n.pl.a.toNat
   unfold i64;omega
 have hb:i64 (bG st n.pl).b:=by
  by_cases h6:n.pl.kind=6
  ·rw[eb h6]
   have:=hs n.pl.b.toNat
   unfold i64;omega
  ·rw[eb2 h6];exact h.nQ
 exact⟨h.shape,h.data,h.aG,h.jJ,ha,hb,h.kE,h.kF,h.jK⟩
theorem uy{p:List Nat}(h:∀k,p.getD k 0<=m)(hy:y<=m):∀k,(p++[y]).getD k 0<=m:=λk=>by
 rcases Nat.lt_or_ge k p.length with hk|hk
 ·rw[List.getD_eq_getElem?_getD,List.getElem?_append_left hk,<-List.getD_eq_getElem?_getD];exact h k
 ·rw[List.getD_eq_getElem?_getD,List.getElem?_append_right hk]
  cases k-p.length with
  |zero=>exact hy
  |succ j=>exact Nat.zero_le _
theorem U7{n:Nat}{p:List Nat}(h:∀k,p.getD k 0<=m):∀k,(dZ n p).getD k 0<=m:=λk=>by
 rcases Nat.lt_or_ge k p.length with hk|hk
 ·rw[CW hk];exact h k
 ·unfold dZ
  rw[List.getD_eq_getElem?_getD,List.getElem?_append_right hk,List.getElem?_replicate]
  split<;>exact Nat.zero_le _
theorem abt{n:ai}(hl:wD l)(h1:n.iI)(h2:n.small):wD (l++[n]):=λm hm=>by
 rcases List.mem_append.1 hm with hm|hm
 ·exact hl m hm
 ·rw[List.mem_singleton.1 hm];exact⟨h1,h2⟩
theorem LG{n:Nat}{p:List Nat}(hp:p.length<n)(h:(i,bU.rows (ints (p_ (dZ n p))) 1 T)∈H):(i,bU.rows (ints (p_ (dZ n (p++[0])))) 1 T)∈H:=by rw[XE hp];exact h
def From(kept acc:List ai):Prop:=∀m∈acc,∃k∈kept,m.shape=k.shape/\m.data=k.data/\m.aG=k.aG
theorem FK{x:ai}(h:From kept acc)(hx:x∈kept):From kept (acc++[dw st x]):=λm hm=>by
 rcases List.mem_append.1 hm with hm|hm
 ·exact h m hm
 ·rw[List.mem_singleton.1 hm];exact⟨x,hx,rfl,rfl,rfl⟩
def LH(w:World)(r:Int)(x:List aP×Nat)(e:Ending)(w':World):Prop:=
 (r≠0/\e= .returned (.tuple #[.agg #[.slice none 0 0,.int .i64 0],.int .i64 r])/\Ext w w')\/
 (r=0/\∃(l:List ai) (base:Option Addr) (cap:Nat),l.map ai.pl=x.1/\wD l/\l.length<=cap/\e= .returned (.tuple #[.agg #[.slice base l.length cap,.int .i64 x.2],.int .i64 0])/\Ext w w'/\
   ∃F G:Nat->Prop,(∀b,F b->w.heap.size<=b/\b<w'.heap.size)/\(∀b,G b->w.heap.size<=b/\b<w'.heap.size)/\(∀b,F b->¬G b)/\(∀n∈l,(Ov n).holds F w')/\(eY base 9 (bq l)).holds G w')
theorem abu{n:ai}(h:n.ok w)(ha:gY (dw st n).pl k)(hk:k<=1000000):(dw st n).ok w:=by
 have a0:=ha.a0
 have b0:=ha.b0
 have a1:=ha.a1
 have a2:=ha.a2
 have b1:=ha.b1
 have b2:=ha.b2
 refine Wy h ?_ ?_
 ·show i64 (dw st n).pl.a
  unfold i64
  by_cases h12:(dw st n).pl.kind=1\/(dw st n).pl.kind=2
  ·have:=a2 h12;omega
  ·have:=a1 aa aa;omega
 ·show i64 (dw st n).pl.b
  unfold i64
  by_cases h6:(dw st n).pl.kind=6
  ·have:=b1 h6;omega
  ·have:=b2 h6;omega
theorem ZI{cx:Cx}{args:List SV}(s d:List Int)(hf:∀ar w,(callFunc f ar).run cx.P w= .ok (.enter f ar) w)
 (hc:∀ρ w',dY cx.B ρ nx H S w'->Calls cx.P f (SV.d_ ρ args).toArray w' (zS w' s d))
 (h:∀u x:aj,u.xs=s->u.a_->x.xs=d->x.a_->K (.c (fU u x).jS) H (S.and ((ae_ (u,x)).past cx.B.w0.heap.size)) nx):aC cx f args H S nx K:=
 gP hf (λx:aj×aj=>(fU x.1 x.2).jS) ae_ (λx=>x.1.xs=s/\x.1.a_/\x.2.xs=d/\x.2.a_) (λρ w' hw=>(hc ρ w' hw).mono λe w'' he=>by
  obtain⟨u,x,h1,h2,h3,h4,h5,h6,h7,h8⟩:=he
  exact⟨(u,x),⟨h1,h2,h3,h4⟩,h5,h6,h7,h8⟩) (λx hx=>h x.1 x.2 hx.1 hx.2.1 hx.2.2.1 hx.2.2.2)
theorem abv{o:Nat}{r:Int}{x:List aP×Nat}(hw0:B.w0=w)(hb:∀R w',S.holds R w'->(aH w).holds R w')(hkA:∀R w',S.holds R w'->(KL w.heap.size kept).holds R w')(hi:(i,bU.rows (bq acc) 9 T)∈H)(hfr:From kept acc)(hao:wD acc)(hr:r=0)(hx:x=(acc.map ai.pl,o)):
 jE B (.sI [.agg [.os i acc.length,ak o],ak 0]) H S nx (LH w r x):=by
 subst hw0 hr hx
 refine dz λρ w' hw=> .inr ⟨rfl,?_⟩
 have aob:=aV hw hb
 obtain⟨R,φ,nW⟩:=hw
 have hbase:=hb R w' nW.sJ
 have hkept:=hkA R w' nW.sJ
 obtain⟨h1,h2,h3⟩:=nW.kS _ hi
 simp only at h2 h3
 rw[dB]at h2
 refine⟨acc,(ρ i).base,(ρ i).cap,rfl,hao,h2,rfl,aob,λb=>R b/\B.w0.heap.size<=b,φ i,λb hb=>⟨hb.2,nW.ro b hb.1⟩,λb hb=>⟨?_,bU.size (nW.kS _ hi) hb⟩,λb hb hb'=>nW.apart _ hi b hb' hb.1,λn hn=> ?_,h1,?_⟩
 ·rcases Nat.lt_or_ge b B.w0.heap.size with hl|hl
  ·exact absurd (hbase b hl).1 (nW.apart _ hi b hb)
  ·exact hl
 ·obtain⟨k,hk,e1,e2,e3⟩:=hfr n hn
  have:=hkept k hk
  unfold Ov at this|-
  rw[e1,e2,e3]
  exact this
 ·rcases h3 with⟨g1,g2,_⟩|⟨b,off,c,g1,g2,g3,g4,g5⟩
  ·left
   have:acc.length=0:=by omega
   have:=List.eq_nil_of_length_eq_zero this
   subst this;rfl
  ·refine .inr ⟨b,off,g1,(g2 b).2 rfl,λm r hm j v hj=> ?_⟩
   have:=g5 m r hm j v hj
   rw[<-Nat.add_assoc]
   simpa[World.cell?,g3]using this
theorem afb(w:World)(g:bE)(hg:g.ok w):Calls Tryz.prog 23 #[g.val] w (LH w (bT g).1 (kz (g.l.map ai.pl) (check g).2 g.out.toNat)):=by
 refine fq Tryz.func23 [.agg [.c (.slice g.base g.l.length g.cap),ak g.out]] ?_
 (repeat' ((conv=>whnf)<;>first|refine aZ ?_|refine ag ?_ ?_<;>intro _))
 refine mY (f:=22) (bT g) Tryz.call22 (λρ w' hw=>xq w' g (ae hw λR h=>hg.later h)) (λhne=> ?_) (λhsp qb qc=> ?_)
 ·(repeat' ((conv=>whnf)<;>first|(show @dR _ _ _;refine bA hne ?_)|refine aZ ?_))
  conv=>whnf
  exact dz λρ w' hw=> .inl ⟨hne,rfl,aV hw (λ_ _ h=>h)⟩
 obtain⟨hck,hsl,hsi⟩:=jA hsp
 obtain⟨hl1,xn,hout,hcl,hin⟩:=gX hck
 have hL:=zQ hsp
 (repeat' ((conv=>whnf)<;>first|refine aZ ?_|refine ag ?_ ?_<;>intro _))
 refine Wp.loop (σ:=Nat×List ai×List Nat) 5 (λ⟨i,kept,st⟩=>[(6,.lp 2 0 0 0),(1,.lp 0 0 0 0),(2,.lp 1 0 0 0),(28,.c (.slice g.base g.l.length g.cap)),(29,ak g.l.length),(30,ak i)])
  (λ⟨i,kept,st⟩=>[(4,.rows (ints (p_ st)) 1 3),(3,.rows (bq kept) 9 41),(2,.box [.os 3 kept.length,ak 0,.os 4 st.length] 108),(1,.box [.c (.slice none 0 0),ak 0] 24),(0,.box [.c (.slice g.base g.l.length g.cap),ak g.out] 24)])
  (λ⟨_,kept,_⟩=>(aH w).and (KL w.heap.size kept))
  (λ⟨i,kept,st⟩=>i<=g.l.length/\wD kept/\tq (g.l.map ai.pl) (check g).2 (bT g).2 i (kept.map ai.pl) st) (λs=>g.l.length-s.1) (0,[],[]) [(3,none),(4,none)] aS (λs=>⟨rfl,rfl⟩)
  ⟨Nat.zero_le _,λn hn=>by simp at hn,yF _ _ _⟩ ⟨rfl,aU,⟨rfl,rfl,aQ,aQ,aQ,trivial⟩,λR w' h=>⟨h.1,aav _ R w'⟩⟩ ?_
 rintro⟨i,kept,st⟩ ⟨hi,hko,hT⟩
 by_cases hlt:i<g.l.length
 ·obtain⟨a,ha⟩:∃a,g.base=some a:=aI (j:=i) hg.rows Db
  have hrow:=bQ hlt
  have hnm:=List.getElem_mem hlt
  have Vy:(g.l.map ai.pl)[i]? =some g.l[i].pl:=by rw[List.getElem?_map,List.getElem?_eq_getElem hlt];rfl
  generalize g.l[i]=n at*
  have hno:=hg.each n hnm
  have hns:=hg.small n hnm
  have VK:=hL.ahead Vy
  have FL:=hT.len
  have hkl:=hT.few
  rw[List.length_map]at hkl
  obtain⟨dX,fJ,hR,hS⟩:=hT.ok
  have afc:(g.l.map ai.pl)[st.length]? =some n.pl:=by rw[FL];exact Vy
  obtain⟨hm,ht⟩:=Kz hL hR hS afc
  have Ti:=(hL.span _ _ afc).2
  have hT':=hT.step hL Vy
  rw[<-FL]at VK
  rw[FL]at hm ht Ti
  have hpl:(dw st n).pl=bG st n.pl:=Fa st n
  rw[<-hpl]at hm ht
  have ai2:=lC hm.form
  rw[hR.wz,List.length_map]at ai2
  have hmo:∀w',n.ok w'->(dw st n).ok w':=λw' h=>abu h ai2 aa
  have hms:(dw st n).small:=⟨hns.data,hns.aG⟩
  have hb1: -1048576<=(jB (dw st n).pl (gD (check g).2 i) dX fJ).1:=by unfold tight at ht;omega
  have hb2:(jB (dw st n).pl (gD (check g).2 i) dX fJ).2<=1048576:=by unfold tight at ht;omega
  have Zy:j3 (gD (check g).2 i) (kept.map ai.pl) (bG st n.pl)=j3 (gD (check g).2 i) (kept.map ai.pl) (dw st n).pl:=by rw[hpl]
  (repeat' ((conv=>whnf)<;>first|(show bC ..;refine ax a i ha rfl hlt ?_)|(show iM ..;(refine dO (λR w' h=>by rw[<-ha];exact au h.1 hg.rows) _ hrow rfl ?_))|refine aZ ?_|refine ag ?_ ?_<;>intro _))
  refine Wp.rounds 3 ?_
  by_cases hk:gM (kept.map ai.pl) (dw st n).pl=true
  ·have hstep:pI (gD (check g).2 i) (kept.map ai.pl,st) n.pl=((Cu (kept.map ai.pl) ⟨2,0,0,gD (check g).2 i,0,0,0,kI (gD (check g).2 i) (kept.map ai.pl) (dw st n).pl,[]⟩).1,st++[(Cu (kept.map ai.pl) ⟨2,0,0,gD (check g).2 i,0,0,0,kI (gD (check g).2 i) (kept.map ai.pl) (dw st n).pl,[]⟩).2]):=by
    unfold pI;simp only;rw[Zy,j3,if_pos hk]
   rw[hstep]at hT'
   unfold Cu at hT'
   have hKn:=zR hR hm hk
   have aoc:=(Tg hR hm hKn).2
   have aqa:=(dL (gD (check g).2 i)).2
   have Ca:∀w' b nb nc sb sc,m_ w' b nb nc kept sb sc (p_ st)->(∀k∈kept,k.ok w'/\k.small)->n.ok w'->Calls Tryz.prog 55 #[.pointer (some ⟨b,0,none⟩),(dw st n).jS] w' (zS w' (gD (check g).2 i) (kI (gD (check g).2 i) (kept.map ai.pl) (dw st n).pl)):=λw' b nb nc sb sc g1 g2 g3=>by
    by_cases h6:(dw st n).kind=6
    ·exact WA g1 g2 hR _ (hmo w' g3) hms hm hk hb1 hb2 h6
    ·exact Wz g1 g2 hR _ (hmo w' g3) hms hm hk hb1 hb2 h6
   cases hf:j4 (kept.map ai.pl) ⟨2,0,0,gD (check g).2 i,0,0,0,kI (gD (check g).2 i) (kept.map ai.pl) (dw st n).pl,[]⟩with
   |some k=>
    rw[hf]at hT'
    (repeat' ((conv=>whnf)<;>first|refine X7 ?_|(refine aha ?_;intro u x r1 r2 r3 r4)|(show aC _ 56 ..;(refine Ow (m:=fU u x) (λR w' h=>U6 r2 r4 h.2) (λR w' h y hy=>(C_ hko h.1.2 y hy).1) aa aa (by rw[xP r1 r3];exact hf) (λe8 e7=> ?_)))|refine aZ ?_|refine ag ?_ ?_<;>intro _))
    all_goals(conv=>whnf)
    all_goals exact⟨(i+1,kept,st++[k]),[(4,some 9),(3,some 3)],⟨hlt,hko,hT'⟩,by simp only;omega,rfl,aU,aU,λR w' h=>h.1⟩
   |none=>
    rw[hf]at hT'
    (repeat' ((conv=>whnf)<;>first|refine X7 ?_|(refine aha ?_;intro u x r1 r2 r3 r4)|(show aC _ 56 ..;(refine Y7 (m:=fU u x) (λR w' h=>U6 r2 r4 h.2) (λR w' h y hy=>(C_ hko h.1.2 y hy).1) aa aa (by rw[xP r1 r3];exact hf) (λe10 e8 e7 u1 u2 u3 q1 q2 q3 q4 q5 q6=> ?_)))|refine aZ ?_|refine ag ?_ ?_<;>intro _))
    all_goals(conv=>whnf)
    all_goals exact⟨(i+1,kept++[wE (fU u x) u1 u2 u3],st++[kept.length]),[(4,some 11),(3,some 9)],⟨hlt,Gu hko (Ar r2 r4) ⟨by show x.xs.length<=5000;rw[r3,aoc];omega,Nat.zero_le _⟩ q2 q3 q4 q5 q6,by rw[Zx q1 q3 q5,xP r1 r3];rw[List.length_map]at hT';exact hT'⟩,by simp only;omega,rfl,aU,aU,λR w' h=>⟨h.1.1.1.1.1,KM h.1.1.1.1.2 ⟨h.1.1.2,h.1.2,h.2⟩⟩⟩
  ·have hstep:pI (gD (check g).2 i) (kept.map ai.pl,st) n.pl=((Cu (kept.map ai.pl) (dw st n).pl).1,st++[(Cu (kept.map ai.pl) (dw st n).pl).2]):=by
    unfold pI;simp only;rw[Zy,j3,if_neg hk]
   rw[hstep]at hT'
   unfold Cu at hT'
   cases hf:j4 (kept.map ai.pl) (dw st n).pl with
   |some k=>
    rw[hf]at hT'
    (repeat' ((conv=>whnf)<;>first|refine X7 ?_|refine ahb ?_|(show aC _ 56 ..;refine Ow (m:=dw st n) (λR w' h=>hmo w' (hno.later h.1)) (λR w' h x hx=>(C_ hko h.2 x hx).1) aa aa hf (λe8 e7=> ?_))|refine aZ ?_|refine ag ?_ ?_<;>intro _))
    all_goals(conv=>whnf)
    all_goals exact⟨(i+1,kept,st++[k]),[(4,some 9),(3,some 3)],⟨hlt,hko,hT'⟩,by simp only;omega,rfl,aU,aU,λR w' h=>h⟩
   |none=>
    rw[hf]at hT'
    have aod:(dw st n).iI:=(hmo w hno).iI
    (repeat' ((conv=>whnf)<;>first|refine X7 ?_|refine ahb ?_|(show aC _ 56 ..;refine Y7 (m:=dw st n) (λR w' h=>hmo w' (hno.later h.1)) (λR w' h x hx=>(C_ hko h.2 x hx).1) aa aa hf (λe10 e8 e7 u1 u2 u3 q1 q2 q3 q4 q5 q6=> ?_))|refine aZ ?_|refine ag ?_ ?_<;>intro _))
    all_goals(conv=>whnf)
    all_goals exact⟨(i+1,kept++[wE (dw st n) u1 u2 u3],st++[kept.length]),[(4,some 11),(3,some 9)],⟨hlt,Gu hko aod hms q2 q3 q4 q5 q6,by rw[Zx q1 q3 q5];rw[List.length_map]at hT';exact hT'⟩,by simp only;omega,rfl,aU,aU,λR w' h=>⟨h.1.1.1.1,KM h.1.1.1.2 ⟨h.1.1.2,h.1.2,h.2⟩⟩⟩
 ·obtain rfl:i=g.l.length:=by omega
  have hdone:pJ (g.l.map ai.pl) (check g).2 ([],[])=(kept.map ai.pl,st):=by
   have e:(g.l.map ai.pl).length=g.l.length:=List.length_map _
   rw[<-e]at hT
   exact hT.done
  have FL:=hT.len
  have hkl:=hT.few
  rw[List.length_map]at hkl
  obtain⟨dX,fJ,hR,hS⟩:=hT.ok
  have hoL:g.out.toNat<st.length:=by omega
  have hoK:st.getD g.out.toNat 0<kept.length:=by have:=hS.lt _ hoL;rwa[hR.wz,List.length_map]at this
  have hx:kz (g.l.map ai.pl) (check g).2 g.out.toNat=((oP (mi (kept.map ai.pl) (st.getD g.out.toNat 0)) (kept.map ai.pl) 0 ([],[])).1,(oP (mi (kept.map ai.pl) (st.getD g.out.toNat 0)) (kept.map ai.pl) 0 ([],[])).2.getD (st.getD g.out.toNat 0) 0):=by unfold kz;rw[hdone]
  rw[hx]
  have hoR:(ints (p_ st))[g.out.toNat]? =some [.int .i64 (st.getD g.out.toNat 0)]:=p8 hoL
  generalize st.getD g.out.toNat 0=out at*
  (repeat' ((conv=>whnf)<;>first|(show yh ..;refine XC (λr=> ?_))|(show bV ..;(refine aT g.out.toNat aa hoL acI ?_))|(show kC ..;refine row_of _ _ hoR rfl ?_)|(show aC _ 57 ..;(refine DW aQ Tryz.call57 (λ_=> .tuple #[]) t_ (ng (kept.map ai.pl) out (λ_=>false)) (λρ w' hw hm'=>by obtain⟨b,e,hd⟩:=zk hw aQ aQ aQ;exact XD e (KI hR (out+1) out (Nat.lt_succ_self _) hoK w' _ hd hm')) (λs hs=> ?_)))|(show kv ..;(refine g_ kept.length rfl rfl xY aa ?_))|refine aZ ?_|refine ag ?_ ?_<;>intro _))
  have aof:out<(kept.map ai.pl).length:=by rw[List.length_map];exact hoK
  obtain rfl:=adM hR.CG aof hs
  generalize rZ:mi (kept.map ai.pl) out=need at*
  generalize hfin:oP need (kept.map ai.pl) 0 ([],[])=fin at*
  refine Wp.loop (σ:=Nat×List ai×List Nat) 9 (λ⟨j,acc,p⟩=>[(13,.lp 7 0 0 0),(11,.c (.map (some r))),(12,ak out),(2,.lp 1 0 0 0),(78,.os 3 kept.length),(79,ak kept.length),(80,ak j)])
   (λ⟨j,acc,p⟩=>[(8,.rows (bq acc) 9 41),(7,.box [.os 8 acc.length,ak 0,.os 6 kept.length] 108),(6,.rows (ints (p_ (dZ kept.length p))) 1 3),(5,.ext (lg r (t_ need))),(3,.rows (bq kept) 9 41),(1,.box [.c (.slice none 0 0),ak 0] 24)])
   (λ_=>(aH w).and (KL w.heap.size kept))
   (λ⟨j,acc,p⟩=>j<=kept.length/\p.length=j/\acc.length<=j/\wD acc/\From kept acc/\oP need ((kept.map ai.pl).drop j) j (acc.map ai.pl,p)=fin/\∀k,p.getD k 0<=1000000) (λs=>kept.length-s.1) (0,[],[]) [(8,none)] aS (λs=>⟨rfl,rfl⟩)
   ⟨Nat.zero_le _,rfl,Nat.zero_le _,λn hn=>by simp at hn,λn hn=>by simp at hn,hfin,λk=>Nat.zero_le _⟩ ⟨rfl,aU,⟨rfl,aQ,?_,aQ,aQ,aQ,trivial⟩,λR w' h=>h⟩ ?_
  ·show(6,bU.rows (ints (p_ (dZ kept.length []))) 1 3)∈_
   rw[Gw]
   exact aQ
  rintro⟨j,acc,p⟩ ⟨hj,hpl,hal,hao,hfr,hcut,LW⟩
  have hgl:(ints (p_ (dZ kept.length p))).length=kept.length:=by rw[mO,uw aa]
  by_cases hlt:j<kept.length
  ·have hrow:=bQ hlt
   have hxm:=List.getElem_mem hlt
   have hjr:j<(kept.map ai.pl).length:=by rw[List.length_map];exact hlt
   have PK:(kept.map ai.pl)[j]=kept[j].pl:=by simp
   have hxa:=hR.ahead (List.getElem?_eq_getElem hjr)
   rw[List.drop_eq_getElem_cons hjr]at hcut
   rw[PK]at hxa hcut
   generalize kept[j]=x at*
   have hxo:=hko x hxm
   have hkx:x.pl.kind=x.kind:=rfl
   rw[FJ,hkx]at hcut
   have hq:(dZ kept.length (p++[acc.length])).length=kept.length:=uw af1
   have hxq:gY x.pl (dZ kept.length (p++[acc.length])).length:=by rw[hq];exact hxa.mono aa
   have hxv:(dw (dZ kept.length (p++[acc.length])) x).pl=bG p x.pl:=by
    rw[Fa,Gv (by rw[List.length_append,List.length_singleton,hpl];exact hxa.mono aa),CX (by rw[hpl];exact hxa)]
   by_cases hin:need j=true\/x.kind=1
   ·rw[if_pos hin]at hcut
    have hkeep:wD (acc++[dw (dZ kept.length (p++[acc.length])) x]):=abt hao (Gx hxo.1 (U7 (uy LW aa))) ⟨hxo.2.data,hxo.2.aG⟩
    have BZ:oP need ((kept.map ai.pl).drop (j+1)) (j+1) ((acc++[dw (dZ kept.length (p++[acc.length])) x]).map ai.pl,p++[acc.length])=fin:=by
     rw[List.map_append,List.map_cons,List.map_nil,hxv]
     simp only[List.length_map]at hcut
     exact hcut
    cases hsb:need j with
    |true=>
     (repeat' ((conv=>whnf)<;>first|refine ab6 ?_|refine ab7 ?_|(show rP ..;refine o7 _ _ hrow rfl rfl ?_)|(show bS ..;refine vJ hpl hlt ?_)|refine ab8 ?_|refine ab9 ?_|refine ab_ ?_|refine acd ?_|refine ace ?_|refine acf ?_|(show cO _ 23 ..;refine mE [12] _ YM ?_)|refine aZ ?_|refine ag ?_ ?_<;>intro _))
     all_goals(conv=>whnf)
     all_goals exact⟨(j+1,acc++[dw (dZ kept.length (p++[acc.length])) x],p++[acc.length]),[(8,some 11)],⟨hlt,by rw[List.length_append,List.length_singleton,hpl],by rw[List.length_append,List.length_singleton];omega,hkeep,FK hfr hxm,BZ,uy LW aa⟩,by simp only;omega,rfl,aU,aU,λR w' h=>h⟩
    |false=>
     have hk1:x.kind=1:=by rw[hsb]at hin;simpa using hin
     (repeat' ((conv=>whnf)<;>first|refine ab6 ?_|refine ab7 ?_|(show rP ..;refine o7 _ _ hrow rfl rfl ?_)|(show bS ..;refine vJ hpl hlt ?_)|refine ab8 ?_|refine ab9 ?_|refine ab_ ?_|refine acd ?_|refine ace ?_|refine acf ?_|(show cO _ 23 ..;refine mE [12] _ YM ?_)|refine aZ ?_|refine ag ?_ ?_<;>intro _))
     all_goals(conv=>whnf)
     all_goals exact⟨(j+1,acc++[dw (dZ kept.length (p++[acc.length])) x],p++[acc.length]),[(8,some 11)],⟨hlt,by rw[List.length_append,List.length_singleton,hpl],by rw[List.length_append,List.length_singleton];omega,hkeep,FK hfr hxm,BZ,uy LW aa⟩,by simp only;omega,rfl,aU,aU,λR w' h=>h⟩
   ·rw[if_neg hin]at hcut
    have hsb:need j=false:=by simpa usingλh=>hin (.inl h)
    have hk1:¬x.kind=1:=λh=>hin (.inr h)
    (repeat' ((conv=>whnf)<;>first|refine ab6 ?_|refine ab7 ?_|(show rP ..;refine o7 _ _ hrow rfl rfl ?_)|(show bS ..;refine vJ hpl hlt ?_)|refine ab8 ?_|refine ab9 ?_|refine ab_ ?_|refine acd ?_|refine ace ?_|refine acf ?_|(show cO _ 23 ..;refine mE [12] _ YM ?_)|refine aZ ?_|refine ag ?_ ?_<;>intro _))
    all_goals(conv=>whnf)
    all_goals exact⟨(j+1,acc,p++[0]),[(8,some 8)],⟨hlt,by rw[List.length_append,List.length_singleton,hpl],by omega,hao,hfr,hcut,uy LW (Nat.zero_le _)⟩,by simp only;omega,rfl,aU,⟨aQ,aQ,LG aa aQ,aQ,aQ,aQ,trivial⟩,λR w' h=>h⟩
  ·obtain rfl:j=kept.length:=by omega
   rw[List.drop_of_length_le acE]at hcut
   have hcut:(acc.map ai.pl,p)=fin:=hcut
   subst hcut
   have hgp:dZ kept.length p=p:=by unfold dZ;rw[hpl,Nat.sub_self];simp
   have hop:(ints (p_ (dZ kept.length p)))[out]? =some [.int .i64 (p.getD out 0)]:=by rw[hgp];exact p8 aa
   (repeat' ((conv=>whnf)<;>first|(show bV ..;refine aT out rfl hoK (Nat.le_of_eq hgl.symm) ?_)|(show kC ..;refine row_of _ _ hop rfl ?_)|refine aZ ?_|refine ag ?_ ?_<;>intro _))
   all_goals(conv=>whnf)
   all_goals exact abv rfl (λR w' h=>h.1) (λR w' h=>h.2) aQ hfr hao hsp rfl
end
section
variable {H:Heap} {S:bJ} {nx k:Nat} {l:List Bool}
def Bl(w:World)(n:ai)(e:Ending)(w':World):Prop:=∃u:aj,(u.xs=bZ n.pl/\u.a_)/\e= .returned u.val/\Ext w w'/\(bn u).holds (λb=>w.heap.size<=b/\b<w'.heap.size) w'
theorem O9{B:Base}{i m:Nat}{w:World}{n:ai}{l:List Int}{R:List (List Value)}(hb:∀R w',S.holds R w'->(aH B.w0).holds R w')(hw0:B.w0=w)(he:(i,bU.rows R 1 3)∈H)(hR:R=ints l)(hm:m=l.length)(hf:∀x∈l,i64 x)(hl:l.length<=1000000)(hx:bZ n.pl=l):jE B (.os i m) H S nx (Bl w n):=by
 subst hw0 hm hR
 refine dz λρ w' hw=> ?_
 have hn:=dF hw hb he
 rw[aF]at hn
 obtain⟨u,e1,e2,e3,e4⟩:=tX hn hf hl
 exact⟨u,⟨e2.trans hx.symm,e3⟩,by rw[e1],aV hw hb,e4⟩
theorem qR(w:World)(n:ai)(ha:i64 n.a)(hb:i64 n.b):Calls Tryz.prog 75 #[n.jS] w (Bl w n):=by
 by_cases h12:n.kind=1\/n.kind=2
 ·have ht:bZ n.pl=[]:=by unfold bZ;rw[if_pos (show n.pl.kind=1\/n.pl.kind=2 from h12)]
  refine fq Tryz.func75 [.agg (jM n)] ?_
  (repeat' ((conv=>whnf)<;>first|refine aN ?_|refine ag ?_ ?_<;>intro _))
  all_goals(conv=>whnf)
  all_goals exact dz λρ w' hw=>⟨fI,⟨ht.symm,λx hx=>by simp[fI]at hx,Nat.le_refl _,Nat.zero_le _⟩,rfl,aV hw (λ_ _ h=>h),⟨λr hr=>by simp[fI,ints]at hr,.inl rfl⟩⟩
 ·by_cases h6:n.kind=6
  ·have ht:bZ n.pl=[n.a,n.b]:=by unfold bZ;rw[if_neg (show¬(n.pl.kind=1\/n.pl.kind=2)from h12),if_pos (show n.pl.kind=6 from h6)];rfl
   refine fq Tryz.func75 [.agg (jM n)] ?_
   (repeat' ((conv=>whnf)<;>first|refine aN ?_|refine ag ?_ ?_<;>intro _))
   all_goals(conv=>whnf)
   all_goals exact O9 (l:=[n.a,n.b]) (λ_ _ h=>h) rfl aQ rfl rfl (λx hx=>by
    simp only[List.mem_cons,List.not_mem_nil,or_false]at hx
    rcases hx with rfl|rfl
    ·exact ha
    ·exact hb) (show 2<=1000000 by decide) ht
  ·have ht:bZ n.pl=[n.a]:=by unfold bZ;rw[if_neg (show¬(n.pl.kind=1\/n.pl.kind=2)from h12),if_neg (show¬n.pl.kind=6 from h6)];rfl
   refine fq Tryz.func75 [.agg (jM n)] ?_
   (repeat' ((conv=>whnf)<;>first|refine aN ?_|refine ag ?_ ?_<;>intro _))
   all_goals(conv=>whnf)
   all_goals exact O9 (l:=[n.a]) (λ_ _ h=>h) rfl aQ rfl rfl (λx hx=>by
    rw[List.mem_singleton.1 hx]
    exact ha) (show 1<=1000000 by decide) ht
theorem LX{cx:Cx}{f:FuncId}{args:List SV}{K:SV->Heap->bJ->Nat->Prop}(n:ai)(hf:∀ar w,(callFunc f ar).run cx.P w= .ok (.enter f ar) w)
 (hc:∀ρ w',dY cx.B ρ nx H S w'->Calls cx.P f (SV.d_ ρ args).toArray w' (Bl w' n))
 (h:∀u:aj,u.xs=bZ n.pl->u.a_->K (.c u.val) H (S.and ((bn u).past cx.B.w0.heap.size)) nx):aC cx f args H S nx K:=
 gP hf aj.val bn (λu=>u.xs=bZ n.pl/\u.a_) hc (λu hu=>h u hu.1 hu.2)
def vw(l:List Bool):List (List Value):=l.map λb=>[.bool b]
theorem uz(l:List Bool):(vw l).length=l.length:=by simp[vw]
theorem Ev{b:Bool}(h:k<l.length)(hb:l.getD k false=b):(vw l)[k]? =some [.bool b]:=by
 subst hb
 unfold vw
 rw[List.getElem?_map,List.getElem?_eq_getElem h,List.getD_eq_getElem?_getD,List.getElem?_eq_getElem h];rfl
theorem Gy{K:List (List Value)->Prop}(hk:k<l.length)(h:K (vw (l.set k true))):bS (vw l) k 0 [.bool true] K:=by
 refine iV _ (Ev hk rfl) Ja ?_
 have e:(vw l).set k (bR [.bool (l.getD k false)] 0 [.bool true])=vw (l.set k true):=by
  have e2:bR [Value.bool (l.getD k false)] 0 [.bool true]=[Value.bool true]:=rfl
  rw[e2]
  unfold vw
  rw[List.map_set]
 rw[e];exact h
end
section
variable {H:Heap} {S:bJ} {nx:Nat}
def Rf(w:World)(l:List ai)(x:List aP×List Nat)(out:Nat)(e:Ending)(w':World):Prop:=
 ∃(l':List ai) (base:Option Addr) (cap:Nat),l'.map ai.pl=x.1/\From l l'/\(∀n∈l',n.iI)/\l'.length<=l.length/\e= .returned (.agg #[.slice base l'.length cap,.int .i64 (x.2.getD out 0:Nat)])/\Ext w w'/\(eY base 9 (bq l')).holds (λb=>w.heap.size<=b/\b<w'.heap.size) w'
theorem agU{B:Base}{i m:Nat}{w:World}{l l':List ai}{x:List aP×List Nat}{out o:Nat}{T:TypeId}(hb:∀R w',S.holds R w'->(aH B.w0).holds R w')(hw0:B.w0=w)(he:(i,bU.rows (bq l') 9 T)∈H)(hm:m=l'.length)(h1:l'.map ai.pl=x.1)(h2:From l l')(h3:∀n∈l',n.iI)(h4:l'.length<=l.length)(ho:o=x.2.getD out 0):jE B (.agg [.os i m,ak (o:Nat)]) H S nx (Rf w l x out):=by
 subst hw0 hm ho
 refine dz λρ w' hw=> ?_
 have hn:=dF hw hb he
 rw[dB]at hn
 obtain⟨base,cap,e1,hD⟩:=fw hn
 rw[dB]at e1
 refine⟨l',base,cap,h1,h2,h3,h4,?_,aV hw hb,hD⟩
 show Ending.returned (.agg #[(SV.os i l'.length).rf ρ,.int .i64 _])=_
 rw[e1]
theorem o6{cx:Cx}{f:FuncId}{args:List SV}{K:SV->Heap->bJ->Nat->Prop}(n:ai)(k:Nat){ts:List Int}(hk:ts.length=k)(ht:bZ n.pl=ts)(hf:∀ar w,(callFunc f ar).run cx.P w= .ok (.enter f ar) w)
 (hc:∀ρ w',dY cx.B ρ nx H S w'->Calls cx.P f (SV.d_ ρ args).toArray w' (Bl w' n))
 (h:∀u:aj,u.xs=ts->u.xs.length=k->u.a_->K (.c u.val) H (S.and ((bn u).past cx.B.w0.heap.size)) nx):aC cx f args H S nx K:=
 LX n hf hc (λu hu hs=>h u (hu.trans ht) (by rw[hu,ht];exact hk) hs)
theorem afd{p:aP}{k:Nat}(h:gY p k):∀t∈bZ p,0<=t/\t.toNat<k:=by
 intro t ht
 unfold bZ at ht
 split at ht
 ·simp at ht
 ·rename_i h12
  split at ht
  ·rename_i h6
   simp only[List.mem_cons,List.not_mem_nil,or_false]at ht
   rcases ht with rfl|rfl
   ·exact⟨h.a0,h.a1 aa aa⟩
   ·exact⟨h.b0,h.b1 h6⟩
  ·simp only[List.mem_singleton]at ht
   subst ht
   exact⟨h.a0,h.a1 aa aa⟩
theorem abw(p:aP):(bZ p).length<=2:=by
 unfold bZ
 split
 ·simp
 ·split<;>simp
theorem Zz{z y:Int}{K:Int->Prop}(h:K y)(e:z=y)(h1: -9223372036854775808<=y)(h2:y<=9223372036854775807):iw .i64 z K:=by subst e;exact wrap_i64 h1 h2 h
theorem XF(t:Int)(r:List Int)(nd:List Bool):marks (t::r) nd=marks r (nd.set t.toNat true):=rfl
theorem agV(w:World)(rb:Option Addr)(rc:Nat)(l:List ai)(hr:bf w rb 9 (bq l))(hs:∀n∈l,n.iI){dX:List (List Int)}{fJ:List Sp}(hR:dS (l.map ai.pl) dX fJ)(h24:l.length<=24)(out:Nat)(ho:out<l.length):Calls Tryz.prog 78 #[.slice rb l.length rc,.int .i64 out] w (Rf w l (oP (mi (l.map ai.pl) out) (l.map ai.pl) 0 ([],[])) out):=by
 have hlr:(l.map ai.pl).length=l.length:=List.length_map _
 obtain⟨ra,hra⟩:∃a,rb=some a:=aI (j:=out) hr Db
 refine fq Tryz.func78 [.c (.slice rb l.length rc),ak out] ?_
 (repeat' ((conv=>whnf)<;>first|(show kv ..;(refine g_ l.length rfl rfl (by show 1*l.length<=_;omega) aa ?_))|(show jd _ ((_,.rows (List.replicate _ [.bool _]) _ _)::_) _ _ _;refine iG (ys:=vw (List.replicate l.length false)) (m:=l.length) ?_ (by simp[vw]) rfl)|(show bV ..;refine aT out rfl ho (Nat.le_of_eq (by rw[uz,List.length_replicate])) ?_)|(show bS ..;(refine Gy (by rw[List.length_replicate];exact ho) ?_))|refine aN ?_))
 refine Wp.loop (σ:=Nat×List Bool) 2 (λ⟨i,nd⟩=>[(0,.c (.slice rb l.length rc)),(1,ak out),(5,.os 1 l.length),(4,.lp 0 0 0 0),(6,ak ((i:Int)-1))]) (λ⟨i,nd⟩=>[(1,.rows (vw nd) 1 4),(0,.box [.c (.slice none 0 0),ak 0] 24)]) (λ_=>aH w)
  (λ⟨i,nd⟩=>i<=l.length/\nd.length=l.length/\Oo (l.map ai.pl) i nd=Tm (l.map ai.pl) out) (λs=>s.1) (l.length,(List.replicate l.length false).set out true) [] aS (λs=>⟨rfl,rfl⟩)
  ⟨Nat.le_refl _,by simp,by unfold Tm;rw[hlr]⟩ ⟨rfl,aU,aU,λ_ _ h=>h⟩ ?_
 rintro⟨i,nd⟩ ⟨hi,hnl,hsw⟩
 have hbl:=uz nd
 cases i with
 |succ i=>
  have hlt:i<l.length:=by omega
  have hrow:=bQ hlt
  have hnm:=hs _ (List.getElem_mem hlt)
  have hir:i<(l.map ai.pl).length:=by omega
  have Vy:(l.map ai.pl).getD i di=l[i].pl:=zT hlt
  have hna:=hR.ahead (getD_some hir)
  rw[Vy]at hna
  unfold Oo at hsw
  rw[Vy]at hsw
  generalize l[i]=n at*
  have hti:=afd hna
  have htf:=abw n.pl
  cases hb:nd.getD i false with
  |false=>
   rw[if_neg (by rw[hb];decide)]at hsw
   (repeat' ((conv=>whnf)<;>first|(show iw ..;refine Zz (y:=(i:Int)-1) ?_ aa aa aa)|(show bV ..;refine aT i aa hlt aa ?_)|refine acg ?_|refine aN ?_|refine ag ?_ ?_<;>intro _))
   all_goals(conv=>whnf)
   all_goals exact⟨(i,nd),[],⟨by omega,hnl,hsw⟩,Nat.lt_succ_self i,rfl,aU,aU,λ_ _ h=>h⟩
  |true=>
   rw[if_pos hb]at hsw
   (repeat' ((conv=>whnf)<;>first|(show bV ..;refine aT i aa hlt aa ?_)|refine acg ?_|(show bC ..;refine ax ra i hra aa hlt ?_)|refine M5 ?_|(show aC _ 75 ..;refine LX n Tryz.call75 (λρ w' hw=>qR w' n hnm.p9 hnm.nQ) (λu hu fP=> ?_))|refine aN ?_|refine ag ?_ ?_<;>intro _))
   have yf:u.xs.length<=2:=by rw[hu];exact htf
   refine Wp.loop (σ:=Nat×List Bool) 2 (λ⟨j,nd⟩=>[(0,.c (.slice rb l.length rc)),(1,ak out),(5,.os 1 l.length),(4,.lp 0 0 0 0),(6,ak (((i+1:Nat):Int)-1)),(34,.c u.val),(35,ak u.xs.length),(36,ak j)]) (λ⟨j,nd⟩=>[(1,.rows (vw nd) 1 4),(0,.box [.c (.slice none 0 0),ak 0] 24)]) (λ_=>(aH w).and ((bn u).past w.heap.size))
    (λ⟨j,nd2⟩=>j<=u.xs.length/\nd2.length=l.length/\marks (u.xs.drop j) nd2=marks u.xs nd) (λs=>u.xs.length-s.1) (0,nd) [] aS (λs=>⟨rfl,rfl⟩) ⟨Nat.zero_le _,hnl,rfl⟩ ⟨rfl,aU,aU,λ_ _ h=>h⟩ ?_
   rintro⟨j,nd2⟩ ⟨hj,amw,hmk⟩
   have Wq:=uz nd2
   by_cases hlt2:j<u.xs.length
   ·refine Wp.know (p:=∃a,u.base=some a) (λρ w' hw=>ae hw λR h=>aI (j:=j) (aO ((bn u).mono h.2 (λb hb=>hb.1))) (by rw[aF];exact hlt2)) ?_
    rintro⟨ua,jr⟩
    have ht:=hti u.xs[j] (by rw[<-hu];exact List.getElem_mem hlt2)
    have hge:=d9 hlt2
    rw[List.drop_eq_getElem_cons hlt2,XF]at hmk
    generalize u.xs[j]=t at*
    refine Wp.go fA rfl ?_
    (repeat' ((conv=>whnf)<;>first|(show bC ..;refine ax ua j jr rfl hlt2 ?_)|(show fu ..;(refine aW (λR w' h=>by rw[<-jr];exact aO ((bn u).mono h.2 (λb hb=>hb.1))) _ _ hge rfl ?_))|(show bV ..;refine aT t.toNat aa aa aa ?_)|(show bS ..;refine Gy aa ?_)|refine aN ?_|refine ag ?_ ?_<;>intro _))
    all_goals(conv=>whnf)
    all_goals exact⟨(j+1,nd2.set t.toNat true),[],⟨hlt2,by rw[List.length_set];exact amw,hmk⟩,by simp only;omega,rfl,aU,aU,λ_ _ h=>h⟩
   ·rw[List.drop_of_length_le aa]at hmk
    have hmk:nd2=marks u.xs nd:=hmk
    (repeat' ((conv=>whnf)<;>first|(show iw ..;refine Zz (y:=(i:Int)-1) ?_ aa aa aa)|refine aN ?_|refine ag ?_ ?_<;>intro _))
    all_goals(conv=>whnf)
    all_goals exact⟨(i,nd2),[],⟨by omega,amw,by rw[hmk,hu];exact hsw⟩,Nat.lt_succ_self i,rfl,aU,aU,λ_ _ h=>h.1⟩
 |zero=>
  have hsw:nd=Tm (l.map ai.pl) out:=hsw
  (repeat' ((conv=>whnf)<;>first|(show kv ..;(refine g_ l.length rfl rfl (by show 8*l.length<=_;omega) aa ?_))|refine aN ?_|refine ag ?_ ?_<;>intro _))
  have hbl:(vw nd).length=l.length:=by rw[uz];exact hnl
  generalize hfin:oP (mi (l.map ai.pl) out) (l.map ai.pl) 0 ([],[])=fin at*
  have hnd:∀j,mi (l.map ai.pl) out j=nd.getD j false:=λj=>by unfold mi;rw[<-hsw]
  refine Wp.loop (σ:=Nat×List ai×List Nat) 5 (λ⟨j,acc,p⟩=>[(1,ak out),(5,.os 1 l.length),(4,.lp 0 0 0 0),(9,.os 2 l.length),(10,.lp 3 0 0 0),(47,.c (.slice rb l.length rc)),(48,ak l.length),(49,ak j)]) (λ⟨j,acc,p⟩=>[(4,.rows (bq acc) 9 41),(3,.box [.os 4 acc.length,ak 0] 24),(2,.rows (ints (p_ (dZ l.length p))) 1 3),(1,.rows (vw nd) 1 4),(0,.box [.c (.slice none 0 0),ak 0] 24)]) (λ_=>aH w)
   (λ⟨j,acc,p⟩=>j<=l.length/\p.length=j/\acc.length<=j/\(∀n∈acc,n.iI)/\From l acc/\oP (mi (l.map ai.pl) out) ((l.map ai.pl).drop j) j (acc.map ai.pl,p)=fin/\∀k,p.getD k 0<=1000000) (λs=>l.length-s.1) (0,[],[]) [(4,none)] aS (λs=>⟨rfl,rfl⟩)
   ⟨Nat.zero_le _,rfl,Nat.zero_le _,λn hn=>by simp at hn,λn hn=>by simp at hn,hfin,λk=>Nat.zero_le _⟩ ⟨rfl,aU,⟨rfl,aQ,?_,aQ,aQ,trivial⟩,λ_ _ h=>h⟩ ?_
  ·show(2,bU.rows (ints (p_ (dZ l.length []))) 1 3)∈_
   rw[Gw]
   exact aQ
  rintro⟨j,acc,p⟩ ⟨hj,hpl,hal,hao,hfr,hcut,LW⟩
  have hgl:(ints (p_ (dZ l.length p))).length=l.length:=by rw[mO,uw aa]
  have hgN:(dZ l.length p).length=l.length:=uw aa
  by_cases hlt:j<l.length
  ·have hrow:=bQ hlt
   have hxm:=List.getElem_mem hlt
   have hjr:j<(l.map ai.pl).length:=by rw[List.length_map];exact hlt
   have PK:(l.map ai.pl)[j]=l[j].pl:=by simp
   have hxa:=hR.ahead (List.getElem?_eq_getElem hjr)
   rw[List.drop_eq_getElem_cons hjr]at hcut
   rw[PK]at hxa hcut
   generalize l[j]=x at*
   have hxs:=hs x hxm
   have hkx:x.pl.kind=x.kind:=rfl
   rw[FJ,hkx,hnd j]at hcut
   have aog:=hxa.a0
   have amx:=hxa.a1
   have aoh:=hxa.b0
   have amy:=hxa.b1
   rw[hkx]at amx amy
   rw[show x.pl.a=x.a from rfl]at aog amx
   rw[show x.pl.b=x.b from rfl]at aoh amy
   by_cases hin:nd.getD j false=true\/x.kind=1
   ·rw[if_pos hin]at hcut
    have hms:∀n∈acc++[dw (dZ l.length p) x],n.iI:=λn hn=>by
     rcases List.mem_append.1 hn with hn|hn
     ·exact hao n hn
     ·rw[List.mem_singleton.1 hn]
      exact Gx hxs (U7 LW)
    have hmf:From l (acc++[dw (dZ l.length p) x]):=FK hfr hxm
    have BZ:oP (mi (l.map ai.pl) out) ((l.map ai.pl).drop (j+1)) (j+1) ((acc++[dw (dZ l.length p) x]).map ai.pl,p++[acc.length])=fin:=by
     rw[List.map_append,List.map_cons,List.map_nil,Fa,Gv (by rw[hpl];exact hxa)]
     simp only[List.length_map]at hcut
     exact hcut
    have hbb:(nd.getD j false=true)\/(nd.getD j false=false/\x.kind=1):=by
     cases h:nd.getD j false with
     |true=>exact .inl rfl
     |false=>exact .inr ⟨rfl,by rw[h]at hin;simpa using hin⟩
    by_cases h12:x.kind=1\/x.kind=2
    ·have e:dw (dZ l.length p) x=x:=by unfold dw bG;rw[if_pos (show x.pl.kind=1\/x.pl.kind=2 from h12)];rfl
     have ht:bZ x.pl=[]:=by unfold bZ;rw[if_pos (show x.pl.kind=1\/x.pl.kind=2 from h12)]
     rw[e]at hms hmf BZ
     rcases hbb with hb|⟨hb,hk1⟩
     ·(repeat' ((conv=>whnf)<;>first|refine Rz ?_|refine M5 ?_|refine RA ?_|refine X8 ?_|refine X9 ?_|(refine ahc ?_;intro u hu yf fP)|refine ahd ?_|refine X_ ?_|refine Ya ?_|refine aN ?_|refine ag ?_ ?_<;>intro _))
      all_goals(conv=>whnf)
      all_goals exact⟨(j+1,acc++[x],p++[acc.length]),[(4,some 7)],⟨hlt,by rw[List.length_append,List.length_singleton,hpl],by rw[List.length_append,List.length_singleton];omega,hms,hmf,BZ,uy LW aa⟩,by simp only;omega,rfl,aU,aU,λ_ _ h=>h.1⟩
     ·(repeat' ((conv=>whnf)<;>first|refine Rz ?_|refine M5 ?_|refine RA ?_|refine X8 ?_|refine X9 ?_|(refine ahc ?_;intro u hu yf fP)|refine ahd ?_|refine X_ ?_|refine Ya ?_|refine aN ?_|refine ag ?_ ?_<;>intro _))
      all_goals(conv=>whnf)
      all_goals exact⟨(j+1,acc++[x],p++[acc.length]),[(4,some 7)],⟨hlt,by rw[List.length_append,List.length_singleton,hpl],by rw[List.length_append,List.length_singleton];omega,hms,hmf,BZ,uy LW aa⟩,by simp only;omega,rfl,aU,aU,λ_ _ h=>h.1⟩
    ·have hb:nd.getD j false=true:=hbb.resolve_right (λh=>h12 (.inl h.2))
     by_cases h6:x.kind=6
     ·have e:dw (dZ l.length p) x=jI x ((dZ l.length p).getD x.a.toNat 0) ((dZ l.length p).getD x.b.toNat 0):=by unfold dw bG;rw[if_neg (show¬(x.pl.kind=1\/x.pl.kind=2)from h12),if_pos (show x.pl.kind=6 from h6)];rfl
      have ht:bZ x.pl=[x.a,x.b]:=by unfold bZ;rw[if_neg (show¬(x.pl.kind=1\/x.pl.kind=2)from h12),if_pos (show x.pl.kind=6 from h6)];rfl
      rw[e]at hms hmf BZ
      (repeat' ((conv=>whnf)<;>first|refine Rz ?_|refine M5 ?_|refine RA ?_|refine X8 ?_|refine X9 ?_|(show aC _ 75 ..;refine o6 x 2 rfl ht Tryz.call75 (λρ w' hw=>qR w' x hxs.p9 hxs.nQ) (λu hu yf fP=> ?_))|(show jd _ ((_,.rows (List.take acc.length _++_) _ _)::_) _ _ _;refine iG (ys:=bq (acc++[jI x ((dZ l.length p).getD x.a.toNat 0) ((dZ l.length p).getD x.b.toNat 0)])) (m:=(acc++[jI x ((dZ l.length p).getD x.a.toNat 0) ((dZ l.length p).getD x.b.toNat 0)]).length) ?_ (lT acc (jI x ((dZ l.length p).getD x.a.toNat 0) ((dZ l.length p).getD x.b.toNat 0))) ahH)|refine X_ ?_|refine Ya ?_|refine aN ?_|refine ag ?_ ?_<;>intro _))
      all_goals(conv=>whnf)
      all_goals exact⟨(j+1,acc++[jI x ((dZ l.length p).getD x.a.toNat 0) ((dZ l.length p).getD x.b.toNat 0)],p++[acc.length]),[(4,some 7)],⟨hlt,by rw[List.length_append,List.length_singleton,hpl],by rw[List.length_append,List.length_singleton];omega,hms,hmf,BZ,uy LW aa⟩,by simp only;omega,rfl,aU,aU,λ_ _ h=>h.1⟩
     ·have e:dw (dZ l.length p) x=jI x ((dZ l.length p).getD x.a.toNat 0) x.b:=by unfold dw bG;rw[if_neg (show¬(x.pl.kind=1\/x.pl.kind=2)from h12),if_neg (show¬x.pl.kind=6 from h6)];rfl
      have ht:bZ x.pl=[x.a]:=by unfold bZ;rw[if_neg (show¬(x.pl.kind=1\/x.pl.kind=2)from h12),if_neg (show¬x.pl.kind=6 from h6)];rfl
      rw[e]at hms hmf BZ
      (repeat' ((conv=>whnf)<;>first|refine Rz ?_|refine M5 ?_|refine RA ?_|refine X8 ?_|refine X9 ?_|(show aC _ 75 ..;refine o6 x 1 rfl ht Tryz.call75 (λρ w' hw=>qR w' x hxs.p9 hxs.nQ) (λu hu yf fP=> ?_))|(show jd _ ((_,.rows (List.take acc.length _++_) _ _)::_) _ _ _;refine iG (ys:=bq (acc++[jI x ((dZ l.length p).getD x.a.toNat 0) x.b])) (m:=(acc++[jI x ((dZ l.length p).getD x.a.toNat 0) x.b]).length) ?_ (lT acc (jI x ((dZ l.length p).getD x.a.toNat 0) x.b)) ahH)|refine X_ ?_|refine Ya ?_|refine aN ?_|refine ag ?_ ?_<;>intro _))
      all_goals(conv=>whnf)
      all_goals exact⟨(j+1,acc++[jI x ((dZ l.length p).getD x.a.toNat 0) x.b],p++[acc.length]),[(4,some 7)],⟨hlt,by rw[List.length_append,List.length_singleton,hpl],by rw[List.length_append,List.length_singleton];omega,hms,hmf,BZ,uy LW aa⟩,by simp only;omega,rfl,aU,aU,λ_ _ h=>h.1⟩
   ·rw[if_neg hin]at hcut
    have hb:nd.getD j false=false:=by simpa usingλh=>hin (.inl h)
    have hk1:¬x.kind=1:=λh=>hin (.inr h)
    (repeat' ((conv=>whnf)<;>first|refine Rz ?_|refine M5 ?_|refine RA ?_|refine acg ?_|refine aN ?_|refine ag ?_ ?_<;>intro _))
    all_goals(conv=>whnf)
    all_goals exact⟨(j+1,acc,p++[0]),[(4,some 4)],⟨hlt,by rw[List.length_append,List.length_singleton,hpl],by omega,hao,hfr,hcut,uy LW (Nat.zero_le _)⟩,by simp only;omega,rfl,aU,⟨aQ,aQ,LG aa aQ,aQ,aQ,trivial⟩,λ_ _ h=>h⟩
  ·obtain rfl:j=l.length:=by omega
   rw[List.drop_of_length_le aa]at hcut
   have hcut:(acc.map ai.pl,p)=fin:=hcut
   have hgp:dZ l.length p=p:=by unfold dZ;rw[hpl,Nat.sub_self];simp
   have hop:(ints (p_ (dZ l.length p)))[out]? =some [.int .i64 (p.getD out 0)]:=by rw[hgp];exact p8 aa
   (repeat' ((conv=>whnf)<;>first|(show bV ..;refine aT out rfl ho (Nat.le_of_eq hgl.symm) ?_)|(show kC ..;refine row_of _ _ hop rfl ?_)|refine aN ?_|refine ag ?_ ?_<;>intro _))
   all_goals(conv=>whnf)
   all_goals exact agU (o:=p.getD out 0) (λ_ _ h=>h) rfl aQ rfl (by rw[<-hcut]) hfr hao hal (by rw[<-hcut])
end
abbrev aiG:Go.SX.DT:=(eF [0,1,2,3,4,5,106,7,8,9,10,11] .done)
abbrev amz:Go.SX.DT:=(eF [0,1,2,3,4,5,6,7,8,9,10,11,12,13,114,115,116] .done)
abbrev aiH:Go.SX.DT:=(eF [0,1,2,3,4,6,7,8,9,10,105,111,112,13] .done)
theorem pQ{l:List Sp}{k:Nat}(h:k<l.length):(dV l)[k]? =some [.int .i64 (l.getD k (0,0)).1,.int .i64 (l.getD k (0,0)).2]:=by
 rw[yx h,List.getD_eq_getElem?_getD,List.getElem?_eq_getElem h];rfl
theorem afe(w:World)(n:ai)(sh:List (List Int))(s:List Int)(sv:aY)(hs:sv.ok w)(t:aj)(cnt:Nat)(h:eT n sh s t.xs cnt)(hl:dQ n)(hno:n.ok w)(ht:sv.l[n.a.toNat]? =some t)(ha0:0<=n.a)(b2:Option Addr)(c2:Nat)(acc:List Sp)(hacc:bf w b2 2 (dV acc))(hlt:n.a.toNat<acc.length)(hbd:bX (acc.getD n.a.toNat (0,0)).1/\bX (acc.getD n.a.toNat (0,0)).2):Calls Tryz.prog 44 #[n.jS,sv.val,.slice b2 acc.length c2] w λe w'=>e= .returned (jv (je (kZ n cnt (bN n t.xs) (acc.getD n.a.toNat (0,0)))))/\Ext w w':=by
 obtain⟨htl,hte⟩:=List.getElem?_eq_some_iff.1 ht
 have htm:t∈sv.l:=hte▸List.getElem_mem htl
 have hto:=hs.each t htm
 obtain⟨a2,ha2⟩:∃a,b2=some a:=aI (j:=n.a.toNat) hacc acA
 obtain⟨sa,hsa⟩:∃a,sv.base=some a:=aI (j:=n.a.toNat) hs.rows (by rw[aR];exact htl)
 have vK:=pQ hlt
 have aff:(aM sv.l)[n.a.toNat]? =some [t.val]:=by rw[dh htl,hte]
 have hna:n.a=(n.a.toNat:Int):=(Int.toNat_of_nonneg ha0).symm
 have nX:=h.few
 have U8:∀o,o<cnt->∀g:Nat->Int->Int,(∀k,g k 0=0)->lZ g 0 (iH n t.xs o)=zg g (bN n t.xs o):=λo ho g hg=>Zh h hl ho g hg
 have hrl:∀o,o<cnt->(iH n t.xs o).length=(entries t.xs).toNat:=λo ho=>Zu h ho
 have hrb:∀o,∀x∈iH n t.xs o,bX x:=λo=>ae4 h hl o
 obtain⟨nd,nb,_,_,_⟩:=rT h.node.near
 have hsz:=(dL t.xs).2
 have akd:∀w',n.ok w'->t.ok w'->Calls Tryz.prog 91 #[n.jS,t.val] w' (uk w' n t.xs cnt):=λw' h1 h2=>QV w' n sh s t cnt h hl h1 h2
 have hpos:1<=(entries t.xs).toNat:=by have:=(h.first hl).2;omega
 have hkind:n.kind=3\/n.kind=4\/n.kind=5:=hl
 have afg:(∀o,o<cnt->(bN n t.xs o).length<=64)/\∀o,o<cnt->∀s∈bN n t.xs o,bX s.1:=by
  obtain⟨F,P0,hL⟩:=h.lin hl
  exact⟨(hL.terms w hto hno).few,(hL.terms w hto hno).bd⟩
 generalize acc.getD n.a.toNat (0,0)=a at*
 obtain⟨ha1,hah⟩:=hbd
 clear hl
 have Bz:∀w',Calls Tryz.prog 90 #[.int .i64 n.kind] w' λe w''=>e= .returned (.bool true)/\Ext w' w'':=λw'=>by
  have:=CV w' n.kind
  rw[decide_eq_true hkind]at this
  exact this
 refine fq Tryz.func44 [.agg (jM n),.c sv.val,.c (.slice b2 acc.length c2)] ?_
 (repeat' ((conv=>whnf)<;>first|(show aC _ 90 ..;refine aJ (f:=90) Tryz.call90 (.bool true) (λρ w' hw=>Bz w') ?_)|(show bC ..;(first|refine ax a2 n.a.toNat ha2 hna hlt ?_|refine ax sa n.a.toNat hsa hna htl ?_))|(show iM ..;(refine dO (λR w' h=>by rw[<-ha2];exact au h hacc) _ vK rfl ?_))|(show fu ..;(refine aW (λR w' h=>by rw[<-hsa];exact au h hs.rows) _ _ aff rfl ?_))|(show aC _ 91 ..;refine LD (f:=91) n t.xs cnt Tryz.call91 (λρ w' hw=>akd w' (ae hw λR h=>hno.later h) (ae hw λR h=>hto.later h)) (λx hx=> ?_))|(show cO _ 8 ..;refine mE [] _ aiG ?_)|refine aZ ?_|refine ag ?_ ?_<;>intro _))
 all_goals(conv=>whnf)
 have hxc:=hx.count
 refine Wp.know (p:=∃a,x.rows.base=some a) (λρ w' hw=>ae hw λR h=>aI (j:=0) (aO h.2.1) Pq) ?_
 rintro⟨xa,hxa⟩
 refine Wp.know (p:=∃a,x.aG.base=some a) (λρ w' hw=>ae hw λR h=>(hx.Rb (w:=w) (hno.later h.1) h.2).base (by rw[hx.aG];simp[uj];omega)) ?_
 rintro⟨ba,hba⟩
 have PK:∀(R:Nat->Prop) w',((aH w).and ((vG x).past w.heap.size)).holds R w'->bf w' (some xa) 1 (aM x.rows.l):=λR w' h=>by rw[<-hxa];exact aO h.2.1
 have hxb:∀(R:Nat->Prop) w',((aH w).and ((vG x).past w.heap.size)).holds R w'->bf w' (some ba) 1 (ints x.aG.xs):=λR w' h=>by rw[<-hba];exact(hx.Rb (w:=w) (hno.later h.1) h.2).rows
 refine Wp.loop (σ:=Nat×Nat) 4 (λ⟨o,m⟩=>[(6,.lp 1 0 0 0),(7,.lp 2 0 0 0),(9,.c x.aG.val),(10,.os 3 m),(56,.c x.rows.val),(57,ak cnt),(58,ak o)]) (λ⟨o,m⟩=>[(3,.rows (ints (mX n cnt o (bN n t.xs) a)) 1 3),(2,.box [ak a.1,ak a.2] 58),(1,.box [ak 0,ak 0] 58)]) (λ_=>(aH w).and ((vG x).past w.heap.size))
  (λ⟨o,m⟩=>o<=cnt/\m=2*o) (λs=>cnt-s.1) (0,0) [(3,none)] aS (λs=>⟨rfl,rfl⟩) ⟨Nat.zero_le _,rfl⟩ ⟨rfl,⟨rfl,rfl,rfl,rfl,rfl,?_,rfl,trivial⟩,⟨rfl,aQ,aQ,trivial⟩,λ_ _ h=>h⟩ ?_
 ·rw[<-hxc];rfl
 rintro⟨o,m⟩ ⟨ho,hm⟩
 have hml:=yC n cnt (bN n t.xs) a o
 by_cases hlo:o<cnt
 ·have hlx:o<x.rows.l.length:=by omega
  obtain⟨_,hu,hbl,hbv⟩:=hx.row hlx
  have hsn:=zP n cnt o (bN n t.xs) a
  have hbd:=IK nb cnt o
  have hrow:=dh hlx
  have wN:=List.getElem_mem hlx
  have yf:=hrl o hlo
  have hub:=hrb o
  have hsu:=U8 o hlo
  generalize x.rows.l[o]=u at*
  rw[<-hu]at yf hub hsu
  refine Wp.know (p:=∃a,u.base=some a) (λρ w' hw=>ae hw λR h=>(hx.Ra (w:=w) (hno.later h.1) h.2 u wN).base aa) ?_
  rintro⟨ua,jr⟩
  have hur:∀(R:Nat->Prop) w',((aH w).and ((vG x).past w.heap.size)).holds R w'->bf w' (some ua) 1 (ints u.xs):=λR w' h=>by rw[<-jr];exact(hx.Ra (w:=w) (hno.later h.1) h.2 u wN).rows
  have amA:u.xs.length<=64:=by omega
  (repeat' ((conv=>whnf)<;>first|(show bC ..;(first|refine ax xa o hxa rfl hlx ?_|refine ax ba o hba rfl aa ?_))|(show fu ..;(first|refine aW PK _ _ hrow rfl ?_|refine ja hxb (j:=o) aa hbv ?_))|refine aZ ?_|refine ag ?_ ?_<;>intro _))
  all_goals(conv=>whnf)
  refine Wp.loop (σ:=Nat×Int×Int) 4 (λ⟨j,lo,hi⟩=>[(6,.lp 1 0 0 0),(7,.lp 2 0 0 0),(9,.c x.aG.val),(10,.os 3 m),(56,.c x.rows.val),(57,ak cnt),(58,ak o),(13,ak lo),(14,ak hi),(71,.c u.val),(72,ak u.xs.length),(73,ak j)]) (λ_=>[(3,.rows (ints (mX n cnt o (bN n t.xs) a)) 1 3),(2,.box [ak a.1,ak a.2] 58),(1,.box [ak 0,ak 0] 58)]) (λ_=>(aH w).and ((vG x).past w.heap.size))
   (λ⟨j,lo,hi⟩=>j<=u.xs.length/\lo=dA n cnt o+lZ (gLo a) 0 (u.xs.take j)/\hi=dA n cnt o+lZ (gHi a) 0 (u.xs.take j)) (λs=>u.xs.length-s.1) (0,dA n cnt o,dA n cnt o) [] aS (λs=>⟨rfl,rfl⟩) ⟨Nat.zero_le _,by simp[lZ],by simp[lZ]⟩ ⟨rfl,aU,aU,λ_ _ h=>h⟩ ?_
  rintro⟨j,lo,hi⟩ ⟨hj,hlv,hhv⟩
  by_cases hjl:j<u.xs.length
  ·have s1:=Fu (gLo a) hjl
   have s2:=Fu (gHi a) hjl
   have hG1:∀k v,v∈u.xs-> -1099511627776<=gLo a k v/\gLo a k v<=1099511627776:=λk v hv=>by
    have q1:=gz (A:=1048576) (B:=1048576) (hub v hv) ha1
    have q2:=gz (A:=1048576) (B:=1048576) (hub v hv) hah
    unfold gLo;omega
   have hG2:∀k v,v∈u.xs-> -1099511627776<=gHi a k v/\gHi a k v<=1099511627776:=λk v hv=>by
    have q1:=gz (A:=1048576) (B:=1048576) (hub v hv) ha1
    have q2:=gz (A:=1048576) (B:=1048576) (hub v hv) hah
    unfold gHi;omega
   have b1:=FI (gLo a) (l:=u.xs) (j:=j) aa hG1
   have b2:=FI (gHi a) (l:=u.xs) (j:=j) aa hG2
   have hv:bX (u.xs.getD j 0):=dJ hub j
   have q1:=gz (A:=1048576) (B:=1048576) hv ha1
   have q2:=gz (A:=1048576) (B:=1048576) hv hah
   have e1:gLo a j (u.xs.getD j 0)=min (u.xs.getD j 0*a.1) (u.xs.getD j 0*a.2):=rfl
   have e2:gHi a j (u.xs.getD j 0)=max (u.xs.getD j 0*a.1) (u.xs.getD j 0*a.2):=rfl
   clear hG1 hG2 hsu hrl U8 hsn
   unfold bX at hbd
   (repeat' ((conv=>whnf)<;>first|(show bC ..;refine ax ua j jr rfl hjl ?_)|(show fu ..;refine bO hur (j:=j) hjl ?_)|refine aZ ?_|refine ag ?_ ?_<;>intro _))
   all_goals(conv=>whnf)
   all_goals exact⟨(j+1,_,_),[],⟨hjl,by rw[s1];omega,by rw[s2];omega⟩,by simp only;omega,rfl,aU,aU,λ_ _ h=>h⟩
  ·have hjz:j=u.xs.length:=Nat.le_antisymm hj (Nat.not_lt.1 hjl)
   subst hjz
   rw[List.take_of_length_le (Nat.le_refl _),hsu _ (aed a),<-T_]at hlv
   rw[List.take_of_length_le (Nat.le_refl _),hsu _ (aee a),<-Ua]at hhv
   (repeat' ((conv=>whnf)<;>first|(show sH ..;(refine fO ahP ?_))|(show fG ..;(refine b_ ahV ?_))|refine aZ ?_|refine ag ?_ ?_<;>intro _))
   all_goals(conv=>whnf)
   exact⟨(o+1,m+2),[(3,some 5)],⟨hlo,by omega⟩,by simp only;omega,rfl,aU,⟨by
    show(5,bU.rows (ints (mX n cnt (o+1) (bN n t.xs) a)) 1 3)∈_
    rw[hsn,<-hlv,<-hhv];exact SY _ _ _ (by rw[hml,hm]),aQ,aQ,trivial⟩,λ_ _ h=>h⟩
 ·have hoz:o=cnt:=Nat.le_antisymm ho (Nat.not_lt.1 hlo)
  subst hoz
  have hfit:∀x∈mX n o o (bN n t.xs) a,i64 x:=λx hx=>by
   obtain⟨q,hq,hx⟩:=List.mem_flatMap.1 hx
   rw[List.mem_range]at hq
   have g:=Kk ⟨ha1,hah⟩ (l:=bN n t.xs q) (s:=dA n o q) (afg.2 q hq)
   have gf:=afg.1 q hq
   have gb:=IK nb o q
   unfold bX at gb
   simp only[List.mem_cons,List.not_mem_nil,or_false]at hx
   unfold i64
   rcases hx with rfl|rfl<;>omega
  have hmL:m=(mX n o o (bN n t.xs) a).length:=by omega
  subst hmL
  refine Wp.yE 3 w.heap.size (k:=1) (xs:=ints (mX n o o (bN n t.xs) a)) (T:=3) aQ (λR w' h b hb=>(h.1 b hb).1) (λl1 hl1=> ?_)
  rw[aF]at hl1
  (repeat' ((conv=>whnf)<;>first|(show aC _ 89 ..;(refine aJ (f:=89) Tryz.call89 (jv (je (mX n o o (bN n t.xs) a))) (λρ w' hw=>xO w' ⟨l1.base,l1.cap,mX n o o (bN n t.xs) a⟩ (ae hw λR h=>⟨aO h.2,hfit,hl1,by simp only;omega⟩) (by simp only;omega)) ?_))|refine aZ ?_|refine ag ?_ ?_<;>intro _))
  all_goals(conv=>whnf)
  all_goals exact bW (λ_ _ h=>h.1.1) (λ_=>rfl) rfl
theorem FM{x y:Int}(h:x<=y):je [x,y]=(x,y):=by
 have e1:foldI min [x,y]=min x y:=rfl
 have e2:foldI max [x,y]=max x y:=rfl
 unfold je
 rw[e1,e2,Int.min_eq_left h,Int.max_eq_right h]
theorem FN{l:List Sp}{k:Nat}(h:k<l.length):l.getD k (0,0)∈l:=by
 rw[List.getD_eq_getElem?_getD,List.getElem?_eq_getElem h];exact List.getElem_mem h
theorem XG(w:World){k:Int}(h:¬(k=3\/k=4\/k=5)):Calls Tryz.prog 90 #[.int .i64 k] w λe w'=>e= .returned (.bool false)/\Ext w w':=by
 have:=CV w k
 rw[decide_eq_false h]at this
 exact this
theorem XH(w:World)(n:ai)(sv:aY)(b2:Option Addr)(c2:Nat)(acc:List Sp)(hk:n.kind=1\/n.kind=2\/n.kind=6\/n.kind=7\/n.kind=9)(hno:n.ok w)(nd:∀x∈n.data.xs,bX x)(nle:n.lo<=n.hi)(h2:n.kind=2->1<=n.data.xs.length)(h7:n.kind=7->n.data.xs.length=1)(ha0:0<=n.a)(hb0:0<=n.b)(hacc:bf w b2 2 (dV acc))(hA:n.kind≠1->n.kind≠2->n.a.toNat<acc.length)(hB:n.kind=6->n.b.toNat<acc.length)(hbd:∀s∈acc,bX s.1/\bX s.2/\s.1<=s.2):Calls Tryz.prog 44 #[n.jS,sv.val,.slice b2 acc.length c2] w λe w'=>e= .returned (jv (je (eH n (acc.getD n.a.toNat (0,0)) (acc.getD n.b.toNat (0,0)))))/\Ext w w':=by
 have Bz:∀w',Calls Tryz.prog 90 #[.int .i64 n.kind] w' λe w''=>e= .returned (.bool false)/\Ext w' w'':=λw'=>XG w' aa
 have hna:n.a=(n.a.toNat:Int):=(Int.toNat_of_nonneg ha0).symm
 have hnb:n.b=(n.b.toNat:Int):=(Int.toNat_of_nonneg hb0).symm
 unfold eH
 rcases hk with hk|hk|hk|hk|hk
 ·rw[if_pos hk,FM nle]
  refine fq Tryz.func44 [.agg (jM n),.c sv.val,.c (.slice b2 acc.length c2)] ?_
  (repeat' ((conv=>whnf)<;>first|refine aZ ?_|refine ag ?_ ?_<;>intro _))
  all_goals(conv=>whnf)
  all_goals exact bW (λ_ _ h=>h) (λ_=>rfl) rfl
 ·rw[if_neg aa,if_pos hk]
  refine fq Tryz.func44 [.agg (jM n),.c sv.val,.c (.slice b2 acc.length c2)] ?_
  (repeat' ((conv=>whnf)<;>first|(show aC _ 89 ..;refine aJ (f:=89) Tryz.call89 (jv (je n.data.xs)) (λρ w' hw=>xO w' n.data (ae hw λR h=>hno.data.later h) (h2 hk)) ?_)|refine aZ ?_|refine ag ?_ ?_<;>intro _))
  all_goals(conv=>whnf)
  all_goals exact bW (λ_ _ h=>h) (λ_=>rfl) rfl
 ·rw[if_neg aa,if_neg aa,if_pos hk]
  have hlt:=hA aa aa
  have ake:=hB hk
  obtain⟨a2,ha2⟩:∃a,b2=some a:=aI (j:=n.a.toNat) hacc acA
  have vK:=pQ hlt
  have I9:=pQ ake
  have hmA:=hbd _ (FN hlt)
  have hmB:=hbd _ (FN ake)
  generalize acc.getD n.a.toNat (0,0)=a at*
  generalize acc.getD n.b.toNat (0,0)=b at*
  obtain⟨p1,p2,p3⟩:=hmA
  obtain⟨q1,q2,q3⟩:=hmB
  rw[FM aa]
  unfold bX at p1 p2 q1 q2
  refine fq Tryz.func44 [.agg (jM n),.c sv.val,.c (.slice b2 acc.length c2)] ?_
  (repeat' ((conv=>whnf)<;>first|refine ach ?_|(show bC ..;(first|refine ax a2 n.a.toNat ha2 hna hlt ?_|refine ax a2 n.b.toNat ha2 hnb ake ?_))|(show iM ..;(first|refine dO (λR w' h=>by rw[<-ha2];exact au h hacc) _ vK rfl ?_|refine dO (λR w' h=>by rw[<-ha2];exact au h hacc) _ I9 rfl ?_))|refine aZ ?_|refine ag ?_ ?_<;>intro _))
  all_goals(conv=>whnf)
  all_goals exact bW (λ_ _ h=>h) (λ_=>rfl) rfl
 ·rw[if_neg aa,if_neg aa,if_neg aa,if_pos hk]
  have hlt:=hA aa aa
  have hd7:=h7 hk
  have hd:=hno.data
  obtain⟨a2,ha2⟩:∃a,b2=some a:=aI (j:=n.a.toNat) hacc acA
  obtain⟨ua,jr⟩:=hd.base aa
  have hur:∀(R:Nat->Prop) w',(aH w).holds R w'->bf w' (some ua) 1 (ints n.data.xs):=λR w' h=>by rw[<-jr];exact au h hd.rows
  have vK:=pQ hlt
  have hmA:=hbd _ (FN hlt)
  generalize acc.getD n.a.toNat (0,0)=a at*
  obtain⟨p1,p2,p3⟩:=hmA
  have g0:=dJ nd 0
  have m1:=gz (A:=1048576) (B:=1048576) g0 p1
  have m2:=gz (A:=1048576) (B:=1048576) g0 p2
  generalize hd0:n.data.xs.getD 0 0=d0 at*
  have hfit:∀x∈[d0*a.1,d0*a.2],i64 x:=λx hx=>by
   simp only[List.mem_cons,List.not_mem_nil,or_false]at hx
   unfold i64
   rcases hx with rfl|rfl<;>omega
  refine fq Tryz.func44 [.agg (jM n),.c sv.val,.c (.slice b2 acc.length c2)] ?_
  (repeat' ((conv=>whnf)<;>first|refine ach ?_|(show bC ..;(first|refine ax a2 n.a.toNat ha2 hna hlt ?_|refine ax ua 0 jr rfl aa ?_))|(show iM ..;(refine dO (λR w' h=>by rw[<-ha2];exact au h hacc) _ vK rfl ?_))|(show fu ..;refine ja hur (j:=0) aa hd0 ?_)|(show jd ..;refine nM (w0:=w) [d0*a.1,d0*a.2] (λR w' h=>h) rfl rfl hfit fC (λu hu fP=> ?_))|(show aC _ 89 ..;(refine aJ (f:=89) Tryz.call89 (jv (je [d0*a.1,d0*a.2])) (λρ w' hw=>hu▸xO w' u (ae hw λR h=>bP fP ((bn u).mono h.2 (λb hb=>hb.1))) (by rw[hu];simp)) ?_))|(show cO _ 28 ..;refine mE [16] _ amz ?_)|refine aZ ?_|refine ag ?_ ?_<;>intro _))
  all_goals(conv=>whnf)
  all_goals exact bW (λ_ _ h=>h.1) (λ_=>rfl) rfl
 ·rw[if_neg aa,if_neg aa,if_neg aa,if_neg aa,if_neg aa]
  have hlt:=hA aa aa
  obtain⟨a2,ha2⟩:∃a,b2=some a:=aI (j:=n.a.toNat) hacc acA
  have vK:=pQ hlt
  have hmA:=hbd _ (FN hlt)
  generalize acc.getD n.a.toNat (0,0)=a at*
  rw[FM hmA.2.2]
  refine fq Tryz.func44 [.agg (jM n),.c sv.val,.c (.slice b2 acc.length c2)] ?_
  (repeat' ((conv=>whnf)<;>first|refine ach ?_|(show bC ..;refine ax a2 n.a.toNat ha2 hna hlt ?_)|(show iM ..;(refine dO (λR w' h=>by rw[<-ha2];exact au h hacc) _ vK rfl ?_))|refine aZ ?_|refine ag ?_ ?_<;>intro _))
  all_goals(conv=>whnf)
  all_goals exact bW (λ_ _ h=>h) (λ_=>rfl) rfl
theorem agW{av:List Int}{r:List Int}{j:Nat}:ME av j (r.getD j 0)=r.getD j 0*av.getD j 0:=rfl
theorem XI(w:World)(n:ai)(sh:List (List Int))(s:List Int)(sv:aY)(hs:sv.ok w)(t:aj)(cnt:Nat)(h:eT n sh s t.xs cnt)(hl:dQ n)(hno:n.ok w)(ht:sv.l[n.a.toNat]? =some t)(ha0:0<=n.a)(kb:Option Addr)(kc:Nat)(kn:List aj)(hkr:bf w kb 1 (aM kn))(a:aj)(hka:kn[n.a.toNat]? =some a)(hao:a.ok w)(hab:∀x∈a.xs,bX x)(hal:(a.xs.length:Int)=entries t.xs):Calls Tryz.prog 76 #[n.jS,sv.val,.slice kb kn.length kc] w (qp w n (gu n cnt cnt (bN n t.xs) a.xs)):=by
 obtain⟨htl,hte⟩:=List.getElem?_eq_some_iff.1 ht
 obtain⟨hkl,hke⟩:=List.getElem?_eq_some_iff.1 hka
 have htm:t∈sv.l:=hte▸List.getElem_mem htl
 have hto:=hs.each t htm
 obtain⟨ka,hkb⟩:∃a,kb=some a:=aI (j:=n.a.toNat) hkr (by rw[aR];exact hkl)
 obtain⟨sa,hsa⟩:∃a,sv.base=some a:=aI (j:=n.a.toNat) hs.rows (by rw[aR];exact htl)
 have afh:(aM kn)[n.a.toNat]? =some [a.val]:=by rw[dh hkl,hke]
 have aff:(aM sv.l)[n.a.toNat]? =some [t.val]:=by rw[dh htl,hte]
 have hna:n.a=(n.a.toNat:Int):=(Int.toNat_of_nonneg ha0).symm
 have nX:=h.few
 have U8:∀o,o<cnt->∀g:Nat->Int->Int,(∀k,g k 0=0)->lZ g 0 (iH n t.xs o)=zg g (bN n t.xs o):=λo ho g hg=>Zh h hl ho g hg
 have hrl:∀o,o<cnt->(iH n t.xs o).length=(entries t.xs).toNat:=λo ho=>Zu h ho
 have hrb:∀o,∀x∈iH n t.xs o,bX x:=λo=>ae4 h hl o
 obtain⟨nd,nb,_,_,_⟩:=rT h.node.near
 have hsz:=(dL t.xs).2
 have akd:∀w',n.ok w'->t.ok w'->Calls Tryz.prog 91 #[n.jS,t.val] w' (uk w' n t.xs cnt):=λw' h1 h2=>QV w' n sh s t cnt h hl h1 h2
 have hpos:1<=(entries t.xs).toNat:=by have:=(h.first hl).2;omega
 have hkind:n.kind=3\/n.kind=4\/n.kind=5:=hl
 have afg:(∀o,o<cnt->(bN n t.xs o).length<=64)/\∀o,o<cnt->∀s∈bN n t.xs o,bX s.1:=by
  obtain⟨F,P0,hL⟩:=h.lin hl
  exact⟨(hL.terms w hto hno).few,(hL.terms w hto hno).bd⟩
 obtain⟨va,hva⟩:=hao.base aa
 have Ye:∀(R:Nat->Prop) w',(aH w).holds R w'->bf w' (some va) 1 (ints a.xs):=λR w' h=>by rw[<-hva];exact au h hao.rows
 clear hl
 have Bz:∀w',Calls Tryz.prog 90 #[.int .i64 n.kind] w' λe w''=>e= .returned (.bool true)/\Ext w' w'':=λw'=>by
  have:=CV w' n.kind
  rw[decide_eq_true hkind]at this
  exact this
 refine fq Tryz.func76 [.agg (jM n),.c sv.val,.c (.slice kb kn.length kc)] ?_
 (repeat' ((conv=>whnf)<;>first|(show aC _ 90 ..;refine aJ (f:=90) Tryz.call90 (.bool true) (λρ w' hw=>Bz w') ?_)|(show bC ..;(first|refine ax ka n.a.toNat hkb hna hkl ?_|refine ax sa n.a.toNat hsa hna htl ?_))|(show fu ..;(first|refine aW (λR w' h=>by rw[<-hkb];exact au h hkr) _ _ afh rfl ?_|refine aW (λR w' h=>by rw[<-hsa];exact au h hs.rows) _ _ aff rfl ?_))|(show aC _ 91 ..;refine LD (f:=91) n t.xs cnt Tryz.call91 (λρ w' hw=>akd w' (ae hw λR h=>hno.later h) (ae hw λR h=>hto.later h)) (λx hx=> ?_))|(show cO _ 7 ..;refine mE [] _ aiG ?_)|refine aZ ?_|refine ag ?_ ?_<;>intro _))
 all_goals(conv=>whnf)
 have hxc:=hx.count
 refine Wp.know (p:=∃a,x.rows.base=some a) (λρ w' hw=>ae hw λR h=>aI (j:=0) (aO h.2.1) Pq) ?_
 rintro⟨xa,hxa⟩
 refine Wp.know (p:=∃a,x.aG.base=some a) (λρ w' hw=>ae hw λR h=>(hx.Rb (w:=w) (hno.later h.1) h.2).base (by rw[hx.aG];simp[uj];omega)) ?_
 rintro⟨ba,hba⟩
 have PK:∀(R:Nat->Prop) w',((aH w).and ((vG x).past w.heap.size)).holds R w'->bf w' (some xa) 1 (aM x.rows.l):=λR w' h=>by rw[<-hxa];exact aO h.2.1
 have hxb:∀(R:Nat->Prop) w',((aH w).and ((vG x).past w.heap.size)).holds R w'->bf w' (some ba) 1 (ints x.aG.xs):=λR w' h=>by rw[<-hba];exact(hx.Rb (w:=w) (hno.later h.1) h.2).rows
 refine Wp.loop (σ:=Nat) 2 (λo=>[(7,.c a.val),(8,.os 1 o),(10,.c x.aG.val),(42,.c x.rows.val),(43,ak cnt),(44,ak o)]) (λo=>[(1,.rows (ints (gu n cnt o (bN n t.xs) a.xs)) 1 3)]) (λ_=>(aH w).and ((vG x).past w.heap.size))
  (λo=>o<=cnt) (λo=>cnt-o) 0 [(1,none)] aS (λs=>⟨rfl,rfl⟩) (Nat.zero_le _) ⟨rfl,⟨rfl,rfl,rfl,rfl,?_,rfl,trivial⟩,⟨rfl,trivial⟩,λ_ _ h=>h⟩ ?_
 ·rw[<-hxc];rfl
 rintro o ho
 have hlen:(gu n cnt o (bN n t.xs) a.xs).length=o:=by simp[gu]
 by_cases hlo:o<cnt
 ·have hlx:o<x.rows.l.length:=by omega
  obtain⟨_,hu,hbl,hbv⟩:=hx.row hlx
  have hsn:gu n cnt (o+1) (bN n t.xs) a.xs=gu n cnt o (bN n t.xs) a.xs++[(bN n t.xs o).foldl (Cr a.xs) (dA n cnt o)]:=by unfold gu;rw[List.range_succ,List.map_append];rfl
  have hbd:=IK nb cnt o
  have hrow:=dh hlx
  have wN:=List.getElem_mem hlx
  have yf:=hrl o hlo
  have hub:=hrb o
  have hsu:=U8 o hlo
  generalize x.rows.l[o]=u at*
  rw[<-hu]at yf hub hsu
  refine Wp.know (p:=∃a,u.base=some a) (λρ w' hw=>ae hw λR h=>(hx.Ra (w:=w) (hno.later h.1) h.2 u wN).base aa) ?_
  rintro⟨ua,jr⟩
  have hur:∀(R:Nat->Prop) w',((aH w).and ((vG x).past w.heap.size)).holds R w'->bf w' (some ua) 1 (ints u.xs):=λR w' h=>by rw[<-jr];exact(hx.Ra (w:=w) (hno.later h.1) h.2 u wN).rows
  have amA:u.xs.length<=64:=by omega
  have aci:u.xs.length=a.xs.length:=by omega
  (repeat' ((conv=>whnf)<;>first|(show bC ..;(first|refine ax xa o hxa rfl hlx ?_|refine ax ba o hba rfl aa ?_))|(show fu ..;(first|refine aW PK _ _ hrow rfl ?_|refine ja hxb (j:=o) aa hbv ?_))|refine aZ ?_|refine ag ?_ ?_<;>intro _))
  all_goals(conv=>whnf)
  refine Wp.loop (σ:=Nat×Int) 2 (λ⟨j,v⟩=>[(7,.c a.val),(8,.os 1 o),(10,.c x.aG.val),(42,.c x.rows.val),(43,ak cnt),(44,ak o),(13,ak v),(53,.c u.val),(54,ak u.xs.length),(55,ak j)]) (λ_=>[(1,.rows (ints (gu n cnt o (bN n t.xs) a.xs)) 1 3)]) (λ_=>(aH w).and ((vG x).past w.heap.size))
   (λ⟨j,v⟩=>j<=u.xs.length/\v=dA n cnt o+lZ (ME a.xs) 0 (u.xs.take j)) (λs=>u.xs.length-s.1) (0,dA n cnt o) [] aS (λs=>⟨rfl,rfl⟩) ⟨Nat.zero_le _,by simp[lZ]⟩ ⟨rfl,aU,⟨aQ,trivial⟩,λ_ _ h=>h⟩ ?_
  rintro⟨j,v⟩ ⟨hj,hvv⟩
  by_cases hjl:j<u.xs.length
  ·have s1:=Fu (ME a.xs) hjl
   have hG1:∀k z,z∈u.xs-> -1099511627776<=ME a.xs k z/\ME a.xs k z<=1099511627776:=λk z hz=>gz (A:=1048576) (B:=1048576) (hub z hz) (dJ hab k)
   have b1:=FI (ME a.xs) (l:=u.xs) (j:=j) aa hG1
   have hv:bX (u.xs.getD j 0):=dJ hub j
   have hv2:bX (a.xs.getD j 0):=dJ hab j
   have q1:=gz (A:=1048576) (B:=1048576) hv hv2
   have e1:=agW (av:=a.xs) (r:=u.xs) (j:=j)
   clear hG1 hsu hrl U8 hsn
   unfold bX at hbd
   (repeat' ((conv=>whnf)<;>first|(show bC ..;(first|refine ax ua j jr rfl hjl ?_|refine ax va j hva rfl aa ?_))|(show fu ..;(first|refine bO hur (j:=j) hjl ?_|refine bO (λR w' h=>Ye R w' h.1) (j:=j) aa ?_))|refine aZ ?_|refine ag ?_ ?_<;>intro _))
   all_goals(conv=>whnf)
   all_goals exact⟨(j+1,_),[],⟨hjl,by rw[s1];omega⟩,by simp only;omega,rfl,aU,⟨aQ,trivial⟩,λ_ _ h=>h⟩
  ·have hjz:j=u.xs.length:=Nat.le_antisymm hj (Nat.not_lt.1 hjl)
   subst hjz
   rw[List.take_of_length_le (Nat.le_refl _),hsu _ (aaM a.xs),<-OM]at hvv
   (repeat' ((conv=>whnf)<;>first|(show sH ..;(refine fO (by rw[aF,hlen];exact Nat.le_refl _) ?_))|(show fG ..;(refine b_ (by show(o+1)*8<=140737488355328;omega) ?_))|refine aZ ?_|refine ag ?_ ?_<;>intro _))
   all_goals(conv=>whnf)
   exact⟨o+1,[(1,some 3)],hlo,by omega,rfl,aU,⟨by
    show(3,bU.rows (ints (gu n cnt (o+1) (bN n t.xs) a.xs)) 1 3)∈_
    rw[hsn,<-hvv];exact oW _ _ hlen.symm,trivial⟩,λ_ _ h=>h⟩
 ·have hoz:o=cnt:=Nat.le_antisymm ho (Nat.not_lt.1 hlo)
  subst hoz
  (repeat' ((conv=>whnf)<;>first|refine aZ ?_|refine ag ?_ ?_<;>intro _))
  all_goals(conv=>whnf)
  refine nK (B:=⟨w,[]⟩) (S:=(aH w).and ((vG x).past w.heap.size)) (λ_ _ h=>h.1) rfl aQ hlen.symm (λz hz=> ?_) aa
  obtain⟨q,hq,rfl⟩:=List.mem_map.1 hz
  rw[List.mem_range]at hq
  have g:=Qc hab (l:=bN n t.xs q) (s:=dA n o q) (afg.2 q hq)
  have gf:=afg.1 q hq
  have gb:=IK nb o q
  unfold bX at gb
  unfold i64
  omega
section
variable {d:List Int} {x:Int}
def Ei(d:List Int)(a:Sp):Nat->List Int
 |0=>[]
 |k+1=>Ei d a k++(if a.1<=iP d+((k:Int)-2)/\iP d+((k:Int)-2)<=a.2 then [eX d (iP d+((k:Int)-2))]else [])
theorem Ej{a:Sp}:∀{m:Nat},x∈Ei d a m↔∃k,k<m/\(a.1<=iP d+((k:Int)-2)/\iP d+((k:Int)-2)<=a.2)/\x=eX d (iP d+((k:Int)-2))
 |0=>by simp[Ei]
 |m+1=>by
  unfold Ei
  rw[List.mem_append,Ej]
  constructor
  ·rintro(⟨k,h1,h2⟩|h)
   ·exact⟨k,by omega,h2⟩
   ·split at h
    ·rename_i hc
     exact⟨m,by omega,hc,by simpa using h⟩
    ·simp at h
  ·rintro⟨k,h1,h2,h3⟩
   rcases Nat.lt_or_ge k m with hk|hk
   ·exact .inl ⟨k,hk,h2,h3⟩
   ·obtain rfl:k=m:=by omega
    right
    rw[if_pos h2,h3]
    simp
theorem U9(d:List Int)(a:Sp):∀m,(Ei d a m).length<=m
 |0=>by simp[Ei]
 |m+1=>by
  have:=U9 d a m
  unfold Ei
  rw[List.length_append]
  split<;>simp<;>omega
def wo(d:List Int)(a:Sp):List Int:=[eX d a.1,eX d a.2]++Ei d a 5
theorem ZA{a:Sp}(hz:d.getD 2 0≠0)(h:x∈jb d a):x∈wo d a:=by
 unfold jb at h
 rw[if_neg hz]at h
 unfold wo
 rcases List.mem_append.1 h with h|h
 ·exact List.mem_append_left _ h
 ·refine List.mem_append_right _ (Ej.2 ?_)
  obtain⟨v,hv,rfl⟩:=List.mem_map.1 h
  rw[Dx]at hv
  unfold hiI Wh at hv
  refine⟨(v-iP d+2).toNat,by omega,?_⟩
  have e:iP d+(((v-iP d+2).toNat:Int)-2)=v:=by omega
  rw[e]
  exact⟨⟨by omega,by omega⟩,rfl⟩
theorem afi{a:Sp}(hz:d.getD 2 0≠0):je (wo d a)=je (jb d a):=by
 have hl1:1<=(wo d a).length:=by simp[wo]
 have hl2:1<=(jb d a).length:=List.length_pos_of_mem jY
 have key:∀x∈wo d a,foldI min (jb d a)<=x/\x<=foldI max (jb d a):=λx hx=>by
  unfold wo at hx
  rcases List.mem_append.1 hx with hx|hx
  ·simp only[List.mem_cons,List.not_mem_nil,or_false]at hx
   rcases hx with rfl|rfl
   ·exact⟨iQ jY,iR jY⟩
   ·exact⟨iQ kX,iR kX⟩
  ·obtain⟨k,_,h2,rfl⟩:=Ej.1 hx
   exact Kh h2.1 h2.2
 unfold je
 rw[Prod.mk.injEq]
 exact⟨Int.le_antisymm (iQ (ZA hz (rU hl2))) (key _ (rU hl1)).1,Int.le_antisymm (key _ (rV hl1)).2 (iR (ZA hz (rV hl2)))⟩
theorem abx{n:ai}(hk:n.kind=8)(a b:Sp):eH n a b=jb n.data.xs a:=by
 unfold eH jb
 rw[if_neg aa,if_neg aa,if_neg aa,if_neg aa,if_pos hk]
theorem afj(hd:∀x∈d,bX x){v:Int}(hv:bX v):i64 (eX d v):=by
 have h:=P_ (dJ hd 2) (dJ hd 1) (dJ hd 0) hv
 have h0:=dJ hd 0
 unfold bX at h0
 unfold eX i64
 omega
theorem amC{y q:Int}{K:Int->Prop}(e:x.tdiv y=q)(hy:y≠0)(hx: -4611686018427387904<=x/\x<=4611686018427387904)(h:K q):qQ .i64 x y K:=by
 subst e;exact YI hy hx h
theorem afk(w:World)(n:ai)(sv:aY)(b2:Option Addr)(c2:Nat)(acc:List Sp)(b:Sp)(hk:n.kind=8)(hno:n.ok w)(nd:∀x∈n.data.xs,bX x)(h8:n.data.xs.length=3)(ha0:0<=n.a)(hacc:bf w b2 2 (dV acc))(hlt:n.a.toNat<acc.length)(hbd:bX (acc.getD n.a.toNat (0,0)).1/\bX (acc.getD n.a.toNat (0,0)).2):Calls Tryz.prog 44 #[n.jS,sv.val,.slice b2 acc.length c2] w λe w'=>e= .returned (jv (je (eH n (acc.getD n.a.toNat (0,0)) b)))/\Ext w w':=by
 have Bz:∀w',Calls Tryz.prog 90 #[.int .i64 n.kind] w' λe w''=>e= .returned (.bool false)/\Ext w' w'':=λw'=>XG w' aa
 have hna:n.a=(n.a.toNat:Int):=(Int.toNat_of_nonneg ha0).symm
 have hd:=hno.data
 obtain⟨a2,ha2⟩:∃a,b2=some a:=aI (j:=n.a.toNat) hacc acA
 obtain⟨ua,jr⟩:=hd.base aa
 have hur:∀(R:Nat->Prop) w',(aH w).holds R w'->bf w' (some ua) 1 (ints n.data.xs):=λR w' h=>by rw[<-jr];exact au h hd.rows
 have vK:=pQ hlt
 rw[abx hk]
 generalize acc.getD n.a.toNat (0,0)=a at*
 obtain⟨p1,p2⟩:=hbd
 have g0:=dJ nd 0
 have g1:=dJ nd 1
 have g2:=dJ nd 2
 have hpw:∀v,eX n.data.xs v=n.data.xs.getD 2 0*v*v+n.data.xs.getD 1 0*v+n.data.xs.getD 0 0:=λ_=>rfl
 have hfit:∀v,bX v->i64 (eX n.data.xs v):=λv hv=>afj nd hv
 have hps:=afi (d:=n.data.xs) (a:=a)
 have hrl:=U9 n.data.xs a
 have hT:iP n.data.xs=(0-n.data.xs.getD 1 0).tdiv (2*n.data.xs.getD 2 0):=rfl
 have hTb: -1048576<=iP n.data.xs/\iP n.data.xs<=1048576:=by
  have h1:((0-n.data.xs.getD 1 0).tdiv (2*n.data.xs.getD 2 0)).natAbs<=(0-n.data.xs.getD 1 0).natAbs:=by rw[Int.natAbs_tdiv];exact Nat.div_le_self _ _
  rw[hT]
  unfold bX at g1
  omega
 generalize hd0:n.data.xs.getD 0 0=d0 at*
 generalize hd1:n.data.xs.getD 1 0=d1 at*
 generalize hd2:n.data.xs.getD 2 0=d2 at*
 have hpc:∀v w',bX v->Calls Tryz.prog 92 #[.int .i64 d0,.int .i64 d1,.int .i64 d2,.int .i64 v] w' λe w''=>e= .returned (.int .i64 (eX n.data.xs v))/\Ext w' w'':=λv w' hv=>by rw[hpw];exact Lx w' d0 d1 d2 v g0 g1 g2 hv
 have hpe:∀hz:d2=0,jb n.data.xs a=[eX n.data.xs a.1,eX n.data.xs a.2]:=λhz=>by unfold jb;rw[hd2,if_pos hz]
 clear hpw
 refine fq Tryz.func44 [.agg (jM n),.c sv.val,.c (.slice b2 acc.length c2)] ?_
 by_cases hz:d2=0
 ·rw[hpe hz]
  (repeat' ((conv=>whnf)<;>first|(show aC _ 90 ..;refine aJ (f:=90) Tryz.call90 (.bool false) (λρ w' hw=>Bz w') ?_)|refine ahe ?_|(show iM ..;(refine dO (λR w' h=>by rw[<-ha2];exact au h hacc) _ vK rfl ?_))|refine ahf ?_|refine ahg ?_|refine ahh ?_|(show jd ..;(refine nM (w0:=w) [eX n.data.xs a.1,eX n.data.xs a.2] (λR w' h=>h) rfl rfl (λx hx=>by simp only[List.mem_cons,List.not_mem_nil,or_false]at hx;rcases hx with rfl|rfl;exact hfit _ p1;exact hfit _ p2) fC (λu hu fP=> ?_)))|(show aC _ 89 ..;(refine aJ (f:=89) Tryz.call89 (jv (je [eX n.data.xs a.1,eX n.data.xs a.2])) (λρ w' hw=>hu▸xO w' u (ae hw λR h=>bP fP ((bn u).mono h.2 (λb hb=>hb.1))) (by rw[hu];simp)) ?_))|(show cO _ 31 ..;refine mE [] _ aiH ?_)|refine aZ ?_|refine ag ?_ ?_<;>intro _))
  all_goals(conv=>whnf)
  all_goals exact bW (λ_ _ h=>h.1) (λ_=>rfl) rfl
 ·rw[<-hps hz]
  (repeat' ((conv=>whnf)<;>first|(show aC _ 90 ..;refine aJ (f:=90) Tryz.call90 (.bool false) (λρ w' hw=>Bz w') ?_)|refine ahe ?_|(show iM ..;(refine dO (λR w' h=>by rw[<-ha2];exact au h hacc) _ vK rfl ?_))|refine ahf ?_|refine ahg ?_|refine ahh ?_|(show cO _ 31 ..;refine mE [] _ aiH ?_)|refine aZ ?_|refine ag ?_ ?_<;>intro _))
  all_goals(conv=>whnf)
  have p1':=p1
  have p2':=p2
  unfold bX at p1' p2' g1 g2
  refine Wp.loop (σ:=Nat×Int×Nat) 5 (λ⟨k,d,m⟩=>[(6,.lp 1 0 0 0),(7,.lp 2 0 0 0),(18,ak d0),(19,ak d1),(20,ak d2),(21,.os 4 m),(22,ak d)]) (λ⟨k,d,m⟩=>[(4,.rows (ints ([eX n.data.xs a.1,eX n.data.xs a.2]++Ei n.data.xs a k)) 1 3),(2,.box [ak a.1,ak a.2] 58),(1,.box [ak 0,ak 0] 58)]) (λ_=>aH w)
   (λ⟨k,d,m⟩=>k<=5/\d=(k:Int)-2/\m=([eX n.data.xs a.1,eX n.data.xs a.2]++Ei n.data.xs a k).length) (λs=>5-s.1) (0,-2,2) [(4,some 3)] aS (λs=>⟨rfl,rfl⟩) ⟨by decide,rfl,rfl⟩ ⟨rfl,aU,aU,λ_ _ h=>h⟩ ?_
  rintro⟨k,d,m⟩ ⟨hk5,hdk,hm⟩
  have hrl2:=hrl k
  by_cases hkl:k<5
  ·have hrs:Ei n.data.xs a (k+1)=Ei n.data.xs a k++(if a.1<=iP n.data.xs+d/\iP n.data.xs+d<=a.2 then [eX n.data.xs (iP n.data.xs+d)]else []):=by rw[hdk];rfl
   have hm7:m<=7:=by rw[hm];simp;omega
   (repeat' ((conv=>whnf)<;>first|(show qQ ..;refine amC hT.symm aa aa ?_)|(show aC _ 92 ..;refine aJ (f:=92) Tryz.call92 (.int .i64 (eX n.data.xs (iP n.data.xs+d))) (λρ w' hw=>hpc (iP n.data.xs+d) w' ⟨by omega,by omega⟩) ?_)|(show sH ..;(refine fO (by rw[aF,hm];exact Nat.le_refl _) ?_))|(show fG ..;(refine b_ acD ?_))|refine aZ ?_|refine ag ?_ ?_<;>intro _))
   all_goals(conv=>whnf)
   all_goals first|exact⟨(k+1,_,m+1),[(4,some 6)],⟨hkl,by omega,by rw[hrs,if_pos ⟨by omega,by omega⟩,<-List.append_assoc,List.length_append,<-hm];rfl⟩,by simp only;omega,rfl,aU,⟨by
    show(6,bU.rows (ints ([eX n.data.xs a.1,eX n.data.xs a.2]++Ei n.data.xs a (k+1))) 1 3)∈_
    rw[hrs,if_pos ⟨by omega,by omega⟩,<-List.append_assoc];exact oW _ _ hm,aQ,aQ,trivial⟩,λ_ _ h=>h⟩|exact⟨(k+1,_,m),[(4,some 4)],⟨hkl,by omega,by rw[hrs,if_neg aa,List.append_nil];exact hm⟩,by simp only;omega,rfl,aU,⟨by
    show(4,bU.rows (ints ([eX n.data.xs a.1,eX n.data.xs a.2]++Ei n.data.xs a (k+1))) 1 3)∈_
    rw[hrs,if_neg aa,List.append_nil];exact aQ,aQ,aQ,trivial⟩,λ_ _ h=>h⟩
  ·have hkz:k=5:=by omega
   subst hkz
   subst hm
   refine Wp.yE 4 w.heap.size (k:=1) (xs:=ints (wo n.data.xs a)) (T:=3) aQ (λR w' h b hb=>(h b hb).1) (λl1 hl1=> ?_)
   rw[aF]at hl1
   have hfits:∀x∈wo n.data.xs a,i64 x:=λx hx=>by
    unfold wo at hx
    rcases List.mem_append.1 hx with hx|hx
    ·simp only[List.mem_cons,List.not_mem_nil,or_false]at hx
     rcases hx with rfl|rfl
     ·exact hfit _ p1
     ·exact hfit _ p2
    ·obtain⟨k,_,h2,rfl⟩:=Ej.1 hx
     exact hfit _ ⟨by omega,by omega⟩
   (repeat' ((conv=>whnf)<;>first|(show aC _ 89 ..;(refine aJ (f:=89) Tryz.call89 (jv (je (wo n.data.xs a))) (λρ w' hw=>xO w' ⟨l1.base,l1.cap,wo n.data.xs a⟩ (ae hw λR h=>⟨aO h.2,hfits,hl1,by simp only[wo];simp;omega⟩) (by simp[wo])) ?_))|refine aZ ?_|refine ag ?_ ?_<;>intro _))
   all_goals(conv=>whnf)
   all_goals exact bW (λ_ _ h=>h.1) (λ_=>rfl) rfl
end
theorem Rh(w:World)(n:ai)(sv:aY)(kb:Option Addr)(kc:Nat)(kn:List aj)(hkr:bf w kb 1 (aM kn))(a b:aj)(cnt:Nat)(h:Wj w n cnt a b)(hno:n.ok w)(ha0:0<=n.a)(hb0:0<=n.b)(h1:1<=cnt)(hka:n.kind≠2->kn[n.a.toNat]? =some a)(hkb:n.kind=6->kn[n.b.toNat]? =some b):Calls Tryz.prog 76 #[n.jS,sv.val,.slice kb kn.length kc] w (qp w n (numsL n cnt a.xs b.xs)):=by
 have hbd:=SN h
 obtain⟨hk,nX,hd,hdb,hco,hsc,hpo,ha,hb,hal,hbl,hab,hbb⟩:=h
 have Bz:∀w',Calls Tryz.prog 90 #[.int .i64 n.kind] w' λe w''=>e= .returned (.bool false)/\Ext w' w'':=λw'=>XG w' aa
 have hna:n.a=(n.a.toNat:Int):=(Int.toNat_of_nonneg ha0).symm
 have hnb:n.b=(n.b.toNat:Int):=(Int.toNat_of_nonneg hb0).symm
 by_cases hk2:n.kind=2
 ·have hL:numsL n cnt a.xs b.xs=n.data.xs:=by
   have hl:=hco hk2
   unfold numsL
   apply List.ext_getElem
   ·simp[hl]
   ·intro i g1 g2
    rw[List.getElem_map,List.getElem_range]
    unfold fo
    rw[if_pos hk2,List.getD_eq_getElem?_getD,List.getElem?_eq_getElem g2];rfl
  refine fq Tryz.func76 [.agg (jM n),.c sv.val,.c (.slice kb kn.length kc)] ?_
  (repeat' ((conv=>whnf)<;>first|refine aZ ?_|refine ag ?_ ?_<;>intro _))
  all_goals(conv=>whnf)
  all_goals exact N7 (λ_ _ h=>h) rfl hd.a_ hL.symm
 ·have hka:=hka hk2
  have hal:=hal hk2
  obtain⟨hkl,hke⟩:=List.getElem?_eq_some_iff.1 hka
  obtain⟨ka,agX⟩:∃a,kb=some a:=aI (j:=n.a.toNat) hkr (by rw[aR];exact hkl)
  have afh:(aM kn)[n.a.toNat]? =some [a.val]:=by rw[dh hkl,hke]
  obtain⟨va,hva⟩:=ha.base aa
  have Ye:∀(R:Nat->Prop) w',(aH w).holds R w'->bf w' (some va) 1 (ints a.xs):=λR w' h=>by rw[<-hva];exact au h ha.rows
  refine fq Tryz.func76 [.agg (jM n),.c sv.val,.c (.slice kb kn.length kc)] ?_
  (repeat' ((conv=>whnf)<;>first|(show aC _ 90 ..;refine aJ (f:=90) Tryz.call90 (.bool false) (λρ w' hw=>Bz w') ?_)|(show bC ..;refine ax ka n.a.toNat agX hna hkl ?_)|(show fu ..;(refine aW (λR w' h=>by rw[<-agX];exact au h hkr) _ _ afh rfl ?_))|refine aZ ?_|refine ag ?_ ?_<;>intro _))
  all_goals(conv=>whnf)
  refine Wp.loop (σ:=Nat) 2 (λi=>[(2,.c (.slice kb kn.length kc)),(3,.lp 0 0 0 0),(7,.c a.val),(8,.os 1 i),(75,.c a.val),(76,ak cnt),(77,ak i)]) (λi=>[(1,.rows (ints ((List.range i).map (fo n a.xs b.xs))) 1 3),(0,.box (jM n) 41)]) (λ_=>aH w)
   (λi=>i<=cnt) (λi=>cnt-i) 0 [(1,none)] aS (λs=>⟨rfl,rfl⟩) (Nat.zero_le _) ⟨rfl,⟨rfl,rfl,rfl,rfl,rfl,?_,rfl,trivial⟩,⟨rfl,aQ,trivial⟩,λ_ _ h=>h⟩ ?_
  ·rw[<-hal];rfl
  rintro i hi
  have hlen:((List.range i).map (fo n a.xs b.xs)).length=i:=by simp
  by_cases hlt:i<cnt
  ·have hv:bX (a.xs.getD i 0):=dJ hab i
   have hsn:(List.range (i+1)).map (fo n a.xs b.xs)=(List.range i).map (fo n a.xs b.xs)++[fo n a.xs b.xs i]:=by rw[List.range_succ,List.map_append];rfl
   have hkk:n.kind=6\/n.kind=7\/n.kind=8\/n.kind=9:=by omega
   rcases hkk with hk6|hk7|hk8|hk9
   ·have hN:fo n a.xs b.xs i=a.xs.getD i 0+b.xs.getD i 0:=by unfold fo;rw[if_neg aa,if_pos hk6]
    have hkb:=hkb hk6
    have hbl:=hbl hk6
    obtain⟨amE,hke2⟩:=List.getElem?_eq_some_iff.1 hkb
    have I9:(aM kn)[n.b.toNat]? =some [b.val]:=by rw[dh amE,hke2]
    obtain⟨vb,hvb⟩:=hb.base aa
    have hbr:∀(R:Nat->Prop) w',(aH w).holds R w'->bf w' (some vb) 1 (ints b.xs):=λR w' h=>by rw[<-hvb];exact au h hb.rows
    have hv2:bX (b.xs.getD i 0):=dJ hbb i
    unfold bX at hv hv2
    (repeat' ((conv=>whnf)<;>first|(show bC ..;(first|refine ax va i hva rfl aa ?_|refine ax ka n.b.toNat agX hnb amE ?_|refine ax vb i hvb rfl aa ?_))|(show fu ..;(first|refine bO Ye (j:=i) aa ?_|refine aW (λR w' h=>by rw[<-agX];exact au h hkr) _ _ I9 rfl ?_|refine bO hbr (j:=i) aa ?_))|refine Yb ?_|refine Yc ?_|refine aZ ?_|refine ag ?_ ?_<;>intro _))
    all_goals(conv=>whnf)
    exact⟨i+1,[(1,some 3)],hlt,by omega,rfl,aU,⟨by
     show(3,bU.rows (ints ((List.range (i+1)).map (fo n a.xs b.xs))) 1 3)∈_
     rw[hsn,hN];exact oW _ _ hlen.symm,aQ,trivial⟩,λ_ _ h=>h⟩
   ·have hN:fo n a.xs b.xs i=a.xs.getD i 0*n.data.xs.getD 0 0:=by unfold fo;rw[if_neg aa,if_neg aa,if_pos hk7]
    have hs7:=hsc hk7
    obtain⟨ud,hud⟩:=hd.base aa
    have hdr:∀(R:Nat->Prop) w',(aH w).holds R w'->bf w' (some ud) 1 (ints n.data.xs):=λR w' h=>by rw[<-hud];exact au h hd.rows
    have q1:=gz (A:=1048576) (B:=1048576) hv (dJ hdb 0)
    (repeat' ((conv=>whnf)<;>first|(show bC ..;(first|refine ax va i hva rfl aa ?_|refine ax ud 0 hud rfl aa ?_))|(show fu ..;(first|refine bO Ye (j:=i) aa ?_|refine bO hdr (j:=0) aa ?_))|refine Yb ?_|refine Yc ?_|refine aZ ?_|refine ag ?_ ?_<;>intro _))
    all_goals(conv=>whnf)
    exact⟨i+1,[(1,some 3)],hlt,by omega,rfl,aU,⟨by
     show(3,bU.rows (ints ((List.range (i+1)).map (fo n a.xs b.xs))) 1 3)∈_
     rw[hsn,hN];exact oW _ _ hlen.symm,aQ,trivial⟩,λ_ _ h=>h⟩
   ·have hN:fo n a.xs b.xs i=eX n.data.xs (a.xs.getD i 0):=by unfold fo;rw[if_neg aa,if_neg aa,if_neg aa,if_pos hk8]
    have hs8:=hpo hk8
    obtain⟨ud,hud⟩:=hd.base aa
    have hdr:∀(R:Nat->Prop) w',(aH w).holds R w'->bf w' (some ud) 1 (ints n.data.xs):=λR w' h=>by rw[<-hud];exact au h hd.rows
    have hpc:∀w',Calls Tryz.prog 92 #[.int .i64 (n.data.xs.getD 0 0),.int .i64 (n.data.xs.getD 1 0),.int .i64 (n.data.xs.getD 2 0),.int .i64 (a.xs.getD i 0)] w' λe w''=>e= .returned (.int .i64 (eX n.data.xs (a.xs.getD i 0)))/\Ext w' w'':=λw'=>Lx w' _ _ _ _ (dJ hdb 0) (dJ hdb 1) (dJ hdb 2) hv
    (repeat' ((conv=>whnf)<;>first|(show bC ..;(first|refine ax va i hva rfl aa ?_|refine ax ud 0 hud rfl aa ?_|refine ax ud 1 hud rfl aa ?_|refine ax ud 2 hud rfl aa ?_))|(show fu ..;(first|refine bO Ye (j:=i) aa ?_|refine bO hdr (j:=0) aa ?_|refine bO hdr (j:=1) aa ?_|refine bO hdr (j:=2) aa ?_))|(show ku _ 92 ..;refine iL (f:=92) Tryz.call92 (.int .i64 (eX n.data.xs (a.xs.getD i 0))) (λρ w' hw=>hpc w') ?_)|refine Yb ?_|refine Yc ?_|refine aZ ?_|refine ag ?_ ?_<;>intro _))
    all_goals(conv=>whnf)
    exact⟨i+1,[(1,some 3)],hlt,by omega,rfl,aU,⟨by
     show(3,bU.rows (ints ((List.range (i+1)).map (fo n a.xs b.xs))) 1 3)∈_
     rw[hsn,hN];exact oW _ _ hlen.symm,aQ,trivial⟩,λ_ _ h=>h⟩
   ·have hN:fo n a.xs b.xs i=a.xs.getD i 0:=by unfold fo;rw[if_neg aa,if_neg aa,if_neg aa,if_neg aa]
    (repeat' ((conv=>whnf)<;>first|(show bC ..;refine ax va i hva rfl aa ?_)|(show fu ..;refine bO Ye (j:=i) aa ?_)|refine Yb ?_|refine Yc ?_|refine aZ ?_|refine ag ?_ ?_<;>intro _))
    all_goals(conv=>whnf)
    exact⟨i+1,[(1,some 3)],hlt,by omega,rfl,aU,⟨by
     show(3,bU.rows (ints ((List.range (i+1)).map (fo n a.xs b.xs))) 1 3)∈_
     rw[hsn,hN];exact oW _ _ hlen.symm,aQ,trivial⟩,λ_ _ h=>h⟩
  ·have hiz:i=cnt:=Nat.le_antisymm hi (Nat.not_lt.1 hlt)
   subst hiz
   (repeat' ((conv=>whnf)<;>first|refine aZ ?_|refine ag ?_ ?_<;>intro _))
   all_goals(conv=>whnf)
   exact nK (B:=⟨w,[]⟩) (λ_ _ h=>h) rfl aQ hlen.symm (λz hz=>by
    obtain⟨q,hq,rfl⟩:=List.mem_map.1 hz
    have:=hbd q
    unfold i64
    omega) (by simp only[numsL,List.length_map,List.length_range];omega)
theorem afl(w:World)(n:ai)(sh:List (List Int))(s:List Int)(sv:aY)(hs:sv.ok w)(t:aj)(cnt:Nat)(h:eT n sh s t.xs cnt)(hno:n.ok w)(ht:sv.l[n.a.toNat]? =some t)(ha0:0<=n.a)(hb0:0<=n.b)(b2:Option Addr)(c2:Nat)(acc:List Sp)(hacc:bf w b2 2 (dV acc))(hA:n.kind≠1->n.kind≠2->n.a.toNat<acc.length)(hB:n.kind=6->n.b.toNat<acc.length)(hbd:∀s∈acc,bX s.1/\bX s.2/\s.1<=s.2):Calls Tryz.prog 44 #[n.jS,sv.val,.slice b2 acc.length c2] w λe w'=>e= .returned (jv (je (iC n cnt t.xs (acc.getD n.a.toNat (0,0)) (acc.getD n.b.toNat (0,0)))))/\Ext w w':=by
 obtain⟨nd,nb,nlo,nhi,nle⟩:=rT h.node.near
 obtain⟨_,_,h7,h8,h2⟩:=mW h.node.form
 have hfo:=dH h.node.form
 have hkind:=hfo.kind
 by_cases hl:dQ n
 ·have e3:iC n cnt t.xs (acc.getD n.a.toNat (0,0)) (acc.getD n.b.toNat (0,0))=kZ n cnt (bN n t.xs) (acc.getD n.a.toNat (0,0)):=if_pos hl
  rw[e3]
  have hk:n.kind≠1/\n.kind≠2:=by unfold dQ at hl;omega
  have hlt:=hA hk.1 hk.2
  have hm:=hbd _ (FN hlt)
  exact afe w n sh s sv hs t cnt h hl hno ht ha0 b2 c2 acc hacc hlt ⟨hm.1,hm.2.1⟩
 ·have e3:iC n cnt t.xs (acc.getD n.a.toNat (0,0)) (acc.getD n.b.toNat (0,0))=eH n (acc.getD n.a.toNat (0,0)) (acc.getD n.b.toNat (0,0)):=if_neg hl
  rw[e3]
  unfold dQ at hl
  by_cases hk8:n.kind=8
  ·have hlt:=hA aa aa
   have hm:=hbd _ (FN hlt)
   exact afk w n sv b2 c2 acc _ hk8 hno nd (h8 hk8) ha0 hacc hlt ⟨hm.1,hm.2.1⟩
  ·refine XH w n sv b2 c2 acc aa hno nd nle (λhk=> ?_) h7 ha0 hb0 hacc hA hB hbd
   have:=h2 hk
   have:=hfo.own (.inr (.inl hk))
   omega
theorem U_(l:List Sp)(s:Sp){i m:Nat}{T:TypeId}{H:Heap}(hm:m=l.length):(i,bU.rows (dV (l++[s])) 2 T)∈(i,bU.rows (List.take m (dV l)++[[.int .i64 s.1,.int .i64 s.2]]) 2 T)::H:=by
 subst hm
 rw[show dV (l++[s])=List.take l.length (dV l)++[[.int .i64 s.1,.int .i64 s.2]] by rw[List.take_of_length_le af3];simp[dV]]
 exact List.mem_cons_self
theorem yU(w:World)(g:bE)(hg:g.ok w):Calls Tryz.prog 16 #[g.val] w (xh w (bT g)):=by
 refine fq Tryz.func16 [.agg [.c (.slice g.base g.l.length g.cap),ak g.out]] ?_
 (repeat' ((conv=>whnf)<;>first|refine aN ?_|refine ag ?_ ?_<;>intro _))
 refine oL (f:=34) (check g) Tryz.call34 (λρ w' hw=>nJ w' g (ae hw λR h=>hg.later h)) (λhne=> ?_) (λhe sv hm hsv=> ?_)
 ·have hq:bT g=((check g).1,[]):=if_pos hne
  rw[hq]
  (repeat' ((conv=>whnf)<;>first|(show @dR _ _ _;refine bA hne ?_)|refine aN ?_))
  conv=>whnf
  exact AR (λ_ _ h=>h) rfl hne (λ_=>rfl)
 have hq:bT g=fV (check g).2 g.l []:=if_neg (λh=>h he)
 rw[hq]
 obtain⟨hl1,xn,hout,hcl,hin⟩:=gX he
 have hsl:sv.l.length=g.l.length:=by rw[<-hcl,<-hm];simp
 (repeat' ((conv=>whnf)<;>first|refine aN ?_|refine ag ?_ ?_<;>intro _))
 refine Wp.loop (σ:=Nat×List Sp) 2 (λ⟨i,acc⟩=>[(4,.c sv.val),(6,.os 1 i),(19,.c (.slice g.base g.l.length g.cap)),(20,ak g.l.length),(21,ak i)]) (λ⟨i,acc⟩=>[(1,.rows (dV acc) 2 58)]) (λ_=>(aH w).and ((jy sv).past w.heap.size))
  (λ⟨i,acc⟩=>i<=g.l.length/\acc.length=i/\fV (check g).2 (g.l.drop i) acc=fV (check g).2 g.l []/\(∀s∈acc,bX s.1/\bX s.2/\s.1<=s.2)) (λs=>g.l.length-s.1) (0,[]) [(1,none)] aS (λs=>⟨rfl,rfl⟩) ⟨Nat.zero_le _,rfl,rfl,λs hs=>by simp at hs⟩ ⟨rfl,aU,⟨rfl,trivial⟩,λ_ _ h=>h⟩ ?_
 rintro⟨i,acc⟩ ⟨hi,hal,hsp,hab⟩
 by_cases hlt:i<g.l.length
 ·obtain⟨a,ha⟩:∃a,g.base=some a:=aI (j:=i) hg.rows Db
  have hnm:=List.getElem_mem hlt
  obtain⟨s,hs,hni⟩:=hin i g.l[i] (List.getElem?_eq_getElem hlt)
  have hdrop:g.l.drop i=g.l[i]::g.l.drop (i+1):=List.drop_eq_getElem_cons hlt
  rw[hdrop]at hsp
  have hrow:=bQ hlt
  have hpi:=xm he (List.getElem?_eq_getElem hlt)
  generalize g.l[i]=n at*
  have hn:=hg.each n hnm
  obtain⟨⟨ha0,ajI,hai⟩,⟨hb0,Wq,hbi⟩,cnt,hcnt,hpl⟩:=hpi
  have e1:(check g).2.getD i []=s:=by rw[List.getD_eq_getElem?_getD,hs];rfl
  rw[e1]at hcnt hpl
  obtain⟨t,ht,hts⟩:∃t,sv.l[n.a.toNat]? =some t/\t.xs=(check g).2.getD n.a.toNat []:=by
   have hlt2:n.a.toNat<sv.l.length:=by omega
   refine⟨sv.l[n.a.toNat],List.getElem?_eq_getElem hlt2,?_⟩
   rw[<-hm,List.getD_eq_getElem?_getD,List.getElem?_map,List.getElem?_eq_getElem hlt2];rfl
  rw[<-hts]at hpl
  have hfo:=dH hni.form
  have hti:((check g).2.take i).length=i:=by rw[List.length_take,hcl];omega
  have hEq:iZ (check g).2 n acc=iC n cnt t.xs (acc.getD n.a.toNat (0,0)) (acc.getD n.b.toNat (0,0)):=by
   unfold iZ
   rw[hal,e1,hcnt,hts];rfl
  have hEL:=AV hpl (acc.getD n.a.toNat (0,0)) (acc.getD n.b.toNat (0,0))
  have ak5:∀w',sv.ok w'->n.ok w'->∀b2 c2,bf w' b2 2 (dV acc)->Calls Tryz.prog 44 #[n.jS,sv.val,.slice b2 i c2] w' λe w''=>e= .returned (jv (je (iC n cnt t.xs (acc.getD n.a.toNat (0,0)) (acc.getD n.b.toNat (0,0)))))/\Ext w' w'':=λw' h1 h2 b2 c2 h3=>by
   rw[<-hal]
   exact afl w' n _ s sv h1 t cnt hpl h2 ht ha0 hb0 b2 c2 acc h3 (λk1 k2=>by have:=hfo.a k1 k2;omega) (λk6=>by have:=hfo.b k6;omega) hab
  generalize iC n cnt t.xs (acc.getD n.a.toNat (0,0)) (acc.getD n.b.toNat (0,0))=E at*
  have z1:(je E).1=foldI min E:=rfl
  have z2:(je E).2=foldI max E:=rfl
  by_cases hr:foldI min E< -1048576\/1048576<foldI max E
  ·have hq2:fV (check g).2 (n::g.l.drop (i+1)) acc=(5,[]):=by simp only[fV];rw[hEq,if_pos hr]
   rw[hq2]at hsp
   rw[<-hsp]
   (repeat' ((conv=>whnf)<;>first|(show bC ..;refine ax a i ha rfl hlt ?_)|(show iM ..;(refine dO (λR w' h=>by rw[<-ha];exact au h.1 hg.rows) _ hrow rfl ?_))|refine ahi ?_|refine aN ?_|refine ag ?_ ?_<;>intro _))
   all_goals(conv=>whnf)
   all_goals first|(exfalso;omega)|exact AR (λ_ _ h=>h.1) rfl aS (λ_=>rfl)
  ·have hq2:fV (check g).2 (n::g.l.drop (i+1)) acc=fV (check g).2 (g.l.drop (i+1)) (acc++[(foldI min E,foldI max E)]):=by
    conv=>lhs;unfold fV
    rw[hEq,if_neg hr]
   rw[hq2]at hsp
   have hle:=Ke hEL
   (repeat' ((conv=>whnf)<;>first|(show bC ..;refine ax a i ha rfl hlt ?_)|(show iM ..;(refine dO (λR w' h=>by rw[<-ha];exact au h.1 hg.rows) _ hrow rfl ?_))|refine ahi ?_|(show sH ..;(refine fO (by rw[gU,hal];exact Nat.le_refl _) ?_))|(show fG ..;(refine b_ (by show(i+1)*16<=140737488355328;omega) ?_))|refine aN ?_|refine ag ?_ ?_<;>intro _))
   all_goals(conv=>whnf)
   all_goals first|(exfalso;omega)|exact⟨(i+1,acc++[(foldI min E,foldI max E)]),[(1,some 5)],⟨hlt,by rw[List.length_append,hal];rfl,hsp,λs hs=>by
    rcases List.mem_append.1 hs with h|h
    ·exact hab s h
    ·simp at h;subst h;unfold bX;omega⟩,by simp only;omega,rfl,aU,⟨U_ acc (foldI min E,foldI max E) hal.symm,trivial⟩,λ_ _ h=>h⟩
 ·have hiz:i=g.l.length:=by omega
  subst hiz
  rw[List.drop_length]at hsp
  (repeat' ((conv=>whnf)<;>first|refine aN ?_|refine ag ?_ ?_<;>intro _))
  conv=>whnf
  exact Kg (l:=acc) (λ_ _ h=>h.1) rfl aQ hal.symm (by rw[<-hsp];rfl)
section
variable {src:List aj} {l:List Mix}
theorem L6(w:World)(n:ai)(sh:List (List Int))(s:List Int)(sv:aY)(hs:sv.ok w)(t:aj)(cnt:Nat)(h:eT n sh s t.xs cnt)(hk1:n.kind≠1)(hno:n.ok w)(ht:sv.l[n.a.toNat]? =some t)(ha0:0<=n.a)(hb0:0<=n.b)(kb:Option Addr)(kc:Nat)(kn:List aj)(hkr:bf w kb 1 (aM kn))(a b:aj)(hka:n.kind≠2->kn[n.a.toNat]? =some a)(hkb:n.kind=6->kn[n.b.toNat]? =some b)(hao:a.ok w)(hbo:b.ok w)(hab:∀x∈a.xs,bX x)(hbb:∀x∈b.xs,bX x)(hn:NumIn n sh a.xs b.xs):Calls Tryz.prog 76 #[n.jS,sv.val,.slice kb kn.length kc] w (qp w n (kQ n cnt t.xs a.xs b.xs)):=by
 by_cases hl:dQ n
 ·have e3:kQ n cnt t.xs a.xs b.xs=gu n cnt cnt (bN n t.xs) a.xs:=if_pos hl
  rw[e3]
  have hk2:n.kind≠2:=by unfold dQ at hl;omega
  have hal:=hn.Ki hk1 hk2
  rw[(h.first hl).1]at hal
  exact XI w n sh s sv hs t cnt h hl hno ht ha0 kb kc kn hkr a (hka hk2) hao hab hal
 ·have e3:kQ n cnt t.xs a.xs b.xs=numsL n cnt a.xs b.xs:=if_neg hl
  rw[e3]
  obtain⟨_,_,h7,h8,h2⟩:=mW h.node.form
  obtain⟨nd,nb,nlo,nhi,nle⟩:=rT h.node.near
  obtain⟨q1,q2,q3,q4⟩:=Cs h hl hk1 hn
  exact Rh w n sv kb kc kn hkr a b cnt ⟨q1,h.few.2,hno.data,nd,q2,h7,h8,hao,hbo,q3,q4,hab,hbb⟩ hno ha0 hb0 h.few.1 hka hkb
abbrev Mix:=aj×Bool
def aoj(N:Nat)(l:List Mix):bJ where
 holds R w:=∀p∈l,p.2=false->(J6 N p.1).holds R w
 stable:=λhR hw h p hp e=>(J6 N p.1).stable hR hw (h p hp e)
structure Va(src:List aj)(l:List Mix):Prop where
 a_:∀p∈l,p.1.a_
 old:∀p∈l,p.2=true->p.1∈src
theorem Va.ok{w w':World}{R:Nat->Prop}{N:Nat}(h:Va src l)(hs:∀u∈src,u.ok w)(hb:(aH w).holds R w')(hm:(aoj N l).holds R w'):∀u∈l.map Prod.fst,u.ok w':=λu hu=>by
 obtain⟨p,hp,rfl⟩:=List.mem_map.1 hu
 cases e:p.2 with
 |true=>exact(hs _ (h.old p hp e)).later hb
 |false=>exact bP (h.a_ p hp) ((bn p.1).mono (hm p hp e) (λb hb=>hb.1))
theorem Va.snoc{p:Mix}(h:Va src l)(hs:p.1.a_)(ho:p.2=true->p.1∈src):Va src (l++[p]):=by
 refine⟨λq hq=> ?_,λq hq=> ?_⟩
 ·rcases List.mem_append.1 hq with hq|hq
  ·exact h.a_ q hq
  ·rw[List.mem_singleton.1 hq];exact hs
 ·rcases List.mem_append.1 hq with hq|hq
  ·exact h.old q hq
  ·rw[List.mem_singleton.1 hq];exact ho
end
theorem nP(w:World)(m n:ai)(hm:m.ok w)(hn:n.ok w):Calls Tryz.prog 77 #[m.jS,n.jS] w λe w'=>e= .returned (.bool (nS m.pl n.pl))/\Ext w w':=by
 refine fq Tryz.func77 [.agg [ak m.kind,ak m.a,ak m.b,.c m.shape.val,ak m.lo,ak m.hi,ak m.size,.c m.data.val,.c m.aG.val],.agg (jM n)] ?_
 (repeat' ((conv=>whnf)<;>first|(show aC _ 20 [.c m.shape.val,.c n.shape.val] ..;((refine fE (f:=20) Tryz.call20 (decide (m.shape.xs=n.shape.xs)) (λρ w' hw=>qg w' m.shape n.shape (ae hw λR h=>hm.shape.later h) (ae hw λR h=>hn.shape.later h)) ?_ ?_<;>intro _)))|(show aC _ 20 [.c m.data.val,.c n.data.val] ..;((refine fE (f:=20) Tryz.call20 (decide (m.data.xs=n.data.xs)) (λρ w' hw=>qg w' m.data n.data (ae hw λR h=>hm.data.later h) (ae hw λR h=>hn.data.later h)) ?_ ?_<;>intro _)))|(show aC _ 20 [.c m.aG.val,.c n.aG.val] ..;((refine fE (f:=20) Tryz.call20 (decide (m.aG.xs=n.aG.xs)) (λρ w' hw=>qg w' m.aG n.aG (ae hw λR h=>hm.aG.later h) (ae hw λR h=>hn.aG.later h)) ?_ ?_<;>intro _)))|refine aN ?_|refine ag ?_ ?_<;>intro _))
 all_goals(conv=>whnf)
 all_goals exact aX (λ_ _ h=>h) rfl (by simp_all [nS,ai.pl])
section
variable {w w0 w':World} {g:bE} {l:List ai} {R:Nat->Prop} {u:aj} {x:aP} {row:List aP} {j:Nat} {sh:List (List Int)} {s:List Int} {nE:List aj}
def qK(g:bE)(u:aj):Prop:=u=fI\/∃n∈g.l,u=n.shape\/u=n.data\/u=n.aG
theorem ZB(hg:∀n∈g.l,n.ok w)(u:aj)(h:qK g u):u.ok w:=by
 rcases h with rfl|⟨n,hn,rfl|rfl|rfl⟩
 ·exact EY w
 ·exact(hg n hn).shape
 ·exact(hg n hn).data
 ·exact(hg n hn).aG
theorem akf{n:ai}(h:n∈g.l):qK g n.shape/\qK g n.data/\qK g n.aG:=⟨.inr ⟨n,h,.inl rfl⟩,.inr ⟨n,h,.inr (.inl rfl)⟩,.inr ⟨n,h,.inr (.inr rfl)⟩⟩
def L8(P:aj->Prop)(N:Nat)(u:aj):bJ where
 holds R w:=P u\/((bn u).past N).holds R w
 stable:=λhR hw h=>h.imp id (λh=>((bn u).past N).stable hR hw h)
def wu(P:aj->Prop)(N:Nat)(n:ai):bJ:=(L8 P N n.shape).and ((L8 P N n.data).and (L8 P N n.aG))
def xQ(P:aj->Prop)(N:Nat)(l:List ai):bJ where
 holds R w:=∀n∈l,(wu P N n).holds R w
 stable:=λhR hw h n hn=>(wu P N n).stable hR hw (h n hn)
section
variable {P:aj->Prop} {N:Nat}
theorem afm(P:aj->Prop)(N:Nat)(R:Nat->Prop)(w:World):(xQ P N []).holds R w:=λn hn=>by simp at hn
theorem uL{n:ai}(h:(xQ P N l).holds R w)(hn:(wu P N n).holds R w):(xQ P N (l++[n])).holds R w:=λm hm=>by
 rcases List.mem_append.1 hm with hm|hm
 ·exact h m hm
 ·rw[List.mem_singleton.1 hm];exact hn
theorem Ri(hP:∀u,P u->u.ok w0)(hs:u.a_)(hb:(aH w0).holds R w')(h:(L8 P N u).holds R w'):u.ok w':=by
 rcases h with h|h
 ·exact(hP u h).later hb
 ·exact bP hs ((bn u).mono h (λb hb=>hb.1))
theorem uA{n:ai}(hP:∀u,P u->u.ok w0)(hs:n.iI)(hb:(aH w0).holds R w')(h:(wu P N n).holds R w'):n.ok w':=
 ⟨Ri hP hs.shape hb h.1,Ri hP hs.data hb h.2.1,Ri hP hs.aG hb h.2.2,hs.jJ,hs.p9,hs.nQ,hs.kE,hs.kF,hs.jK⟩
theorem yV(hP:∀u,P u->u.ok w0)(hs:∀n∈l,n.iI)(hb:(aH w0).holds R w')(h:(xQ P N l).holds R w'):∀n∈l,n.ok w':=λn hn=>uA hP (hs n hn) hb (h n hn)
theorem xR{n m:ai}(h:P n.shape/\P n.data/\P n.aG)(e1:m.shape=n.shape)(e2:m.data=n.data)(e3:m.aG=n.aG)(R:Nat->Prop)(w:World):(wu P N m).holds R w:=by
 refine⟨?_,?_,?_⟩
 ·rw[e1];exact .inl h.1
 ·rw[e2];exact .inl h.2.1
 ·rw[e3];exact .inl h.2.2
theorem L9{n:ai}{sv:aY}{x:aj×Bool}(hn:P n.data)(h0:P fI)(hu:u∈sv.l)(hx:x.2=true->x.1=n.data)(h1:((jy sv).past N).holds R w)(h2:((aaf x).past N).holds R w):(wu P N (fU u x.1)).holds R w:=by
 refine⟨.inr (h1.2 u hu),?_,.inl h0⟩
 show(L8 P N x.1).holds R w
 cases hb:x.2 with
 |true=>rw[hx hb];exact .inl hn
 |false=>exact .inr (h2 hb)
end
theorem O_{n:aP}:∀{l:List aP} {k:Nat},xu n (l++[x]) k=match xu n l k with|some i=>some i|none=>if nS x n=true then some (k+l.length)else none
 |[],k=>by simp[xu]
 |y::r,k=>by
  rw[List.cons_append,Fe,Fe]
  split
  ·rfl
  ·rw[O_]
   have:k+1+r.length=k+(y::r).length:=by simp only[List.length_cons];omega
   rw[this]
def vz(n:aP)(row:List aP)(j:Nat):Int:=if n.kind=1 then-1 else Mw n (row.take j)
theorem xS(n:aP)(row:List aP):vz n row 0= -1:=by
 unfold vz
 split
 ·rfl
 ·rfl
theorem Vb{n:aP}(hx:row[j]? =some x):vz n row (j+1)=if 0<=vz n row j then vz n row j else if n.kind=1 then-1 else if nS x n=true then(j:Int)else-1:=by
 unfold vz
 by_cases h1:n.kind=1
 ·rw[if_pos h1,if_neg aa,if_pos h1]
 ·rw[if_neg h1,if_neg h1,if_neg h1]
  obtain⟨hj,he⟩:=List.getElem?_eq_some_iff.1 hx
  have e:row.take (j+1)=row.take j++[x]:=by rw[List.take_add_one,hx];rfl
  rw[e]
  unfold Mw
  rw[O_]
  have hl:(row.take j).length=j:=by rw[List.length_take];omega
  cases xu n (row.take j) 0 with
  |some k=>simp
  |none=>
   by_cases hs:nS x n=true<;>simp[hs,hl]
theorem akg(n:aP)(row:List aP)(j:Nat): -1<=vz n row j/\vz n row j<0\/0<=vz n row j/\vz n row j<j/\n.kind≠1:=by
 unfold vz
 split
 ·left;omega
 ·rename_i h1
  unfold Mw
  cases h:xu n (row.take j) 0 with
  |none=>left;simp
  |some k=>
   right
   obtain⟨_,h2⟩:=E_ h
   have:=(List.getElem?_eq_some_iff.1 h2).1
   rw[Nat.sub_zero,List.length_take]at this
   show(0:Int)<=(k:Int)/\(k:Int)<(j:Int)/\_
   exact⟨by omega,by omega,h1⟩
theorem Bo{n:aP}(hj:j=row.length):vz n row j=match j4 row n with|some k=>(k:Int)|none=> -1:=by
 subst hj
 unfold vz j4
 split
 ·rfl
 ·rw[List.take_length];rfl
theorem afn{n:ai}{t:List Int}{cnt:Nat}(h:eT n.pl.jg sh s t cnt):eT n sh s t cnt:=
 ⟨⟨by rw[<-YU];exact h.node.form,h.node.shape,by rw[<-YV];exact h.node.near⟩,h.cnt,h.pos,h.first⟩
theorem afo{n:ai}{a b:List Int}(h:NumIn n.pl.jg sh a b):NumIn n sh a b:=⟨h.Ki,h.aai⟩
theorem El{row:List ai}{fJ:List Sp}{M:ai}(hR:dS (row.map ai.pl) (nE.map aj.xs) fJ)(hm:iY M.pl.jg (nE.map aj.xs) s)(hk:gM (row.map ai.pl) M.pl=true)(sv':aY)(hl:sv'.l=nE)(hs:sv'.ok w')(hM:M.ok w')(hrow:∀z∈row,z.ok w')(kb:Option Addr)(kc:Nat)(hkr:bf w' kb 1 (aM (row.map ai.data))):Calls Tryz.prog 76 #[M.jS,sv'.val,.slice kb row.length kc] w' (qp w' M (kI s (row.map ai.pl) M.pl)):=by
 have hKn:=zR hR hm hk
 have hah:=lC hm.form
 have hla:M.a.toNat<row.length:=by have:=hKn.Hz;rwa[List.length_map]at this
 have eA:(row.map ai.pl).getD M.pl.a.toNat di=row[M.a.toNat].pl:=zT hla
 have hsl:nE.length=row.length:=by have:=hR.wz;simpa using this
 have hls:M.a.toNat<nE.length:=by omega
 have htx:gD (nE.map aj.xs) M.pl.a.toNat=nE[M.a.toNat].xs:=by
  unfold gD
  rw[List.getD_eq_getElem?_getD,List.getElem?_map]
  show(Option.map aj.xs nE[M.a.toNat]?).getD []=_
  rw[List.getElem?_eq_getElem hls];rfl
 have hpl:=Kw hm hR.pos
 rw[htx]at hpl
 have hpl:=afn (n:=M) hpl
 have ht:sv'.l[M.a.toNat]? =some nE[M.a.toNat]:=by rw[hl];exact List.getElem?_eq_getElem hls
 have hkl:(row.map ai.data).length=row.length:=List.length_map _
 have gt:∀k (h:k<row.length),(row.map ai.data)[k]? =some row[k].data:=λk h=>by rw[List.getElem?_map,List.getElem?_eq_getElem h];rfl
 have hn:=afo (n:=M) (Tf hR hKn)
 have cA:=DL hR hKn.Hz hKn.aK
 rw[eA]at hn cA
 have hab:∀x∈row[M.a.toNat].data.xs,bX x:=cA.2.2.2.1
 by_cases h6:M.kind=6
 ·have hlb:M.b.toNat<row.length:=by have:=hKn.YX h6;rwa[List.length_map]at this
  have eB:(row.map ai.pl).getD M.pl.b.toNat di=row[M.b.toNat].pl:=zT hlb
  have cB:=DL hR (hKn.YX h6) (hKn.bK h6)
  have eb:KC (row.map ai.pl) M.pl=row[M.b.toNat].data.xs:=by
   unfold KC
   rw[if_pos (show M.pl.kind=6 from h6),eB];rfl
  rw[eB]at cB
  rw[eb]at hn
  have:=L6 w' M _ s sv' hs nE[M.a.toNat] _ hpl hKn.kind.1 hM ht hah.a0 hah.b0 kb kc (row.map ai.data) hkr row[M.a.toNat].data row[M.b.toNat].data (λ_=>gt _ hla) (λ_=>gt _ hlb) (hrow _ (List.getElem_mem hla)).data (hrow _ (List.getElem_mem hlb)).data hab cB.2.2.2.1 hn
  rw[hkl]at this
  have e:kI s (row.map ai.pl) M.pl=kQ M (entries s).toNat nE[M.a.toNat].xs row[M.a.toNat].data.xs row[M.b.toNat].data.xs:=by
   unfold kI
   rw[YW,if_pos (show M.pl.kind=6 from h6),eA,eB,<-htx,cA.1];rfl
  rw[e];exact this
 ·have hnil:NumIn M (nE.map aj.xs) row[M.a.toNat].data.xs fI.xs:=⟨hn.Ki,λh=>absurd h h6⟩
  have:=L6 w' M _ s sv' hs nE[M.a.toNat] _ hpl hKn.kind.1 hM ht hah.a0 hah.b0 kb kc (row.map ai.data) hkr row[M.a.toNat].data fI (λ_=>gt _ hla) (λh=>absurd h h6) (hrow _ (List.getElem_mem hla)).data (EY w') hab (λx hx=>by simp[fI]at hx) hnil
  rw[hkl]at this
  have e:kI s (row.map ai.pl) M.pl=kQ M (entries s).toNat nE[M.a.toNat].xs row[M.a.toNat].data.xs fI.xs:=by
   unfold kI
   rw[YW,if_neg (show¬M.pl.kind=6 from h6),eA,<-htx,cA.1];rfl
  rw[e];exact this
theorem RB(l:List aj)(u:aj):List.take l.length (aM l)++[[u.val]]=aM (l++[u]):=by
 rw[Gc,List.take_of_length_le Pp]
theorem uM{x:ai}(h:∀n∈l,n.iI)(hx:x.iI):∀n∈l++[x],n.iI:=λn hn=>by
 rcases List.mem_append.1 hn with hn|hn
 ·exact h n hn
 ·rw[List.mem_singleton.1 hn];exact hx
theorem Bp{l m:List aj}{x:aj}(h:∀n∈l,n∈m)(hx:x∈m):∀n∈l++[x],n∈m:=λn hn=>by
 rcases List.mem_append.1 hn with hn|hn
 ·exact h n hn
 ·rw[List.mem_singleton.1 hn];exact hx
theorem xU{l:List aP}{sp:List Sp}{i:Nat}{row:List ai}{st:List Nat}{n:aP}{X:ai}(hL:dS l sh sp)(hT:tq l sh sp i (row.map ai.pl) st)(hn:l[i]? =some n)(hcr:eG ((row.map ai.pl).map aP.jg) []=(0,nE.map aj.xs))(hX:j3 (gD sh i) (row.map ai.pl) (bG st n)=X.pl)(hu:u.xs=gD sh i):
 (∀k,j4 (row.map ai.pl) X.pl=some k->tq l sh sp (i+1) (row.map ai.pl) (st++[k]))/\(j4 (row.map ai.pl) X.pl=none->tq l sh sp (i+1) ((row++[X]).map ai.pl) (st++[row.length])/\eG (((row++[X]).map ai.pl).map aP.jg) []=(0,(nE++[u]).map aj.xs)):=by
 have hT':=hT.step hL hn
 unfold pI Cu at hT'
 simp only at hT'
 rw[hX]at hT'
 refine⟨λk hf=> ?_,λhf=> ?_⟩
 ·rw[hf]at hT'
  exact hT'
 ·rw[hf]at hT'
  obtain⟨dX,fJ,hR,hS⟩:=hT.ok
  obtain rfl:dX=nE.map aj.xs:=by have:=hR.eG;rw[hcr,Prod.mk.injEq]at this;exact this.2.symm
  have FL:=hT.len
  have hn':l[st.length]? =some n:=by rw[FL];exact hn
  obtain⟨hm,ht⟩:=Qh hL hR hS hn'
  have Ti:=(hL.span _ _ hn').2
  rw[FL]at hm ht Ti
  rw[hX]at hm ht
  have hR':=hR.snoc hm ZO ZO
  have e1:(row++[X]).map ai.pl=row.map ai.pl++[X.pl]:=by simp
  have e2:(nE++[u]).map aj.xs=nE.map aj.xs++[gD sh i]:=by simp[hu]
  rw[e1,e2]
  refine⟨?_,hR'.eG⟩
  simp only[List.length_map]at hT'
  exact hT'
def Bq(g:bE)(w:World)(r:Int)(x:List aP×Nat)(e:Ending)(w':World):Prop:=
 (r≠0/\e= .returned (.tuple #[.agg #[.slice none 0 0,.int .i64 0],.int .i64 r])/\Ext w w')\/
 (r=0/\∃(l:List ai) (base:Option Addr) (cap:Nat),l.map ai.pl=x.1/\(∀n∈l,n.iI)/\l.length<=24/\e= .returned (.tuple #[.agg #[.slice base l.length cap,.int .i64 x.2],.int .i64 0])/\Ext w w'/\
   (eY base 9 (bq l)).holds (λb=>w.heap.size<=b/\b<w'.heap.size) w'/\(xQ (qK g) w.heap.size l).holds (λb=>b<w'.heap.size) w')
end
end Go.Proofs.YtgndjjdeopfdkaaGreat

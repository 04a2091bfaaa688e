import Derived.WalkKit
import Derived.Below
import Derived.Deep.Quiet
import Derived.Great.BuildSlice
import Derived.Test.YtgndjjdeopfdkaaGreatKLowerMeans0
/- texts SxA SxL of the proof of LowerMeansSaid -/
set_option maxHeartbeats 16000000
set_option maxRecDepth 20000
set_option linter.unusedVariables false
set_option linter.unusedSimpArgs false
namespace Go.SX
open Go.RowKit
section
structure Loc where
 base:Option Addr
 cap:Nat
inductive SV where
 |c (v:Value)
 |lp (i j k f:Nat)
 |os (i len:Nat)
 |agg (l:List SV)
 |xg (l:List SV)
 |fn (f:Fn) (first apz:List SV)
 |KN (t:TypeId) (v:SV)
mutual
def SV.rf(ρ:Nat->Loc):SV->Value
 | .c v=>v
 | .lp i j k f=> .pointer ((ρ i).base.map (·.add (j*k+f)))
 | .os i len=> .slice (ρ i).base len (ρ i).cap
 | .agg l=> .agg (SV.dW ρ l).toArray
 | .xg l=> .tuple (SV.dW ρ l).toArray
 | .fn f a b=> .func f (SV.dW ρ a).toArray (SV.dW ρ b).toArray
 | .KN t v=> .iface t (v.rf ρ)
def SV.dW(ρ:Nat->Loc):List SV->List Value
 |[]=>[]
 |v::r=>v.rf ρ::SV.dW ρ r
end
mutual
def SV.has(x:Nat):SV->Bool
 | .c _=>false
 | .lp i _ _ _=>Nat.beq i x
 | .os i _=>Nat.beq i x
 | .agg l=>SV.hass x l
 | .xg l=>SV.hass x l
 | .fn _ a b=>SV.hass x a||SV.hass x b
 | .KN _ v=>v.has x
def SV.hass(x:Nat):List SV->Bool
 |[]=>false
 |v::r=>v.has x||SV.hass x r
end
mutual
def SV.ren(θ:Nat->Option Nat):SV->SV
 | .c v=> .c v
 | .lp i j k f=>match θ i with|some i'=> .lp i' j k f|none=> .c (.pointer none)
 | .os i len=>match θ i with|some i'=> .os i' len|none=> .c (.slice none len 0)
 | .agg l=> .agg (SV.xY θ l)
 | .xg l=> .xg (SV.xY θ l)
 | .fn f a b=> .fn f (SV.xY θ a) (SV.xY θ b)
 | .KN t v=> .KN t (v.ren θ)
def SV.xY(θ:Nat->Option Nat):List SV->List SV
 |[]=>[]
 |v::r=>v.ren θ::SV.xY θ r
end
theorem SV.o9(ρ:Nat->Loc)(l:List SV):SV.dW ρ l=l.map (·.rf ρ):=by
 induction l with
 |nil=>rfl
 |cons a r ih=>simp[SV.dW,ih]
theorem SV.Oj(x:Nat)(l:List SV):SV.hass x l=true↔∃v∈l,v.has x=true:=by
 induction l with
 |nil=>simp[SV.hass]
 |cons a r ih=>simp[SV.hass,ih]
mutual
theorem SV.O3{ρ ρ':Nat->Loc}:∀(v:SV),(∀i,v.has i=true->ρ i=ρ' i)->v.rf ρ=v.rf ρ'
 | .c _,_=>rfl
 | .lp i j k f,h=>by simp only[SV.rf];rw[h i Pj]
 | .os i len,h=>by simp only[SV.rf];rw[h i Pj]
 | .agg l,h=>by simp only[SV.rf];rw[SV.vL l (λi hi=>h i Fg)]
 | .xg l,h=>by simp only[SV.rf];rw[SV.vL l (λi hi=>h i Fg)]
 | .fn f a b,h=>by
   simp only[SV.rf];rw[SV.vL a (λi hi=>h i (by simp[SV.has,hi])),SV.vL b (λi hi=>h i (by simp[SV.has,hi]))]
 | .KN t v,h=>by simp only[SV.rf];rw[SV.O3 v (λi hi=>h i Fg)]
theorem SV.vL{ρ ρ':Nat->Loc}:∀(l:List SV),(∀i,SV.hass i l=true->ρ i=ρ' i)->SV.dW ρ l=SV.dW ρ' l
 |[],_=>rfl
 |v::r,h=>by
  simp only[SV.dW];rw[SV.O3 v (λi hi=>h i (by simp[SV.hass,hi])),SV.vL r (λi hi=>h i (by simp[SV.hass,hi]))]
end
def SV.lt(nx:Nat)(v:SV):Prop:=∀i,v.has i=true->i<nx
def SV.M5(nx:Nat)(l:List SV):Prop:=∀i,SV.hass i l=true->i<nx
variable {nx:Nat} {l:List SV}
theorem SV.oV:SV.M5 nx l↔∀v∈l,v.lt nx:=by
 simp only[SV.M5,SV.lt,SV.Oj];exact⟨λh v hv i hi=>h i ⟨v,hv,hi⟩,λh i ⟨v,hv,hi⟩=>h v hv i hi⟩
variable {b:Nat} {v:SV}
theorem SV.lt.mono{a:Nat}(h:v.lt a)(hab:a<=b):v.lt b:=λi hi=>ahd (h i hi) hab
theorem SV.iW(v:Value):(SV.c v).lt nx:=λi h=>by simp[SV.has]at h
variable {i:Nat}
theorem SV.Xm{j k f:Nat}(h:i<nx):(SV.lp i j k f).lt nx:=λx hx=>by
 simp[SV.has]at hx;omega
theorem SV.yP{l:Nat}(h:i<nx):(SV.os i l).lt nx:=λx hx=>by
 simp[SV.has]at hx;omega
theorem SV.AV:(SV.agg l).lt nx↔SV.M5 nx l:=by simp[SV.lt,SV.M5,SV.has]
theorem SV.Vr:(SV.xg l).lt nx↔SV.M5 nx l:=by simp[SV.lt,SV.M5,SV.has]
theorem SV.aeA{t:TypeId}:(SV.KN t v).lt nx↔v.lt nx:=by simp[SV.lt,SV.has]
theorem SV.ajd{f:Fn}{a b:List SV}:(SV.fn f a b).lt nx↔SV.M5 nx a/\SV.M5 nx b:=by
 simp only[SV.lt,SV.M5,SV.has,amh];exact⟨λh=>⟨λi hi=>h i (.inl hi),λi hi=>h i (.inr hi)⟩,λh i hi=>hi.elim (h.1 i) (h.2 i)⟩
variable {ρ ρ':Nat->Loc}
theorem SV.aeK(h:v.lt nx)(hr:∀i<nx,ρ i=ρ' i):v.rf ρ=v.rf ρ':=
 SV.O3 v λi hi=>hr i (h i hi)
abbrev Env:=List (Nat×SV)
def Env.get:Env->Nat->Option SV
 |[],_=>none
 |(j,v)::r,t=>bif Nat.beq j t then some v else Env.get r t
theorem Env.yL(j:Nat)(v:SV)(r:Env)(t:Nat):Env.get ((j,v)::r) t=if j=t then some v else Env.get r t:=by
 cases hb:Nat.beq j t with
 |true=>rw[if_pos (ael hb)];simp[Env.get,hb]
 |false=>rw[if_neg (akz hb)];simp[Env.get,hb]
structure bR where
 holds:(Nat->Prop)->World->Prop
 stable:∀{R R':Nat->Prop} {w w':World},(∀b,R b->R' b)->(∀b,R b->w'.heap[b]? =w.heap[b]?)->holds R w->holds R' w'
structure Own where
 holds:Loc->(Nat->Prop)->World->Prop
 stable:∀{l:Loc} {F:Nat->Prop} {w w':World},(∀b,F b->w'.heap[b]? =w.heap[b]?)->holds l F w->holds l F w'
 lt:∀{l:Loc} {F:Nat->Prop} {w:World} {b:Nat},holds l F w->F b->b<w.heap.size
inductive b_ where
 |box (l:List SV) (T:TypeId)
 |rows (xs:List (List Value)) (k:Nat) (T:TypeId)
 |ext (o:Own)
def b_.holds(ρ:Nat->Loc)(l:Loc)(F:Nat->Prop)(w:World):b_->Prop
 | .box cs T=>∃b,l.base=some ⟨b,0,none⟩/\(∀x,F x↔x=b)/\w.heap[b]? =some (.cells (SV.dW ρ cs).toArray T (0,0))
 | .rows xs k T=>(∀r∈xs,r.length=k/\∀v∈r,v.oneCell'=true)/\xs.length<=l.cap/\
    ((l.base=none/\l.cap=0/\∀x,¬F x)\/
     ∃b off c,l.base=some ⟨b,off,none⟩/\(∀x,F x↔x=b)/\w.heap[b]? =some (.cells c T (0,0))/\off+l.cap*k<=c.size/\
      ∀i r,xs[i]? =some r->∀j v,r[j]? =some v->c[off+i*k+j]? =some v)
 | .ext o=>o.holds l F w
def b_.hass(x:Nat):b_->Bool
 | .box l _=>SV.hass x l
 |_=>false
def b_.lt(nx:Nat)(e:b_):Prop:=∀i,e.hass i=true->i<nx
def b_.ren(θ:Nat->Option Nat):b_->b_
 | .box l T=> .box (SV.xY θ l) T
 |e=>e
variable {F:Nat->Prop} {w:World}
theorem b_.qH{l:Loc}{e:b_}(hr:∀i,e.hass i=true->ρ i=ρ' i)(h:e.holds ρ l F w):e.holds ρ' l F w:=by
 cases e with
 |box cs T=>
  obtain⟨b,h1,h2,h3⟩:=h;exact⟨b,h1,h2,by rw[<-SV.vL cs (λi hi=>hr i hi)];exact h3⟩
 |rows xs k T=>exact h
 |ext o=>exact h
theorem b_.stable{ρ:Nat->Loc}{l:Loc}{F:Nat->Prop}{w w':World}{e:b_}(hf:∀b,F b->w'.heap[b]? =w.heap[b]?)(h:e.holds ρ l F w):e.holds ρ l F w':=by
 cases e with
 |box cs T=>
  obtain⟨b,h1,h2,h3⟩:=h;exact⟨b,h1,h2,by rw[hf b ((h2 b).2 rfl)];exact h3⟩
 |rows xs k T=>
  obtain⟨h0,h0',h⟩:=h;refine⟨h0,h0',?_⟩;rcases h with h|⟨b,off,c,h1,h2,h3,h4⟩
  ·exact .inl h
  ·exact .inr ⟨b,off,c,h1,h2,by rw[hf b ((h2 b).2 rfl)];exact h3,h4⟩
 |ext o=>exact o.stable hf h
theorem iT{α:Type}{xs:Array α}{x:α}(h:xs[i]? =some x):i<xs.size:=by
 rcases ack i xs.size with h'|h'
 ·exact h'
 ·simp[Array.getElem?_eq_none h']at h
theorem b_.size{ρ:Nat->Loc}{l:Loc}{F:Nat->Prop}{w:World}{e:b_}{b:Nat}(h:e.holds ρ l F w)(hb:F b):b<w.heap.size:=by
 cases e with
 |box cs T=>
  obtain⟨x,h1,h2,h3⟩:=h;have:=(h2 b).1 hb;subst this;exact iT h3
 |rows xs k T=>
  obtain⟨h0,h0',h⟩:=h;rcases h with h|⟨x,off,c,h1,h2,h3,h4⟩
  ·exact absurd hb (h.2.2 b)
  ·have:=(h2 b).1 hb;subst this;exact iT h3
 |ext o=>exact o.lt h hb
abbrev Heap:=List (Nat×b_)
structure Base where
 w0:World
 pin:List (Nat×Loc)
structure wz(B:Base)(R:Nat->Prop)(φ:Nat->Nat->Prop)(ρ:Nat->Loc)(nx:Nat)(H:Heap)(S:bR)(w:World):Prop where
 os:w.os=B.w0.os
 tape:w.tape=B.w0.tape
 output:w.output=B.w0.output
 size:B.w0.heap.size<=w.heap.size
 pin:∀p∈B.pin,p.1<nx/\ρ p.1=p.2
 ro:∀b,R b->b<w.heap.size
 qL:S.holds R w
 key:∀p∈H,p.1<nx/\p.2.lt nx
 jA:∀p∈H,p.2.holds ρ (ρ p.1) (φ p.1) w
 apart:∀p∈H,∀b,φ p.1 b->¬R b
 sep:H.Pairwise λp q=>p.1≠q.1/\∀b,φ p.1 b->¬φ q.1 b
def dO(B:Base)(ρ:Nat->Loc)(nx:Nat)(H:Heap)(S:bR)(w:World):Prop:=∃R φ,wz B R φ ρ nx H S w
def Ext(w w':World):Prop:=Below w.heap.size w w'
theorem Ext.refl(w:World):Ext w w:=Below.refl _ _
theorem Ext.trans{a b c:World}(h:Ext a b)(k:Ext b c):Ext a c:=Below.trans h (Below.mono k h.size)
structure Step(M:Nat->Prop)(w w':World):Prop where
 os:w'.os=w.os
 tape:w'.tape=w.tape
 output:w'.output=w.output
 size:w.heap.size<=w'.heap.size
 block:∀b,b<w.heap.size->¬M b->w'.heap[b]? =w.heap[b]?
variable {w':World}
theorem Step.I8(h:Ext w w'):Step (λ_=>False) w w':=⟨h.os,h.tape,h.output,h.size,λb hb _=>h.block b hb⟩
variable {B:Base} {H:Heap} {S:bR}
theorem wz.step{R:Nat->Prop}{φ:Nat->Nat->Prop}
 (h:wz B R φ ρ nx H S w) {M:Nat->Prop} (hs:Step M w w') (hR:∀b,R b->¬M b) (hH:∀p∈H,∀b,φ p.1 b->¬M b):wz B R φ ρ nx H S w' where
 os:=hs.os.trans h.os
 tape:=hs.tape.trans h.tape
 output:=hs.output.trans h.output
 size:=aiC h.size hs.size
 pin:=h.pin
 ro:=λb hb=>ahd (h.ro b hb) hs.size
 qL:=S.stable (λ_ hb=>hb) (λb hb=>hs.block b (h.ro b hb) (hR b hb)) h.qL
 key:=h.key
 jA:=λp hp=>b_.stable (λb hb=>hs.block b (b_.size (h.jA p hp) hb) (hH p hp b hb)) (h.jA p hp)
 apart:=h.apart
 sep:=h.sep
theorem dO.ext(h:dO B ρ nx H S w)(hs:Ext w w'):dO B ρ nx H S w':=by
 obtain⟨R,φ,h⟩:=h;exact⟨R,φ,h.step (Step.I8 hs) (λ_ _ h=>h) (λ_ _ _ _ h=>h)⟩
theorem dO.drew(h:dO B ρ nx H S w):dO B ρ nx H S {w with drawn:=w.drawn+1}:=
 h.ext ⟨rfl,rfl,rfl,Tw _,λ_ _=>rfl⟩
abbrev aC(x:Int):SV:= .c (.int .i64 x)
end
section
structure TI where
 size:Nat
 agg:Bool
 ai:Nat
 elem:Nat
 bytes:Nat
 ik:IntKind
 Q3:List (Nat×Nat×Nat)
 okf:Bool
 zero:List Value
def kindOf:TypeDesc->Nat
 | .slice _=>1| .array _ _=>2| .struct _=>3| .string=>4| .bool=>5| .int _=>6| .pointer _=>7| .map _ _=>8| .interface _=>9|_=>0
def xG:TypeDesc->Nat
 | .slice e=>e| .array _ e=>e| .pointer e=>e|_=>0
def aj7:TypeDesc->IntKind
 | .int k=>k|_=> .i64
def KV:TypeDesc->Bool
 | .struct _=>true| .array _ _=>true|_=>false
def DN:Option TypeDesc->Nat
 |none=>2
 |some d=>bif KV d then 1 else 0
def T_(P:Program):TypeDesc->List (Nat×Nat×Nat)
 | .struct fs=>fs.toList.map λf=>(f.offset,((P.info? f.type).map (·.size)).getD 0,DN (P.underlying f.type))
 |_=>[]
def ajk(P:Program):TypeDesc->Bool
 | .struct fs=>fs.toList.all λf=>(P.info? f.type).isSome
 |_=>true
def lu(P:Program)(t:TypeId):Option TI:=
 match P.info? t,P.underlying t with
 |some i,some d=>i.zero.map λz=>⟨i.size,KV d,kindOf d,xG d,i.bytes,aj7 d,T_ P d,ajk P d,z.cells.toList⟩
 |_,_=>none
structure Cx where
 P:Program
 B:Base
 n:Nat
 tab:List (Nat×TI)
def sD(t:Nat)(K:TI->Prop):List (Nat×TI)->Prop
 |[]=>False
 |(j,i)::r=>bif Nat.beq j t then K i else sD t K r
theorem dY{t:Nat}{K:TI->Prop}{P:Program}:∀{l:List (Nat×TI)},(∀p∈l,lu P p.1=some p.2)->sD t K l->∃i,lu P t=some i/\K i
 |[],_,h=>h.elim
 |(j,i)::r,hl,h=>by
  unfold sD at h;cases hb:Nat.beq j t with
  |true=>
   rw[hb]at h;have:=ael hb;subst this;exact⟨i,hl (j,i) aI,h⟩
  |false=>rw[hb]at h;exact dY (λp hp=>hl p (by simp[hp])) h
variable {t:TypeId}
theorem eD{P:Program}{ti:TI}(h:lu P t=some ti):∃i d z,P.info? t=some i/\P.underlying t=some d/\i.zero=some z/\
 ti=⟨i.size,KV d,kindOf d,xG d,i.bytes,aj7 d,T_ P d,ajk P d,z.cells.toList⟩:=by
 unfold lu at h;split at h
 ·rename_i i d h1 h2;simp only[Option.map_eq_some_iff]at h;obtain⟨z,hz,h⟩:=h;exact⟨i,d,z,h1,h2,hz,h.symm⟩
 ·cases h
theorem vz{P:Program}{d:TypeDesc}(h:P.underlying t=some d)(w:World):(isAgg t).run P w= .ok (KV d) w:=by
 unfold isAgg;simp only[Sem.run_bind,run_underlying h,Result.andThen_ok];cases d<;>rfl
theorem dG{P:Program}{i:TypeInfo}(h:P.info? t=some i)(w:World):(sizeOf t).run P w= .ok i.size w:=by
 simp[sizeOf,typeInfo,h]
structure Sat(n:Nat)(ρ:Nat->Loc)(nx:Nat)(env:Env)(a:Act):Prop where
 defers:a.defers=[]
 size:a.tmps.size=n
 val:∀t v,env.get t=some v->t<n->a.tmps[t]? =some (v.rf ρ)
 lt:∀t v,env.get t=some v->v.lt nx
def Ze(t:Nat)(K:SV->Prop):Env->Prop
 |[]=>False
 |(j,v)::r=>bif Nat.beq j t then K v else Ze t K r
theorem yE{t:Nat}{K:SV->Prop}:∀{env:Env},Ze t K env->∃v,env.get t=some v/\K v
 |[],h=>h.elim
 |(j,v)::r,h=>by
  unfold Ze at h;simp only[Env.get];cases hb:Nat.beq j t with
  |true=>rw[hb]at h;exact⟨v,rfl,h⟩
  |false=>rw[hb]at h;exact yE h
def xX(n:Nat)(env:Env)(x:Operand)(K:SV->Prop):Prop:=
 match x with
 | .tmp t=>bif Nat.ble n t then False else Ze t K env
 | .const v=>K (.c v)
 | .global g=>K (.c (.pointer (some ⟨g,0,none⟩)))
 | .func f=>K (.c (.func (.func f) #[] #[]))
variable {ρ:Nat->Loc} {nx:Nat} {env:Env} {K:SV->Prop}
theorem dB{n:Nat}{a:Act}{x:Operand}(hs:Sat n ρ nx env a)(h:xX n env x K):
 ∃v,K v/\a.eval x=v.rf ρ/\v.lt nx:=by
 cases x with
 |tmp t=>
  simp only[xX]at h;cases hb:Nat.ble n t with
  |true=>rw[hb]at h;exact h.elim
  |false=>
   rw[hb,cond_false]at h;obtain⟨v,hv,h⟩:=yE h;have ht:t<n:=by
    rcases ack t n with h'|h'
    ·exact h'
    ·rw[anb h']at hb;cases hb
   refine⟨_,h,?_,hs.lt t v hv⟩;have:=hs.val t v hv ht;simp[Act.eval,Array.getD_eq_getD_getElem?,this]
 |const v=>exact⟨_,h,rfl,SV.iW _⟩
 |global g=>exact⟨_,h,rfl,SV.iW _⟩
 |func f=>exact⟨_,h,rfl,SV.iW _⟩
def Mx(n:Nat)(env:Env)(K:List SV->Prop):List Operand->Prop
 |[]=>K []
 |x::r=>xX n env x λv=>Mx n env (λl=>K (v::l)) r
theorem oN{n:Nat}{ρ:Nat->Loc}{nx:Nat}{env:Env}{a:Act}(hs:Sat n ρ nx env a):∀{xs:List Operand} {K:List SV->Prop},Mx n env K xs->
 ∃l,K l/\xs.map a.eval=SV.dW ρ l/\SV.M5 nx l
 |[],K,h=>⟨[],h,rfl,λi hi=>by simp[SV.hass]at hi⟩
 |x::r,K,h=>by
  obtain⟨v,h1,h2,h3⟩:=dB hs h;obtain⟨l,h4,h5,h6⟩:=oN hs (xs:=r) h1;refine⟨v::l,h4,by simp[SV.dW,h2,h5],λi hi=> ?_⟩;simp only[SV.hass,amh]at hi;exact hi.elim (h3 i) (h6 i)
structure fF(k:IntKind)(z:Int)(K:Int->Prop):Prop where
 out:K (k.wrap z)
variable {k:IntKind} {z:Int}
theorem mZ{K:Int->Prop}:fF k z K=(K (k.wrap z)):=propext ⟨λh=>h.out,λh=>⟨h⟩⟩
structure iG(p:Prop)[Decidable p](K:Bool->Prop):Prop where
 out:(p->K true)/\(¬p->K false)
theorem BH{p:Prop}[Decidable p]{K:Bool->Prop}:iG p K=((p->K true)/\(¬p->K false)):=propext ⟨λh=>h.out,λh=>⟨h⟩⟩
structure yM(k:IntKind)(x y:Int)(K:Int->Prop):Prop where
 out:y≠0/\K (k.wrap (x.tdiv y))
variable {x y:Int}
theorem Cz{K:Int->Prop}:yM k x y K=(y≠0/\K (k.wrap (x.tdiv y))):=propext ⟨λh=>h.out,λh=>⟨h⟩⟩
structure x8(x y:Int)(K:Int->Prop):Prop where
 out:y≠0/\K (x.tmod y)
theorem OU{K:Int->Prop}:x8 x y K=(y≠0/\K (x.tmod y)):=propext ⟨λh=>h.out,λh=>⟨h⟩⟩
structure CJ(op:BinOp)(k:IntKind)(x y:Int)(K:Int->Prop):Prop where
 out:0<=y/\∃z,(match op with| .shl=>z=k.wrap (x*2^(min y.toNat k.bits))|_=>z=x.fdiv (2^(min y.toNat k.bits)))/\K z
variable {op:BinOp}
theorem EX{K:Int->Prop}:CJ op k x y K=(0<=y/\∃z,(match op with| .shl=>z=k.wrap (x*2^(min y.toNat k.bits))|_=>z=x.fdiv (2^(min y.toNat k.bits)))/\K z):=propext ⟨λh=>h.out,λh=>⟨h⟩⟩
def bitsOf(op:BinOp)(k:IntKind)(x y:Int):Int:=
 let a:=BitVec.ofInt k.bits x
 let b:=BitVec.ofInt k.bits y
 match op with
 | .and=>k.wrap (a&&&b).toNat
 | .or=>k.wrap (a|||b).toNat
 | .xor=>k.wrap (a^^^b).toNat
 |_=>k.wrap (a&&& ~~~b).toNat
structure Ci(op:BinOp)(k:IntKind)(x y:Int)(K:Int->Prop):Prop where
 out:K (bitsOf op k x y)
theorem vN{K:Int->Prop}:Ci op k x y K=(K (bitsOf op k x y)):=propext ⟨λh=>h.out,λh=>⟨h⟩⟩
structure mi(P:Program)(s:Sem Value)(K:SV->Prop):Prop where
 out:∃v,(∀w,s.run P w= .ok v w)/\K (.c v)
theorem yR{P:Program}{s:Sem Value}:mi P s K=(∃v,(∀w,s.run P w= .ok v w)/\K (.c v)):=propext ⟨λh=>h.out,λh=>⟨h⟩⟩
structure gZ(a:Addr)(S:bR)(K:SV->Prop):Prop where
 out:∃v,(∀R w,S.holds R w->w.cell? a=some v)/\K (.c v)
variable {S:bR}
theorem Io{a:Addr}:gZ a S K=(∃v,(∀R w,S.holds R w->w.cell? a=some v)/\K (.c v)):=propext ⟨λh=>h.out,λh=>⟨h⟩⟩
def cs:List Value->List SV
 |[]=>[]
 |v::r=> .c v::cs r
theorem mF(ρ:Nat->Loc)(l:List Value):SV.dW ρ (cs l)=l:=by
 induction l with
 |nil=>rfl
 |cons a r ih=>simp[cs,SV.dW,SV.rf,ih]
theorem x9(nx:Nat)(l:List Value):SV.M5 nx (cs l):=by
 induction l with
 |nil=>intro i hi;simp[cs,SV.hass]at hi
 |cons a r ih=>intro i hi;simp only[cs,SV.hass,SV.has,Bool.false_or]at hi;exact ih i hi
structure lK(a:Addr)(n:Nat)(S:bR)(K:List Value->Prop):Prop where
 out:∃l,l.length=n/\(∀R w,S.holds R w->∀j v,l[j]? =some v->w.cell? (a.add j)=some v)/\K l
theorem Oc{a:Addr}{n:Nat}{K:List Value->Prop}:lK a n S K=(∃l,l.length=n/\(∀R w,S.holds R w->∀j v,l[j]? =some v->w.cell? (a.add j)=some v)/\K l):=propext ⟨λh=>h.out,λh=>⟨h⟩⟩
structure rQ(xs:List (List Value))(j f:Nat)(K:Value->Prop):Prop where
 out:∃r v,xs[j]? =some r/\r[f]? =some v/\K v
variable {xs:List (List Value)} {j f:Nat}
theorem aqj{K:Value->Prop}:rQ xs j f K=(∃r v,xs[j]? =some r/\r[f]? =some v/\K v):=propext ⟨λh=>h.out,λh=>⟨h⟩⟩
structure G9(xs:List (List Value))(j f n:Nat)(K:List Value->Prop):Prop where
 out:∃r l,xs[j]? =some r/\l.length=n/\(r.drop f).take n=l/\K l
theorem Lf{n:Nat}{K:List Value->Prop}:G9 xs j f n K=(∃r l,xs[j]? =some r/\l.length=n/\(r.drop f).take n=l/\K l):=propext ⟨λh=>h.out,λh=>⟨h⟩⟩
structure dn(base:Option Addr)(len size:Nat)(z:Int)(K:SV->Prop):Prop where
 out:∃a,base=some a/\0<=z/\z<len/\K (.c (.pointer (some (a.add (z.toNat*size)))))
variable {base:Option Addr} {len size:Nat}
theorem Qh:dn base len size z K=(∃a,base=some a/\0<=z/\z<len/\K (.c (.pointer (some (a.add (z.toNat*size)))))):=propext ⟨λh=>h.out,λh=>⟨h⟩⟩
structure eP(i len m size:Nat)(z:Int)(K:SV->Prop):Prop where
 out:∃j:Nat,z=j/\j<len/\len<=m/\K (.lp i j size 0)
variable {i m:Nat}
theorem KJ:eP i len m size z K=(∃j:Nat,z=j/\j<len/\len<=m/\K (.lp i j size 0)):=propext ⟨λh=>h.out,λh=>⟨h⟩⟩
structure ny(base:Option Addr)(len cap size:Nat)(lo hi mx:Option Int)(K:SV->Prop):Prop where
 out:∃l h m:Nat,(match lo with|some z=>z=l|none=>l=0)/\(match hi with|some z=>z=h|none=>h=len)/\(match mx with|some z=>z=m|none=>m=cap)/\
  l<=h/\h<=m/\m<=cap/\(mx.isSome=true->hi.isSome=true)/\K (.c (.slice (if m=l then base else base.map (·.add (l*size))) (h-l) (m-l)))
theorem vU{cap:Nat}{lo hi mx:Option Int}:ny base len cap size lo hi mx K=(∃l h m:Nat,(match lo with|some z=>z=l|none=>l=0)/\(match hi with|some z=>z=h|none=>h=len)/\(match mx with|some z=>z=m|none=>m=cap)/\
 l<=h/\h<=m/\m<=cap/\(mx.isSome=true->hi.isSome=true)/\K (.c (.slice (if m=l then base else base.map (·.add (l*size))) (h-l) (m-l)))):=propext ⟨λh=>h.out,λh=>⟨h⟩⟩
structure aiO(i m:Nat)(z:Int)(K:SV->Prop):Prop where
 out:∃l:Nat,z=l/\l<=m/\K (.os i l)
theorem acK:aiO i m z K=(∃l:Nat,z=l/\l<=m/\K (.os i l)):=propext ⟨λh=>h.out,λh=>⟨h⟩⟩
def Wq(K:SV->Prop):List SV->Nat->Prop
 |[],_=>False
 |v::r,n=>bif Nat.beq n 0 then K v else Wq K r (Nat.pred n)
theorem vQ{K:SV->Prop}:∀{l:List SV} {n:Nat},Wq K l n->∃v,l[n]? =some v/\K v
 |[],_,h=>h.elim
 |v::r,n,h=>by
  unfold Wq at h;cases n with
  |zero=>exact⟨v,rfl,h⟩
  |succ n=>obtain⟨u,h1,h2⟩:=vQ (l:=r) (n:=n) h;exact⟨u,by simpa using h1,h2⟩
def agz(K:List SV->Prop):List SV->Nat->Nat->Prop
 |_,_,0=>K []
 |l,f,n+1=>Wq (λv=>agz (λr=>K (v::r)) l (f+1) n) l f
theorem Js{l:List SV}:∀{n f:Nat} {K:List SV->Prop},agz K l f n->∃r,r.length=n/\(∀j v,r[j]? =some v->l[f+j]? =some v)/\K r
 |0,f,K,h=>⟨[],rfl,by simp,h⟩
 |n+1,f,K,h=>by
  unfold agz at h;obtain⟨v,h1,h2⟩:=vQ h;obtain⟨r,h3,h4,h5⟩:=Js h2;refine⟨v::r,by simp[h3],λj u hj=> ?_,h5⟩;cases j with
  |zero=>simpa[h1]using hj
  |succ j=>have:=h4 j u (by simpa using hj);rw[<-this];congr 1;omega
def Bw(i:Nat)(K:b_->Prop):Heap->Prop
 |[]=>False
 |(j,e)::r=>bif Nat.beq j i then K e else Bw i K r
theorem mM{i:Nat}{K:b_->Prop}:∀{H:Heap},Bw i K H->∃e,(i,e)∈H/\K e
 |[],h=>h.elim
 |(j,e)::r,h=>by
  unfold Bw at h;cases hb:Nat.beq j i with
  |true=>rw[hb]at h;have:=ael hb;subst this;exact⟨e,by simp,h⟩
  |false=>rw[hb]at h;obtain⟨e',h1,h2⟩:=mM h;exact⟨e',by simp[h1],h2⟩
end
section
def kEq(a b:IntKind):Bool:=
 match a,b with
 | .i8,.i8| .i16,.i16| .i32,.i32| .i64,.i64| .u8,.u8| .u16,.u16| .u32,.u32| .u64,.u64=>true
 |_,_=>false
theorem pU{a b:IntKind}(h:kEq a b=true):a=b:=by
 cases a<;>cases b<;>first|rfl|(simp[kEq]at h)
def mD(op:BinOp)(k:IntKind)(a b:Int)(K:SV->Prop):Prop:=
 match op with
 | .add=>fF k (a+b) λz=>K (.c (.int k z))
 | .sub=>fF k (a-b) λz=>K (.c (.int k z))
 | .mul=>fF k (a*b) λz=>K (.c (.int k z))
 | .quo=>yM k a b λz=>K (.c (.int k z))
 | .rem=>x8 a b λz=>K (.c (.int k z))
 | .and| .or| .xor| .andNot=>Ci op k a b λz=>K (.c (.int k z))
 | .shl| .shr=>CJ op k a b λz=>K (.c (.int k z))
 | .eql=>iG (a=b) λt=>K (.c (.bool t))
 | .neq=>iG (a≠b) λt=>K (.c (.bool t))
 | .lss=>iG (a<b) λt=>K (.c (.bool t))
 | .leq=>iG (a<=b) λt=>K (.c (.bool t))
 | .gtr=>iG (a>b) λt=>K (.c (.bool t))
 | .geq=>iG (a>=b) λt=>K (.c (.bool t))
def LH:BinOp->Bool| .shl| .shr=>true|_=>false
def uS:List SV->Option (List Value)
 |[]=>some []
 | .c v::r=>(match uS r with|some l=>some (v::l)|none=>none)
 |_::_=>none
theorem B_(ρ:Nat->Loc):∀{l:List SV} {vs:List Value},uS l=some vs->SV.dW ρ l=vs
 |[],vs,h=>by simp[uS]at h;subst h;rfl
 | .c v::r,vs,h=>by
   unfold uS at h;split at h
   ·rename_i l hl;simp at h;subst h;simp[SV.dW,SV.rf,B_ ρ hl]
   ·cases h
 | .lp _ _ _ _::_,_,h=>by simp[uS]at h
 | .os _ _::_,_,h=>by simp[uS]at h
 | .agg _::_,_,h=>by simp[uS]at h
 | .xg _::_,_,h=>by simp[uS]at h
 | .fn _ _ _::_,_,h=>by simp[uS]at h
 | .KN _ _::_,_,h=>by simp[uS]at h
def ajw(cx:Cx)(op:BinOp)(t:TypeId)(ox oy:Operand)(x y:SV)(K:SV->Prop):Prop:=
 match x,y with
 | .c (.int k a),.c (.int k' b)=>bif LH op||kEq k k' then mD op k a b K else False
 | .c (.bool a),.c (.bool b)=>
   match op with
   | .eql=>sD t (λti=>bif Nat.beq ti.ai 5 then K (.c (.bool (a==b)))else False) cx.tab
   | .neq=>sD t (λti=>bif Nat.beq ti.ai 5 then K (.c (.bool (!(a==b))))else False) cx.tab
   |_=>False
 | .c a,.c b=>mi cx.P (do eqGuard op t ox oy a b;binOp op t a b) K
 | .agg a,.agg b=>(match uS a,uS b with
   |some va,some vb=>mi cx.P (do eqGuard op t ox oy (.agg va.toArray) (.agg vb.toArray);binOp op t (.agg va.toArray) (.agg vb.toArray)) K
   |_,_=>False)
 |_,_=>False
theorem qz{p:Prop}[Decidable p]{K:Bool->Prop}(h:iG p K):K (decide p):=by
 rw[BH]at h;by_cases hp:p
 ·rw[decide_eq_true hp];exact h.1 hp
 ·rw[decide_eq_false hp];exact h.2 hp
theorem aqD(P:Program)(op:BinOp)(t:TypeId)(x y:Operand)(k k':IntKind)(a b:Int)(w:World):
 (eqGuard op t x y (.int k a) (.int k' b)).run P w= .ok () w:=by
 unfold eqGuard;split<;>simp
theorem Ig(P:Program)(op:BinOp)(t:TypeId)(x y:Operand)(a b:Bool)(w:World):
 (eqGuard op t x y (.bool a) (.bool b)).run P w= .ok () w:=by
 unfold eqGuard;split<;>simp
variable {op:BinOp} {t:TypeId} {K:SV->Prop}
theorem Ut{P:Program}{k k':IntKind}{a b:Int}(hk:(LH op||kEq k k')=true)(h:mD op k a b K):
 ∃v,(∀w,(binOp op t (.int k a) (.int k' b)).run P w= .ok v w)/\K (.c v):=by
 cases op with
 |add=>obtain rfl:=pU iq;simp only[mD,mZ]at h;exact⟨_,λw=>by simp[binOp,Op.intArith],h⟩
 |sub=>obtain rfl:=pU iq;simp only[mD,mZ]at h;exact⟨_,λw=>by simp[binOp,Op.intArith],h⟩
 |mul=>obtain rfl:=pU iq;simp only[mD,mZ]at h;exact⟨_,λw=>by simp[binOp,Op.intArith],h⟩
 |quo=>obtain rfl:=pU iq;simp only[mD,Cz]at h;exact⟨_,λw=>by simp[binOp,Op.intDiv,h.1],h.2⟩
 |rem=>obtain rfl:=pU iq;simp only[mD,OU]at h;exact⟨_,λw=>by simp[binOp,Op.intDiv,h.1],h.2⟩
 |and=>obtain rfl:=pU iq;simp only[mD,vN,bitsOf]at h;exact⟨_,λw=>by simp only[binOp,Op.intBits];simp,h⟩
 |or=>obtain rfl:=pU iq;simp only[mD,vN,bitsOf]at h;exact⟨_,λw=>by simp only[binOp,Op.intBits];simp,h⟩
 |xor=>obtain rfl:=pU iq;simp only[mD,vN,bitsOf]at h;exact⟨_,λw=>by simp only[binOp,Op.intBits];simp,h⟩
 |andNot=>obtain rfl:=pU iq;simp only[mD,vN,bitsOf]at h;exact⟨_,λw=>by simp only[binOp,Op.intBits];simp,h⟩
 |shl=>simp only[mD,EX]at h;obtain⟨h0,z,rfl,hz⟩:=h;exact⟨_,λw=>by simp[binOp,Op.shift,amt.2 h0],hz⟩
 |shr=>simp only[mD,EX]at h;obtain⟨h0,z,rfl,hz⟩:=h;exact⟨_,λw=>by simp[binOp,Op.shift,amt.2 h0],hz⟩
 |eql=>obtain rfl:=pU iq;simp only[mD]at h;refine⟨_,λw=> ?_,qz h⟩;simp only[binOp,Op.intCmp];by_cases he:a=b<;>simp[he]
 |neq=>obtain rfl:=pU iq;simp only[mD]at h;refine⟨_,λw=> ?_,qz h⟩;simp only[binOp,Op.intCmp];by_cases he:a=b<;>simp[he]
 |lss=>obtain rfl:=pU iq;simp only[mD]at h;refine⟨_,λw=> ?_,qz h⟩;simp only[binOp,Op.intCmp];simp
 |leq=>obtain rfl:=pU iq;simp only[mD]at h;refine⟨_,λw=> ?_,qz h⟩;simp only[binOp,Op.intCmp];simp
 |gtr=>obtain rfl:=pU iq;simp only[mD]at h;refine⟨_,λw=> ?_,qz h⟩;simp only[binOp,Op.intCmp];simp
 |geq=>obtain rfl:=pU iq;simp only[mD]at h;refine⟨_,λw=> ?_,qz h⟩;simp only[binOp,Op.intCmp];simp
theorem D9{P:Program}{ti:TI}(h1:lu P t=some ti)(hk:Nat.beq ti.ai 5=true)(a b:Bool)(w:World):
 (Op.equal t (.bool a) (.bool b)).run P w= .ok (a==b) w:=by
 obtain⟨i,d,z,hi,hd,hz0,rfl⟩:=eD h1;have hk':=ael hk;cases d<;>simp[kindOf]at hk'
 unfold Op.equal;rw[show Op.maxDepth=Nat.succ 9999 from rfl];unfold Op.equalIn;simp only[Sem.run_bind,run_underlying hd,Result.andThen_ok]
 rfl
theorem ZJ{cx:Cx}(hok:∀p∈cx.tab,lu cx.P p.1=some p.2){ox oy:Operand}{x y:SV}(h:ajw cx op t ox oy x y K)(ρ:Nat->Loc):
 ∃v,(∀w,(do eqGuard op t ox oy (x.rf ρ) (y.rf ρ);binOp op t (x.rf ρ) (y.rf ρ):Sem Value).run cx.P w= .ok v w)/\K (.c v):=by
 unfold ajw at h;split at h
 ·rename_i k a k' b;cases hb:(LH op||kEq k k')with
  |false=>rw[hb]at h;exact h.elim
  |true=>
   rw[hb]at h;obtain⟨v,h1,h2⟩:=Ut (P:=cx.P) (t:=t) hb h;exact⟨v,λw=>by simp only[SV.rf,Sem.run_bind,aqD,Result.andThen_ok];exact h1 w,h2⟩
 ·rename_i a b;split at h
  ·obtain⟨ti,h1,h2⟩:=dY hok h;cases hk:Nat.beq ti.ai 5 with
   |false=>rw[hk]at h2;exact h2.elim
   |true=>
    rw[hk]at h2;refine⟨_,λw=> ?_,h2⟩;simp only[SV.rf,Sem.run_bind,Ig,Result.andThen_ok,binOp];rw[D9 h1 hk]
    rfl
  ·obtain⟨ti,h1,h2⟩:=dY hok h;cases hk:Nat.beq ti.ai 5 with
   |false=>rw[hk]at h2;exact h2.elim
   |true=>
    rw[hk]at h2;refine⟨_,λw=> ?_,h2⟩;simp only[SV.rf,Sem.run_bind,Ig,Result.andThen_ok,binOp];rw[D9 h1 hk]
    rfl
  ·exact h.elim
 ·rw[yR]at h;exact h
 ·split at h
  ·rename_i va vb ha hb;rw[yR]at h;obtain⟨v,h1,h2⟩:=h;refine⟨v,λw=> ?_,h2⟩;simp only[SV.rf,B_ ρ ha,B_ ρ hb];exact h1 w
  ·exact h.elim
 ·exact h.elim
end
section
theorem fG(b off n:Nat):(Addr.mk b off none).add n=⟨b,off+n,none⟩:=by
 unfold Addr.add;split<;>simp_all
def ab2(cx:Cx)(t:TypeId)(p:SV)(H:Heap)(S:bR)(K:SV->Prop):Prop:=
 sD t (λti=>match p with
  | .lp i j k f=>Bw i (λe=>match e with
     | .box l _=>bif ti.agg then agz (λr=>K (.agg r)) l (j*k+f) ti.size else Wq K l (j*k+f)
     | .rows xs k' _=>bif Nat.beq k k' then(bif ti.agg then G9 xs j f ti.size (λl=>K (.agg (cs l)))else rQ xs j f λv=>K (.c v))else False
     | .ext _=>False) H
  | .c (.pointer (some a))=>bif ti.agg then lK a ti.size S (λl=>K (.agg (cs l)))else gZ a S K
  |_=>False) cx.tab
variable {t:TypeId} {ti:TI} {w:World}
theorem uT{P:Program}(h:lu P t=some ti)(hag:ti.agg=false){a:Addr}{v:Value}(hc:w.cell? a=some v):
 (loadVar t a).run P w= .ok v w:=by
 obtain⟨i,d,z,hi,hd,hz0,rfl⟩:=eD h;unfold loadVar;simp only[Sem.run_bind,vz hd,Result.andThen_ok];simp only at hag;simp[hag,hc]
theorem uU{P:Program}(h:lu P t=some ti)(hag:ti.agg=true){a:Addr}{l:List Value}(hl:l.length=ti.size)
 (hc:∀j v,l[j]? =some v->w.cell? (a.add j)=some v):(loadVar t a).run P w= .ok (.agg l.toArray) w:=by
 obtain⟨i,d,z,hi,hd,hz0,rfl⟩:=eD h;unfold loadVar;simp only[Sem.run_bind,vz hd,Result.andThen_ok];simp only at hag hl;have:=run_loadCells_list (P:=P) w a l hc;simp[hag,dG hi,<-hl,this]
theorem mP{base:Option Addr}{b off:Nat}(h:base=some ⟨b,off,none⟩)(n:Nat):base.map (·.add n)=some ⟨b,off+n,none⟩:=by
 subst h;simp[fG]
theorem K5{cx:Cx}(hok:∀p∈cx.tab,lu cx.P p.1=some p.2){p:SV}{ρ:Nat->Loc}{nx:Nat}{H:Heap}{S:bR}{K:SV->Prop}
 (h:ab2 cx t p H S K) (hH:∀q∈H,q.2.lt nx):∃v,v.lt nx/\K v/\∀w,dO cx.B ρ nx H S w->(Instr.loadAt t (p.rf ρ)).run cx.P w= .ok (v.rf ρ) w:=by
 unfold ab2 at h;obtain⟨ti,hti,h⟩:=dY hok h;cases p with
 |lp i j k f=>
  obtain⟨e,he,h⟩:=mM h;cases e with
  |box l T=>
   dsimp only at h;have hlt:=hH _ he;cases hag:ti.agg with
   |true=>
    rw[hag,cond_true]at h;obtain⟨r,hr1,hr2,hr3⟩:=Js h;refine⟨_,?_,hr3,λw hw=> ?_⟩
    ·rw[SV.AV,SV.oV];intro v hv x hx;obtain⟨n,hn⟩:=List.getElem?_of_mem hv;exact hlt x ((SV.Oj x l).2 ⟨v,adu (hr2 n v hn),hx⟩)
    ·obtain⟨R,φ,hw⟩:=hw;obtain⟨b,hb1,hb2,hb3⟩:=hw.jA _ he;simp only at hb1;simp only[SV.rf,mP hb1,Instr.loadAt,Instr.sureAddr,Sem.run_bind,Sem.run_pure,Result.andThen_ok,aiD];refine uU hti hag (by simp[SV.o9,hr1]) λn v hn=> ?_;rw[fG];simp only[SV.o9,ab5,Option.map_eq_some_iff]at hn;obtain⟨u,hu,rfl⟩:=hn;have:=hr2 n u hu;simp[World.cell?,hb3,SV.o9,this]
   |false=>
    rw[hag,cond_false]at h;obtain⟨v,hv1,hv2⟩:=vQ h;refine⟨v,λx hx=>hlt x ((SV.Oj x l).2 ⟨v,adu hv1,hx⟩),hv2,λw hw=> ?_⟩;obtain⟨R,φ,hw⟩:=hw;obtain⟨b,hb1,hb2,hb3⟩:=hw.jA _ he;simp only at hb1;simp only[SV.rf,mP hb1,Instr.loadAt,Instr.sureAddr,Sem.run_bind,Sem.run_pure,Result.andThen_ok,aiD];exact uT hti hag (by simp[World.cell?,hb3,SV.o9,hv1])
  |rows xs k' T=>
   dsimp only at h;cases hk:Nat.beq k k' with
   |false=>rw[hk]at h;exact h.elim
   |true=>
    rw[hk,cond_true]at h;obtain rfl:=ael hk;cases hag:ti.agg with
    |true=>
     rw[hag,cond_true]at h;rw[Lf]at h;obtain⟨r,l,h1,h2,h3,h4⟩:=h;refine⟨_,SV.AV.2 (x9 _ _),h4,λw hw=> ?_⟩;obtain⟨R,φ,hw⟩:=hw;obtain⟨hr,hcap,hent⟩:=hw.jA _ he;have hjl:j<xs.length:=(abH.1 h1).1;rcases hent with⟨hb,hc0,_⟩|⟨b,off,c,hb1,hb2,hb3,hb4,hb5⟩
     ·exfalso;omega
     ·simp only at hb1;simp only[SV.rf,mP hb1,Instr.loadAt,Instr.sureAddr,Sem.run_bind,Sem.run_pure,Result.andThen_ok];rw[mF];refine uU hti hag h2 λn v hn=> ?_;rw[fG];have hr':r[f+n]? =some v:=by
       rw[<-h3]at hn;rw[al2]at hn;split at hn
       ·rw[anl]at hn;exact hn
       ·cases hn
      have:=hb5 j r h1 (f+n) v hr';simp only[World.cell?,hb3,Option.isSome_none,aob,if_false];rw[<-this];congr 1;omega
    |false=>
     rw[hag,cond_false]at h;rw[aqj]at h;obtain⟨r,v,h1,h2,h3⟩:=h;refine⟨_,SV.iW _,h3,λw hw=> ?_⟩;obtain⟨R,φ,hw⟩:=hw;obtain⟨hr,hcap,hent⟩:=hw.jA _ he;have hjl:j<xs.length:=(abH.1 h1).1;rcases hent with⟨hb,hc0,_⟩|⟨b,off,c,hb1,hb2,hb3,hb4,hb5⟩
     ·exfalso;omega
     ·simp only at hb1;simp only[SV.rf,mP hb1,Instr.loadAt,Instr.sureAddr,Sem.run_bind,Sem.run_pure,Result.andThen_ok];refine uT hti hag ?_;have:=hb5 j r h1 f v h2;simp only[World.cell?,hb3,Option.isSome_none,aob,if_false];rw[<-this];congr 1;omega
  |ext o=>exact h.elim
 |c pv=>
  match pv,h with
  | .pointer (some a),h=>
  dsimp only at h;cases hag:ti.agg with
  |true=>
   rw[hag,cond_true]at h;rw[Oc]at h;obtain⟨l,h1,h2,h3⟩:=h;refine⟨_,SV.AV.2 (x9 _ _),h3,λw hw=> ?_⟩;obtain⟨R,φ,hw⟩:=hw;simp only[SV.rf,Instr.loadAt,Instr.sureAddr,Sem.run_bind,Sem.run_pure,Result.andThen_ok,mF];exact uU hti hag h1 (h2 R w hw.qL)
  |false=>
   rw[hag,cond_false]at h;rw[Io]at h;obtain⟨v,h1,h2⟩:=h;refine⟨_,SV.iW _,h2,λw hw=> ?_⟩;obtain⟨R,φ,hw⟩:=hw;simp only[SV.rf,Instr.loadAt,Instr.sureAddr,Sem.run_bind,Sem.run_pure,Result.andThen_ok];exact uT hti hag (h1 R w hw.qL)
 |_=>exact h.elim
end
section
section
variable {cx:Cx} (hok:∀p∈cx.tab,lu cx.P p.1=some p.2)
def ada(K:Nat×Nat×Nat->Prop):List (Nat×Nat×Nat)->Nat->Prop
 |[],_=>False
 |v::r,n=>bif Nat.beq n 0 then K v else ada K r (Nat.pred n)
theorem yT{K:Nat×Nat×Nat->Prop}:∀{l:List (Nat×Nat×Nat)} {n:Nat},ada K l n->∃v,l[n]? =some v/\K v
 |[],_,h=>h.elim
 |v::r,n,h=>by
  unfold ada at h;cases n with
  |zero=>exact⟨v,rfl,h⟩
  |succ n=>obtain⟨u,h1,h2⟩:=yT (l:=r) (n:=n) h;exact⟨u,by simpa using h1,h2⟩
def qg(cx:Cx)(t:TypeId)(p:SV)(f:Nat)(K:SV->Prop):Prop:=
 sD t (λti=>ada (λx=>bif Nat.beq x.2.1 0 then False else
  match p with
  | .lp i j k g=>K (.lp i j k (g+x.1))
  | .c (.pointer (some a))=>K (.c (.pointer (some (a.add x.1))))
  |_=>False) ti.Q3 f) cx.tab
theorem add_add(a:Addr)(m n:Nat):(a.add m).add n=a.add (m+n):=by
 unfold Addr.add;by_cases hm:m=0
 ·subst hm;simp
 ·by_cases hn:n=0
  ·subst hn;simp
  ·simp[hm,hn,alF]
variable {t:TypeId} {f:Nat}
theorem Jc{P:Program}{ti:TI}(h:lu P t=some ti){x:Nat×Nat×Nat}(hf:ti.Q3[f]? =some x):
 ∃(fs:Array Field) (g:Field),P.underlying t=some (.struct fs)/\fs[f]? =some g/\g.offset=x.1/\
  x.2.1=((P.info? g.type).map (·.size)).getD 0/\x.2.2=DN (P.underlying g.type):=by
 obtain⟨i,d,z,hi,hd,hz0,rfl⟩:=eD h;simp only at hf;unfold T_ at hf;split at hf
 ·rename_i fs;simp only[ab5,Option.map_eq_some_iff]at hf;obtain⟨g,hg,rfl⟩:=hf;exact⟨fs,g,hd,by simpa using hg,rfl,rfl,rfl⟩
 ·simp at hf
variable {K:SV->Prop} {ρ:Nat->Loc} {nx:Nat}
include hok in
theorem Ko{p:SV}(hp:p.lt nx)(h:qg cx t p f K)
 (hb:∀i j k g,p= .lp i j k g->(ρ i).base.isSome=true):∃v,v.lt nx/\K v/\∀w,(Instr.fieldAt t (p.rf ρ) f).run cx.P w= .ok (v.rf ρ) w:=by
 unfold qg at h;obtain⟨ti,hti,h⟩:=dY hok h;obtain⟨x,hx,h⟩:=yT h;obtain⟨fs,g,hd,hg,ho,hs,_⟩:=Jc hti hx;cases hz:Nat.beq x.2.1 0 with
 |true=>rw[hz]at h;exact h.elim
 |false=>
  rw[hz,cond_false]at h;have hnz:x.2.1≠0:=akz hz;have TQ:∀(a:Addr) (w:World),(fieldPlace a g).run cx.P w= .ok (a.add x.1) w:=by
   intro a w;cases hq:cx.P.info? g.type with
   |none=>simp[hs,hq]at hnz
   |some gi=>
    have:gi.size≠0:=by simpa[hs,hq]using hnz
    simp[fieldPlace,dG hq,this,ho]
  cases p with
  |lp i j k g'=>
   refine⟨_,?_,h,λw=> ?_⟩
   ·intro y hy;exact hp y hy
   ·have hbs:=hb i j k g' rfl;obtain⟨a,ha⟩:=aon.1 hbs;simp[SV.rf,ha,Instr.fieldAt,run_underlying hd,hg,Instr.sureAddr,TQ,add_add,alF]
  |c pv=>
   match pv,h with
   | .pointer (some a),h=>
     exact⟨_,SV.iW _,h,λw=>by simp[SV.rf,Instr.fieldAt,run_underlying hd,hg,Instr.sureAddr,TQ]⟩
  |_=>exact h.elim
def aaI(cx:Cx)(t:TypeId)(p:SV)(f:Nat)(K:SV->Prop):Prop:=
 sD t (λti=>ada (λx=>
  match p with
  | .agg l=>bif Nat.beq x.2.2 0 then Wq K l x.1 else bif Nat.beq x.2.2 1 then agz (λr=>K (.agg r)) l x.1 x.2.1 else False
  |_=>False) ti.Q3 f) cx.tab
include hok in
theorem TG{p:SV}(hp:p.lt nx)(h:aaI cx t p f K):
 ∃v,v.lt nx/\K v/\∀w,(Instr.field t (p.rf ρ) f).run cx.P w= .ok (v.rf ρ) w:=by
 unfold aaI at h;obtain⟨ti,hti,h⟩:=dY hok h;obtain⟨x,hx,h⟩:=yT h;obtain⟨fs,g,hd,hg,ho,hs,ha⟩:=Jc hti hx;cases p with
 |agg l=>
  dsimp only at h;have hlt:=SV.oV.1 (SV.AV.1 hp);cases aj9:Nat.beq x.2.2 0 with
  |false=>
   rw[aj9,cond_false]at h;cases hag:Nat.beq x.2.2 1 with
   |false=>rw[hag]at h;exact h.elim
   |true=>
   rw[hag,cond_true]at h;obtain⟨r,hr1,hr2,hr3⟩:=Js h;refine⟨_,SV.AV.2 (SV.oV.2 λv hv=> ?_),hr3,λw=> ?_⟩
   ·obtain⟨n,hn⟩:=List.getElem?_of_mem hv;exact hlt v (adu (hr2 n v hn))
   ·have hag':∃gd,cx.P.underlying g.type=some gd/\KV gd=true:=by
     have h1:=ael hag;cases hq:cx.P.underlying g.type with
     |none=>rw[ha,hq]at h1;simp[DN]at h1
     |some gd=>
      rw[ha,hq]at h1;cases hgd:KV gd with
      |true=>exact⟨gd,rfl,hgd⟩
      |false=>simp[DN,hgd]at h1
    obtain⟨gd,hgd,hga⟩:=hag';have hgi:∃gi,cx.P.info? g.type=some gi:=by
     cases hq:cx.P.info? g.type with
     |none=>simp[Program.underlying,hq]at hgd
     |some gi=>exact⟨gi,rfl⟩
    obtain⟨gi,hgi⟩:=hgi;have hsz:x.2.1=gi.size:=by simp[hs,hgi]
    simp only[SV.rf,Instr.field,Sem.run_bind,run_underlying hd,Result.andThen_ok,hg,asAgg,Sem.run_pure,part,vz hgd,hga,if_true,dG hgi,ho];simp only[SV.o9,Result.ok.injEq,Value.agg.injEq,and_true];rw[<-hsz];apply al8;simp only[Array.toList_extract,List.extract_eq_take_drop];apply an_;intro n;simp only[Nat.add_sub_cancel_left,al2,anl,ab5];split
    ·rename_i hn;have hnr:n<r.length:=by rw[hr1];exact hn
     have:=hr2 n r[n] (YL hnr);rw[this,YL hnr]
    ·rename_i hn;rw[aiQ aa];rfl
  |true=>
   rw[aj9,cond_true]at h;obtain⟨v,hv1,hv2⟩:=vQ h;refine⟨v,hlt v (adu hv1),hv2,λw=> ?_⟩;have hag':∃gd,cx.P.underlying g.type=some gd/\KV gd=false:=by
    have h1:=ael aj9;cases hq:cx.P.underlying g.type with
    |none=>rw[ha,hq]at h1;simp[DN]at h1
    |some gd=>
     rw[ha,hq]at h1;cases hgd:KV gd with
     |true=>simp[DN,hgd]at h1
     |false=>exact⟨gd,rfl,hgd⟩
   obtain⟨gd,hgd,hga⟩:=hag';simp only[SV.rf,Instr.field,Sem.run_bind,run_underlying hd,Result.andThen_ok,hg,asAgg,Sem.run_pure,part,vz hgd,hga,ho];simp[SV.o9,hv1]
 |_=>exact h.elim
end
end
section
def ahn(K:List SV->Prop):List SV->Nat->SV->Prop
 |[],_,_=>False
 |u::r,n,v=>bif Nat.beq n 0 then K (v::r)else ahn (λr'=>K (u::r')) r (Nat.pred n) v
theorem Tm:∀{l:List SV} {n:Nat} {v:SV} {K:List SV->Prop},ahn K l n v->n<l.length/\K (l.set n v)
 |[],_,_,_,h=>h.elim
 |u::r,n,v,K,h=>by
  unfold ahn at h;cases n with
  |zero=>exact⟨by simp,h⟩
  |succ n=>obtain⟨h1,h2⟩:=Tm (l:=r) (n:=n) h;exact⟨by simpa using h1,h2⟩
def cB{α:Type}(l:List α)(off:Nat):List α->List α
 |[]=>l
 |v::r=>cB (l.set off v) (off+1) r
def RA(K:List SV->Prop):List SV->Nat->List SV->Prop
 |l,_,[]=>K l
 |l,off,v::r=>ahn (λl'=>RA K l' (off+1) r) l off v
theorem Aw:∀{vs l:List SV} {off:Nat} {K:List SV->Prop},RA K l off vs->(vs=[]\/off+vs.length<=l.length)/\K (cB l off vs)
 |[],_,_,_,h=>⟨.inl rfl,h⟩
 |v::r,l,off,K,h=>by
  unfold RA at h;obtain⟨h1,h2⟩:=Tm h;obtain⟨h3,h4⟩:=Aw h2;refine⟨.inr ?_,h4⟩;rcases h3 with rfl|h3
  ·simp;omega
  ·simp at h3|-;omega
theorem jr{α:Type}:∀(vs l:List α) (off:Nat),(cB l off vs).length=l.length
 |[],_,_=>rfl
 |v::r,l,off=>by simp[cB,jr r]
theorem K4{α β:Type}(g:α->β):∀(vs l:List α) (off:Nat),(cB l off vs).map g=cB (l.map g) off (vs.map g)
 |[],_,_=>rfl
 |v::r,l,off=>by simp[cB,K4 g r,alq]
theorem CB{α:Type}:∀{vs l:List α} {off:Nat} {x:α},x∈cB l off vs->x∈l\/x∈vs
 |[],_,_,_,h=> .inl h
 |v::r,l,off,x,h=>by
  rcases CB (vs:=r) h with h|h
  ·rcases anz h with h|h
   ·exact .inl h
   ·exact .inr pV
  ·exact .inr pV
def Jr(K:List SV->Prop):SV->Prop
 | .agg l=>K l
 | .c (.agg a)=>K (cs a.toList)
 | .c (.bool b)=>K [.c (.bool b)]
 | .c (.int k n)=>K [.c (.int k n)]
 | .c (.string s)=>K [.c (.string s)]
 | .c (.pointer a)=>K [.c (.pointer a)]
 | .c (.slice a l n)=>K [.c (.slice a l n)]
 | .c (.map r)=>K [.c (.map r)]
 | .c (.func f a b)=>K [.c (.func f a b)]
 | .c .nilFunc=>K [.c .nilFunc]
 | .c (.iface t v)=>K [.c (.iface t v)]
 | .c .nilIface=>K [.c .nilIface]
 | .lp i j k f=>K [.lp i j k f]
 | .os i l=>K [.os i l]
 | .fn f a b=>K [.fn f a b]
 | .KN t v=>K [.KN t v]
 |_=>False
variable {nx:Nat}
theorem uo{K:List SV->Prop}{v:SV}(hv:v.lt nx)(h:Jr K v):∃l,K l/\SV.M5 nx l/\∀ρ,(v.rf ρ).cells=(SV.dW ρ l).toArray:=by
 have one:∀u:SV,u.lt nx->SV.M5 nx [u]:=λu hu=>SV.oV.2 (by simpa using hu);cases v with
 |agg l=>exact⟨l,h,SV.AV.1 hv,λρ=>rfl⟩
 |c u=>
  match u,h with
  | .agg a,h=>exact⟨_,h,x9 _ _,λρ=>by rw[mF];rfl⟩
  | .bool b,h| .int k n,h| .string s,h| .pointer a,h| .slice a l n,h| .map r,h| .func f a b,h| .nilFunc,h| .iface t v,h| .nilIface,h=>exact⟨_,h,one _ (SV.iW _),λρ=>rfl⟩
 |xg l=>exact h.elim
 |lp i j k f=>exact⟨_,h,one _ hv,λρ=>rfl⟩
 |os i l=>exact⟨_,h,one _ hv,λρ=>rfl⟩
 |fn f a b=>exact⟨_,h,one _ hv,λρ=>rfl⟩
 |KN t v=>exact⟨_,h,one _ hv,λρ=>rfl⟩
def ab0(K:List SV->Prop)(Q3:List (Nat×Nat×Nat)):List SV->List (Nat×SV)->Prop
 |l,[]=>K l
 |l,(i,v)::r=>ada (λx=>Jr (λvs=>bif Nat.beq vs.length x.2.1 then(bif Nat.beq vs.length 0 then False else RA (λl'=>ab0 K Q3 l' r) l x.1 vs)else False) v) Q3 i
def G7(K:List SV->Prop)(size:Nat):List SV->List (Nat×SV)->Prop
 |l,[]=>K l
 |l,(i,v)::r=>Jr (λvs=>bif Nat.beq vs.length size then(bif Nat.beq vs.length 0 then False else RA (λl'=>G7 K size l' r) l (i*size) vs)else False) v
theorem D8:∀(vs:List Value) (cells:Array Value) (off j:Nat),
 (vs.zipIdx j).foldl (λcs (x:Value×Nat)=>cs.setIfInBounds (off+x.2) x.1) cells=(cB cells.toList (off+j) vs).toArray
 |[],cells,off,j=>by simp[cB]
 |v::r,cells,off,j=>by
  simp only[List.zipIdx_cons,ahb];rw[D8 r _ off (j+1)];simp[cB,Array.toList_setIfInBounds,alF]
variable {place:Nat->Option (Nat×Nat)} {off size:Nat}
theorem R8{cells:Array Value}{i:Nat}{v:Value}{rest:List (Nat×Value)}(hp:place i=some (off,size))
 (hs:v.cells.size=size) (hf:off+v.cells.size<=cells.size):Instr.fill place cells ((i,v)::rest)=Instr.fill place (cB cells.toList off v.cells.toList).toArray rest:=by
 simp only[Instr.fill,hp];have:(decide (v.cells.size≠size)||decide (off+v.cells.size>cells.size))=false:=by simp[hs];omega
 rw[if_neg (by simp[hs];omega)]
 congr 1
 have:=D8 v.cells.toList cells off 0;rw[amr]at this;rw[<-this];rw[<-Array.foldl_toList];simp
theorem Cu(ρ:Nat->Loc)(vs l:List SV)(off:Nat):SV.dW ρ (cB l off vs)=cB (SV.dW ρ l) off (SV.dW ρ vs):=by
 simp only[SV.o9,K4]
theorem j5(ρ:Nat->Loc)(l:List SV):(SV.dW ρ l).length=l.length:=by simp[SV.o9]
theorem BB{vs l:List SV}(h1:SV.M5 nx l)(h2:SV.M5 nx vs):SV.M5 nx (cB l off vs):=
 SV.oV.2 λx hx=>(CB hx).elim (SV.oV.1 h1 x) (SV.oV.1 h2 x)
theorem Nw{Q3:List (Nat×Nat×Nat)}{place:Nat->Option (Nat×Nat)}(hpl:∀i x,Q3[i]? =some x->place i=some (x.1,x.2.1)){nx:Nat}:
 ∀{ps:List (Nat×SV)} {l:List SV} {K:List SV->Prop},SV.M5 nx l->(∀p∈ps,p.2.lt nx)->ab0 K Q3 l ps->
 ∃l',K l'/\SV.M5 nx l'/\∀ρ,Instr.fill place (SV.dW ρ l).toArray (ps.map λp=>(p.1,p.2.rf ρ))=some (SV.dW ρ l').toArray
 |[],l,K,hl,_,h=>⟨l,h,hl,λρ=>rfl⟩
 |(i,v)::r,l,K,hl,hp,h=>by
  unfold ab0 at h;obtain⟨x,hx,h⟩:=yT h;obtain⟨vs,h,hvs,hc⟩:=uo (hp (i,v) aI) h;cases hb:Nat.beq vs.length x.2.1 with
  |false=>rw[hb]at h;exact h.elim
  |true=>
   rw[hb,cond_true]at h;have hlen:=ael hb;cases hb0:Nat.beq vs.length 0 with
   |true=>rw[hb0]at h;exact h.elim
   |false=>
   rw[hb0,cond_false]at h;have agW:=akz hb0;obtain⟨h1,h2⟩:=Aw h;obtain⟨l',h3,h4,h5⟩:=Nw hpl (ps:=r) (BB hl hvs) (λp hp'=>hp p (by simp[hp'])) h2;have h1':=h1.resolve_left (by rintro rfl;simp at agW);refine⟨l',h3,h4,λρ=> ?_⟩;rw[afY,R8 (hpl i x hx) (by rw[hc ρ];simp[j5,hlen]) (by rw[hc ρ];simp[j5];exact h1')];have h5:=h5 ρ;rw[Cu]at h5;rw[hc ρ];simpa using h5
theorem Et{size:Nat}{nx:Nat}:
 ∀{ps:List (Nat×SV)} {l:List SV} {K:List SV->Prop},SV.M5 nx l->(∀p∈ps,p.2.lt nx)->G7 K size l ps->
 ∃l',K l'/\SV.M5 nx l'/\∀ρ,Instr.fill (λi=>some (i*size,size)) (SV.dW ρ l).toArray (ps.map λp=>(p.1,p.2.rf ρ))=some (SV.dW ρ l').toArray
 |[],l,K,hl,_,h=>⟨l,h,hl,λρ=>rfl⟩
 |(i,v)::r,l,K,hl,hp,h=>by
  unfold G7 at h;obtain⟨vs,h,hvs,hc⟩:=uo (hp (i,v) aI) h;cases hb:Nat.beq vs.length size with
  |false=>rw[hb]at h;exact h.elim
  |true=>
   rw[hb,cond_true]at h;have hlen:=ael hb;cases hb0:Nat.beq vs.length 0 with
   |true=>rw[hb0]at h;exact h.elim
   |false=>
   rw[hb0,cond_false]at h;have agW:=akz hb0;obtain⟨h1,h2⟩:=Aw h;obtain⟨l',h3,h4,h5⟩:=Et (ps:=r) (BB hl hvs) (λp hp'=>hp p (by simp[hp'])) h2;have h1':=h1.resolve_left (by rintro rfl;simp at agW);refine⟨l',h3,h4,λρ=> ?_⟩;rw[afY,R8 (off:=i*size) (size:=size) rfl (by rw[hc ρ];simp[j5,hlen]) (by rw[hc ρ];simp[j5];exact h1')];have h5:=h5 ρ;rw[Cu]at h5;rw[hc ρ];simpa using h5
def ahr(n:Nat)(env:Env)(K:List (Nat×SV)->Prop):List (Nat×Operand)->Prop
 |[]=>K []
 |(i,x)::r=>xX n env x λv=>ahr n env (λl=>K ((i,v)::l)) r
theorem aoP{n:Nat}{ρ:Nat->Loc}{nx:Nat}{env:Env}{a:Act}(hs:Sat n ρ nx env a):∀{xs:List (Nat×Operand)} {K:List (Nat×SV)->Prop},ahr n env K xs->
 ∃l,K l/\(xs.map λp=>(p.1,a.eval p.2))=(l.map λp=>(p.1,p.2.rf ρ))/\∀p∈l,p.2.lt nx
 |[],K,h=>⟨[],h,rfl,by simp⟩
 |(i,x)::r,K,h=>by
  obtain⟨v,h1,h2,h3⟩:=dB hs h;obtain⟨l,h4,h5,h6⟩:=aoP hs (xs:=r) h1;exact⟨(i,v)::l,h4,by simp[h2,h5],λp hp=>(abr.1 hp).elim (λe=>e▸h3) (h6 p)⟩
section
variable {cx:Cx} (hok:∀p∈cx.tab,lu cx.P p.1=some p.2)
def aaq(cx:Cx)(t:TypeId)(ps:List (Nat×SV))(K:SV->Prop):Prop:=
 sD t (λti=>bif Nat.beq ti.ai 3&&ti.okf then ab0 (λl=>K (.agg l)) ti.Q3 (cs ti.zero) ps else False) cx.tab
variable {t:TypeId} {K:SV->Prop}
include hok in
theorem UR{ps:List (Nat×SV)}(hp:∀p∈ps,p.2.lt nx)(h:aaq cx t ps K):
 ∃v,v.lt nx/\K v/\∀ρ w,(Instr.build t (ps.map λp=>(p.1,p.2.rf ρ)).toArray).run cx.P w= .ok (v.rf ρ) w:=by
 unfold aaq at h;obtain⟨ti,hti,h⟩:=dY hok h;cases hk:(Nat.beq ti.ai 3&&ti.okf)with
 |false=>rw[hk]at h;exact h.elim
 |true=>
  rw[hk,cond_true]at h;obtain⟨i,d,z,hi,hd,hz0,rfl⟩:=eD hti;simp only[afF]at hk;obtain⟨hk1,hk2⟩:=hk;have hk':=ael hk1;cases d<;>simp[kindOf]at hk'
  rename_i fs;simp only at h;have hm:∀l:List Field,(l.all λf=>(cx.P.info? f.type).isSome)=true->
   l.mapM (λf=>(cx.P.info? f.type).map λi=>(f.offset,i.size))=some (l.map λf=>(f.offset,((cx.P.info? f.type).map (·.size)).getD 0)):=by
   intro l;induction l with
   |nil=>intro _;rfl
   |cons f r ih=>
    intro hl;simp only[List.all_cons,afF]at hl;obtain⟨fi,hfi⟩:=aon.1 hl.1;simp[List.mapM_cons,hfi,ih hl.2]
  have hm':=hm fs.toList hk2;obtain⟨l',h1,h2,h3⟩:=Nw (place:=λj=>(((fs.toList.map λf=>(f.offset,((cx.P.info? f.type).map (·.size)).getD 0))).toArray)[j]?) (λj x hx=>by
   simp only[T_,ab5,Option.map_eq_some_iff,amF]at hx|-
   obtain⟨g,hg,rfl⟩:=hx;exact⟨g,hg,rfl⟩) (x9 nx _) hp h
  refine⟨_,SV.AV.2 h2,h1,λρ w=> ?_⟩;refine run_build w t _ _ ?_;unfold Program.built;simp only[hi,hd,hz0,hm'];have:=h3 ρ;rw[mF]at this;simpa using this
def aid(n:Nat)(env:Env)(K:Option Int->Prop):Option Operand->Prop
 |none=>K none
 |some x=>xX n env x λv=>match v with| .c (.int _ z)=>K (some z)|_=>False
variable {ρ:Nat->Loc} {env:Env}
theorem Kv{n:Nat}{a:Act}(hs:Sat n ρ nx env a){x:Option Operand}{K:Option Int->Prop}(h:aid n env K x):
 ∃z,K z/\((z=none/\x.map a.eval=none)\/∃u k,z=some u/\x.map a.eval=some (.int k u)):=by
 cases x with
 |none=>exact⟨none,h,.inl ⟨rfl,rfl⟩⟩
 |some x=>
  obtain⟨v,h1,h2,h3⟩:=dB hs h;split at h1
  ·rename_i k z;exact⟨some z,h1,.inr ⟨z,k,rfl,by simp[h2,SV.rf]⟩⟩
  ·exact h1.elim
def Zk(cx:Cx)(t:TypeId)(x:SV)(H:Heap)(lo hi mx:Option Int)(K:SV->Prop):Prop:=
 sD t (λti=>bif Nat.beq ti.ai 1 then
  (match x with
   | .c (.slice base len cap)=>sD ti.elem (λte=>ny base len cap te.size lo hi mx K) cx.tab
   | .os i _=>(match lo,hi,mx with
     |none,some z,none=>sD ti.elem (λ_=>Bw i (λe=>match e with| .rows xs _ _=>aiO i xs.length z K|_=>False) H) cx.tab
     |_,_,_=>False)
   |_=>False)else False) cx.tab
theorem fC(P:Program)(k:IntKind)(z:Int)(l y:Nat)(code:BoundsCode)(w:World)(hz:z=l)(hl:l<=y):(Instr.sliceBound (.int k z) y code).run P w= .ok l w:=by
 subst hz;have:=run_sliceBound (P:=P) (w:=w) k (l:Int) y code aa aa;simpa using this
include hok in
theorem Uc{x:SV}{H:Heap}{S:bR}{lo hi mx:Option Int}{vlo vhi vmx:Option Value}
 (h:Zk cx t x H lo hi mx K) (hx:x.lt nx)
 (hlo:(lo=none/\vlo=none)\/∃u k,lo=some u/\vlo=some (.int k u)) (hhi:(hi=none/\vhi=none)\/∃u k,hi=some u/\vhi=some (.int k u))
 (hmx:(mx=none/\vmx=none)\/∃u k,mx=some u/\vmx=some (.int k u)):
 ∃v,v.lt nx/\K v/\∀w,dO cx.B ρ nx H S w->(Instr.sliceAt t (x.rf ρ) vlo vhi vmx).run cx.P w= .ok (v.rf ρ) w:=by
 unfold Zk at h;obtain⟨ti,hti,h⟩:=dY hok h;cases hk:Nat.beq ti.ai 1 with
 |false=>rw[hk]at h;exact h.elim
 |true=>
  rw[hk,cond_true]at h;obtain⟨i,d,z,hi0,hd,hz0,rfl⟩:=eD hti;have hk':=ael hk;cases d<;>simp[kindOf]at hk'
  rename_i e;cases x with
  |c pv=>
   match pv,h with
   | .slice base len cap,h=>
     obtain⟨te,hte,h⟩:=dY hok h;obtain⟨ie,de,ze,hie,hde,hze,rfl⟩:=eD hte;simp only[xG]at hie;rw[vU]at h;obtain⟨l,hh,m,e1,e2,e3,b1,b2,b3,b4,hK⟩:=h;refine⟨_,SV.iW _,hK,λw _=> ?_⟩;simp only[SV.rf,Instr.sliceAt,Instr.slice,Sem.run_bind,run_underlying hd,Result.andThen_ok,Instr.sliceBounds];rcases hmx with⟨rfl,rfl⟩|⟨um,km,rfl,rfl⟩
     ·simp only at e3;subst e3;rcases hhi with⟨rfl,rfl⟩|⟨uh,kh,rfl,rfl⟩
      ·simp only at e2;subst e2;rcases hlo with⟨rfl,rfl⟩|⟨ul,kl,rfl,rfl⟩
       ·simp only at e1;subst e1;simp[dG hie]
       ·simp only at e1;simp[dG hie,fC cx.P kl ul l hh _ w e1 b1]
      ·simp only at e2;rcases hlo with⟨rfl,rfl⟩|⟨ul,kl,rfl,rfl⟩
       ·simp only at e1;subst e1;simp[dG hie,fC cx.P kh uh hh m _ w e2 b2]
       ·simp only at e1;simp[dG hie,fC cx.P kh uh hh m _ w e2 b2,fC cx.P kl ul l hh _ w e1 b1]
     ·simp only at e3;rcases hhi with⟨rfl,rfl⟩|⟨uh,kh,rfl,rfl⟩
      ·simp at b4
      ·simp only at e2;rcases hlo with⟨rfl,rfl⟩|⟨ul,kl,rfl,rfl⟩
       ·simp only at e1;subst e1;simp[dG hie,fC cx.P km um m cap _ w e3 b3,fC cx.P kh uh hh m _ w e2 b2]
       ·simp only at e1;simp[dG hie,fC cx.P km um m cap _ w e3 b3,fC cx.P kh uh hh m _ w e2 b2,fC cx.P kl ul l hh _ w e1 b1]
  |os i len=>
   dsimp only at h
   match lo,hi,mx,h,hlo,hhi,hmx with
   |none,some z,none,h,hlo,hhi,hmx=>
    obtain⟨te,hte,h⟩:=dY hok h;obtain⟨ie,de,ze,hie,hde,hze,rfl⟩:=eD hte;simp only[xG]at hie;obtain⟨en,hen,h⟩:=mM h;cases en with
    |rows xs k T=>
     dsimp only at h;rw[acK]at h;obtain⟨l,rfl,hl,hK⟩:=h;rcases hlo with⟨_,rfl⟩|⟨_,_,h',_⟩
     case inr=>cases h'
     rcases hmx with⟨_,rfl⟩|⟨_,_,h',_⟩
     case inr=>cases h'
     rcases hhi with⟨h',_⟩|⟨uh,kh,h',rfl⟩
     case inl=>cases h'
     obtain rfl:uh=(l:Int):=by simpa using h'.symm
     refine⟨_,SV.yP Ff,hK,λw hw=> ?_⟩;obtain⟨R,φ,hw⟩:=hw;obtain⟨_,hcap,_⟩:=hw.jA _ hen;simp only at hcap;have hb:=fC cx.P kh (l:Int) l (ρ i).cap .sliceAcap w rfl (aiC hl hcap);have hadd:(ρ i).base.map (·.add 0)=(ρ i).base:=by cases(ρ i).base<;>simp[Addr.add]
     simp only[SV.rf,Instr.sliceAt,Instr.slice,Sem.run_bind,run_underlying hd,Result.andThen_ok,Instr.sliceBounds];simp[dG hie,hb,hadd]
    |_=>exact h.elim
  |_=>exact h.elim
end
end
section
structure ltK(j n:Nat)(K:Prop):Prop where
 out:j<n/\K
theorem TZ{j n:Nat}{K:Prop}:ltK j n K=(j<n/\K):=propext ⟨λh=>h.out,λh=>⟨h⟩⟩
section
variable {cx:Cx} (hok:∀p∈cx.tab,lu cx.P p.1=some p.2)
def ajI(cx:Cx)(t:TypeId)(x iv:SV)(H:Heap)(K:SV->Prop):Prop:=
 sD t (λti=>bif Nat.beq ti.ai 1 then sD ti.elem (λte=>
  match iv with
  | .c (.int _ z)=>
    (match x with
     | .c (.slice base len _)=>dn base len te.size z K
     | .os i len=>Bw i (λe=>match e with
       | .rows xs k _=>bif Nat.beq k te.size then eP i len xs.length k z K else False
       | .box _ _=>(match z with| .ofNat n=>bif Nat.ble len n then False else K (.lp i 0 0 (n*te.size))|_=>False)
       |_=>False) H
     |_=>False)
  |_=>False) cx.tab else False) cx.tab
variable {t:TypeId} {x:SV} {ρ:Nat->Loc} {nx:Nat} {K:SV->Prop}
include hok in
theorem aal{iv:SV}{H:Heap}{S:bR}(h:ajI cx t x iv H K)(hx:x.lt nx):
 ∃v,v.lt nx/\K v/\∀w,dO cx.B ρ nx H S w->(Instr.indexAt t (x.rf ρ) (iv.rf ρ)).run cx.P w= .ok (v.rf ρ) w:=by
 unfold ajI at h;obtain⟨ti,hti,h⟩:=dY hok h;cases hk:Nat.beq ti.ai 1 with
 |false=>rw[hk]at h;exact h.elim
 |true=>
  rw[hk,cond_true]at h;obtain⟨i,d,z,hi0,hd,hz0,rfl⟩:=eD hti;have hk':=ael hk;cases d<;>simp[kindOf]at hk'
  rename_i e;obtain⟨te,hte,h⟩:=dY hok h;obtain⟨ie,de,ze,hie,hde,hze,rfl⟩:=eD hte;simp only[xG]at hie
  match iv,h with
  | .c (.int ik z),h=>
    cases x with
    |c pv=>
     match pv,h with
     | .slice base len cap,h=>
       dsimp only at h;rw[Qh]at h;obtain⟨a,rfl,h0,h1,hK⟩:=h;refine⟨_,SV.iW _,hK,λw _=> ?_⟩;simp[SV.rf,Instr.indexAt,asIntOf,run_underlying hd,h0,h1,dG hie]
    |os i len=>
     dsimp only at h;obtain⟨en,hen,h⟩:=mM h;cases en with
     |rows xs k T=>
      dsimp only at h;cases hkk:Nat.beq k ie.size with
      |false=>rw[hkk]at h;exact h.elim
      |true=>
       rw[hkk,cond_true]at h;have hks:=ael hkk;rw[KJ]at h;obtain⟨j,rfl,hj,hl,hK⟩:=h;refine⟨_,SV.Xm Ff,hK,λw hw=> ?_⟩;obtain⟨R,φ,hw⟩:=hw;obtain⟨_,hcap,hent⟩:=hw.jA _ hen;simp only at hcap hent;rcases hent with⟨hb,hc0,_⟩|⟨b,off,c,hb1,hb2,hb3,hb4,hb5⟩
       ·exfalso;omega
       ·have hji:(0:Int)<=(j:Int)/\(j:Int)<(len:Int):=by omega
        simp[SV.rf,hb1,Instr.indexAt,asIntOf,run_underlying hd,hj,dG hie,<-hks]
     |box l T=>
      dsimp only at h
      match z,h with
      | .ofNat n,g=>
        dsimp only at g;cases hb:Nat.ble len n with
        |true=>rw[hb]at g;exact g.elim
        |false=>
         rw[hb,cond_false]at g;have hn:n<len:=by
          rcases ack n len with h'|h'
          ·exact h'
          ·rw[anb h']at hb;cases hb
         refine⟨_,SV.Xm Ff,g,λw hw=> ?_⟩;obtain⟨R,φ,hw⟩:=hw;obtain⟨b,hb1,hb2,hb3⟩:=hw.jA _ hen;simp only at hb1;simp[SV.rf,hb1,Instr.indexAt,asIntOf,run_underlying hd,hn,dG hie]
     |_=>exact h.elim
    |_=>exact h.elim
def unQ(op:UnOp)(x:SV)(K:SV->Prop):Prop:=
 match op,x with
 | .not,.c (.bool true)=>K (.c (.bool false))
 | .not,.c (.bool false)=>K (.c (.bool true))
 | .neg,.c (.int k n)=>fF k (0-n) λz=>K (.c (.int k z))
 |_,_=>False
theorem acO{P:Program}{op:UnOp}(h:unQ op x K):∃v,K (.c v)/\∀w,(Op.unary op (x.rf ρ)).run P w= .ok v w:=by
 unfold unQ at h;split at h
 ·exact⟨_,h,λw=>by simp[SV.rf,Op.unary]⟩
 ·exact⟨_,h,λw=>by simp[SV.rf,Op.unary]⟩
 ·rw[mZ]at h;exact⟨_,h,λw=>by simp[SV.rf,Op.unary,Op.intArith]⟩
 ·exact h.elim
def agQ(cx:Cx)(s d:TypeId)(x:SV)(K:SV->Prop):Prop:=
 sD s (λ_=>sD d (λti=>match x with
  | .c (.int _ n)=>bif Nat.beq ti.ai 6 then fF ti.ik n (λz=>K (.c (.int ti.ik z)))else False
  |_=>False) cx.tab) cx.tab
include hok in
theorem XK{s d:TypeId}(h:agQ cx s d x K):∃v,K (.c v)/\∀w,(convert s d (x.rf ρ)).run cx.P w= .ok v w:=by
 unfold agQ at h;obtain⟨t1,ht1,h⟩:=dY hok h;obtain⟨t2,ht2,h⟩:=dY hok h;obtain⟨i1,d1,z1,hi1,hd1,hz1,rfl⟩:=eD ht1;obtain⟨i2,d2,z2,hi2,hd2,hz2,rfl⟩:=eD ht2
 match x,h with
 | .c (.int k n),h=>
   dsimp only at h;cases hk:Nat.beq (kindOf d2) 6 with
   |false=>rw[hk]at h;exact h.elim
   |true=>
    rw[hk,cond_true]at h;have hk':=ael hk;cases d2<;>simp[kindOf]at hk'
    rw[mZ]at h;refine⟨_,h,λw=> ?_⟩;simp[SV.rf,convert,run_underlying hd1,run_underlying hd2,Conv.intToInt,aj7]
def ajh(x:SV)(i:Nat)(K:SV->Prop):Prop:=
 match x with
 | .xg l=>Wq K l i
 | .c (.tuple a)=>Wq K (cs a.toList) i
 |_=>False
theorem W_{P:Program}{i:Nat}(hx:x.lt nx)(h:ajh x i K):∃v,v.lt nx/\K v/\∀w,(Instr.extract (x.rf ρ) i).run P w= .ok (v.rf ρ) w:=by
 match x,h with
 | .xg l,h=>
   obtain⟨v,h1,h2⟩:=vQ h;exact⟨v,SV.oV.1 (SV.Vr.1 hx) v (adu h1),h2,λw=>by simp[SV.rf,Instr.extract,SV.o9,h1]⟩
 | .c (.tuple a),h=>
   obtain⟨v,h1,h2⟩:=vQ h;refine⟨v,SV.oV.1 (x9 nx a.toList) v (adu h1),h2,λw=> ?_⟩;have h3:a[i]? =some (v.rf ρ):=by
    have:=mF ρ a.toList;rw[SV.o9]at this;rw[<-amH,<-this];simp[h1]
   simp[SV.rf,Instr.extract,h3]
def aaG(cx:Cx)(t:TypeId)(x:SV)(K:SV->Prop):Prop:=sD t (λti=>bif Nat.beq ti.ai 9 then False else K (.KN t x)) cx.tab
include hok in
theorem U3(h:aaG cx t x K):K (.KN t x)/\∀ρ w,(Instr.makeInterface t (x.rf ρ)).run cx.P w= .ok ((SV.KN t x).rf ρ) w:=by
 unfold aaG at h;obtain⟨ti,hti,h⟩:=dY hok h;obtain⟨i,d,z,hi,hd,hz,rfl⟩:=eD hti;cases hk:Nat.beq (kindOf d) 9 with
 |true=>rw[hk]at h;exact h.elim
 |false=>
  rw[hk,cond_false]at h;refine⟨h,λρ w=> ?_⟩;have:∀ms,d≠.interface ms:=by rintro ms rfl;simp[kindOf]at hk
  unfold Instr.makeInterface;simp only[Sem.run_bind,run_underlying hd,Result.andThen_ok];cases d<;>first|(exact absurd rfl (this _))|simp[SV.rf]
def alS(x:SV)(H:Heap)(K:SV->Prop):Prop:=
 match x with
 | .c (.pointer (some a))=>K (.c (.pointer (some a)))
 | .lp i j k f=>Bw i (λe=>match e with| .box _ _=>K (.lp i j k f)| .rows xs _ _=>ltK j xs.length (K (.lp i j k f))|_=>False) H
 | .fn (.func f) a b=>K (.fn (.func f) a b)
 | .c (.func (.func f) a b)=>K (.c (.func (.func f) a b))
 | .KN t v=>K (.KN t v)
 |_=>False
def ajx(cx:Cx)(t:TypeId)(x:SV)(K:SV->Prop):Prop:=
 sD t (λti=>match x with
  | .c (.slice _ n _)=>bif Nat.beq ti.ai 1 then K (.c (.int .i64 n))else False
  | .os _ n=>bif Nat.beq ti.ai 1 then K (.c (.int .i64 n))else False
  | .c (.string s)=>bif Nat.beq ti.ai 4 then K (.c (.int .i64 s.size))else False
  |_=>False) cx.tab
include hok in
theorem Y6{ty:TypeId}{ts:Array TypeId}{args:Array Value}(ht:ts[0]? =some t)(ha:args[0]? =some (x.rf ρ))(h:ajx cx t x K):
 ∃v,K (.c v)/\∀w,(Builtin.len_ ts ty args).run cx.P w= .ok v w:=by
 unfold ajx at h;obtain⟨ti,hti,h⟩:=dY hok h;obtain⟨i,d,z,hi,hd,hz,rfl⟩:=eD hti
 match x,h,ha with
 | .c (.slice a n c),h1,ha1=>
   dsimp only at h1;clear h ha;cases hk:Nat.beq (kindOf d) 1 with
   |false=>rw[hk]at h1;exact h1.elim
   |true=>
    rw[hk,cond_true]at h1;have hk':=ael hk;cases d<;>simp[kindOf]at hk'
    exact⟨_,h1,λw=>by simp[Builtin.len_,ht,ha1,SV.rf,run_underlying hd,goInt]⟩
 | .os i n,h1,ha1=>
   dsimp only at h1;clear h ha;cases hk:Nat.beq (kindOf d) 1 with
   |false=>rw[hk]at h1;exact h1.elim
   |true=>
    rw[hk,cond_true]at h1;have hk':=ael hk;cases d<;>simp[kindOf]at hk'
    exact⟨_,h1,λw=>by simp[Builtin.len_,ht,ha1,SV.rf,run_underlying hd,goInt]⟩
 | .c (.string s),h1,ha1=>
   dsimp only at h1;clear h ha;cases hk:Nat.beq (kindOf d) 4 with
   |false=>rw[hk]at h1;exact h1.elim
   |true=>
    rw[hk,cond_true]at h1;have hk':=ael hk;cases d<;>simp[kindOf]at hk'
    exact⟨_,h1,λw=>by simp[Builtin.len_,ht,ha1,SV.rf,run_underlying hd,goInt]⟩
def mmK(mx:Bool)(k:IntKind)(K:SV->Prop):Int->List SV->Prop
 |x,[]=>K (.c (.int k x))
 |x,.c (.int _ y)::r=>(match mx with
  |true=>iG (y>x) λb=>match b with|true=>mmK mx k K y r|false=>mmK mx k K x r
  |false=>iG (y<x) λb=>match b with|true=>mmK mx k K y r|false=>mmK mx k K x r)
 |_,_=>False
theorem JC{P:Program}{k:IntKind}{K:SV->Prop}{ρ:Nat->Loc}:∀{r:List SV} {x:Int},mmK true k K x r->∃v,K (.c v)/\∀w,((SV.dW ρ r).foldlM Builtin.max2 (.int k x)).run P w= .ok v w
 |[],x,h=>⟨_,h,λw=>by simp[SV.dW]⟩
 | .c (.int k' y)::r,x,h=>by
   unfold mmK at h;have h:=qz h;by_cases hy:y>x
   ·rw[decide_eq_true hy]at h;obtain⟨v,h1,h2⟩:=JC (ρ:=ρ) (P:=P) h;exact⟨v,h1,λw=>by simp only[SV.dW,SV.rf,List.foldlM_cons,Sem.run_bind,Builtin.max2,Sem.run_pure,Result.andThen_ok,if_pos hy,h2]⟩
   ·rw[decide_eq_false hy]at h;obtain⟨v,h1,h2⟩:=JC (ρ:=ρ) (P:=P) h;exact⟨v,h1,λw=>by simp only[SV.dW,SV.rf,List.foldlM_cons,Sem.run_bind,Builtin.max2,Sem.run_pure,Result.andThen_ok,if_neg hy,h2]⟩
theorem Kr{P:Program}{k:IntKind}{K:SV->Prop}{ρ:Nat->Loc}:∀{r:List SV} {x:Int},mmK false k K x r->∃v,K (.c v)/\∀w,((SV.dW ρ r).foldlM Builtin.min2 (.int k x)).run P w= .ok v w
 |[],x,h=>⟨_,h,λw=>by simp[SV.dW]⟩
 | .c (.int k' y)::r,x,h=>by
   unfold mmK at h;have h:=qz h;by_cases hy:y<x
   ·rw[decide_eq_true hy]at h;obtain⟨v,h1,h2⟩:=Kr (ρ:=ρ) (P:=P) h;exact⟨v,h1,λw=>by simp only[SV.dW,SV.rf,List.foldlM_cons,Sem.run_bind,Builtin.min2,Sem.run_pure,Result.andThen_ok,if_pos hy,h2]⟩
   ·rw[decide_eq_false hy]at h;obtain⟨v,h1,h2⟩:=Kr (ρ:=ρ) (P:=P) h;exact⟨v,h1,λw=>by simp only[SV.dW,SV.rf,List.foldlM_cons,Sem.run_bind,Builtin.min2,Sem.run_pure,Result.andThen_ok,if_neg hy,h2]⟩
def OJ(cx:Cx)(b:Builtin)(ts:List TypeId)(args:List SV)(K:SV->Prop):Prop:=
 match b,ts,args with
 | .len,t::_,x::_=>ajx cx t x K
 | .max,_,.c (.int k x)::r=>mmK true k K x r
 | .min,_,.c (.int k x)::r=>mmK false k K x r
 |_,_,_=>False
end
end
section
def FU(cx:Cx)(t:TypeId)(p:SV)(f:Nat)(H:Heap)(K:SV->Prop):Prop:=
 match p with
 | .lp i j k g=>Bw i (λe=>match e with
    | .box _ _=>qg cx t (.lp i j k g) f K
    | .rows xs _ _=>ltK j xs.length (qg cx t (.lp i j k g) f K)
    |_=>False) H
 | .c v=>qg cx t (.c v) f K
 |_=>False
structure ajs(cx:Cx)(o:Op)(env:Env)(H:Heap)(S:bR)(K:SV->Prop):Prop where
 out:∃v,K v/\∀(ρ:Nat->Loc) nx a w (d:Option Tmp) (type:TypeId) (pos:String) (af:Array Edge) (g:Option (Nat×Bool)),Sat cx.n ρ nx env a->dO cx.B ρ nx H S w->
  v.lt nx/\(execOp a.eval ⟨d,o,type,pos,af,g⟩).run cx.P w= .ok (.value (v.rf ρ)) w
variable {o:Op} {env:Env} {H:Heap} {S:bR} {K:SV->Prop}
theorem afi{cx:Cx}:ajs cx o env H S K=(∃v,K v/\∀(ρ:Nat->Loc) nx a w (d:Option Tmp) (type:TypeId) (pos:String) (af:Array Edge) (g:Option (Nat×Bool)),Sat cx.n ρ nx env a->dO cx.B ρ nx H S w->
 v.lt nx/\(execOp a.eval ⟨d,o,type,pos,af,g⟩).run cx.P w= .ok (.value (v.rf ρ)) w):=propext ⟨λh=>h.out,λh=>⟨h⟩⟩
structure ajK(cx:Cx)(s d:TypeId)(a:SV)(H:Heap)(S:bR)(K:SV->Prop):Prop where
 out:∃v,K (.c v)/\∀(ρ:Nat->Loc) nx w,dO cx.B ρ nx H S w->(convert s d (a.rf ρ)).run cx.P w= .ok v w
theorem VO{cx:Cx}{s d:TypeId}{a:SV}:ajK cx s d a H S K=(∃v,K (.c v)/\∀(ρ:Nat->Loc) nx w,dO cx.B ρ nx H S w->(convert s d (a.rf ρ)).run cx.P w= .ok v w):=propext ⟨λh=>h.out,λh=>⟨h⟩⟩
structure Ce(cx:Cx)(t:TypeId)(a b:SV)(ok:Bool)(H:Heap)(S:bR)(K:SV->Prop):Prop where
 out:∃v,K (.c v)/\∀(ρ:Nat->Loc) nx w,dO cx.B ρ nx H S w->(Instr.lookup t (a.rf ρ) (b.rf ρ) ok).run cx.P w= .ok v w
def ais(cx:Cx)(s d:TypeId)(a:SV)(H:Heap)(S:bR)(K:SV->Prop):Prop:=
 match a with
 | .os i n=>ajK cx s d (.os i n) H S K
 | .c (.slice b l c)=>ajK cx s d (.c (.slice b l c)) H S K
 |a=>agQ cx s d a K
def opQ(cx:Cx)(o:Op)(env:Env)(H:Heap)(S:bR)(K:SV->Prop):Prop:=
 match o with
 | .move x=>xX cx.n env x K
 | .assign x=>xX cx.n env x K
 | .pick c a b=>xX cx.n env c λv=>(match v with| .c (.bool true)=>xX cx.n env a K| .c (.bool false)=>xX cx.n env b K|_=>False)
 | .load t x=>xX cx.n env x λp=>ab2 cx t p H S K
 | .fieldAddr t x f=>xX cx.n env x λp=>FU cx t p f H K
 | .field t x f=>xX cx.n env x λp=>aaI cx t p f K
 | .indexAddr t x i=>xX cx.n env x λa=>xX cx.n env i λb=>ajI cx t a b H K
 | .binOp op t x y _=>xX cx.n env x λa=>xX cx.n env y λb=>ajw cx op t x y a b K
 | .unOp op _ x=>xX cx.n env x λa=>unQ op a K
 | .convert s d x=>xX cx.n env x λa=>ais cx s d a H S K
 | .extract x i=>xX cx.n env x λa=>ajh a i K
 | .build t ps=>ahr cx.n env (λl=>aaq cx t l K) ps.toList
 | .makeInterface t x=>xX cx.n env x λa=>aaG cx t a K
 | .makeFunc fn a b=>Mx cx.n env (λla=>Mx cx.n env (λlb=>K (.fn fn la lb)) b.toList) a.toList
 | .nilCheck x=>xX cx.n env x λv=>alS v H K
 | .lookup t x i ok=>xX cx.n env x λa=>xX cx.n env i λb=>Ce cx t a b ok H S K
 | .slice t x lo hi mx=>xX cx.n env x λv=>aid cx.n env (λl=>aid cx.n env (λh=>aid cx.n env (λm=>Zk cx t v H l h m K) mx) hi) lo
 | .call c=>(match c.callee with
   | .builtin b=>Mx cx.n env (λl=>OJ cx b c.argTypes.toList l K) c.args.toList
   |_=>False)
 |o=>ajs cx o env H S K
variable {B:Base} {ρ:Nat->Loc} {nx i:Nat} {w:World} {T:TypeId}
theorem K6{l:List SV}(hw:dO B ρ nx H S w)(h:(i,b_.box l T)∈H):(ρ i).base.isSome=true:=by
 obtain⟨R,φ,hw⟩:=hw;obtain⟨b,h1,_⟩:=hw.jA _ h;simp only at h1;simp[h1]
variable {j k:Nat}
theorem Gx{xs:List (List Value)}(hw:dO B ρ nx H S w)(h:(i,b_.rows xs k T)∈H)
 (hj:j<xs.length):(ρ i).base.isSome=true:=by
 obtain⟨R,φ,hw⟩:=hw;obtain⟨_,hcap,hent⟩:=hw.jA _ h;simp only at hcap hent;rcases hent with⟨hb,hc0,_⟩|⟨b,off,c,hb1,_⟩
 ·exfalso;omega
 ·simp[hb1]
section
variable {cx:Cx} (hok:∀p∈cx.tab,lu cx.P p.1=some p.2)
variable {t:TypeId} {f:Nat}
include hok in
theorem xQ{g:Nat}(hp:(SV.lp i j k g).lt nx)(h:qg cx t (.lp i j k g) f K):
 ∃v,v.lt nx/\K v/\∀ρ:Nat->Loc,(ρ i).base.isSome=true->∀w,(Instr.fieldAt t ((SV.lp i j k g).rf ρ) f).run cx.P w= .ok (v.rf ρ) w:=by
 unfold qg at h;obtain⟨ti,hti,h⟩:=dY hok h;obtain⟨x,hx,h⟩:=yT h;obtain⟨fs,gf,hd,hg,ho,hs,_⟩:=Jc hti hx;cases hz:Nat.beq x.2.1 0 with
 |true=>rw[hz]at h;exact h.elim
 |false=>
  rw[hz,cond_false]at h;have hnz:x.2.1≠0:=akz hz;have TQ:∀(a:Addr) (w:World),(fieldPlace a gf).run cx.P w= .ok (a.add x.1) w:=by
   intro a w;cases hq:cx.P.info? gf.type with
   |none=>simp[hs,hq]at hnz
   |some gi=>
    have:gi.size≠0:=by simpa[hs,hq]using hnz
    simp[fieldPlace,dG hq,this,ho]
  refine⟨.lp i j k (g+x.1),λy hy=>hp y hy,h,λρ hb w=> ?_⟩;obtain⟨a,ha⟩:=aon.1 hb;simp[SV.rf,ha,Instr.fieldAt,run_underlying hd,hg,Instr.sureAddr,TQ,add_add,alF]
abbrev Gives(cx:Cx)(ρ:Nat->Loc)(nx:Nat)(H:Heap)(S:bR)(K:SV->Prop)(s:Sem Value):Prop:=
 ∃v,v.lt nx/\K v/\∀w,dO cx.B ρ nx H S w->s.run cx.P w= .ok (v.rf ρ) w
theorem Gives.next{cx:Cx}{s:Sem Value}(h:Gives cx ρ nx H S K s):
 ∃v,v.lt nx/\K v/\∀w,dO cx.B ρ nx H S w->(do pure (Next.value (<-s)):Sem Next).run cx.P w= .ok (.value (v.rf ρ)) w:=by
 obtain⟨v,h1,h2,h3⟩:=h;exact⟨v,h1,h2,λw hw=>by simp only[Sem.run_bind,h3 w hw,Result.andThen_ok,Sem.run_pure]⟩
include hok in
theorem Ju{p:SV}(hp:p.lt nx)(h:FU cx t p f H K):
 Gives cx ρ nx H S K (Instr.fieldAt t (p.rf ρ) f):=by
 cases p with
 |lp i j k g=>
  simp only[FU]at h;obtain⟨e,he,h⟩:=mM h;cases e with
  |box l T=>
   obtain⟨v,h1,h2,h3⟩:=xQ hok hp h;exact⟨v,h1,h2,λw hw=>h3 ρ (K6 hw he) w⟩
  |rows xs k' T=>
   dsimp only at h;rw[TZ]at h;obtain⟨hj,h⟩:=h;obtain⟨v,h1,h2,h3⟩:=xQ hok hp h;exact⟨v,h1,h2,λw hw=>h3 ρ (Gx hw he hj) w⟩
  |ext o=>exact h.elim
 |c v=>
  obtain⟨v,h1,h2,h3⟩:=Ko hok (ρ:=ρ) hp h (λ_ _ _ _ h=>by cases h);exact⟨v,h1,h2,λw _=>h3 w⟩
 |_=>exact h.elim
theorem K7{P:Program}(ρ:Operand->Value)(c:Call)(b:Builtin)(hc:c.callee= .builtin b)(type:TypeId):
 ∃k,∀w,(do let d<-resolve ρ c type;invoke d.target d.args:Sem Next).run P w=(builtin b c.argTypes type k (c.args.map ρ)).run P w:=by
 refine⟨c.args.map (λ| .const _=>true|_=>false),λw=> ?_⟩;simp only[resolve,hc,Sem.run_bind,Sem.run_pure,Result.andThen_ok,invoke]
 rfl
variable {w1:World}
theorem Z0{d:Option Tmp}{type:TypeId}{pos:String}{af:Array Edge}{g:Option (Nat×Bool)}{a:Act}(hs:Sat cx.n ρ nx env a)
 (hw1:dO cx.B ρ nx H S w1) (h:ajs cx o env H S K):∃v,v.lt nx/\K v/\∀w,dO cx.B ρ nx H S w->(execOp a.eval ⟨d,o,type,pos,af,g⟩).run cx.P w= .ok (.value (v.rf ρ)) w:=by
 rw[afi]at h;obtain⟨v,h1,h2⟩:=h;exact⟨v,(h2 ρ nx a w1 d type pos af g hs hw1).1,h1,λw hw=>(h2 ρ nx a w d type pos af g hs hw).2⟩
include hok in
theorem Dv{o:Oper}{a:Act}(hs:Sat cx.n ρ nx env a)(hw1:dO cx.B ρ nx H S w1)
 (h:opQ cx o.op env H S K):∃v,v.lt nx/\K v/\∀w,dO cx.B ρ nx H S w->(execOp a.eval o).run cx.P w= .ok (.value (v.rf ρ)) w:=by
 have hH:∀q∈H,q.2.lt nx:=λq hq=>by obtain⟨R,φ,hw1⟩:=hw1;exact(hw1.key q hq).2
 obtain⟨dst,op,type,pos,after,guard⟩:=o;cases op with
 |move x=>
  obtain⟨v,h1,h2,h3⟩:=dB hs h;exact⟨v,h3,h1,λw _=>by simp[execOp,h2]⟩
 |assign x=>
  obtain⟨v,h1,h2,h3⟩:=dB hs h;exact⟨v,h3,h1,λw _=>by simp[execOp,h2]⟩
 |pick c x y=>
  obtain⟨v,h1,h2,h3⟩:=dB hs h
  match v,h1,h2 with
  | .c (.bool true),h1,h2=>
    obtain⟨v,h4,h5,h6⟩:=dB hs h1;exact⟨v,h6,h4,λw _=>by simp[execOp,h2,h5,SV.rf,asBool]⟩
  | .c (.bool false),h1,h2=>
    obtain⟨v,h4,h5,h6⟩:=dB hs h1;exact⟨v,h6,h4,λw _=>by simp[execOp,h2,h5,SV.rf,asBool]⟩
 |load t x=>
  obtain⟨p,h1,h2,h3⟩:=dB hs h;have:=Gives.next (ρ:=ρ) (nx:=nx) (H:=H) (S:=S) (K:=K) (K5 hok (ρ:=ρ) (nx:=nx) h1 hH)
  simpa only[execOp,h2]using this
 |fieldAddr t x f=>
  obtain⟨p,h1,h2,h3⟩:=dB hs h;have:=Gives.next (ρ:=ρ) (nx:=nx) (H:=H) (S:=S) (K:=K) (Ju hok (ρ:=ρ) (S:=S) h3 h1)
  simpa only[execOp,h2]using this
 |field t x f=>
  obtain⟨p,h1,h2,h3⟩:=dB hs h;obtain⟨v,h4,h5,h6⟩:=TG hok (ρ:=ρ) h3 h1;have:=Gives.next (ρ:=ρ) (nx:=nx) (H:=H) (S:=S) (K:=K) (⟨v,h4,h5,λw _=>h6 w⟩)
  simpa only[execOp,h2]using this
 |indexAddr t x i=>
  obtain⟨p,h1,h2,h3⟩:=dB hs h;obtain⟨q,h4,h5,h6⟩:=dB hs h1;have:=Gives.next (ρ:=ρ) (nx:=nx) (H:=H) (S:=S) (K:=K) (aal hok (ρ:=ρ) (S:=S) h4 h3)
  simpa only[execOp,h2,h5]using this
 |binOp op t x y yt=>
  obtain⟨p,h1,h2,h3⟩:=dB hs h;obtain⟨q,h4,h5,h6⟩:=dB hs h1;obtain⟨v,h7,h8⟩:=ZJ hok h4 ρ;have:=Gives.next (ρ:=ρ) (nx:=nx) (H:=H) (S:=S) (K:=K) (⟨.c v,SV.iW _,h8,λw _=>h7 w⟩)
  simpa only[execOp,h2,h5]using this
 |unOp op t x=>
  obtain⟨p,h1,h2,h3⟩:=dB hs h;obtain⟨v,h7,h8⟩:=acO (P:=cx.P) (ρ:=ρ) h1;have:=Gives.next (ρ:=ρ) (nx:=nx) (H:=H) (S:=S) (K:=K) (⟨.c v,SV.iW _,h7,λw _=>h8 w⟩)
  simpa only[execOp,h2]using this
 |convert s d x=>
  obtain⟨p,h1,h2,h3⟩:=dB hs h;have h9:∃v,K (.c v)/\∀w,dO cx.B ρ nx H S w->(convert s d (p.rf ρ)).run cx.P w= .ok v w:=by
   unfold ais at h1;split at h1
   ·rw[VO]at h1;obtain⟨v,g1,g2⟩:=h1;exact⟨v,g1,λw hw=>g2 ρ nx w hw⟩
   ·rw[VO]at h1;obtain⟨v,g1,g2⟩:=h1;exact⟨v,g1,λw hw=>g2 ρ nx w hw⟩
   ·obtain⟨v,g1,g2⟩:=XK hok (ρ:=ρ) h1;exact⟨v,g1,λw _=>g2 w⟩
  obtain⟨v,h7,h8⟩:=h9;have:=Gives.next (ρ:=ρ) (nx:=nx) (H:=H) (S:=S) (K:=K) (⟨.c v,SV.iW _,h7,h8⟩)
  simpa only[execOp,h2]using this
 |extract x i=>
  obtain⟨p,h1,h2,h3⟩:=dB hs h;obtain⟨v,h4,h5,h6⟩:=W_ (P:=cx.P) (ρ:=ρ) h3 h1;have:=Gives.next (ρ:=ρ) (nx:=nx) (H:=H) (S:=S) (K:=K) (⟨v,h4,h5,λw _=>h6 w⟩)
  simpa only[execOp,h2]using this
 |build t ps=>
  obtain⟨l,h1,h2,h3⟩:=aoP hs h;obtain⟨v,h4,h5,h6⟩:=UR hok h3 h1;have:=Gives.next (ρ:=ρ) (nx:=nx) (H:=H) (S:=S) (K:=K) (⟨v,h4,h5,λw _=>h6 ρ w⟩)
  have e:(ps.map λ(i,x)=>(i,a.eval x))=(l.map λp=>(p.1,p.2.rf ρ)).toArray:=by
   rw[<-h2];apply al8;simp
  simpa only[execOp,e]using this
 |makeInterface t x=>
  obtain⟨p,h1,h2,h3⟩:=dB hs h;obtain⟨h4,h5⟩:=U3 hok h1;have:=Gives.next (ρ:=ρ) (nx:=nx) (H:=H) (S:=S) (K:=K) (⟨_,SV.aeA.2 h3,h4,λw _=>h5 ρ w⟩)
  simpa only[execOp,h2]using this
 |makeFunc fn x y=>
  obtain⟨la,h1,h2,h3⟩:=oN hs h;obtain⟨lb,h4,h5,h6⟩:=oN hs h1;refine⟨_,SV.ajd.2 ⟨h3,h6⟩,h4,λw _=> ?_⟩;have e1:x.map a.eval=(SV.dW ρ la).toArray:=by rw[<-h2];apply al8;simp
  have e2:y.map a.eval=(SV.dW ρ lb).toArray:=by rw[<-h5];apply al8;simp
  simp[execOp,e1,e2,Instr.makeFunc,SV.rf]
 |nilCheck x=>
  obtain⟨p,h1,h2,h3⟩:=dB hs h
  match p,h1,h2,h3 with
  | .c (.pointer (some b)),h1,h2,h3=>exact⟨_,SV.iW _,h1,λw _=>by simp[execOp,h2,SV.rf]⟩
  | .lp i j k f,h1,h2,h3=>
    simp only[alS]at h1;obtain⟨e,he,h1⟩:=mM h1;cases e with
    |box l T=>
     refine⟨_,h3,h1,λw hw=> ?_⟩;obtain⟨b,hb⟩:=aon.1 (K6 hw he);simp[execOp,h2,SV.rf,hb]
    |rows xs k' T=>
     dsimp only at h1;rw[TZ]at h1;refine⟨_,h3,h1.2,λw hw=> ?_⟩;obtain⟨b,hb⟩:=aon.1 (Gx hw he h1.1);simp[execOp,h2,SV.rf,hb]
    |ext o=>exact h1.elim
  | .fn (.func f) x y,h1,h2,h3=>exact⟨_,h3,h1,λw _=>by simp[execOp,h2,SV.rf]⟩
  | .c (.func (.func f) x y),h1,h2,h3=>exact⟨_,h3,h1,λw _=>by simp[execOp,h2,SV.rf]⟩
  | .KN t v,h1,h2,h3=>exact⟨_,h3,h1,λw _=>by simp[execOp,h2,SV.rf]⟩
 |slice t x lo hi mx=>
  obtain⟨p,h1,h2,h3⟩:=dB hs h;obtain⟨l,h4,h5⟩:=Kv hs h1;obtain⟨m,h6,h7⟩:=Kv hs h4;obtain⟨n,h8,h9⟩:=Kv hs h6;have:=Gives.next (ρ:=ρ) (nx:=nx) (H:=H) (S:=S) (K:=K) (Uc hok (ρ:=ρ) (S:=S) h8 h3 h5 h7 h9)
  simpa only[execOp,h2]using this
 |lookup t x i ok=>
  obtain⟨p,h1,h2,h3⟩:=dB hs h;obtain⟨q,h4,h5,h6⟩:=dB hs h1;obtain⟨v,h7,h8⟩:=h4.out;have:=Gives.next (ρ:=ρ) (nx:=nx) (H:=H) (S:=S) (K:=K) (⟨.c v,SV.iW _,h7,λw hw=>h8 ρ nx w hw⟩)
  simpa only[execOp,h2,h5]using this
 |call c=>
  simp only[opQ]at h;cases hc:c.callee with
  |value f=>rw[hc]at h;exact h.elim
  |invoke r m=>rw[hc]at h;exact h.elim
  |builtin b=>
   rw[hc]at h;obtain⟨l,h1,h2,h3⟩:=oN hs h;have e1:c.args.map a.eval=(SV.dW ρ l).toArray:=by rw[<-h2];apply al8;simp
   obtain⟨kc,hkc⟩:=K7 (P:=cx.P) a.eval c b hc type;have key:∀v w,(builtin b c.argTypes type kc (SV.dW ρ l).toArray).run cx.P w= .ok (.value (SV.rf ρ v)) w->
    (execOp a.eval ⟨dst,.call c,type,pos,after,guard⟩).run cx.P w= .ok (.value (SV.rf ρ v)) w:=by
    intro v w hv;simp only[execOp];rw[hkc w,e1];exact hv
   unfold OJ at h1;split at h1
   ·rename_i t ts x r hts;have ht:c.argTypes[0]? =some t:=by rw[<-amH,hts];rfl
    obtain⟨v,h4,h5⟩:=Y6 hok (ρ:=ρ) (ty:=type) (args:=(SV.dW ρ (x::r)).toArray) ht (by simp[SV.dW]) h1;exact⟨_,SV.iW _,h4,λw _=>key (.c v) w (by simp[builtin,h5,SV.rf])⟩
   ·rename_i k x r;obtain⟨v,h4,h5⟩:=JC (P:=cx.P) (ρ:=ρ) h1;exact⟨_,SV.iW _,h4,λw _=>key (.c v) w (by simp[builtin,Builtin.max_,SV.dW,SV.rf,h5])⟩
   ·rename_i k x r;obtain⟨v,h4,h5⟩:=Kr (P:=cx.P) (ρ:=ρ) h1;exact⟨_,SV.iW _,h4,λw _=>key (.c v) w (by simp[builtin,Builtin.min_,SV.dW,SV.rf,h5])⟩
   ·exact h1.elim
 |_=>exact Z0 hs hw1 h
end
end
section
def upd(ρ:Nat->Loc)(n:Nat)(l:Loc):Nat->Loc:=λi=>if i=n then l else ρ i
variable {ρ:Nat->Loc} {i:Nat} {l:Loc}
theorem mI{n:Nat}(h:i<n):upd ρ n l i=ρ i:=by unfold upd;rw[if_neg aa]
theorem upd_same{n:Nat}:upd ρ n l n=l:=by unfold upd;simp
theorem b_.lt.mono{a b:Nat}{e:b_}(h:e.lt a)(hab:a<=b):e.lt b:=λi hi=>ahd (h i hi) hab
variable {B:Base} {R:Nat->Prop} {φ:Nat->Nat->Prop} {nx:Nat} {H:Heap} {S:bR} {w:World}
theorem wz.add(h:wz B R φ ρ nx H S w){e:b_}{F:Nat->Prop}(hlt:e.lt nx)
 (he:e.holds ρ l F w) (hR:∀b,F b->¬R b) (hF:∀p∈H,∀b,φ p.1 b->¬F b):
 wz B R (λi=>if i=nx then F else φ i) (upd ρ nx l) (nx+1) ((nx,e)::H) S w where
 os:=h.os
 tape:=h.tape
 output:=h.output
 size:=h.size
 pin:=λp hp=>⟨Nat.lt_succ_of_lt (h.pin p hp).1,by rw[mI (h.pin p hp).1];exact(h.pin p hp).2⟩
 ro:=h.ro
 qL:=h.qL
 key:=λp hp=>by
  rcases abr.1 hp with rfl|hp
  ·exact⟨amD _,hlt.mono (amN _)⟩
  ·exact⟨Nat.lt_succ_of_lt (h.key p hp).1,(h.key p hp).2.mono (amN _)⟩
 jA:=λp hp=>by
  rcases abr.1 hp with rfl|hp
  ·simp only[upd_same,if_true];exact b_.qH (λi hi=>(mI (hlt i hi)).symm) he
  ·have hk:=h.key p hp;have:p.1≠nx:=by omega
   simp only[mI hk.1,if_neg this];exact b_.qH (λi hi=>(mI (hk.2 i hi)).symm) (h.jA p hp)
 apart:=λp hp b hb=>by
  rcases abr.1 hp with rfl|hp
  ·simp only[if_true]at hb;exact hR b hb
  ·have hk:=h.key p hp;have:p.1≠nx:=by omega
   simp only[if_neg this]at hb;exact h.apart p hp b hb
 sep:=by
  refine aiN.2 ⟨λp hp=> ?_,?_⟩
  ·have hk:=h.key p hp;have hne:p.1≠nx:=by omega
   refine⟨by simpa using hne.symm,λb hb hb'=> ?_⟩;simp only[if_true,if_neg hne]at hb hb';exact hF p hp b hb' hb
  ·refine List.Pairwise.imp_of_mem (R:=λp q=>p.1≠q.1/\∀b,φ p.1 b->¬φ q.1 b) (λ{p q} hp hq hpq=> ?_) h.sep;have h1:p.1≠nx:=by have:=(h.key p hp).1;omega
   have h2:q.1≠nx:=by have:=(h.key q hq).1;omega
   exact⟨hpq.1,by simpa only[if_neg h1,if_neg h2]using hpq.2⟩
theorem Ke(w:World)(o:Obj):Ext w (w.alloc o):=(Below.refl _ _).alloc (Tw _) o
theorem dO.alloc{B:Base}{ρ:Nat->Loc}{nx:Nat}{H:Heap}{S:bR}{w:World}(h:dO B ρ nx H S w){e:b_}{l:Loc}{o:Obj}(hlt:e.lt nx)
 (he:e.holds ρ l (λb=>b=w.heap.size) (w.alloc o)):dO B (upd ρ nx l) (nx+1) ((nx,e)::H) S (w.alloc o):=by
 obtain⟨R,φ,h⟩:=h;have h':=h.step (Step.I8 (Ke w o)) (λ_ _ h=>h) (λ_ _ _ _ h=>h);exact⟨R,_,h'.add hlt he (λb hb hR=>by subst hb;exact absurd (h.ro _ hR) aa) (λp hp b hb hb'=>by
  subst hb';exact absurd (b_.size (h.jA p hp) hb) aa)⟩
theorem wz.drop{H':Heap}(h:wz B R φ ρ nx H S w)(hs:H'.Sublist H):wz B R φ ρ nx H' S w where
 os:=h.os
 tape:=h.tape
 output:=h.output
 size:=h.size
 pin:=h.pin
 ro:=h.ro
 qL:=h.qL
 key:=λp hp=>h.key p (hs.subset hp)
 jA:=λp hp=>h.jA p (hs.subset hp)
 apart:=λp hp=>h.apart p (hs.subset hp)
 sep:=h.sep.sublist hs
def setH(i:Nat)(e:b_):Heap->Heap
 |[]=>[]
 |(j,e')::r=>bif Nat.beq j i then(j,e)::r else(j,e')::setH i e r
def Ed(i:Nat)(e:b_)(K:Heap->Prop):Heap->Prop
 |[]=>K []
 |(j,e')::r=>bif Nat.beq j i then K ((j,e)::r)else Ed i e (λr'=>K ((j,e')::r')) r
theorem BX(i:Nat)(e:b_):∀(H:Heap) (K:Heap->Prop),Ed i e K H=K (setH i e H)
 |[],_=>rfl
 |(j,e')::r,K=>by
  unfold Ed setH;cases hb:Nat.beq j i with
  |true=>rfl
  |false=>exact BX i e r _
def sM(i:Nat):Heap->Heap
 |[]=>[]
 |(j,e)::r=>bif Nat.beq j i then r else(j,e)::sM i r
def abe(i:Nat)(K:Heap->Prop):Heap->Prop
 |[]=>K []
 |(j,e)::r=>bif Nat.beq j i then K r else abe i (λr'=>K ((j,e)::r')) r
theorem aqn(i:Nat):∀(H:Heap) (K:Heap->Prop),abe i K H=K (sM i H)
 |[],_=>rfl
 |(j,e')::r,K=>by
  unfold abe sM;cases hb:Nat.beq j i with
  |true=>rfl
  |false=>exact aqn i r _
theorem mH(i:Nat):∀H:Heap,(sM i H).Sublist H
 |[]=> .slnil
 |(j,e)::r=>by
  unfold sM;cases hb:Nat.beq j i with
  |true=>exact aom _ _
  |false=>exact(mH i r).cons_cons _
theorem wh{i:Nat}{e:b_}:∀{H:Heap} {p:Nat×b_},p∈setH i e H->(p=(i,e)/\∃e',(i,e')∈H)\/(p∈H)
 |[],p,h=>by simp[setH]at h
 |(j,e')::r,p,h=>by
  unfold setH at h;cases hb:Nat.beq j i with
  |true=>
   rw[hb,cond_true]at h;have:=ael hb;subst this;rcases abr.1 h with h|h
   ·exact .inl ⟨h,e',by simp⟩
   ·exact .inr pV
  |false=>
   rw[hb,cond_false]at h;rcases abr.1 h with h|h
   ·exact .inr pV
   ·rcases wh h with⟨h1,e'',h2⟩|h1
    ·exact .inl ⟨h1,e'',by simp[h2]⟩
    ·exact .inr (by simp[h1])
theorem oO(i:Nat)(e:b_):∀H:Heap,(setH i e H).map (·.1)=H.map (·.1)
 |[]=>rfl
 |(j,e')::r=>by
  unfold setH;cases hb:Nat.beq j i with
  |true=>rfl
  |false=>simp[oO i e r]
variable {e':b_}
theorem xy{e:b_}{Q:Nat×b_->Nat×b_->Prop}(hs:H.Pairwise λp q=>p.1≠q.1/\Q p q)(h1:(i,e)∈H)(h2:(i,e')∈H):e=e':=by
 induction H with
 |nil=>cases h1
 |cons p r ih=>
  obtain⟨hp,hr⟩:=aiN.1 hs;rcases abr.1 h1 with g1|g1<;>rcases abr.1 h2 with g2|g2
  ·rw[<-g1]at g2;exact(by simpa using g2.symm)
  ·rw[<-g1]at hp;exact absurd rfl (hp _ g2).1
  ·rw[<-g2]at hp;exact absurd rfl (hp _ g1).1
  ·exact ih hr g1 g2
theorem tN{i:Nat}{e:b_}:∀{H:Heap} {e':b_},(i,e')∈H->(i,e)∈setH i e H
 |[],_,h=>by cases h
 |(j,e'')::r,e',h=>by
  unfold setH;cases hb:Nat.beq j i with
  |true=>have:=ael hb;subst this;exact YV
  |false=>
   have hne:=akz hb;rcases abr.1 h with h|h
   ·exact absurd (by simpa using congrArg Prod.fst h.symm) hne
   ·exact aeg _ (tN h)
variable {w':World}
theorem wz.store{e:b_}(h:wz B R φ ρ nx H S w)(hi:(i,e)∈H)(hlt:e'.lt nx)
 (hst:∀F,e.holds ρ (ρ i) F w->Step F w w'/\e'.holds ρ (ρ i) F w'):wz B R φ ρ nx (setH i e' H) S w':=by
 obtain⟨hs,he'⟩:=hst (φ i) (h.jA _ hi);have hR:∀b,R b->¬φ i b:=λb hb hb'=>h.apart _ hi b hb' hb;refine⟨hs.os.trans h.os,hs.tape.trans h.tape,hs.output.trans h.output,aiC h.size hs.size,h.pin,λb hb=>ahd (h.ro b hb) hs.size,
  S.stable (λ_ hb=>hb) (λb hb=>hs.block b (h.ro b hb) (hR b hb)) h.qL,?_,?_,?_,?_⟩
 ·intro p hp;rcases wh hp with⟨rfl,_⟩|hp
  ·exact⟨(h.key _ hi).1,hlt⟩
  ·exact h.key p hp
 ·intro p hp;rcases wh hp with⟨rfl,_⟩|hp'
  ·exact he'
  ·by_cases hpi:p.1=i
   ·obtain⟨pi,pe⟩:=p;simp only at hpi;subst hpi;have h1:pe=e:=xy h.sep hp' hi;have hk:(setH pi e' H).Pairwise λp q=>p.1≠q.1/\True:=by
     have:((setH pi e' H).map (·.1)).Pairwise (·≠·):=by
      rw[oO];exact aj3.2 (h.sep.imp λx=>x.1)
     exact(aj3.1 this).imp λx=>⟨x,trivial⟩
    have h2:pe=e':=xy hk hp (tN hi);subst h2;exact he'
   ·have hd:∀b,φ p.1 b->¬φ i b:=by
     intro b hb hb';have:∀{H:Heap},H.Pairwise (λp q=>p.1≠q.1/\∀b,φ p.1 b->¬φ q.1 b)->∀{p q:Nat×b_},p∈H->q∈H->p.1≠q.1->∀b,φ p.1 b->¬φ q.1 b:=by
      intro H hs;induction H with
      |nil=>intro p q hp;cases hp
      |cons x r ih=>
       obtain⟨hx,hr⟩:=aiN.1 hs;intro p q hp hq hne b hb hb';rcases abr.1 hp with gp|gp<;>rcases abr.1 hq with gq|gq
       ·exact hne wS
       ·rw[<-gp]at hx;exact(hx _ gq).2 b hb hb'
       ·rw[<-gq]at hx;exact(hx _ gp).2 b hb' hb
       ·exact ih hr gp gq hne b hb hb'
     exact this h.sep hp' hi hpi b hb hb'
    exact b_.stable (λb hb=>hs.block b (b_.size (h.jA p hp') hb) (hd b hb)) (h.jA p hp')
 ·intro p hp b hb;rcases wh hp with⟨rfl,_⟩|hp'
  ·exact h.apart _ hi b hb
  ·exact h.apart p hp' b hb
 ·have h1:((setH i e' H).map (·.1)).Pairwise (λa b=>a≠b/\∀x,φ a x->¬φ b x):=by
   rw[oO];exact aj3.2 h.sep
  exact aj3.1 h1
theorem dO.store{B:Base}{ρ:Nat->Loc}{nx:Nat}{H:Heap}{S:bR}{w w':World}{i:Nat}{e e':b_}(h:dO B ρ nx H S w)(hi:(i,e)∈H)(hlt:e'.lt nx)
 (hst:∀F,e.holds ρ (ρ i) F w->Step F w w'/\e'.holds ρ (ρ i) F w'):dO B ρ nx (setH i e' H) S w':=by
 obtain⟨R,φ,h⟩:=h;exact⟨R,φ,h.store hi hlt hst⟩
end
section
theorem uA{α:Type}:∀(vs l:List α) (off p:Nat),off+vs.length<=l.length->(cB l off vs)[p]? =if off<=p/\p<off+vs.length then vs[p-off]? else l[p]?
 |[],l,off,p,_=>by
  rw[if_neg (by simp only[amn];omega)];rfl
 |v::r,l,off,p,h=>by
  simp only[ahN]at h;have ih:=uA r (l.set off v) (off+1) p fK;simp only[cB,ih,ahN];by_cases h1:off+1<=p/\p<off+1+r.length
  ·rw[if_pos h1,if_pos aa];have:p-off=(p-(off+1))+1:=by omega
   rw[this];rfl
  ·rw[if_neg h1];by_cases h2:p=off
   ·subst h2;rw[if_pos aa,anI aa];simp
   ·rw[if_neg aa,amy aa]
theorem P_{α:Type}(vs l:List α)(off:Nat)(h:off+vs.length<=l.length):cB l off vs=l.take off++vs++l.drop (off+vs.length):=by
 apply an_;intro p;rw[uA vs l off p h];by_cases h1:off<=p/\p<off+vs.length
 ·rw[if_pos h1,ahZ,ahg fK,ag9 fK]
  congr 1;simp;omega
 ·rw[if_neg h1];by_cases h2:p<off
  ·rw[ahZ,ag9 fK,al2,if_pos h2]
  ·rw[ahg fK,anl]
   congr 1;simp;omega
theorem ol(w:World)(g:Nat)(c:Array Value):Step (λb=>b=g) w (w.setRow g c) where
 os:=rfl
 tape:=rfl
 output:=rfl
 size:=by simp[World.setRow]
 block:=λb _ hne=>by
  simp only[World.setRow,Array.getElem?_modify];rw[if_neg (λe=>hne e.symm)]
variable {t:TypeId} {w:World} {off:Nat} {c:Array Value}
theorem uQ{P:Program}{ti:TI}(h:lu P t=some ti){b:Nat}{T:TypeId}{v:Value}(hb:w.heap[b]? =some (.cells c T (0,0)))
 (hsz:v.cells.size=ti.size) (hfit:off+v.cells.size<=c.size) (h1:∀u∈v.cells.toList,u.oneCell'=true):
 (storeVar t ⟨b,off,none⟩ v).run P w= .ok () (w.setRow b (cB c.toList off v.cells.toList).toArray):=by
 obtain⟨i,d,z,hi,hd,hz,rfl⟩:=eD h;have:=run_storeCells_at P b off T v.cells.toList 0 c w hb zH h1;unfold storeVar;simp only at hsz;simp only[Sem.run_bind,dG hi,Result.andThen_ok,hsz];rw[P_ _ _ _ zH];simpa using this
def ajb(cx:Cx)(ρ:Nat->Loc)(nx:Nat)(K:SV->Heap->bR->Nat->Prop)(next:Value->World->Prop):Prop:=
 ∀v ρ' H' S' nx' w',(∀i,i<nx->ρ' i=ρ i)->nx<=nx'->SV.lt nx' v->dO cx.B ρ' nx' H' S' w'->K v H' S' nx'->next (v.rf ρ') w'
def uO(c:Array Value)(off k:Nat)(xs:List (List Value)):Prop:=∀i r,xs[i]? =some r->∀j v,r[j]? =some v->c[off+i*k+j]? =some v
def aay:SV->Bool
 | .c (.agg _)=>false| .c (.tuple _)=>false| .agg _=>false| .xg _=>false| .c (.bool _)| .c (.int _ _)| .c (.string _)| .c (.pointer _)| .c (.slice _ _ _)| .c (.map _)| .c (.func _ _ _)| .c .nilFunc| .c (.iface _ _)| .c .nilIface=>true
 | .c _=>false
 |_=>true
theorem J_{v:SV}(h:aay v=true)(ρ:Nat->Loc):(v.rf ρ).oneCell'=true:=by
 cases v with
 |c u=>cases u<;>first|rfl|(simp[aay]at h)
 |agg l=>simp[aay]at h
 |xg l=>simp[aay]at h
 |_=>rfl
def Gv:List SV->Bool
 |[]=>true
 |v::r=>bif aay v then Gv r else false
theorem E8{l:List SV}(h:Gv l=true):∀v∈l,aay v=true:=by
 induction l with
 |nil=>simp
 |cons a r ih=>
  unfold Gv at h;cases ha:aay a with
  |false=>simp[ha]at h
  |true=>
   rw[ha,cond_true]at h;intro v hv;rcases abr.1 hv with rfl|hv
   ·exact ha
   ·exact ih h v hv
def acf(K:List Value->Prop):List SV->Prop
 |[]=>K []
 | .c v::r=>acf (λl=>K (v::l)) r
 |_=>False
theorem EE:∀{l:List SV} {K:List Value->Prop},acf K l->∃vs,K vs/\∀ρ,SV.dW ρ l=vs
 |[],K,h=>⟨[],h,λ_=>rfl⟩
 | .c v::r,K,h=>by
   obtain⟨vs,h1,h2⟩:=EE (l:=r) h;exact⟨v::vs,h1,λρ=>by simp[SV.dW,SV.rf,h2 ρ]⟩
structure dH(xs:List (List Value))(j f:Nat)(vs:List Value)(K:List (List Value)->Prop):Prop where
 out:∃r,xs[j]? =some r/\f+vs.length<=r.length/\K (xs.set j (cB r f vs))
variable {xs:List (List Value)} {j f:Nat} {vs:List Value}
theorem Ee{K:List (List Value)->Prop}:dH xs j f vs K=(∃r,xs[j]? =some r/\f+vs.length<=r.length/\K (xs.set j (cB r f vs))):=propext ⟨λh=>h.out,λh=>⟨h⟩⟩
structure wrK(B:Base)(a:Addr)(us:List Value)(H:Heap)(K:Heap->Prop):Prop where
 out:∃H',(∀ρ nx S w,dO B ρ nx H S w->∃b off c T,a=⟨b,off,none⟩/\w.heap[b]? =some (.cells c T (0,0))/\off+us.length<=c.size/\dO B ρ nx H' S (w.setRow b (cB c.toList off us).toArray))/\K H'
def ZB(cx:Cx)(t:TypeId)(p x:SV)(H:Heap)(K:Heap->Prop):Prop:=
 sD t (λti=>match p with
  | .c (.pointer (some a))=>Jr (λvs=>bif Nat.beq vs.length ti.size then(bif Gv vs then acf (λus=>wrK cx.B a us H K) vs else False)else False) x
  | .lp i j k f=>Bw i (λe=>Jr (λvs=>bif Nat.beq vs.length ti.size then(bif Gv vs then(match e with
     | .box l T=>RA (λl'=>Ed i (.box l' T) K H) l (j*k+f) vs
     | .rows xs k' T=>bif Nat.beq k k' then acf (λus=>dH xs j f us λxs'=>Ed i (.rows xs' k' T) K H) vs else False
     | .ext _=>False)else False)else False) x) H
  |_=>False) cx.tab
theorem Y5{k:Nat}{r:List Value}(hx:uO c off k xs)(hk:∀r∈xs,r.length=k)(hr:xs[j]? =some r)(hf:f+vs.length<=r.length)
 (hc:off+xs.length*k<=c.size):uO (cB c.toList (off+(j*k+f)) vs).toArray off k (xs.set j (cB r f vs)):=by
 have hjl:j<xs.length:=(abH.1 hr).1;have hrk:r.length=k:=hk r (adu hr);have hjk:(j+1)*k<=xs.length*k:=aj4 k hjl;rw[aiB]at hjk;have hfit:off+(j*k+f)+vs.length<=c.toList.length:=by simp;omega
 intro i r' hr' q v hv;rw[amF,uA _ _ _ _ hfit];by_cases hij:i=j
 ·subst hij;have e:r'=cB r f vs:=by
   have:(xs.set i (cB r f vs))[i]? =some (cB r f vs):=by simp[hjl]
   rw[this]at hr';exact(by simpa using hr'.symm)
  subst e;rw[uA _ _ _ _ hf]at hv;by_cases h1:f<=q/\q<f+vs.length
  ·rw[if_pos h1]at hv;rw[if_pos aa];rw[<-hv];congr 1;omega
  ·rw[if_neg h1]at hv;rw[if_neg aa];have:=hx i r hr q v hv;rw[amH];exact this
 ·rw[amy (Ne.symm hij)]at hr';have hq:q<k:=by
   have:=(abH.1 hv).1;rw[hk r' (adu hr')]at this;exact this
  have hne:¬(off+(j*k+f)<=off+i*k+q/\off+i*k+q<off+(j*k+f)+vs.length):=by
   rcases Nat.lt_or_gt_of_ne hij with h|h
   ·have:(i+1)*k<=j*k:=aj4 k h;rw[aiB]at this;omega
   ·have:(j+1)*k<=i*k:=aj4 k h;rw[aiB]at this;omega
  rw[if_neg hne,amH];exact hx i r' hr' q v hv
section
variable {cx:Cx} (hok:∀p∈cx.tab,lu cx.P p.1=some p.2)
include hok in
theorem Ud{p x:SV}{ρ:Nat->Loc}{nx:Nat}{H:Heap}{S:bR}{K:Heap->Prop}(h:ZB cx t p x H K)(hx:x.lt nx)(hw:dO cx.B ρ nx H S w):
 ∃w' H',(Instr.storeAt t (p.rf ρ) (x.rf ρ)).run cx.P w= .ok () w'/\dO cx.B ρ nx H' S w'/\K H':=by
 unfold ZB at h;obtain⟨ti,hti,h⟩:=dY hok h
 match p,h with
 | .c (.pointer (some ad)),h=>
   dsimp only at h;obtain⟨vs,h,hvs,hcs⟩:=uo hx h;cases hb1:Nat.beq vs.length ti.size with
   |false=>rw[hb1]at h;exact h.elim
   |true=>
   rw[hb1,cond_true]at h;cases hb2:Gv vs with
   |false=>rw[hb2]at h;exact h.elim
   |true=>
   rw[hb2,cond_true]at h;have hsz:=ael hb1;have hone:∀u∈(x.rf ρ).cells.toList,u.oneCell'=true:=by
    intro u hu;rw[hcs ρ]at hu;simp only[SV.o9,abl]at hu;obtain⟨v,hv,rfl⟩:=hu;exact J_ (E8 hb2 v hv) ρ
   obtain⟨us,h,iL⟩:=EE h;obtain⟨H',h1,h2⟩:=h.out;obtain⟨b,off,c,T,rfl,hblk,hfit,hA⟩:=h1 ρ nx S w hw;have hcells:(x.rf ρ).cells=us.toArray:=by rw[hcs ρ,iL ρ]
   have I4:us.length=vs.length:=by rw[<-iL ρ,j5]
   refine⟨_,H',?_,hA,h2⟩;simp only[SV.rf,Instr.storeAt,Instr.sureAddr,Sem.run_bind,Sem.run_pure,Result.andThen_ok];have:=uQ (v:=x.rf ρ) hti hblk (by rw[hcells];simp[I4,hsz]) (by rw[hcells];simpa using hfit) hone;rw[hcells]at this;simpa using this
 | .lp i j k f,h=>
 dsimp only at h;obtain⟨e,he,h⟩:=mM h;obtain⟨vs,h,hvs,hcs⟩:=uo hx h;cases hb1:Nat.beq vs.length ti.size with
 |false=>rw[hb1]at h;exact h.elim
 |true=>
 rw[hb1,cond_true]at h;cases hb2:Gv vs with
 |false=>rw[hb2]at h;exact h.elim
 |true=>
 rw[hb2,cond_true]at h;have hsz:=ael hb1;have hone:∀u∈(x.rf ρ).cells.toList,u.oneCell'=true:=by
  intro u hu;rw[hcs ρ]at hu;simp only[SV.o9,abl]at hu;obtain⟨v,hv,rfl⟩:=hu;exact J_ (E8 hb2 v hv) ρ
 cases e with
 |box l T=>
  dsimp only at h;obtain⟨h1,h2⟩:=Aw h;rw[BX]at h2;have hkey:(b_.box l T).lt nx:=by obtain⟨R,φ,hw⟩:=hw;exact(hw.key _ he).2
  have hb:∃b,(ρ i).base=some ⟨b,0,none⟩/\w.heap[b]? =some (.cells (SV.dW ρ l).toArray T (0,0)):=by
   obtain⟨R,φ,hw⟩:=hw;obtain⟨b,hb1,hb2,hb3⟩:=hw.jA _ he;exact⟨b,hb1,hb3⟩
  obtain⟨b,hb,hblk⟩:=hb;have hfit:j*k+f+vs.length<=l.length\/vs=[]:=h1.symm;by_cases hnil:vs=[]
  ·subst hnil;simp only[cB]at h2;have hsame:setH i (.box l T) H=H\/True:= .inr trivial;have ajq:(x.rf ρ).cells= #[]:=by rw[hcs ρ];rfl
   refine⟨w,_,?_,?_,h2⟩
   ·obtain⟨ii,d,z,hi,hd,hz,rfl⟩:=eD hti;simp only[SV.rf,mP hb,Instr.storeAt,Instr.sureAddr,Sem.run_bind,Sem.run_pure,Result.andThen_ok];unfold storeVar;have:ii.size=0:=by simpa using hsz.symm
    simp[dG hi,ajq,this,storeCells]
   ·exact hw.store he hkey λF hF=>⟨⟨rfl,rfl,rfl,Tw _,λ_ _ _=>rfl⟩,hF⟩
  ·have hfit:=hfit.resolve_right hnil;refine⟨w.setRow b (cB (SV.dW ρ l).toArray.toList (0+(j*k+f)) (x.rf ρ).cells.toList).toArray,_,?_,?_,h2⟩
   ·simp only[SV.rf,mP hb,Instr.storeAt,Instr.sureAddr,Sem.run_bind,Sem.run_pure,Result.andThen_ok];exact uQ hti hblk (by rw[hcs ρ];simp[j5,hsz]) (by rw[hcs ρ];simp[j5];omega) hone
   ·refine hw.store he (λy hy=>BB hkey hvs y hy) λF hF=> ?_;obtain⟨b',hb1',hb2',ajU⟩:=hF;obtain rfl:b=b':=by rw[hb]at hb1';simpa using hb1'
    refine⟨⟨rfl,rfl,rfl,by simp[World.setRow],λx hx hne=>(ol w b _).block x hx (λe=>hne ((hb2' x).2 e))⟩,b,hb1',hb2',?_⟩;rw[setRow_heap w b _ _ T _ hblk];rw[hcs ρ,Cu];simp
 |rows xs k' T=>
  dsimp only at h;cases hbk:Nat.beq k k' with
  |false=>rw[hbk]at h;exact h.elim
  |true=>
  rw[hbk,cond_true]at h;obtain rfl:=ael hbk;obtain⟨us,h,iL⟩:=EE h;rw[Ee]at h;obtain⟨r,hr,hf,h⟩:=h;rw[BX]at h;have hjl:j<xs.length:=(abH.1 hr).1;have hb:∃b off c,(ρ i).base=some ⟨b,off,none⟩/\w.heap[b]? =some (.cells c T (0,0))/\off+xs.length*k<=c.size/\uO c off k xs/\(∀r∈xs,r.length=k):=by
   obtain⟨R,φ,hw⟩:=hw;obtain⟨hl,hcap,hent⟩:=hw.jA _ he;simp only at hcap hent;rcases hent with⟨hb,hc0,_⟩|⟨b,off,c,hb1,hb2,hb3,hb4,hb5⟩
   ·exfalso;omega
   ·exact⟨b,off,c,hb1,hb3,by have:=aj4 k hcap;omega,hb5,λr hr=>(hl r hr).1⟩
  obtain⟨b,off,c,hb,hblk,hsize,hrows,hlen⟩:=hb;have hcells:(x.rf ρ).cells=us.toArray:=by rw[hcs ρ,iL ρ]
  have I4:us.length=vs.length:=by rw[<-iL ρ,j5]
  have hjk:(j+1)*k<=xs.length*k:=aj4 k hjl;rw[aiB]at hjk;have hrk:r.length=k:=hlen r (adu hr);refine⟨w.setRow b (cB c.toList (off+(j*k+f)) (x.rf ρ).cells.toList).toArray,_,?_,?_,h⟩
  ·simp only[SV.rf,mP hb,Instr.storeAt,Instr.sureAddr,Sem.run_bind,Sem.run_pure,Result.andThen_ok];exact uQ hti hblk (by rw[hcells];simp[I4,hsz]) (by rw[hcells];simp;omega) hone
  ·refine hw.store he (λy hy=>by simp[b_.hass]at hy) λF hF=> ?_;obtain⟨hl',akF,yB⟩:=hF;rcases yB with⟨hb',_,_⟩|⟨b',off',c',hb1',hb2',ajU,anU,apX⟩
   ·rw[hb]at hb';cases hb'
   ·obtain⟨rfl,rfl⟩:b=b'/\off=off':=by rw[hb]at hb1';simpa using hb1'
    obtain rfl:c=c':=by rw[hblk]at ajU;simpa using ajU
    refine⟨⟨rfl,rfl,rfl,by simp[World.setRow],λx hx hne=>(ol w b _).block x hx (λe=>hne ((hb2' x).2 e))⟩,?_,?_,.inr ⟨b,off,_,hb1',hb2',setRow_heap w b _ _ T _ hblk,?_,?_⟩⟩
    ·intro q hq;rcases anz hq with hq|rfl
     ·exact hl' q hq
     ·refine⟨by rw[jr];exact hrk,λv hv=> ?_⟩;rcases CB hv with hv|hv
      ·exact(hl' r (adu hr)).2 v hv
      ·exact hone v (by rw[hcells];simpa using hv)
    ·simpa using akF
    ·simpa[jr]using anU
    ·have:=Y5 (vs:=us) hrows hlen hr hf hsize;rw[hcells];intro i' r' hr' q v hv;have:=this i' r' hr' q v hv;simpa using this
 |ext o=>exact h.elim
end
end
section
section
variable {P:Program} {sT xT ty e:TypeId} {i:TypeInfo} {z:Value} {xd:TypeDesc}
variable {w:World} {off sLen sCap xc:Nat} {xb:Option Addr} {c:Array Value} {news:List Value}
theorem Eh(hs:P.underlying sT=some (.slice e))(hx:P.underlying xT=some xd)(hxi:∀k,xd≠.int k)(hi:P.info? e=some i){b n:Nat}{T:TypeId}
 (uF:sLen+n<=sCap) (hf:(Builtin.firstCells i.size n (.slice xb n xc)).run P w= .ok news.toArray w) (hb:w.heap[b]? =some (.cells c T (0,0)))
 (hfit:off+sLen*i.size+news.length<=c.size) (h1:∀v∈news,v.oneCell'=true):
 (Builtin.append_ #[sT,xT] ty #[.slice (some ⟨b,off,none⟩) sLen sCap,.slice xb n xc]).run P w=
   .ok (.slice (some ⟨b,off,none⟩) (sLen+n) sCap) (w.setRow b (cB c.toList (off+sLen*i.size) news).toArray):=by
 have hst:=run_storeCells_at P b (off+sLen*i.size) T news 0 c w hb zH h1;have hz:(match xd with| .int _=>true|_=>false)=false:=by cases xd<;>first|rfl|exact absurd rfl (hxi _)
 unfold Builtin.append_;simp only[amF,amO,ane,Sem.run_bind,run_underlying hs,Result.andThen_ok,dG hi,run_underlying hx,Sem.run_pure,aob,if_false,
  Builtin.lenOf,Sem.run_ite,if_pos uF,Bool.not_false,if_true,hf,fG]
 rw[P_ _ _ _ zH];simp at hst;simp[hst]
theorem Bg(hs:P.underlying sT=some (.slice e))(hx:P.underlying xT=some xd)(hxi:∀k,xd≠.int k)(hi:P.info? e=some i){a:Array Value}(uF:sLen<=sCap)
 (hf:(Builtin.firstCells i.size 0 (.slice xb 0 xc)).run P w= .ok a w):
 (Builtin.append_ #[sT,xT] ty #[.slice none sLen sCap,.slice xb 0 xc]).run P w= .ok (.slice none sLen sCap) w:=by
 have hz:(match xd with| .int _=>true|_=>false)=false:=by cases xd<;>first|rfl|exact absurd rfl (hxi _)
 unfold Builtin.append_;simp only[amF,amO,ane,Sem.run_bind,run_underlying hs,Result.andThen_ok,dG hi,run_underlying hx,Sem.run_pure,aob,if_false,
  Builtin.lenOf,Sem.run_ite,amr,if_pos uF,Bool.not_false,if_true,hf]
theorem v_(hs:P.underlying sT=some (.slice e))(hx:P.underlying xT=some xd)(hxi:∀k,xd≠.int k)(hi:P.info? e=some i)(hz0:i.zero=some z)(hby:i.bytes≠0){sb:Option Addr}{n:Nat}{olds:List Value}
 (uF:sCap<sLen+n) (hfo:(Builtin.firstCells i.size sLen (.slice sb sLen sCap)).run P w.drew= .ok olds.toArray w.drew) (hf:(Builtin.firstCells i.size n (.slice xb n xc)).run P w.drew= .ok news.toArray w.drew)
 (hroom:(sLen+n)*i.bytes<=140737488355328):
 (Builtin.append_ #[sT,xT] ty #[.slice sb sLen sCap,.slice xb n xc]).run P w=
   .ok (.slice (some ⟨w.heap.size,0,none⟩) (sLen+n) (grownCap w (sLen+n) sCap e))
    (w.drew.alloc (.cells (olds++news++(Builtin.zeroCells z.cells (grownCap w (sLen+n) sCap e-(sLen+n))).toList).toArray e)):=by
 have hz:(match xd with| .int _=>true|_=>false)=false:=by cases xd<;>first|rfl|exact absurd rfl (hxi _)
 have hn:¬(sLen+n<=sCap):=by omega
 have h48:=growslice_fits uF hroom;have h48':¬(Builtin.nextslicecap (sLen+n) sCap*i.bytes>2^48):=by omega
 have h63:¬(((sLen+n:Nat):Int)>IntKind.i64.max/\((false=true)\/i.bytes=0)):=by simp[hby]
 unfold Builtin.append_;simp only[amF,amO,ane,Sem.run_bind,run_underlying hs,Result.andThen_ok,dG hi,run_underlying hx,Sem.run_pure,aob,if_false,
  Builtin.lenOf,Sem.run_ite,if_neg hn,Bool.not_false,if_true,typeInfo,run_program,hi,hby,or_self,and_false,if_neg h48']
 simp[Question.forced,run_askRoom,zeroValue,typeInfo,hi,hz0,newRow,grownCap];simp[hfo,hf]
 congr 2
 apply al8;simp
end
theorem CW{k:Nat}:∀{xs:List (List Value)},(∀r∈xs,r.length=k)->∀{p:Nat} {v:Value},xs.flatten[p]? =some v->∃i j r,xs[i]? =some r/\r[j]? =some v/\p=i*k+j
 |[],_,p,v,h=>by simp at h
 |x::xs,hk,p,v,h=>by
  have hx:=hk x aI;rw[List.flatten_cons]at h;by_cases hp:p<k
  ·rw[ag9 aa]at h;exact⟨0,p,x,rfl,h,by omega⟩
  ·rw[ahg aa]at h;obtain⟨i,j,r,h1,h2,h3⟩:=CW (k:=k) (λr hr=>hk r (by simp[hr])) h;exact⟨i+1,j,r,by simpa using h1,h2,by rw[aiB];omega⟩
theorem kw{k:Nat}:∀{xs:List (List Value)},(∀r∈xs,r.length=k)->xs.flatten.length=xs.length*k
 |[],_=>by simp
 |x::xs,hk=>by
  rw[List.flatten_cons,adx,kw (k:=k) (λr hr=>hk r (by simp[hr])),hk x aI,ahN,aiB];omega
theorem FO{k:Nat}{v:Value}:∀{xs:List (List Value)},(∀r∈xs,r.length=k)->∀{i j:Nat} {r:List Value},xs[i]? =some r->r[j]? =some v->xs.flatten[i*k+j]? =some v
 |[],_,i,j,r,h,_=>by simp at h
 |x::xs,hk,i,j,r,h,hj=>by
  have hx:=hk x aI;rw[List.flatten_cons];cases i with
  |zero=>
   simp at h;subst h;have:=(abH.1 hj).1;rw[ag9 aa];simpa using hj
  |succ i=>
   have:=FO (k:=k) (xs:=xs) (λr hr=>hk r (by simp[hr])) (i:=i) wU hj;rw[ahg (by rw[aiB];omega),<-this]
   congr 1;rw[aiB];omega
variable {k:Nat} {xs:List (List Value)}
theorem Cs(hk:∀r∈xs,r.length=k)(rest:List Value):uO (xs.flatten++rest).toArray 0 k xs:=by
 intro i r hi j v hj;have hl:=FO hk hi hj;have:=(abH.1 hl).1;simp only[amF,aiD];rw[ag9 this];exact hl
variable {c:Array Value} {off:Nat} {v:Value}
theorem D_(hk:∀r∈xs,r.length=k)(h:uO c off k xs){p:Nat}(hp:xs.flatten[p]? =some v):c[off+p]? =some v:=by
 obtain⟨i,j,r,h1,h2,rfl⟩:=CW hk hp;rw[<-alF];exact h i r h1 j v h2
theorem CG{m:Nat}(h:uO c off k xs):uO c off k (xs.take m):=by
 intro i r hi;rw[al2]at hi;split at hi
 ·exact h i r hi
 ·cases hi
theorem Qz{ys:List (List Value)}(hkx:∀r∈xs,r.length=k)(hky:∀r∈ys,r.length=k)(h:uO c off k xs)(hc:off+(xs.length+ys.length)*k<=c.size):
 uO (cB c.toList (off+xs.length*k) ys.flatten).toArray off k (xs++ys):=by
 have hfl:=kw hky;have hfit:off+xs.length*k+ys.flatten.length<=c.toList.length:=by
  have e1:c.toList.length=c.size:=by simp
  rw[hfl,e1];rw[Nat.add_mul]at hc;omega
 intro i r hi j v hj;rw[amF,uA _ _ _ _ hfit];by_cases hix:i<xs.length
 ·rw[ag9 hix]at hi;have hjk:j<k:=by rw[<-hkx r (adu hi)];exact(abH.1 hj).1
  have:(i+1)*k<=xs.length*k:=aj4 k hix;rw[aiB]at this;rw[if_neg aa,amH];exact h i r hi j v hj
 ·rw[ahg aa]at hi;have hl:=FO hky hi hj;have hlt:=(abH.1 hl).1;have e:i*k=xs.length*k+(i-xs.length)*k:=by rw[<-Nat.add_mul];congr 1;omega
  rw[if_pos aa,<-hl]
  congr 1;omega
end
section
def N8:List Value->Bool
 |[]=>true
 |v::r=>bif v.oneCell' then N8 r else false
variable {l:List Value}
theorem VW(h:N8 l=true):∀v∈l,v.oneCell'=true:=by
 induction l with
 |nil=>simp
 |cons a r ih=>
  unfold N8 at h;cases ha:a.oneCell' with
  |false=>simp[ha]at h
  |true=>
   rw[ha,cond_true]at h;intro v hv;rcases abr.1 hv with rfl|hv
   ·exact ha
   ·exact ih h v hv
structure pg(l c:Int)(bytes:Nat)(K:Nat->Prop):Prop where
 out:∃n m:Nat,l=n/\c=m/\n<=m/\bytes*m<=281474976710656/\m<=9223372036854775807/\K n
theorem Ku{l c:Int}{bytes:Nat}{K:Nat->Prop}:pg l c bytes K=(∃n m:Nat,l=n/\c=m/\n<=m/\bytes*m<=281474976710656/\m<=9223372036854775807/\K n):=propext ⟨λh=>h.out,λh=>⟨h⟩⟩
theorem oP(w:World)(o:Obj):(w.alloc o).heap[w.heap.size]? =some o:=by
 show(w.heap.push o)[_]? =_;simp
def agp(cx:Cx)(t:TypeId)(x y:SV)(H:Heap)(nx:Nat)(K:SV->Heap->Prop):Prop:=
 sD t (λti=>bif Nat.beq ti.ai 1 then sD ti.elem (λte=>bif Nat.beq te.zero.length te.size&&N8 te.zero then
  (match x,y with
   | .c (.int _ l),.c (.int _ c)=>pg l c te.bytes λn=>K (.os nx n) ((nx,.rows (List.replicate n te.zero) te.size ti.elem)::H)
   |_,_=>False)else False) cx.tab else False) cx.tab
theorem X_(z:Array Value)(n m:Nat)(h:n<=m):uO (madeCells z (m*z.size)) 0 z.size (List.replicate n z.toList):=by
 intro i r hi j v hj;rw[amT]at hi;split at hi
 ·rename_i hin;obtain rfl:z.toList=r:=by simpa using hi
  have hjz:j<z.size:=by simpa using(abH.1 hj).1
  have hlt:i*z.size+j<m*z.size:=by
   have:(i+1)*z.size<=m*z.size:=aj4 _ aa;rw[aiB]at this;omega
  have e:(i*z.size+j)%z.size=j:=by rw[Nat.add_comm,Nat.add_mul_mod_self_right];exact akr hjz
  unfold madeCells;rw[aiD,Array.getElem?_map,Array.getElem?_range,if_pos hlt];simp only[amk,e];rw[amH]at hj;rw[getElem!_pos z j hjz,<-hj,Array.getElem?_eq_getElem hjz]
 ·cases hi
section
variable {cx:Cx} (hok:∀p∈cx.tab,lu cx.P p.1=some p.2)
variable {t:TypeId} {ρ:Nat->Loc} {nx:Nat} {H:Heap} {S:bR} {K:SV->Heap->Prop} {w:World}
include hok in
theorem Xz{x y:SV}(h:agp cx t x y H nx K)(hw:dO cx.B ρ nx H S w):
 ∃v ρ' H' w',(Instr.makeSlice t (x.rf ρ) (y.rf ρ)).run cx.P w= .ok (v.rf ρ') w'/\(∀i,i<nx->ρ' i=ρ i)/\v.lt (nx+1)/\dO cx.B ρ' (nx+1) H' S w'/\K v H':=by
 unfold agp at h;obtain⟨ti,hti,h⟩:=dY hok h;cases hk:Nat.beq ti.ai 1 with
 |false=>rw[hk]at h;exact h.elim
 |true=>
 rw[hk,cond_true]at h;obtain⟨i,d,z,hi0,hd,hz0,rfl⟩:=eD hti;have hk':=ael hk;cases d<;>simp[kindOf]at hk'
 rename_i e;obtain⟨te,hte,h⟩:=dY hok h;obtain⟨ie,de,ze,hie,hde,hze,rfl⟩:=eD hte;simp only[xG]at hie h;cases hb:(Nat.beq ze.cells.toList.length ie.size&&N8 ze.cells.toList)with
 |false=>rw[hb]at h;exact h.elim
 |true=>
 rw[hb,cond_true]at h;simp only[afF]at hb;have hsz:ze.cells.size=ie.size:=by simpa using ael hb.1
 match x,y,h with
 | .c (.int kl l),.c (.int kc c),h=>
   dsimp only at h;rw[Ku]at h;obtain⟨n,m,rfl,rfl,hnm,hby,h63,hK⟩:=h;have hrun:=run_make (P:=cx.P) w t e ie ze hd hie hze kl kc (n:Int) (m:Int) aa aa (by rw[<-akv];exact Int.ofNat_le.2 hby) aa;refine⟨.os nx n,upd ρ nx ⟨some ⟨w.heap.size,0,none⟩,m⟩,_,w.alloc (.cells (madeCells ze.cells ((m:Int).toNat*ie.size)) e),?_,λi hi=>mI hi,SV.yP aa,?_,hK⟩
   rotate_left
   ·refine hw.alloc (o:= .cells (madeCells ze.cells ((m:Int).toNat*ie.size)) e) (λy hy=>by simp[b_.hass]at hy) ⟨λr hr=> ?_,by simpa using hnm,.inr ⟨w.heap.size,0,_,rfl,λ_=>Iff.rfl,oP _ _,?_,?_⟩⟩
    ·have:=List.eq_of_mem_replicate hr;subst this;exact⟨by simpa using hsz,VW hb.2⟩
    ·rw[size_madeCells];simp
    ·have:=X_ ze.cells n m hnm;rw[hsz]at this;intro i r hi j v hj;have:=this i r hi j v hj;simpa using this
   ·simp only[SV.rf,upd_same];simpa using hrun
def O7{α:Type}(l:List α):Nat->List α
 |0=>[]
 |n+1=>l++O7 l n
def aeE:List SV->Option (List Value)
 |[]=>some []
 | .c v::r=>(match aeE r with|some l=>some (v::l)|none=>none)
 |_=>none
theorem Re:∀{l:List SV} {vs:List Value},aeE l=some vs->∀ρ,SV.dW ρ l=vs
 |[],vs,h,ρ=>by simp[aeE]at h;subst h;rfl
 | .c v::r,vs,h,ρ=>by
   simp only[aeE]at h;split at h
   ·rename_i l hl;have:=Re hl ρ;simp at h;subst h;simp[SV.dW,SV.rf,this]
   ·cases h
def chunk(k:Nat):Nat->List Value->List (List Value)
 |0,_=>[]
 |n+1,l=>l.take k::chunk k n (l.drop k)
theorem Ea{k:Nat}:∀{n:Nat} {l:List Value},l.length=n*k->(chunk k n l).flatten=l/\(∀r∈chunk k n l,r.length=k)/\(chunk k n l).length=n
 |0,l,h=>by simp at h;subst h;simp[chunk]
 |n+1,l,h=>by
  rw[aiB]at h;obtain⟨h1,h2,h3⟩:=Ea (k:=k) (n:=n) (l:=l.drop k) fK;refine⟨by simp[chunk,h1],?_,by simp[chunk,h3]⟩;intro r hr;rcases abr.1 hr with rfl|hr
  ·simp;omega
  ·exact h2 r hr
theorem Sk{k:Nat}{v:Value}{r:List Value}:∀{n:Nat} {l:List Value},r∈chunk k n l->v∈r->v∈l
 |0,l,h,_=>by simp[chunk]at h
 |n+1,l,h,hv=>by
  rcases abr.1 h with rfl|h
  ·exact ams hv
  ·exact anW (Sk h hv)
def ones(l:List Value):List (List Value):=l.map λv=>[v]
def rowsOf(k n:Nat)(l:List Value):List (List Value):=bif Nat.beq k 1 then ones l else chunk k n l
variable {k:Nat}
theorem ad_{n:Nat}(h:l.length=n*k):rowsOf k n l=chunk k n l:=by
 unfold rowsOf;cases hb:Nat.beq k 1 with
 |false=>rfl
 |true=>
  obtain rfl:=ael hb;simp only[cond_true,ones];have:∀(n:Nat) (l:List Value),l.length=n->(l.map λv=>[v])=chunk 1 n l:=by
   intro n;induction n with
   |zero=>intro l hl;simp at hl;subst hl;rfl
   |succ n ih=>
    intro l hl
    match l,hl with
    |a::r,hl=>simp[chunk,ih r (by simpa using hl)]
  exact this n l wU
def CV(cx:Cx)(t:TypeId)(len:Nat)(ps:List (Nat×SV))(H:Heap)(nx:Nat)(K:SV->Heap->Prop):Prop:=
 sD t (λti=>bif Nat.beq ti.ai 1 then sD ti.elem (λte=>bif (Nat.beq te.zero.length te.size&& !Nat.beq te.size 0)&&Nat.ble (len*te.size) 16777216 then
  G7 (λl=>bif Gv l then(match aeE l with
   |some vs=>K (.os nx len) ((nx,.rows (rowsOf te.size len vs) te.size ti.elem)::H)
   |none=>K (.os nx len) ((nx,.box l ti.elem)::H))else False) te.size (cs (O7 te.zero len)) ps else False) cx.tab else False) cx.tab
theorem xK{α:Type}(l:List α):∀n,(O7 l n).length=n*l.length
 |0=>by simp[O7]
 |n+1=>by simp[O7,xK l n,aiB];omega
theorem X8{α:Type}(l:List α):∀(n p:Nat),p<n*l.length->(O7 l n)[p]? =l[p%l.length]?
 |0,p,h=>by simp at h
 |n+1,p,h=>by
  rw[aiB]at h;unfold O7;by_cases hp:p<l.length
  ·rw[ag9 hp,akr hp]
  ·rw[ahg aa,X8 l n _ aa,<-Nat.mod_eq_sub_mod aa]
theorem Px(z:Array Value)(n:Nat):madeCells z (n*z.size)=(O7 z.toList n).toArray:=by
 apply al8;apply an_;intro p;by_cases hp:p<n*z.size
 ·have hz0:0<z.size:=by
   rcases amm z.size with h|h
   ·rw[h]at hp;omega
   ·exact h
  have hz:p%z.size<z.size:=akx _ hz0;show _=(O7 z.toList n)[p]?;rw[X8 _ _ _ (by simpa using hp)];simp[madeCells,hp,hz]
 ·show _=(O7 z.toList n)[p]?;rw[aiQ (by simp[madeCells];omega),aiQ (by simp[xK];omega)]
theorem Rv{place:Nat->Option (Nat×Nat)}:∀{ps:List (Nat×Value)} {c c':Array Value},Instr.fill place c ps=some c'->c'.size=c.size
 |[],c,c',h=>by simp[Instr.fill]at h;rw[h]
 |(i,v)::r,c,c',h=>by
  simp only[Instr.fill]at h;split at h
  ·cases h
  ·split at h
   ·cases h
   ·rw[Rv h];rename_i off size _ _;have:∀(vs:List (Value×Nat)) (a:Array Value),(vs.foldl (λcs x=>cs.setIfInBounds (off+x.2) x.1) a).size=a.size:=by
     intro vs;induction vs with
     |nil=>intro a;rfl
     |cons x r ih=>intro a;simp[ih]
    rw[<-Array.foldl_toList];exact this _ _
include hok in
theorem IL{len:Nat}{ps:List (Nat×SV)}(hp:∀p∈ps,p.2.lt nx)(h:CV cx t len ps H nx K)(hw:dO cx.B ρ nx H S w):
 ∃v ρ' H' w',(Instr.buildSlice t len (ps.map λp=>(p.1,p.2.rf ρ)).toArray).run cx.P w= .ok (v.rf ρ') w'/\(∀i,i<nx->ρ' i=ρ i)/\v.lt (nx+1)/\dO cx.B ρ' (nx+1) H' S w'/\K v H':=by
 unfold CV at h;obtain⟨ti,hti,h⟩:=dY hok h;cases hk:Nat.beq ti.ai 1 with
 |false=>rw[hk]at h;exact h.elim
 |true=>
 rw[hk,cond_true]at h;obtain⟨i,d,z,hi0,hd,hz0,rfl⟩:=eD hti;have hk':=ael hk;cases d<;>simp[kindOf]at hk'
 rename_i e;obtain⟨te,hte,h⟩:=dY hok h;obtain⟨ie,de,ze,hie,hde,hze,rfl⟩:=eD hte;simp only[xG]at hie h;cases hb:((Nat.beq ze.cells.toList.length ie.size&& !Nat.beq ie.size 0)&&Nat.ble (len*ie.size) 16777216)with
 |false=>rw[hb]at h;exact h.elim
 |true=>
 rw[hb,cond_true]at h;simp only[afF,aoe]at hb;have hsz:ze.cells.size=ie.size:=by simpa using ael hb.1.1
 have hnz:ie.size≠0:=akz hb.1.2;have hle:len*ie.size<=16777216:=an4 hb.2;obtain⟨l,h,hl,Mq⟩:=Et (x9 nx _) hp h;have Mq:=Mq ρ;rw[mF]at Mq;cases hone:Gv l with
 |false=>rw[hone]at h;exact h.elim
 |true=>
 rw[hone,cond_true]at h;have ai5:∀v∈SV.dW ρ l,v.oneCell'=true:=by
  intro v hv;simp only[SV.o9,abl]at hv;obtain⟨u,hu,rfl⟩:=hv;exact J_ (E8 hone u hu) ρ
 have hlen:(SV.dW ρ l).length=len*ie.size:=by
  have:=Rv Mq;simp[xK,hsz]at this;exact this
 have hrun:(Instr.buildSlice t len (ps.map λp=>(p.1,p.2.rf ρ)).toArray).run cx.P w= .ok (.slice (some ⟨w.heap.size,0,none⟩) len len) (w.alloc (.cells (SV.dW ρ l).toArray e)):=by
  by_cases h0:len*ie.size=0
  ·have hl0:SV.dW ρ l=[]:=by rw[h0]at hlen;simpa using hlen
   have hr0:O7 ze.cells.toList len=[]:=by
    apply ahV;rw[xK];simpa[hsz]using h0
   rw[hl0,hr0]at Mq;have aau:Instr.fill (λi=>some (i*ie.size,ie.size)) #[] (ps.map λp=>(p.1,p.2.rf ρ))=some #[]:=Mq;have hr:(Array.map (λx=>(default:Value)) (Array.range 0))= #[]:=by simp
   simp[Instr.buildSlice,run_underlying hd,dG hie,h0,newRow,hl0];simp only[hr,aau];simp
  ·have aau:Instr.fill (λi=>some (i*ie.size,ie.size)) (madeCells ze.cells (len*ie.size)) (ps.map λp=>(p.1,p.2.rf ρ))=some (SV.dW ρ l).toArray:=by
    rw[<-hsz,Px,hsz];exact Mq
   have hbig:¬len*ie.size>2^24:=by omega
   exact run_buildSlice w t e len _ _ ie ze hd hie hze hbig h0 (by simpa only[madeCells]using aau)
 refine⟨.os nx len,upd ρ nx ⟨some ⟨w.heap.size,0,none⟩,len⟩,?_⟩;split at h
 ·rename_i vs hvs;have amI:=Re hvs ρ;rw[amI]at hlen hrun ai5;obtain⟨g1,g2,g3⟩:=Ea hlen;rw[ad_ hlen]at h;refine⟨_,w.alloc (.cells vs.toArray e),by simpa only[SV.rf,upd_same]using hrun,λi hi=>mI hi,SV.yP aa,?_,h⟩;refine hw.alloc (λy hy=>by simp[b_.hass]at hy) ⟨λr hr=>⟨g2 r hr,λv hv=>ai5 v (Sk hr hv)⟩,by rw[g3];exact Tw _,.inr ⟨w.heap.size,0,_,rfl,λ_=>Iff.rfl,oP _ _,by simp[hlen],?_⟩⟩;have:=Cs g2 [];rw[g1,ajM]at this;exact this
 ·refine⟨_,w.alloc (.cells (SV.dW ρ l).toArray e),by simpa only[SV.rf,upd_same]using hrun,λi hi=>mI hi,SV.yP aa,?_,h⟩;exact hw.alloc (λy hy=>hl y hy) ⟨w.heap.size,rfl,λ_=>Iff.rfl,oP _ _⟩
end
end
end Go.SX

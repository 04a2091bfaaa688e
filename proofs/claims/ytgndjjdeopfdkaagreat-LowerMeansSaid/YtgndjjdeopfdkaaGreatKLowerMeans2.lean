import Derived.Deep.LoopGhost
import Derived.OrdersHeld
import Derived.ProofKit
import Derived.OpenShut
import Derived.Deep.Slices
import Derived.Test.YtgndjjdeopfdkaaGreatKLowerMeans1
/- texts SxM SxW of the proof of LowerMeansSaid -/
set_option maxHeartbeats 16000000
set_option maxRecDepth 20000
set_option linter.unusedVariables false
set_option linter.unusedSimpArgs false
namespace Go.SX
open Go.RowKit
section
structure Gn(m n:Nat)(K:Prop):Prop where
 out:m<=n/\K
variable {m:Nat} {K:Prop}
theorem Mj{n:Nat}:Gn m n K=(m<=n/\K):=propext ⟨λh=>h.out,λh=>⟨h⟩⟩
structure jv(n bytes:Nat)(K:Prop):Prop where
 out:n*bytes<=140737488355328/\K
theorem CY{n bytes:Nat}:jv n bytes K=(n*bytes<=140737488355328/\K):=propext ⟨λh=>h.out,λh=>⟨h⟩⟩
structure tV(a:Addr)(m size:Nat)(S:bR)(K:List (List Value)->Prop):Prop where
 out:∃ys:List (List Value),ys.length=m/\(∀r∈ys,r.length=size/\∀v∈r,v.oneCell'=true)/\
  (∀R w,S.holds R w->∀i r,ys[i]? =some r->∀j v,r[j]? =some v->w.cell? (a.add (i*size+j))=some v)/\K ys
variable {size:Nat} {S:bR}
theorem KW{a:Addr}{K:List (List Value)->Prop}:tV a m size S K=(∃ys:List (List Value),ys.length=m/\(∀r∈ys,r.length=size/\∀v∈r,v.oneCell'=true)/\
 (∀R w,S.holds R w->∀i r,ys[i]? =some r->∀j v,r[j]? =some v->w.cell? (a.add (i*size+j))=some v)/\K ys):=propext ⟨λh=>h.out,λh=>⟨h⟩⟩
def ahY(size:Nat)(x:SV)(H:Heap)(S:bR)(K:List (List Value)->Prop):Prop:=
 match x with
 | .os j m=>Bw j (λe=>match e with| .rows ys k _=>bif Nat.beq k size then Gn m ys.length (K (ys.take m))else False|_=>False) H
 | .c (.slice none 0 _)=>K []
 | .c (.slice (some a) m _)=>tV a m size S K
 |_=>False
variable {B:Base} {ρ:Nat->Loc} {nx:Nat} {H:Heap}
theorem R7{P:Program}{x:SV}{K:List (List Value)->Prop}{w0:World}(hw0:dO B ρ nx H S w0)(h:ahY size x H S K):
 ∃ys xb xc,K ys/\x.rf ρ= .slice xb ys.length xc/\(∀r∈ys,r.length=size/\∀v∈r,v.oneCell'=true)/\
  ∀w,dO B ρ nx H S w->(Builtin.firstCells size ys.length (.slice xb ys.length xc)).run P w= .ok ys.flatten.toArray w:=by
 match x,h with
 | .os j m,g=>
   obtain⟨e,he,g1⟩:=mM g;cases e with
   |rows ys k T=>
    dsimp only at g1;cases hk:Nat.beq k size with
    |false=>rw[hk]at g1;exact g1.elim
    |true=>
    rw[hk,cond_true]at g1;obtain rfl:=ael hk;rw[Mj]at g1;obtain⟨hm,g2⟩:=g1;have hlen:(ys.take m).length=m:=by simp;omega
    have hrow:∀r∈ys.take m,r.length=k/\∀v∈r,v.oneCell'=true:=by
     obtain⟨R,φ,hw0⟩:=hw0;obtain⟨hl,_,_⟩:=hw0.jA _ he;exactλr hr=>hl r (ams hr)
    refine⟨ys.take m,(ρ j).base,(ρ j).cap,g2,by simp only[SV.rf,hlen],hrow,λw hw=> ?_⟩;obtain⟨R,φ,hw⟩:=hw;obtain⟨hl,hcap,hent⟩:=hw.jA _ he;simp only at hcap hent;rcases hent with⟨hb,hc0,_⟩|⟨b,off,c,hb1,hb2,hb3,hb4,hb5⟩
    ·have h0:ys.length=0:=by omega
     have:ys=[]:=ahV h0;subst this;simp only[hb,List.take_nil,List.flatten_nil];exact run_firstCells_none _ _ _ _ _
    ·rw[hb1];have hkk:∀r∈ys.take m,r.length=k:=λr hr=>(hrow r hr).1;refine run_firstCells_some (P:=P) w k _ _ _ _ _ (kw hkk) λp v hp=> ?_;rw[fG];have:=D_ hkk (CG hb5) hp;simpa[World.cell?,hb3]using this
   |_=>exact g1.elim
 | .c (.slice none 0 xc),h=>exact⟨[],none,xc,h,rfl,by simp,λw _=>run_firstCells_none _ _ _ _ _⟩
 | .c (.slice (some a) m xc),h=>
   have h:tV a m size S K:=by
    simp only[ahY]at h;exact h
   rw[KW]at h;obtain⟨ys,h1,h2,h3,h4⟩:=h;subst h1;refine⟨ys,some a,xc,h4,rfl,h2,λw hw=> ?_⟩;obtain⟨R,φ,hw⟩:=hw;have hkk:∀r∈ys,r.length=size:=λr hr=>(h2 r hr).1;refine run_firstCells_some (P:=P) w size _ _ _ _ _ (kw hkk) λp v hp=> ?_;obtain⟨i,j,r,g1,g2,rfl⟩:=CW hkk hp;exact h3 R w hw.qL i r g1 j v g2
structure apK(P Q:Prop):Prop where
 out:P\/Q
theorem UW{P Q:Prop}(h:P):apK P Q:=⟨.inl h⟩
structure apQ(cx:Cx)(sT xT:TypeId)(size:Nat)(sv:Value)(ys:List (List Value))(H:Heap)(S:bR)(nx:Nat)(K:SV->Heap->Prop):Prop where
 out:∀ρ w xb xc ty,dO cx.B ρ nx H S w->(∀r∈ys,r.length=size/\∀v∈r,v.oneCell'=true)->(∀u,dO cx.B ρ nx H S u->(Builtin.firstCells size ys.length (.slice xb ys.length xc)).run cx.P u= .ok ys.flatten.toArray u)->
  ∃v ρ' H' w',(Builtin.append_ #[sT,xT] ty #[sv,.slice xb ys.length xc]).run cx.P w= .ok (v.rf ρ') w'/\(∀i,i<nx->ρ' i=ρ i)/\v.lt (nx+1)/\dO cx.B ρ' (nx+1) H' S w'/\K v H'
def Va(cx:Cx)(ts:List TypeId)(args:List SV)(H:Heap)(S:bR)(nx:Nat)(K:SV->Heap->Prop):Prop:=
 match ts,args with
 |sT::xT::_,s::x::_=>
  sD sT (λti=>sD xT (λtx=>bif Nat.beq ti.ai 1&&Nat.beq tx.ai 1 then sD ti.elem (λte=>bif Nat.beq te.bytes 0|| !Nat.beq te.zero.length te.size then False else
   ahY te.size x H S (λys=>
    match s with
    | .os i len=>Bw i (λe=>match e with
       | .rows xs k T=>bif Nat.beq k te.size&&Nat.beq T ti.elem then Gn len xs.length (jv (len+ys.length) te.bytes
          (abe i (λH'=>K (.os nx (len+ys.length)) ((nx,.rows (xs.take len++ys) k T)::H')) H))else False
       |_=>False) H
    | .c (.slice none 0 0)=>jv ys.length te.bytes (K (.os nx ys.length) ((nx,.rows ys te.size ti.elem)::H))
    | .c (.slice (some a) len cap)=>apK (ahY te.size (.c (.slice (some a) len cap)) H S (λxs=>Gn (cap+1) (len+ys.length) (jv (len+ys.length) te.bytes
       (K (.os nx (len+ys.length)) ((nx,.rows (xs++ys) te.size ti.elem)::H))))) (apQ cx sT xT te.size (.slice (some a) len cap) ys H S nx K)
    |_=>False)) cx.tab else False) cx.tab) cx.tab
 |_,_=>False
variable {w:World}
theorem dO.replace{w':World}{i:Nat}{e e':b_}{l:Loc}(h:dO B ρ nx H S w)(hi:(i,e)∈H)(hlt:e'.lt nx)
 (hst:∀F,e.holds ρ (ρ i) F w->Step F w w'/\e'.holds ρ l F w'):dO B (upd ρ nx l) (nx+1) ((nx,e')::sM i H) S w':=by
 obtain⟨R,φ,h⟩:=h;obtain⟨hs,he'⟩:=hst (φ i) (h.jA _ hi);have hR:∀b,R b->¬φ i b:=λb hb hb'=>h.apart _ hi b hb' hb;have hdel:∀p∈sM i H,∀b,φ p.1 b->¬φ i b:=by
  have:∀{H:Heap},H.Pairwise (λp q=>p.1≠q.1/\∀b,φ p.1 b->¬φ q.1 b)->∀{e:b_},(i,e)∈H->∀p∈sM i H,∀b,φ p.1 b->¬φ i b:=by
   intro H hsep;induction H with
   |nil=>intro e he;cases he
   |cons q r ih=>
    obtain⟨hq,hr⟩:=aiN.1 hsep;intro e he p hp b hb;obtain⟨qi,qe⟩:=q;unfold sM at hp;cases hbq:Nat.beq qi i with
    |true=>
     rw[hbq,cond_true]at hp;have:=ael hbq;subst this;intro hb';exact(hq p hp).2 b hb' hb
    |false=>
     rw[hbq,cond_false]at hp;have hne:=akz hbq;have her:(i,e)∈r:=(abr.1 he).resolve_left (λg=>hne wB);rcases abr.1 hp with g|g
     ·subst g;exact(hq _ her).2 b hb
     ·exact ih hr her p g b hb
  exact this h.sep hi
 have h':=(h.drop (mH i H)).step hs hR hdel;exact⟨R,_,h'.add hlt he' (λb hb hb'=>hR b hb' hb) hdel⟩
section
variable {cx:Cx} (hok:∀p∈cx.tab,lu cx.P p.1=some p.2)
theorem KM{zs:List (List Value)}{k cap:Nat}{e:TypeId}(h:dO B ρ nx H S w)(hk:∀r∈zs,r.length=k/\∀v∈r,v.oneCell'=true)(hcap:zs.length<=cap)(rest:List Value)
 (hrest:rest.length=(cap-zs.length)*k):
 dO B (upd ρ nx ⟨some ⟨w.heap.size,0,none⟩,cap⟩) (nx+1) ((nx,.rows zs k e)::H) S (w.drew.alloc (.cells (zs.flatten++rest).toArray e)):=by
 have hw:dO B ρ nx H S w.drew:=h.drew;refine hw.alloc (λy hy=>by simp[b_.hass]at hy) ⟨hk,hcap,.inr ⟨w.heap.size,0,_,rfl,λ_=>Iff.rfl,oP _ _,?_,Cs (λr hr=>(hk r hr).1) rest⟩⟩;have:=kw (λr hr=>(hk r hr).1);simp only[aoc,adx,this,hrest,aiD];rw[<-Nat.add_mul];exact aj4 _ aa
theorem yo(z:Array Value)(n:Nat):(Builtin.zeroCells z n).toList.length=n*z.size:=by simp[Builtin.zeroCells]
theorem grownCap_le(w:World)(need old:Nat)(e:TypeId):need<=grownCap w need old e:=by
 simp only[grownCap,Question.cut];omega
include hok in
theorem Q0{ts:Array TypeId}{ty:TypeId}{args:List SV}{K:SV->Heap->Prop}(h:Va cx ts.toList args H S nx K)(hw:dO cx.B ρ nx H S w):
 ∃v ρ' H' w',(Builtin.append_ ts ty (SV.dW ρ args).toArray).run cx.P w= .ok (v.rf ρ') w'/\(∀i,i<nx->ρ' i=ρ i)/\v.lt (nx+1)/\dO cx.B ρ' (nx+1) H' S w'/\K v H':=by
 unfold Va at h
 match hts:ts.toList,args,h with
 |sT::xT::tr,s::x::ar,h=>
 have ht0:ts[0]? =some sT:=by rw[<-amH,hts];rfl
 have ht1:ts[1]? =some xT:=by rw[<-amH,hts];rfl
 obtain⟨ti,hti,h⟩:=dY hok h;obtain⟨tx,htx,h⟩:=dY hok h;cases hk:(Nat.beq ti.ai 1&&Nat.beq tx.ai 1)with
 |false=>rw[hk]at h;exact h.elim
 |true=>
 rw[hk,cond_true]at h;simp only[afF]at hk;obtain⟨i,d,z,hi0,hd,hz0,rfl⟩:=eD hti;obtain⟨ix,dx,zx,apS,hdx,aoV,rfl⟩:=eD htx;have hk1:=ael hk.1;have hk2:=ael hk.2;have an0:∃e,d= .slice e:=by cases d<;>first|exact⟨_,rfl⟩|(simp[kindOf]at hk1)
 obtain⟨e,rfl⟩:=an0;have hxi:∀k,dx≠.int k:=by rintro k rfl;simp[kindOf]at hk2
 obtain⟨te,hte,h⟩:=dY hok h;obtain⟨ie,de,ze,hie,hde,hze,rfl⟩:=eD hte;simp only[xG]at hie h;cases hb:(Nat.beq ie.bytes 0|| !Nat.beq ze.cells.toList.length ie.size)with
 |true=>rw[hb]at h;exact h.elim
 |false=>
 rw[hb,cond_false]at h;simp only[Bool.or_eq_false_iff,Bool.not_eq_false']at hb;have hby:ie.bytes≠0:=akz hb.1;have hzs:ze.cells.size=ie.size:=by simpa using ael hb.2
 obtain⟨ys,xb,xc,h,hxr,hys,hfx⟩:=R7 (P:=cx.P) hw h;have hyk:∀r∈ys,r.length=ie.size:=λr hr=>(hys r hr).1;have hyo:∀v∈ys.flatten,v.oneCell'=true:=λv hv=>by
  obtain⟨r,hr,hv⟩:=List.mem_flatten.1 hv;exact(hys r hr).2 v hv
 have key:∀(sv:Value) v w',s.rf ρ=sv->(Builtin.append_ #[sT,xT] ty #[sv,.slice xb ys.length xc]).run cx.P w= .ok v w'->
  (Builtin.append_ ts ty (SV.dW ρ (s::x::ar)).toArray).run cx.P w= .ok v w':=by
  intro sv v w' hsv hr;unfold Builtin.append_ at hr|-
  simp only[amF,amO,ane,SV.dW,ht0,ht1,hsv,hxr]at hr|-
  exact hr
 have out:∀(sb:Option Addr) (sLen sCap:Nat) (xs:List (List Value)),(∀r∈xs,r.length=ie.size/\∀v∈r,v.oneCell'=true)->xs.length=sLen->sCap<sLen+ys.length->(sLen+ys.length)*ie.bytes<=140737488355328->
  (Builtin.firstCells ie.size sLen (.slice sb sLen sCap)).run cx.P w.drew= .ok xs.flatten.toArray w.drew->s.rf ρ= .slice sb sLen sCap->K (.os nx (sLen+ys.length)) ((nx,.rows (xs++ys) ie.size e)::H)->
  ∃v ρ' H' w',(Builtin.append_ ts ty (SV.dW ρ (s::x::ar)).toArray).run cx.P w= .ok (v.rf ρ') w'/\(∀i,i<nx->ρ' i=ρ i)/\v.lt (nx+1)/\dO cx.B ρ' (nx+1) H' S w'/\K v H':=by
  intro sb sLen sCap xs hxs hxl uF hroom hfs hsv hK;have hrun:=v_ (ty:=ty) hd hdx hxi hie hze hby uF hfs (hfx _ hw.drew) hroom;refine⟨.os nx (sLen+ys.length),upd ρ nx ⟨some ⟨w.heap.size,0,none⟩,grownCap w (sLen+ys.length) sCap e⟩,_,w.drew.alloc (.cells ((xs++ys).flatten++(Builtin.zeroCells ze.cells (grownCap w (sLen+ys.length) sCap e-(sLen+ys.length))).toList).toArray e),?_,λi hi=>mI hi,SV.yP aa,?_,hK⟩
  rotate_left
  ·refine KM hw (zs:=xs++ys) ?_ ?_ (Builtin.zeroCells ze.cells (grownCap w (sLen+ys.length) sCap e-(sLen+ys.length))).toList ?_
   ·intro r hr;rcases aeh.1 hr with hr|hr
    ·exact hxs r hr
    ·exact hys r hr
   ·rw[adx,hxl];exact grownCap_le _ _ _ _
   ·rw[yo,hzs,adx,hxl]
  ·refine key _ _ _ hsv ?_;simp only[SV.rf,upd_same];rw[List.flatten_append];exact hrun
 match hs:s,h with
 | .os i len,g0=>
   obtain⟨en,hen,g1⟩:=mM g0;cases en with
   |rows xs k T=>
    dsimp only at g1;cases hkk:(Nat.beq k ie.size&&Nat.beq T e)with
    |false=>rw[hkk]at g1;exact g1.elim
    |true=>
    rw[hkk,cond_true]at g1;simp only[afF]at hkk;have e1:=ael hkk.1;have e2:=ael hkk.2;clear h g0;subst e1;subst e2;rw[Mj]at g1;obtain⟨hlen,g2⟩:=g1;rw[CY]at g2;obtain⟨hroom,g3⟩:=g2;rw[aqn]at g3;rw[<-hs];have hent:(∀r∈xs,r.length=ie.size/\∀v∈r,v.oneCell'=true)/\xs.length<=(ρ i).cap/\(((ρ i).base=none/\(ρ i).cap=0)\/∃b off c,(ρ i).base=some ⟨b,off,none⟩/\w.heap[b]? =some (.cells c T (0,0))/\off+(ρ i).cap*ie.size<=c.size/\uO c off ie.size xs):=by
     obtain⟨R,φ,hw⟩:=hw;obtain⟨h1,h2,h3⟩:=hw.jA _ hen;refine⟨h1,h2,?_⟩;rcases h3 with h3|⟨b,off,c,h3,_,h4,h5,h6⟩
     ·exact .inl ⟨h3.1,h3.2.1⟩
     ·exact .inr ⟨b,off,c,h3,h4,h5,h6⟩
    obtain⟨hxs,hxc,hent⟩:=hent;have ahI:∀r∈xs.take len,r.length=ie.size/\∀v∈r,v.oneCell'=true:=λr hr=>hxs r (ams hr);have hzs':∀r∈xs.take len++ys,r.length=ie.size/\∀v∈r,v.oneCell'=true:=λr hr=>(aeh.1 hr).elim (ahI r) (hys r);have hxl:(xs.take len).length=len:=by simp;omega
    have akc:∀u:World,(∀b off c,(ρ i).base=some ⟨b,off,none⟩->w.heap[b]? =some (.cells c T (0,0))->u.heap[b]? =some (.cells c T (0,0)))->(Builtin.firstCells ie.size len (.slice (ρ i).base len (ρ i).cap)).run cx.P u= .ok (xs.take len).flatten.toArray u:=by
     intro u hu;rcases hent with⟨hb,hc⟩|⟨b,off,c,hb,hblk,hsz,hrows⟩
     ·have:xs=[]:=ahV aa;subst this;simp only[hb,List.take_nil,List.flatten_nil];exact run_firstCells_none _ _ _ _ _
     ·have hub:=hu b off c hb hblk;rw[hb];refine run_firstCells_some (P:=cx.P) u ie.size _ _ _ _ _ (by rw[kw (λr hr=>(ahI r hr).1),hxl]) λp v hp=> ?_;rw[fG];have:=D_ (λr hr=>(ahI r hr).1) (CG hrows) hp;simpa[World.cell?,hub]using this
    by_cases uF:len+ys.length<=(ρ i).cap
    ·rcases hent with⟨hb,hc⟩|⟨b,off,c,hb,hblk,hsz,hrows⟩
     ·have hl0:len=0:=by omega
      have hy0:ys=[]:=ahV aa;subst hl0;subst hy0;refine⟨.os nx 0,upd ρ nx (ρ i),_,w,key (.slice none 0 0) _ _ (by rw[hs];simp only[SV.rf,hb,hc]) (by simp only[SV.rf,upd_same,hb,hc];exact Bg hd hdx hxi hie (Tw _) (hfx w hw)),λj hj=>mI hj,SV.yP aa,?_,g3⟩;refine hw.replace hen (λy hy=>by simp[b_.hass]at hy) λF hF=>⟨⟨rfl,rfl,rfl,Tw _,λ_ _ _=>rfl⟩,?_⟩;obtain⟨h1,h2,h3⟩:=hF;refine⟨by simp,by simp,?_⟩;rcases h3 with h3|⟨b,off,c,h3,_⟩
      ·exact .inl h3
      ·rw[hb]at h3;cases h3
     ·have hyl:=kw hyk;have hfit:off+len*ie.size+ys.flatten.length<=c.size:=by
       have:(len+ys.length)*ie.size<=(ρ i).cap*ie.size:=aj4 _ uF;rw[Nat.add_mul]at this;rw[hyl];omega
      have hrun:=Eh (ty:=ty) hd hdx hxi hie uF (hfx w hw) hblk hfit hyo;refine⟨.os nx (len+ys.length),upd ρ nx (ρ i),_,w.setRow b (cB c.toList (off+len*ie.size) ys.flatten).toArray,key (.slice (some ⟨b,off,none⟩) len (ρ i).cap) _ _ (by rw[hs];simp only[SV.rf,hb]) (by simp only[SV.rf,upd_same,hb];exact hrun),λj hj=>mI hj,SV.yP aa,?_,g3⟩;refine hw.replace hen (λy hy=>by simp[b_.hass]at hy) λF hF=> ?_;obtain⟨h1,h2,h3⟩:=hF;rcases h3 with⟨h3,_⟩|⟨b',off',c',h3,h4,h5,h6,h7⟩
      ·rw[hb]at h3;cases h3
      ·obtain⟨rfl,rfl⟩:b=b'/\off=off':=by rw[hb]at h3;simpa using h3
       obtain rfl:c=c':=by rw[hblk]at h5;simpa using h5
       refine⟨⟨rfl,rfl,rfl,by simp[World.setRow],λx hx hne=>(ol w b _).block x hx (λe=>hne ((h4 x).2 e))⟩,hzs',by rw[adx,hxl];exact uF,.inr ⟨b,off,_,h3,h4,setRow_heap w b _ _ T _ hblk,by simpa[jr]using h6,?_⟩⟩;have:=Qz (c:=c) (off:=off) (k:=ie.size) (xs:=xs.take len) (ys:=ys) (λr hr=>(ahI r hr).1) hyk (CG hrows) (by
        have:(len+ys.length)*ie.size<=(ρ i).cap*ie.size:=aj4 _ uF;rw[hxl];omega)
       rw[hxl]at this;exact this
    ·have hrun:=v_ (ty:=ty) hd hdx hxi hie hze hby (Nat.lt_of_not_le uF) (akc w.drew (λb off c _ h=>h)) (hfx _ hw.drew) hroom;refine⟨.os nx (len+ys.length),upd ρ nx ⟨some ⟨w.heap.size,0,none⟩,grownCap w (len+ys.length) (ρ i).cap T⟩,_,w.drew.alloc (.cells ((xs.take len++ys).flatten++(Builtin.zeroCells ze.cells (grownCap w (len+ys.length) (ρ i).cap T-(len+ys.length))).toList).toArray T),?_,λj hj=>mI hj,SV.yP aa,?_,g3⟩
     ·refine key (.slice (ρ i).base len (ρ i).cap) _ _ wo ?_;simp only[SV.rf,upd_same];rw[List.flatten_append];exact hrun
     ·have:=KM (e:=T) hw hzs' (cap:=grownCap w (len+ys.length) (ρ i).cap T) (by rw[adx,hxl];exact grownCap_le _ _ _ _) (Builtin.zeroCells ze.cells (grownCap w (len+ys.length) (ρ i).cap T-(len+ys.length))).toList (by rw[yo,hzs,adx,hxl]);obtain⟨R,φ,this⟩:=this;exact⟨R,φ,this.drop ((mH i H).cons_cons _)⟩
   |_=>exact g1.elim
 | .c (.slice none 0 0),h=>
   have h:jv ys.length ie.bytes (K (.os nx ys.length) ((nx,.rows ys ie.size e)::H)):=h;rw[CY]at h;by_cases hy0:ys.length=0
   ·have:ys=[]:=ahV hy0;subst this;refine⟨.os nx 0,upd ρ nx ⟨none,0⟩,_,w,by rw[<-hs];simp only[SV.rf,upd_same];exact key (.slice none 0 0) (.slice none 0 0) w wo (Bg hd hdx hxi hie (Tw _) (hfx w hw)),λi hi=>mI hi,SV.yP aa,?_,h.2⟩
    ·obtain⟨R,φ,hw⟩:=hw;exact⟨R,_,hw.add (F:=λ_=>False) (λy hy=>by simp[b_.hass]at hy) ⟨by simp,aae _,.inl ⟨rfl,rfl,λ_ h=>h⟩⟩ (λ_ h=>h.elim) (λ_ _ _ _ h=>h)⟩
   ·rw[<-hs];exact out none 0 0 [] aI rfl aa (by simpa using h.1) (run_firstCells_none _ _ _ _ _) wo (by simpa using h.2)
 | .c (.slice (some a) len cap),h=>
   rcases h.out with h|h
   rotate_left
   ·obtain⟨v,ρ',H',w',g1,g2⟩:=h.out ρ w xb xc ty hw hys hfx;rw[<-hs];exact⟨v,ρ',H',w',key _ _ _ wo g1,g2⟩
   obtain⟨xs,xb',xc',h,alI,hxs,hfs⟩:=R7 (P:=cx.P) hw h;rw[Mj]at h;obtain⟨hcap,h⟩:=h;rw[CY]at h;simp only[SV.rf,Value.slice.injEq]at alI;obtain⟨rfl,hl,rfl⟩:=alI;have hf:=hfs _ hw.drew;rw[<-hl]at hf;rw[<-hs];exact out (some a) len cap xs hxs hl.symm aa h.1 hf wo h.2
end
end
section
def bR.and(S T:bR):bR where
 holds R w:=S.holds R w/\T.holds R w
 stable:=λhR hw h=>⟨S.stable hR hw h.1,T.stable hR hw h.2⟩
def f_(base:Option Addr)(k:Nat)(xs:List (List Value)):bR where
 holds R w:=(∀r∈xs,r.length=k/\∀v∈r,v.oneCell'=true)/\(xs=[]\/∃b off,base=some ⟨b,off,none⟩/\R b/\∀i r,xs[i]? =some r->∀j v,r[j]? =some v->w.cell? ⟨b,off+(i*k+j),none⟩=some v)
 stable:=by
  intro R R' w w' hR hw h;refine⟨h.1,?_⟩;rcases h.2 with h|⟨b,off,h1,h2,h3⟩
  ·exact .inl h
  ·refine .inr ⟨b,off,h1,hR b h2,λi r hi j v hj=> ?_⟩;have:=h3 i r hi j v hj;unfold World.cell? at this|-
   simp only[hw b h2];exact this
def bR.past(N:Nat)(D:bR):bR where
 holds R w:=D.holds (λb=>R b/\N<=b) w
 stable:=λhR hw h=>D.stable (λb hb=>⟨hR b hb.1,hb.2⟩) (λb hb=>hw b hb.1) h
variable {B:Base} {ρ:Nat->Loc} {nx i k:Nat} {H:Heap} {S:bR} {w:World} {T:TypeId} {xs:List (List Value)}
theorem dO.frozen(h:dO B ρ nx ((i,.rows xs k T)::H) S w)(N:Nat)(hN:∀R w',S.holds R w'->∀b,b<N->R b):
 xs.length<=(ρ i).cap/\dO B ρ nx H (S.and ((f_ (ρ i).base k xs).past N)) w:=by
 obtain⟨R,φ,hw⟩:=h;have hent:=hw.jA _ YV;obtain⟨hr,hcap,yB⟩:=hent;obtain⟨hsep,_⟩:=aiN.1 hw.sep;refine⟨hcap,λb=>R b\/φ i b,φ,?_⟩;have hsub:=hw.drop (aom _ _);refine⟨hw.os,hw.tape,hw.output,hw.size,hw.pin,λb hb=>hb.elim (hw.ro b) (λhb=>b_.size (hw.jA _ YV) hb),⟨S.stable (λ_ h=> .inl h) (λ_ _=>rfl) hw.qL,hr,?_⟩,hsub.key,hsub.jA,?_,hsub.sep⟩
 ·rcases yB with⟨h1,h2,_⟩|⟨b,off,c',h1,h2,h3,h4,h5⟩
  ·simp only at hcap h2;exact .inl (ahV aa)
  ·exact .inr ⟨b,off,h1,⟨.inr ((h2 b).2 rfl),aoa λhb=>hw.apart _ YV b ((h2 b).2 rfl) (hN R w hw.qL b hb)⟩,λm r hm j v hj=>by have:=h5 m r hm j v hj;rw[<-alF];simpa[World.cell?,h3]using this⟩
 ·intro p hp b hb hb';exact hb'.elim (hsub.apart p hp b hb) (λg=>(hsep p hp).2 b g hb)
def ahj(v:SV)(H:Heap)(S:bR)(nx:Nat)(K:SV->Heap->bR->Nat->Prop):Prop:=
 match v,H with
 | .os i n,(j,.rows xs k _)::H0=>i=j/\∃N,(∀R w,S.holds R w->∀b,b<N->R b)/\∀l:Loc,xs.length<=l.cap->K (.c (.slice l.base n l.cap)) H0 (S.and ((f_ l.base k xs).past N)) nx
 |_,_=>False
def ak9(v:SV)(H:Heap)(S:bR)(nx:Nat)(K:SV->Heap->bR->Nat->Prop):Prop:=
 ∃(α:Type) (v2:α->SV) (H2:α->Heap) (S2:α->bR),(∀B ρ w,dO B ρ nx H S w->∃a,(v2 a).rf ρ=v.rf ρ/\(v2 a).lt nx/\dO B ρ nx (H2 a) (S2 a) w)/\∀a,K (v2 a) (H2 a) (S2 a) nx
structure qN(v:SV)(H:Heap)(S:bR)(nx:Nat)(K:SV->Heap->bR->Nat->Prop):Prop where
 out:K v H S nx\/ahj v H S nx K\/ak9 v H S nx K
variable {v:SV} {K:SV->Heap->bR->Nat->Prop}
theorem Kc(h:qN v H S nx K)(hw:dO B ρ nx H S w)(hv:v.lt nx):
 ∃v2 H2 S2,v2.rf ρ=v.rf ρ/\v2.lt nx/\dO B ρ nx H2 S2 w/\K v2 H2 S2 nx:=by
 rcases h.out with hK|hF|⟨α,v2,H2,S2,hT,hK⟩
 ·exact⟨v,H,S,rfl,hv,hw,hK⟩
 ·clear h
  match v,H,hw,hF with
  | .os i n,(j,.rows xs k T)::H0,hw,hF=>
    obtain⟨rfl,N,hN,hF⟩:=hF;obtain⟨h1,h2⟩:=hw.frozen N hN;exact⟨.c (.slice (ρ i).base n (ρ i).cap),H0,_,rfl,SV.iW _,h2,hF (ρ i) h1⟩
 ·obtain⟨a,h1,h2,h3⟩:=hT B ρ w hw;exact⟨v2 a,H2 a,S2 a,h1,h2,h3,hK a⟩
theorem lS(h:K v H S nx):qN v H S nx K:=⟨.inl h⟩
theorem sH{n:Nat}(N:Nat)(hN:∀R w,S.holds R w->∀b,b<N->R b)(h:∀l:Loc,xs.length<=l.cap->K (.c (.slice l.base n l.cap)) H (S.and ((f_ l.base k xs).past N)) nx):qN (.os i n) ((i,.rows xs k T)::H) S nx K:=⟨.inr (.inl ⟨rfl,N,hN,h⟩)⟩
theorem VU{α:Type}(v2:α->SV)(H2:α->Heap)(S2:α->bR)(hT:∀B ρ w,dO B ρ nx H S w->∃a,(v2 a).rf ρ=v.rf ρ/\(v2 a).lt nx/\dO B ρ nx (H2 a) (S2 a) w)(hK:∀a,K (v2 a) (H2 a) (S2 a) nx):qN v H S nx K:=⟨.inr (.inr ⟨α,v2,H2,S2,hT,hK⟩)⟩
end
section
def G6(v:Value)(k:Int):Bool:=match v with| .int .i64 n=>decide (n=k)|_=>false
variable {v:Value} {k:Int}
theorem Xf:G6 v k=true↔v= .int .i64 k:=by
 constructor
 ·intro h;unfold G6 at h;split at h
  ·simp at h;rw[h]
  ·cases h
 ·rintro rfl;simp[G6]
def wu:List MapEntry->Int->Option Value
 |[],_=>none
 |e::r,k=>bif G6 e.key k then some e.val else wu r k
def yG:List MapEntry->Int->Nat->Option (Nat×Value)
 |[],_,_=>none
 |e::r,k,j=>bif G6 e.key k then some (j,e.val)else yG r k (j+1)
def aez(es:List MapEntry):Prop:=∀e∈es,∃k,e.key= .int .i64 k
theorem FZ:∀{es:List MapEntry} {k:Int} {j:Nat},(yG es k j).map (·.2)=wu es k
 |[],_,_=>rfl
 |e::r,k,j=>by
  unfold yG wu;cases G6 e.key k with
  |true=>rfl
  |false=>exact FZ
theorem J7(k:Int):G6 (.int .i64 k) k=true:=by simp[G6]
variable {k':Int}
theorem Dr(h:k'≠k):G6 (.int .i64 k) k'=false:=by simpa[G6]usingλe=>h e.symm
theorem Li{q:IntKind}{k:Int}:∀{es:List MapEntry} {j:Nat},aez es->Instr.findNow (.int q) (.int .i64 k) es j=some (yG es k j)
 |[],j,_=>rfl
 |e::r,j,h=>by
  obtain⟨k',hk⟩:=h e aI;unfold Instr.findNow yG;simp only[hk,Instr.sameNow,if_true];by_cases he:k=k'
  ·subst he;simp[J7]
  ·have h1:(k==k')=false:=by simpa using he
   rw[Dr he];simp only[h1,cond_false];exact Li λe he=>h e (by simp[he])
variable {t:TypeId} {q:IntKind}
theorem yn{P:Program}(ht:P.underlying t=some (.int q))(b:Bool)(k:Int)(w:World):(Instr.checkKey b 10000 t (.int .i64 k)).run P w= .ok () w:=by
 rw[show(10000:Nat)=Nat.succ 9999 from rfl];unfold Instr.checkKey;simp only[Sem.run_bind,run_underlying ht,Result.andThen_ok,Sem.run_pure]
theorem Bj{P:Program}(ht:P.underlying t=some (.int q)){es:List MapEntry}(h:aez es)(k:Int)(w:World):(Instr.findKey t (.int .i64 k) es).run P w= .ok (yG es k 0) w:=by
 unfold Instr.findKey;simp only[Sem.run_bind,run_underlying ht,Result.andThen_ok,Li h,Sem.run_pure]
def kH(r:Nat)(m:Int->Option Value)(w:World):Prop:=∃es clock,w.heap[r]? =some (.map es clock)/\aez es.toList/\∀k,wu es.toList k=m k
def lC(r:Nat)(m:Int->Option Value):Own where
 holds _ F w:=(∀x,F x↔x=r)/\kH r m w
 stable:=by
  rintro l F w w' hf ⟨h1,es,clock,h2,h3⟩;exact⟨h1,es,clock,by rw[hf r ((h1 r).2 rfl)];exact h2,h3⟩
 lt:=by
  rintro l F w b ⟨h1,es,clock,h2,_⟩ hb;obtain rfl:=(h1 b).1 hb;exact iT h2
variable {w:World} {r clock:Nat} {es:Array MapEntry}
theorem Pz{P:Program}(hb:w.heap[r]? =some (.map es clock)):(getObj r).run P w= .ok (.map es clock) w:=by
 simp[getObj,Sem.run,hb]
theorem OT{P:Program}(o:Obj)(hb:w.heap[r]? =some (.map es clock)):(setObj r o).run P w= .ok () {w with heap:=w.heap.setIfInBounds r o}:=by
 simp[setObj,Sem.run,hb]
variable {kt et:TypeId} {z:Value} {m:Int->Option Value}
theorem OY{P:Program}{i:TypeInfo}(ht:P.underlying t=some (.map kt et))(hk:P.underlying kt=some (.int q))(hi:P.info? et=some i)(hz:i.zero=some z)(h:kH r m w)(k:Int)(ok:Bool):
 (Instr.lookup t (.map (some r)) (.int .i64 k) ok).run P w= .ok (if ok then .tuple #[(m k).getD z,.bool (m k).isSome]else(m k).getD z) w:=by
 obtain⟨es,clock,h1,h2,h3⟩:=h;have h4:(yG es.toList k 0).map (·.2)=m k:=by rw[FZ,h3]
 unfold Instr.lookup;simp only[Sem.run_bind,run_underlying ht,Result.andThen_ok,Pz h1,Sem.run_pure,yn hk,Bj hk h2];cases hx:yG es.toList k 0 with
 |none=>
  rw[hx]at h4;have h4':m k=none:=by simpa using h4.symm
  simp only[Sem.run_bind,zeroValue,typeInfo,run_program,Result.andThen_ok,hi,hz,Sem.run_pure,h4',Option.getD_none,Option.isSome_none]
 |some x=>
  rw[hx]at h4;have h4':m k=some x.2:=by simpa using h4.symm
  simp only[Sem.run_pure,Result.andThen_ok,h4',Option.getD_some,Option.isSome_some];cases ok<;>rfl
theorem ME{k k':Int}{v:Value}{c:Nat}:∀{es:List MapEntry},wu es k=none->wu (es++[⟨.int .i64 k,v,c⟩]) k'=if k'=k then some v else wu es k'
 |[],_=>by
  simp only[akg,wu];by_cases h:k'=k
  ·subst h;simp[J7]
  ·rw[if_neg h,Dr h];rfl
 |e::r,h=>by
  unfold wu at h;cases hk:G6 e.key k with
  |true=>rw[hk]at h;cases h
  |false=>
   rw[hk,cond_false]at h;simp only[amJ,wu];cases he:G6 e.key k' with
   |true=>
    have:k'≠k:=by rintro rfl;rw[hk]at he;cases he
    rw[if_neg this];rfl
   |false=>exact ME h
theorem Jq{k:Int}:∀{es:List MapEntry} {i j:Nat} {x:Value},yG es k j=some (i,x)->j<=i/\∃e,es[i-j]? =some e/\e.key= .int .i64 k
 |[],i,j,x,h=>by cases h
 |e::r,i,j,x,h=>by
  unfold yG at h;cases he:G6 e.key k with
  |true=>
   rw[he,cond_true]at h;obtain⟨rfl,rfl⟩:j=i/\e.val=x:=by simpa using h
   exact⟨Tw _,e,by simp,Xf.1 he⟩
  |false=>
   rw[he,cond_false]at h;obtain⟨h1,e',h2,h3⟩:=Jq h;refine⟨by omega,e',?_,h3⟩;have:i-j=(i-(j+1))+1:=by omega
   rw[this,ane];exact h2
theorem Hl{k k':Int}{v:Value}:∀{es:List MapEntry} {i j:Nat} {x:Value},yG es k j=some (i,x)->wu (es.modify (i-j) λe=>{e with key:= .int .i64 k,val:=v}) k'=if k'=k then some v else wu es k'
 |[],i,j,x,h=>by cases h
 |e::r,i,j,x,h=>by
  have h0:=h;unfold yG at h;cases he:G6 e.key k with
  |true=>
   rw[he,cond_true]at h;obtain⟨rfl,rfl⟩:j=i/\e.val=x:=by simpa using h
   simp only[aiH,List.modify_zero_cons,wu];have he':=Xf.1 he;by_cases hk:k'=k
   ·subst hk;simp[J7]
   ·rw[if_neg hk,Dr hk,he',Dr hk];rfl
  |false=>
   rw[he,cond_false]at h;have hi:j+1<=i:=(Jq h).1;obtain⟨d,hd⟩:∃d,i-j=d+1:=⟨i-j-1,by omega⟩;have hd':d=i-(j+1):=by omega
   rw[hd,List.modify_succ_cons];unfold wu;rw[hd',Hl h];by_cases hk:k'=k
   ·subst hk;rw[he,if_pos rfl];simp
   ·rw[if_neg hk,if_neg hk]
theorem Uq{P:Program}:(Instr.keyThatStays (.int .i64 k) (.int .i64 k)).run P w= .ok (.int .i64 k) w:=by
 unfold Instr.keyThatStays;have:Instr.sameBits 10000 (.int .i64 k) (.int .i64 k)=true:=by
  rw[show(10000:Nat)=Nat.succ 9999 from rfl];simp[Instr.sameBits]
 rw[if_pos this];simp
def Az(m:Int->Option Value)(k:Int)(v:Value):Int->Option Value:=λk'=>if k'=k then some v else m k'
theorem Gq{P:Program}(ht:P.underlying t=some (.map kt et))(hk:P.underlying kt=some (.int q))(h:kH r m w)(k:Int)(v:Value):
 ∃w',(Instr.mapUpdate t (.map (some r)) (.int .i64 k) v).run P w= .ok () w'/\Step (λx=>x=r) w w'/\kH r (Az m k v) w':=by
 obtain⟨es,clock,h1,h2,h3⟩:=h;have hr:=iT h1;have hstep:∀o,Step (λx=>x=r) w {w with heap:=w.heap.setIfInBounds r o}:=λo=>⟨rfl,rfl,rfl,by simp,λb _ hne=>by
  simp only;rw[Array.getElem?_setIfInBounds];rw[if_neg (λe=>hne e.symm)]⟩
 have hget:∀o,({w with heap:=w.heap.setIfInBounds r o}:World).heap[r]? =some o:=λo=>by simp[hr]
 unfold Instr.mapUpdate;simp only[Sem.run_bind,run_underlying ht,Result.andThen_ok,Pz h1,yn hk,Bj hk h2];cases hx:yG es.toList k 0 with
 |none=>
  simp only[OT _ h1];refine⟨_,rfl,hstep _,_,_,hget _,?_,?_⟩
  ·intro e he;simp only[Array.toList_push,aeh,afe]at he;rcases he with he|rfl
   ·exact h2 e he
   ·exact⟨k,rfl⟩
  ·intro k';have h4:wu es.toList k=none:=by rw[<-FZ (j:=0),hx];rfl
   rw[Array.toList_push,ME h4];unfold Az;rw[h3]
 |some x=>
  obtain⟨i,x⟩:=x;obtain⟨_,e,he,hek⟩:=Jq hx;rw[am4]at he;have he':es[i]? =some e:=by simpa using he
  simp only[he',amk,Option.getD_some,hek,Sem.run_bind,Uq,Result.andThen_ok,OT _ h1];refine⟨_,rfl,hstep _,_,_,hget _,?_,?_⟩
  ·intro e' he';simp only[Array.toList_modify]at he';obtain⟨n,hn⟩:=List.getElem?_of_mem he';rw[List.getElem?_modify]at hn;cases hes:es.toList[n]? with
   |none=>rw[hes]at hn;simp at hn
   |some e0=>
    rw[hes]at hn;obtain rfl:(if i=n then({e0 with key:= .int .i64 k,val:=v}:MapEntry)else e0)=e':=by simpa using hn
    split
    ·exact⟨k,rfl⟩
    ·exact h2 e0 (adu hes)
  ·intro k';rw[Array.toList_modify];have:=Hl (k':=k') (v:=v) hx;rw[am4]at this;rw[this,h3]
   rfl
structure xA(H:Heap)(S:bR)(nx:Nat)(K:SV->Heap->bR->Nat->Prop):Prop where
 out:∀r,K (.c (.map (some r))) ((nx,.ext (lC r λ_=>none))::H) S (nx+1)
variable {H:Heap} {S:bR}
theorem Rm{nx:Nat}{K:SV->Heap->bR->Nat->Prop}(h:∀r,K (.c (.map (some r))) ((nx,.ext (lC r λ_=>none))::H) S (nx+1)):xA H S nx K:=⟨h⟩
structure qV(cx:Cx)(t:TypeId)(m k v:SV)(H:Heap)(S:bR)(K:Heap->Prop):Prop where
 out:∃H',K H'/\∀ρ nx w,dO cx.B ρ nx H S w->∃w',(Instr.mapUpdate t (m.rf ρ) (k.rf ρ) (v.rf ρ)).run cx.P w= .ok () w'/\dO cx.B ρ nx H' S w'
variable {cx:Cx} {i:Nat}
theorem Ji{K:Heap->Prop}(ht:cx.P.underlying t=some (.map kt et))(hk:cx.P.underlying kt=some (.int q))(hi:(i,b_.ext (lC r m))∈H)
 (h:Ed i (.ext (lC r (Az m k v))) K H):qV cx t (.c (.map (some r))) (.c (.int .i64 k)) (.c v) H S K:=by
 rw[BX]at h;refine⟨_,h,λρ nx w hw=> ?_⟩;have hm:kH r m w:=by
  obtain⟨R,φ,hw⟩:=hw;exact(hw.jA _ hi).2
 obtain⟨w',h1,h2,h3⟩:=Gq (P:=cx.P) ht hk hm k v;refine⟨w',h1,hw.store hi (λy hy=>by simp[b_.hass]at hy) λF hF=> ?_⟩;exact⟨⟨h2.os,h2.tape,h2.output,h2.size,λb hb hne=>h2.block b hb λe=>hne ((hF.1 b).2 e)⟩,hF.1,h3⟩
theorem abv{ti:TypeInfo}{ok:Bool}{K:SV->Prop}(ht:cx.P.underlying t=some (.map kt et))(hk:cx.P.underlying kt=some (.int q))(hti:cx.P.info? et=some ti)(hz:ti.zero=some z)(hi:(i,b_.ext (lC r m))∈H)
 (h:K (.c (if ok then .tuple #[(m k).getD z,.bool (m k).isSome]else(m k).getD z))):Ce cx t (.c (.map (some r))) (.c (.int .i64 k)) ok H S K:=
 ⟨_,h,λρ nx w hw=>by
   obtain⟨R,φ,hw⟩:=hw;exact OY ht hk hti hz (hw.jA _ hi).2 k ok⟩
end
section
structure aJ(cx:Cx)(f:FuncId)(args:List SV)(H:Heap)(S:bR)(nx:Nat)(K:SV->Heap->bR->Nat->Prop):Prop where
 out:(∀as w,(callFunc f as).run cx.P w= .ok (.enter f as) w)/\
 ∀ρ w,dO cx.B ρ nx H S w->Calls cx.P f (SV.dW ρ args).toArray w (λe w'=>∃v ρ' H' S' nx',e= .returned (v.rf ρ')/\(∀i,i<nx->ρ' i=ρ i)/\nx<=nx'/\v.lt nx'/\dO cx.B ρ' nx' H' S' w'/\K v H' S' nx')
variable {f:FuncId} {args:List SV} {H:Heap} {S:bR} {nx:Nat} {K:SV->Heap->bR->Nat->Prop}
theorem fZ{cx:Cx}:aJ cx f args H S nx K=((∀as w,(callFunc f as).run cx.P w= .ok (.enter f as) w)/\
 ∀ρ w,dO cx.B ρ nx H S w->Calls cx.P f (SV.dW ρ args).toArray w (λe w'=>∃v ρ' H' S' nx',e= .returned (v.rf ρ')/\(∀i,i<nx->ρ' i=ρ i)/\nx<=nx'/\v.lt nx'/\dO cx.B ρ' nx' H' S' w'/\K v H' S' nx')):=propext ⟨λh=>h.out,λh=>⟨h⟩⟩
def aiZ(cx:Cx)(fv:SV)(args:List SV)(H:Heap)(S:bR)(nx:Nat)(K:SV->Heap->bR->Nat->Prop):Prop:=
 match fv with
 | .c (.func (.func f) a b)=>(match a.toList,b.toList with
   |[],[]=>aJ cx f args H S nx K
   |x,y=>aJ cx f (cs x++args++cs y) H S nx K)
 | .fn (.func f) a b=>aJ cx f (a++args++b) H S nx K
 |_=>False
structure abE(cx:Cx)(t:TypeId)(v:SV)(m:String)(args:List SV)(H:Heap)(S:bR)(nx:Nat)(K:SV->Heap->bR->Nat->Prop):Prop where
 out:∀ρ w,dO cx.B ρ nx H S w->∃f vr,(method (cx.P.types.size+Made.depth) t (v.rf ρ) m).run cx.P w= .ok (f,vr) w/\(∀as w,(callFunc f as).run cx.P w= .ok (.enter f as) w)/\
  Calls cx.P f (vr::SV.dW ρ args).toArray w (λe w'=>∃v ρ' H' S' nx',e= .returned (v.rf ρ')/\(∀i,i<nx->ρ' i=ρ i)/\nx<=nx'/\v.lt nx'/\dO cx.B ρ' nx' H' S' w'/\K v H' S' nx')
theorem Wn{cx:Cx}{t:TypeId}{v:SV}{m:String}:abE cx t v m args H S nx K=(∀ρ w,dO cx.B ρ nx H S w->∃f vr,(method (cx.P.types.size+Made.depth) t (v.rf ρ) m).run cx.P w= .ok (f,vr) w/\(∀as w,(callFunc f as).run cx.P w= .ok (.enter f as) w)/\
 Calls cx.P f (vr::SV.dW ρ args).toArray w (λe w'=>∃v ρ' H' S' nx',e= .returned (v.rf ρ')/\(∀i,i<nx->ρ' i=ρ i)/\nx<=nx'/\v.lt nx'/\dO cx.B ρ' nx' H' S' w'/\K v H' S' nx')):=propext ⟨λh=>h.out,λh=>⟨h⟩⟩
def abN(cx:Cx)(rv:SV)(m:String)(args:List SV)(H:Heap)(S:bR)(nx:Nat)(K:SV->Heap->bR->Nat->Prop):Prop:=
 match rv with
 | .KN t v=>abE cx t v m args H S nx K
 |_=>False
def Hy:Builtin->Bool| .append=>true|_=>false
theorem YM{b:Builtin}(h:Hy b=true):b= .append:=by cases b<;>first|rfl|(simp[Hy]at h)
def aje:Op->Bool
 | .alloc _| .box _ _| .store _ _ _| .makeSlice _ _ _| .buildSlice _ _ _| .call _| .makeMap _ none| .mapUpdate _ _ _ _| .insert _ _ _ _=>true
 |_=>false
def opX(cx:Cx)(o:Op)(env:Env)(H:Heap)(S:bR)(nx:Nat)(K:SV->Heap->bR->Nat->Prop):Prop:=
 match o with
 | .alloc t=>sD t (λti=>K (.lp nx 0 0 0) ((nx,.box (cs ti.zero) t)::H) S (nx+1)) cx.tab
 | .box t x=>xX cx.n env x λv=>Jr (λl=>K (.lp nx 0 0 0) ((nx,.box l t)::H) S (nx+1)) v
 | .store t a x=>xX cx.n env a λp=>xX cx.n env x λv=>ZB cx t p v H (λH'=>K (.c undef) H' S nx)
 | .makeSlice t l c=>xX cx.n env l λx=>xX cx.n env c λy=>agp cx t x y H nx (λv H'=>qN v H' S (nx+1) K)
 | .buildSlice t n ps=>ahr cx.n env (λl=>CV cx t n l H nx (λv H'=>qN v H' S (nx+1) K)) ps.toList
 | .call c=>(match c.callee with
   | .builtin b=>bif Hy b then Mx cx.n env (λl=>Va cx c.argTypes.toList l H S nx (λv H'=>qN v H' S (nx+1) K)) c.args.toList
     else Mx cx.n env (λl=>OJ cx b c.argTypes.toList l (λv=>K v H S nx)) c.args.toList
   | .value f=>xX cx.n env f λfv=>Mx cx.n env (λl=>aiZ cx fv l H S nx K) c.args.toList
   | .invoke r m=>xX cx.n env r λrv=>Mx cx.n env (λl=>abN cx rv m l H S nx K) c.args.toList)
 | .makeMap _ none=>xA H S nx K
 | .mapUpdate t m k x=>xX cx.n env m λa=>xX cx.n env k λb=>xX cx.n env x λc=>qV cx t a b c H S (λH'=>K (.c undef) H' S nx)
 | .insert t m k x=>xX cx.n env m λa=>xX cx.n env k λb=>xX cx.n env x λc=>qV cx t a b c H S (λH'=>K (.c undef) H' S nx)
 |_=>False
def opE(cx:Cx)(o:Op)(env:Env)(H:Heap)(S:bR)(nx:Nat)(K:SV->Heap->bR->Nat->Prop):Prop:=
 bif aje o then opX cx o env H S nx K else opQ cx o env H S (λv=>K v H S nx)
section
variable {cx:Cx} (hok:∀p∈cx.tab,lu cx.P p.1=some p.2)
variable {ρ:Nat->Loc} {w:World}
theorem BQ{as:Array Value}(h:aJ cx f args H S nx K)(hw:dO cx.B ρ nx H S w)(ha:as=(SV.dW ρ args).toArray):
 (callFunc f as).run cx.P w= .ok (.enter f as) w/\Calls cx.P f as w (λe w'=>∃v ρ' H' S' nx',e= .returned (v.rf ρ')/\(∀i,i<nx->ρ' i=ρ i)/\nx<=nx'/\v.lt nx'/\dO cx.B ρ' nx' H' S' w'/\K v H' S' nx'):=by
 rw[fZ]at h;subst ha;exact⟨h.1 _ _,h.2 ρ w hw⟩
theorem zV(ρ:Nat->Loc)(a b:List SV):SV.dW ρ (a++b)=SV.dW ρ a++SV.dW ρ b:=by simp[SV.o9]
variable {o:Oper} {next:Act->World->Prop}
theorem tL{a:Act}{Q:Exit->Act->World->Prop}{args:Array Value}
 (hc:Calls cx.P f args w (λe w'=>∃v ρ' H' S' nx',e= .returned (v.rf ρ')/\(∀i,i<nx->ρ' i=ρ i)/\nx<=nx'/\v.lt nx'/\dO cx.B ρ' nx' H' S' w'/\K v H' S' nx'))
 (hn:ajb cx ρ nx K (λv w'=>next (a.put o.dst v) w')):o.upon cx.P a next Q (.ok (.enter f args) w):=by
 rw[Oper.upon_enter];refine hc.mono λe w' he=> ?_;obtain⟨v,ρ',H',S',nx',rfl,h1,h2,h3,h4,h5⟩:=he;exact hn v ρ' H' S' nx' w' h1 h2 h3 h4 h5
include hok in
theorem RS{env:Env}{a:Act}{Q:Exit->Act->World->Prop}
 (h:opE cx o.op env H S nx K) (hs:Sat cx.n ρ nx env a) (hw:dO cx.B ρ nx H S w) (hn:ajb cx ρ nx K (λv w'=>next (a.put o.dst v) w')):o.wp cx.P a w next Q:=by
 have quiet:opQ cx o.op env H S (λv=>K v H S nx)->o.wp cx.P a w next Q:=by
  intro hq;obtain⟨v,h1,h2,h3⟩:=Dv hok hs hw hq;unfold Oper.wp;rw[h3 w hw,Oper.upon_value];exact hn v ρ H S nx w (λ_ _=>rfl) (Tw _) h1 hw h2
 unfold opE at h;cases hE:aje o.op with
 |false=>rw[hE,cond_false]at h;exact quiet h
 |true=>
 rw[hE,cond_true]at h;obtain⟨dst,op,type,pos,after,guard⟩:=o;have fin:∀{s:Sem Value} {v:SV} {ρ':Nat->Loc} {H':Heap} {w':World},(execOp a.eval ⟨dst,op,type,pos,after,guard⟩)=(do pure (Next.value (<-s)):Sem Next)->s.run cx.P w= .ok (v.rf ρ') w'->
  (∀i,i<nx->ρ' i=ρ i)->v.lt (nx+1)->dO cx.B ρ' (nx+1) H' S w'->K v H' S (nx+1)->Oper.wp cx.P ⟨dst,op,type,pos,after,guard⟩ a w next Q:=by
  intro s v ρ' H' w' he hr h1 h2 h3 h4;unfold Oper.wp;rw[he];simp only[Sem.run_bind,hr,Result.andThen_ok,Sem.run_pure,Oper.upon_value];exact hn v ρ' H' S (nx+1) w' h1 (amN _) h2 h3 h4
 have al7:∀{s:Sem Value} {v:SV} {ρ':Nat->Loc} {H':Heap} {w':World},(execOp a.eval ⟨dst,op,type,pos,after,guard⟩)=(do pure (Next.value (<-s)):Sem Next)->s.run cx.P w= .ok (v.rf ρ') w'->
  (∀i,i<nx->ρ' i=ρ i)->v.lt (nx+1)->dO cx.B ρ' (nx+1) H' S w'->qN v H' S (nx+1) K->Oper.wp cx.P ⟨dst,op,type,pos,after,guard⟩ a w next Q:=by
  intro s v ρ' H' w' he hr h1 h2 h3 h4;obtain⟨v2,H2,S2,g1,g2,g3,g4⟩:=Kc h4 h3 h2;unfold Oper.wp;rw[he];simp only[Sem.run_bind,hr,Result.andThen_ok,Sem.run_pure,Oper.upon_value];rw[<-g1];exact hn v2 ρ' H2 S2 (nx+1) w' h1 (amN _) g2 g3 g4
 cases op with
 |alloc t=>
  obtain⟨ti,hti,h⟩:=dY hok h;obtain⟨i,d,z,hi,hd,hz,rfl⟩:=eD hti;refine fin (s:=Instr.alloc t true (.tuple #[])) (v:= .lp nx 0 0 0) (ρ':=upd ρ nx ⟨some ⟨w.heap.size,0,none⟩,0⟩) (w':=w.alloc (.cells z.cells t)) zu ?_ (λi hi=>mI hi) (SV.Xm aa) ?_ h
  ·simp[Instr.alloc,zeroValue,typeInfo,hi,hz,newVar,newRow,SV.rf,upd_same,fG]
  ·refine hw.alloc (λy hy=> ?_) ⟨w.heap.size,rfl,λ_=>Iff.rfl,?_⟩
   ·exact x9 nx _ y hy
   ·rw[mF];simpa using oP w (.cells z.cells t)
 |box t x=>
  obtain⟨v,h1,h2,h3⟩:=dB hs h;obtain⟨l,h4,h5,h6⟩:=uo h3 h1;refine fin (s:=Instr.box t (a.eval x)) (v:= .lp nx 0 0 0) (ρ':=upd ρ nx ⟨some ⟨w.heap.size,0,none⟩,0⟩) (w':=w.alloc (.cells (SV.dW ρ l).toArray t)) zu ?_ (λi hi=>mI hi) (SV.Xm aa) ?_ h4
  ·simp[Instr.box,h2,h6 ρ,newVar,newRow,SV.rf,upd_same,fG]
  ·exact hw.alloc (λy hy=>h5 y hy) ⟨w.heap.size,rfl,λ_=>Iff.rfl,oP _ _⟩
 |store t x y=>
  obtain⟨p,h1,h2,h3⟩:=dB hs h;obtain⟨v,h4,h5,h6⟩:=dB hs h1;obtain⟨w',H',h7,h8,h9⟩:=Ud hok h4 h6 hw;unfold Oper.wp;simp only[execOp,h2,h5,Sem.run_bind,h7,Result.andThen_ok,Sem.run_pure,Oper.upon_skip];exact hn (.c undef) ρ H' S nx w' (λ_ _=>rfl) (Tw _) (SV.iW _) h8 h9
 |makeMap t r=>
  cases r with
  |some r=>cases hE
  |none=>
  have h:xA H S nx K:=h;refine fin (s:=Instr.makeMap t none) (v:= .c (.map (some w.heap.size))) (ρ':=upd ρ nx ⟨none,0⟩) (w':=w.alloc (.map #[] 0)) (by simp only[execOp,Option.map_none]) rfl (λi hi=>mI hi) (SV.iW _) ?_ (h.out w.heap.size);refine hw.alloc (λy hy=>by simp[b_.hass]at hy) ⟨λ_=>Iff.rfl,#[],0,oP _ _,λe he=>by simp at he,λk=>rfl⟩
 |mapUpdate t m k x=>
  obtain⟨p,h1,h2,h3⟩:=dB hs h;obtain⟨q,h4,h5,h6⟩:=dB hs h1;obtain⟨v,h7,h8,h9⟩:=dB hs h4;obtain⟨H',h10,h11⟩:=h7.out;obtain⟨w',h12,h13⟩:=h11 ρ nx w hw;unfold Oper.wp;simp only[execOp,h2,h5,h8,Sem.run_bind,h12,Result.andThen_ok,Sem.run_pure,Oper.upon_skip];exact hn (.c undef) ρ H' S nx w' (λ_ _=>rfl) (Tw _) (SV.iW _) h13 h10
 |insert t m k x=>
  obtain⟨p,h1,h2,h3⟩:=dB hs h;obtain⟨q,h4,h5,h6⟩:=dB hs h1;obtain⟨v,h7,h8,h9⟩:=dB hs h4;obtain⟨H',h10,h11⟩:=h7.out;obtain⟨w',h12,h13⟩:=h11 ρ nx w hw;unfold Oper.wp;simp only[execOp,h2,h5,h8,Sem.run_bind,h12,Result.andThen_ok,Sem.run_pure,Oper.upon_skip];exact hn (.c undef) ρ H' S nx w' (λ_ _=>rfl) (Tw _) (SV.iW _) h13 h10
 |makeSlice t x y=>
  obtain⟨p,h1,h2,h3⟩:=dB hs h;obtain⟨q,h4,h5,h6⟩:=dB hs h1;obtain⟨v,ρ',H',w',h7,h8,h9,h10,h11⟩:=Xz hok h4 hw;refine al7 (s:=Instr.makeSlice t (a.eval x) (a.eval y)) zu (by rw[h2,h5];exact h7) h8 h9 h10 h11
 |buildSlice t n ps=>
  obtain⟨l,h1,h2,h3⟩:=aoP hs h;obtain⟨v,ρ',H',w',h7,h8,h9,h10,h11⟩:=IL hok h3 h1 hw;have e:(ps.map λ(i,x)=>(i,a.eval x))=(l.map λp=>(p.1,p.2.rf ρ)).toArray:=by
   rw[<-h2];apply al8;simp
  refine al7 (s:=Instr.buildSlice t n (ps.map λ(i,x)=>(i,a.eval x))) zu (by rw[e];exact h7) h8 h9 h10 h11
 |call c=>
  simp only[opX]at h;cases hc:c.callee with
  |builtin b=>
   rw[hc]at h;dsimp only at h;cases hb:Hy b with
   |true=>
    obtain rfl:=YM hb;rw[hb,cond_true]at h;obtain⟨l,h1,h2,h3⟩:=oN hs h;obtain⟨v,ρ',H',w',h7,h8,h9,h10,h11⟩:=Q0 hok (ty:=type) h1 hw;have e1:c.args.map a.eval=(SV.dW ρ l).toArray:=by rw[<-h2];apply al8;simp
    obtain⟨kc,hkc⟩:=K7 (P:=cx.P) a.eval c .append hc type;unfold Oper.wp;have:(execOp a.eval ⟨dst,.call c,type,pos,after,guard⟩).run cx.P w= .ok (.value (v.rf ρ')) w':=by
     simp only[execOp];rw[hkc w,e1];simp only[builtin,Sem.run_bind,h7,Result.andThen_ok,Sem.run_pure]
    obtain⟨v2,H2,S2,g1,g2,g3,g4⟩:=Kc h11 h10 h9;rw[this,Oper.upon_value,<-g1];exact hn v2 ρ' H2 S2 (nx+1) w' h8 (amN _) g2 g3 g4
   |false=>
    rw[hb,cond_false]at h;refine quiet ?_;simp only[opQ,hc];exact h
  |value f=>
   rw[hc]at h;obtain⟨fv,h1,h2,h3⟩:=dB hs h;obtain⟨l,h4,h5,h6⟩:=oN hs h1;have e1:c.args.map a.eval=(SV.dW ρ l).toArray:=by rw[<-h5];apply al8;simp
   have run:∀(f':FuncId) (x y:Array Value),a.eval f= .func (.func f') x y->∀w,(execOp a.eval ⟨dst,.call c,type,pos,after,guard⟩).run cx.P w=(callFunc f' (x++(SV.dW ρ l).toArray++y)).run cx.P w:=by
    intro f' x y hf w;simp only[execOp,resolve,hc,e1,hf,Deferred.ofValue,Sem.run_bind,Sem.run_pure,Result.andThen_ok,invoke]
   unfold aiZ at h4;split at h4
   ·rename_i f' x y;split at h4
    ·rename_i hx hy;have hx':x= #[]:=by cases x;simpa using hx
     have hy':y= #[]:=by cases y;simpa using hy
     obtain⟨h7,h8⟩:=BQ (as:=x++(SV.dW ρ l).toArray++y) h4 hw Bb;unfold Oper.wp;rw[run f' x y kU w,h7];exact tL h8 hn
    ·obtain⟨h7,h8⟩:=BQ (as:=x++(SV.dW ρ l).toArray++y) h4 hw FH;unfold Oper.wp;rw[run f' x y kU w,h7];exact tL h8 hn
   ·rename_i f' x y;obtain⟨h7,h8⟩:=BQ (as:=(SV.dW ρ x).toArray++(SV.dW ρ l).toArray++(SV.dW ρ y).toArray) h4 hw ES;unfold Oper.wp;rw[run f' _ _ kU w,h7];exact tL h8 hn
   ·exact h4.elim
  |invoke r m=>
   rw[hc]at h;obtain⟨rv,h1,h2,h3⟩:=dB hs h;obtain⟨l,h4,h5,h6⟩:=oN hs h1;have e1:c.args.map a.eval=(SV.dW ρ l).toArray:=by rw[<-h5];apply al8;simp
   unfold abN at h4;split at h4
   ·rename_i t v;rw[Wn]at h4;obtain⟨f,vr,hm,h7,h8⟩:=h4 ρ w hw;have hrun:(execOp a.eval ⟨dst,.call c,type,pos,after,guard⟩).run cx.P w= .ok (.enter f (vr::SV.dW ρ l).toArray) w:=by
     have hex:(#[Value.iface t (v.rf ρ)]++(SV.dW ρ l).toArray).extract 1 (#[Value.iface t (v.rf ρ)]++(SV.dW ρ l).toArray).size=(SV.dW ρ l).toArray:=by
      apply al8;simp
     have hget:(#[Value.iface t (v.rf ρ)]++(SV.dW ρ l).toArray)[0]? =some (.iface t (v.rf ρ)):=by simp
     have hvr:(vr::SV.dW ρ l).toArray= #[vr]++(SV.dW ρ l).toArray:=by apply al8;simp
     rw[hvr];simp only[execOp,resolve,hc,e1,h2,SV.rf,Sem.run_bind,Sem.run_pure,Result.andThen_ok,invoke,hget,hex,callMethod,run_program,hm,h7]
    unfold Oper.wp;rw[hrun];exact tL h8 hn
   ·exact h4.elim
 |_=>cases hE
end
end
section
def aaf(env:Env)(d:Option Tmp)(v:SV):Env:=match d with|some t=>(t,v)::env|none=>env
def qO(env:Env)(d:Option Tmp)(v:SV)(K:Env->Prop):Prop:=match d with|some t=>K ((t,v)::env)|none=>K env
theorem lM(env:Env)(d:Option Tmp)(v:SV)(K:Env->Prop):qO env d v K=K (aaf env d v):=by cases d<;>rfl
theorem Sat.put{n:Nat}{ρ ρ':Nat->Loc}{nx nx':Nat}{env:Env}{a:Act}{d:Option Tmp}{v:SV}(hs:Sat n ρ nx env a)(hr:∀i,i<nx->ρ' i=ρ i)(hn:nx<=nx')(hv:v.lt nx'):Sat n ρ' nx' (aaf env d v) (a.put d (v.rf ρ')):=by
 have old:∀t u,env.get t=some u->t<n->a.tmps[t]? =some (u.rf ρ'):=λt u hu ht=>by
  rw[hs.val t u hu ht,SV.aeK (hs.lt t u hu) (λi hi=>(hr i hi).symm)]
 cases d with
 |none=>exact⟨hs.defers,hs.size,old,λt u hu=>(hs.lt t u hu).mono hn⟩
 |some d=>
  refine⟨hs.defers,by simp[Act.put,hs.size],λt u hu ht=> ?_,λt u hu=> ?_⟩
  ·simp only[aaf,Env.yL]at hu;simp only[Act.put];by_cases hdt:d=t
   ·subst hdt;rw[if_pos rfl]at hu;obtain rfl:v=u:=by simpa using hu
    rw[Array.getElem?_setIfInBounds_self_of_lt (by rw[hs.size];exact ht)]
   ·rw[if_neg hdt]at hu;rw[Array.getElem?_setIfInBounds_ne hdt];exact old t u hu ht
  ·simp only[aaf,Env.yL]at hu;by_cases hdt:d=t
   ·rw[if_pos hdt]at hu;obtain rfl:v=u:=by simpa using hu
    exact hv
   ·rw[if_neg hdt]at hu;exact(hs.lt t u hu).mono hn
def acj:List Oper->Nat->Option Tmp
 |[],_=>none
 |o::r,j=>bif Nat.beq j 0 then o.dst else acj r (Nat.pred j)
theorem Xc:∀(l:List Oper) (j:Nat),acj l j=(l[j]?).bind (·.dst)
 |[],_=>rfl
 |o::r,0=>rfl
 |o::r,j+1=>by
  have:=Xc r j;show acj r j=_;simpa using this
def EY(n:Nat)(ops:List Oper)(g:Option (Nat×Bool))(env:Env)(K:Bool->Prop):Prop:=
 match g with
 |none=>K true
 |some (j,want)=>(match acj ops j with
  |none=>K false
  |some t=>bif Nat.ble n t then False else Ze t (λv=>match v,want with
   | .c (.bool true),true=>K true
   | .c (.bool true),false=>K false
   | .c (.bool false),true=>K false
   | .c (.bool false),false=>K true
   | .c (.tuple _),_=>K false
   |_,_=>False) env)
variable {ops:Array Oper} {env:Env} {ρ:Nat->Loc} {nx:Nat}
theorem uz{n:Nat}{o:Oper}{a:Act}{K:Bool->Prop}(hs:Sat n ρ nx env a)(h:EY n ops.toList o.guard env K):
 K (Region.wanted o (yielded ops a.tmps)):=by
 unfold EY at h;unfold Region.wanted;cases hg:o.guard with
 |none=>rw[hg]at h;exact h
 |some gw=>
  obtain⟨j,want⟩:=gw;rw[hg]at h;dsimp only at h|-
  rw[Xc]at h;unfold yielded;simp only[amH]at h;cases hd:(ops[j]?).bind (·.dst)with
  |none=>rw[hd]at h;exact h
  |some t=>
   rw[hd]at h;dsimp only at h;cases hb:Nat.ble n t with
   |true=>rw[hb]at h;exact h.elim
   |false=>
    rw[hb,cond_false]at h;have ht:t<n:=by
     rcases ack t n with h'|h'
     ·exact h'
     ·rw[anb h']at hb;cases hb
    obtain⟨v,hv,h⟩:=yE h;have:=hs.val t v hv ht;simp only[Option.bind_some,this];split at h<;>first|exact h.elim|simpa[SV.rf]using h
def afb(cx:Cx)(ops:List Oper):List Oper->Env->Heap->bR->Nat->(Env->Heap->bR->Nat->Prop)->Prop
 |[],env,H,S,nx,K=>K env H S nx
 |o::r,env,H,S,nx,K=>EY cx.n ops o.guard env (λb=>match b with
  |true=>opE cx o.op env H S nx (λv H' S' nx'=>qO env o.dst v λenv'=>afb cx ops r env' H' S' nx' K)
  |false=>qO env o.dst (.c undef) λenv'=>afb cx ops r env' H S nx K)
structure Wp(cx:Cx)(c:Code)(env:Env)(H:Heap)(S:bR)(nx:Nat)(K:Exit->Env->Heap->bR->Nat->Prop):Prop where
 out:∀ρ a w,Sat cx.n ρ nx env a->dO cx.B ρ nx H S w->c.wp cx.P (λe a' w'=>
  ∃ρ' env' H' S' nx',(∀i,i<nx->ρ' i=ρ i)/\nx<=nx'/\Sat cx.n ρ' nx' env' a'/\dO cx.B ρ' nx' H' S' w'/\K e env' H' S' nx') a w
variable {H:Heap} {S:bR}
theorem jY{cx:Cx}{c:Code}{K:Exit->Env->Heap->bR->Nat->Prop}:Wp cx c env H S nx K=(∀ρ a w,Sat cx.n ρ nx env a->dO cx.B ρ nx H S w->c.wp cx.P (λe a' w'=>
 ∃ρ' env' H' S' nx',(∀i,i<nx->ρ' i=ρ i)/\nx<=nx'/\Sat cx.n ρ' nx' env' a'/\dO cx.B ρ' nx' H' S' w'/\K e env' H' S' nx') a w):=propext ⟨λh=>h.out,λh=>⟨h⟩⟩
structure cO(cx:Cx)(id:Nat)(ops:Array Oper)(env:Env)(H:Heap)(S:bR)(nx:Nat)(K:Env->Heap->bR->Nat->Prop):Prop where
 out:Wp cx (.region id ops true) env H S nx (λe env' H' S' nx'=>e= .normal/\K env' H' S' nx')
theorem DC{cx:Cx}{id:Nat}{K:Env->Heap->bR->Nat->Prop}:cO cx id ops env H S nx K=(Wp cx (.region id ops true) env H S nx (λe env' H' S' nx'=>e= .normal/\K env' H' S' nx')):=propext ⟨λh=>h.out,λh=>⟨h⟩⟩
def vcC(cx:Cx):Code->Env->Heap->bR->Nat->(Exit->Env->Heap->bR->Nat->Prop)->Prop
 | .skip,env,H,S,nx,K=>K .normal env H S nx
 | .region id ops draw,env,H,S,nx,K=>(match draw with
   |false=>afb cx ops.toList ops.toList env H S nx (λenv' H' S' nx'=>K .normal env' H' S' nx')
   |true=>cO cx id ops env H S nx (λenv' H' S' nx'=>K .normal env' H' S' nx'))
 | .seq a b,env,H,S,nx,K=>vcC cx a env H S nx (λe env' H' S' nx'=>match e with
   | .normal=>Wp cx b env' H' S' nx' K
   |e=>K e env' H' S' nx')
 | .cond c a b,env,H,S,nx,K=>xX cx.n env c (λv=>match v with
   | .c (.bool true)=>vcC cx a env H S nx K
   | .c (.bool false)=>vcC cx b env H S nx K
   |_=>False)
 | .block id b,env,H,S,nx,K=>vcC cx b env H S nx (λe env' H' S' nx'=>match e with
   | .exit id'=>bif Nat.beq id' id then K .normal env' H' S' nx' else K (.exit id') env' H' S' nx'
   |e=>K e env' H' S' nx')
 | .loop b,env,H,S,nx,K=>Wp cx (.loop b) env H S nx K
 | .exit id,env,H,S,nx,K=>K (.exit id) env H S nx
 | .ret,env,H,S,nx,K=>K .ret env H S nx
 |c,env,H,S,nx,K=>Wp cx c env H S nx K
section
variable {cx:Cx} (hok:∀p∈cx.tab,lu cx.P p.1=some p.2)
include hok in
theorem F6{ops:Array Oper}:∀{l:List Oper} {env:Env} {H:Heap} {S:bR} {nx:Nat} {K:Env->Heap->bR->Nat->Prop} {ρ:Nat->Loc} {a:Act} {w:World} {Q:Exit->Act->World->Prop},
 afb cx ops.toList l env H S nx K->Sat cx.n ρ nx env a->dO cx.B ρ nx H S w->
 (∀ρ' a' env' H' S' nx' w',(∀i,i<nx->ρ' i=ρ i)->nx<=nx'->Sat cx.n ρ' nx' env' a'->dO cx.B ρ' nx' H' S' w'->K env' H' S' nx'->Q .normal a' w')->
 wpList cx.P ops Q l a w
 |[],env,H,S,nx,K,ρ,a,w,Q,h,hs,hw,hq=>hq ρ a env H S nx w (λ_ _=>rfl) (Tw _) hs hw h
 |o::r,env,H,S,nx,K,ρ,a,w,Q,h,hs,hw,hq=>by
  unfold afb at h;have h:=uz hs h;unfold wpList;cases hwt:Region.wanted o (yielded ops a.tmps)with
  |true=>
   rw[hwt]at h;dsimp only at h;rw[if_pos rfl];refine .inl (RS hok h hs hw ?_);intro v ρ' H' S' nx' w' h1 h2 h3 h4 h5;rw[lM]at h5;refine F6 h5 (hs.put h1 h2 h3) h4 ?_;intro Vn a'' Yn H'' S'' Q8 w'' g1 g2 g4 g5 g6;exact hq Vn a'' Yn H'' S'' Q8 w'' (λi hi=>(g1 i (ahd hi h2)).trans (h1 i hi)) (aiC h2 g2) g4 g5 g6
  |false=>
   rw[hwt]at h;dsimp only at h;rw[if_neg aI];have hp:=hs.put (ρ':=ρ) (nx':=nx) (d:=o.dst) (v:= .c undef) (λ_ _=>rfl) (Tw _) (SV.iW _);rw[lM]at h;refine F6 h hp hw ?_;intro Vn a'' Yn H'' S'' Q8 w'' g1 g2 g4 g5 g6;exact hq Vn a'' Yn H'' S'' Q8 w'' g1 g2 g4 g5 g6
include hok in
theorem adr:∀{c:Code} {env:Env} {H:Heap} {S:bR} {nx:Nat} {K:Exit->Env->Heap->bR->Nat->Prop},vcC cx c env H S nx K->Wp cx c env H S nx K:=by
 intro c;induction c with
 |skip=>
  intro env H S nx K h;rw[jY];intro ρ a w hs hw;exact wp_skip ⟨ρ,env,H,S,nx,λ_ _=>rfl,Tw _,hs,hw,h⟩
 |region id ops draw=>
  intro env H S nx K h;cases draw with
  |true=>
   simp only[vcC]at h;rw[DC]at h;rw[jY]at h|-
   intro ρ a w hs hw;refine wp_mono (h ρ a w hs hw) ?_;rintro e a' w' ⟨ρ',env',H',S',nx',h2,h3,h4,h5,rfl,h6⟩;exact⟨ρ',env',H',S',nx',h2,h3,h4,h5,h6⟩
  |false=>
   simp only[vcC]at h;rw[jY];intro ρ a w hs hw;refine wp_region_list (F6 hok h hs hw ?_);intro ρ' a' env' H' S' nx' w' g1 g2 g4 g5 g6;exact⟨ρ',env',H',S',nx',g1,g2,g4,g5,g6⟩
 |seq x y ihx ihy=>
  intro env H S nx K h;have hx:=ihx h;rw[jY]at hx|-
  intro ρ a w hs hw;refine wp_seq (wp_mono (hx ρ a w hs hw) ?_);rintro e a' w' ⟨ρ',env',H',S',nx',h2,h3,h4,h5,h6⟩;cases e with
  |normal=>
   simp only[Exit.then];dsimp only at h6;refine wp_mono (h6.out ρ' a' w' h4 h5) ?_;rintro e a'' w'' ⟨Vn,Yn,H'',S'',Q8,g2,g3,g4,g5,g6⟩;exact⟨Vn,Yn,H'',S'',Q8,λi hi=>(g2 i (ahd hi h3)).trans (h2 i hi),aiC h3 g3,g4,g5,g6⟩
  |_=>exact⟨ρ',env',H',S',nx',h2,h3,h4,h5,h6⟩
 |cond c x y ihx ihy=>
  intro env H S nx K h;rw[jY];intro ρ a w hs hw;obtain⟨v,h1,h2,h3⟩:=dB hs h
  match v,h1,h2 with
  | .c (.bool true),h1,h2=>
    have hx:=ihx h1;rw[jY]at hx;exact wp_cond_true h2 (hx ρ a w hs hw)
  | .c (.bool false),h1,h2=>
    have hx:=ihy h1;rw[jY]at hx;exact wp_cond_false h2 (hx ρ a w hs hw)
 |block id b ih=>
  intro env H S nx K h;have hb:=ih h;rw[jY]at hb|-
  intro ρ a w hs hw;refine wp_block (wp_mono (hb ρ a w hs hw) ?_);rintro e a' w' ⟨ρ',env',H',S',nx',g2,g3,g4,g5,g6⟩;cases e with
  |exit id'=>
   simp only[Exit.inBlock];dsimp only at g6;cases hb:Nat.beq id' id with
   |true=>
    rw[hb,cond_true]at g6;rw[if_pos (ael hb)];exact⟨ρ',env',H',S',nx',g2,g3,g4,g5,g6⟩
   |false=>
    rw[hb,cond_false]at g6;rw[if_neg (akz hb)];exact⟨ρ',env',H',S',nx',g2,g3,g4,g5,g6⟩
  |_=>exact⟨ρ',env',H',S',nx',g2,g3,g4,g5,g6⟩
 |exit id=>
  intro env H S nx K h;rw[jY];intro ρ a w hs hw;exact wp_exit ⟨ρ,env,H,S,nx,λ_ _=>rfl,Tw _,hs,hw,h⟩
 |ret=>
  intro env H S nx K h;rw[jY];intro ρ a w hs hw;exact wp_ret ⟨ρ,env,H,S,nx,λ_ _=>rfl,Tw _,hs,hw,h⟩
 |_=>intro env H S nx K h;exact h
end
end
theorem Wp.mono{cx:Cx}{c:Code}{env:Env}{H:Heap}{S:bR}{nx:Nat}{K K':Exit->Env->Heap->bR->Nat->Prop}(h:Wp cx c env H S nx K)(hk:∀e env H S nx,K e env H S nx->K' e env H S nx):Wp cx c env H S nx K':=by
 simp only[jY]at*;intro ρ a w hs hw;refine wp_mono (h ρ a w hs hw) ?_;rintro e a' w' ⟨ρ',env',H',S',nx',h2,h3,h4,h5,h6⟩;exact⟨ρ',env',H',S',nx',h2,h3,h4,h5,hk _ _ _ _ _ h6⟩
abbrev Map:=List (Nat×Option Nat)
def Map.app:Map->Nat->Option Nat
 |[],i=>some i
 |(j,x)::r,i=>bif Nat.beq j i then x else Map.app r i
theorem Map.Y1{nx:Nat}:∀{θ:Map},(∀p∈θ,nx<=p.1)->∀{i:Nat},i<nx->Map.app θ i=some i
 |[],_,i,_=>rfl
 |(j,x)::r,h,i,hi=>by
  have hj:=h (j,x) aI;simp only at hj;unfold Map.app;cases hb:Nat.beq j i with
  |true=>have:=ael hb;omega
  |false=>exact Map.Y1 (λp hp=>h p (by simp[hp])) hi
mutual
def SV.bnd(n:Nat):SV->Bool
 | .c _=>true
 | .lp i _ _ _=> !Nat.ble n i
 | .os i _=> !Nat.ble n i
 | .agg l=>SV.DW n l
 | .xg l=>SV.DW n l
 | .fn _ a b=>SV.DW n a&&SV.DW n b
 | .KN _ v=>v.bnd n
def SV.DW(n:Nat):List SV->Bool
 |[]=>true
 |v::r=>v.bnd n&&SV.DW n r
end
theorem Vq{n i:Nat}(h:(!Nat.ble n i)=true):i<n:=by
 rcases ack i n with h'|h'
 ·exact h'
 ·rw[anb h']at h;cases h
mutual
theorem SV.TK{n:Nat}:∀{v:SV},v.bnd n=true->v.lt n
 | .c _,_=>SV.iW _
 | .lp i _ _ _,h=>SV.Xm (Vq h)
 | .os i _,h=>SV.yP (Vq h)
 | .agg l,h=>SV.AV.2 (SV.xC h)
 | .xg l,h=>SV.Vr.2 (SV.xC h)
 | .fn _ a b,h=>by
   simp only[SV.bnd,afF]at h;exact SV.ajd.2 ⟨SV.xC h.1,SV.xC h.2⟩
 | .KN _ v,h=>SV.aeA.2 (SV.TK h)
theorem SV.xC{n:Nat}:∀{l:List SV},SV.DW n l=true->SV.M5 n l
 |[],_=>λi hi=>by simp[SV.hass]at hi
 |v::r,h=>by
  simp only[SV.DW,afF]at h;have h1:=SV.TK h.1;have h2:=SV.xC h.2;intro i hi;simp only[SV.hass,amh]at hi;exact hi.elim (h1 i) (h2 i)
end
def rP(θ:Map)(ρ:Nat->Loc):Nat->Loc:=λi=>match θ.app i with|some j=>ρ j|none=>⟨none,0⟩
mutual
theorem SV.TU(θ:Map)(ρ:Nat->Loc):∀v:SV,(v.ren θ.app).rf ρ=v.rf (rP θ ρ)
 | .c _=>rfl
 | .lp i j k f=>by
   simp only[SV.ren,SV.rf,rP];cases h:θ.app i<;>rfl
 | .os i len=>by
   simp only[SV.ren,SV.rf,rP];cases h:θ.app i<;>rfl
 | .agg l=>by simp only[SV.ren,SV.rf];rw[SV.AQ θ ρ l]
 | .xg l=>by simp only[SV.ren,SV.rf];rw[SV.AQ θ ρ l]
 | .fn f a b=>by simp only[SV.ren,SV.rf];rw[SV.AQ θ ρ a,SV.AQ θ ρ b]
 | .KN t v=>by simp only[SV.ren,SV.rf];rw[SV.TU θ ρ v]
theorem SV.AQ(θ:Map)(ρ:Nat->Loc):∀l:List SV,SV.dW ρ (SV.xY θ.app l)=SV.dW (rP θ ρ) l
 |[]=>rfl
 |v::r=>by simp only[SV.xY,SV.dW];rw[SV.TU θ ρ v,SV.AQ θ ρ r]
end
def UU(θ:Map)(env:Env):List (Nat×SV)->Prop
 |[]=>True
 |(t,v)::r=>env.get t=some (v.ren θ.app)/\UU θ env r
def b_.nil:b_->Prop
 | .rows xs _ _=>xs=[]
 |_=>False
def lI(θ:Map)(H:Heap):Heap->Prop
 |[]=>True
 |(i,e)::r=>(match θ.app i with
  |some j=>(j,e.ren θ.app)∈H
  |none=>e.nil)/\lI θ H r
def b_.bnd(n:Nat):b_->Bool
 | .box l _=>SV.DW n l
 |_=>true
def Ri(n:Nat):Env->Bool
 |[]=>true
 |(_,v)::r=>v.bnd n&&Ri n r
def uP(n:Nat):Heap->Bool
 |[]=>true
 |(i,e)::r=> !Nat.ble n i&&e.bnd n&&(r.all λp=> !Nat.beq i p.1)&&uP n r
def BM(nx:Nat)(θ:Map):Heap->Bool
 |[]=>θ.all λp=>Nat.ble nx p.1
 |(i,_)::r=>(r.all λp=>match θ.app i,θ.app p.1 with|some a,some b=> !Nat.beq a b|_,_=>true)&&BM nx θ r
structure Into(nx:Nat)(env:Env)(H:Heap)(S:bR)(θ:Map)(vals:Env)(hp:Heap)(as:bR):Prop where
 map:BM nx θ hp=true
 env:UU θ env vals
 heap:lI θ H hp
 qL:∀R w,S.holds R w->as.holds R w
theorem Gt{θ:Map}{env:Env}:∀{vals:Env},UU θ env vals->∀{t:Nat} {v:SV},vals.get t=some v->env.get t=some (v.ren θ.app)
 |[],_,t,v,h=>by cases h
 |(j,u)::r,hi,t,v,h=>by
  rw[Env.yL]at h;by_cases hj:j=t
  ·subst hj;rw[if_pos rfl]at h;obtain rfl:u=v:=by simpa using h
   exact hi.1
  ·rw[if_neg hj]at h;exact Gt hi.2 h
theorem PY{n:Nat}:∀{vals:Env},Ri n vals=true->∀{t:Nat} {v:SV},vals.get t=some v->v.lt n
 |[],_,t,v,h=>by cases h
 |(j,u)::r,hi,t,v,h=>by
  simp only[Ri,afF]at hi;rw[Env.yL]at h;by_cases hj:j=t
  ·rw[if_pos hj]at h;obtain rfl:u=v:=by simpa using h
   exact SV.TK hi.1
  ·rw[if_neg hj]at h;exact PY hi.2 h
theorem gX{θ:Map}{H:Heap}:∀{hp:Heap},lI θ H hp->∀{p:Nat×b_},p∈hp->(match θ.app p.1 with|some j=>(j,p.2.ren θ.app)∈H|none=>p.2.nil)
 |[],_,p,h=>by cases h
 |(i,e)::r,hi,p,h=>by
  rcases abr.1 h with rfl|h
  ·exact hi.1
  ·exact gX hi.2 h
theorem xH{n:Nat}:∀{hp:Heap},uP n hp=true->(∀p∈hp,p.1<n/\p.2.lt n)/\hp.Pairwise λp q=>p.1≠q.1
 |[],_=>⟨by simp,.nil⟩
 |(i,e)::r,h=>by
  simp only[uP,afF,akM,aoe]at h;obtain⟨⟨⟨h1,h2⟩,h3⟩,h4⟩:=h;obtain⟨h5,h6⟩:=xH h4;refine⟨λp hp=> ?_,aiN.2 ⟨λp hp=>akz (h3 p hp),h6⟩⟩;rcases abr.1 hp with rfl|hp
  ·refine⟨Vq (by simpa using h1),?_⟩;cases e with
   |box l T=>exactλx hx=>SV.xC h2 x hx
   |rows xs k T=>exactλx hx=>by simp[b_.hass]at hx
   |ext o=>exactλx hx=>by simp[b_.hass]at hx
  ·exact h5 p hp
theorem zG{nx:Nat}{θ:Map}:∀{hp:Heap},BM nx θ hp=true->(∀p∈θ,nx<=p.1)/\hp.Pairwise λp q=>∀a b,θ.app p.1=some a->θ.app q.1=some b->a≠b
 |[],h=>by
  simp only[BM,akM]at h;exact⟨λp hp=>an4 (h p hp),.nil⟩
 |(i,e)::r,h=>by
  simp only[BM,afF,akM]at h;obtain⟨h5,h6⟩:=zG h.2;refine⟨h5,aiN.2 ⟨λp hp a b ha hb=> ?_,h6⟩⟩;have:=h.1 p hp;simp only at ha;rw[ha,hb]at this;exact akz (by simpa using this)
theorem b_.J6{θ:Map}{ρ:Nat->Loc}{l:Loc}{F:Nat->Prop}{w:World}{e:b_}(h:(e.ren θ.app).holds ρ l F w):e.holds (rP θ ρ) l F w:=by
 cases e with
 |box cs T=>
  obtain⟨b,h1,h2,h3⟩:=h;exact⟨b,h1,h2,by rw[<-SV.AQ];exact h3⟩
 |rows xs k T=>exact h
 |ext o=>exact h
theorem Into.sound{cx:Cx}{nx n1 nx':Nat}{env:Env}{H:Heap}{S:bR}{θ:Map}{vals:Env}{hp:Heap}{as:bR}(h:Into nx env H S θ vals hp as)(hv:Ri n1 vals=true)(hh:uP n1 hp=true)
 (hn:nx<=n1) (yV:∀p∈cx.B.pin,p.1<nx) {ρ:Nat->Loc} {a:Act} {w:World} (hs:Sat cx.n ρ nx' env a) (hw:dO cx.B ρ nx' H S w):
 Sat cx.n (rP θ ρ) n1 vals a/\dO cx.B (rP θ ρ) n1 hp as w/\∀i,i<nx->rP θ ρ i=ρ i:=by
 obtain⟨hm,he,hhp,has⟩:=h;obtain⟨hm1,hm2⟩:=zG hm;have hlow:∀i,i<nx->rP θ ρ i=ρ i:=λi hi=>by simp only[rP,Map.Y1 hm1 hi]
 refine⟨⟨hs.defers,hs.size,λt v ht htn=> ?_,λt v ht=>PY hv ht⟩,?_,hlow⟩
 ·rw[hs.val t _ (Gt he ht) htn,SV.TU]
 ·obtain⟨R,φ,hw⟩:=hw;obtain⟨hk1,hk2⟩:=xH hh;refine⟨R,λi x=>match θ.app i with|some j=>φ j x|none=>False,hw.os,hw.tape,hw.output,hw.size,λp hp=>⟨ahd (yV p hp) hn,by rw[hlow _ (yV p hp)];exact(hw.pin p hp).2⟩,hw.ro,has R w hw.qL,hk1,?_,?_,?_⟩
  ·intro p hp;have:=gX hhp hp;cases hq:θ.app p.1 with
   |some j=>
    rw[hq]at this;have h1:=b_.J6 (hw.jA _ this);have:rP θ ρ p.1=ρ j:=by simp only[rP,hq]
    rw[this];simpa only[hq]using h1
   |none=>
    rw[hq]at this;have hl:rP θ ρ p.1=⟨none,0⟩:=by simp only[rP,hq]
    rw[hl];cases hpe:p.2 with
    |rows xs k T=>
     rw[hpe]at this;have hx:xs=[]:=this;subst hx;exact⟨by simp,Tw _,.inl ⟨rfl,rfl,λx hx=>by simp[hq]at hx⟩⟩
    |box l T=>rw[hpe]at this;exact this.elim
    |ext o=>rw[hpe]at this;exact this.elim
  ·intro p hp b hb;have:=gX hhp hp;cases hq:θ.app p.1 with
   |some j=>
    rw[hq]at this;simp only[hq]at hb;exact hw.apart _ this b hb
   |none=>simp only[hq]at hb
  ·have Tf:=hk2.and hm2;refine List.Pairwise.imp_of_mem (R:=λp q=>p.1≠q.1/\∀a b,θ.app p.1=some a->θ.app q.1=some b->a≠b) (λ{p q} hp hq hpq=>⟨hpq.1,λb hb hb'=> ?_⟩) Tf;have h1:=gX hhp hp;have h2:=gX hhp hq;cases hq1:θ.app p.1 with
   |none=>simp only[hq1]at hb
   |some j1=>
    cases hq2:θ.app q.1 with
    |none=>simp only[hq2]at hb'
    |some j2=>
     rw[hq1]at h1;rw[hq2]at h2;simp only[hq1]at hb;simp only[hq2]at hb';have hne:=hpq.2 j1 j2 hq1 hq2;have apart:∀{H:Heap},H.Pairwise (λp q=>p.1≠q.1/\∀b,φ p.1 b->¬φ q.1 b)->∀{p q:Nat×b_},p∈H->q∈H->p.1≠q.1->∀b,φ p.1 b->¬φ q.1 b:=by
      intro H hs;induction H with
      |nil=>intro p q hp;cases hp
      |cons x r ih=>
       obtain⟨hx,hr⟩:=aiN.1 hs;intro p q hp hq hne b hb hb';rcases abr.1 hp with gp|gp<;>rcases abr.1 hq with gq|gq
       ·exact hne wS
       ·rw[<-gp]at hx;exact(hx _ gq).2 b hb hb'
       ·rw[<-gq]at hx;exact(hx _ gp).2 b hb' hb
       ·exact ih hr gp gq hne b hb hb'
     exact apart hw.sep h1 h2 hne b hb hb'
theorem Wp.loop{cx:Cx}{body:Code}{env:Env}{H:Heap}{S:bR}{nx:Nat}{K:Exit->Env->Heap->bR->Nat->Prop}{σ:Type}(n1:Nat)(vals:σ->Env)(hp:σ->Heap)(as:σ->bR)(Inv:σ->Prop)(μ:σ->Nat)(s0:σ)(θ0:Map)
 (hn:nx<=n1) (hwf:∀s,Ri n1 (vals s)=true/\uP n1 (hp s)=true) (h0:Inv s0) (hi:Into nx env H S θ0 (vals s0) (hp s0) (as s0))
 (hbody:∀s,Inv s->Wp cx body (vals s) (hp s) (as s) n1 (λe env' H' S' nx'=>match e with
   | .normal=>∃s' θ,Inv s'/\μ s'<μ s/\Into nx env' H' S' θ (vals s') (hp s') (as s')
   |e=>K e env' H' S' nx')):Wp cx (.loop body) env H S nx K:=by
 simp only[jY]at*;intro ρ a w hs hw;have yV:∀p∈cx.B.pin,p.1<nx:=by
  obtain⟨R,φ,hw⟩:=hw;exactλp hp=>(hw.pin p hp).1
 refine wp_loop_ghost (λm a' w'=>∃s ρh,Inv s/\μ s=m/\(∀i,i<nx->ρh i=ρ i)/\Sat cx.n ρh n1 (vals s) a'/\dO cx.B ρh n1 (hp s) (as s) w') (μ s0) ?_ ?_
 ·obtain⟨h1,h2,h3⟩:=hi.sound (hwf s0).1 (hwf s0).2 hn yV hs hw;exact⟨s0,_,h0,rfl,h3,h1,h2⟩
 ·rintro m a' w' ⟨s,ρh,h1,rfl,h2,h3,h4⟩;refine wp_mono (hbody s h1 ρh a' w' h3 h4) ?_;rintro e a'' w'' ⟨ρ',env',H',S',nx',g1,g2,g3,g4,g5⟩;cases e with
  |normal=>
   obtain⟨s',θ,k1,k2,k3⟩:=g5;obtain⟨k4,k5,k6⟩:=k3.sound (hwf s').1 (hwf s').2 hn yV g3 g4;exact⟨μ s',k2,s',_,k1,rfl,λi hi=>(k6 i hi).trans ((g1 i (ahd hi hn)).trans (h2 i hi)),k4,k5⟩
  |_=>exact⟨ρ',env',H',S',nx',λi hi=>(g1 i (ahd hi hn)).trans (h2 i hi),aiC hn g2,g3,g4,g5⟩
section
structure jS(B:Base)(v:SV)(H:Heap)(S:bR)(nx:Nat)(R:Ending->World->Prop):Prop where
 out:∀ρ w,dO B ρ nx H S w->R (.returned (v.rf ρ)) w
variable {B:Base} {H:Heap} {S:bR} {nx:Nat} {R:Ending->World->Prop}
theorem Xy{v:SV}:jS B v H S nx R=(∀ρ w,dO B ρ nx H S w->R (.returned (v.rf ρ)) w):=propext ⟨λh=>h.out,λh=>⟨h⟩⟩
def Nh(cx:Cx)(env:Env)(H:Heap)(S:bR)(K:List SV->Prop):List ResultVar->Prop
 |[]=>K []
 | .tmp t::r=>bif Nat.ble cx.n t then False else Ze t (λv=>Nh cx env H S (λl=>K (v::l)) r) env
 | .cell a t::r=>bif Nat.ble cx.n a then False else Ze a (λp=>match p with
    | .lp i j k f=>ab2 cx t (.lp i j k f) H S (λv=>Nh cx env H S (λl=>K (v::l)) r)
    |_=>False) env
def oneOf:List SV->SV
 |[v]=>v
 |l=> .xg l
def acw(cx:Cx)(rs:List ResultVar)(R:Ending->World->Prop):Exit->Env->Heap->bR->Nat->Prop
 | .normal,env,H,S,nx=>Nh cx env H S (λl=>jS cx.B (oneOf l) H S nx R) rs
 | .ret,env,H,S,nx=>Nh cx env H S (λl=>jS cx.B (oneOf l) H S nx R) rs
 |_,_,_,_,_=>False
section
variable {cx:Cx} (hok:∀p∈cx.tab,lu cx.P p.1=some p.2)
def Pk(tmps:Array Value):ResultVar->Sem Value:=λ
    | .tmp t=>pure (tmps.getD t undef)
    | .cell a t=>do loadVar t (<-asAddr (tmps.getD a undef))
include hok in
theorem DV{env:Env}{H:Heap}{S:bR}{nx:Nat}{ρ:Nat->Loc}{a:Act}{w:World}(hs:Sat cx.n ρ nx env a)(hw:dO cx.B ρ nx H S w):∀{rs:List ResultVar} {K:List SV->Prop},Nh cx env H S K rs->
 ∃l,K l/\SV.M5 nx l/\(rs.mapM (Pk a.tmps)).run cx.P w= .ok (SV.dW ρ l) w
 |[],K,h=>⟨[],h,λi hi=>by simp[SV.hass]at hi,by simp[SV.dW]⟩
 | .tmp t::r,K,h=>by
   unfold Nh at h;cases hb:Nat.ble cx.n t with
   |true=>rw[hb]at h;exact h.elim
   |false=>
    rw[hb,cond_false]at h;have ht:t<cx.n:=by
     rcases ack t cx.n with h'|h'
     ·exact h'
     ·rw[anb h']at hb;cases hb
    obtain⟨v,hv,h⟩:=yE h;obtain⟨l,h1,h2,h3⟩:=DV hs hw h;have hv':=hs.val t v hv ht;refine⟨v::l,h1,λi hi=> ?_,?_⟩
    ·simp only[SV.hass,amh]at hi;exact hi.elim (hs.lt t v hv i) (h2 i)
    ·simp[List.mapM_cons,Pk,Array.getD_eq_getD_getElem?,hv',h3,SV.dW]
 | .cell x t::r,K,h=>by
   unfold Nh at h;cases hb:Nat.ble cx.n x with
   |true=>rw[hb]at h;exact h.elim
   |false=>
    rw[hb,cond_false]at h;have ht:x<cx.n:=by
     rcases ack x cx.n with h'|h'
     ·exact h'
     ·rw[anb h']at hb;cases hb
    obtain⟨p,hp,h⟩:=yE h
    match p,hp,h with
    | .lp i j k f,hp,h=>
      have hH:∀q∈H,q.2.lt nx:=λq hq=>by obtain⟨R,φ,hw1⟩:=hw;exact(hw1.key q hq).2
      obtain⟨v,h4,h5,h6⟩:=K5 hok (ρ:=ρ) (nx:=nx) h hH;obtain⟨l,h1,h2,h3⟩:=DV hs hw h5;have hp':=hs.val x _ hp ht;have h6:=h6 w hw;refine⟨v::l,h1,λi hi=> ?_,?_⟩
      ·simp only[SV.hass,amh]at hi;exact hi.elim (h4 i) (h2 i)
      ·simp only[Instr.loadAt]at h6;have h7:(asAddr ((SV.lp i j k f).rf ρ)>>=λa=>loadVar t a).run cx.P w= .ok (v.rf ρ) w:=by
        revert h6
        simp only[SV.rf];cases(ρ i).base with
        |none=>intro h6;simp[Instr.sureAddr]at h6
        |some b=>intro h6;simpa[Instr.sureAddr,asAddr]using h6
       simp only[List.mapM_cons,Pk,Array.getD_eq_getD_getElem?,hp',Option.getD_some,Sem.run_bind (P:=cx.P)];simp only[Sem.run_bind]at h7;rw[h7];simp[h3,SV.dW]
variable {fn:Func} {w:World}
theorem KY{tmps:Array Value}{P:Program}{l:List Value}(h:(fn.results.toList.mapM (Pk tmps)).run P w= .ok l w):
 (results fn tmps).run P w= .ok (if h:l.toArray.size=1 then l.toArray[0]else .tuple l.toArray) w:=by
 have e:results fn tmps=(do let vs<-fn.results.mapM (Pk tmps);pure (if h:vs.size=1 then vs[0]else .tuple vs)):=rfl;rw[e,Array.mapM_eq_mapM_toList];simp[h]
theorem YN(ρ:Nat->Loc)(l:List SV):(oneOf l).rf ρ=(if h:(SV.dW ρ l).toArray.size=1 then(SV.dW ρ l).toArray[0]else .tuple (SV.dW ρ l).toArray):=by
 match l with
 |[]=>rfl
 |[v]=>rfl
 |a::b::r=>simp[oneOf,SV.rf,SV.dW]
def number:Nat->List SV->Env
 |_,[]=>[]
 |n,v::r=>(n,v)::number (n+1) r
theorem wN:∀{l:List SV} {n t:Nat} {v:SV},(number n l).get t=some v->∃j,t=n+j/\l[j]? =some v
 |[],n,t,v,h=>by cases h
 |u::r,n,t,v,h=>by
  simp only[number,Env.yL]at h;by_cases hn:n=t
  ·rw[if_pos hn]at h;exact⟨0,by omega,by simpa using h⟩
  ·rw[if_neg hn]at h;obtain⟨j,h1,h2⟩:=wN h;exact⟨j+1,by omega,by simpa using h2⟩
end
variable {f:FuncId} {fn:Func} {c:Code} {rs:List ResultVar} {w:World} {args:Array Value}
theorem pq{P:Program}{n:Nat}(tab:List (Nat×TI))(hok:∀p∈tab,lu P p.1=some p.2)(hf:P.funcs[f]? =some fn)(hb:fn.body=some c)(hn:fn.ntmps=n)(hrs:fn.results.toList=rs)
 (pin:List (Nat×Loc)) (ρ0:Nat->Loc) (VT:List SV) (H0:Heap) (S0:bR) (u6:Nat) (hargs:args=(SV.dW ρ0 VT).toArray) (hlt:SV.DW u6 VT=true) (hlen:VT.length<=n)
 (ajp:dO ⟨w,pin⟩ ρ0 u6 H0 S0 w) (h:Wp ⟨P,⟨w,pin⟩,n,tab⟩ c (number 0 VT) H0 S0 u6 (acw ⟨P,⟨w,pin⟩,n,tab⟩ rs R)):Calls P f args w R:=by
 subst hn;subst hrs;refine calls_of_wp hf hb ?_;rw[jY]at h;have hsz:args.size=VT.length:=by subst hargs;simp[j5]
 refine wp_mono (h ρ0 _ w ?_ ajp) ?_
 ·refine⟨rfl,by simp;omega,λt v hv ht=> ?_,λt v hv=> ?_⟩
  ·obtain⟨j,rfl,hj⟩:=wN hv;have hjl:=(abH.1 hj).1;simp only[aiD];rw[Array.getElem?_append_left aa];subst hargs;simp[SV.o9,hj]
  ·obtain⟨j,rfl,hj⟩:=wN hv;exact SV.oV.1 (SV.xC hlt) v (adu hj)
 ·rintro e a' w' ⟨ρ',env',H',S',nx',h2,h3,h4,h5,h6⟩;have fin:∀{Q:Prop},(Nh ⟨P,⟨w,pin⟩,fn.ntmps,tab⟩ env' H' S' (λl=>jS ⟨w,pin⟩ (oneOf l) H' S' nx' R) fn.results.toList)->(a'.defers=[]/\∃v,(results fn a'.tmps).run P w'= .ok v w'/\R (.returned v) w'):=by
   intro Q h6;obtain⟨l,g1,g2,g3⟩:=DV (cx:=⟨P,⟨w,pin⟩,fn.ntmps,tab⟩) hok h4 h5 h6;rw[Xy]at g1;have:=g1 ρ' w' h5;rw[YN]at this;exact⟨h4.defers,_,KY g3,this⟩
  cases e with
  |normal=>exact fin (Q:=True) h6
  |ret=>exact fin (Q:=True) h6
  |_=>exact h6.elim
def aU(w0:World):bR where
 holds R w:=∀b,b<w0.heap.size->R b/\w.heap[b]? =w0.heap[b]?
 stable:=λhR hw h b hb=>⟨hR b (h b hb).1,(hw b (h b hb).1).trans (h b hb).2⟩
theorem ae_(w:World):dO ⟨w,[]⟩ (λ_=>⟨none,0⟩) 0 [] (aU w) w:=
 ⟨λb=>b<w.heap.size,λ_ _=>False,rfl,rfl,rfl,Tw _,by simp,λ_ h=>h,λb hb=>⟨hb,rfl⟩,by simp,by simp,by simp,.nil⟩
variable {ρ:Nat->Loc}
theorem bG(h:dO B ρ nx H S w)(hS:∀R w',S.holds R w'->(aU B.w0).holds R w'):Ext B.w0 w:=by
 obtain⟨R,φ,h⟩:=h;exact⟨h.os,h.tape,h.output,h.size,λb hb=>(hS R w h.qL b hb).2⟩
variable {tab:List (Nat×TI)}
theorem zzF{P:Program}{n:Nat}(hf:P.funcs[f]? =some fn)(pin:List (Nat×Loc))(ρ0:Nat->Loc)(VT:List SV)(H0:Heap)(S0:bR)(u6:Nat)(ajp:dO ⟨w,pin⟩ ρ0 u6 H0 S0 w)(h:Wp ⟨P,⟨w,pin⟩,n,tab⟩ c (number 0 VT) H0 S0 u6 (acw ⟨P,⟨w,pin⟩,n,tab⟩ rs R))(hok:∀p∈tab,lu P p.1=some p.2:=by exact bW)(hb:fn.body=some c:=by exact rfl)(hn:fn.ntmps=n:=by exact rfl)(hrs:fn.results.toList=rs:=by exact rfl)(hargs:args=(SV.dW ρ0 VT).toArray:=by exact rfl)(hlt:SV.DW u6 VT=true:=by exact rfl)(hlen:VT.length<=n:=by exact an4 rfl):Calls P f args w R:=
 pq tab hok hf hb hn hrs pin ρ0 VT H0 S0 u6 hargs hlt hlen ajp h
theorem fH{P:Program}{n:Nat}(hf:P.funcs[f]? =some fn)(VT:List SV)(h:Wp ⟨P,⟨w,[]⟩,n,tab⟩ c (number 0 VT) [] (aU w) 0 (acw ⟨P,⟨w,[]⟩,n,tab⟩ rs R))(hok:∀p∈tab,lu P p.1=some p.2:=by exact bW)(hb:fn.body=some c:=by exact rfl)(hn:fn.ntmps=n:=by exact rfl)(hrs:fn.results.toList=rs:=by exact rfl)(hargs:args=(SV.dW (λ_=>⟨none,0⟩) VT).toArray:=by exact rfl)(hlt:SV.DW 0 VT=true:=by exact rfl)(hlen:VT.length<=n:=by exact an4 rfl):Calls P f args w R:=
 pq tab hok hf hb hn hrs [] (λ_=>⟨none,0⟩) VT [] (aU w) 0 hargs hlt hlen (ae_ w) h
end
section
def going:Code->Bool
 | .loop _=>false
 | .rangeFunc _ _ _ _=>false
 | .scope _=>false
 | .label _=>false
 | .goto _=>false
 | .refuse _=>false
 |_=>true
variable {cx:Cx} {H:Heap} {S:bR} {nx:Nat}
theorem Wp.go(hok:∀p∈cx.tab,lu cx.P p.1=some p.2){c:Code}{env:Env}{K:Exit->Env->Heap->bR->Nat->Prop}(_hg:going c=true)(h:vcC cx c env H S nx K):Wp cx c env H S nx K:=adr hok h
variable {z:Int} {K:Int->Prop}
theorem wrap_i64(h1: -9223372036854775808<=z)(h2:z<=9223372036854775807)(h:K z):fF .i64 z K:=by
 rw[mZ];rw[IntWalk.i64_in z ⟨h1,h2⟩];exact h
variable {y:Int}
theorem IM{k:IntKind}(e:k.wrap z=y)(h:K y):fF k z K:=by rw[mZ];rw[e];exact h
theorem wrap_u8(h1:0<=z)(h2:z<=255)(h:K z):fF .u8 z K:=by
 refine IM ?_ h;simp only[IntKind.wrap,IntKind.signed,IntKind.bits,Bool.false_and];have:(2:Int)^8=256:=by decide
 simp only[this];simp;omega
theorem wrap_u64(h1:0<=z)(h2:z<=18446744073709551615)(h:K z):fF .u64 z K:=by
 refine IM ?_ h;simp only[IntKind.wrap,IntKind.signed,IntKind.bits,Bool.false_and];have:(2:Int)^64=18446744073709551616:=by decide
 simp only[this];simp;omega
theorem gJ{p:Prop}[Decidable p]{K:Bool->Prop}(hp:p)(h:K true):iG p K:=by
 rw[BH];exact⟨λ_=>h,λhn=>absurd hp hn⟩
theorem jc{p:Prop}[Decidable p]{K:Bool->Prop}(hp:¬p)(h:K false):iG p K:=by
 rw[BH];exact⟨λhy=>absurd hy hp,λ_=>h⟩
theorem ag{p:Prop}[Decidable p]{K:Bool->Prop}(h1:p->K true)(h2:¬p->K false):iG p K:=by
 rw[BH];exact⟨h1,h2⟩
variable {x:Int}
theorem div_pos{k:IntKind}(hk:k= .i64)(h0:0<=x)(h1:x<=9223372036854775807)(hy:0<y)(h:K (x/y)):yM k x y K:=by
 subst hk;rw[Cz];refine⟨by omega,?_⟩;have e:x.tdiv y=x/y:=Int.tdiv_eq_ediv_of_nonneg h0;have e1:0<=x/y:=amv h0 aa;have e2:x/y<=x:=aku y h0;rw[e,IntWalk.i64_in _ ⟨by omega,by omega⟩];exact h
theorem Ub(h0:0<=x)(hy:y≠0)(h:K (x%y)):x8 x y K:=by
 rw[OU];refine⟨hy,?_⟩;rw[Int.tmod_eq_emod_of_nonneg h0];exact h
theorem dK{B:Base}{v:SV}{R:Ending->World->Prop}(h:∀ρ w,dO B ρ nx H S w->R (.returned (v.rf ρ)) w):jS B v H S nx R:=by rw[Xy];exact h
variable {m:Nat}
theorem mg{n:Nat}{K:Prop}(h:m<=n)(hk:K):Gn m n K:=by rw[Mj];exact⟨h,hk⟩
theorem XG{n:Nat}{K:Prop}(h:m<n)(hk:K):ltK m n K:=by rw[TZ];exact⟨h,hk⟩
theorem fU{n:Nat}{K:Prop}(h:m*n<=140737488355328)(hk:K):jv m n K:=by rw[CY];exact⟨h,hk⟩
variable {l c:Int} {bytes:Nat}
theorem lD{K:Nat->Prop}(n:Nat)(hl:l=n)(hc:c=n)(hb:bytes*n<=281474976710656)(h63:n<=9223372036854775807)(h:K n):pg l c bytes K:=by
 rw[Ku];exact⟨n,n,hl,hc,Tw _,hb,h63,h⟩
theorem X0{K:Nat->Prop}(n m:Nat)(hl:l=n)(hc:c=m)(hnm:n<=m)(hb:bytes*m<=281474976710656)(h63:m<=9223372036854775807)(h:K n):pg l c bytes K:=by
 rw[Ku];exact⟨n,m,hl,hc,hnm,hb,h63,h⟩
variable {base:Option Addr} {len size:Nat}
theorem aM{K:SV->Prop}(a:Addr)(j:Nat)(hb:base=some a)(hz:z=j)(hj:j<len)(h:K (.c (.pointer (some (a.add (j*size)))))):dn base len size z K:=by
 rw[Qh];subst hz;exact⟨a,hb,by omega,by omega,by simpa using h⟩
theorem bY{i:Nat}{K:SV->Prop}(j:Nat)(hz:z=j)(hj:j<len)(hl:len<=m)(h:K (.lp i j size 0)):eP i len m size z K:=by
 rw[KJ];exact⟨j,hz,hj,hl,h⟩
variable {xs:List (List Value)} {j f:Nat}
theorem row_of{K:Value->Prop}(r:List Value)(v:Value)(h1:xs[j]? =some r)(h2:r[f]? =some v)(h:K v):rQ xs j f K:=by rw[aqj];exact⟨r,v,h1,h2,h⟩
theorem I_{n:Nat}{K:List Value->Prop}(r l:List Value)(h1:xs[j]? =some r)(hl:l.length=n)(h2:(r.drop f).take n=l)(h:K l):G9 xs j f n K:=by rw[Lf];exact⟨r,l,h1,hl,h2,h⟩
theorem jq{vs:List Value}{K:List (List Value)->Prop}(r:List Value)(h1:xs[j]? =some r)(hf:f+vs.length<=r.length)(h:K (xs.set j (cB r f vs))):dH xs j f vs K:=by
 rw[Ee];exact⟨r,h1,hf,h⟩
variable {args:List SV}
theorem aR{f:FuncId}{K:SV->Heap->bR->Nat->Prop}(hf:∀as w,(callFunc f as).run cx.P w= .ok (.enter f as) w)(val:Value)
 (hc:∀ρ w,dO cx.B ρ nx H S w->Calls cx.P f (SV.dW ρ args).toArray w (λe w'=>e= .returned val/\Ext w w')) (h:K (.c val) H S nx):aJ cx f args H S nx K:=by
 rw[fZ];refine⟨hf,λρ w hw=>(hc ρ w hw).mono ?_⟩;rintro e w' ⟨rfl,he⟩;exact⟨.c val,ρ,H,S,nx,rfl,λ_ _=>rfl,Tw _,SV.iW _,hw.ext he,h⟩
theorem Ry{f:FuncId}{K:SV->Heap->bR->Nat->Prop}(hf:∀as w,(callFunc f as).run cx.P w= .ok (.enter f as) w){α:Type}(val:α->Value)(p:α->Prop)
 (hc:∀ρ w,dO cx.B ρ nx H S w->Calls cx.P f (SV.dW ρ args).toArray w (λe w'=>∃x,p x/\e= .returned (val x)/\Ext w w')) (h:∀x,p x->K (.c (val x)) H S nx):aJ cx f args H S nx K:=by
 rw[fZ];refine⟨hf,λρ w hw=>(hc ρ w hw).mono ?_⟩;rintro e w' ⟨x,hp,rfl,he⟩;exact⟨.c (val x),ρ,H,S,nx,rfl,λ_ _=>rfl,Tw _,SV.iW _,hw.ext he,h x hp⟩
def bE(w:World)(base:Option Addr)(k:Nat)(xs:List (List Value)):Prop:=
 xs=[]\/∃a,base=some a/\∀i r,xs[i]? =some r->∀j v,r[j]? =some v->w.cell? (a.add (i*k+j))=some v
variable {k:Nat}
theorem Us{a:Addr}{K:SV->Prop}(hx:∀R w,S.holds R w->bE w (some a) k xs)(r:List Value)(v:Value)(hr:xs[j]? =some r)(hv:r[f]? =some v)(h:K (.c v)):
 gZ ((a.add (j*k)).add f) S K:=by
 rw[Io];refine⟨v,λR w hS=> ?_,h⟩;rcases hx R w hS with h0|⟨a',ha,h1⟩
 ·subst h0;simp at hr
 ·obtain rfl:a=a':=by simpa using ha
  rw[add_add];exact h1 j r hr f v hv
theorem bN{a:Addr}{K:SV->Prop}(hx:∀R w,S.holds R w->bE w (some a) k xs)(r:List Value)(v:Value)(hr:xs[j]? =some r)(hv:r[0]? =some v)(h:K (.c v)):
 gZ (a.add (j*k)) S K:=by
 rw[Io];refine⟨v,λR w hS=> ?_,h⟩;rcases hx R w hS with h0|⟨a',ha,h1⟩
 ·subst h0;simp at hr
 ·obtain rfl:a=a':=by simpa using ha
  exact h1 j r hr 0 v hv
theorem gI{a:Addr}{n:Nat}{K:List Value->Prop}(hx:∀R w,S.holds R w->bE w (some a) k xs)(r:List Value)(hr:xs[j]? =some r)(hn:r.length=n)(h:K r):
 lK (a.add (j*k)) n S K:=by
 rw[Oc];refine⟨r,hn,λR w hS m v hv=> ?_,h⟩;rcases hx R w hS with h0|⟨a',ha,h1⟩
 ·subst h0;simp at hr
 ·obtain rfl:a=a':=by simpa using ha
  rw[add_add];exact h1 j r hr m v hv
theorem aT{w:World}(h:bE w base k xs)(hj:j<xs.length):∃a,base=some a:=by
 rcases h with rfl|⟨a,ha,_⟩
 ·simp at hj
 ·exact⟨a,ha⟩
end
section
section
variable {P:Program} {ops:Array Oper} {Q:Exit->Act->World->Prop} {md:Region.Mode} {C:World->Prop} {brk:Nat->Bool}
def Ak(P:Program)(md:Region.Mode)(ops:Array Oper)(Q:Exit->Act->World->Prop)(C:World->Prop)(brk:Nat->Bool):Nat->Array Bool->Act->World->Prop
 |0,listed,a,w=>Region.ready md ops listed=[]/\Q .normal a w
 |fuel+1,listed,a,w=>
  (Region.ready md ops listed=[]->Q .normal a w)/\
  ∀i∈Region.ready md ops listed,wpOp P ops Q i (λa' w'=>(brk i=true\/C w')/\Ak P md ops Q C brk fuel (listed.setIfInBounds i true) a' w') a w
theorem Mr:∀(fuel:Nat) (listed:Array Bool) (a:Act) (w:World),Ak P md ops Q C brk fuel listed a w->wpAny P md ops Q fuel listed a w
 |0,_,_,_,h=>h
 |fuel+1,_,_,_,h=>⟨h.1,λi hi=>wpOp_mono (λa' w' h'=>Mr fuel _ a' w' h'.2) (h.2 i hi)⟩
variable {i:Nat}
theorem Uw{oi:Oper}{v:Value}(hi:ops[i]? =some oi)(hsel:∀(j:Nat) (o:Oper) cs b,ops[j]? =some o->o.op≠.select cs b)
 (hQ:∀c a w,Q (.panic c) (a.put oi.dst v) w->Q (.panic c) a w) (Z:Nat->Bool) (ajy:∀j oj,ops[j]? =some oj->brk j=true->(∃e∈oj.after,Region.binds md e=true/\e.on=i)\/Z j=true) (hZ:∀j oj,ops[j]? =some oj->Z j=true->∃e∈oj.after,Region.binds md e=true/\(e.on=i\/Z e.on=true)):
 ∀(fuel:Nat) (listed:Array Bool) (a:Act) (w:World),(∀j,Z j=true->listed.getD j true=false)->
  (∀j oj,ops[j]? =some oj->j≠i->listed.getD j true=false->(∀e∈oj.after,Region.binds md e=true->e.on≠i)->oi.apart ops oj=true)->
  i∈Region.ready md ops listed->YieldsIf P ops C oi v a->C w->
  Ak P md ops Q C brk fuel (listed.setIfInBounds i true) (a.put oi.dst v) w->Ak P md ops Q C brk (fuel+1) listed a w:=by
 intro fuel;induction fuel with
 |zero=>
  intro listed a w _ _ hr hy hC H;refine⟨λh=>(by rw[h]at hr;cases hr),λj hj=> ?_⟩;by_cases hji:j=i
  ·subst hji;exact hy.wpOp hi hC ⟨.inr hC,H⟩
  ·have:=ready_mono hj hji;rw[H.1]at this;cases this
 |succ fuel ih=>
  intro listed a w hZl hfree hr hy hC H;refine⟨λh=>(by rw[h]at hr;cases hr),λj hj=> ?_⟩;by_cases hji:j=i
  ·subst hji;exact hy.wpOp hi hC ⟨.inr hC,H⟩
  ·obtain⟨hjun,oj,hoj,hall⟩:=mem_ready.1 hj;have als:listed.getD i true=false:=(mem_ready.1 hr).1;have hnot:∀e∈oj.after,Region.binds md e=true->e.on≠i:=λe he hb heq=>by
    have h1:=hall e he hb;rw[heq]at h1;rcases ack i listed.size with h'|h'
    ·simp[h']at als h1;rw[als]at h1;cases h1
    ·simp[Array.getElem?_eq_none h']at h1
   have hnZ:Z j=false:=by
    cases hz:Z j with
    |false=>rfl
    |true=>
     obtain⟨e,he,hb1,hb2⟩:=hZ j oj hoj hz;rcases hb2 with hb2|hb2
     ·exact absurd hb2 (hnot e he hb1)
     ·have h1:=hall e he hb1;have h2:=hZl _ hb2;rcases ack e.on listed.size with h'|h'
      ·simp[h']at h2 h1;rw[h2]at h1;cases h1
      ·simp[Array.getElem?_eq_none h']at h1
   have hnb:brk j=false:=by
    cases hb:brk j with
    |false=>rfl
    |true=>
     rcases ajy j oj hoj hb with⟨e,he,hb1,hb2⟩|hz
     ·exact absurd hb2 (hnot e he hb1)
     ·rw[hnZ]at hz;cases hz
   have anf:∀k,Z k=true->(listed.setIfInBounds j true).getD k true=false:=λk hk=>by
    have hjk:j≠k:=λe=>by rw[<-e,hnZ]at hk;cases hk
    rw[getD_set_ne true hjk];exact hZl k hk
   have hap:=hfree j oj hoj hji hjun hnot;have hfree':∀k ok,ops[k]? =some ok->k≠i->(listed.setIfInBounds j true).getD k true=false->
    (∀e∈ok.after,Region.binds md e=true->e.on≠i)->oi.apart ops ok=true:=λk ok hk hki hun hno=>by
    refine hfree k ok hk hki ?_ hno;by_cases hjk:j=k
    ·subst hjk;exact hjun
    ·rw[getD_set_ne true hjk]at hun;exact hun
   have h1:=H.2 j (ready_mono hj hji);have h2:=wpOp_putIf hoj hap (λcs b=>hsel i oi cs b hi) (λcs b=>hsel j oj cs b hoj) hQ hy h1;refine wpOp_mono (λa' w' h3=> ?_) h2;have hC':C w':=h3.2.1.resolve_left (by simp[hnb]);refine⟨.inr hC',ih (listed.setIfInBounds j true) a' w' anf hfree' (ready_mono hr (Ne.symm hji)) h3.1 hC' ?_⟩;rw[Array.setIfInBounds_comm _ _ hji];exact h3.2.2
end
inductive DT where
 |done
 |take (i:Nat) (t:DT)
 |one (i:Nat) (t:DT)
 |alt (i:Nat) (t r:DT)
def bS:List Nat->DT->DT
 |[],t=>t
 |i::r,t=>bif Nat.ble 100 i then .one (i-100) (bS r t)else .take i (bS r t)
def DT.qf:DT->Bool
 | .done=>true
 | .take _ _=>false
 | .one _ t=>t.qf
 | .alt _ t r=>t.qf&&r.qf
def DT.picks:DT->List Nat
 | .one i _=>[i]
 | .alt i _ r=>i::r.picks
 |_=>[]
def DT.deep:DT->Nat->Bool
 | .done,_=>true
 | .take _ t,n=>(match n with|0=>false|n+1=>t.deep n)
 | .one _ t,n=>(match n with|0=>false|n+1=>t.deep n)
 | .alt _ t r,n=>(match n with|0=>false|n'+1=>t.deep n')&&r.deep n
def u_(i:Nat):List Nat->Bool
 |[]=>false
 |j::r=>bif Nat.beq j i then true else u_ i r
def C9(ops:Array Oper)(j i:Nat):Bool:=match ops[j]? with|some oj=>oj.after.any (λe=>Region.binds .any e&&e.on==i)|none=>true
def waiters(ops:Array Oper)(i:Nat):Nat->List Nat->List Nat
 |0,Z=>Z
 |f+1,Z=>waiters ops i f (Z++(List.range ops.size).filter λk=> !u_ k Z&&(i::Z).any λx=>C9 ops k x)
def aj5(ops:Array Oper)(brk:List Nat)(listed:Array Bool)(i:Nat)(Z:List Nat):Bool:=
 (brk.all λj=>u_ j Z)&&Z.all λk=> !(listed.getD k true)&&(i::Z).any λx=>C9 ops k x
def DT.ok(ops:Array Oper)(brk:List Nat):DT->Array Bool->Bool->Bool
 | .done,listed,top=>top&&(Region.ready .any ops listed).isEmpty
 | .take i t,listed,top=>top&&(Region.free .any ops listed i&&(Region.ready .any ops listed).contains i&&((brk.all λj=>C9 ops j i)||aj5 ops brk listed i (waiters ops i ops.size []))&&t.ok ops brk (listed.setIfInBounds i true) true)
 | .one i t,listed,top=>(!top||Region.ready .any ops listed==[i])&&(t.ok ops brk (listed.setIfInBounds i true) true&&(bif u_ i brk then t.qf else true))
 | .alt i t r,listed,top=>(!top||Region.ready .any ops listed==i::r.picks)&&(t.ok ops brk (listed.setIfInBounds i true) true&&(bif u_ i brk then t.qf else true))&&r.ok ops brk listed false
def Yo(K:Oper->Prop):List Oper->Nat->Prop
 |[],_=>False
 |o::r,n=>bif Nat.beq n 0 then K o else Yo K r (Nat.pred n)
theorem FL{K:Oper->Prop}:∀{l:List Oper} {n:Nat},Yo K l n->∃o,l[n]? =some o/\K o
 |[],_,h=>h.elim
 |o::r,n,h=>by
  unfold Yo at h;cases n with
  |zero=>exact⟨o,rfl,h⟩
  |succ n=>obtain⟨u,h1,h2⟩:=FL (l:=r) (n:=n) h;exact⟨u,by simpa using h1,h2⟩
structure mW(Hq:Heap)(S0:bR)(H:Heap)(S:bR)(K:Prop):Prop where
 out:(Hq.Sublist H/\∀R w,S.holds R w->S0.holds R w)/\K
variable {H:Heap} {S:bR}
theorem Ka{Hq:Heap}{S0:bR}{K:Prop}:mW Hq S0 H S K=((Hq.Sublist H/\∀R w,S.holds R w->S0.holds R w)/\K):=propext ⟨λh=>h.out,λh=>⟨h⟩⟩
theorem ed{Hq:Heap}{S0:bR}{K:Prop}(h1:Hq.Sublist H)(h2:∀R w,S.holds R w->S0.holds R w)(h:K):mW Hq S0 H S K:=by rw[Ka];exact⟨⟨h1,h2⟩,h⟩
theorem XD{Hq:Heap}{S0:bR}{K:Prop}(h:K)(h1:Hq.Sublist H:=by first|exact af7 _|exact aej _ (af7 _)|exact aej _ (aej _ (af7 _))|exact aej _ (aej _ (aej _ (af7 _))))
 (h2:∀R w,S.holds R w->S0.holds R w:=by first|exact(λ_ _ h=>h)|exact(λ_ _ h=>h.1)|exact(λ_ _ h=>h.1.1)):mW Hq S0 H S K:=ed h1 h2 h
theorem akI{Hq:Heap}{S0:bR}{K:Prop}(h:K)(h1:Hq.Sublist H:=by repeat(first|exact af7 _|exact amG _|apply aei|apply aej))
 (h2:∀R w,S.holds R w->S0.holds R w:=by first|exact(λ_ _ h=>h)|exact(λ_ _ h=>h.1)|exact(λ_ _ h=>h.1.1)):mW Hq S0 H S K:=ed h1 h2 h
theorem mh{z:Int}{K:Int->Prop}(h:K z)(h1: -9223372036854775808<=z:=by omega)(h2:z<=9223372036854775807:=by omega):fF .i64 z K:=wrap_i64 h1 h2 h
theorem Ib{p:Prop}[Decidable p]{K:Bool->Prop}(h:K true)(hp:p:=by omega):iG p K:=gJ hp h
theorem Hz{p:Prop}[Decidable p]{K:Bool->Prop}(h:K false)(hp:¬p:=by omega):iG p K:=jc hp h
def abW(cx:Cx)(ops:List Oper)(brk:List Nat)(Hq:Heap)(S0:bR)(i:Nat)(D:Env->Heap->bR->Nat->Prop)(env:Env)(H:Heap)(S:bR)(nx:Nat):Prop:=
 Yo (λo=>EY cx.n ops o.guard env (λb=>match b with
  |true=>opE cx o.op env H S nx (λv H' S' nx'=>qO env o.dst v λenv'=>bif u_ i brk then D env' H' S' nx' else mW Hq S0 H' S' (D env' H' S' nx'))
  |false=>qO env o.dst (.c undef) λenv'=>bif u_ i brk then D env' H S nx else mW Hq S0 H S (D env' H S nx))) ops i
def Bp(cx:Cx)(ops:List Oper)(brk:List Nat)(Hq:Heap)(S0:bR)(K:Env->Heap->bR->Nat->Prop):DT->Env->Heap->bR->Nat->Prop
 | .done,env,H,S,nx=>K env H S nx
 | .take i t,env,H,S,nx=>Yo (λo=>EY cx.n ops o.guard env (λb=>match b with
    |true=>opQ cx o.op env Hq S0 (λv=>qO env o.dst v λenv'=>Bp cx ops brk Hq S0 K t env' H S nx)
    |false=>qO env o.dst (.c undef) λenv'=>Bp cx ops brk Hq S0 K t env' H S nx)) ops i
 | .one i t,env,H,S,nx=>abW cx ops brk Hq S0 i (Bp cx ops brk Hq S0 K t) env H S nx
 | .alt i t r,env,H,S,nx=>abW cx ops brk Hq S0 i (Bp cx ops brk Hq S0 K t) env H S nx/\Bp cx ops brk Hq S0 K r env H S nx
variable {B:Base} {ρ:Nat->Loc} {nx:Nat} {w:World}
theorem dO.lift{ρ0:Nat->Loc}{u6:Nat}(h:dO B ρ0 u6 H S w)(hr:∀i,i<u6->ρ i=ρ0 i)(hn:u6<=nx):dO B ρ nx H S w:=by
 obtain⟨R,φ,h⟩:=h;refine⟨R,φ,h.os,h.tape,h.output,h.size,λp hp=>⟨ahd (h.pin p hp).1 hn,(hr _ (h.pin p hp).1).trans (h.pin p hp).2⟩,h.ro,h.qL,λp hp=>⟨ahd (h.key p hp).1 hn,(h.key p hp).2.mono hn⟩,λp hp=> ?_,h.apart,h.sep⟩;rw[hr _ (h.key p hp).1];exact b_.qH (λi hi=>(hr i ((h.key p hp).2 i hi)).symm) (h.jA p hp)
theorem dO.lower{ρ0:Nat->Loc}{u6:Nat}(h:dO B ρ nx H S w)(hr:∀i,i<u6->ρ i=ρ0 i)(hk:∀p∈H,p.1<u6/\p.2.lt u6)(hp:∀p∈B.pin,p.1<u6):dO B ρ0 u6 H S w:=by
 obtain⟨R,φ,h⟩:=h;refine⟨R,φ,h.os,h.tape,h.output,h.size,λp hp'=>⟨hp p hp',(hr _ (hp p hp')).symm.trans (h.pin p hp').2⟩,h.ro,h.qL,hk,λp hp'=> ?_,h.apart,h.sep⟩;rw[<-hr _ (hk p hp').1];exact b_.qH (λi hi=>hr i ((hk p hp').2 i hi)) (h.jA p hp')
theorem dO.sub{H2:Heap}{S2:bR}(h:dO B ρ nx H S w)(hH:H2.Sublist H)(hS:∀R w,S.holds R w->S2.holds R w):dO B ρ nx H2 S2 w:=by
 obtain⟨R,φ,hw⟩:=h;have hw:=hw.drop hH;exact⟨R,φ,⟨hw.os,hw.tape,hw.output,hw.size,hw.pin,hw.ro,hS R w hw.qL,hw.key,hw.jA,hw.apart,hw.sep⟩⟩
section
variable {cx:Cx} (hok:∀p∈cx.tab,lu cx.P p.1=some p.2) {ops:Array Oper} {brk:List Nat} {Hq:Heap} {S0:bR} {K:Env->Heap->bR->Nat->Prop} {ρ0:Nat->Loc} {u6:Nat} {Q:Exit->Act->World->Prop}
 (hsel:Region.noSelect ops=true) (hQ:∀c a a' w,Q (.panic c) a w->Q (.panic c) a' w) (hk:∀p∈Hq,p.1<u6/\p.2.lt u6) (yV:∀p∈cx.B.pin,p.1<u6)
 (hfin:∀ρ' a' env' H' S' nx' w',(∀i,i<u6->ρ' i=ρ0 i)->u6<=nx'->Sat cx.n ρ' nx' env' a'->dO cx.B ρ' nx' H' S' w'->K env' H' S' nx'->Q .normal a' w')
variable {i fuel:Nat} {t:DT} {env:Env} {listed:Array Bool}
include hok hk yV in
theorem M4{D:Env->Heap->bR->Nat->Prop}{a:Act}
 (h:abW cx ops.toList brk Hq S0 i D env H S nx) (hnt:(bif u_ i brk then t.qf else true)=true) (hC:t.qf=true\/dO cx.B ρ0 u6 Hq S0 w) (hs:Sat cx.n ρ nx env a) (hw:dO cx.B ρ nx H S w) (hr:∀i,i<u6->ρ i=ρ0 i) (hn:u6<=nx)
 (ih:∀{env:Env} {H:Heap} {S:bR} {nx:Nat} {ρ:Nat->Loc} {a:Act} {w:World},D env H S nx->(t.qf=true\/dO cx.B ρ0 u6 Hq S0 w)->Sat cx.n ρ nx env a->dO cx.B ρ nx H S w->(∀i,i<u6->ρ i=ρ0 i)->u6<=nx->
   Ak cx.P .any ops Q (λw=>dO cx.B ρ0 u6 Hq S0 w) (λi=>u_ i brk) fuel (listed.setIfInBounds i true) a w):
 wpOp cx.P ops Q i (λa' w'=>(u_ i brk=true\/dO cx.B ρ0 u6 Hq S0 w')/\Ak cx.P .any ops Q (λw=>dO cx.B ρ0 u6 Hq S0 w) (λi=>u_ i brk) fuel (listed.setIfInBounds i true) a' w') a w:=by
 unfold abW at h;obtain⟨o,ho,hh⟩:=FL h;rw[amH]at ho;have hh:=uz hs hh;unfold wpOp;rw[ho];dsimp only;cases hwt:Region.wanted o (yielded ops a.tmps)with
 |true=>
  rw[hwt]at hh;dsimp only at hh;rw[if_pos rfl];refine .inl (RS hok hh hs hw ?_);intro v ρ' H' S' nx' w' h1 h2 h3 h4 h5;rw[lM]at h5;have hr':∀j,j<u6->ρ' j=ρ0 j:=λj hj=>(h1 j (ahd hj hn)).trans (hr j hj);cases hb:u_ i brk with
  |true=>
   rw[hb,cond_true]at h5;rw[hb,cond_true]at hnt;exact⟨.inl rfl,ih h5 (.inl hnt) (hs.put h1 h2 h3) h4 hr' (aiC hn h2)⟩
  |false=>
   rw[hb,cond_false]at h5;rw[Ka]at h5;have hc:dO cx.B ρ0 u6 Hq S0 w':=(h4.sub h5.1.1 h5.1.2).lower hr' hk yV;exact⟨.inr hc,ih h5.2 (.inr hc) (hs.put h1 h2 h3) h4 hr' (aiC hn h2)⟩
 |false=>
  rw[hwt]at hh;dsimp only at hh;rw[if_neg aI];have hp:=hs.put (ρ':=ρ) (nx':=nx) (d:=o.dst) (v:= .c undef) (λ_ _=>rfl) (Tw _) (SV.iW _);rw[lM]at hh;cases hb:u_ i brk with
  |true=>
   rw[hb,cond_true]at hh;rw[hb,cond_true]at hnt;exact⟨.inl rfl,ih hh (.inl hnt) hp hw hr hn⟩
  |false=>
   rw[hb,cond_false]at hh;rw[Ka]at hh;have hc:dO cx.B ρ0 u6 Hq S0 w:=(hw.sub hh.1.1 hh.1.2).lower hr hk yV;exact⟨.inr hc,ih hh.2 (.inr hc) hp hw hr hn⟩
def Shown(cx:Cx)(ops:Array Oper)(brk:List Nat)(Hq:Heap)(S0:bR)(ρ0:Nat->Loc)(u6:Nat)(Q:Exit->Act->World->Prop)(t:DT)(listed:Array Bool)(fuel:Nat)(a:Act)(w:World):Bool->Prop
 |true=>Ak cx.P .any ops Q (λw=>dO cx.B ρ0 u6 Hq S0 w) (λi=>u_ i brk) fuel listed a w
 |false=>∃n,fuel=n+1/\∀i∈t.picks,wpOp cx.P ops Q i (λa' w'=>(u_ i brk=true\/dO cx.B ρ0 u6 Hq S0 w')/\Ak cx.P .any ops Q (λw=>dO cx.B ρ0 u6 Hq S0 w) (λi=>u_ i brk) n (listed.setIfInBounds i true) a' w') a w
theorem Shown.top{t:DT}{listed:Array Bool}{fuel:Nat}{a:Act}{w:World}{top:Bool}(hp:top=true->Region.ready .any ops listed=t.picks/\t.picks≠[])
 (h:Shown cx ops brk Hq S0 ρ0 u6 Q t listed fuel a w false):Shown cx ops brk Hq S0 ρ0 u6 Q t listed fuel a w top:=by
 cases top with
 |false=>exact h
 |true=>
  obtain⟨h1,h2⟩:=hp rfl;obtain⟨n,rfl,h⟩:=h;refine⟨λh0=>absurd (h1.symm.trans h0) h2,?_⟩;rw[h1];exact h
include hok hsel hQ hk yV hfin in
theorem uk:∀{t:DT} {env:Env} {H:Heap} {S:bR} {nx:Nat} {ρ:Nat->Loc} {a:Act} {w:World} {listed:Array Bool} {fuel:Nat} {top:Bool},
 Bp cx ops.toList brk Hq S0 K t env H S nx->t.ok ops brk listed top=true->t.deep fuel=true->(t.qf=true\/dO cx.B ρ0 u6 Hq S0 w)->Sat cx.n ρ nx env a->dO cx.B ρ nx H S w->(∀i,i<u6->ρ i=ρ0 i)->u6<=nx->
 Shown cx ops brk Hq S0 ρ0 u6 Q t listed fuel a w top
 | .done,env,H,S,nx,ρ,a,w,listed,fuel,top,h,hok',_,_,hs,hw,hr,hn=>by
   simp only[DT.ok,List.isEmpty_iff,afF]at hok';obtain⟨rfl,hok'⟩:=hok';have hq:=hfin ρ a env H S nx w hr hn hs hw h;cases fuel with
   |zero=>exact⟨hok',hq⟩
   |succ fuel=>exact⟨λ_=>hq,by rw[hok'];simp⟩
 | .take i t,env,H,S,nx,ρ,a,w,listed,fuel,top,h,hok',hd,hC,hs,hw,hr,hn=>by
   have hC:=hC.resolve_left (by simp[DT.qf]);simp only[DT.ok,afF,akM]at hok';obtain⟨rfl,⟨⟨hf,hrd⟩,hb⟩,hok'⟩:=hok';cases fuel with
   |zero=>simp[DT.deep]at hd
   |succ fuel=>
   simp only[DT.deep]at hd;unfold Bp at h;obtain⟨o,ho,h⟩:=FL h;rw[amH]at ho;have h:=uz hs h;have hmem:∀{j:Nat} {l:List Nat},u_ j l=true->j∈l:=by
    intro j l;induction l with
    |nil=>intro h;simp[u_]at h
    |cons x r ih=>
     intro h;unfold u_ at h;cases hx:Nat.beq x j with
     |true=>have:=ael hx;subst this;simp
     |false=>rw[hx]at h;exact aeg _ (ih h)
   have hmem':∀{j:Nat} {l:List Nat},j∈l->u_ j l=true:=by
    intro j l;induction l with
    |nil=>intro h;cases h
    |cons x r ih=>
     intro h;unfold u_;cases hx:Nat.beq x j with
     |true=>rfl
     |false=>exact ih ((abr.1 h).resolve_left λe=>by rw[e]at hx;simp at hx)
   have aiV:∀(j:Nat) oj x,ops[j]? =some oj->C9 ops j x=true->∃e∈oj.after,Region.binds .any e=true/\e.on=x:=by
    intro j oj x hoj this;unfold C9 at this;rw[hoj]at this;obtain⟨e,he,hb'⟩:=Array.any_eq_true'.1 this;simp only[afF,beq_iff_eq]at hb';exact⟨e,he,hb'.1,hb'.2⟩
   obtain⟨Z,ajy,hZ,hZl⟩:∃Z:Nat->Bool,(∀j oj,ops[j]? =some oj->u_ j brk=true->(∃e∈oj.after,Region.binds .any e=true/\e.on=i)\/Z j=true)/\(∀j oj,ops[j]? =some oj->Z j=true->∃e∈oj.after,Region.binds .any e=true/\(e.on=i\/Z e.on=true))/\(∀j,Z j=true->listed.getD j true=false):=by
    rcases(by simpa[amh]using hb:(∀j∈brk,C9 ops j i=true)\/aj5 ops brk listed i (waiters ops i ops.size [])=true)with hb|hb
    ·exact⟨λ_=>false,λj oj hoj hj=> .inl (aiV j oj i hoj (hb j (hmem hj))),λj oj _ h=>bT,λj h=>bT⟩
    ·obtain⟨L,hL⟩:∃L,L=waiters ops i ops.size []:=⟨_,rfl⟩;rw[<-hL]at hb;unfold aj5 at hb;simp only[afF,akM,aoe]at hb;obtain⟨hb1,hb2⟩:=hb;refine⟨λj=>u_ j L,λj oj hoj hj=> .inr (hb1 j (hmem hj)),λj oj hoj hj=> ?_,λj hj=>(hb2 j (hmem hj)).1⟩;obtain⟨x,hx,hw'⟩:=anK.1 (hb2 j (hmem hj)).2;obtain⟨e,h1,h2,h3⟩:=aiV j oj x hoj hw';refine⟨e,h1,h2,?_⟩;rcases abr.1 hx with hx|hx
     ·exact .inl (h3.trans hx)
     ·exact .inr (by rw[h3];exact hmem' hx)
   have go:∀v:SV,v.lt nx->YieldsIf cx.P ops (λw=>dO cx.B ρ0 u6 Hq S0 w) o (v.rf ρ) a->Bp cx ops.toList brk Hq S0 K t (aaf env o.dst v) H S nx->
    Ak cx.P .any ops Q (λw=>dO cx.B ρ0 u6 Hq S0 w) (λi=>u_ i brk) (fuel+1) listed a w:=by
    intro v hv hy h;exact Uw ho (Region.noSelect_spec hsel) (λc a w hq=>hQ c _ _ w hq) Z ajy hZ fuel listed a w hZl (Region.free_spec ho hf) (by simpa using hrd) hy hC
     (uk (top:=true) h hok' hd (.inr hC) (hs.put (λ_ _=>rfl) (Tw _) hv) hw hr hn)
   cases hwt:Region.wanted o (yielded ops a.tmps)with
   |true=>
    rw[hwt]at h;dsimp only at h;obtain⟨v,h1,h2,h3⟩:=Dv hok hs (hC.lift hr hn) h;rw[lM]at h2;exact go v h1 (.inl ⟨hwt,λw' hw'=>h3 w' (hw'.lift hr hn)⟩) h2
   |false=>
    rw[hwt]at h;dsimp only at h;rw[lM]at h;exact go (.c undef) (SV.iW _) (.inr ⟨hwt,rfl⟩) h
 | .one i t,env,H,S,nx,ρ,a,w,listed,fuel,top,h,hok',hd,hC,hs,hw,hr,hn=>by
   simp only[DT.ok,afF,amh,aoe,beq_iff_eq]at hok';obtain⟨hrd,hok1,hnt⟩:=hok';cases fuel with
   |zero=>simp[DT.deep]at hd
   |succ fuel=>
   simp only[DT.deep]at hd;unfold Bp at h;refine Shown.top (λht=>⟨hrd.resolve_left (by simp[ht]),by simp[DT.picks]⟩) ⟨fuel,rfl,λi' hi'=> ?_⟩;obtain rfl:i'=i:=by simpa[DT.picks]using hi'
   exact M4 hok hk yV h hnt (by simpa only[DT.qf]using hC) hs hw hr hn λg1 g2 g3 g4 g5 g6=>uk (top:=true) g1 hok1 hd g2 g3 g4 g5 g6
 | .alt i t r,env,H,S,nx,ρ,a,w,listed,fuel,top,h,hok',hd,hC,hs,hw,hr,hn=>by
   simp only[DT.ok,afF,amh,aoe,beq_iff_eq]at hok';obtain⟨⟨hrd,hok1,hnt⟩,hok2⟩:=hok';cases fuel with
   |zero=>simp[DT.deep]at hd
   |succ fuel=>
   simp only[DT.deep,afF]at hd;unfold Bp at h;have hC1:t.qf=true\/dO cx.B ρ0 u6 Hq S0 w:=hC.elim (λg=>by simp only[DT.qf,afF]at g;exact .inl g.1) .inr;have hC2:r.qf=true\/dO cx.B ρ0 u6 Hq S0 w:=hC.elim (λg=>by simp only[DT.qf,afF]at g;exact .inl g.2) .inr;refine Shown.top (λht=>⟨hrd.resolve_left (by simp[ht]),by simp[DT.picks]⟩) ⟨fuel,rfl,λi' hi'=> ?_⟩;simp only[DT.picks,abr]at hi';rcases hi' with rfl|hi'
   ·exact M4 hok hk yV h.1 hnt hC1 hs hw hr hn λg1 g2 g3 g4 g5 g6=>uk (top:=true) g1 hok1 hd.1 g2 g3 g4 g5 g6
   ·obtain⟨n,e,hh⟩:=uk (top:=false) h.2 hok2 hd.2 hC2 hs hw hr hn;obtain rfl:fuel=n:=by omega
    exact hh i' hi'
end
variable {id:Nat} {env:Env}
theorem vM{cx:Cx}(hok:∀p∈cx.tab,lu cx.P p.1=some p.2)(hm:cx.P.follows .mixedOrders=true){ops:Array Oper}{K:Env->Heap->bR->Nat->Prop}(brk:List Nat)(Hq:Heap)(t:DT)
 (hsel:Region.noSelect ops=true) (ht:t.ok ops brk (Array.replicate ops.size false) true=true) (hd:t.deep ops.size=true) (hH:Hq.Sublist H) (h:Bp cx ops.toList brk Hq S K t env H S nx):cO cx id ops env H S nx K:=by
 rw[DC,jY];intro ρ a w hs hw;refine wp_region_any hm (Mr (C:=λw=>dO cx.B ρ nx Hq S w) (brk:=λi=>u_ i brk) _ _ _ _ ?_);have hw':=hw.drew;have hkeys:(∀p∈Hq,p.1<nx/\p.2.lt nx)/\∀p∈cx.B.pin,p.1<nx:=by
  obtain⟨R,φ,hw⟩:=hw;exact⟨λp hp=>hw.key p (hH.subset hp),λp hp=>(hw.pin p hp).1⟩
 refine uk (top:=true) (ρ0:=ρ) (u6:=nx) hok hsel ?_ hkeys.1 hkeys.2 ?_ h ht hd (.inr (hw'.sub hH (λ_ _ h=>h))) hs hw' (λ_ _=>rfl) (Tw _)
 ·rintro c a a' w ⟨ρ',env',H',S',nx',_,_,_,_,h6,_⟩;cases h6
 ·intro ρ' a' env' H' S' nx' w' h1 h2 h3 h4 h5;exact⟨ρ',env',H',S',nx',h1,h2,h3,h4,rfl,h5⟩
structure jQ(cx:Cx)(f:FuncId)(args:List SV)(H:Heap)(S:bR)(nx:Nat)(K:SV->Prop):Prop where
 out:(∀as w,(callFunc f as).run cx.P w= .ok (.enter f as) w)/\
 ∃val:Value,(∀ρ w,dO cx.B ρ nx H S w->Calls cx.P f (SV.dW ρ args).toArray w (λe w'=>e= .returned val/\Ext w w'))/\K (.c val)
variable {f:FuncId} {args:List SV}
theorem Jj{cx:Cx}{K:SV->Prop}:jQ cx f args H S nx K=((∀as w,(callFunc f as).run cx.P w= .ok (.enter f as) w)/\
 ∃val:Value,(∀ρ w,dO cx.B ρ nx H S w->Calls cx.P f (SV.dW ρ args).toArray w (λe w'=>e= .returned val/\Ext w w'))/\K (.c val)):=propext ⟨λh=>h.out,λh=>⟨h⟩⟩
theorem jo{cx:Cx}{K:SV->Prop}(hf:∀as w,(callFunc f as).run cx.P w= .ok (.enter f as) w)(val:Value)
 (hc:∀ρ w,dO cx.B ρ nx H S w->Calls cx.P f (SV.dW ρ args).toArray w (λe w'=>e= .returned val/\Ext w w')) (h:K (.c val)):jQ cx f args H S nx K:=by
 rw[Jj];exact⟨hf,val,hc,h⟩
def agM(cx:Cx)(fv:SV)(args:List SV)(H:Heap)(S:bR)(nx:Nat)(K:SV->Prop):Prop:=
 match fv with
 | .c (.func (.func f) a b)=>(match a.toList,b.toList with
   |[],[]=>jQ cx f args H S nx K
   |x,y=>jQ cx f (cs x++args++cs y) H S nx K)
 | .fn (.func f) a b=>jQ cx f (a++args++b) H S nx K
 |_=>False
def yS:Op->Option (Operand×List Operand)
 | .call c=>(match c.callee with| .value f=>some (f,c.args.toList)|_=>none)
 |_=>none
def X4(cx:Cx)(ops:List Oper)(H:Heap)(S:bR)(nx:Nat)(K:Env->Prop):List Oper->Env->Prop
 |[],env=>K env
 |o::r,env=>EY cx.n ops o.guard env (λb=>match b with
  |true=>(match yS o.op with
   |some (f,as)=>xX cx.n env f λfv=>Mx cx.n env (λl=>agM cx fv l H S nx (λv=>qO env o.dst v (X4 cx ops H S nx K r))) as
   |none=>opQ cx o.op env H S (λv=>qO env o.dst v (X4 cx ops H S nx K r)))
  |false=>qO env o.dst (.c undef) (X4 cx ops H S nx K r))
section
variable {cx:Cx} (hok:∀p∈cx.tab,lu cx.P p.1=some p.2)
include hok in
theorem Nn{ops:Array Oper}{ρ:Nat->Loc}{H:Heap}{S:bR}{nx:Nat}{K:Env->Prop}{w0:World}(hw0:dO cx.B ρ nx H S w0):∀{l:List Oper} {env:Env} {a:Act} {Q:Act->Prop},
 X4 cx ops.toList H S nx K l env->Sat cx.n ρ nx env a->(∀env' a',Sat cx.n ρ nx env' a'->K env'->Q a')->wpQuiet cx.P ops (λw=>dO cx.B ρ nx H S w) Q l a
 |[],env,a,Q,h,hs,hq=>hq env a hs h
 |o::r,env,a,Q,h,hs,hq=>by
  unfold X4 at h;have h:=uz hs h;unfold wpQuiet;have rest:∀v:SV,v.lt nx->X4 cx ops.toList H S nx K r (aaf env o.dst v)->wpQuiet cx.P ops (λw=>dO cx.B ρ nx H S w) Q r (a.put o.dst (v.rf ρ)):=λv hv h=>
   Nn hw0 h (hs.put (λ_ _=>rfl) (Tw _) hv) hq
  cases hwt:Region.wanted o (yielded ops a.tmps)with
  |false=>
   rw[hwt]at h;rw[if_neg aI];rw[lM]at h;exact rest (.c undef) (SV.iW _) h
  |true=>
   rw[hwt]at h;dsimp only at h;rw[if_pos rfl];cases hc:yS o.op with
   |none=>
    rw[hc]at h;dsimp only at h;obtain⟨v,h1,h2,h3⟩:=Dv hok hs hw0 h;rw[lM]at h2;refine⟨v.rf ρ,λw hw=> ?_,rest v h1 h2⟩;unfold Oper.quietAt;rw[h3 w hw];exact⟨rfl,rfl⟩
   |some x=>
    obtain⟨f,as⟩:=x;rw[hc]at h;dsimp only at h;obtain⟨dst,op,type,pos,after,guard⟩:=o;cases op with
    |call c=>
     simp only[yS]at hc;cases hcc:c.callee with
     |value f'=>
      rw[hcc]at hc;obtain⟨rfl,rfl⟩:f'=f/\c.args.toList=as:=by simpa using hc
      obtain⟨fv,h1,h2,h3⟩:=dB hs h;obtain⟨l,h4,h5,h6⟩:=oN hs h1;have e1:c.args.map a.eval=(SV.dW ρ l).toArray:=by rw[<-h5];apply al8;simp
      have run:∀(g:FuncId) (x y:Array Value),a.eval f'= .func (.func g) x y->∀w,(execOp a.eval ⟨dst,.call c,type,pos,after,guard⟩).run cx.P w=(callFunc g (x++(SV.dW ρ l).toArray++y)).run cx.P w:=by
       intro g x y hf w;simp only[execOp,resolve,hcc,e1,hf,Deferred.ofValue,Sem.run_bind,Sem.run_pure,Result.andThen_ok,invoke]
      have fin:∀(g:FuncId) (x y:Array Value) (args:List SV),a.eval f'= .func (.func g) x y->x++(SV.dW ρ l).toArray++y=(SV.dW ρ args).toArray->
       jQ cx g args H S nx (λv=>qO env dst v (X4 cx ops.toList H S nx K r))->Oper.quiet cx.P ⟨dst,.call c,type,pos,after,guard⟩ a (λw=>dO cx.B ρ nx H S w) (wpQuiet cx.P ops (λw=>dO cx.B ρ nx H S w) Q r):=by
       intro g x y args hf ha hq';rw[Jj]at hq';obtain⟨g1,val,g2,g3⟩:=hq';rw[lM]at g3;refine⟨val,λw hw=> ?_,rest (.c val) (SV.iW _) g3⟩;unfold Oper.quietAt;rw[run g x y hf w,g1];refine⟨rfl,?_⟩;rw[ha];exact(g2 ρ w hw).mono λe w'' he=>⟨he.1,hw.ext he.2⟩
      unfold agM at h4;split at h4
      ·rename_i g x y;split at h4
       ·rename_i hx hy;have hx':x= #[]:=by cases x;simpa using hx
        have hy':y= #[]:=by cases y;simpa using hy
        exact fin g x y _ kU Bb h4
       ·exact fin g x y _ kU FH h4
      ·rename_i g x y;exact fin g _ _ _ kU ES h4
      ·exact h4.elim
     |invoke r m=>rw[hcc]at hc;cases hc
     |builtin b=>rw[hcc]at hc;cases hc
    |_=>cases hc
end
theorem EI{cx:Cx}(hok:∀p∈cx.tab,lu cx.P p.1=some p.2)(hm:cx.P.follows .mixedOrders=true){ops:Array Oper}{K:Env->Heap->bR->Nat->Prop}
 (hB:Region.lexB .any ops=true) (h:X4 cx ops.toList H S nx (λenv'=>K env' H S nx) ops.toList env):cO cx id ops env H S nx K:=by
 rw[DC,jY];intro ρ a w hs hw;refine wp_region_quiet (C:=λw=>dO cx.B ρ nx H S w) hm hB hw.drew ?_;refine Nn hok hw h hs ?_;intro env' a' hs' hk w' hw';exact⟨ρ,env',H,S,nx,λ_ _=>rfl,Tw _,hs',hw',rfl,hk⟩
theorem mV{cx:Cx}{ops:Array Oper}{K:Env->Heap->bR->Nat->Prop}(brk:List Nat)(Hq:Heap)(t:DT)(h:Bp cx ops.toList brk Hq S K t env H S nx)(h1:∀p∈cx.tab,lu cx.P p.1=some p.2:=by exact bW)(h2:cx.P.follows .mixedOrders=true:=by exact mixed)(h3:Region.noSelect ops=true:=by kernel_rfl)(h4:t.ok ops brk (Array.replicate ops.size false) true=true:=by kernel_rfl)(h5:t.deep ops.size=true:=by kernel_rfl)(h6:Hq.Sublist H:=by exact af7 _):cO cx id ops env H S nx K:=vM h1 h2 brk Hq t h3 h4 h5 h6 h
end
section
variable {k:Nat} {xs:List (List Value)} {w:World}
theorem bf{base:Option Addr}{R:Nat->Prop}(h:(f_ base k xs).holds R w):bE w base k xs:=by
 rcases h.2 with h|⟨b,off,h1,_,h3⟩
 ·exact .inl h
 ·exact .inr ⟨_,h1,λi r hi j v hj=>by rw[fG];exact h3 i r hi j v hj⟩
def alc(v:Value)(k:Nat)(xs:List (List Value)):bR where
 holds R w:=∃base cap,v= .slice base xs.length cap/\(f_ base k xs).holds R w
 stable:=by
  rintro R R' w w' hR hw ⟨base,cap,h1,h2⟩;exact⟨base,cap,h1,(f_ base k xs).stable hR hw h2⟩
mutual
def SV.fz(i:Nat)(l:Loc):SV->SV
 | .c v=> .c v
 | .lp j a k f=>bif Nat.beq j i then .c (.pointer (l.base.map (·.add (a*k+f))))else .lp j a k f
 | .os j n=>bif Nat.beq j i then .c (.slice l.base n l.cap)else .os j n
 | .agg xs=> .agg (SV.fzs i l xs)
 | .xg xs=> .xg (SV.fzs i l xs)
 | .fn f a b=> .fn f (SV.fzs i l a) (SV.fzs i l b)
 | .KN t v=> .KN t (v.fz i l)
def SV.fzs(i:Nat)(l:Loc):List SV->List SV
 |[]=>[]
 |v::r=>v.fz i l::SV.fzs i l r
end
mutual
theorem SV.Ti(i:Nat)(ρ:Nat->Loc):∀v:SV,(v.fz i (ρ i)).rf ρ=v.rf ρ
 | .c _=>rfl
 | .lp j a k f=>by
   simp only[SV.fz];cases h:Nat.beq j i with
   |true=>have:=ael h;subst this;rfl
   |false=>rfl
 | .os j n=>by
   simp only[SV.fz];cases h:Nat.beq j i with
   |true=>have:=ael h;subst this;rfl
   |false=>rfl
 | .agg l=>by simp only[SV.fz,SV.rf];rw[SV.AP i ρ l]
 | .xg l=>by simp only[SV.fz,SV.rf];rw[SV.AP i ρ l]
 | .fn f a b=>by simp only[SV.fz,SV.rf];rw[SV.AP i ρ a,SV.AP i ρ b]
 | .KN t v=>by simp only[SV.fz,SV.rf];rw[SV.Ti i ρ v]
theorem SV.AP(i:Nat)(ρ:Nat->Loc):∀l:List SV,SV.dW ρ (SV.fzs i (ρ i) l)=SV.dW ρ l
 |[]=>rfl
 |v::r=>by simp only[SV.fzs,SV.dW];rw[SV.Ti i ρ v,SV.AP i ρ r]
end
mutual
theorem SV.I6{i x:Nat}{l:Loc}:∀{v:SV},(v.fz i l).has x=true->v.has x=true
 | .c _,h=>h
 | .lp j a k f,h=>by
   simp only[SV.fz]at h;cases hb:Nat.beq j i with
   |true=>rw[hb]at h;simp[SV.has]at h
   |false=>rw[hb]at h;exact h
 | .os j n,h=>by
   simp only[SV.fz]at h;cases hb:Nat.beq j i with
   |true=>rw[hb]at h;simp[SV.has]at h
   |false=>rw[hb]at h;exact h
 | .agg l,h=>by simp only[SV.fz,SV.has]at h|-;exact SV.vJ h
 | .xg l,h=>by simp only[SV.fz,SV.has]at h|-;exact SV.vJ h
 | .fn f a b,h=>by
   simp only[SV.fz,SV.has,amh]at h|-
   exact h.imp SV.vJ SV.vJ
 | .KN t v,h=>by simp only[SV.fz,SV.has]at h|-;exact SV.I6 h
theorem SV.vJ{i x:Nat}{l:Loc}:∀{xs:List SV},SV.hass x (SV.fzs i l xs)=true->SV.hass x xs=true
 |[],h=>h
 |v::r,h=>by
  simp only[SV.fzs,SV.hass,amh]at h|-
  exact h.imp SV.I6 SV.vJ
end
def Env.fz(i:Nat)(l:Loc):Env->Env
 |[]=>[]
 |(t,v)::r=>(t,v.fz i l)::Env.fz i l r
theorem Env.Al{i:Nat}{l:Loc}:∀{env:Env} {t:Nat} {v:SV},(env.fz i l).get t=some v->∃u,env.get t=some u/\v=u.fz i l
 |[],t,v,h=>by cases h
 |(j,u)::r,t,v,h=>by
  simp only[Env.fz,Env.yL]at h|-
  by_cases hj:j=t
  ·rw[if_pos hj]at h|-;exact⟨u,rfl,by simpa using h.symm⟩
  ·rw[if_neg hj]at h|-;exact Env.Al h
def b_.fz(i:Nat)(l:Loc):b_->b_
 | .box cs T=> .box (SV.fzs i l cs) T
 |e=>e
def Heap.fz(i:Nat)(l:Loc):Heap->Heap
 |[]=>[]
 |(j,e)::r=>(j,e.fz i l)::Heap.fz i l r
theorem Heap.vg(i:Nat)(l:Loc)(H:Heap):Heap.fz i l H=H.map λp=>(p.1,p.2.fz i l):=by
 induction H with
 |nil=>rfl
 |cons p r ih=>obtain⟨j,e⟩:=p;simp[Heap.fz,ih]
variable {cx:Cx} {H:Heap} {S:bR} {nx:Nat} {T:TypeId}
theorem Wp.freeze{c:Code}{env:Env}{K:Exit->Env->Heap->bR->Nat->Prop}(i:Nat)(he:(i,b_.rows xs k T)∈H)
 (h:∀l:Loc,xs.length<=l.cap->Wp cx c (env.fz i l) (Heap.fz i l (sM i H)) (S.and (f_ l.base k xs)) nx K):Wp cx c env H S nx K:=by
 simp only[jY]at*;intro ρ a w hs hw;obtain⟨R,φ,hw⟩:=hw;have hent:=hw.jA _ he;obtain⟨hr,hcap,yB⟩:=hent;have hdel:∀p∈sM i H,p.1≠i/\∀b,φ p.1 b->¬φ i b:=by
  have:∀{H:Heap},H.Pairwise (λp q=>p.1≠q.1/\∀b,φ p.1 b->¬φ q.1 b)->∀{e:b_},(i,e)∈H->∀p∈sM i H,p.1≠i/\∀b,φ p.1 b->¬φ i b:=by
   intro H hsep;induction H with
   |nil=>intro e he;cases he
   |cons q r ih=>
    obtain⟨hq,hr⟩:=aiN.1 hsep;intro e he p hp;obtain⟨qi,qe⟩:=q;unfold sM at hp;cases hbq:Nat.beq qi i with
    |true=>
     rw[hbq,cond_true]at hp;have:=ael hbq;subst this;exact⟨(hq p hp).1.symm,λb hb hb'=>(hq p hp).2 b hb' hb⟩
    |false=>
     rw[hbq,cond_false]at hp;have hne:=akz hbq;have her:(i,e)∈r:=(abr.1 he).resolve_left (λg=>hne wB);rcases abr.1 hp with g|g
     ·subst g;exact⟨hne,(hq _ her).2⟩
     ·exact ih hr her p g
  exact this hw.sep he
 refine h (ρ i) hcap ρ a w ⟨hs.defers,hs.size,λt v hv ht=> ?_,λt v hv=> ?_⟩ ?_
 ·obtain⟨u,hu,rfl⟩:=Env.Al hv;rw[hs.val t u hu ht,SV.Ti]
 ·obtain⟨u,hu,rfl⟩:=Env.Al hv;exactλx hx=>hs.lt t u hu x (SV.I6 hx)
 ·have hsub:=hw.drop (mH i H);refine⟨λb=>R b\/φ i b,φ,hw.os,hw.tape,hw.output,hw.size,hw.pin,λb hb=>hb.elim (hw.ro b) (λhb=>b_.size (hw.jA _ he) hb),⟨S.stable (λ_ h=> .inl h) (λ_ _=>rfl) hw.qL,?_⟩,?_,?_,?_,?_⟩
  ·refine⟨hr,?_⟩;rcases yB with⟨h1,h2,_⟩|⟨b,off,c',h1,h2,h3,h4,h5⟩
   ·simp only at hcap h2;exact .inl (ahV aa)
   ·exact .inr ⟨b,off,h1,.inr ((h2 b).2 rfl),λm r hm j v hj=>by have:=h5 m r hm j v hj;rw[<-alF];simpa[World.cell?,h3]using this⟩
  ·rw[Heap.vg];intro p hp;obtain⟨q,hq,rfl⟩:=abl.1 hp;refine⟨(hsub.key q hq).1,λx hx=> ?_⟩;cases hqe:q.2 with
   |box cs T=>
    rw[hqe]at hx;have:=(hsub.key q hq).2;rw[hqe]at this;exact this x (SV.vJ hx)
   |rows xs k T=>rw[hqe]at hx;simp[b_.fz,b_.hass]at hx
   |ext o=>rw[hqe]at hx;simp[b_.fz,b_.hass]at hx
  ·rw[Heap.vg];intro p hp;obtain⟨q,hq,rfl⟩:=abl.1 hp;have:=hsub.jA q hq;dsimp only;cases hqe:q.2 with
   |box cs T=>
    rw[hqe]at this;obtain⟨b,h1,h2,h3⟩:=this;exact⟨b,h1,h2,by rw[SV.AP];exact h3⟩
   |rows xs k T=>rw[hqe]at this;exact this
   |ext o=>rw[hqe]at this;exact this
  ·rw[Heap.vg];intro p hp b hb hb';obtain⟨q,hq,rfl⟩:=abl.1 hp;exact hb'.elim (hsub.apart q hq b hb) ((hdel q hq).2 b hb)
  ·rw[Heap.vg];exact aj3.2 hsub.sep
def je(w w':World)(v:Value)(k:Nat)(T:TypeId)(xs:List (List Value)):Prop:=
 ∃l:Loc,v= .slice l.base xs.length l.cap/\∃F:Nat->Prop,(∀b,F b->w.heap.size<=b)/\(b_.rows xs k T).holds (λ_=>l) l F w'
variable {i:Nat}
theorem fI{B:Base}{ρ:Nat->Loc}(h:dO B ρ nx H S w)(hS:∀R w',S.holds R w'->(aU B.w0).holds R w')(he:(i,b_.rows xs k T)∈H):
 je B.w0 w ((SV.os i xs.length).rf ρ) k T xs:=by
 obtain⟨R,φ,h⟩:=h;have hb:=hS R w h.qL;refine⟨ρ i,rfl,φ i,λb hbb=> ?_,h.jA _ he⟩;rcases ack b B.w0.heap.size with hl|hl
 ·exact absurd (hb b hl).1 (h.apart _ he b hbb)
 ·exact hl
theorem jy{f:FuncId}{args:List SV}{K:SV->Heap->bR->Nat->Prop}(hf:∀as w,(callFunc f as).run cx.P w= .ok (.enter f as) w)(k:Nat)(T:TypeId){α:Type}(xs:α->List (List Value))(p:α->Prop)
 (hc:∀ρ w,dO cx.B ρ nx H S w->Calls cx.P f (SV.dW ρ args).toArray w (λe w'=>∃x,p x/\∃v,e= .returned v/\Ext w w'/\je w w' v k T (xs x)))
 (h:∀x,p x->K (.os nx (xs x).length) ((nx,.rows (xs x) k T)::H) S (nx+1)):aJ cx f args H S nx K:=by
 rw[fZ];refine⟨hf,λρ w hw=>(hc ρ w hw).mono ?_⟩;rintro e w' ⟨x,hp,v,rfl,he,l,rfl,F,hF,hent⟩;have hw':=hw.ext he;obtain⟨R,φ,lF⟩:=hw;have uY:=lF.step (Step.I8 he) (λ_ _ h=>h) (λ_ _ _ _ h=>h);refine⟨.os nx (xs x).length,upd ρ nx l,_,S,nx+1,by simp[SV.rf,upd_same],λi hi=>mI hi,amN _,SV.yP aa,?_,h x hp⟩;refine⟨R,_,uY.add (F:=F) (λy hy=>by simp[b_.hass]at hy) hent (λb hb hR=> ?_) (λp hp b hb hb'=> ?_)⟩
 ·have:=lF.ro b hR;have:=hF b hb;omega
 ·have:=b_.size (lF.jA p hp) hb;have:=hF b hb';omega
end
def aZ(xs:List Int):List (List Value):=xs.map λx=>[.int .i64 x]
theorem aP(xs:List Int):(aZ xs).length=xs.length:=by simp[aZ]
theorem eO{xs:List Int}{k:Nat}(h:k<xs.length):(aZ xs)[k]? =some [.int .i64 xs[k]]:=by simp[aZ,h]
theorem kJ{xs:List Int}:∀r∈aZ xs,r.length=1/\∀v∈r,v.oneCell'=true:=by
 intro r hr;simp only[aZ,abl]at hr;obtain⟨x,_,rfl⟩:=hr;exact⟨rfl,λv hv=>by simp at hv;subst hv;rfl⟩
theorem iA{w:World}{a:Addr}{v:Value}(h:w.cell? a=some v):a.block<w.heap.size:=by
 unfold World.cell? at h;split at h
 ·rename_i c _ _ hb;exact iT hb
 ·cases h
theorem jE{w w':World}{a:Addr}(h:w'.heap[a.block]? =w.heap[a.block]?):w'.cell? a=w.cell? a:=by
 unfold World.cell?;rw[h]
theorem aH{w w':World}{R:Nat->Prop}{base:Option Addr}{k:Nat}{xs:List (List Value)}(hb:(aU w).holds R w')(h:bE w base k xs):bE w' base k xs:=by
 rcases h with h|⟨a,ha,h⟩
 ·exact .inl h
 ·refine .inr ⟨a,ha,λi r hi j v hj=> ?_⟩;have:=h i r hi j v hj;rw[jE (hb _ (iA this)).2];exact this
section
variable {cx:Cx} {f:FuncId} {args:List SV} {H:Heap} {S:bR} {nx:Nat}
theorem jR{K:SV->Heap->bR->Nat->Prop}(hf:∀as w,(callFunc f as).run cx.P w= .ok (.enter f as) w)(b:Bool)
 (hc:∀ρ w,dO cx.B ρ nx H S w->Calls cx.P f (SV.dW ρ args).toArray w (λe w'=>e= .returned (.bool b)/\Ext w w')) (h1:b=true->K (.c (.bool true)) H S nx) (h2:b=false->K (.c (.bool false)) H S nx):aJ cx f args H S nx K:=by
 cases b with
 |true=>exact aR hf _ hc (h1 rfl)
 |false=>exact aR hf _ hc (h2 rfl)
variable {K:SV->Prop}
theorem sS(hf:∀as w,(callFunc f as).run cx.P w= .ok (.enter f as) w)(b:Bool)
 (hc:∀ρ w,dO cx.B ρ nx H S w->Calls cx.P f (SV.dW ρ args).toArray w (λe w'=>e= .returned (.bool b)/\Ext w w')) (h1:b=true->K (.c (.bool true))) (h2:b=false->K (.c (.bool false))):jQ cx f args H S nx K:=by
 cases b with
 |true=>exact jo hf _ hc (h1 rfl)
 |false=>exact jo hf _ hc (h2 rfl)
theorem ji{P:Program}{t:TypeId}{ti:TI}(h:lu P t=some ti)(hk:ti.ai=1){ox oy:Operand}{base:Option Addr}{len cap:Nat}(hK:K (.c (.bool base.isNone))):
 mi P (do eqGuard .eql t ox oy (.slice base len cap) (.slice none 0 0);binOp .eql t (.slice base len cap) (.slice none 0 0)) K:=by
 rw[yR];obtain⟨i,d,z,hi,hd,hz,rfl⟩:=eD h;simp only at hk;have hs:∃e,d= .slice e:=by cases d<;>first|exact⟨_,rfl⟩|(simp[kindOf]at hk)
 obtain⟨e,rfl⟩:=hs;refine⟨.bool base.isNone,λw=> ?_,hK⟩;have h1:(eqGuard .eql t ox oy (.slice base len cap) (.slice none 0 0)).run P w= .ok () w:=by unfold eqGuard;simp
 have h2:(Op.equal t (.slice base len cap) (.slice none 0 0)).run P w= .ok base.isNone w:=by
  unfold Op.equal;rw[show Op.maxDepth=Nat.succ 9999 from rfl];unfold Op.equalIn;simp only[Sem.run_bind,run_underlying hd,Result.andThen_ok];cases base<;>rfl
 simp only[Sem.run_bind,h1,Result.andThen_ok,binOp,h2,Sem.run_pure]
variable {w:World} {k:Nat} {T:TypeId} {xs:List (List Value)}
theorem ig{w':World}{v:Value}(h:je w w' v k T xs):(alc v k xs).holds (λb=>w.heap.size<=b/\b<w'.heap.size) w':=by
 obtain⟨l,rfl,F,hF,hr,hcap,hent⟩:=h;refine⟨l.base,l.cap,rfl,hr,?_⟩;rcases hent with⟨h1,h2,_⟩|⟨b,off,c,h1,h2,h3,h4,h5⟩
 ·exact .inl (ahV aa)
 ·refine .inr ⟨b,off,h1,⟨hF b ((h2 b).2 rfl),iT h3⟩,λi r hi j v hj=> ?_⟩;have:=h5 i r hi j v hj;rw[<-alF];simpa[World.cell?,h3]using this
theorem bR.mono(S:bR){R R':Nat->Prop}(h:S.holds R w)(hR:∀b,R b->R' b):S.holds R' w:=S.stable hR (λ_ _=>rfl) h
variable {B:Base} {ρ:Nat->Loc}
theorem eZ{i:Nat}(h:dO B ρ nx H S w)(he:(i,b_.rows xs k T)∈H):bE w (ρ i).base k xs:=by
 obtain⟨R,φ,h⟩:=h;obtain⟨hr,hcap,hent⟩:=h.jA _ he;simp only at hcap hent;rcases hent with⟨h1,h2,_⟩|⟨b,off,c,h1,h2,h3,h4,h5⟩
 ·exact .inl (ahV aa)
 ·refine .inr ⟨_,h1,λm r hm j v hj=> ?_⟩;have:=h5 m r hm j v hj;rw[fG,<-alF];simpa[World.cell?,h3]using this
theorem ae{p:Prop}(h:dO B ρ nx H S w)(hp:∀R,S.holds R w->p):p:=by
 obtain⟨R,φ,h⟩:=h;exact hp R h.qL
end
open Go.ChangeShapes Go.WideShapes Go.Deep
section
section
variable {P:Program} {w:World}
structure H9(P:Program)(w:World)(t:TypeId)(Q:List Value->Prop):Prop where
 out:∀{H:Type} (enc:TypeId×Value->H) (base:Nat) (sp:Nat->Bool) (held:Bool) (n:Nat) (cs:List Value) (x:DataW H×List MemPlace),DataW.trod enc P w base sp held n t cs=some x->Q cs
variable {t:TypeId}
theorem H9.mono{Q Q':List Value->Prop}(h:H9 P w t Q)(hq:∀cs,Q cs->Q' cs):H9 P w t Q':=
 ⟨λenc base sp held n cs x hx=>hq cs (h.out enc base sp held n cs x hx)⟩
variable {k:IntKind}
theorem Kh(ht:P.underlying t=some (.int k)):H9 P w t λcs=>∃i,(Lit.int k i).wf=true/\cs=[.int k i]:=by
 constructor;intro H enc base sp held n cs x h;obtain⟨i,h1,_,h2⟩:=DataW.trod_int ht h;exact⟨i,h2,h1⟩
def akd(w:World)(k:Nat)(Q:List Value->Prop)(cs:List Value):Prop:=
 ∃(base:Option Addr) (cap:Nat) (xs:List (List Value)),cs=[.slice base xs.length cap]/\bE w base k xs/\(∀r∈xs,r.length=k/\Q r)/\xs.length<=cap/\cap<=maxLen/\(base=none->cap=0)
theorem N_{w:World}{base:Nat}{a:Addr}{n:Nat}{cs:List Value}(h:w.cells? base a n=some cs):cs.length=n/\∀j v,cs[j]? =some v->w.cell? (a.add j)=some v:=by
 obtain⟨_,hl,hc⟩:=World.cells?_some h;refine⟨hl,λj v hv=> ?_⟩;have hj:j<n:=by rw[<-hl];exact(abH.1 hv).1
 rw[<-hv];exact hc j hj
theorem Vw{e:TypeId}{k:Nat}{Q:List Value->Prop}(ht:P.underlying t=some (.slice e))(hc:P.cellsOf e=k)(he:H9 P w e Q):H9 P w t (akd w k Q):=by
 constructor;intro H enc base sp held n cs x h;rcases open_slice ht h with⟨rfl,_⟩|⟨a,len,cap,m,n',D,Pl,rfl,_,hl,hm,hmm,_,hx⟩
 ·exact⟨none,0,[],rfl,.inl rfl,λr hr=>by simp at hr,Tw _,aae _,λ_=>rfl⟩
 ·have hlm:len<=m:=by rw[hmm];split<;>omega
  obtain⟨f,hf⟩:=choose_lt (α:=List Value) (n:=len) (p:=λi r=>w.cells? base (a.add (i*k)) k=some r/\Q r) (λi hi=>by
   obtain⟨cs',h1,h2⟩:=hx i aa;rw[hc]at h1;exact⟨cs',h1,he.out enc base sp held n' cs' _ h2⟩)
  refine⟨some a,cap,(List.range len).map f,by simp,.inr ⟨a,rfl,λi r hr j v hv=> ?_⟩,λr hr=> ?_,by simpa using hl,hm,λh0=>by cases h0⟩
  ·have hi:i<len:=by have:=(abH.1 hr).1;simpa using this
   rw[ab5,am7 hi]at hr;simp only[amk,Option.some.injEq]at hr;subst hr;have:=(N_ (hf i hi).1).2 j v hv
   rwa[Deep.add_add]at this
  ·simp only[abl,ahe]at hr;obtain⟨i,hi,rfl⟩:=hr;exact⟨(N_ (hf i hi).1).1,(hf i hi).2⟩
theorem Kz{α:Type}{f:α->List Value}{p:α->Prop}:∀{xs:List (List Value)},(∀r∈xs,∃a,p a/\r=f a)->∃l:List α,xs=l.map f/\∀a∈l,p a
 |[],_=>⟨[],rfl,λ_ h=>by simp at h⟩
 |r::xs,h=>by
  obtain⟨a,ha,rfl⟩:=h r aI;obtain⟨l,rfl,hl⟩:=Kz (xs:=xs) λr hr=>h r (by simp[hr]);exact⟨a::l,rfl,λb hb=>by rcases abr.1 hb with rfl|hb;exact ha;exact hl b hb⟩
variable {v:Value} {r:Reach} {b0:Nat}
theorem KO{b:Option Addr}{l c:Nat}{e:TypeId}(ht:P.underlying t=some (.slice e))(hv:Value.okWide P w r b0 t v)(h:v.cells.toList=[.slice b l c]):v= .slice b l c:=by
 obtain⟨a,l',c',rfl⟩:=okWide_slice ht hv;simpa[Value.cells]using h
theorem Sy{i:Int}(ht:P.underlying t=some (.int k))(hv:Value.okWide P w r b0 t v)(h:v.cells.toList=[.int k i]):v= .int k i:=by
 obtain⟨n,rfl⟩:=okWide_int ht hv;simpa[Value.cells]using h
end
section
variable {H:Type} {enc:TypeId×Value->H} {P:Program}
theorem Ej(hl:laidOutB P=true){W W':World}(hE:Ext W W'){sp:Nat->Bool}:∀(ts:List TypeId) (vs:List Value) (ds:List (DataW H)) (ps:List MemPlace),
 (∀t∈ts,P.readableRec t=true/\t<P.types.size)->DataW.TrodAll enc P W 0 (λ_=>true) true ts vs ds ps->(∀p∈ps,p.block<W.heap.size)->(∀p∈ps,sp p.block=true)->DataW.TrodAll enc P W' 0 sp true ts vs ds ps
 |[],[],[],ps,_,h,_,_=>h
 |t::ts,v::vs,d::ds,ps,ht,h,hlt,hs=>by
  obtain⟨p,q,h1,h2,rfl⟩:=h;refine⟨p,q,?_,Ej hl hE ts vs ds q (λu hu=>ht u (by simp[hu])) h2 (λx hx=>hlt x (by simp[hx])) (λx hx=>hs x (by simp[hx])),rfl⟩;exact WideElems.Trod_stays hl (ht t aI).1 (ht t aI).2 h1 (λx hx=>hE.same (hlt x (by simp[hx]))) (λx hx=>hs x (by simp[hx]))
 |[],_::_,_,_,_,h,_,_=>by simp[DataW.TrodAll]at h
 |[],[],_::_,_,_,h,_,_=>by simp[DataW.TrodAll]at h
 |_::_,[],_,_,_,h,_,_=>by simp[DataW.TrodAll]at h
 |_::_,_::_,[],_,_,h,_,_=>by simp[DataW.TrodAll]at h
variable {f:Func} {s:ChangeSpec} {apart fresh handsOn again:Bool} {W W':World} {args:Array Value} {ds gs:List (DataW H)} {before:List MemPlace} {t:TypeId}
theorem agn
 (hl:laidOutB P=true) (hr:(f.params.toList.all λt=>P.readableRec t&&decide (t<P.types.size))=true) (hvars:s.vars=[]) (hres:f.resultTypes= #[t]) (ht:P.underlying t=some .bool)
 (hfn:s.fn H ds={results:=[.lit (.bool true)],args:=ds})
 (hW:DataW.Whole enc P f.params.toList s.vars apart W args.toList ds gs before) (hE:Ext W W'):s.post enc P f apart fresh handsOn again W args (.bool true) W':=by
 have hlt:=hW.lt;obtain⟨p,q,hA,hV,hpq,_⟩:=id hW;rw[hvars]at hV;obtain⟨rfl,rfl⟩:=trodVars_none hV;have hfn':s.fn H (ds++[])={results:=[.lit (.bool true)],args:=ds}:=by rw[ajM];exact hfn
 have hall:∀t∈f.params.toList,P.readableRec t=true/\t<P.types.size:=λt ht=>by simpa using akM.1 hr t ht
 rw[ajM]at hpq;subst hpq;have hres':∀b sp hd,DataW.TrodAll enc P W' b sp hd f.resultTypes.toList ((Value.bool true).resultList f.resultTypes.size) (s.fn H (ds++[])).results []:=by
  intro b sp hd;rw[hfn',hres];exact trodAll_mk1 (shut_bool ht _)
 have hargs:∀sp:Nat->Bool,(∀x∈before,sp x.block=true)->DataW.TrodAll enc P W' 0 sp true f.params.toList args.toList (s.fn H (ds++[])).args before:=by
  intro sp hsp;rw[hfn'];exact Ej hl hE _ _ _ _ hall hA hlt hsp
 have hvs:∀sp:Nat->Bool,DataW.TrodVars enc P W' sp s.vars (s.fn H (ds++[])).vars []:=by
  intro sp;rw[hfn',hvars]
  rfl
 refine⟨ds,[],before,[],before,[],hW,hres' _ _ _,hargs _ (λx hx=>by simpa using hlt x hx),hvs _,hE.frame _,λ_=> ?_⟩;refine⟨ok_one hres rfl (okWide_bool_mk ht _),_,_,([]++before)++[],⟨[]++before,[],trodAll_append (hargs _ (λ_ _=>rfl)) (hres' _ _ _),hvs _,rfl,?_,?_⟩,?_⟩
 ·intro b off hp;obtain⟨_,_,_,_,_,hz,_⟩:=hW;have hp':MemPlace.cell b off∈before:=by simpa using hp
  rw[hE.frozen (hlt _ hp')];exact hz b off hp'
 ·intro ha;obtain⟨_,_,_,_,_,_,hn⟩:=hW;simpa using hn ha
 ·intro p hp _;simpa using hp
theorem Vp{n:FuncId}
 (hl:laidOutB P=true) (hr:(f.params.toList.all λt=>P.readableRec t&&decide (t<P.types.size))=true) (hvars:s.vars=[]) (hres:f.resultTypes= #[t]) (ht:P.underlying t=some .bool)
 (hfn:s.fn H ds={results:=[.lit (.bool true)],args:=ds})
 (hW:DataW.Whole enc P f.params.toList s.vars apart W args.toList ds gs before)
 (hc:Calls P n args W λe W'=>e= .returned (.bool true)/\Ext W W'):
 Calls P n args W λe W'=>∃v,e= .returned v/\s.post enc P f apart fresh handsOn again W args v W':=
 hc.mono λ_ _ ⟨he,hE⟩=>⟨_,he,agn hl hr hvars hres ht hfn hW hE⟩
end
end
end Go.SX

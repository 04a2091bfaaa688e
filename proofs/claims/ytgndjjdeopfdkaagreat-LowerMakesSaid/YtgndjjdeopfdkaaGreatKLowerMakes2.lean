import Derived.Deep.LoopGhost
import Derived.OrdersHeld
import Derived.Test.YtgndjjdeopfdkaaGreatKLowerMakes1
/- texts SxM SxV of the proof of LowerMakesSaid -/
set_option maxHeartbeats 16000000
set_option maxRecDepth 20000
set_option linter.unusedVariables false
set_option linter.unusedSimpArgs false
namespace Go.SX
open Go.RowKit
section
structure vO(m n:Nat)(K:Prop):Prop where
 out:m<=n/\K
variable {m:Nat} {K:Prop}
theorem IL{n:Nat}:vO m n K=(m<=n/\K):=propext ⟨λh=>h.out,λh=>⟨h⟩⟩
structure gP(n bytes:Nat)(K:Prop):Prop where
 out:n*bytes<=140737488355328/\K
theorem Bj{n bytes:Nat}:gP n bytes K=(n*bytes<=140737488355328/\K):=propext ⟨λh=>h.out,λh=>⟨h⟩⟩
structure uA(a:Addr)(m size:Nat)(S:bN)(K:List (List Value)->Prop):Prop where
 out:∃ys:List (List Value),ys.length=m/\(∀r∈ys,r.length=size/\∀v∈r,v.oneCell'=true)/\
  (∀R w,S.holds R w->∀i r,ys[i]? =some r->∀j v,r[j]? =some v->w.cell? (a.add (i*size+j))=some v)/\K ys
variable {size:Nat} {S:bN}
theorem Gp{a:Addr}{K:List (List Value)->Prop}:uA a m size S K=(∃ys:List (List Value),ys.length=m/\(∀r∈ys,r.length=size/\∀v∈r,v.oneCell'=true)/\
 (∀R w,S.holds R w->∀i r,ys[i]? =some r->∀j v,r[j]? =some v->w.cell? (a.add (i*size+j))=some v)/\K ys):=propext ⟨λh=>h.out,λh=>⟨h⟩⟩
def agD(size:Nat)(x:SV)(H:Heap)(S:bN)(K:List (List Value)->Prop):Prop:=
 match x with
 | .os j m=>Ac j (λe=>match e with| .rows ys k _=>bif Nat.beq k size then vO m ys.length (K (ys.take m))else False|_=>False) H
 | .c (.slice none 0 _)=>K []
 | .c (.slice (some a) m _)=>uA a m size S K
 |_=>False
variable {B:Base} {ρ:Nat->Loc} {nx:Nat} {H:Heap}
theorem Ot{P:Program}{x:SV}{K:List (List Value)->Prop}{w0:World}(hw0:eD B ρ nx H S w0)(h:agD size x H S K):
 ∃ys xb xc,K ys/\x.rf ρ= .slice xb ys.length xc/\(∀r∈ys,r.length=size/\∀v∈r,v.oneCell'=true)/\
  ∀w,eD B ρ nx H S w->(Builtin.firstCells size ys.length (.slice xb ys.length xc)).run P w= .ok ys.flatten.toArray w:=by
 match x,h with
 | .os j m,g=>
   obtain⟨e,he,g1⟩:=l8 g
   cases e with
   |rows ys k T=>
    dsimp only at g1
    cases hk:Nat.beq k size with
    |false=>rw[hk]at g1;exact g1.elim
    |true=>
    rw[hk,cond_true]at g1
    obtain rfl:=Nat.eq_of_beq_eq_true hk
    rw[IL]at g1
    obtain⟨hm,g2⟩:=g1
    have hlen:(ys.take m).length=m:=by simp;omega
    have hrow:∀r∈ys.take m,r.length=k/\∀v∈r,v.oneCell'=true:=by
     obtain⟨R,φ,hw0⟩:=hw0
     obtain⟨hl,_,_⟩:=hw0.kV _ he
     exactλr hr=>hl r (List.mem_of_mem_take hr)
    refine⟨ys.take m,(ρ j).base,(ρ j).cap,g2,by simp only[SV.rf,hlen],hrow,λw hw=> ?_⟩
    obtain⟨R,φ,hw⟩:=hw
    obtain⟨hl,hcap,hent⟩:=hw.kV _ he
    simp only at hcap hent
    rcases hent with⟨hb,hc0,_⟩|⟨b,off,c,hb1,hb2,hb3,hb4,hb5⟩
    ·have h0:ys.length=0:=by omega
     have:ys=[]:=List.eq_nil_of_length_eq_zero h0
     subst this
     simp only[hb,List.take_nil,List.flatten_nil]
     exact run_firstCells_none _ _ _ _ _
    ·rw[hb1]
     have hkk:∀r∈ys.take m,r.length=k:=λr hr=>(hrow r hr).1
     refine run_firstCells_some (P:=P) w k _ _ _ _ _ (j4 hkk) λp v hp=> ?_
     rw[iA]
     have:=BN hkk (Ab hb5) hp
     simpa[World.cell?,hb3]using this
   |_=>exact g1.elim
 | .c (.slice none 0 xc),h=>exact⟨[],none,xc,h,rfl,by simp,λw _=>run_firstCells_none _ _ _ _ _⟩
 | .c (.slice (some a) m xc),h=>
   have h:uA a m size S K:=by
    simp only[agD]at h;exact h
   rw[Gp]at h
   obtain⟨ys,h1,h2,h3,h4⟩:=h
   subst h1
   refine⟨ys,some a,xc,h4,rfl,h2,λw hw=> ?_⟩
   obtain⟨R,φ,hw⟩:=hw
   have hkk:∀r∈ys,r.length=size:=λr hr=>(h2 r hr).1
   refine run_firstCells_some (P:=P) w size _ _ _ _ _ (j4 hkk) λp v hp=> ?_
   obtain⟨i,j,r,g1,g2,rfl⟩:=Af hkk hp
   exact h3 R w hw.tq i r g1 j v g2
structure apK(P Q:Prop):Prop where
 out:P\/Q
theorem Ju{P Q:Prop}(h:P):apK P Q:=⟨.inl h⟩
structure apQ(cx:Cx)(sT xT:TypeId)(size:Nat)(sv:Value)(ys:List (List Value))(H:Heap)(S:bN)(nx:Nat)(K:SV->Heap->Prop):Prop where
 out:∀ρ w xb xc ty,eD cx.B ρ nx H S w->(∀r∈ys,r.length=size/\∀v∈r,v.oneCell'=true)->(∀u,eD cx.B ρ nx H S u->(Builtin.firstCells size ys.length (.slice xb ys.length xc)).run cx.P u= .ok ys.flatten.toArray u)->
  ∃v ρ' H' w',(Builtin.append_ #[sT,xT] ty #[sv,.slice xb ys.length xc]).run cx.P w= .ok (v.rf ρ') w'/\(∀i,i<nx->ρ' i=ρ i)/\v.lt (nx+1)/\eD cx.B ρ' (nx+1) H' S w'/\K v H'
def Q4(cx:Cx)(ts:List TypeId)(args:List SV)(H:Heap)(S:bN)(nx:Nat)(K:SV->Heap->Prop):Prop:=
 match ts,args with
 |sT::xT::_,s::x::_=>
  rD sT (λti=>rD xT (λtx=>bif Nat.beq ti.ak 1&&Nat.beq tx.ak 1 then rD ti.elem (λte=>bif Nat.beq te.bytes 0|| !Nat.beq te.zero.length te.size then False else
   agD te.size x H S (λys=>
    match s with
    | .os i len=>Ac i (λe=>match e with
       | .rows xs k T=>bif Nat.beq k te.size&&Nat.beq T ti.elem then vO len xs.length (gP (len+ys.length) te.bytes
          (ZH i (λH'=>K (.os nx (len+ys.length)) ((nx,.rows (xs.take len++ys) k T)::H')) H))else False
       |_=>False) H
    | .c (.slice none 0 0)=>gP ys.length te.bytes (K (.os nx ys.length) ((nx,.rows ys te.size ti.elem)::H))
    | .c (.slice (some a) len cap)=>apK (agD te.size (.c (.slice (some a) len cap)) H S (λxs=>vO (cap+1) (len+ys.length) (gP (len+ys.length) te.bytes
       (K (.os nx (len+ys.length)) ((nx,.rows (xs++ys) te.size ti.elem)::H))))) (apQ cx sT xT te.size (.slice (some a) len cap) ys H S nx K)
    |_=>False)) cx.tab else False) cx.tab) cx.tab
 |_,_=>False
variable {w:World}
theorem eD.replace{w':World}{i:Nat}{e e':bZ}{l:Loc}(h:eD B ρ nx H S w)(hi:(i,e)∈H)(hlt:e'.lt nx)
 (hst:∀F,e.holds ρ (ρ i) F w->Step F w w'/\e'.holds ρ l F w'):eD B (upd ρ nx l) (nx+1) ((nx,e')::wC i H) S w':=by
 obtain⟨R,φ,h⟩:=h
 obtain⟨hs,he'⟩:=hst (φ i) (h.kV _ hi)
 have hR:∀b,R b->¬φ i b:=λb hb hb'=>h.apart _ hi b hb' hb
 have hdel:∀p∈wC i H,∀b,φ p.1 b->¬φ i b:=by
  have:∀{H:Heap},H.Pairwise (λp q=>p.1≠q.1/\∀b,φ p.1 b->¬φ q.1 b)->∀{e:bZ},(i,e)∈H->∀p∈wC i H,∀b,φ p.1 b->¬φ i b:=by
   intro H hsep
   induction H with
   |nil=>intro e he;cases he
   |cons q r ih=>
    obtain⟨hq,hr⟩:=List.pairwise_cons.1 hsep
    intro e he p hp b hb
    obtain⟨qi,qe⟩:=q
    unfold wC at hp
    cases hbq:Nat.beq qi i with
    |true=>
     rw[hbq,cond_true]at hp
     have:=Nat.eq_of_beq_eq_true hbq
     subst this
     intro hb'
     exact(hq p hp).2 b hb' hb
    |false=>
     rw[hbq,cond_false]at hp
     have hne:=Nat.ne_of_beq_eq_false hbq
     have her:(i,e)∈r:=(List.mem_cons.1 he).resolve_left (λg=>hne acw)
     rcases List.mem_cons.1 hp with g|g
     ·subst g;exact(hq _ her).2 b hb
     ·exact ih hr her p g b hb
  exact this h.sep hi
 have h':=(h.drop (nZ i H)).step hs hR hdel
 exact⟨R,_,h'.add hlt he' (λb hb hb'=>hR b hb' hb) hdel⟩
section
variable {cx:Cx} (hok:∀p∈cx.tab,lV cx.P p.1=some p.2)
theorem Gl{zs:List (List Value)}{k cap:Nat}{e:TypeId}(h:eD B ρ nx H S w)(hk:∀r∈zs,r.length=k/\∀v∈r,v.oneCell'=true)(hcap:zs.length<=cap)(rest:List Value)
 (hrest:rest.length=(cap-zs.length)*k):
 eD B (upd ρ nx ⟨some ⟨w.heap.size,0,none⟩,cap⟩) (nx+1) ((nx,.rows zs k e)::H) S (w.drew.alloc (.cells (zs.flatten++rest).toArray e)):=by
 have hw:eD B ρ nx H S w.drew:=h.drew
 refine hw.alloc (λy hy=>by simp[bZ.hass]at hy) ⟨hk,hcap,.inr ⟨w.heap.size,0,_,rfl,λ_=>Iff.rfl,nX _ _,?_,Au (λr hr=>(hk r hr).1) rest⟩⟩
 have:=j4 (λr hr=>(hk r hr).1)
 simp only[List.size_toArray,List.length_append,this,hrest,Nat.zero_add]
 rw[<-Nat.add_mul];exact Nat.mul_le_mul_right _ aa
theorem xO(z:Array Value)(n:Nat):(Builtin.zeroCells z n).toList.length=n*z.size:=by simp[Builtin.zeroCells]
theorem grownCap_le(w:World)(need old:Nat)(e:TypeId):need<=grownCap w need old e:=by
 simp only[grownCap,Question.cut];omega
include hok in
theorem M0{ts:Array TypeId}{ty:TypeId}{args:List SV}{K:SV->Heap->Prop}(h:Q4 cx ts.toList args H S nx K)(hw:eD cx.B ρ nx H S w):
 ∃v ρ' H' w',(Builtin.append_ ts ty (SV.eO ρ args).toArray).run cx.P w= .ok (v.rf ρ') w'/\(∀i,i<nx->ρ' i=ρ i)/\v.lt (nx+1)/\eD cx.B ρ' (nx+1) H' S w'/\K v H':=by
 unfold Q4 at h
 match hts:ts.toList,args,h with
 |sT::xT::tr,s::x::ar,h=>
 have ht0:ts[0]? =some sT:=by rw[<-Array.getElem?_toList,hts];rfl
 have ht1:ts[1]? =some xT:=by rw[<-Array.getElem?_toList,hts];rfl
 obtain⟨ti,hti,h⟩:=eU hok h
 obtain⟨tx,htx,h⟩:=eU hok h
 cases hk:(Nat.beq ti.ak 1&&Nat.beq tx.ak 1)with
 |false=>rw[hk]at h;exact h.elim
 |true=>
 rw[hk,cond_true]at h
 simp only[Bool.and_eq_true]at hk
 obtain⟨i,d,z,hi0,hd,hz0,rfl⟩:=fq hti
 obtain⟨ix,dx,zx,ap7,hdx,apN,rfl⟩:=fq htx
 have hk1:=Nat.eq_of_beq_eq_true hk.1
 have hk2:=Nat.eq_of_beq_eq_true hk.2
 have aoA:∃e,d= .slice e:=by cases d<;>first|exact⟨_,rfl⟩|(simp[kindOf]at hk1)
 obtain⟨e,rfl⟩:=aoA
 have hxi:∀k,dx≠.int k:=by rintro k rfl;simp[kindOf]at hk2
 obtain⟨te,hte,h⟩:=eU hok h
 obtain⟨ie,de,ze,hie,hde,hze,rfl⟩:=fq hte
 simp only[wo]at hie h
 cases hb:(Nat.beq ie.bytes 0|| !Nat.beq ze.cells.toList.length ie.size)with
 |true=>rw[hb]at h;exact h.elim
 |false=>
 rw[hb,cond_false]at h
 simp only[Bool.or_eq_false_iff,Bool.not_eq_false']at hb
 have hby:ie.bytes≠0:=Nat.ne_of_beq_eq_false hb.1
 have hzs:ze.cells.size=ie.size:=by simpa using Nat.eq_of_beq_eq_true hb.2
 obtain⟨ys,xb,xc,h,Re,hys,hfx⟩:=Ot (P:=cx.P) hw h
 have hyk:∀r∈ys,r.length=ie.size:=λr hr=>(hys r hr).1
 have hyo:∀v∈ys.flatten,v.oneCell'=true:=λv hv=>by
  obtain⟨r,hr,hv⟩:=List.mem_flatten.1 hv
  exact(hys r hr).2 v hv
 have key:∀(sv:Value) v w',s.rf ρ=sv->(Builtin.append_ #[sT,xT] ty #[sv,.slice xb ys.length xc]).run cx.P w= .ok v w'->
  (Builtin.append_ ts ty (SV.eO ρ (s::x::ar)).toArray).run cx.P w= .ok v w':=by
  intro sv v w' hsv hr
  unfold Builtin.append_ at hr|-
  simp only[List.getElem?_toArray,List.getElem?_cons_zero,List.getElem?_cons_succ,SV.eO,ht0,ht1,hsv,Re]at hr|-
  exact hr
 have out:∀(sb:Option Addr) (sLen sCap:Nat) (xs:List (List Value)),(∀r∈xs,r.length=ie.size/\∀v∈r,v.oneCell'=true)->xs.length=sLen->sCap<sLen+ys.length->(sLen+ys.length)*ie.bytes<=140737488355328->
  (Builtin.firstCells ie.size sLen (.slice sb sLen sCap)).run cx.P w.drew= .ok xs.flatten.toArray w.drew->s.rf ρ= .slice sb sLen sCap->K (.os nx (sLen+ys.length)) ((nx,.rows (xs++ys) ie.size e)::H)->
  ∃v ρ' H' w',(Builtin.append_ ts ty (SV.eO ρ (s::x::ar)).toArray).run cx.P w= .ok (v.rf ρ') w'/\(∀i,i<nx->ρ' i=ρ i)/\v.lt (nx+1)/\eD cx.B ρ' (nx+1) H' S w'/\K v H':=by
  intro sb sLen sCap xs hxs hxl r_ hroom hfs hsv hK
  have hrun:=uR (ty:=ty) hd hdx hxi hie hze hby r_ hfs (hfx _ hw.drew) hroom
  refine⟨.os nx (sLen+ys.length),upd ρ nx ⟨some ⟨w.heap.size,0,none⟩,grownCap w (sLen+ys.length) sCap e⟩,_,w.drew.alloc (.cells ((xs++ys).flatten++(Builtin.zeroCells ze.cells (grownCap w (sLen+ys.length) sCap e-(sLen+ys.length))).toList).toArray e),?_,λi hi=>mR hi,SV.y8 aa,?_,hK⟩
  rotate_left
  ·refine Gl hw (zs:=xs++ys) ?_ ?_ (Builtin.zeroCells ze.cells (grownCap w (sLen+ys.length) sCap e-(sLen+ys.length))).toList ?_
   ·intro r hr
    rcases List.mem_append.1 hr with hr|hr
    ·exact hxs r hr
    ·exact hys r hr
   ·rw[List.length_append,hxl];exact grownCap_le _ _ _ _
   ·rw[xO,hzs,List.length_append,hxl]
  ·refine key _ _ _ hsv ?_
   simp only[SV.rf,upd_same]
   rw[List.flatten_append]
   exact hrun
 match hs:s,h with
 | .os i len,g0=>
   obtain⟨en,hen,g1⟩:=l8 g0
   cases en with
   |rows xs k T=>
    dsimp only at g1
    cases hkk:(Nat.beq k ie.size&&Nat.beq T e)with
    |false=>rw[hkk]at g1;exact g1.elim
    |true=>
    rw[hkk,cond_true]at g1
    simp only[Bool.and_eq_true]at hkk
    have e1:=Nat.eq_of_beq_eq_true hkk.1
    have e2:=Nat.eq_of_beq_eq_true hkk.2
    clear h g0
    subst e1
    subst e2
    rw[IL]at g1
    obtain⟨hlen,g2⟩:=g1
    rw[Bj]at g2
    obtain⟨hroom,g3⟩:=g2
    rw[RY]at g3
    rw[<-hs]
    have hent:(∀r∈xs,r.length=ie.size/\∀v∈r,v.oneCell'=true)/\xs.length<=(ρ i).cap/\(((ρ i).base=none/\(ρ i).cap=0)\/∃b off c,(ρ i).base=some ⟨b,off,none⟩/\w.heap[b]? =some (.cells c T (0,0))/\off+(ρ i).cap*ie.size<=c.size/\qN c off ie.size xs):=by
     obtain⟨R,φ,hw⟩:=hw
     obtain⟨h1,h2,h3⟩:=hw.kV _ hen
     refine⟨h1,h2,?_⟩
     rcases h3 with h3|⟨b,off,c,h3,_,h4,h5,h6⟩
     ·exact .inl ⟨h3.1,h3.2.1⟩
     ·exact .inr ⟨b,off,c,h3,h4,h5,h6⟩
    obtain⟨hxs,hxc,hent⟩:=hent
    have agl:∀r∈xs.take len,r.length=ie.size/\∀v∈r,v.oneCell'=true:=λr hr=>hxs r (List.mem_of_mem_take hr)
    have hzs':∀r∈xs.take len++ys,r.length=ie.size/\∀v∈r,v.oneCell'=true:=λr hr=>(List.mem_append.1 hr).elim (agl r) (hys r)
    have hxl:(xs.take len).length=len:=by simp;omega
    have ajT:∀u:World,(∀b off c,(ρ i).base=some ⟨b,off,none⟩->w.heap[b]? =some (.cells c T (0,0))->u.heap[b]? =some (.cells c T (0,0)))->(Builtin.firstCells ie.size len (.slice (ρ i).base len (ρ i).cap)).run cx.P u= .ok (xs.take len).flatten.toArray u:=by
     intro u hu
     rcases hent with⟨hb,hc⟩|⟨b,off,c,hb,hblk,hsz,hrows⟩
     ·have:xs=[]:=List.eq_nil_of_length_eq_zero aa
      subst this
      simp only[hb,List.take_nil,List.flatten_nil]
      exact run_firstCells_none _ _ _ _ _
     ·have hub:=hu b off c hb hblk
      rw[hb]
      refine run_firstCells_some (P:=cx.P) u ie.size _ _ _ _ _ (by rw[j4 (λr hr=>(agl r hr).1),hxl]) λp v hp=> ?_
      rw[iA]
      have:=BN (λr hr=>(agl r hr).1) (Ab hrows) hp
      simpa[World.cell?,hub]using this
    by_cases r_:len+ys.length<=(ρ i).cap
    ·rcases hent with⟨hb,hc⟩|⟨b,off,c,hb,hblk,hsz,hrows⟩
     ·have hl0:len=0:=by omega
      have hy0:ys=[]:=List.eq_nil_of_length_eq_zero aa
      subst hl0
      subst hy0
      refine⟨.os nx 0,upd ρ nx (ρ i),_,w,key (.slice none 0 0) _ _ (by rw[hs];simp only[SV.rf,hb,hc]) (by simp only[SV.rf,upd_same,hb,hc];exact za hd hdx hxi hie (Nat.le_refl _) (hfx w hw)),λj hj=>mR hj,SV.y8 aa,?_,g3⟩
      refine hw.replace hen (λy hy=>by simp[bZ.hass]at hy) λF hF=>⟨⟨rfl,rfl,rfl,Nat.le_refl _,λ_ _ _=>rfl⟩,?_⟩
      obtain⟨h1,h2,h3⟩:=hF
      refine⟨by simp,by simp,?_⟩
      rcases h3 with h3|⟨b,off,c,h3,_⟩
      ·exact .inl h3
      ·rw[hb]at h3;cases h3
     ·have hyl:=j4 hyk
      have hfit:off+len*ie.size+ys.flatten.length<=c.size:=by
       have:(len+ys.length)*ie.size<=(ρ i).cap*ie.size:=Nat.mul_le_mul_right _ r_
       rw[Nat.add_mul]at this
       rw[hyl];omega
      have hrun:=BK (ty:=ty) hd hdx hxi hie r_ (hfx w hw) hblk hfit hyo
      refine⟨.os nx (len+ys.length),upd ρ nx (ρ i),_,w.setRow b (bW c.toList (off+len*ie.size) ys.flatten).toArray,key (.slice (some ⟨b,off,none⟩) len (ρ i).cap) _ _ (by rw[hs];simp only[SV.rf,hb]) (by simp only[SV.rf,upd_same,hb];exact hrun),λj hj=>mR hj,SV.y8 aa,?_,g3⟩
      refine hw.replace hen (λy hy=>by simp[bZ.hass]at hy) λF hF=> ?_
      obtain⟨h1,h2,h3⟩:=hF
      rcases h3 with⟨h3,_⟩|⟨b',off',c',h3,h4,h5,h6,h7⟩
      ·rw[hb]at h3;cases h3
      ·obtain⟨rfl,rfl⟩:b=b'/\off=off':=by rw[hb]at h3;simpa using h3
       obtain rfl:c=c':=by rw[hblk]at h5;simpa using h5
       refine⟨⟨rfl,rfl,rfl,by simp[World.setRow],λx hx hne=>(nH w b _).block x hx (λe=>hne ((h4 x).2 e))⟩,hzs',by rw[List.length_append,hxl];exact r_,.inr ⟨b,off,_,h3,h4,setRow_heap w b _ _ T _ hblk,by simpa[jo]using h6,?_⟩⟩
       have:=MW (c:=c) (off:=off) (k:=ie.size) (xs:=xs.take len) (ys:=ys) (λr hr=>(agl r hr).1) hyk (Ab hrows) (by
        have:(len+ys.length)*ie.size<=(ρ i).cap*ie.size:=Nat.mul_le_mul_right _ r_
        rw[hxl];omega)
       rw[hxl]at this
       exact this
    ·have hrun:=uR (ty:=ty) hd hdx hxi hie hze hby (Nat.lt_of_not_le r_) (ajT w.drew (λb off c _ h=>h)) (hfx _ hw.drew) hroom
     refine⟨.os nx (len+ys.length),upd ρ nx ⟨some ⟨w.heap.size,0,none⟩,grownCap w (len+ys.length) (ρ i).cap T⟩,_,w.drew.alloc (.cells ((xs.take len++ys).flatten++(Builtin.zeroCells ze.cells (grownCap w (len+ys.length) (ρ i).cap T-(len+ys.length))).toList).toArray T),?_,λj hj=>mR hj,SV.y8 aa,?_,g3⟩
     ·refine key (.slice (ρ i).base len (ρ i).cap) _ _ Yw ?_
      simp only[SV.rf,upd_same]
      rw[List.flatten_append]
      exact hrun
     ·have:=Gl (e:=T) hw hzs' (cap:=grownCap w (len+ys.length) (ρ i).cap T) (by rw[List.length_append,hxl];exact grownCap_le _ _ _ _) (Builtin.zeroCells ze.cells (grownCap w (len+ys.length) (ρ i).cap T-(len+ys.length))).toList (by rw[xO,hzs,List.length_append,hxl])
      obtain⟨R,φ,this⟩:=this
      exact⟨R,φ,this.drop ((nZ i H).cons_cons _)⟩
   |_=>exact g1.elim
 | .c (.slice none 0 0),h=>
   have h:gP ys.length ie.bytes (K (.os nx ys.length) ((nx,.rows ys ie.size e)::H)):=h
   rw[Bj]at h
   by_cases hy0:ys.length=0
   ·have:ys=[]:=List.eq_nil_of_length_eq_zero hy0
    subst this
    refine⟨.os nx 0,upd ρ nx ⟨none,0⟩,_,w,by rw[<-hs];simp only[SV.rf,upd_same];exact key (.slice none 0 0) (.slice none 0 0) w Yw (za hd hdx hxi hie (Nat.le_refl _) (hfx w hw)),λi hi=>mR hi,SV.y8 aa,?_,h.2⟩
    ·obtain⟨R,φ,hw⟩:=hw
     exact⟨R,_,hw.add (F:=λ_=>False) (λy hy=>by simp[bZ.hass]at hy) ⟨by simp,Nat.zero_le _,.inl ⟨rfl,rfl,λ_ h=>h⟩⟩ (λ_ h=>h.elim) (λ_ _ _ _ h=>h)⟩
   ·rw[<-hs]
    exact out none 0 0 [] fP rfl aa (by simpa using h.1) (run_firstCells_none _ _ _ _ _) Yw (by simpa using h.2)
 | .c (.slice (some a) len cap),h=>
   rcases h.out with h|h
   rotate_left
   ·obtain⟨v,ρ',H',w',g1,g2⟩:=h.out ρ w xb xc ty hw hys hfx
    rw[<-hs]
    exact⟨v,ρ',H',w',key _ _ _ Yw g1,g2⟩
   obtain⟨xs,xb',xc',h,alC,hxs,hfs⟩:=Ot (P:=cx.P) hw h
   rw[IL]at h
   obtain⟨hcap,h⟩:=h
   rw[Bj]at h
   simp only[SV.rf,Value.slice.injEq]at alC
   obtain⟨rfl,hl,rfl⟩:=alC
   have hf:=hfs _ hw.drew
   rw[<-hl]at hf
   rw[<-hs]
   exact out (some a) len cap xs hxs hl.symm aa h.1 hf Yw h.2
end
end
section
def bN.and(S T:bN):bN where
 holds R w:=S.holds R w/\T.holds R w
 stable:=λhR hw h=>⟨S.stable hR hw h.1,T.stable hR hw h.2⟩
def fC(base:Option Addr)(k:Nat)(xs:List (List Value)):bN where
 holds R w:=(∀r∈xs,r.length=k/\∀v∈r,v.oneCell'=true)/\(xs=[]\/∃b off,base=some ⟨b,off,none⟩/\R b/\∀i r,xs[i]? =some r->∀j v,r[j]? =some v->w.cell? ⟨b,off+(i*k+j),none⟩=some v)
 stable:=by
  intro R R' w w' hR hw h
  refine⟨h.1,?_⟩
  rcases h.2 with h|⟨b,off,h1,h2,h3⟩
  ·exact .inl h
  ·refine .inr ⟨b,off,h1,hR b h2,λi r hi j v hj=> ?_⟩
   have:=h3 i r hi j v hj
   unfold World.cell? at this|-
   simp only[hw b h2]
   exact this
def bN.past(N:Nat)(D:bN):bN where
 holds R w:=D.holds (λb=>R b/\N<=b) w
 stable:=λhR hw h=>D.stable (λb hb=>⟨hR b hb.1,hb.2⟩) (λb hb=>hw b hb.1) h
variable {B:Base} {ρ:Nat->Loc} {nx i k:Nat} {H:Heap} {S:bN} {w:World} {T:TypeId} {xs:List (List Value)}
theorem eD.frozen(h:eD B ρ nx ((i,.rows xs k T)::H) S w)(N:Nat)(hN:∀R w',S.holds R w'->∀b,b<N->R b):
 xs.length<=(ρ i).cap/\eD B ρ nx H (S.and ((fC (ρ i).base k xs).past N)) w:=by
 obtain⟨R,φ,hw⟩:=h
 have hent:=hw.kV _ List.mem_cons_self
 obtain⟨hr,hcap,zK⟩:=hent
 obtain⟨hsep,_⟩:=List.pairwise_cons.1 hw.sep
 refine⟨hcap,λb=>R b\/φ i b,φ,?_⟩
 have hsub:=hw.drop (List.sublist_cons_self _ _)
 refine⟨hw.os,hw.tape,hw.output,hw.size,hw.pin,λb hb=>hb.elim (hw.ro b) (λhb=>bZ.size (hw.kV _ List.mem_cons_self) hb),⟨S.stable (λ_ h=> .inl h) (λ_ _=>rfl) hw.tq,hr,?_⟩,hsub.key,hsub.kV,?_,hsub.sep⟩
 ·rcases zK with⟨h1,h2,_⟩|⟨b,off,c',h1,h2,h3,h4,h5⟩
  ·simp only at hcap h2;exact .inl (List.eq_nil_of_length_eq_zero aa)
  ·exact .inr ⟨b,off,h1,⟨.inr ((h2 b).2 rfl),Nat.le_of_not_lt λhb=>hw.apart _ List.mem_cons_self b ((h2 b).2 rfl) (hN R w hw.tq b hb)⟩,λm r hm j v hj=>by have:=h5 m r hm j v hj;rw[<-Nat.add_assoc];simpa[World.cell?,h3]using this⟩
 ·intro p hp b hb hb'
  exact hb'.elim (hsub.apart p hp b hb) (λg=>(hsep p hp).2 b g hb)
def agC(v:SV)(H:Heap)(S:bN)(nx:Nat)(K:SV->Heap->bN->Nat->Prop):Prop:=
 match v,H with
 | .os i n,(j,.rows xs k _)::H0=>i=j/\∃N,(∀R w,S.holds R w->∀b,b<N->R b)/\∀l:Loc,xs.length<=l.cap->K (.c (.slice l.base n l.cap)) H0 (S.and ((fC l.base k xs).past N)) nx
 |_,_=>False
def als(v:SV)(H:Heap)(S:bN)(nx:Nat)(K:SV->Heap->bN->Nat->Prop):Prop:=
 ∃(α:Type) (v2:α->SV) (H2:α->Heap) (S2:α->bN),(∀B ρ w,eD B ρ nx H S w->∃a,(v2 a).rf ρ=v.rf ρ/\(v2 a).lt nx/\eD B ρ nx (H2 a) (S2 a) w)/\∀a,K (v2 a) (H2 a) (S2 a) nx
structure jT(v:SV)(H:Heap)(S:bN)(nx:Nat)(K:SV->Heap->bN->Nat->Prop):Prop where
 out:K v H S nx\/agC v H S nx K\/als v H S nx K
variable {v:SV} {K:SV->Heap->bN->Nat->Prop}
theorem Fj(h:jT v H S nx K)(hw:eD B ρ nx H S w)(hv:v.lt nx):
 ∃v2 H2 S2,v2.rf ρ=v.rf ρ/\v2.lt nx/\eD B ρ nx H2 S2 w/\K v2 H2 S2 nx:=by
 rcases h.out with hK|hF|⟨α,v2,H2,S2,hT,hK⟩
 ·exact⟨v,H,S,rfl,hv,hw,hK⟩
 ·clear h
  match v,H,hw,hF with
  | .os i n,(j,.rows xs k T)::H0,hw,hF=>
    obtain⟨rfl,N,hN,hF⟩:=hF
    obtain⟨h1,h2⟩:=hw.frozen N hN
    exact⟨.c (.slice (ρ i).base n (ρ i).cap),H0,_,rfl,SV.jk _,h2,hF (ρ i) h1⟩
 ·obtain⟨a,h1,h2,h3⟩:=hT B ρ w hw
  exact⟨v2 a,H2 a,S2 a,h1,h2,h3,hK a⟩
theorem kT(h:K v H S nx):jT v H S nx K:=⟨.inl h⟩
theorem lm{n:Nat}(N:Nat)(hN:∀R w,S.holds R w->∀b,b<N->R b)(h:∀l:Loc,xs.length<=l.cap->K (.c (.slice l.base n l.cap)) H (S.and ((fC l.base k xs).past N)) nx):jT (.os i n) ((i,.rows xs k T)::H) S nx K:=⟨.inr (.inl ⟨rfl,N,hN,h⟩)⟩
theorem Uv{α:Type}(v2:α->SV)(H2:α->Heap)(S2:α->bN)(hT:∀B ρ w,eD B ρ nx H S w->∃a,(v2 a).rf ρ=v.rf ρ/\(v2 a).lt nx/\eD B ρ nx (H2 a) (S2 a) w)(hK:∀a,K (v2 a) (H2 a) (S2 a) nx):jT v H S nx K:=⟨.inr (.inr ⟨α,v2,H2,S2,hT,hK⟩)⟩
end
section
def DF(v:Value)(k:Int):Bool:=match v with| .int .i64 n=>decide (n=k)|_=>false
variable {v:Value} {k:Int}
theorem Ti:DF v k=true↔v= .int .i64 k:=by
 constructor
 ·intro h
  unfold DF at h
  split at h
  ·simp at h;rw[h]
  ·cases h
 ·rintro rfl;simp[DF]
def u6:List MapEntry->Int->Option Value
 |[],_=>none
 |e::r,k=>bif DF e.key k then some e.val else u6 r k
def wR:List MapEntry->Int->Nat->Option (Nat×Value)
 |[],_,_=>none
 |e::r,k,j=>bif DF e.key k then some (j,e.val)else wR r k (j+1)
def afK(es:List MapEntry):Prop:=∀e∈es,∃k,e.key= .int .i64 k
theorem CJ:∀{es:List MapEntry} {k:Int} {j:Nat},(wR es k j).map (·.2)=u6 es k
 |[],_,_=>rfl
 |e::r,k,j=>by
  unfold wR u6
  cases DF e.key k with
  |true=>rfl
  |false=>exact CJ
theorem E_(k:Int):DF (.int .i64 k) k=true:=by simp[DF]
variable {k':Int}
theorem Bg(h:k'≠k):DF (.int .i64 k) k'=false:=by simpa[DF]usingλe=>h e.symm
theorem Gb{q:IntKind}{k:Int}:∀{es:List MapEntry} {j:Nat},afK es->Instr.findNow (.int q) (.int .i64 k) es j=some (wR es k j)
 |[],j,_=>rfl
 |e::r,j,h=>by
  obtain⟨k',hk⟩:=h e fP
  unfold Instr.findNow wR
  simp only[hk,Instr.sameNow,if_true]
  by_cases he:k=k'
  ·subst he;simp[E_]
  ·have h1:(k==k')=false:=by simpa using he
   rw[Bg he]
   simp only[h1,cond_false]
   exact Gb λe he=>h e (by simp[he])
variable {t:TypeId} {q:IntKind}
theorem xk{P:Program}(ht:P.underlying t=some (.int q))(b:Bool)(k:Int)(w:World):(Instr.checkKey b 10000 t (.int .i64 k)).run P w= .ok () w:=by
 rw[show(10000:Nat)=Nat.succ 9999 from rfl]
 unfold Instr.checkKey
 simp only[Sem.run_bind,run_underlying ht,Result.andThen_ok,Sem.run_pure]
theorem zb{P:Program}(ht:P.underlying t=some (.int q)){es:List MapEntry}(h:afK es)(k:Int)(w:World):(Instr.findKey t (.int .i64 k) es).run P w= .ok (wR es k 0) w:=by
 unfold Instr.findKey
 simp only[Sem.run_bind,run_underlying ht,Result.andThen_ok,Gb h,Sem.run_pure]
def kS(r:Nat)(m:Int->Option Value)(w:World):Prop:=∃es clock,w.heap[r]? =some (.map es clock)/\afK es.toList/\∀k,u6 es.toList k=m k
def lH(r:Nat)(m:Int->Option Value):Own where
 holds _ F w:=(∀x,F x↔x=r)/\kS r m w
 stable:=by
  rintro l F w w' hf ⟨h1,es,clock,h2,h3⟩
  exact⟨h1,es,clock,by rw[hf r ((h1 r).2 rfl)];exact h2,h3⟩
 lt:=by
  rintro l F w b ⟨h1,es,clock,h2,_⟩ hb
  obtain rfl:=(h1 b).1 hb
  exact iZ h2
variable {w:World} {r clock:Nat} {es:Array MapEntry}
theorem Jk{P:Program}(hb:w.heap[r]? =some (.map es clock)):(getObj r).run P w= .ok (.map es clock) w:=by
 simp[getObj,Sem.run,hb]
theorem Kl{P:Program}(o:Obj)(hb:w.heap[r]? =some (.map es clock)):(setObj r o).run P w= .ok () {w with heap:=w.heap.setIfInBounds r o}:=by
 simp[setObj,Sem.run,hb]
variable {kt et:TypeId} {z:Value} {m:Int->Option Value}
theorem KJ{P:Program}{i:TypeInfo}(ht:P.underlying t=some (.map kt et))(hk:P.underlying kt=some (.int q))(hi:P.info? et=some i)(hz:i.zero=some z)(h:kS r m w)(k:Int)(ok:Bool):
 (Instr.lookup t (.map (some r)) (.int .i64 k) ok).run P w= .ok (if ok then .tuple #[(m k).getD z,.bool (m k).isSome]else(m k).getD z) w:=by
 obtain⟨es,clock,h1,h2,h3⟩:=h
 have h4:(wR es.toList k 0).map (·.2)=m k:=by rw[CJ,h3]
 unfold Instr.lookup
 simp only[Sem.run_bind,run_underlying ht,Result.andThen_ok,Jk h1,Sem.run_pure,xk hk,zb hk h2]
 cases hx:wR es.toList k 0 with
 |none=>
  rw[hx]at h4
  have h4':m k=none:=by simpa using h4.symm
  simp only[Sem.run_bind,zeroValue,typeInfo,run_program,Result.andThen_ok,hi,hz,Sem.run_pure,h4',Option.getD_none,Option.isSome_none]
 |some x=>
  rw[hx]at h4
  have h4':m k=some x.2:=by simpa using h4.symm
  simp only[Sem.run_pure,Result.andThen_ok,h4',Option.getD_some,Option.isSome_some]
  cases ok<;>rfl
theorem Jy{k k':Int}{v:Value}{c:Nat}:∀{es:List MapEntry},u6 es k=none->u6 (es++[⟨.int .i64 k,v,c⟩]) k'=if k'=k then some v else u6 es k'
 |[],_=>by
  simp only[List.nil_append,u6]
  by_cases h:k'=k
  ·subst h;simp[E_]
  ·rw[if_neg h,Bg h];rfl
 |e::r,h=>by
  unfold u6 at h
  cases hk:DF e.key k with
  |true=>rw[hk]at h;cases h
  |false=>
   rw[hk,cond_false]at h
   simp only[List.cons_append,u6]
   cases he:DF e.key k' with
   |true=>
    have:k'≠k:=by rintro rfl;rw[hk]at he;cases he
    rw[if_neg this];rfl
   |false=>exact Jy h
theorem Fy{k:Int}:∀{es:List MapEntry} {i j:Nat} {x:Value},wR es k j=some (i,x)->j<=i/\∃e,es[i-j]? =some e/\e.key= .int .i64 k
 |[],i,j,x,h=>by cases h
 |e::r,i,j,x,h=>by
  unfold wR at h
  cases he:DF e.key k with
  |true=>
   rw[he,cond_true]at h
   obtain⟨rfl,rfl⟩:j=i/\e.val=x:=by simpa using h
   exact⟨Nat.le_refl _,e,by simp,Ti.1 he⟩
  |false=>
   rw[he,cond_false]at h
   obtain⟨h1,e',h2,h3⟩:=Fy h
   refine⟨by omega,e',?_,h3⟩
   have:i-j=(i-(j+1))+1:=by omega
   rw[this,List.getElem?_cons_succ];exact h2
theorem DL{k k':Int}{v:Value}:∀{es:List MapEntry} {i j:Nat} {x:Value},wR es k j=some (i,x)->u6 (es.modify (i-j) λe=>{e with key:= .int .i64 k,val:=v}) k'=if k'=k then some v else u6 es k'
 |[],i,j,x,h=>by cases h
 |e::r,i,j,x,h=>by
  have h0:=h
  unfold wR at h
  cases he:DF e.key k with
  |true=>
   rw[he,cond_true]at h
   obtain⟨rfl,rfl⟩:j=i/\e.val=x:=by simpa using h
   simp only[Nat.sub_self,List.modify_zero_cons,u6]
   have he':=Ti.1 he
   by_cases hk:k'=k
   ·subst hk;simp[E_]
   ·rw[if_neg hk,Bg hk,he',Bg hk];rfl
  |false=>
   rw[he,cond_false]at h
   have hi:j+1<=i:=(Fy h).1
   obtain⟨d,hd⟩:∃d,i-j=d+1:=⟨i-j-1,by omega⟩
   have hd':d=i-(j+1):=by omega
   rw[hd,List.modify_succ_cons]
   unfold u6
   rw[hd',DL h]
   by_cases hk:k'=k
   ·subst hk;rw[he,if_pos rfl];simp
   ·rw[if_neg hk,if_neg hk]
theorem Rq{P:Program}:(Instr.keyThatStays (.int .i64 k) (.int .i64 k)).run P w= .ok (.int .i64 k) w:=by
 unfold Instr.keyThatStays
 have:Instr.sameBits 10000 (.int .i64 k) (.int .i64 k)=true:=by
  rw[show(10000:Nat)=Nat.succ 9999 from rfl]
  simp[Instr.sameBits]
 rw[if_pos this]
 simp
def yn(m:Int->Option Value)(k:Int)(v:Value):Int->Option Value:=λk'=>if k'=k then some v else m k'
theorem Es{P:Program}(ht:P.underlying t=some (.map kt et))(hk:P.underlying kt=some (.int q))(h:kS r m w)(k:Int)(v:Value):
 ∃w',(Instr.mapUpdate t (.map (some r)) (.int .i64 k) v).run P w= .ok () w'/\Step (λx=>x=r) w w'/\kS r (yn m k v) w':=by
 obtain⟨es,clock,h1,h2,h3⟩:=h
 have hr:=iZ h1
 have hstep:∀o,Step (λx=>x=r) w {w with heap:=w.heap.setIfInBounds r o}:=λo=>⟨rfl,rfl,rfl,by simp,λb _ hne=>by
  simp only;rw[Array.getElem?_setIfInBounds];rw[if_neg (λe=>hne e.symm)]⟩
 have hget:∀o,({w with heap:=w.heap.setIfInBounds r o}:World).heap[r]? =some o:=λo=>by simp[hr]
 unfold Instr.mapUpdate
 simp only[Sem.run_bind,run_underlying ht,Result.andThen_ok,Jk h1,xk hk,zb hk h2]
 cases hx:wR es.toList k 0 with
 |none=>
  simp only[Kl _ h1]
  refine⟨_,rfl,hstep _,_,_,hget _,?_,?_⟩
  ·intro e he
   simp only[Array.toList_push,List.mem_append,List.mem_singleton]at he
   rcases he with he|rfl
   ·exact h2 e he
   ·exact⟨k,rfl⟩
  ·intro k'
   have h4:u6 es.toList k=none:=by rw[<-CJ (j:=0),hx];rfl
   rw[Array.toList_push,Jy h4]
   unfold yn
   rw[h3]
 |some x=>
  obtain⟨i,x⟩:=x
  obtain⟨_,e,he,hek⟩:=Fy hx
  rw[Nat.sub_zero]at he
  have he':es[i]? =some e:=by simpa using he
  simp only[he',Option.map_some,Option.getD_some,hek,Sem.run_bind,Rq,Result.andThen_ok,Kl _ h1]
  refine⟨_,rfl,hstep _,_,_,hget _,?_,?_⟩
  ·intro e' he'
   simp only[Array.toList_modify]at he'
   obtain⟨n,hn⟩:=List.getElem?_of_mem he'
   rw[List.getElem?_modify]at hn
   cases hes:es.toList[n]? with
   |none=>rw[hes]at hn;simp at hn
   |some e0=>
    rw[hes]at hn
    obtain rfl:(if i=n then({e0 with key:= .int .i64 k,val:=v}:MapEntry)else e0)=e':=by simpa using hn
    split
    ·exact⟨k,rfl⟩
    ·exact h2 e0 (List.mem_of_getElem? hes)
  ·intro k'
   rw[Array.toList_modify]
   have:=DL (k':=k') (v:=v) hx
   rw[Nat.sub_zero]at this
   rw[this,h3]
   rfl
structure yT(H:Heap)(S:bN)(nx:Nat)(K:SV->Heap->bN->Nat->Prop):Prop where
 out:∀r,K (.c (.map (some r))) ((nx,.ext (lH r λ_=>none))::H) S (nx+1)
variable {H:Heap} {S:bN}
theorem Pb{nx:Nat}{K:SV->Heap->bN->Nat->Prop}(h:∀r,K (.c (.map (some r))) ((nx,.ext (lH r λ_=>none))::H) S (nx+1)):yT H S nx K:=⟨h⟩
structure qf(cx:Cx)(t:TypeId)(m k v:SV)(H:Heap)(S:bN)(K:Heap->Prop):Prop where
 out:∃H',K H'/\∀ρ nx w,eD cx.B ρ nx H S w->∃w',(Instr.mapUpdate t (m.rf ρ) (k.rf ρ) (v.rf ρ)).run cx.P w= .ok () w'/\eD cx.B ρ nx H' S w'
variable {cx:Cx} {i:Nat}
theorem EH{K:Heap->Prop}(ht:cx.P.underlying t=some (.map kt et))(hk:cx.P.underlying kt=some (.int q))(hi:(i,bZ.ext (lH r m))∈H)
 (h:Cf i (.ext (lH r (yn m k v))) K H):qf cx t (.c (.map (some r))) (.c (.int .i64 k)) (.c v) H S K:=by
 rw[zN]at h
 refine⟨_,h,λρ nx w hw=> ?_⟩
 have hm:kS r m w:=by
  obtain⟨R,φ,hw⟩:=hw
  exact(hw.kV _ hi).2
 obtain⟨w',h1,h2,h3⟩:=Es (P:=cx.P) ht hk hm k v
 refine⟨w',h1,hw.store hi (λy hy=>by simp[bZ.hass]at hy) λF hF=> ?_⟩
 exact⟨⟨h2.os,h2.tape,h2.output,h2.size,λb hb hne=>h2.block b hb λe=>hne ((hF.1 b).2 e)⟩,hF.1,h3⟩
theorem Yx{ti:TypeInfo}{ok:Bool}{K:SV->Prop}(ht:cx.P.underlying t=some (.map kt et))(hk:cx.P.underlying kt=some (.int q))(hti:cx.P.info? et=some ti)(hz:ti.zero=some z)(hi:(i,bZ.ext (lH r m))∈H)
 (h:K (.c (if ok then .tuple #[(m k).getD z,.bool (m k).isSome]else(m k).getD z))):BP cx t (.c (.map (some r))) (.c (.int .i64 k)) ok H S K:=
 ⟨_,h,λρ nx w hw=>by
   obtain⟨R,φ,hw⟩:=hw
   exact KJ ht hk hti hz (hw.kV _ hi).2 k ok⟩
end
section
structure aI(cx:Cx)(f:FuncId)(args:List SV)(H:Heap)(S:bN)(nx:Nat)(K:SV->Heap->bN->Nat->Prop):Prop where
 out:(∀as w,(callFunc f as).run cx.P w= .ok (.enter f as) w)/\
 ∀ρ w,eD cx.B ρ nx H S w->Calls cx.P f (SV.eO ρ args).toArray w (λe w'=>∃v ρ' H' S' nx',e= .returned (v.rf ρ')/\(∀i,i<nx->ρ' i=ρ i)/\nx<=nx'/\v.lt nx'/\eD cx.B ρ' nx' H' S' w'/\K v H' S' nx')
variable {f:FuncId} {args:List SV} {H:Heap} {S:bN} {nx:Nat} {K:SV->Heap->bN->Nat->Prop}
theorem gN{cx:Cx}:aI cx f args H S nx K=((∀as w,(callFunc f as).run cx.P w= .ok (.enter f as) w)/\
 ∀ρ w,eD cx.B ρ nx H S w->Calls cx.P f (SV.eO ρ args).toArray w (λe w'=>∃v ρ' H' S' nx',e= .returned (v.rf ρ')/\(∀i,i<nx->ρ' i=ρ i)/\nx<=nx'/\v.lt nx'/\eD cx.B ρ' nx' H' S' w'/\K v H' S' nx')):=propext ⟨λh=>h.out,λh=>⟨h⟩⟩
def aiA(cx:Cx)(fv:SV)(args:List SV)(H:Heap)(S:bN)(nx:Nat)(K:SV->Heap->bN->Nat->Prop):Prop:=
 match fv with
 | .c (.func (.func f) a b)=>(match a.toList,b.toList with
   |[],[]=>aI cx f args H S nx K
   |x,y=>aI cx f (cs x++args++cs y) H S nx K)
 | .fn (.func f) a b=>aI cx f (a++args++b) H S nx K
 |_=>False
structure Y4(cx:Cx)(t:TypeId)(v:SV)(m:String)(args:List SV)(H:Heap)(S:bN)(nx:Nat)(K:SV->Heap->bN->Nat->Prop):Prop where
 out:∀ρ w,eD cx.B ρ nx H S w->∃f vr,(method (cx.P.types.size+Made.depth) t (v.rf ρ) m).run cx.P w= .ok (f,vr) w/\(∀as w,(callFunc f as).run cx.P w= .ok (.enter f as) w)/\
  Calls cx.P f (vr::SV.eO ρ args).toArray w (λe w'=>∃v ρ' H' S' nx',e= .returned (v.rf ρ')/\(∀i,i<nx->ρ' i=ρ i)/\nx<=nx'/\v.lt nx'/\eD cx.B ρ' nx' H' S' w'/\K v H' S' nx')
theorem R9{cx:Cx}{t:TypeId}{v:SV}{m:String}:Y4 cx t v m args H S nx K=(∀ρ w,eD cx.B ρ nx H S w->∃f vr,(method (cx.P.types.size+Made.depth) t (v.rf ρ) m).run cx.P w= .ok (f,vr) w/\(∀as w,(callFunc f as).run cx.P w= .ok (.enter f as) w)/\
 Calls cx.P f (vr::SV.eO ρ args).toArray w (λe w'=>∃v ρ' H' S' nx',e= .returned (v.rf ρ')/\(∀i,i<nx->ρ' i=ρ i)/\nx<=nx'/\v.lt nx'/\eD cx.B ρ' nx' H' S' w'/\K v H' S' nx')):=propext ⟨λh=>h.out,λh=>⟨h⟩⟩
def ZF(cx:Cx)(rv:SV)(m:String)(args:List SV)(H:Heap)(S:bN)(nx:Nat)(K:SV->Heap->bN->Nat->Prop):Prop:=
 match rv with
 | .Gd t v=>Y4 cx t v m args H S nx K
 |_=>False
def Ef:Builtin->Bool| .append=>true|_=>false
theorem Uj{b:Builtin}(h:Ef b=true):b= .append:=by cases b<;>first|rfl|(simp[Ef]at h)
def aiM:Op->Bool
 | .alloc _| .box _ _| .store _ _ _| .makeSlice _ _ _| .buildSlice _ _ _| .call _| .makeMap _ none| .mapUpdate _ _ _ _| .insert _ _ _ _=>true
 |_=>false
def opX(cx:Cx)(o:Op)(env:Env)(H:Heap)(S:bN)(nx:Nat)(K:SV->Heap->bN->Nat->Prop):Prop:=
 match o with
 | .alloc t=>rD t (λti=>K (.lp nx 0 0 0) ((nx,.box (cs ti.zero) t)::H) S (nx+1)) cx.tab
 | .box t x=>wP cx.n env x λv=>EA (λl=>K (.lp nx 0 0 0) ((nx,.box l t)::H) S (nx+1)) v
 | .store t a x=>wP cx.n env a λp=>wP cx.n env x λv=>W9 cx t p v H (λH'=>K (.c undef) H' S nx)
 | .makeSlice t l c=>wP cx.n env l λx=>wP cx.n env c λy=>acO cx t x y H nx (λv H'=>jT v H' S (nx+1) K)
 | .buildSlice t n ps=>ag3 cx.n env (λl=>zQ cx t n l H nx (λv H'=>jT v H' S (nx+1) K)) ps.toList
 | .call c=>(match c.callee with
   | .builtin b=>bif Ef b then M7 cx.n env (λl=>Q4 cx c.argTypes.toList l H S nx (λv H'=>jT v H' S (nx+1) K)) c.args.toList
     else M7 cx.n env (λl=>Lp cx b c.argTypes.toList l (λv=>K v H S nx)) c.args.toList
   | .value f=>wP cx.n env f λfv=>M7 cx.n env (λl=>aiA cx fv l H S nx K) c.args.toList
   | .invoke r m=>wP cx.n env r λrv=>M7 cx.n env (λl=>ZF cx rv m l H S nx K) c.args.toList)
 | .makeMap _ none=>yT H S nx K
 | .mapUpdate t m k x=>wP cx.n env m λa=>wP cx.n env k λb=>wP cx.n env x λc=>qf cx t a b c H S (λH'=>K (.c undef) H' S nx)
 | .insert t m k x=>wP cx.n env m λa=>wP cx.n env k λb=>wP cx.n env x λc=>qf cx t a b c H S (λH'=>K (.c undef) H' S nx)
 |_=>False
def opE(cx:Cx)(o:Op)(env:Env)(H:Heap)(S:bN)(nx:Nat)(K:SV->Heap->bN->Nat->Prop):Prop:=
 bif aiM o then opX cx o env H S nx K else opQ cx o env H S (λv=>K v H S nx)
section
variable {cx:Cx} (hok:∀p∈cx.tab,lV cx.P p.1=some p.2)
variable {ρ:Nat->Loc} {w:World}
theorem zH{as:Array Value}(h:aI cx f args H S nx K)(hw:eD cx.B ρ nx H S w)(ha:as=(SV.eO ρ args).toArray):
 (callFunc f as).run cx.P w= .ok (.enter f as) w/\Calls cx.P f as w (λe w'=>∃v ρ' H' S' nx',e= .returned (v.rf ρ')/\(∀i,i<nx->ρ' i=ρ i)/\nx<=nx'/\v.lt nx'/\eD cx.B ρ' nx' H' S' w'/\K v H' S' nx'):=by
 rw[gN]at h
 subst ha
 exact⟨h.1 _ _,h.2 ρ w hw⟩
theorem yQ(ρ:Nat->Loc)(a b:List SV):SV.eO ρ (a++b)=SV.eO ρ a++SV.eO ρ b:=by simp[SV.om]
variable {o:Oper} {next:Act->World->Prop}
theorem rX{a:Act}{Q:Exit->Act->World->Prop}{args:Array Value}
 (hc:Calls cx.P f args w (λe w'=>∃v ρ' H' S' nx',e= .returned (v.rf ρ')/\(∀i,i<nx->ρ' i=ρ i)/\nx<=nx'/\v.lt nx'/\eD cx.B ρ' nx' H' S' w'/\K v H' S' nx'))
 (hn:ai4 cx ρ nx K (λv w'=>next (a.put o.dst v) w')):o.upon cx.P a next Q (.ok (.enter f args) w):=by
 rw[Oper.upon_enter]
 refine hc.mono λe w' he=> ?_
 obtain⟨v,ρ',H',S',nx',rfl,h1,h2,h3,h4,h5⟩:=he
 exact hn v ρ' H' S' nx' w' h1 h2 h3 h4 h5
include hok in
theorem Pg{env:Env}{a:Act}{Q:Exit->Act->World->Prop}
 (h:opE cx o.op env H S nx K) (hs:Sat cx.n ρ nx env a) (hw:eD cx.B ρ nx H S w) (hn:ai4 cx ρ nx K (λv w'=>next (a.put o.dst v) w')):o.wp cx.P a w next Q:=by
 have quiet:opQ cx o.op env H S (λv=>K v H S nx)->o.wp cx.P a w next Q:=by
  intro hq
  obtain⟨v,h1,h2,h3⟩:=FI hok hs hw hq
  unfold Oper.wp
  rw[h3 w hw,Oper.upon_value]
  exact hn v ρ H S nx w (λ_ _=>rfl) (Nat.le_refl _) h1 hw h2
 unfold opE at h
 cases hE:aiM o.op with
 |false=>rw[hE,cond_false]at h;exact quiet h
 |true=>
 rw[hE,cond_true]at h
 obtain⟨dst,op,type,pos,after,guard⟩:=o
 have fin:∀{s:Sem Value} {v:SV} {ρ':Nat->Loc} {H':Heap} {w':World},(execOp a.eval ⟨dst,op,type,pos,after,guard⟩)=(do pure (Next.value (<-s)):Sem Next)->s.run cx.P w= .ok (v.rf ρ') w'->
  (∀i,i<nx->ρ' i=ρ i)->v.lt (nx+1)->eD cx.B ρ' (nx+1) H' S w'->K v H' S (nx+1)->Oper.wp cx.P ⟨dst,op,type,pos,after,guard⟩ a w next Q:=by
  intro s v ρ' H' w' he hr h1 h2 h3 h4
  unfold Oper.wp
  rw[he]
  simp only[Sem.run_bind,hr,Result.andThen_ok,Sem.run_pure,Oper.upon_value]
  exact hn v ρ' H' S (nx+1) w' h1 (Nat.le_succ _) h2 h3 h4
 have alM:∀{s:Sem Value} {v:SV} {ρ':Nat->Loc} {H':Heap} {w':World},(execOp a.eval ⟨dst,op,type,pos,after,guard⟩)=(do pure (Next.value (<-s)):Sem Next)->s.run cx.P w= .ok (v.rf ρ') w'->
  (∀i,i<nx->ρ' i=ρ i)->v.lt (nx+1)->eD cx.B ρ' (nx+1) H' S w'->jT v H' S (nx+1) K->Oper.wp cx.P ⟨dst,op,type,pos,after,guard⟩ a w next Q:=by
  intro s v ρ' H' w' he hr h1 h2 h3 h4
  obtain⟨v2,H2,S2,g1,g2,g3,g4⟩:=Fj h4 h3 h2
  unfold Oper.wp
  rw[he]
  simp only[Sem.run_bind,hr,Result.andThen_ok,Sem.run_pure,Oper.upon_value]
  rw[<-g1]
  exact hn v2 ρ' H2 S2 (nx+1) w' h1 (Nat.le_succ _) g2 g3 g4
 cases op with
 |alloc t=>
  obtain⟨ti,hti,h⟩:=eU hok h
  obtain⟨i,d,z,hi,hd,hz,rfl⟩:=fq hti
  refine fin (s:=Instr.alloc t true (.tuple #[])) (v:= .lp nx 0 0 0) (ρ':=upd ρ nx ⟨some ⟨w.heap.size,0,none⟩,0⟩) (w':=w.alloc (.cells z.cells t)) aao ?_ (λi hi=>mR hi) (SV.UO aa) ?_ h
  ·simp[Instr.alloc,zeroValue,typeInfo,hi,hz,newVar,newRow,SV.rf,upd_same,iA]
  ·refine hw.alloc (λy hy=> ?_) ⟨w.heap.size,rfl,λ_=>Iff.rfl,?_⟩
   ·exact CZ nx _ y hy
   ·rw[vG];simpa using nX w (.cells z.cells t)
 |box t x=>
  obtain⟨v,h1,h2,h3⟩:=dJ hs h
  obtain⟨l,h4,h5,h6⟩:=sM h3 h1
  refine fin (s:=Instr.box t (a.eval x)) (v:= .lp nx 0 0 0) (ρ':=upd ρ nx ⟨some ⟨w.heap.size,0,none⟩,0⟩) (w':=w.alloc (.cells (SV.eO ρ l).toArray t)) aao ?_ (λi hi=>mR hi) (SV.UO aa) ?_ h4
  ·simp[Instr.box,h2,h6 ρ,newVar,newRow,SV.rf,upd_same,iA]
  ·exact hw.alloc (λy hy=>h5 y hy) ⟨w.heap.size,rfl,λ_=>Iff.rfl,nX _ _⟩
 |store t x y=>
  obtain⟨p,h1,h2,h3⟩:=dJ hs h
  obtain⟨v,h4,h5,h6⟩:=dJ hs h1
  obtain⟨w',H',h7,h8,h9⟩:=Qn hok h4 h6 hw
  unfold Oper.wp
  simp only[execOp,h2,h5,Sem.run_bind,h7,Result.andThen_ok,Sem.run_pure,Oper.upon_skip]
  exact hn (.c undef) ρ H' S nx w' (λ_ _=>rfl) (Nat.le_refl _) (SV.jk _) h8 h9
 |makeMap t r=>
  cases r with
  |some r=>cases hE
  |none=>
  have h:yT H S nx K:=h
  refine fin (s:=Instr.makeMap t none) (v:= .c (.map (some w.heap.size))) (ρ':=upd ρ nx ⟨none,0⟩) (w':=w.alloc (.map #[] 0)) (by simp only[execOp,Option.map_none]) rfl (λi hi=>mR hi) (SV.jk _) ?_ (h.out w.heap.size)
  refine hw.alloc (λy hy=>by simp[bZ.hass]at hy) ⟨λ_=>Iff.rfl,#[],0,nX _ _,λe he=>by simp at he,λk=>rfl⟩
 |mapUpdate t m k x=>
  obtain⟨p,h1,h2,h3⟩:=dJ hs h
  obtain⟨q,h4,h5,h6⟩:=dJ hs h1
  obtain⟨v,h7,h8,h9⟩:=dJ hs h4
  obtain⟨H',h10,h11⟩:=h7.out
  obtain⟨w',h12,h13⟩:=h11 ρ nx w hw
  unfold Oper.wp
  simp only[execOp,h2,h5,h8,Sem.run_bind,h12,Result.andThen_ok,Sem.run_pure,Oper.upon_skip]
  exact hn (.c undef) ρ H' S nx w' (λ_ _=>rfl) (Nat.le_refl _) (SV.jk _) h13 h10
 |insert t m k x=>
  obtain⟨p,h1,h2,h3⟩:=dJ hs h
  obtain⟨q,h4,h5,h6⟩:=dJ hs h1
  obtain⟨v,h7,h8,h9⟩:=dJ hs h4
  obtain⟨H',h10,h11⟩:=h7.out
  obtain⟨w',h12,h13⟩:=h11 ρ nx w hw
  unfold Oper.wp
  simp only[execOp,h2,h5,h8,Sem.run_bind,h12,Result.andThen_ok,Sem.run_pure,Oper.upon_skip]
  exact hn (.c undef) ρ H' S nx w' (λ_ _=>rfl) (Nat.le_refl _) (SV.jk _) h13 h10
 |makeSlice t x y=>
  obtain⟨p,h1,h2,h3⟩:=dJ hs h
  obtain⟨q,h4,h5,h6⟩:=dJ hs h1
  obtain⟨v,ρ',H',w',h7,h8,h9,h10,h11⟩:=Ud hok h4 hw
  refine alM (s:=Instr.makeSlice t (a.eval x) (a.eval y)) aao (by rw[h2,h5];exact h7) h8 h9 h10 h11
 |buildSlice t n ps=>
  obtain⟨l,h1,h2,h3⟩:=FX hs h
  obtain⟨v,ρ',H',w',h7,h8,h9,h10,h11⟩:=Ea hok h3 h1 hw
  have e:(ps.map λ(i,x)=>(i,a.eval x))=(l.map λp=>(p.1,p.2.rf ρ)).toArray:=by
   rw[<-h2];apply Array.ext';simp
  refine alM (s:=Instr.buildSlice t n (ps.map λ(i,x)=>(i,a.eval x))) aao (by rw[e];exact h7) h8 h9 h10 h11
 |call c=>
  simp only[opX]at h
  cases hc:c.callee with
  |builtin b=>
   rw[hc]at h
   dsimp only at h
   cases hb:Ef b with
   |true=>
    obtain rfl:=Uj hb
    rw[hb,cond_true]at h
    obtain⟨l,h1,h2,h3⟩:=pq hs h
    obtain⟨v,ρ',H',w',h7,h8,h9,h10,h11⟩:=M0 hok (ty:=type) h1 hw
    have e1:c.args.map a.eval=(SV.eO ρ l).toArray:=by rw[<-h2];apply Array.ext';simp
    obtain⟨kc,hkc⟩:=G7 (P:=cx.P) a.eval c .append hc type
    unfold Oper.wp
    have:(execOp a.eval ⟨dst,.call c,type,pos,after,guard⟩).run cx.P w= .ok (.value (v.rf ρ')) w':=by
     simp only[execOp]
     rw[hkc w,e1]
     simp only[builtin,Sem.run_bind,h7,Result.andThen_ok,Sem.run_pure]
    obtain⟨v2,H2,S2,g1,g2,g3,g4⟩:=Fj h11 h10 h9
    rw[this,Oper.upon_value,<-g1]
    exact hn v2 ρ' H2 S2 (nx+1) w' h8 (Nat.le_succ _) g2 g3 g4
   |false=>
    rw[hb,cond_false]at h
    refine quiet ?_
    simp only[opQ,hc]
    exact h
  |value f=>
   rw[hc]at h
   obtain⟨fv,h1,h2,h3⟩:=dJ hs h
   obtain⟨l,h4,h5,h6⟩:=pq hs h1
   have e1:c.args.map a.eval=(SV.eO ρ l).toArray:=by rw[<-h5];apply Array.ext';simp
   have run:∀(f':FuncId) (x y:Array Value),a.eval f= .func (.func f') x y->∀w,(execOp a.eval ⟨dst,.call c,type,pos,after,guard⟩).run cx.P w=(callFunc f' (x++(SV.eO ρ l).toArray++y)).run cx.P w:=by
    intro f' x y hf w
    simp only[execOp,resolve,hc,e1,hf,Deferred.ofValue,Sem.run_bind,Sem.run_pure,Result.andThen_ok,invoke]
   unfold aiA at h4
   split at h4
   ·rename_i f' x y
    split at h4
    ·rename_i hx hy
     have hx':x= #[]:=by cases x;simpa using hx
     have hy':y= #[]:=by cases y;simpa using hy
     obtain⟨h7,h8⟩:=zH (as:=x++(SV.eO ρ l).toArray++y) h4 hw (by subst hx';subst hy';simp)
     unfold Oper.wp
     rw[run f' x y Tz w,h7]
     exact rX h8 hn
    ·obtain⟨h7,h8⟩:=zH (as:=x++(SV.eO ρ l).toArray++y) h4 hw ais
     unfold Oper.wp
     rw[run f' x y Tz w,h7]
     exact rX h8 hn
   ·rename_i f' x y
    obtain⟨h7,h8⟩:=zH (as:=(SV.eO ρ x).toArray++(SV.eO ρ l).toArray++(SV.eO ρ y).toArray) h4 hw afX
    unfold Oper.wp
    rw[run f' _ _ Tz w,h7]
    exact rX h8 hn
   ·exact h4.elim
  |invoke r m=>
   rw[hc]at h
   obtain⟨rv,h1,h2,h3⟩:=dJ hs h
   obtain⟨l,h4,h5,h6⟩:=pq hs h1
   have e1:c.args.map a.eval=(SV.eO ρ l).toArray:=by rw[<-h5];apply Array.ext';simp
   unfold ZF at h4
   split at h4
   ·rename_i t v
    rw[R9]at h4
    obtain⟨f,vr,hm,h7,h8⟩:=h4 ρ w hw
    have hrun:(execOp a.eval ⟨dst,.call c,type,pos,after,guard⟩).run cx.P w= .ok (.enter f (vr::SV.eO ρ l).toArray) w:=by
     have hex:(#[Value.iface t (v.rf ρ)]++(SV.eO ρ l).toArray).extract 1 (#[Value.iface t (v.rf ρ)]++(SV.eO ρ l).toArray).size=(SV.eO ρ l).toArray:=by
      apply Array.ext';simp
     have hget:(#[Value.iface t (v.rf ρ)]++(SV.eO ρ l).toArray)[0]? =some (.iface t (v.rf ρ)):=by simp
     have Yi:(vr::SV.eO ρ l).toArray= #[vr]++(SV.eO ρ l).toArray:=by apply Array.ext';simp
     rw[Yi]
     simp only[execOp,resolve,hc,e1,h2,SV.rf,Sem.run_bind,Sem.run_pure,Result.andThen_ok,invoke,hget,hex,callMethod,run_program,hm,h7]
    unfold Oper.wp
    rw[hrun]
    exact rX h8 hn
   ·exact h4.elim
 |_=>cases hE
end
end
section
def ab3(env:Env)(d:Option Tmp)(v:SV):Env:=match d with|some t=>(t,v)::env|none=>env
def zZ(env:Env)(d:Option Tmp)(v:SV)(K:Env->Prop):Prop:=match d with|some t=>K ((t,v)::env)|none=>K env
theorem qh(env:Env)(d:Option Tmp)(v:SV)(K:Env->Prop):zZ env d v K=K (ab3 env d v):=by cases d<;>rfl
theorem Sat.put{n:Nat}{ρ ρ':Nat->Loc}{nx nx':Nat}{env:Env}{a:Act}{d:Option Tmp}{v:SV}(hs:Sat n ρ nx env a)(hr:∀i,i<nx->ρ' i=ρ i)(hn:nx<=nx')(hv:v.lt nx'):Sat n ρ' nx' (ab3 env d v) (a.put d (v.rf ρ')):=by
 have old:∀t u,env.get t=some u->t<n->a.tmps[t]? =some (u.rf ρ'):=λt u hu ht=>by
  rw[hs.val t u hu ht,SV.afT (hs.lt t u hu) (λi hi=>(hr i hi).symm)]
 cases d with
 |none=>exact⟨hs.defers,hs.size,old,λt u hu=>(hs.lt t u hu).mono hn⟩
 |some d=>
  refine⟨hs.defers,by simp[Act.put,hs.size],λt u hu ht=> ?_,λt u hu=> ?_⟩
  ·simp only[ab3,Env.xz]at hu
   simp only[Act.put]
   by_cases hdt:d=t
   ·subst hdt
    rw[if_pos rfl]at hu
    obtain rfl:v=u:=by simpa using hu
    rw[Array.getElem?_setIfInBounds_self_of_lt (by rw[hs.size];exact ht)]
   ·rw[if_neg hdt]at hu
    rw[Array.getElem?_setIfInBounds_ne hdt]
    exact old t u hu ht
  ·simp only[ab3,Env.xz]at hu
   by_cases hdt:d=t
   ·rw[if_pos hdt]at hu
    obtain rfl:v=u:=by simpa using hu
    exact hv
   ·rw[if_neg hdt]at hu
    exact(hs.lt t u hu).mono hn
def Yz:List Oper->Nat->Option Tmp
 |[],_=>none
 |o::r,j=>bif Nat.beq j 0 then o.dst else Yz r (Nat.pred j)
theorem VU:∀(l:List Oper) (j:Nat),Yz l j=(l[j]?).bind (·.dst)
 |[],_=>rfl
 |o::r,0=>rfl
 |o::r,j+1=>by
  have:=VU r j
  show Yz r j=_
  simpa using this
def Fs(n:Nat)(ops:List Oper)(g:Option (Nat×Bool))(env:Env)(K:Bool->Prop):Prop:=
 match g with
 |none=>K true
 |some (j,want)=>(match Yz ops j with
  |none=>K false
  |some t=>bif Nat.ble n t then False else V5 t (λv=>match v,want with
   | .c (.bool true),true=>K true
   | .c (.bool true),false=>K false
   | .c (.bool false),true=>K false
   | .c (.bool false),false=>K true
   | .c (.tuple _),_=>K false
   |_,_=>False) env)
variable {ops:Array Oper} {env:Env} {ρ:Nat->Loc} {nx:Nat}
theorem wm{n:Nat}{o:Oper}{a:Act}{K:Bool->Prop}(hs:Sat n ρ nx env a)(h:Fs n ops.toList o.guard env K):
 K (Region.wanted o (yielded ops a.tmps)):=by
 unfold Fs at h
 unfold Region.wanted
 cases hg:o.guard with
 |none=>rw[hg]at h;exact h
 |some gw=>
  obtain⟨j,want⟩:=gw
  rw[hg]at h
  dsimp only at h|-
  rw[VU]at h
  unfold yielded
  simp only[Array.getElem?_toList]at h
  cases hd:(ops[j]?).bind (·.dst)with
  |none=>rw[hd]at h;exact h
  |some t=>
   rw[hd]at h
   dsimp only at h
   cases hb:Nat.ble n t with
   |true=>rw[hb]at h;exact h.elim
   |false=>
    rw[hb,cond_false]at h
    have ht:t<n:=by
     rcases Nat.lt_or_ge t n with h'|h'
     ·exact h'
     ·rw[Nat.ble_eq_true_of_le h']at hb;cases hb
    obtain⟨v,hv,h⟩:=wS h
    have:=hs.val t v hv ht
    simp only[Option.bind_some,this]
    split at h<;>first|exact h.elim|simpa[SV.rf]using h
def afU(cx:Cx)(ops:List Oper):List Oper->Env->Heap->bN->Nat->(Env->Heap->bN->Nat->Prop)->Prop
 |[],env,H,S,nx,K=>K env H S nx
 |o::r,env,H,S,nx,K=>Fs cx.n ops o.guard env (λb=>match b with
  |true=>opE cx o.op env H S nx (λv H' S' nx'=>zZ env o.dst v λenv'=>afU cx ops r env' H' S' nx' K)
  |false=>zZ env o.dst (.c undef) λenv'=>afU cx ops r env' H S nx K)
structure Wp(cx:Cx)(c:Code)(env:Env)(H:Heap)(S:bN)(nx:Nat)(K:Exit->Env->Heap->bN->Nat->Prop):Prop where
 out:∀ρ a w,Sat cx.n ρ nx env a->eD cx.B ρ nx H S w->c.wp cx.P (λe a' w'=>
  ∃ρ' env' H' S' nx',(∀i,i<nx->ρ' i=ρ i)/\nx<=nx'/\Sat cx.n ρ' nx' env' a'/\eD cx.B ρ' nx' H' S' w'/\K e env' H' S' nx') a w
variable {H:Heap} {S:bN}
theorem kW{cx:Cx}{c:Code}{K:Exit->Env->Heap->bN->Nat->Prop}:Wp cx c env H S nx K=(∀ρ a w,Sat cx.n ρ nx env a->eD cx.B ρ nx H S w->c.wp cx.P (λe a' w'=>
 ∃ρ' env' H' S' nx',(∀i,i<nx->ρ' i=ρ i)/\nx<=nx'/\Sat cx.n ρ' nx' env' a'/\eD cx.B ρ' nx' H' S' w'/\K e env' H' S' nx') a w):=propext ⟨λh=>h.out,λh=>⟨h⟩⟩
structure b_(cx:Cx)(id:Nat)(ops:Array Oper)(env:Env)(H:Heap)(S:bN)(nx:Nat)(K:Env->Heap->bN->Nat->Prop):Prop where
 out:Wp cx (.region id ops true) env H S nx (λe env' H' S' nx'=>e= .normal/\K env' H' S' nx')
theorem EP{cx:Cx}{id:Nat}{K:Env->Heap->bN->Nat->Prop}:b_ cx id ops env H S nx K=(Wp cx (.region id ops true) env H S nx (λe env' H' S' nx'=>e= .normal/\K env' H' S' nx')):=propext ⟨λh=>h.out,λh=>⟨h⟩⟩
def vcC(cx:Cx):Code->Env->Heap->bN->Nat->(Exit->Env->Heap->bN->Nat->Prop)->Prop
 | .skip,env,H,S,nx,K=>K .normal env H S nx
 | .region id ops draw,env,H,S,nx,K=>(match draw with
   |false=>afU cx ops.toList ops.toList env H S nx (λenv' H' S' nx'=>K .normal env' H' S' nx')
   |true=>b_ cx id ops env H S nx (λenv' H' S' nx'=>K .normal env' H' S' nx'))
 | .seq a b,env,H,S,nx,K=>vcC cx a env H S nx (λe env' H' S' nx'=>match e with
   | .normal=>Wp cx b env' H' S' nx' K
   |e=>K e env' H' S' nx')
 | .cond c a b,env,H,S,nx,K=>wP cx.n env c (λv=>match v with
   | .c (.bool true)=>vcC cx a env H S nx K
   | .c (.bool false)=>vcC cx b env H S nx K
   |_=>False)
 | .block id b,env,H,S,nx,K=>vcC cx b env H S nx (λe env' H' S' nx'=>match e with
   | .exit id'=>bif Nat.beq id' id then K .normal env' H' S' nx' else K (.exit id') env' H' S' nx'
   |e=>K e env' H' S' nx')
 | .loop b,env,H,S,nx,K=>Wp cx (.loop b) env H S nx K
 | .exit id,env,H,S,nx,K=>K (.exit id) env H S nx
 | .ret,env,H,S,nx,K=>K .ret env H S nx
 |c,env,H,S,nx,K=>Wp cx c env H S nx K
section
variable {cx:Cx} (hok:∀p∈cx.tab,lV cx.P p.1=some p.2)
include hok in
theorem CP{ops:Array Oper}:∀{l:List Oper} {env:Env} {H:Heap} {S:bN} {nx:Nat} {K:Env->Heap->bN->Nat->Prop} {ρ:Nat->Loc} {a:Act} {w:World} {Q:Exit->Act->World->Prop},
 afU cx ops.toList l env H S nx K->Sat cx.n ρ nx env a->eD cx.B ρ nx H S w->
 (∀ρ' a' env' H' S' nx' w',(∀i,i<nx->ρ' i=ρ i)->nx<=nx'->Sat cx.n ρ' nx' env' a'->eD cx.B ρ' nx' H' S' w'->K env' H' S' nx'->Q .normal a' w')->
 wpList cx.P ops Q l a w
 |[],env,H,S,nx,K,ρ,a,w,Q,h,hs,hw,hq=>hq ρ a env H S nx w (λ_ _=>rfl) (Nat.le_refl _) hs hw h
 |o::r,env,H,S,nx,K,ρ,a,w,Q,h,hs,hw,hq=>by
  unfold afU at h
  have h:=wm hs h
  unfold wpList
  cases hwt:Region.wanted o (yielded ops a.tmps)with
  |true=>
   rw[hwt]at h
   dsimp only at h
   rw[if_pos rfl]
   refine .inl (Pg hok h hs hw ?_)
   intro v ρ' H' S' nx' w' h1 h2 h3 h4 h5
   rw[qh]at h5
   refine CP h5 (hs.put h1 h2 h3) h4 ?_
   intro Qj a'' Tq H'' S'' M6 w'' g1 g2 g4 g5 g6
   exact hq Qj a'' Tq H'' S'' M6 w'' (λi hi=>(g1 i (Nat.lt_of_lt_of_le hi h2)).trans (h1 i hi)) (Nat.le_trans h2 g2) g4 g5 g6
  |false=>
   rw[hwt]at h
   dsimp only at h
   rw[if_neg fP]
   have hp:=hs.put (ρ':=ρ) (nx':=nx) (d:=o.dst) (v:= .c undef) (λ_ _=>rfl) (Nat.le_refl _) (SV.jk _)
   rw[qh]at h
   refine CP h hp hw ?_
   intro Qj a'' Tq H'' S'' M6 w'' g1 g2 g4 g5 g6
   exact hq Qj a'' Tq H'' S'' M6 w'' g1 g2 g4 g5 g6
include hok in
theorem aaF:∀{c:Code} {env:Env} {H:Heap} {S:bN} {nx:Nat} {K:Exit->Env->Heap->bN->Nat->Prop},vcC cx c env H S nx K->Wp cx c env H S nx K:=by
 intro c
 induction c with
 |skip=>
  intro env H S nx K h
  rw[kW]
  intro ρ a w hs hw
  exact wp_skip ⟨ρ,env,H,S,nx,λ_ _=>rfl,Nat.le_refl _,hs,hw,h⟩
 |region id ops draw=>
  intro env H S nx K h
  cases draw with
  |true=>
   simp only[vcC]at h
   rw[EP]at h
   rw[kW]at h|-
   intro ρ a w hs hw
   refine wp_mono (h ρ a w hs hw) ?_
   rintro e a' w' ⟨ρ',env',H',S',nx',h2,h3,h4,h5,rfl,h6⟩
   exact⟨ρ',env',H',S',nx',h2,h3,h4,h5,h6⟩
  |false=>
   simp only[vcC]at h
   rw[kW]
   intro ρ a w hs hw
   refine wp_region_list (CP hok h hs hw ?_)
   intro ρ' a' env' H' S' nx' w' g1 g2 g4 g5 g6
   exact⟨ρ',env',H',S',nx',g1,g2,g4,g5,g6⟩
 |seq x y ihx ihy=>
  intro env H S nx K h
  have hx:=ihx h
  rw[kW]at hx|-
  intro ρ a w hs hw
  refine wp_seq (wp_mono (hx ρ a w hs hw) ?_)
  rintro e a' w' ⟨ρ',env',H',S',nx',h2,h3,h4,h5,h6⟩
  cases e with
  |normal=>
   simp only[Exit.then]
   dsimp only at h6
   refine wp_mono (h6.out ρ' a' w' h4 h5) ?_
   rintro e a'' w'' ⟨Qj,Tq,H'',S'',M6,g2,g3,g4,g5,g6⟩
   exact⟨Qj,Tq,H'',S'',M6,λi hi=>(g2 i (Nat.lt_of_lt_of_le hi h3)).trans (h2 i hi),Nat.le_trans h3 g3,g4,g5,g6⟩
  |_=>exact⟨ρ',env',H',S',nx',h2,h3,h4,h5,h6⟩
 |cond c x y ihx ihy=>
  intro env H S nx K h
  rw[kW]
  intro ρ a w hs hw
  obtain⟨v,h1,h2,h3⟩:=dJ hs h
  match v,h1,h2 with
  | .c (.bool true),h1,h2=>
    have hx:=ihx h1
    rw[kW]at hx
    exact wp_cond_true h2 (hx ρ a w hs hw)
  | .c (.bool false),h1,h2=>
    have hx:=ihy h1
    rw[kW]at hx
    exact wp_cond_false h2 (hx ρ a w hs hw)
 |block id b ih=>
  intro env H S nx K h
  have hb:=ih h
  rw[kW]at hb|-
  intro ρ a w hs hw
  refine wp_block (wp_mono (hb ρ a w hs hw) ?_)
  rintro e a' w' ⟨ρ',env',H',S',nx',g2,g3,g4,g5,g6⟩
  cases e with
  |exit id'=>
   simp only[Exit.inBlock]
   dsimp only at g6
   cases hb:Nat.beq id' id with
   |true=>
    rw[hb,cond_true]at g6
    rw[if_pos (Nat.eq_of_beq_eq_true hb)]
    exact⟨ρ',env',H',S',nx',g2,g3,g4,g5,g6⟩
   |false=>
    rw[hb,cond_false]at g6
    rw[if_neg (Nat.ne_of_beq_eq_false hb)]
    exact⟨ρ',env',H',S',nx',g2,g3,g4,g5,g6⟩
  |_=>exact⟨ρ',env',H',S',nx',g2,g3,g4,g5,g6⟩
 |exit id=>
  intro env H S nx K h
  rw[kW]
  intro ρ a w hs hw
  exact wp_exit ⟨ρ,env,H,S,nx,λ_ _=>rfl,Nat.le_refl _,hs,hw,h⟩
 |ret=>
  intro env H S nx K h
  rw[kW]
  intro ρ a w hs hw
  exact wp_ret ⟨ρ,env,H,S,nx,λ_ _=>rfl,Nat.le_refl _,hs,hw,h⟩
 |_=>intro env H S nx K h;exact h
end
end
theorem Wp.mono{cx:Cx}{c:Code}{env:Env}{H:Heap}{S:bN}{nx:Nat}{K K':Exit->Env->Heap->bN->Nat->Prop}(h:Wp cx c env H S nx K)(hk:∀e env H S nx,K e env H S nx->K' e env H S nx):Wp cx c env H S nx K':=by
 simp only[kW]at*
 intro ρ a w hs hw
 refine wp_mono (h ρ a w hs hw) ?_
 rintro e a' w' ⟨ρ',env',H',S',nx',h2,h3,h4,h5,h6⟩
 exact⟨ρ',env',H',S',nx',h2,h3,h4,h5,hk _ _ _ _ _ h6⟩
abbrev Map:=List (Nat×Option Nat)
def Map.app:Map->Nat->Option Nat
 |[],i=>some i
 |(j,x)::r,i=>bif Nat.beq j i then x else Map.app r i
theorem Map.WK{nx:Nat}:∀{θ:Map},(∀p∈θ,nx<=p.1)->∀{i:Nat},i<nx->Map.app θ i=some i
 |[],_,i,_=>rfl
 |(j,x)::r,h,i,hi=>by
  have hj:=h (j,x) fP
  simp only at hj
  unfold Map.app
  cases hb:Nat.beq j i with
  |true=>have:=Nat.eq_of_beq_eq_true hb;omega
  |false=>exact Map.WK (λp hp=>h p (by simp[hp])) hi
mutual
def SV.bnd(n:Nat):SV->Bool
 | .c _=>true
 | .lp i _ _ _=> !Nat.ble n i
 | .os i _=> !Nat.ble n i
 | .agg l=>SV.BC n l
 | .sN l=>SV.BC n l
 | .fn _ a b=>SV.BC n a&&SV.BC n b
 | .Gd _ v=>v.bnd n
def SV.BC(n:Nat):List SV->Bool
 |[]=>true
 |v::r=>v.bnd n&&SV.BC n r
end
theorem Qb{n i:Nat}(h:(!Nat.ble n i)=true):i<n:=by
 rcases Nat.lt_or_ge i n with h'|h'
 ·exact h'
 ·rw[Nat.ble_eq_true_of_le h']at h;cases h
mutual
theorem SV.PN{n:Nat}:∀{v:SV},v.bnd n=true->v.lt n
 | .c _,_=>SV.jk _
 | .lp i _ _ _,h=>SV.UO (Qb h)
 | .os i _,h=>SV.y8 (Qb h)
 | .agg l,h=>SV.AA.2 (SV.vR h)
 | .sN l,h=>SV.Qy.2 (SV.vR h)
 | .fn _ a b,h=>by
   simp only[SV.bnd,Bool.and_eq_true]at h
   exact SV.ait.2 ⟨SV.vR h.1,SV.vR h.2⟩
 | .Gd _ v,h=>SV.afD.2 (SV.PN h)
theorem SV.vR{n:Nat}:∀{l:List SV},SV.BC n l=true->SV.KU n l
 |[],_=>λi hi=>by simp[SV.hass]at hi
 |v::r,h=>by
  simp only[SV.BC,Bool.and_eq_true]at h
  have h1:=SV.PN h.1
  have h2:=SV.vR h.2
  intro i hi
  simp only[SV.hass,Bool.or_eq_true]at hi
  exact hi.elim (h1 i) (h2 i)
end
def qV(θ:Map)(ρ:Nat->Loc):Nat->Loc:=λi=>match θ.app i with|some j=>ρ j|none=>⟨none,0⟩
mutual
theorem SV.PT(θ:Map)(ρ:Nat->Loc):∀v:SV,(v.ren θ.app).rf ρ=v.rf (qV θ ρ)
 | .c _=>rfl
 | .lp i j k f=>by
   simp only[SV.ren,SV.rf,qV]
   cases h:θ.app i<;>rfl
 | .os i len=>by
   simp only[SV.ren,SV.rf,qV]
   cases h:θ.app i<;>rfl
 | .agg l=>by simp only[SV.ren,SV.rf];rw[SV.yV θ ρ l]
 | .sN l=>by simp only[SV.ren,SV.rf];rw[SV.yV θ ρ l]
 | .fn f a b=>by simp only[SV.ren,SV.rf];rw[SV.yV θ ρ a,SV.yV θ ρ b]
 | .Gd t v=>by simp only[SV.ren,SV.rf];rw[SV.PT θ ρ v]
theorem SV.yV(θ:Map)(ρ:Nat->Loc):∀l:List SV,SV.eO ρ (SV.t_ θ.app l)=SV.eO (qV θ ρ) l
 |[]=>rfl
 |v::r=>by simp only[SV.t_,SV.eO];rw[SV.PT θ ρ v,SV.yV θ ρ r]
end
def Qa(θ:Map)(env:Env):List (Nat×SV)->Prop
 |[]=>True
 |(t,v)::r=>env.get t=some (v.ren θ.app)/\Qa θ env r
def bZ.nil:bZ->Prop
 | .rows xs _ _=>xs=[]
 |_=>False
def kU(θ:Map)(H:Heap):Heap->Prop
 |[]=>True
 |(i,e)::r=>(match θ.app i with
  |some j=>(j,e.ren θ.app)∈H
  |none=>e.nil)/\kU θ H r
def bZ.bnd(n:Nat):bZ->Bool
 | .box l _=>SV.BC n l
 |_=>true
def NV(n:Nat):Env->Bool
 |[]=>true
 |(_,v)::r=>v.bnd n&&NV n r
def q9(n:Nat):Heap->Bool
 |[]=>true
 |(i,e)::r=> !Nat.ble n i&&e.bnd n&&(r.all λp=> !Nat.beq i p.1)&&q9 n r
def vM(nx:Nat)(θ:Map):Heap->Bool
 |[]=>θ.all λp=>Nat.ble nx p.1
 |(i,_)::r=>(r.all λp=>match θ.app i,θ.app p.1 with|some a,some b=> !Nat.beq a b|_,_=>true)&&vM nx θ r
structure Into(nx:Nat)(env:Env)(H:Heap)(S:bN)(θ:Map)(vals:Env)(hp:Heap)(as:bN):Prop where
 map:vM nx θ hp=true
 env:Qa θ env vals
 heap:kU θ H hp
 tq:∀R w,S.holds R w->as.holds R w
theorem DK{θ:Map}{env:Env}:∀{vals:Env},Qa θ env vals->∀{t:Nat} {v:SV},vals.get t=some v->env.get t=some (v.ren θ.app)
 |[],_,t,v,h=>by cases h
 |(j,u)::r,hi,t,v,h=>by
  rw[Env.xz]at h
  by_cases hj:j=t
  ·subst hj
   rw[if_pos rfl]at h
   obtain rfl:u=v:=by simpa using h
   exact hi.1
  ·rw[if_neg hj]at h
   exact DK hi.2 h
theorem Li{n:Nat}:∀{vals:Env},NV n vals=true->∀{t:Nat} {v:SV},vals.get t=some v->v.lt n
 |[],_,t,v,h=>by cases h
 |(j,u)::r,hi,t,v,h=>by
  simp only[NV,Bool.and_eq_true]at hi
  rw[Env.xz]at h
  by_cases hj:j=t
  ·rw[if_pos hj]at h
   obtain rfl:u=v:=by simpa using h
   exact SV.PN hi.1
  ·rw[if_neg hj]at h
   exact Li hi.2 h
theorem iw{θ:Map}{H:Heap}:∀{hp:Heap},kU θ H hp->∀{p:Nat×bZ},p∈hp->(match θ.app p.1 with|some j=>(j,p.2.ren θ.app)∈H|none=>p.2.nil)
 |[],_,p,h=>by cases h
 |(i,e)::r,hi,p,h=>by
  rcases List.mem_cons.1 h with rfl|h
  ·exact hi.1
  ·exact iw hi.2 h
theorem wB{n:Nat}:∀{hp:Heap},q9 n hp=true->(∀p∈hp,p.1<n/\p.2.lt n)/\hp.Pairwise λp q=>p.1≠q.1
 |[],_=>⟨by simp,.nil⟩
 |(i,e)::r,h=>by
  simp only[q9,Bool.and_eq_true,List.all_eq_true,Bool.not_eq_true']at h
  obtain⟨⟨⟨h1,h2⟩,h3⟩,h4⟩:=h
  obtain⟨h5,h6⟩:=wB h4
  refine⟨λp hp=> ?_,List.pairwise_cons.2 ⟨λp hp=>Nat.ne_of_beq_eq_false (h3 p hp),h6⟩⟩
  rcases List.mem_cons.1 hp with rfl|hp
  ·refine⟨Qb (by simpa using h1),?_⟩
   cases e with
   |box l T=>exactλx hx=>SV.vR h2 x hx
   |rows xs k T=>exactλx hx=>by simp[bZ.hass]at hx
   |ext o=>exactλx hx=>by simp[bZ.hass]at hx
  ·exact h5 p hp
theorem yh{nx:Nat}{θ:Map}:∀{hp:Heap},vM nx θ hp=true->(∀p∈θ,nx<=p.1)/\hp.Pairwise λp q=>∀a b,θ.app p.1=some a->θ.app q.1=some b->a≠b
 |[],h=>by
  simp only[vM,List.all_eq_true]at h
  exact⟨λp hp=>Nat.le_of_ble_eq_true (h p hp),.nil⟩
 |(i,e)::r,h=>by
  simp only[vM,Bool.and_eq_true,List.all_eq_true]at h
  obtain⟨h5,h6⟩:=yh h.2
  refine⟨h5,List.pairwise_cons.2 ⟨λp hp a b ha hb=> ?_,h6⟩⟩
  have:=h.1 p hp
  simp only at ha
  rw[ha,hb]at this
  exact Nat.ne_of_beq_eq_false (by simpa using this)
theorem bZ.ET{θ:Map}{ρ:Nat->Loc}{l:Loc}{F:Nat->Prop}{w:World}{e:bZ}(h:(e.ren θ.app).holds ρ l F w):e.holds (qV θ ρ) l F w:=by
 cases e with
 |box cs T=>
  obtain⟨b,h1,h2,h3⟩:=h
  exact⟨b,h1,h2,by rw[<-SV.yV];exact h3⟩
 |rows xs k T=>exact h
 |ext o=>exact h
theorem Into.sound{cx:Cx}{nx n1 nx':Nat}{env:Env}{H:Heap}{S:bN}{θ:Map}{vals:Env}{hp:Heap}{as:bN}(h:Into nx env H S θ vals hp as)(hv:NV n1 vals=true)(hh:q9 n1 hp=true)
 (hn:nx<=n1) (z_:∀p∈cx.B.pin,p.1<nx) {ρ:Nat->Loc} {a:Act} {w:World} (hs:Sat cx.n ρ nx' env a) (hw:eD cx.B ρ nx' H S w):
 Sat cx.n (qV θ ρ) n1 vals a/\eD cx.B (qV θ ρ) n1 hp as w/\∀i,i<nx->qV θ ρ i=ρ i:=by
 obtain⟨hm,he,hhp,has⟩:=h
 obtain⟨hm1,hm2⟩:=yh hm
 have hlow:∀i,i<nx->qV θ ρ i=ρ i:=λi hi=>by simp only[qV,Map.WK hm1 hi]
 refine⟨⟨hs.defers,hs.size,λt v ht htn=> ?_,λt v ht=>Li hv ht⟩,?_,hlow⟩
 ·rw[hs.val t _ (DK he ht) htn,SV.PT]
 ·obtain⟨R,φ,hw⟩:=hw
  obtain⟨hk1,hk2⟩:=wB hh
  refine⟨R,λi x=>match θ.app i with|some j=>φ j x|none=>False,hw.os,hw.tape,hw.output,hw.size,λp hp=>⟨Nat.lt_of_lt_of_le (z_ p hp) hn,by rw[hlow _ (z_ p hp)];exact(hw.pin p hp).2⟩,hw.ro,has R w hw.tq,hk1,?_,?_,?_⟩
  ·intro p hp
   have:=iw hhp hp
   cases hq:θ.app p.1 with
   |some j=>
    rw[hq]at this
    have h1:=bZ.ET (hw.kV _ this)
    have:qV θ ρ p.1=ρ j:=by simp only[qV,hq]
    rw[this]
    simpa only[hq]using h1
   |none=>
    rw[hq]at this
    have hl:qV θ ρ p.1=⟨none,0⟩:=by simp only[qV,hq]
    rw[hl]
    cases hpe:p.2 with
    |rows xs k T=>
     rw[hpe]at this
     have hx:xs=[]:=this
     subst hx
     exact⟨by simp,Nat.le_refl _,.inl ⟨rfl,rfl,λx hx=>by simp[hq]at hx⟩⟩
    |box l T=>rw[hpe]at this;exact this.elim
    |ext o=>rw[hpe]at this;exact this.elim
  ·intro p hp b hb
   have:=iw hhp hp
   cases hq:θ.app p.1 with
   |some j=>
    rw[hq]at this
    simp only[hq]at hb
    exact hw.apart _ this b hb
   |none=>simp only[hq]at hb
  ·have O6:=hk2.and hm2
   refine List.Pairwise.imp_of_mem (R:=λp q=>p.1≠q.1/\∀a b,θ.app p.1=some a->θ.app q.1=some b->a≠b) (λ{p q} hp hq hpq=>⟨hpq.1,λb hb hb'=> ?_⟩) O6
   have h1:=iw hhp hp
   have h2:=iw hhp hq
   cases hq1:θ.app p.1 with
   |none=>simp only[hq1]at hb
   |some j1=>
    cases hq2:θ.app q.1 with
    |none=>simp only[hq2]at hb'
    |some j2=>
     rw[hq1]at h1
     rw[hq2]at h2
     simp only[hq1]at hb
     simp only[hq2]at hb'
     have hne:=hpq.2 j1 j2 hq1 hq2
     have apart:∀{H:Heap},H.Pairwise (λp q=>p.1≠q.1/\∀b,φ p.1 b->¬φ q.1 b)->∀{p q:Nat×bZ},p∈H->q∈H->p.1≠q.1->∀b,φ p.1 b->¬φ q.1 b:=by
      intro H hs
      induction H with
      |nil=>intro p q hp;cases hp
      |cons x r ih=>
       obtain⟨hx,hr⟩:=List.pairwise_cons.1 hs
       intro p q hp hq hne b hb hb'
       rcases List.mem_cons.1 hp with gp|gp<;>rcases List.mem_cons.1 hq with gq|gq
       ·exact hne Zw
       ·rw[<-gp]at hx;exact(hx _ gq).2 b hb hb'
       ·rw[<-gq]at hx;exact(hx _ gp).2 b hb' hb
       ·exact ih hr gp gq hne b hb hb'
     exact apart hw.sep h1 h2 hne b hb hb'
theorem Wp.loop{cx:Cx}{body:Code}{env:Env}{H:Heap}{S:bN}{nx:Nat}{K:Exit->Env->Heap->bN->Nat->Prop}{σ:Type}(n1:Nat)(vals:σ->Env)(hp:σ->Heap)(as:σ->bN)(Inv:σ->Prop)(μ:σ->Nat)(s0:σ)(θ0:Map)
 (hn:nx<=n1) (hwf:∀s,NV n1 (vals s)=true/\q9 n1 (hp s)=true) (h0:Inv s0) (hi:Into nx env H S θ0 (vals s0) (hp s0) (as s0))
 (hbody:∀s,Inv s->Wp cx body (vals s) (hp s) (as s) n1 (λe env' H' S' nx'=>match e with
   | .normal=>∃s' θ,Inv s'/\μ s'<μ s/\Into nx env' H' S' θ (vals s') (hp s') (as s')
   |e=>K e env' H' S' nx')):Wp cx (.loop body) env H S nx K:=by
 simp only[kW]at*
 intro ρ a w hs hw
 have z_:∀p∈cx.B.pin,p.1<nx:=by
  obtain⟨R,φ,hw⟩:=hw
  exactλp hp=>(hw.pin p hp).1
 refine wp_loop_ghost (λm a' w'=>∃s ρh,Inv s/\μ s=m/\(∀i,i<nx->ρh i=ρ i)/\Sat cx.n ρh n1 (vals s) a'/\eD cx.B ρh n1 (hp s) (as s) w') (μ s0) ?_ ?_
 ·obtain⟨h1,h2,h3⟩:=hi.sound (hwf s0).1 (hwf s0).2 hn z_ hs hw
  exact⟨s0,_,h0,rfl,h3,h1,h2⟩
 ·rintro m a' w' ⟨s,ρh,h1,rfl,h2,h3,h4⟩
  refine wp_mono (hbody s h1 ρh a' w' h3 h4) ?_
  rintro e a'' w'' ⟨ρ',env',H',S',nx',g1,g2,g3,g4,g5⟩
  cases e with
  |normal=>
   obtain⟨s',θ,k1,k2,k3⟩:=g5
   obtain⟨k4,k5,k6⟩:=k3.sound (hwf s').1 (hwf s').2 hn z_ g3 g4
   exact⟨μ s',k2,s',_,k1,rfl,λi hi=>(k6 i hi).trans ((g1 i (Nat.lt_of_lt_of_le hi hn)).trans (h2 i hi)),k4,k5⟩
  |_=>exact⟨ρ',env',H',S',nx',λi hi=>(g1 i (Nat.lt_of_lt_of_le hi hn)).trans (h2 i hi),Nat.le_trans hn g2,g3,g4,g5⟩
section
structure jI(B:Base)(v:SV)(H:Heap)(S:bN)(nx:Nat)(R:Ending->World->Prop):Prop where
 out:∀ρ w,eD B ρ nx H S w->R (.returned (v.rf ρ)) w
variable {B:Base} {H:Heap} {S:bN} {nx:Nat} {R:Ending->World->Prop}
theorem Vs{v:SV}:jI B v H S nx R=(∀ρ w,eD B ρ nx H S w->R (.returned (v.rf ρ)) w):=propext ⟨λh=>h.out,λh=>⟨h⟩⟩
def KD(cx:Cx)(env:Env)(H:Heap)(S:bN)(K:List SV->Prop):List ResultVar->Prop
 |[]=>K []
 | .tmp t::r=>bif Nat.ble cx.n t then False else V5 t (λv=>KD cx env H S (λl=>K (v::l)) r) env
 | .cell a t::r=>bif Nat.ble cx.n a then False else V5 a (λp=>match p with
    | .lp i j k f=>YM cx t (.lp i j k f) H S (λv=>KD cx env H S (λl=>K (v::l)) r)
    |_=>False) env
def oneOf:List SV->SV
 |[v]=>v
 |l=> .sN l
def TK(cx:Cx)(rs:List ResultVar)(R:Ending->World->Prop):Exit->Env->Heap->bN->Nat->Prop
 | .normal,env,H,S,nx=>KD cx env H S (λl=>jI cx.B (oneOf l) H S nx R) rs
 | .ret,env,H,S,nx=>KD cx env H S (λl=>jI cx.B (oneOf l) H S nx R) rs
 |_,_,_,_,_=>False
section
variable {cx:Cx} (hok:∀p∈cx.tab,lV cx.P p.1=some p.2)
def Jv(tmps:Array Value):ResultVar->Sem Value:=λ
    | .tmp t=>pure (tmps.getD t undef)
    | .cell a t=>do loadVar t (<-asAddr (tmps.getD a undef))
include hok in
theorem AP{env:Env}{H:Heap}{S:bN}{nx:Nat}{ρ:Nat->Loc}{a:Act}{w:World}(hs:Sat cx.n ρ nx env a)(hw:eD cx.B ρ nx H S w):∀{rs:List ResultVar} {K:List SV->Prop},KD cx env H S K rs->
 ∃l,K l/\SV.KU nx l/\(rs.mapM (Jv a.tmps)).run cx.P w= .ok (SV.eO ρ l) w
 |[],K,h=>⟨[],h,λi hi=>by simp[SV.hass]at hi,by simp[SV.eO]⟩
 | .tmp t::r,K,h=>by
   unfold KD at h
   cases hb:Nat.ble cx.n t with
   |true=>rw[hb]at h;exact h.elim
   |false=>
    rw[hb,cond_false]at h
    have ht:t<cx.n:=by
     rcases Nat.lt_or_ge t cx.n with h'|h'
     ·exact h'
     ·rw[Nat.ble_eq_true_of_le h']at hb;cases hb
    obtain⟨v,hv,h⟩:=wS h
    obtain⟨l,h1,h2,h3⟩:=AP hs hw h
    have hv':=hs.val t v hv ht
    refine⟨v::l,h1,λi hi=> ?_,?_⟩
    ·simp only[SV.hass,Bool.or_eq_true]at hi
     exact hi.elim (hs.lt t v hv i) (h2 i)
    ·simp[List.mapM_cons,Jv,Array.getD_eq_getD_getElem?,hv',h3,SV.eO]
 | .cell x t::r,K,h=>by
   unfold KD at h
   cases hb:Nat.ble cx.n x with
   |true=>rw[hb]at h;exact h.elim
   |false=>
    rw[hb,cond_false]at h
    have ht:x<cx.n:=by
     rcases Nat.lt_or_ge x cx.n with h'|h'
     ·exact h'
     ·rw[Nat.ble_eq_true_of_le h']at hb;cases hb
    obtain⟨p,hp,h⟩:=wS h
    match p,hp,h with
    | .lp i j k f,hp,h=>
      have hH:∀q∈H,q.2.lt nx:=λq hq=>by obtain⟨R,φ,hw1⟩:=hw;exact(hw1.key q hq).2
      obtain⟨v,h4,h5,h6⟩:=Ho hok (ρ:=ρ) (nx:=nx) h hH
      obtain⟨l,h1,h2,h3⟩:=AP hs hw h5
      have hp':=hs.val x _ hp ht
      have h6:=h6 w hw
      refine⟨v::l,h1,λi hi=> ?_,?_⟩
      ·simp only[SV.hass,Bool.or_eq_true]at hi
       exact hi.elim (h4 i) (h2 i)
      ·simp only[Instr.loadAt]at h6
       have h7:(asAddr ((SV.lp i j k f).rf ρ)>>=λa=>loadVar t a).run cx.P w= .ok (v.rf ρ) w:=by
        revert h6
        simp only[SV.rf]
        cases(ρ i).base with
        |none=>intro h6;simp[Instr.sureAddr]at h6
        |some b=>intro h6;simpa[Instr.sureAddr,asAddr]using h6
       simp only[List.mapM_cons,Jv,Array.getD_eq_getD_getElem?,hp',Option.getD_some,Sem.run_bind (P:=cx.P)]
       simp only[Sem.run_bind]at h7
       rw[h7]
       simp[h3,SV.eO]
variable {fn:Func} {w:World}
theorem F7{tmps:Array Value}{P:Program}{l:List Value}(h:(fn.results.toList.mapM (Jv tmps)).run P w= .ok l w):
 (results fn tmps).run P w= .ok (if h:l.toArray.size=1 then l.toArray[0]else .tuple l.toArray) w:=by
 have e:results fn tmps=(do let vs<-fn.results.mapM (Jv tmps);pure (if h:vs.size=1 then vs[0]else .tuple vs)):=rfl
 rw[e,Array.mapM_eq_mapM_toList]
 simp[h]
theorem U6(ρ:Nat->Loc)(l:List SV):(oneOf l).rf ρ=(if h:(SV.eO ρ l).toArray.size=1 then(SV.eO ρ l).toArray[0]else .tuple (SV.eO ρ l).toArray):=by
 match l with
 |[]=>rfl
 |[v]=>rfl
 |a::b::r=>simp[oneOf,SV.rf,SV.eO]
def number:Nat->List SV->Env
 |_,[]=>[]
 |n,v::r=>(n,v)::number (n+1) r
theorem vo:∀{l:List SV} {n t:Nat} {v:SV},(number n l).get t=some v->∃j,t=n+j/\l[j]? =some v
 |[],n,t,v,h=>by cases h
 |u::r,n,t,v,h=>by
  simp only[number,Env.xz]at h
  by_cases hn:n=t
  ·rw[if_pos hn]at h
   exact⟨0,by omega,by simpa using h⟩
  ·rw[if_neg hn]at h
   obtain⟨j,h1,h2⟩:=vo h
   exact⟨j+1,by omega,by simpa using h2⟩
end
variable {f:FuncId} {fn:Func} {c:Code} {rs:List ResultVar} {w:World} {args:Array Value}
theorem Uf{P:Program}{n:Nat}(tab:List (Nat×TI))(hok:∀p∈tab,lV P p.1=some p.2)(hf:P.funcs[f]? =some fn)(hb:fn.body=some c)(hn:fn.ntmps=n)(hrs:fn.results.toList=rs)
 (pin:List (Nat×Loc)) (ρ0:Nat->Loc) (Sy:List SV) (H0:Heap) (S0:bN) (sQ:Nat) (hargs:args=(SV.eO ρ0 Sy).toArray) (hlt:SV.BC sQ Sy=true) (hlen:Sy.length<=n)
 (ajh:eD ⟨w,pin⟩ ρ0 sQ H0 S0 w) (h:Wp ⟨P,⟨w,pin⟩,n,tab⟩ c (number 0 Sy) H0 S0 sQ (TK ⟨P,⟨w,pin⟩,n,tab⟩ rs R)):Calls P f args w R:=by
 subst hn
 subst hrs
 refine calls_of_wp hf hb ?_
 rw[kW]at h
 have hsz:args.size=Sy.length:=by subst hargs;simp[jV]
 refine wp_mono (h ρ0 _ w ?_ ajh) ?_
 ·refine⟨rfl,by simp;omega,λt v hv ht=> ?_,λt v hv=> ?_⟩
  ·obtain⟨j,rfl,hj⟩:=vo hv
   have hjl:=(List.getElem?_eq_some_iff.1 hj).1
   simp only[Nat.zero_add]
   rw[Array.getElem?_append_left aa]
   subst hargs
   simp[SV.om,hj]
  ·obtain⟨j,rfl,hj⟩:=vo hv
   exact SV.oJ.1 (SV.vR hlt) v (List.mem_of_getElem? hj)
 ·rintro e a' w' ⟨ρ',env',H',S',nx',h2,h3,h4,h5,h6⟩
  have fin:∀{Q:Prop},(KD ⟨P,⟨w,pin⟩,fn.ntmps,tab⟩ env' H' S' (λl=>jI ⟨w,pin⟩ (oneOf l) H' S' nx' R) fn.results.toList)->(a'.defers=[]/\∃v,(results fn a'.tmps).run P w'= .ok v w'/\R (.returned v) w'):=by
   intro Q h6
   obtain⟨l,g1,g2,g3⟩:=AP (cx:=⟨P,⟨w,pin⟩,fn.ntmps,tab⟩) hok h4 h5 h6
   rw[Vs]at g1
   have:=g1 ρ' w' h5
   rw[U6]at this
   exact⟨h4.defers,_,F7 g3,this⟩
  cases e with
  |normal=>exact fin (Q:=True) h6
  |ret=>exact fin (Q:=True) h6
  |_=>exact h6.elim
def aO(w0:World):bN where
 holds R w:=∀b,b<w0.heap.size->R b/\w.heap[b]? =w0.heap[b]?
 stable:=λhR hw h b hb=>⟨hR b (h b hb).1,(hw b (h b hb).1).trans (h b hb).2⟩
theorem afG(w:World):eD ⟨w,[]⟩ (λ_=>⟨none,0⟩) 0 [] (aO w) w:=
 ⟨λb=>b<w.heap.size,λ_ _=>False,rfl,rfl,rfl,Nat.le_refl _,by simp,λ_ h=>h,λb hb=>⟨hb,rfl⟩,by simp,by simp,by simp,.nil⟩
variable {ρ:Nat->Loc}
theorem aZ(h:eD B ρ nx H S w)(hS:∀R w',S.holds R w'->(aO B.w0).holds R w'):Ext B.w0 w:=by
 obtain⟨R,φ,h⟩:=h
 exact⟨h.os,h.tape,h.output,h.size,λb hb=>(hS R w h.tq b hb).2⟩
variable {tab:List (Nat×TI)}
theorem Ez{P:Program}{n:Nat}(hf:P.funcs[f]? =some fn)(pin:List (Nat×Loc))(ρ0:Nat->Loc)(Sy:List SV)(H0:Heap)(S0:bN)(sQ:Nat)(ajh:eD ⟨w,pin⟩ ρ0 sQ H0 S0 w)(h:Wp ⟨P,⟨w,pin⟩,n,tab⟩ c (number 0 Sy) H0 S0 sQ (TK ⟨P,⟨w,pin⟩,n,tab⟩ rs R))(hok:∀p∈tab,lV P p.1=some p.2:=by exact bQ)(hb:fn.body=some c:=by exact rfl)(hn:fn.ntmps=n:=by exact rfl)(hrs:fn.results.toList=rs:=by exact rfl)(hargs:args=(SV.eO ρ0 Sy).toArray:=by exact rfl)(hlt:SV.BC sQ Sy=true:=by exact rfl)(hlen:Sy.length<=n:=by exact Nat.le_of_ble_eq_true rfl):Calls P f args w R:=
 Uf tab hok hf hb hn hrs pin ρ0 Sy H0 S0 sQ hargs hlt hlen ajh h
theorem fH{P:Program}{n:Nat}(hf:P.funcs[f]? =some fn)(Sy:List SV)(h:Wp ⟨P,⟨w,[]⟩,n,tab⟩ c (number 0 Sy) [] (aO w) 0 (TK ⟨P,⟨w,[]⟩,n,tab⟩ rs R))(hok:∀p∈tab,lV P p.1=some p.2:=by exact bQ)(hb:fn.body=some c:=by exact rfl)(hn:fn.ntmps=n:=by exact rfl)(hrs:fn.results.toList=rs:=by exact rfl)(hargs:args=(SV.eO (λ_=>⟨none,0⟩) Sy).toArray:=by exact rfl)(hlt:SV.BC 0 Sy=true:=by exact rfl)(hlen:Sy.length<=n:=by exact Nat.le_of_ble_eq_true rfl):Calls P f args w R:=
 Uf tab hok hf hb hn hrs [] (λ_=>⟨none,0⟩) Sy [] (aO w) 0 hargs hlt hlen (afG w) h
end
section
def going:Code->Bool
 | .loop _=>false
 | .rangeFunc _ _ _ _=>false
 | .scope _=>false
 | .label _=>false
 | .goto _=>false
 | .refuse _=>false
 |_=>true
variable {cx:Cx} {H:Heap} {S:bN} {nx:Nat}
theorem Wp.go(hok:∀p∈cx.tab,lV cx.P p.1=some p.2){c:Code}{env:Env}{K:Exit->Env->Heap->bN->Nat->Prop}(_hg:going c=true)(h:vcC cx c env H S nx K):Wp cx c env H S nx K:=aaF hok h
variable {z:Int} {K:Int->Prop}
theorem wrap_i64(h1: -9223372036854775808<=z)(h2:z<=9223372036854775807)(h:K z):iL .i64 z K:=by
 rw[pY]
 rw[IntWalk.i64_in z ⟨h1,h2⟩];exact h
variable {y:Int}
theorem agQ{k:IntKind}(e:k.wrap z=y)(h:K y):iL k z K:=by rw[pY];rw[e];exact h
theorem cu{p:Prop}[Decidable p]{K:Bool->Prop}(hp:p)(h:K true):eZ p K:=by
 rw[zy];exact⟨λ_=>h,λhn=>absurd hp hn⟩
theorem dA{p:Prop}[Decidable p]{K:Bool->Prop}(hp:¬p)(h:K false):eZ p K:=by
 rw[zy];exact⟨λhy=>absurd hy hp,λ_=>h⟩
theorem ag{p:Prop}[Decidable p]{K:Bool->Prop}(h1:p->K true)(h2:¬p->K false):eZ p K:=by
 rw[zy];exact⟨h1,h2⟩
variable {x:Int}
theorem div_pos{k:IntKind}(hk:k= .i64)(h0:0<=x)(h1:x<=9223372036854775807)(hy:0<y)(h:K (x/y)):wK k x y K:=by
 subst hk
 rw[Mf]
 refine⟨by omega,?_⟩
 have e:x.tdiv y=x/y:=Int.tdiv_eq_ediv_of_nonneg h0
 have e1:0<=x/y:=Int.ediv_nonneg h0 aa
 have e2:x/y<=x:=Int.ediv_le_self y h0
 rw[e,IntWalk.i64_in _ ⟨by omega,by omega⟩];exact h
theorem Ih(h0:0<=x)(hy:y≠0)(h:K (x%y)):CQ x y K:=by
 rw[TS]
 refine⟨hy,?_⟩
 rw[Int.tmod_eq_emod_of_nonneg h0];exact h
theorem dH{B:Base}{v:SV}{R:Ending->World->Prop}(h:∀ρ w,eD B ρ nx H S w->R (.returned (v.rf ρ)) w):jI B v H S nx R:=by rw[Vs];exact h
variable {m:Nat}
theorem gY{n:Nat}{K:Prop}(h:m<=n)(hk:K):vO m n K:=by rw[IL];exact⟨h,hk⟩
theorem Jd{n:Nat}{K:Prop}(h:m<n)(hk:K):ltK m n K:=by rw[Qw];exact⟨h,hk⟩
theorem dP{n:Nat}{K:Prop}(h:m*n<=140737488355328)(hk:K):gP m n K:=by rw[Bj];exact⟨h,hk⟩
variable {l c:Int} {bytes:Nat}
theorem jC{K:Nat->Prop}(n:Nat)(hl:l=n)(hc:c=n)(hb:bytes*n<=281474976710656)(h63:n<=9223372036854775807)(h:K n):mJ l c bytes K:=by
 rw[ED];exact⟨n,n,hl,hc,Nat.le_refl _,hb,h63,h⟩
theorem RZ{K:Nat->Prop}(n m:Nat)(hl:l=n)(hc:c=m)(hnm:n<=m)(hb:bytes*m<=281474976710656)(h63:m<=9223372036854775807)(h:K n):mJ l c bytes K:=by
 rw[ED];exact⟨n,m,hl,hc,hnm,hb,h63,h⟩
variable {base:Option Addr} {len size:Nat}
theorem aH{K:SV->Prop}(a:Addr)(j:Nat)(hb:base=some a)(hz:z=j)(hj:j<len)(h:K (.c (.pointer (some (a.add (j*size)))))):bV base len size z K:=by
 rw[Mi]
 subst hz
 exact⟨a,hb,by omega,by omega,by simpa using h⟩
theorem bg{i:Nat}{K:SV->Prop}(j:Nat)(hz:z=j)(hj:j<len)(hl:len<=m)(h:K (.lp i j size 0)):di i len m size z K:=by
 rw[F3];exact⟨j,hz,hj,hl,h⟩
variable {xs:List (List Value)} {j f:Nat}
theorem row_of{K:Value->Prop}(r:List Value)(v:Value)(h1:xs[j]? =some r)(h2:r[f]? =some v)(h:K v):mq xs j f K:=by rw[U4];exact⟨r,v,h1,h2,h⟩
theorem AO{n:Nat}{K:List Value->Prop}(r l:List Value)(h1:xs[j]? =some r)(hl:l.length=n)(h2:(r.drop f).take n=l)(h:K l):Br xs j f n K:=by rw[Gr];exact⟨r,l,h1,hl,h2,h⟩
theorem iW{vs:List Value}{K:List (List Value)->Prop}(r:List Value)(h1:xs[j]? =some r)(hf:f+vs.length<=r.length)(h:K (xs.set j (bW r f vs))):cO xs j f vs K:=by
 rw[BZ];exact⟨r,h1,hf,h⟩
variable {args:List SV}
theorem aQ{f:FuncId}{K:SV->Heap->bN->Nat->Prop}(hf:∀as w,(callFunc f as).run cx.P w= .ok (.enter f as) w)(val:Value)
 (hc:∀ρ w,eD cx.B ρ nx H S w->Calls cx.P f (SV.eO ρ args).toArray w (λe w'=>e= .returned val/\Ext w w')) (h:K (.c val) H S nx):aI cx f args H S nx K:=by
 rw[gN]
 refine⟨hf,λρ w hw=>(hc ρ w hw).mono ?_⟩
 rintro e w' ⟨rfl,he⟩
 exact⟨.c val,ρ,H,S,nx,rfl,λ_ _=>rfl,Nat.le_refl _,SV.jk _,hw.ext he,h⟩
theorem N_{f:FuncId}{K:SV->Heap->bN->Nat->Prop}(hf:∀as w,(callFunc f as).run cx.P w= .ok (.enter f as) w){α:Type}(val:α->Value)(p:α->Prop)
 (hc:∀ρ w,eD cx.B ρ nx H S w->Calls cx.P f (SV.eO ρ args).toArray w (λe w'=>∃x,p x/\e= .returned (val x)/\Ext w w')) (h:∀x,p x->K (.c (val x)) H S nx):aI cx f args H S nx K:=by
 rw[gN]
 refine⟨hf,λρ w hw=>(hc ρ w hw).mono ?_⟩
 rintro e w' ⟨x,hp,rfl,he⟩
 exact⟨.c (val x),ρ,H,S,nx,rfl,λ_ _=>rfl,Nat.le_refl _,SV.jk _,hw.ext he,h x hp⟩
def bu(w:World)(base:Option Addr)(k:Nat)(xs:List (List Value)):Prop:=
 xs=[]\/∃a,base=some a/\∀i r,xs[i]? =some r->∀j v,r[j]? =some v->w.cell? (a.add (i*k+j))=some v
variable {k:Nat}
theorem PX{a:Addr}{K:SV->Prop}(hx:∀R w,S.holds R w->bu w (some a) k xs)(r:List Value)(v:Value)(hr:xs[j]? =some r)(hv:r[f]? =some v)(h:K (.c v)):
 fT ((a.add (j*k)).add f) S K:=by
 rw[Ev]
 refine⟨v,λR w hS=> ?_,h⟩
 rcases hx R w hS with h0|⟨a',ha,h1⟩
 ·subst h0;simp at hr
 ·obtain rfl:a=a':=by simpa using ha
  rw[add_add];exact h1 j r hr f v hv
theorem bA{a:Addr}{K:SV->Prop}(hx:∀R w,S.holds R w->bu w (some a) k xs)(r:List Value)(v:Value)(hr:xs[j]? =some r)(hv:r[0]? =some v)(h:K (.c v)):
 fT (a.add (j*k)) S K:=by
 rw[Ev]
 refine⟨v,λR w hS=> ?_,h⟩
 rcases hx R w hS with h0|⟨a',ha,h1⟩
 ·subst h0;simp at hr
 ·obtain rfl:a=a':=by simpa using ha
  exact h1 j r hr 0 v hv
theorem gL{a:Addr}{n:Nat}{K:List Value->Prop}(hx:∀R w,S.holds R w->bu w (some a) k xs)(r:List Value)(hr:xs[j]? =some r)(hn:r.length=n)(h:K r):
 mF (a.add (j*k)) n S K:=by
 rw[Le]
 refine⟨r,hn,λR w hS m v hv=> ?_,h⟩
 rcases hx R w hS with h0|⟨a',ha,h1⟩
 ·subst h0;simp at hr
 ·obtain rfl:a=a':=by simpa using ha
  rw[add_add];exact h1 j r hr m v hv
theorem aP{w:World}(h:bu w base k xs)(hj:j<xs.length):∃a,base=some a:=by
 rcases h with rfl|⟨a,ha,_⟩
 ·simp at hj
 ·exact⟨a,ha⟩
end
section
section
variable {P:Program} {ops:Array Oper} {Q:Exit->Act->World->Prop} {md:Region.Mode} {C:World->Prop} {brk:Nat->Bool}
def y7(P:Program)(md:Region.Mode)(ops:Array Oper)(Q:Exit->Act->World->Prop)(C:World->Prop)(brk:Nat->Bool):Nat->Array Bool->Act->World->Prop
 |0,listed,a,w=>Region.ready md ops listed=[]/\Q .normal a w
 |fuel+1,listed,a,w=>
  (Region.ready md ops listed=[]->Q .normal a w)/\
  ∀i∈Region.ready md ops listed,wpOp P ops Q i (λa' w'=>(brk i=true\/C w')/\y7 P md ops Q C brk fuel (listed.setIfInBounds i true) a' w') a w
theorem Lx:∀(fuel:Nat) (listed:Array Bool) (a:Act) (w:World),y7 P md ops Q C brk fuel listed a w->wpAny P md ops Q fuel listed a w
 |0,_,_,_,h=>h
 |fuel+1,_,_,_,h=>⟨h.1,λi hi=>wpOp_mono (λa' w' h'=>Lx fuel _ a' w' h'.2) (h.2 i hi)⟩
variable {i:Nat}
theorem Ry{oi:Oper}{v:Value}(hi:ops[i]? =some oi)(hsel:∀(j:Nat) (o:Oper) cs b,ops[j]? =some o->o.op≠.select cs b)
 (hQ:∀c a w,Q (.panic c) (a.put oi.dst v) w->Q (.panic c) a w) (Z:Nat->Bool) (akp:∀j oj,ops[j]? =some oj->brk j=true->(∃e∈oj.after,Region.binds md e=true/\e.on=i)\/Z j=true) (hZ:∀j oj,ops[j]? =some oj->Z j=true->∃e∈oj.after,Region.binds md e=true/\(e.on=i\/Z e.on=true)):
 ∀(fuel:Nat) (listed:Array Bool) (a:Act) (w:World),(∀j,Z j=true->listed.getD j true=false)->
  (∀j oj,ops[j]? =some oj->j≠i->listed.getD j true=false->(∀e∈oj.after,Region.binds md e=true->e.on≠i)->oi.apart ops oj=true)->
  i∈Region.ready md ops listed->YieldsIf P ops C oi v a->C w->
  y7 P md ops Q C brk fuel (listed.setIfInBounds i true) (a.put oi.dst v) w->y7 P md ops Q C brk (fuel+1) listed a w:=by
 intro fuel
 induction fuel with
 |zero=>
  intro listed a w _ _ hr hy hC H
  refine⟨λh=>(by rw[h]at hr;cases hr),λj hj=> ?_⟩
  by_cases hji:j=i
  ·subst hji;exact hy.wpOp hi hC ⟨.inr hC,H⟩
  ·have:=ready_mono hj hji
   rw[H.1]at this
   cases this
 |succ fuel ih=>
  intro listed a w hZl hfree hr hy hC H
  refine⟨λh=>(by rw[h]at hr;cases hr),λj hj=> ?_⟩
  by_cases hji:j=i
  ·subst hji;exact hy.wpOp hi hC ⟨.inr hC,H⟩
  ·obtain⟨hjun,oj,hoj,hall⟩:=mem_ready.1 hj
   have alO:listed.getD i true=false:=(mem_ready.1 hr).1
   have hnot:∀e∈oj.after,Region.binds md e=true->e.on≠i:=λe he hb heq=>by
    have h1:=hall e he hb
    rw[heq]at h1
    rcases Nat.lt_or_ge i listed.size with h'|h'
    ·simp[h']at alO h1;rw[alO]at h1;cases h1
    ·simp[Array.getElem?_eq_none h']at h1
   have hnZ:Z j=false:=by
    cases hz:Z j with
    |false=>rfl
    |true=>
     obtain⟨e,he,hb1,hb2⟩:=hZ j oj hoj hz
     rcases hb2 with hb2|hb2
     ·exact absurd hb2 (hnot e he hb1)
     ·have h1:=hall e he hb1
      have h2:=hZl _ hb2
      rcases Nat.lt_or_ge e.on listed.size with h'|h'
      ·simp[h']at h2 h1;rw[h2]at h1;cases h1
      ·simp[Array.getElem?_eq_none h']at h1
   have hnb:brk j=false:=by
    cases hb:brk j with
    |false=>rfl
    |true=>
     rcases akp j oj hoj hb with⟨e,he,hb1,hb2⟩|hz
     ·exact absurd hb2 (hnot e he hb1)
     ·rw[hnZ]at hz;cases hz
   have anU:∀k,Z k=true->(listed.setIfInBounds j true).getD k true=false:=λk hk=>by
    have hjk:j≠k:=λe=>by rw[<-e,hnZ]at hk;cases hk
    rw[getD_set_ne true hjk]
    exact hZl k hk
   have hap:=hfree j oj hoj hji hjun hnot
   have hfree':∀k ok,ops[k]? =some ok->k≠i->(listed.setIfInBounds j true).getD k true=false->
    (∀e∈ok.after,Region.binds md e=true->e.on≠i)->oi.apart ops ok=true:=λk ok hk hki hun hno=>by
    refine hfree k ok hk hki ?_ hno
    by_cases hjk:j=k
    ·subst hjk;exact hjun
    ·rw[getD_set_ne true hjk]at hun;exact hun
   have h1:=H.2 j (ready_mono hj hji)
   have h2:=wpOp_putIf hoj hap (λcs b=>hsel i oi cs b hi) (λcs b=>hsel j oj cs b hoj) hQ hy h1
   refine wpOp_mono (λa' w' h3=> ?_) h2
   have hC':C w':=h3.2.1.resolve_left (by simp[hnb])
   refine⟨.inr hC',ih (listed.setIfInBounds j true) a' w' anU hfree' (ready_mono hr (Ne.symm hji)) h3.1 hC' ?_⟩
   rw[Array.setIfInBounds_comm _ _ hji]
   exact h3.2.2
end
inductive DT where
 |done
 |take (i:Nat) (t:DT)
 |one (i:Nat) (t:DT)
 |alt (i:Nat) (t r:DT)
def eY:List Nat->DT->DT
 |[],t=>t
 |i::r,t=>bif Nat.ble 100 i then .one (i-100) (eY r t)else .take i (eY r t)
def DT.oZ:DT->Bool
 | .done=>true
 | .take _ _=>false
 | .one _ t=>t.oZ
 | .alt _ t r=>t.oZ&&r.oZ
def DT.picks:DT->List Nat
 | .one i _=>[i]
 | .alt i _ r=>i::r.picks
 |_=>[]
def DT.deep:DT->Nat->Bool
 | .done,_=>true
 | .take _ t,n=>(match n with|0=>false|n+1=>t.deep n)
 | .one _ t,n=>(match n with|0=>false|n+1=>t.deep n)
 | .alt _ t r,n=>(match n with|0=>false|n'+1=>t.deep n')&&r.deep n
def sS(i:Nat):List Nat->Bool
 |[]=>false
 |j::r=>bif Nat.beq j i then true else sS i r
def Bf(ops:Array Oper)(j i:Nat):Bool:=match ops[j]? with|some oj=>oj.after.any (λe=>Region.binds .any e&&e.on==i)|none=>true
def waiters(ops:Array Oper)(i:Nat):Nat->List Nat->List Nat
 |0,Z=>Z
 |f+1,Z=>waiters ops i f (Z++(List.range ops.size).filter λk=> !sS k Z&&(i::Z).any λx=>Bf ops k x)
def akz(ops:Array Oper)(brk:List Nat)(listed:Array Bool)(i:Nat)(Z:List Nat):Bool:=
 (brk.all λj=>sS j Z)&&Z.all λk=> !(listed.getD k true)&&(i::Z).any λx=>Bf ops k x
def DT.ok(ops:Array Oper)(brk:List Nat):DT->Array Bool->Bool->Bool
 | .done,listed,top=>top&&(Region.ready .any ops listed).isEmpty
 | .take i t,listed,top=>top&&(Region.free .any ops listed i&&(Region.ready .any ops listed).contains i&&((brk.all λj=>Bf ops j i)||akz ops brk listed i (waiters ops i ops.size []))&&t.ok ops brk (listed.setIfInBounds i true) true)
 | .one i t,listed,top=>(!top||Region.ready .any ops listed==[i])&&(t.ok ops brk (listed.setIfInBounds i true) true&&(bif sS i brk then t.oZ else true))
 | .alt i t r,listed,top=>(!top||Region.ready .any ops listed==i::r.picks)&&(t.ok ops brk (listed.setIfInBounds i true) true&&(bif sS i brk then t.oZ else true))&&r.ok ops brk listed false
def Tj(K:Oper->Prop):List Oper->Nat->Prop
 |[],_=>False
 |o::r,n=>bif Nat.beq n 0 then K o else Tj K r (Nat.pred n)
theorem CE{K:Oper->Prop}:∀{l:List Oper} {n:Nat},Tj K l n->∃o,l[n]? =some o/\K o
 |[],_,h=>h.elim
 |o::r,n,h=>by
  unfold Tj at h
  cases n with
  |zero=>exact⟨o,rfl,h⟩
  |succ n=>obtain⟨u,h1,h2⟩:=CE (l:=r) (n:=n) h;exact⟨u,by simpa using h1,h2⟩
structure lq(Hq:Heap)(S0:bN)(H:Heap)(S:bN)(K:Prop):Prop where
 out:(Hq.Sublist H/\∀R w,S.holds R w->S0.holds R w)/\K
variable {H:Heap} {S:bN}
theorem Fb{Hq:Heap}{S0:bN}{K:Prop}:lq Hq S0 H S K=((Hq.Sublist H/\∀R w,S.holds R w->S0.holds R w)/\K):=propext ⟨λh=>h.out,λh=>⟨h⟩⟩
theorem eF{Hq:Heap}{S0:bN}{K:Prop}(h1:Hq.Sublist H)(h2:∀R w,S.holds R w->S0.holds R w)(h:K):lq Hq S0 H S K:=by rw[Fb];exact⟨⟨h1,h2⟩,h⟩
theorem Uq{Hq:Heap}{S0:bN}{K:Prop}(h:K)(h1:Hq.Sublist H:=by first|exact List.Sublist.refl _|exact List.Sublist.cons _ (List.Sublist.refl _)|exact List.Sublist.cons _ (List.Sublist.cons _ (List.Sublist.refl _))|exact List.Sublist.cons _ (List.Sublist.cons _ (List.Sublist.cons _ (List.Sublist.refl _))))
 (h2:∀R w,S.holds R w->S0.holds R w:=by first|exact(λ_ _ h=>h)|exact(λ_ _ h=>h.1)|exact(λ_ _ h=>h.1.1)):lq Hq S0 H S K:=eF h1 h2 h
theorem Ob{Hq:Heap}{S0:bN}{K:Prop}(h:K)(h1:Hq.Sublist H:=by repeat(first|exact List.Sublist.refl _|exact List.nil_sublist _|apply List.Sublist.cons_cons|apply List.Sublist.cons))
 (h2:∀R w,S.holds R w->S0.holds R w:=by first|exact(λ_ _ h=>h)|exact(λ_ _ h=>h.1)|exact(λ_ _ h=>h.1.1)):lq Hq S0 H S K:=eF h1 h2 h
theorem lG{z:Int}{K:Int->Prop}(h:K z)(h1: -9223372036854775808<=z:=by omega)(h2:z<=9223372036854775807:=by omega):iL .i64 z K:=wrap_i64 h1 h2 h
theorem zW{p:Prop}[Decidable p]{K:Bool->Prop}(h:K true)(hp:p:=by omega):eZ p K:=cu hp h
theorem CB{p:Prop}[Decidable p]{K:Bool->Prop}(h:K false)(hp:¬p:=by omega):eZ p K:=dA hp h
def ZO(cx:Cx)(ops:List Oper)(brk:List Nat)(Hq:Heap)(S0:bN)(i:Nat)(D:Env->Heap->bN->Nat->Prop)(env:Env)(H:Heap)(S:bN)(nx:Nat):Prop:=
 Tj (λo=>Fs cx.n ops o.guard env (λb=>match b with
  |true=>opE cx o.op env H S nx (λv H' S' nx'=>zZ env o.dst v λenv'=>bif sS i brk then D env' H' S' nx' else lq Hq S0 H' S' (D env' H' S' nx'))
  |false=>zZ env o.dst (.c undef) λenv'=>bif sS i brk then D env' H S nx else lq Hq S0 H S (D env' H S nx))) ops i
def zi(cx:Cx)(ops:List Oper)(brk:List Nat)(Hq:Heap)(S0:bN)(K:Env->Heap->bN->Nat->Prop):DT->Env->Heap->bN->Nat->Prop
 | .done,env,H,S,nx=>K env H S nx
 | .take i t,env,H,S,nx=>Tj (λo=>Fs cx.n ops o.guard env (λb=>match b with
    |true=>opQ cx o.op env Hq S0 (λv=>zZ env o.dst v λenv'=>zi cx ops brk Hq S0 K t env' H S nx)
    |false=>zZ env o.dst (.c undef) λenv'=>zi cx ops brk Hq S0 K t env' H S nx)) ops i
 | .one i t,env,H,S,nx=>ZO cx ops brk Hq S0 i (zi cx ops brk Hq S0 K t) env H S nx
 | .alt i t r,env,H,S,nx=>ZO cx ops brk Hq S0 i (zi cx ops brk Hq S0 K t) env H S nx/\zi cx ops brk Hq S0 K r env H S nx
variable {B:Base} {ρ:Nat->Loc} {nx:Nat} {w:World}
theorem eD.lift{ρ0:Nat->Loc}{sQ:Nat}(h:eD B ρ0 sQ H S w)(hr:∀i,i<sQ->ρ i=ρ0 i)(hn:sQ<=nx):eD B ρ nx H S w:=by
 obtain⟨R,φ,h⟩:=h
 refine⟨R,φ,h.os,h.tape,h.output,h.size,λp hp=>⟨Nat.lt_of_lt_of_le (h.pin p hp).1 hn,(hr _ (h.pin p hp).1).trans (h.pin p hp).2⟩,h.ro,h.tq,λp hp=>⟨Nat.lt_of_lt_of_le (h.key p hp).1 hn,(h.key p hp).2.mono hn⟩,λp hp=> ?_,h.apart,h.sep⟩
 rw[hr _ (h.key p hp).1]
 exact bZ.pE (λi hi=>(hr i ((h.key p hp).2 i hi)).symm) (h.kV p hp)
theorem eD.lower{ρ0:Nat->Loc}{sQ:Nat}(h:eD B ρ nx H S w)(hr:∀i,i<sQ->ρ i=ρ0 i)(hk:∀p∈H,p.1<sQ/\p.2.lt sQ)(hp:∀p∈B.pin,p.1<sQ):eD B ρ0 sQ H S w:=by
 obtain⟨R,φ,h⟩:=h
 refine⟨R,φ,h.os,h.tape,h.output,h.size,λp hp'=>⟨hp p hp',(hr _ (hp p hp')).symm.trans (h.pin p hp').2⟩,h.ro,h.tq,hk,λp hp'=> ?_,h.apart,h.sep⟩
 rw[<-hr _ (hk p hp').1]
 exact bZ.pE (λi hi=>hr i ((hk p hp').2 i hi)) (h.kV p hp')
theorem eD.sub{H2:Heap}{S2:bN}(h:eD B ρ nx H S w)(hH:H2.Sublist H)(hS:∀R w,S.holds R w->S2.holds R w):eD B ρ nx H2 S2 w:=by
 obtain⟨R,φ,hw⟩:=h
 have hw:=hw.drop hH
 exact⟨R,φ,⟨hw.os,hw.tape,hw.output,hw.size,hw.pin,hw.ro,hS R w hw.tq,hw.key,hw.kV,hw.apart,hw.sep⟩⟩
section
variable {cx:Cx} (hok:∀p∈cx.tab,lV cx.P p.1=some p.2) {ops:Array Oper} {brk:List Nat} {Hq:Heap} {S0:bN} {K:Env->Heap->bN->Nat->Prop} {ρ0:Nat->Loc} {sQ:Nat} {Q:Exit->Act->World->Prop}
 (hsel:Region.noSelect ops=true) (hQ:∀c a a' w,Q (.panic c) a w->Q (.panic c) a' w) (hk:∀p∈Hq,p.1<sQ/\p.2.lt sQ) (z_:∀p∈cx.B.pin,p.1<sQ)
 (hfin:∀ρ' a' env' H' S' nx' w',(∀i,i<sQ->ρ' i=ρ0 i)->sQ<=nx'->Sat cx.n ρ' nx' env' a'->eD cx.B ρ' nx' H' S' w'->K env' H' S' nx'->Q .normal a' w')
variable {i fuel:Nat} {t:DT} {env:Env} {listed:Array Bool}
include hok hk z_ in
theorem K6{D:Env->Heap->bN->Nat->Prop}{a:Act}
 (h:ZO cx ops.toList brk Hq S0 i D env H S nx) (hnt:(bif sS i brk then t.oZ else true)=true) (hC:t.oZ=true\/eD cx.B ρ0 sQ Hq S0 w) (hs:Sat cx.n ρ nx env a) (hw:eD cx.B ρ nx H S w) (hr:∀i,i<sQ->ρ i=ρ0 i) (hn:sQ<=nx)
 (ih:∀{env:Env} {H:Heap} {S:bN} {nx:Nat} {ρ:Nat->Loc} {a:Act} {w:World},D env H S nx->(t.oZ=true\/eD cx.B ρ0 sQ Hq S0 w)->Sat cx.n ρ nx env a->eD cx.B ρ nx H S w->(∀i,i<sQ->ρ i=ρ0 i)->sQ<=nx->
   y7 cx.P .any ops Q (λw=>eD cx.B ρ0 sQ Hq S0 w) (λi=>sS i brk) fuel (listed.setIfInBounds i true) a w):
 wpOp cx.P ops Q i (λa' w'=>(sS i brk=true\/eD cx.B ρ0 sQ Hq S0 w')/\y7 cx.P .any ops Q (λw=>eD cx.B ρ0 sQ Hq S0 w) (λi=>sS i brk) fuel (listed.setIfInBounds i true) a' w') a w:=by
 unfold ZO at h
 obtain⟨o,ho,hh⟩:=CE h
 rw[Array.getElem?_toList]at ho
 have hh:=wm hs hh
 unfold wpOp
 rw[ho]
 dsimp only
 cases hwt:Region.wanted o (yielded ops a.tmps)with
 |true=>
  rw[hwt]at hh
  dsimp only at hh
  rw[if_pos rfl]
  refine .inl (Pg hok hh hs hw ?_)
  intro v ρ' H' S' nx' w' h1 h2 h3 h4 h5
  rw[qh]at h5
  have hr':∀j,j<sQ->ρ' j=ρ0 j:=λj hj=>(h1 j (Nat.lt_of_lt_of_le hj hn)).trans (hr j hj)
  cases hb:sS i brk with
  |true=>
   rw[hb,cond_true]at h5
   rw[hb,cond_true]at hnt
   exact⟨.inl rfl,ih h5 (.inl hnt) (hs.put h1 h2 h3) h4 hr' (Nat.le_trans hn h2)⟩
  |false=>
   rw[hb,cond_false]at h5
   rw[Fb]at h5
   have hc:eD cx.B ρ0 sQ Hq S0 w':=(h4.sub h5.1.1 h5.1.2).lower hr' hk z_
   exact⟨.inr hc,ih h5.2 (.inr hc) (hs.put h1 h2 h3) h4 hr' (Nat.le_trans hn h2)⟩
 |false=>
  rw[hwt]at hh
  dsimp only at hh
  rw[if_neg fP]
  have hp:=hs.put (ρ':=ρ) (nx':=nx) (d:=o.dst) (v:= .c undef) (λ_ _=>rfl) (Nat.le_refl _) (SV.jk _)
  rw[qh]at hh
  cases hb:sS i brk with
  |true=>
   rw[hb,cond_true]at hh
   rw[hb,cond_true]at hnt
   exact⟨.inl rfl,ih hh (.inl hnt) hp hw hr hn⟩
  |false=>
   rw[hb,cond_false]at hh
   rw[Fb]at hh
   have hc:eD cx.B ρ0 sQ Hq S0 w:=(hw.sub hh.1.1 hh.1.2).lower hr hk z_
   exact⟨.inr hc,ih hh.2 (.inr hc) hp hw hr hn⟩
def Shown(cx:Cx)(ops:Array Oper)(brk:List Nat)(Hq:Heap)(S0:bN)(ρ0:Nat->Loc)(sQ:Nat)(Q:Exit->Act->World->Prop)(t:DT)(listed:Array Bool)(fuel:Nat)(a:Act)(w:World):Bool->Prop
 |true=>y7 cx.P .any ops Q (λw=>eD cx.B ρ0 sQ Hq S0 w) (λi=>sS i brk) fuel listed a w
 |false=>∃n,fuel=n+1/\∀i∈t.picks,wpOp cx.P ops Q i (λa' w'=>(sS i brk=true\/eD cx.B ρ0 sQ Hq S0 w')/\y7 cx.P .any ops Q (λw=>eD cx.B ρ0 sQ Hq S0 w) (λi=>sS i brk) n (listed.setIfInBounds i true) a' w') a w
theorem Shown.top{t:DT}{listed:Array Bool}{fuel:Nat}{a:Act}{w:World}{top:Bool}(hp:top=true->Region.ready .any ops listed=t.picks/\t.picks≠[])
 (h:Shown cx ops brk Hq S0 ρ0 sQ Q t listed fuel a w false):Shown cx ops brk Hq S0 ρ0 sQ Q t listed fuel a w top:=by
 cases top with
 |false=>exact h
 |true=>
  obtain⟨h1,h2⟩:=hp rfl
  obtain⟨n,rfl,h⟩:=h
  refine⟨λh0=>absurd (h1.symm.trans h0) h2,?_⟩
  rw[h1]
  exact h
include hok hsel hQ hk z_ hfin in
theorem sF:∀{t:DT} {env:Env} {H:Heap} {S:bN} {nx:Nat} {ρ:Nat->Loc} {a:Act} {w:World} {listed:Array Bool} {fuel:Nat} {top:Bool},
 zi cx ops.toList brk Hq S0 K t env H S nx->t.ok ops brk listed top=true->t.deep fuel=true->(t.oZ=true\/eD cx.B ρ0 sQ Hq S0 w)->Sat cx.n ρ nx env a->eD cx.B ρ nx H S w->(∀i,i<sQ->ρ i=ρ0 i)->sQ<=nx->
 Shown cx ops brk Hq S0 ρ0 sQ Q t listed fuel a w top
 | .done,env,H,S,nx,ρ,a,w,listed,fuel,top,h,hok',_,_,hs,hw,hr,hn=>by
   simp only[DT.ok,List.isEmpty_iff,Bool.and_eq_true]at hok'
   obtain⟨rfl,hok'⟩:=hok'
   have hq:=hfin ρ a env H S nx w hr hn hs hw h
   cases fuel with
   |zero=>exact⟨hok',hq⟩
   |succ fuel=>exact⟨λ_=>hq,by rw[hok'];simp⟩
 | .take i t,env,H,S,nx,ρ,a,w,listed,fuel,top,h,hok',hd,hC,hs,hw,hr,hn=>by
   have hC:=hC.resolve_left (by simp[DT.oZ])
   simp only[DT.ok,Bool.and_eq_true,List.all_eq_true]at hok'
   obtain⟨rfl,⟨⟨hf,hrd⟩,hb⟩,hok'⟩:=hok'
   cases fuel with
   |zero=>simp[DT.deep]at hd
   |succ fuel=>
   simp only[DT.deep]at hd
   unfold zi at h
   obtain⟨o,ho,h⟩:=CE h
   rw[Array.getElem?_toList]at ho
   have h:=wm hs h
   have hmem:∀{j:Nat} {l:List Nat},sS j l=true->j∈l:=by
    intro j l
    induction l with
    |nil=>intro h;simp[sS]at h
    |cons x r ih=>
     intro h
     unfold sS at h
     cases hx:Nat.beq x j with
     |true=>have:=Nat.eq_of_beq_eq_true hx;subst this;simp
     |false=>rw[hx]at h;exact List.mem_cons_of_mem _ (ih h)
   have hmem':∀{j:Nat} {l:List Nat},j∈l->sS j l=true:=by
    intro j l
    induction l with
    |nil=>intro h;cases h
    |cons x r ih=>
     intro h
     unfold sS
     cases hx:Nat.beq x j with
     |true=>rfl
     |false=>exact ih ((List.mem_cons.1 h).resolve_left λe=>by rw[e]at hx;simp at hx)
   have ahD:∀(j:Nat) oj x,ops[j]? =some oj->Bf ops j x=true->∃e∈oj.after,Region.binds .any e=true/\e.on=x:=by
    intro j oj x hoj this
    unfold Bf at this
    rw[hoj]at this
    obtain⟨e,he,hb'⟩:=Array.any_eq_true'.1 this
    simp only[Bool.and_eq_true,beq_iff_eq]at hb'
    exact⟨e,he,hb'.1,hb'.2⟩
   obtain⟨Z,akp,hZ,hZl⟩:∃Z:Nat->Bool,(∀j oj,ops[j]? =some oj->sS j brk=true->(∃e∈oj.after,Region.binds .any e=true/\e.on=i)\/Z j=true)/\(∀j oj,ops[j]? =some oj->Z j=true->∃e∈oj.after,Region.binds .any e=true/\(e.on=i\/Z e.on=true))/\(∀j,Z j=true->listed.getD j true=false):=by
    rcases(by simpa[Bool.or_eq_true]using hb:(∀j∈brk,Bf ops j i=true)\/akz ops brk listed i (waiters ops i ops.size [])=true)with hb|hb
    ·exact⟨λ_=>false,λj oj hoj hj=> .inl (ahD j oj i hoj (hb j (hmem hj))),λj oj _ h=>kP,λj h=>kP⟩
    ·obtain⟨L,hL⟩:∃L,L=waiters ops i ops.size []:=⟨_,rfl⟩
     rw[<-hL]at hb
     unfold akz at hb
     simp only[Bool.and_eq_true,List.all_eq_true,Bool.not_eq_true']at hb
     obtain⟨hb1,hb2⟩:=hb
     refine⟨λj=>sS j L,λj oj hoj hj=> .inr (hb1 j (hmem hj)),λj oj hoj hj=> ?_,λj hj=>(hb2 j (hmem hj)).1⟩
     obtain⟨x,hx,hw'⟩:=List.any_eq_true.1 (hb2 j (hmem hj)).2
     obtain⟨e,h1,h2,h3⟩:=ahD j oj x hoj hw'
     refine⟨e,h1,h2,?_⟩
     rcases List.mem_cons.1 hx with hx|hx
     ·exact .inl (h3.trans hx)
     ·exact .inr (by rw[h3];exact hmem' hx)
   have go:∀v:SV,v.lt nx->YieldsIf cx.P ops (λw=>eD cx.B ρ0 sQ Hq S0 w) o (v.rf ρ) a->zi cx ops.toList brk Hq S0 K t (ab3 env o.dst v) H S nx->
    y7 cx.P .any ops Q (λw=>eD cx.B ρ0 sQ Hq S0 w) (λi=>sS i brk) (fuel+1) listed a w:=by
    intro v hv hy h
    exact Ry ho (Region.noSelect_spec hsel) (λc a w hq=>hQ c _ _ w hq) Z akp hZ fuel listed a w hZl (Region.free_spec ho hf) (by simpa using hrd) hy hC
     (sF (top:=true) h hok' hd (.inr hC) (hs.put (λ_ _=>rfl) (Nat.le_refl _) hv) hw hr hn)
   cases hwt:Region.wanted o (yielded ops a.tmps)with
   |true=>
    rw[hwt]at h
    dsimp only at h
    obtain⟨v,h1,h2,h3⟩:=FI hok hs (hC.lift hr hn) h
    rw[qh]at h2
    exact go v h1 (.inl ⟨hwt,λw' hw'=>h3 w' (hw'.lift hr hn)⟩) h2
   |false=>
    rw[hwt]at h
    dsimp only at h
    rw[qh]at h
    exact go (.c undef) (SV.jk _) (.inr ⟨hwt,rfl⟩) h
 | .one i t,env,H,S,nx,ρ,a,w,listed,fuel,top,h,hok',hd,hC,hs,hw,hr,hn=>by
   simp only[DT.ok,Bool.and_eq_true,Bool.or_eq_true,Bool.not_eq_true',beq_iff_eq]at hok'
   obtain⟨hrd,hok1,hnt⟩:=hok'
   cases fuel with
   |zero=>simp[DT.deep]at hd
   |succ fuel=>
   simp only[DT.deep]at hd
   unfold zi at h
   refine Shown.top (λht=>⟨hrd.resolve_left (by simp[ht]),by simp[DT.picks]⟩) ⟨fuel,rfl,λi' hi'=> ?_⟩
   obtain rfl:i'=i:=by simpa[DT.picks]using hi'
   exact K6 hok hk z_ h hnt (by simpa only[DT.oZ]using hC) hs hw hr hn λg1 g2 g3 g4 g5 g6=>sF (top:=true) g1 hok1 hd g2 g3 g4 g5 g6
 | .alt i t r,env,H,S,nx,ρ,a,w,listed,fuel,top,h,hok',hd,hC,hs,hw,hr,hn=>by
   simp only[DT.ok,Bool.and_eq_true,Bool.or_eq_true,Bool.not_eq_true',beq_iff_eq]at hok'
   obtain⟨⟨hrd,hok1,hnt⟩,hok2⟩:=hok'
   cases fuel with
   |zero=>simp[DT.deep]at hd
   |succ fuel=>
   simp only[DT.deep,Bool.and_eq_true]at hd
   unfold zi at h
   have hC1:t.oZ=true\/eD cx.B ρ0 sQ Hq S0 w:=hC.elim (λg=>by simp only[DT.oZ,Bool.and_eq_true]at g;exact .inl g.1) .inr
   have hC2:r.oZ=true\/eD cx.B ρ0 sQ Hq S0 w:=hC.elim (λg=>by simp only[DT.oZ,Bool.and_eq_true]at g;exact .inl g.2) .inr
   refine Shown.top (λht=>⟨hrd.resolve_left (by simp[ht]),by simp[DT.picks]⟩) ⟨fuel,rfl,λi' hi'=> ?_⟩
   simp only[DT.picks,List.mem_cons]at hi'
   rcases hi' with rfl|hi'
   ·exact K6 hok hk z_ h.1 hnt hC1 hs hw hr hn λg1 g2 g3 g4 g5 g6=>sF (top:=true) g1 hok1 hd.1 g2 g3 g4 g5 g6
   ·obtain⟨n,e,hh⟩:=sF (top:=false) h.2 hok2 hd.2 hC2 hs hw hr hn
    obtain rfl:fuel=n:=by omega
    exact hh i' hi'
end
variable {id:Nat} {env:Env}
theorem uM{cx:Cx}(hok:∀p∈cx.tab,lV cx.P p.1=some p.2)(hm:cx.P.follows .mixedOrders=true){ops:Array Oper}{K:Env->Heap->bN->Nat->Prop}(brk:List Nat)(Hq:Heap)(t:DT)
 (hsel:Region.noSelect ops=true) (ht:t.ok ops brk (Array.replicate ops.size false) true=true) (hd:t.deep ops.size=true) (hH:Hq.Sublist H) (h:zi cx ops.toList brk Hq S K t env H S nx):b_ cx id ops env H S nx K:=by
 rw[EP,kW]
 intro ρ a w hs hw
 refine wp_region_any hm (Lx (C:=λw=>eD cx.B ρ nx Hq S w) (brk:=λi=>sS i brk) _ _ _ _ ?_)
 have hw':=hw.drew
 have hkeys:(∀p∈Hq,p.1<nx/\p.2.lt nx)/\∀p∈cx.B.pin,p.1<nx:=by
  obtain⟨R,φ,hw⟩:=hw
  exact⟨λp hp=>hw.key p (hH.subset hp),λp hp=>(hw.pin p hp).1⟩
 refine sF (top:=true) (ρ0:=ρ) (sQ:=nx) hok hsel ?_ hkeys.1 hkeys.2 ?_ h ht hd (.inr (hw'.sub hH (λ_ _ h=>h))) hs hw' (λ_ _=>rfl) (Nat.le_refl _)
 ·rintro c a a' w ⟨ρ',env',H',S',nx',_,_,_,_,h6,_⟩
  cases h6
 ·intro ρ' a' env' H' S' nx' w' h1 h2 h3 h4 h5
  exact⟨ρ',env',H',S',nx',h1,h2,h3,h4,rfl,h5⟩
structure kE(cx:Cx)(f:FuncId)(args:List SV)(H:Heap)(S:bN)(nx:Nat)(K:SV->Prop):Prop where
 out:(∀as w,(callFunc f as).run cx.P w= .ok (.enter f as) w)/\
 ∃val:Value,(∀ρ w,eD cx.B ρ nx H S w->Calls cx.P f (SV.eO ρ args).toArray w (λe w'=>e= .returned val/\Ext w w'))/\K (.c val)
variable {f:FuncId} {args:List SV}
theorem Om{cx:Cx}{K:SV->Prop}:kE cx f args H S nx K=((∀as w,(callFunc f as).run cx.P w= .ok (.enter f as) w)/\
 ∃val:Value,(∀ρ w,eD cx.B ρ nx H S w->Calls cx.P f (SV.eO ρ args).toArray w (λe w'=>e= .returned val/\Ext w w'))/\K (.c val)):=propext ⟨λh=>h.out,λh=>⟨h⟩⟩
theorem iU{cx:Cx}{K:SV->Prop}(hf:∀as w,(callFunc f as).run cx.P w= .ok (.enter f as) w)(val:Value)
 (hc:∀ρ w,eD cx.B ρ nx H S w->Calls cx.P f (SV.eO ρ args).toArray w (λe w'=>e= .returned val/\Ext w w')) (h:K (.c val)):kE cx f args H S nx K:=by
 rw[Om];exact⟨hf,val,hc,h⟩
def adZ(cx:Cx)(fv:SV)(args:List SV)(H:Heap)(S:bN)(nx:Nat)(K:SV->Prop):Prop:=
 match fv with
 | .c (.func (.func f) a b)=>(match a.toList,b.toList with
   |[],[]=>kE cx f args H S nx K
   |x,y=>kE cx f (cs x++args++cs y) H S nx K)
 | .fn (.func f) a b=>kE cx f (a++args++b) H S nx K
 |_=>False
def Kg:Op->Option (Operand×List Operand)
 | .call c=>(match c.callee with| .value f=>some (f,c.args.toList)|_=>none)
 |_=>none
def Sd(cx:Cx)(ops:List Oper)(H:Heap)(S:bN)(nx:Nat)(K:Env->Prop):List Oper->Env->Prop
 |[],env=>K env
 |o::r,env=>Fs cx.n ops o.guard env (λb=>match b with
  |true=>(match Kg o.op with
   |some (f,as)=>wP cx.n env f λfv=>M7 cx.n env (λl=>adZ cx fv l H S nx (λv=>zZ env o.dst v (Sd cx ops H S nx K r))) as
   |none=>opQ cx o.op env H S (λv=>zZ env o.dst v (Sd cx ops H S nx K r)))
  |false=>zZ env o.dst (.c undef) (Sd cx ops H S nx K r))
section
variable {cx:Cx} (hok:∀p∈cx.tab,lV cx.P p.1=some p.2)
include hok in
theorem Kq{ops:Array Oper}{ρ:Nat->Loc}{H:Heap}{S:bN}{nx:Nat}{K:Env->Prop}{w0:World}(hw0:eD cx.B ρ nx H S w0):∀{l:List Oper} {env:Env} {a:Act} {Q:Act->Prop},
 Sd cx ops.toList H S nx K l env->Sat cx.n ρ nx env a->(∀env' a',Sat cx.n ρ nx env' a'->K env'->Q a')->wpQuiet cx.P ops (λw=>eD cx.B ρ nx H S w) Q l a
 |[],env,a,Q,h,hs,hq=>hq env a hs h
 |o::r,env,a,Q,h,hs,hq=>by
  unfold Sd at h
  have h:=wm hs h
  unfold wpQuiet
  have rest:∀v:SV,v.lt nx->Sd cx ops.toList H S nx K r (ab3 env o.dst v)->wpQuiet cx.P ops (λw=>eD cx.B ρ nx H S w) Q r (a.put o.dst (v.rf ρ)):=λv hv h=>
   Kq hw0 h (hs.put (λ_ _=>rfl) (Nat.le_refl _) hv) hq
  cases hwt:Region.wanted o (yielded ops a.tmps)with
  |false=>
   rw[hwt]at h
   rw[if_neg fP]
   rw[qh]at h
   exact rest (.c undef) (SV.jk _) h
  |true=>
   rw[hwt]at h
   dsimp only at h
   rw[if_pos rfl]
   cases hc:Kg o.op with
   |none=>
    rw[hc]at h
    dsimp only at h
    obtain⟨v,h1,h2,h3⟩:=FI hok hs hw0 h
    rw[qh]at h2
    refine⟨v.rf ρ,λw hw=> ?_,rest v h1 h2⟩
    unfold Oper.quietAt
    rw[h3 w hw]
    exact⟨rfl,rfl⟩
   |some x=>
    obtain⟨f,as⟩:=x
    rw[hc]at h
    dsimp only at h
    obtain⟨dst,op,type,pos,after,guard⟩:=o
    cases op with
    |call c=>
     simp only[Kg]at hc
     cases hcc:c.callee with
     |value f'=>
      rw[hcc]at hc
      obtain⟨rfl,rfl⟩:f'=f/\c.args.toList=as:=by simpa using hc
      obtain⟨fv,h1,h2,h3⟩:=dJ hs h
      obtain⟨l,h4,h5,h6⟩:=pq hs h1
      have e1:c.args.map a.eval=(SV.eO ρ l).toArray:=by rw[<-h5];apply Array.ext';simp
      have run:∀(g:FuncId) (x y:Array Value),a.eval f'= .func (.func g) x y->∀w,(execOp a.eval ⟨dst,.call c,type,pos,after,guard⟩).run cx.P w=(callFunc g (x++(SV.eO ρ l).toArray++y)).run cx.P w:=by
       intro g x y hf w
       simp only[execOp,resolve,hcc,e1,hf,Deferred.ofValue,Sem.run_bind,Sem.run_pure,Result.andThen_ok,invoke]
      have fin:∀(g:FuncId) (x y:Array Value) (args:List SV),a.eval f'= .func (.func g) x y->x++(SV.eO ρ l).toArray++y=(SV.eO ρ args).toArray->
       kE cx g args H S nx (λv=>zZ env dst v (Sd cx ops.toList H S nx K r))->Oper.quiet cx.P ⟨dst,.call c,type,pos,after,guard⟩ a (λw=>eD cx.B ρ nx H S w) (wpQuiet cx.P ops (λw=>eD cx.B ρ nx H S w) Q r):=by
       intro g x y args hf ha hq'
       rw[Om]at hq'
       obtain⟨g1,val,g2,g3⟩:=hq'
       rw[qh]at g3
       refine⟨val,λw hw=> ?_,rest (.c val) (SV.jk _) g3⟩
       unfold Oper.quietAt
       rw[run g x y hf w,g1]
       refine⟨rfl,?_⟩
       rw[ha]
       exact(g2 ρ w hw).mono λe w'' he=>⟨he.1,hw.ext he.2⟩
      unfold adZ at h4
      split at h4
      ·rename_i g x y
       split at h4
       ·rename_i hx hy
        have hx':x= #[]:=by cases x;simpa using hx
        have hy':y= #[]:=by cases y;simpa using hy
        exact fin g x y _ Tz (by subst hx';subst hy';simp) h4
       ·exact fin g x y _ Tz ais h4
      ·rename_i g x y
       exact fin g _ _ _ Tz afX h4
      ·exact h4.elim
     |invoke r m=>rw[hcc]at hc;cases hc
     |builtin b=>rw[hcc]at hc;cases hc
    |_=>cases hc
end
theorem yP{cx:Cx}(hok:∀p∈cx.tab,lV cx.P p.1=some p.2)(hm:cx.P.follows .mixedOrders=true){ops:Array Oper}{K:Env->Heap->bN->Nat->Prop}
 (hB:Region.lexB .any ops=true) (h:Sd cx ops.toList H S nx (λenv'=>K env' H S nx) ops.toList env):b_ cx id ops env H S nx K:=by
 rw[EP,kW]
 intro ρ a w hs hw
 refine wp_region_quiet (C:=λw=>eD cx.B ρ nx H S w) hm hB hw.drew ?_
 refine Kq hok hw h hs ?_
 intro env' a' hs' hk w' hw'
 exact⟨ρ,env',H,S,nx,λ_ _=>rfl,Nat.le_refl _,hs',hw',rfl,hk⟩
theorem lu{cx:Cx}{ops:Array Oper}{K:Env->Heap->bN->Nat->Prop}(brk:List Nat)(Hq:Heap)(t:DT)(h:zi cx ops.toList brk Hq S K t env H S nx)(h1:∀p∈cx.tab,lV cx.P p.1=some p.2:=by exact bQ)(h2:cx.P.follows .mixedOrders=true:=by exact mixed)(h3:Region.noSelect ops=true:=by kernel_rfl)(h4:t.ok ops brk (Array.replicate ops.size false) true=true:=by kernel_rfl)(h5:t.deep ops.size=true:=by kernel_rfl)(h6:Hq.Sublist H:=by exact List.Sublist.refl _):b_ cx id ops env H S nx K:=uM h1 h2 brk Hq t h3 h4 h5 h6 h
end
section
variable {k:Nat} {xs:List (List Value)} {w:World}
theorem aV{base:Option Addr}{R:Nat->Prop}(h:(fC base k xs).holds R w):bu w base k xs:=by
 rcases h.2 with h|⟨b,off,h1,_,h3⟩
 ·exact .inl h
 ·exact .inr ⟨_,h1,λi r hi j v hj=>by rw[iA];exact h3 i r hi j v hj⟩
def alP(v:Value)(k:Nat)(xs:List (List Value)):bN where
 holds R w:=∃base cap,v= .slice base xs.length cap/\(fC base k xs).holds R w
 stable:=by
  rintro R R' w w' hR hw ⟨base,cap,h1,h2⟩
  exact⟨base,cap,h1,(fC base k xs).stable hR hw h2⟩
mutual
def SV.fz(i:Nat)(l:Loc):SV->SV
 | .c v=> .c v
 | .lp j a k f=>bif Nat.beq j i then .c (.pointer (l.base.map (·.add (a*k+f))))else .lp j a k f
 | .os j n=>bif Nat.beq j i then .c (.slice l.base n l.cap)else .os j n
 | .agg xs=> .agg (SV.fzs i l xs)
 | .sN xs=> .sN (SV.fzs i l xs)
 | .fn f a b=> .fn f (SV.fzs i l a) (SV.fzs i l b)
 | .Gd t v=> .Gd t (v.fz i l)
def SV.fzs(i:Nat)(l:Loc):List SV->List SV
 |[]=>[]
 |v::r=>v.fz i l::SV.fzs i l r
end
mutual
theorem SV.Vi(i:Nat)(ρ:Nat->Loc):∀v:SV,(v.fz i (ρ i)).rf ρ=v.rf ρ
 | .c _=>rfl
 | .lp j a k f=>by
   simp only[SV.fz]
   cases h:Nat.beq j i with
   |true=>have:=Nat.eq_of_beq_eq_true h;subst this;rfl
   |false=>rfl
 | .os j n=>by
   simp only[SV.fz]
   cases h:Nat.beq j i with
   |true=>have:=Nat.eq_of_beq_eq_true h;subst this;rfl
   |false=>rfl
 | .agg l=>by simp only[SV.fz,SV.rf];rw[SV.zM i ρ l]
 | .sN l=>by simp only[SV.fz,SV.rf];rw[SV.zM i ρ l]
 | .fn f a b=>by simp only[SV.fz,SV.rf];rw[SV.zM i ρ a,SV.zM i ρ b]
 | .Gd t v=>by simp only[SV.fz,SV.rf];rw[SV.Vi i ρ v]
theorem SV.zM(i:Nat)(ρ:Nat->Loc):∀l:List SV,SV.eO ρ (SV.fzs i (ρ i) l)=SV.eO ρ l
 |[]=>rfl
 |v::r=>by simp only[SV.fzs,SV.eO];rw[SV.Vi i ρ v,SV.zM i ρ r]
end
mutual
theorem SV.Jc{i x:Nat}{l:Loc}:∀{v:SV},(v.fz i l).has x=true->v.has x=true
 | .c _,h=>h
 | .lp j a k f,h=>by
   simp only[SV.fz]at h
   cases hb:Nat.beq j i with
   |true=>rw[hb]at h;simp[SV.has]at h
   |false=>rw[hb]at h;exact h
 | .os j n,h=>by
   simp only[SV.fz]at h
   cases hb:Nat.beq j i with
   |true=>rw[hb]at h;simp[SV.has]at h
   |false=>rw[hb]at h;exact h
 | .agg l,h=>by simp only[SV.fz,SV.has]at h|-;exact SV.vS h
 | .sN l,h=>by simp only[SV.fz,SV.has]at h|-;exact SV.vS h
 | .fn f a b,h=>by
   simp only[SV.fz,SV.has,Bool.or_eq_true]at h|-
   exact h.imp SV.vS SV.vS
 | .Gd t v,h=>by simp only[SV.fz,SV.has]at h|-;exact SV.Jc h
theorem SV.vS{i x:Nat}{l:Loc}:∀{xs:List SV},SV.hass x (SV.fzs i l xs)=true->SV.hass x xs=true
 |[],h=>h
 |v::r,h=>by
  simp only[SV.fzs,SV.hass,Bool.or_eq_true]at h|-
  exact h.imp SV.Jc SV.vS
end
def Env.fz(i:Nat)(l:Loc):Env->Env
 |[]=>[]
 |(t,v)::r=>(t,v.fz i l)::Env.fz i l r
theorem Env.CY{i:Nat}{l:Loc}:∀{env:Env} {t:Nat} {v:SV},(env.fz i l).get t=some v->∃u,env.get t=some u/\v=u.fz i l
 |[],t,v,h=>by cases h
 |(j,u)::r,t,v,h=>by
  simp only[Env.fz,Env.xz]at h|-
  by_cases hj:j=t
  ·rw[if_pos hj]at h|-;exact⟨u,rfl,by simpa using h.symm⟩
  ·rw[if_neg hj]at h|-;exact Env.CY h
def bZ.fz(i:Nat)(l:Loc):bZ->bZ
 | .box cs T=> .box (SV.fzs i l cs) T
 |e=>e
def Heap.fz(i:Nat)(l:Loc):Heap->Heap
 |[]=>[]
 |(j,e)::r=>(j,e.fz i l)::Heap.fz i l r
theorem Heap.zf(i:Nat)(l:Loc)(H:Heap):Heap.fz i l H=H.map λp=>(p.1,p.2.fz i l):=by
 induction H with
 |nil=>rfl
 |cons p r ih=>obtain⟨j,e⟩:=p;simp[Heap.fz,ih]
variable {cx:Cx} {H:Heap} {S:bN} {nx:Nat} {T:TypeId}
theorem Wp.freeze{c:Code}{env:Env}{K:Exit->Env->Heap->bN->Nat->Prop}(i:Nat)(he:(i,bZ.rows xs k T)∈H)
 (h:∀l:Loc,xs.length<=l.cap->Wp cx c (env.fz i l) (Heap.fz i l (wC i H)) (S.and (fC l.base k xs)) nx K):Wp cx c env H S nx K:=by
 simp only[kW]at*
 intro ρ a w hs hw
 obtain⟨R,φ,hw⟩:=hw
 have hent:=hw.kV _ he
 obtain⟨hr,hcap,zK⟩:=hent
 have hdel:∀p∈wC i H,p.1≠i/\∀b,φ p.1 b->¬φ i b:=by
  have:∀{H:Heap},H.Pairwise (λp q=>p.1≠q.1/\∀b,φ p.1 b->¬φ q.1 b)->∀{e:bZ},(i,e)∈H->∀p∈wC i H,p.1≠i/\∀b,φ p.1 b->¬φ i b:=by
   intro H hsep
   induction H with
   |nil=>intro e he;cases he
   |cons q r ih=>
    obtain⟨hq,hr⟩:=List.pairwise_cons.1 hsep
    intro e he p hp
    obtain⟨qi,qe⟩:=q
    unfold wC at hp
    cases hbq:Nat.beq qi i with
    |true=>
     rw[hbq,cond_true]at hp
     have:=Nat.eq_of_beq_eq_true hbq
     subst this
     exact⟨(hq p hp).1.symm,λb hb hb'=>(hq p hp).2 b hb' hb⟩
    |false=>
     rw[hbq,cond_false]at hp
     have hne:=Nat.ne_of_beq_eq_false hbq
     have her:(i,e)∈r:=(List.mem_cons.1 he).resolve_left (λg=>hne acw)
     rcases List.mem_cons.1 hp with g|g
     ·subst g;exact⟨hne,(hq _ her).2⟩
     ·exact ih hr her p g
  exact this hw.sep he
 refine h (ρ i) hcap ρ a w ⟨hs.defers,hs.size,λt v hv ht=> ?_,λt v hv=> ?_⟩ ?_
 ·obtain⟨u,hu,rfl⟩:=Env.CY hv
  rw[hs.val t u hu ht,SV.Vi]
 ·obtain⟨u,hu,rfl⟩:=Env.CY hv
  exactλx hx=>hs.lt t u hu x (SV.Jc hx)
 ·have hsub:=hw.drop (nZ i H)
  refine⟨λb=>R b\/φ i b,φ,hw.os,hw.tape,hw.output,hw.size,hw.pin,λb hb=>hb.elim (hw.ro b) (λhb=>bZ.size (hw.kV _ he) hb),⟨S.stable (λ_ h=> .inl h) (λ_ _=>rfl) hw.tq,?_⟩,?_,?_,?_,?_⟩
  ·refine⟨hr,?_⟩
   rcases zK with⟨h1,h2,_⟩|⟨b,off,c',h1,h2,h3,h4,h5⟩
   ·simp only at hcap h2;exact .inl (List.eq_nil_of_length_eq_zero aa)
   ·exact .inr ⟨b,off,h1,.inr ((h2 b).2 rfl),λm r hm j v hj=>by have:=h5 m r hm j v hj;rw[<-Nat.add_assoc];simpa[World.cell?,h3]using this⟩
  ·rw[Heap.zf]
   intro p hp
   obtain⟨q,hq,rfl⟩:=List.mem_map.1 hp
   refine⟨(hsub.key q hq).1,λx hx=> ?_⟩
   cases hqe:q.2 with
   |box cs T=>
    rw[hqe]at hx
    have:=(hsub.key q hq).2
    rw[hqe]at this
    exact this x (SV.vS hx)
   |rows xs k T=>rw[hqe]at hx;simp[bZ.fz,bZ.hass]at hx
   |ext o=>rw[hqe]at hx;simp[bZ.fz,bZ.hass]at hx
  ·rw[Heap.zf]
   intro p hp
   obtain⟨q,hq,rfl⟩:=List.mem_map.1 hp
   have:=hsub.kV q hq
   dsimp only
   cases hqe:q.2 with
   |box cs T=>
    rw[hqe]at this
    obtain⟨b,h1,h2,h3⟩:=this
    exact⟨b,h1,h2,by rw[SV.zM];exact h3⟩
   |rows xs k T=>rw[hqe]at this;exact this
   |ext o=>rw[hqe]at this;exact this
  ·rw[Heap.zf]
   intro p hp b hb hb'
   obtain⟨q,hq,rfl⟩:=List.mem_map.1 hp
   exact hb'.elim (hsub.apart q hq b hb) ((hdel q hq).2 b hb)
  ·rw[Heap.zf]
   exact List.pairwise_map.2 hsub.sep
def kv(w w':World)(v:Value)(k:Nat)(T:TypeId)(xs:List (List Value)):Prop:=
 ∃l:Loc,v= .slice l.base xs.length l.cap/\∃F:Nat->Prop,(∀b,F b->w.heap.size<=b)/\(bZ.rows xs k T).holds (λ_=>l) l F w'
variable {i:Nat}
theorem dK{B:Base}{ρ:Nat->Loc}(h:eD B ρ nx H S w)(hS:∀R w',S.holds R w'->(aO B.w0).holds R w')(he:(i,bZ.rows xs k T)∈H):
 kv B.w0 w ((SV.os i xs.length).rf ρ) k T xs:=by
 obtain⟨R,φ,h⟩:=h
 have hb:=hS R w h.tq
 refine⟨ρ i,rfl,φ i,λb hbb=> ?_,h.kV _ he⟩
 rcases Nat.lt_or_ge b B.w0.heap.size with hl|hl
 ·exact absurd (hb b hl).1 (h.apart _ he b hbb)
 ·exact hl
theorem w_{f:FuncId}{args:List SV}{K:SV->Heap->bN->Nat->Prop}(hf:∀as w,(callFunc f as).run cx.P w= .ok (.enter f as) w)(k:Nat)(T:TypeId){α:Type}(xs:α->List (List Value))(p:α->Prop)
 (hc:∀ρ w,eD cx.B ρ nx H S w->Calls cx.P f (SV.eO ρ args).toArray w (λe w'=>∃x,p x/\∃v,e= .returned v/\Ext w w'/\kv w w' v k T (xs x)))
 (h:∀x,p x->K (.os nx (xs x).length) ((nx,.rows (xs x) k T)::H) S (nx+1)):aI cx f args H S nx K:=by
 rw[gN]
 refine⟨hf,λρ w hw=>(hc ρ w hw).mono ?_⟩
 rintro e w' ⟨x,hp,v,rfl,he,l,rfl,F,hF,hent⟩
 have hw':=hw.ext he
 obtain⟨R,φ,oo⟩:=hw
 have tH:=oo.step (Step.EW he) (λ_ _ h=>h) (λ_ _ _ _ h=>h)
 refine⟨.os nx (xs x).length,upd ρ nx l,_,S,nx+1,by simp[SV.rf,upd_same],λi hi=>mR hi,Nat.le_succ _,SV.y8 aa,?_,h x hp⟩
 refine⟨R,_,tH.add (F:=F) (λy hy=>by simp[bZ.hass]at hy) hent (λb hb hR=> ?_) (λp hp b hb hb'=> ?_)⟩
 ·have:=oo.ro b hR;have:=hF b hb;omega
 ·have:=bZ.size (oo.kV p hp) hb;have:=hF b hb';omega
end
def aN(xs:List Int):List (List Value):=xs.map λx=>[.int .i64 x]
theorem aJ(xs:List Int):(aN xs).length=xs.length:=by simp[aN]
theorem eH{xs:List Int}{k:Nat}(h:k<xs.length):(aN xs)[k]? =some [.int .i64 xs[k]]:=by simp[aN,h]
theorem kL{xs:List Int}:∀r∈aN xs,r.length=1/\∀v∈r,v.oneCell'=true:=by
 intro r hr
 simp only[aN,List.mem_map]at hr
 obtain⟨x,_,rfl⟩:=hr
 exact⟨rfl,λv hv=>by simp at hv;subst hv;rfl⟩
theorem iN{w:World}{a:Addr}{v:Value}(h:w.cell? a=some v):a.block<w.heap.size:=by
 unfold World.cell? at h
 split at h
 ·rename_i c _ _ hb;exact iZ hb
 ·cases h
theorem jv{w w':World}{a:Addr}(h:w'.heap[a.block]? =w.heap[a.block]?):w'.cell? a=w.cell? a:=by
 unfold World.cell?;rw[h]
theorem aA{w w':World}{R:Nat->Prop}{base:Option Addr}{k:Nat}{xs:List (List Value)}(hb:(aO w).holds R w')(h:bu w base k xs):bu w' base k xs:=by
 rcases h with h|⟨a,ha,h⟩
 ·exact .inl h
 ·refine .inr ⟨a,ha,λi r hi j v hj=> ?_⟩
  have:=h i r hi j v hj
  rw[jv (hb _ (iN this)).2];exact this
section
variable {cx:Cx} {f:FuncId} {args:List SV} {H:Heap} {S:bN} {nx:Nat}
theorem fK{K:SV->Heap->bN->Nat->Prop}(hf:∀as w,(callFunc f as).run cx.P w= .ok (.enter f as) w)(b:Bool)
 (hc:∀ρ w,eD cx.B ρ nx H S w->Calls cx.P f (SV.eO ρ args).toArray w (λe w'=>e= .returned (.bool b)/\Ext w w')) (h1:b=true->K (.c (.bool true)) H S nx) (h2:b=false->K (.c (.bool false)) H S nx):aI cx f args H S nx K:=by
 cases b with
 |true=>exact aQ hf _ hc (h1 rfl)
 |false=>exact aQ hf _ hc (h2 rfl)
variable {K:SV->Prop}
theorem rJ(hf:∀as w,(callFunc f as).run cx.P w= .ok (.enter f as) w)(b:Bool)
 (hc:∀ρ w,eD cx.B ρ nx H S w->Calls cx.P f (SV.eO ρ args).toArray w (λe w'=>e= .returned (.bool b)/\Ext w w')) (h1:b=true->K (.c (.bool true))) (h2:b=false->K (.c (.bool false))):kE cx f args H S nx K:=by
 cases b with
 |true=>exact iU hf _ hc (h1 rfl)
 |false=>exact iU hf _ hc (h2 rfl)
theorem jR{P:Program}{t:TypeId}{ti:TI}(h:lV P t=some ti)(hk:ti.ak=1){ox oy:Operand}{base:Option Addr}{len cap:Nat}(hK:K (.c (.bool base.isNone))):
 lY P (do eqGuard .eql t ox oy (.slice base len cap) (.slice none 0 0);binOp .eql t (.slice base len cap) (.slice none 0 0)) K:=by
 rw[xY]
 obtain⟨i,d,z,hi,hd,hz,rfl⟩:=fq h
 simp only at hk
 have hs:∃e,d= .slice e:=by cases d<;>first|exact⟨_,rfl⟩|(simp[kindOf]at hk)
 obtain⟨e,rfl⟩:=hs
 refine⟨.bool base.isNone,λw=> ?_,hK⟩
 have h1:(eqGuard .eql t ox oy (.slice base len cap) (.slice none 0 0)).run P w= .ok () w:=by unfold eqGuard;simp
 have h2:(Op.equal t (.slice base len cap) (.slice none 0 0)).run P w= .ok base.isNone w:=by
  unfold Op.equal
  rw[show Op.maxDepth=Nat.succ 9999 from rfl]
  unfold Op.equalIn
  simp only[Sem.run_bind,run_underlying hd,Result.andThen_ok]
  cases base<;>rfl
 simp only[Sem.run_bind,h1,Result.andThen_ok,binOp,h2,Sem.run_pure]
variable {w:World} {k:Nat} {T:TypeId} {xs:List (List Value)}
theorem fJ{w':World}{v:Value}(h:kv w w' v k T xs):(alP v k xs).holds (λb=>w.heap.size<=b/\b<w'.heap.size) w':=by
 obtain⟨l,rfl,F,hF,hr,hcap,hent⟩:=h
 refine⟨l.base,l.cap,rfl,hr,?_⟩
 rcases hent with⟨h1,h2,_⟩|⟨b,off,c,h1,h2,h3,h4,h5⟩
 ·exact .inl (List.eq_nil_of_length_eq_zero aa)
 ·refine .inr ⟨b,off,h1,⟨hF b ((h2 b).2 rfl),iZ h3⟩,λi r hi j v hj=> ?_⟩
  have:=h5 i r hi j v hj
  rw[<-Nat.add_assoc]
  simpa[World.cell?,h3]using this
theorem bN.mono(S:bN){R R':Nat->Prop}(h:S.holds R w)(hR:∀b,R b->R' b):S.holds R' w:=S.stable hR (λ_ _=>rfl) h
variable {B:Base} {ρ:Nat->Loc}
theorem eT{i:Nat}(h:eD B ρ nx H S w)(he:(i,bZ.rows xs k T)∈H):bu w (ρ i).base k xs:=by
 obtain⟨R,φ,h⟩:=h
 obtain⟨hr,hcap,hent⟩:=h.kV _ he
 simp only at hcap hent
 rcases hent with⟨h1,h2,_⟩|⟨b,off,c,h1,h2,h3,h4,h5⟩
 ·exact .inl (List.eq_nil_of_length_eq_zero aa)
 ·refine .inr ⟨_,h1,λm r hm j v hj=> ?_⟩
  have:=h5 m r hm j v hj
  rw[iA,<-Nat.add_assoc]
  simpa[World.cell?,h3]using this
theorem ae{p:Prop}(h:eD B ρ nx H S w)(hp:∀R,S.holds R w->p):p:=by
 obtain⟨R,φ,h⟩:=h;exact hp R h.tq
end
end Go.SX

import Derived.Test.YtgndjjdeopfdkaaGreatKLowerMakes9
/- texts QTa UC of the proof of LowerMakesSaid -/
set_option maxHeartbeats 16000000
set_option maxRecDepth 20000
namespace Go.Proofs.YtgndjjdeopfdkaaGreat
open Go.SX Go.RowKit
section
variable {R:Nat->Prop} {w w':World} {layout slots:Int} {x:List Int} {r acc:List (List Int)} {c:dM} {s:cZ}
abbrev al_(w:World)(sv:aY)(us:List aj):bJ:=((aH w).and ((jy sv).past w.heap.size)).and (lS w.heap.size us)
abbrev Q0(w:World)(c:dM)(s:cZ):bJ:=(aH w).and ((((Ir c).and (u7 c)).and (dP s.ay)).past w.heap.size)
abbrev GB(N:Nat):Nat->Prop:=λb=>b<N
theorem Fy{N:Nat}{u:aj}(h:((bn u).past N).holds R w):(J6 N u).holds R w:=h
theorem Bf(h:(fT x layout slots).2=0):gy layout slots (x::r) acc=gy layout slots r (acc++[(fT x layout slots).1]):=by
 rw[gy,if_neg aa]
theorem Bg(h:(fT x layout slots).2≠0):gy layout slots (x::r) acc=([],(fT x layout slots).2):=by
 rw[gy,if_pos h]
theorem aeH{n:ai}(hn:n.ok w)(h:(Q0 w c s).holds R w'):(rH c s n).holds R w':=by
 have p:(((Ir c).and (u7 c)).and (dP s.ay)).holds R w':=bJ.mono _ h.2 (λb hb=>hb.1)
 have k:∀{u:aj},u.ok w->(tC u).holds R w':=λhu=>⟨aH w,h.1,λR2 w2 h2=>au h2 hu.rows⟩
 exact⟨⟨⟨p.2,p.1.2⟩,⟨k hn.shape,k hn.data,k hn.aG⟩⟩,p.1.1⟩
theorem Fz{s':cZ}(h:(Q0 w c s).holds R w')(hn:((D6 s.ay s'.ay).off (GB w.heap.size)).holds R w'):(Q0 w c s').holds R w':=by
 refine⟨h.1,h.2.1,λu hu=> ?_⟩
 rcases hn u hu with h1|h1
 ·exact h.2.2 u h1
 ·exact bJ.mono _ h1 (λb hb=>⟨hb.1,Nat.le_of_not_lt hb.2⟩)
theorem aeI{B:Base}{H:Heap}{S:bJ}{nx:Nat}{last:Int}{out:List Int}{i2 i3 i4 j n2 n3 n4 nj:Nat}{T2 T3 T4 T5:TypeId}{r:qO×Int}(hw0:B.w0=w)(hS:∀R w',S.holds R w'->(Q0 w c s).holds R w')(hs:sw c s)(hsp:∀u∈c.bH.l,u.a_)(hf:s.code.length<=2048/\s.ay.length<=2048/\s.inputs.length<=2048)(ho:(∀x∈out,i64 x)/\out.length<=1000000)
 (h2:(i2,bU.rows (iF s.inputs) 3 T2)∈H) (h3:(i3,bU.rows (aM s.ay) 1 T3)∈H) (h4:(i4,bU.rows (iE s.code) 5 T4)∈H) (h5:(j,bU.rows (ints out) 1 T5)∈H) (e2:n2=s.inputs.length) (e3:n3=s.ay.length) (e4:n4=s.code.length) (e5:nj=(ints out).length) (hr:r=(⟨c.slots,s.pl,last,out⟩,0)):
 jE B (.sI [.agg [ak c.slots,.os i2 n2,.os i3 n3,.os i4 n4,ak last,.os j nj],ak 0]) H S nx (oD w r):=by
 subst hw0 hr e2 e3 e4 e5
 refine dz λρ w' hw=> ?_
 have hb:∀R w',S.holds R w'->(aH B.w0).holds R w':=λR w' h=>(hS R w' h).1
 obtain⟨b2,c2,q2,d2⟩:=fw (dF hw hb h2)
 obtain⟨b3,c3,q3,d3⟩:=fw (dF hw hb h3)
 obtain⟨b4,c4,q4,d4⟩:=fw (dF hw hb h4)
 obtain⟨b5,c5,q5,d5⟩:=fw (dF hw hb h5)
 obtain⟨l5,g5,F5,_,_,k5,_⟩:=dF hw hb h5
 rw[g5]at q5
 simp only[Value.slice.injEq]at q5
 rw[mQ]at q2
 rw[aR]at q3
 rw[mP]at q4
 have dp:=oh (D:=(dP s.ay).and (aeF s.inputs)) hw (λR w' h=>⟨(hS R w' h).2.2,λx hx=>(hS R w' h).2.1.2.2 x.slots (hs.inputs x hx).1⟩)
 refine⟨⟨c.slots,b2,c2,s.inputs,⟨b3,c3,s.ay⟩,b4,c4,s.code,last,⟨b5,c5,out⟩⟩,⟨rfl,⟨hs.ay,λx hx=>⟨hsp _ (hs.inputs x hx).1,(hs.inputs x hx).2⟩,⟨ho.1,by show out.length<=c5;rw[<-q5.2.2];simpa[aF]using k5,ho.2⟩,by show s.ay.length<=_;omega,by show s.inputs.length<=_;omega,by show s.code.length<=_;omega⟩⟩,?_,aV hw hb,⟨⟨⟨d2,dp.2⟩,⟨d3,dp.1⟩⟩,⟨d4,d5⟩⟩⟩
 show Ending.returned (.tuple #[.agg #[.int .i64 c.slots,(SV.os i2 s.inputs.length).rf ρ,(SV.os i3 s.ay.length).rf ρ,(SV.os i4 s.code.length).rf ρ,.int .i64 last,(SV.os j (ints out).length).rf ρ],.int .i64 0])=_
 rw[q2,q3,q4,g5,q5.1,q5.2.2,aF]
 rfl
theorem K_{xs:List Int}(h:(fT xs layout slots).2=0):0<(fT xs layout slots).1.length:=by
 have hb:=dL xs
 unfold fT at h|-
 split at h
 ·cases h
 ·rename_i h1
  split at h
  ·cases h
  ·rename_i h2
   rw[if_neg h1,if_neg h2]
   show 0<(ig _ _ _).length
   rw[dG]
   omega
theorem Zo{k:Nat}{x:cZ}(h:dn k s.pl x.pl):x.ay.length+s.code.length<=s.ay.length+x.code.length/\x.inputs.length+s.code.length<=s.inputs.length+x.code.length:=by
 obtain⟨_,_,h1,h2⟩:=h
 simp only[cZ.pl,List.length_map]at h1 h2
 exact⟨h1,h2⟩
theorem CP(l:List Int)(x:Int):List.take l.length (ints l)++[[Value.int .i64 x]]=ints (l++[x]):=by
 rw[List.take_of_length_le zf];simp[ints]
abbrev LoW(w:World)(r:qO×Int)(k:Nat)(env:Env)(H:Heap)(S:bJ)(nx:Nat):Prop:=Wp ⟨Tryz.prog,⟨w,[]⟩,Tryz.f9.ntmps,tab⟩ (OX k (bodyC Tryz.f9)) env H S nx (Sn ⟨Tryz.prog,⟨w,[]⟩,Tryz.f9.ntmps,tab⟩ Tryz.f9.results.toList (oD w r))
theorem La(w:World)(g:bE)(c:dM)(qs:cZ)(vl:List Int)(r:qO×Int)(ho:0<=g.out)(ho1:g.out.toNat<c.bH.l.length)(ho2:g.out.toNat<vl.length)(hqo:sw c qs)(hf:qs.code.length<=2048/\qs.ay.length<=2048/\qs.inputs.length<=2048)
 (aj2:∀u∈c.bH.l,u.a_/\0<u.xs.length) (hrT:lowerT c g (some (qs.pl,vl))=r):
 LoW w r 8 [(3,.lp 0 0 0 0),(6,.lp 2 0 0 0),(10,.lp 3 0 0 0)]
  ((2,.box [ak 0,.c (.slice none 0 0),.c (.slice none 0 0),.c (.slice none 0 0),ak 0,.c (.slice none 0 0)] 34)::(0,.box [.c (.slice g.base g.l.length g.cap),ak g.out] 24)::xG c qs vl 3 5 6 7 8) (Q0 w c qs) 9:=by
 have hrow:=dh ho1
 have hcr:∀R w',(Q0 w c qs).holds R w'->bf w' c.bH.base 1 (aM c.bH.l)/\∀u∈c.bH.l,bf w' u.base 1 (ints u.xs):=λR w' h=>⟨aO h.2.1.2.1,λu hu=>aO (h.2.1.2.2 u hu)⟩
 have wN:=List.getElem_mem ho1
 have Y9:c.bH.l.getD g.out.toNat fI=c.bH.l[g.out.toNat]:=by rw[List.getD_eq_getElem?_getD,List.getElem?_eq_getElem ho1];rfl
 generalize c.bH.l[g.out.toNat]=u at*
 have aeJ:=(aj2 u wN).1
 have an0:=(aj2 u wN).2
 refine Wp.know (p:=∃a,c.bH.base=some a) (λρ w' hw=>ae hw λR h=>aI (j:=g.out.toNat) (hcr _ _ h).1 (by rw[aR];exact ho1)) ?_
 rintro⟨sa,hsa⟩
 (repeat' ((conv=>whnf)<;>first|(show cO _ 37 ..;refine mE [] [(0,.box [.c (.slice g.base g.l.length g.cap),ak g.out] 24),(5,.rows (ints vl) 1 3)] (eF [0,1,2,6,7,10,14,15] (.alt 3 (.alt 4 (.alt 5 (eF [8,9,111,112,113,16,17,118,119,120,121,122,123,124,125,126] .done) (.one 11 (.alt 5 (eF [8,9,112,113,16,17,118,119,120,121,122,123,124,125,126] .done) (.one 12 (.alt 5 (eF [8,9,113,16,17,118,119,120,121,122,123,124,125,126] .done) (eF [113,16,17] (.alt 5 (eF [8,9,118,119,120,121,122,123,124,125,126] .done) (eF [118,105,8,9,119,120,121,122,123,124,125,126] .done)))))))) (.one 11 (.alt 4 (.alt 5 (eF [8,9,112,113,16,17,118,119,120,121,122,123,124,125,126] .done) (.one 12 (.alt 5 (eF [8,9,113,16,17,118,119,120,121,122,123,124,125,126] .done) (eF [113,16,17] (.alt 5 (eF [8,9,118,119,120,121,122,123,124,125,126] .done) (eF [118,105,8,9,119,120,121,122,123,124,125,126] .done)))))) (.one 12 (.alt 4 (.alt 5 (eF [8,9,113,16,17,118,119,120,121,122,123,124,125,126] .done) (eF [113,16,17] (.alt 5 (eF [8,9,118,119,120,121,122,123,124,125,126] .done) (eF [118,105,8,9,119,120,121,122,123,124,125,126] .done)))) (eF [113,16,17] (.alt 4 (.alt 5 (eF [8,9,118,119,120,121,122,123,124,125,126] .done) (eF [118,105,8,9,119,120,121,122,123,124,125,126] .done)) (eF [118,104,105,8,9,119,120,121,122,123,124,125,126] .done)))))))) (.one 11 (.alt 3 (.alt 4 (.alt 5 (eF [8,9,112,113,16,17,118,119,120,121,122,123,124,125,126] .done) (.one 12 (.alt 5 (eF [8,9,113,16,17,118,119,120,121,122,123,124,125,126] .done) (eF [113,16,17] (.alt 5 (eF [8,9,118,119,120,121,122,123,124,125,126] .done) (eF [118,105,8,9,119,120,121,122,123,124,125,126] .done)))))) (.one 12 (.alt 4 (.alt 5 (eF [8,9,113,16,17,118,119,120,121,122,123,124,125,126] .done) (eF [113,16,17] (.alt 5 (eF [8,9,118,119,120,121,122,123,124,125,126] .done) (eF [118,105,8,9,119,120,121,122,123,124,125,126] .done)))) (eF [113,16,17] (.alt 4 (.alt 5 (eF [8,9,118,119,120,121,122,123,124,125,126] .done) (eF [118,105,8,9,119,120,121,122,123,124,125,126] .done)) (eF [118,104,105,8,9,119,120,121,122,123,124,125,126] .done)))))) (.one 12 (.alt 3 (.alt 4 (.alt 5 (eF [8,9,113,16,17,118,119,120,121,122,123,124,125,126] .done) (eF [113,16,17] (.alt 5 (eF [8,9,118,119,120,121,122,123,124,125,126] .done) (eF [118,105,8,9,119,120,121,122,123,124,125,126] .done)))) (eF [113,16,17] (.alt 4 (.alt 5 (eF [8,9,118,119,120,121,122,123,124,125,126] .done) (eF [118,105,8,9,119,120,121,122,123,124,125,126] .done)) (eF [118,104,105,8,9,119,120,121,122,123,124,125,126] .done)))) (eF [113,16,17] (.alt 3 (.alt 4 (.alt 5 (eF [8,9,118,119,120,121,122,123,124,125,126] .done) (eF [118,105,8,9,119,120,121,122,123,124,125,126] .done)) (eF [118,104,105,8,9,119,120,121,122,123,124,125,126] .done)) (eF [118,103,104,105,8,9,119,120,121,122,123,124,125,126] .done))))))))) ?_ (h6:=List.Sublist.cons _ (List.Sublist.cons_cons _ (List.Sublist.cons _ (List.Sublist.cons_cons _ (List.nil_sublist _))))))|(show iK ..;refine og ?_)|(show bC ..;refine ax sa g.out.toNat hsa aa ho1 ?_)|(show fu ..;(refine aW (λR w' h=>by rw[<-hsa];exact(hcr _ _ h).1) _ _ hrow rfl ?_))|(show bV ..;(refine aT g.out.toNat aa ho2 zf ?_))|(show kC ..;refine lY ho2 ?_)|(show aC _ 32 ..;refine wW (f:=32) Tryz.call32 1 3 (λ_:Unit=>ints u.xs) (λ_=>True) (λρ w' hw=>(AL w' u (ae hw λR h=>⟨(hcr _ _ h).2 u wN,aeJ.fits,aeJ.room,aeJ.few⟩) an0).mono (λe w2 h=>⟨(),trivial,h⟩)) (λ_ _=> ?_))|refine aN ?_|refine And.intro ?_ ?_))
 all_goals(conv=>whnf)
 all_goals exact aeI (c:=c) (s:=qs) (out:=u.xs) (last:=vl.getD g.out.toNat 0) rfl (λ_ _ h=>h) hqo (λu hu=>(aj2 u hu).1) hf ⟨aeJ.fits,aeJ.few⟩ aQ aQ aQ aQ rfl rfl rfl rfl (by rw[<-hrT];show(_,_)=(_,_);rw[Y9])
end
abbrev aix:Go.SX.DT:=(eF [0,1,5,6,7,8] (.alt 2 (.alt 3 (.alt 4 (eF [109,110,111,112,113,114] .done) (.one 9 (.alt 4 (eF [110,111,112,113,114] .done) (eF [110,104,111,112,113,114] .done)))) (.one 9 (.alt 3 (.alt 4 (eF [110,111,112,113,114] .done) (eF [110,104,111,112,113,114] .done)) (eF [110,103,104,111,112,113,114] .done)))) (.one 9 (.alt 2 (.alt 3 (.alt 4 (eF [110,111,112,113,114] .done) (eF [110,104,111,112,113,114] .done)) (eF [110,103,104,111,112,113,114] .done)) (eF [110,102,103,104,111,112,113,114] .done)))))
theorem aeK(w:World)(g:bE)(o:Am)(m:Nat)(hg:g.ok w)(hs:l7 o m)(hsp:(bT g).1=0)(htd:o.tidy=false)(r:qO×Int)
 (hbad:(gy o.layout m (check g).2 []).2≠0->r=(vo,(gy o.layout m (check g).2 []).2))
 (hgood:(gy o.layout m (check g).2 []).2=0->∀c:dM,c.slots=m->c.giant=o.giant->c.shapes.l.map aj.xs=(check g).2->(∀u∈c.shapes.l,u.a_)->c.bH.l.map aj.xs=(gy o.layout m (check g).2 []).1->(∀u∈c.bH.l,u.a_)->(∀(i:Nat) (n:ai),g.l[i]? =some n->Eb c n i (vv n.kind))/\qJ c g=r):
 Calls Tryz.prog 9 #[g.val,o.val,.int .i64 m] w (oD w r):=by
 obtain⟨hck,_,_⟩:=jA hsp
 obtain⟨hl1,xn,hout,hcl,hin⟩:=gX hck
 obtain⟨s1,s2,s3,s4,s5⟩:=hs
 refine fq Tryz.func9 [.agg [.c (.slice g.base g.l.length g.cap),ak g.out],.agg [ak o.layout,.c (.bool o.tidy),.c (.bool o.lazy),.c (.bool o.giant),ak o.rows],ak m] ?_
 (repeat' ((conv=>whnf)<;>first|(show Jh ..;refine Iu ?_)|(show @dR _ _ _;(first|refine cK aa ?_))|(show aC _ 22 ..;refine mY (f:=22) (bT g) Tryz.call22 (λρ w' hw=>xq w' g (ae hw λR h=>hg.later h)) (λh=>absurd hsp h) (λ_ qb qc=> ?_))|refine aN ?_))
 refine vg (λ_=>rfl) (λht=> ?_) (λ_=> ?_)
 ·rw[htd]at ht;cases ht
 (repeat' ((conv=>whnf)<;>first|(show aC _ 24 ..;refine vU (f:=24) (check g) Tryz.call24 (λρ w' hw=>pu w' g (ae hw λR h=>hg.later h.1)) (λh=>absurd hck h) (λ_ sv hm hsv hsc=> ?_))|refine aN ?_))
 have hsl:sv.l.length=g.l.length:=by have:=congrArg List.length hm;rw[List.length_map]at this;omega
 obtain⟨Z,TZ⟩:∃Z,gy o.layout m ((sv.l.drop 0).map aj.xs) []=Z:=⟨_,rfl⟩
 have Rn:gy o.layout m (check g).2 []=Z:=by rw[<-TZ,List.drop_zero];exact congrArg (λz=>gy o.layout m z []) hm.symm
 rw[Rn]at hbad hgood
 refine Wp.loop (σ:=Nat×List aj) 5 (λq=>[(2,ak m),(3,.lp 0 0 0 0),(4,.lp 1 0 0 0),(6,.lp 2 0 0 0),(10,.lp 3 0 0 0),(75,.c sv.val),(76,ak sv.l.length),(77,ak q.1)])
  (λq=>[(4,.rows (aM q.2) 1 32),(3,.box [ak m,.c (.slice none 0 0),.c (.slice none 0 0),.c (.slice none 0 0),ak 0,.c (.slice none 0 0),.c (.bool o.giant),.c sv.val,.os 4 q.2.length,.c (.slice none 0 0)] 71),(2,.box [ak 0,.c (.slice none 0 0),.c (.slice none 0 0),.c (.slice none 0 0),ak 0,.c (.slice none 0 0)] 34),(1,.box [ak o.layout,.c (.bool o.tidy),.c (.bool o.lazy),.c (.bool o.giant),ak o.rows] 26),(0,.box [.c (.slice g.base g.l.length g.cap),ak g.out] 24)])
  (λq=>al_ w sv q.2) (λq=>q.1<=sv.l.length/\q.2.length=q.1/\(∀u∈q.2,u.a_/\0<u.xs.length)/\gy o.layout m ((sv.l.drop q.1).map aj.xs) (q.2.map aj.xs)=Z) (λq=>sv.l.length-q.1) (0,[]) [(4,none)] aS (λq=>⟨rfl,rfl⟩) ⟨Nat.zero_le _,rfl,λ_ h=>kJ,TZ⟩
  ⟨rfl,aU,⟨rfl,aQ,aQ,aQ,aQ,trivial⟩,λR w' h=>⟨⟨h.1.1,h.2⟩,λu hu=>by cases hu⟩⟩ ?_
 rintro⟨k,us⟩ ⟨hkl,yf,fP,hZ⟩
 simp only at hkl yf fP hZ
 by_cases hlt:k<sv.l.length
 ·rw[List.drop_eq_getElem_cons hlt,List.map_cons]at hZ
  have hrow:=dh hlt
  have wN:=List.getElem_mem hlt
  generalize sv.l[k]=u at*
  refine Wp.know (p:=∃a,sv.base=some a) (λρ w' hw=>ae hw λR h=>aI (j:=k) (aO h.1.2.1) RN) ?_
  rintro⟨sa,hsa⟩
  by_cases hok:(fT u.xs o.layout m).2=0
  ·rw[Bf hok]at hZ
   (repeat' ((conv=>whnf)<;>first|(show bC ..;refine ax sa k hsa rfl hlt ?_)|(show fu ..;(refine aW (λR w' h=>by rw[<-hsa];exact aO h.1.2.1) _ _ hrow rfl ?_))|(show @dR _ _ _;(refine cK (by rw[hok];decide) ?_))|(refine ag7 ?_;intro x hx hxs)|(show sH ..;(refine fO Pq ?_))|(show fG ..;(refine b_ af2 ?_))|(show jd _ ((_,.rows (List.take us.length _++_) _ _)::_) _ _ _;refine iG (ys:=aM (us++[x])) (m:=(us++[x]).length) ?_ (D5 us x) ai9)|refine aN ?_|refine ag ?_ ?_<;>intro _))
   all_goals(conv=>whnf)
   all_goals exact⟨(k+1,us++[x]),[(4,some 6)],⟨hlt,by show(us++[x]).length=k+1;rw[List.length_append,yf];rfl,λv hv=>(List.mem_append.1 hv).elim (fP v) (λhv=>by rw[List.mem_singleton.1 hv];exact⟨hxs,by rw[hx];exact K_ hok⟩),by show gy o.layout m _ ((us++[x]).map aj.xs)=Z;rw[List.map_append,List.map_cons,List.map_nil,hx];exact hZ⟩,by show sv.l.length-(k+1)<sv.l.length-k;omega,rfl,aU,aU,λR w' h=>⟨h.1.1,kW h.1.2 (Fy h.2)⟩⟩
  ·rw[Bg hok]at hZ
   (repeat' ((conv=>whnf)<;>first|(show bC ..;refine ax sa k hsa rfl hlt ?_)|(show fu ..;(refine aW (λR w' h=>by rw[<-hsa];exact aO h.1.2.1) _ _ hrow rfl ?_))|(show @dR _ _ _;refine bA hok ?_)|(refine ag7 ?_;intro x hx hxs)|refine aN ?_|refine ag ?_ ?_<;>intro _))
   all_goals(conv=>whnf)
   have e2:Z.2=(fT u.xs o.layout m).2:=by rw[<-hZ]
   all_goals exact nA (λ_ _ h=>h.1.1.1) rfl (by rw[hbad (by rw[e2];exact hok),e2]) (λρ=>rfl)
 obtain rfl:k=sv.l.length:=by omega
 rw[List.drop_length]at hZ
 have hZ:(us.map aj.xs,(0:Int))=Z:=hZ
 (repeat' ((conv=>whnf)<;>first|refine Bu ?_|refine ag ?_ ?_<;>intro _))
 all_goals(conv=>whnf)
 refine Wp.Ii 4 (GB w.heap.size) (k:=1) (xs:=aM us) (T:=32) aQ (λR w' h b hb=>(h.1.1 b hb).1) (λfl hfl=> ?_)
 rw[aR]at hfl
 obtain⟨c,hc⟩:∃c:dM,c=⟨m,o.giant,sv,⟨fl.base,fl.cap,us⟩⟩:=⟨_,rfl⟩
 obtain⟨aeL,hr⟩:=hgood (by rw[<-hZ]) c Ni Ni (by rw[hc];exact hm) (by rw[hc];exact hsv) (by rw[hc,<-hZ]) (by rw[hc];exactλu hu=>(fP u hu).1)
 (repeat' ((conv=>whnf)<;>first|refine aN ?_|refine ag ?_ ?_<;>intro _))
 obtain⟨T,hT0⟩:∃T,gZ c (g.l.drop 0) 0 ⟨[],[],[]⟩ []=T:=⟨_,rfl⟩
 have hrT:lowerT c g T=r:=by rw[<-hT0,<-hr];rfl
 have hcs:c.slots=m:=by rw[hc]
 refine Wp.loop (σ:=Nat×cZ×List Int) 9 (λq=>[(3,.lp 0 0 0 0),(6,.lp 2 0 0 0),(10,.lp 3 0 0 0),(105,.c (.slice g.base g.l.length g.cap)),(106,ak g.l.length),(107,ak q.1)])
  (λq=>(2,.box [ak 0,.c (.slice none 0 0),.c (.slice none 0 0),.c (.slice none 0 0),ak 0,.c (.slice none 0 0)] 34)::(0,.box [.c (.slice g.base g.l.length g.cap),ak g.out] 24)::xG c q.2.1 q.2.2 3 5 6 7 8)
  (λq=>Q0 w c q.2.1) (λq=>q.1<=g.l.length/\q.2.2.length=q.1/\sw c q.2.1/\q.2.1.code.length<=2048/\q.2.1.ay.length<=q.2.1.code.length/\q.2.1.inputs.length<=q.2.1.code.length/\gZ c (g.l.drop q.1) q.1 q.2.1.pl q.2.2=T) (λq=>g.l.length-q.1) (0,⟨[],[],[]⟩,[]) [(5,none),(6,none),(7,none),(8,none)] aS (λq=>⟨rfl,rfl⟩)
  ⟨Nat.zero_le _,rfl,⟨λ_ h=>kJ,λ_ h=>kJ⟩,Nat.zero_le _,Nat.zero_le _,Nat.zero_le _,hT0⟩ ⟨rfl,aU,⟨aQ,aQ,by rw[hc];exact aQ,rfl,rfl,rfl,rfl,trivial⟩,λR w' h=>⟨h.1.1.1,⟨by rw[hc];exact h.1.1.2,by rw[hc];exact⟨adO (λb hb=>hb) h.2,h.1.2⟩⟩,λ_ h=>kJ⟩⟩ ?_
 rintro⟨i,qs,vl⟩ ⟨hil,hvl,hqo,hqc,hqp,hqi,hT⟩
 simp only at hil hvl hqo hqc hqp hqi hT
 by_cases hlt:i<g.l.length
 ·have hgi:g.l[i]? =some g.l[i]:=List.getElem?_eq_getElem hlt
  have hrow:=bQ hlt
  have hNC:=aeL i _ hgi
  have hgr:=dn.node c g.l[i] i qs.pl vl aa
  have hnm:=List.getElem_mem hlt
  rw[List.drop_eq_getElem_cons hlt,gZ]at hT
  generalize g.l[i]=n at*
  have an1:=hg.each n hnm
  have hNA:lH c qs vl:=⟨by omega,hqo,by omega,by omega,by omega⟩
  clear aeL hbad hgood TZ Rn hT0 hZ hc hsv hm hnm hgi yf fP hkl hsl hsc hin hcl
  refine Wp.know (p:=∃a,g.base=some a) (λρ w' hw=>ae hw λR h=>aI (j:=i) (au h.1 hg.rows) acM) ?_
  rintro⟨ga,hga⟩
  rcases Zn n.kind with⟨hk,hf⟩|⟨hk,hf⟩|⟨hk,hf⟩|⟨hk,hf⟩|⟨hk,hf⟩|⟨⟨hk1,hk2,hk3,hk4,hk5⟩,hf⟩
  all_goals Q3=>
   rw[hf]at hNC
   (repeat' ((conv=>whnf)<;>first|(show cO _ 33 ..;refine mE [] [(9,.box (cs n.cells) 41)] aix ?_ (h6:=List.Sublist.cons_cons _ (List.nil_sublist _)))|(show iK ..;refine og ?_)|(show bC ..;refine ax ga i hga rfl hlt ?_)|(show iM ..;(refine dO (λR w' h=>by rw[<-hga];exact au h.1 hg.rows) _ hrow rfl ?_))|(show @dR _ _ _;(first|refine bA aa ?_|refine cK aa ?_))|(show aC _ _ [.lp 3 0 0 0,_,_] ..;refine dN [(9,.box (cs n.cells) 41),(2,.box [ak 0,.c (.slice none 0 0),.c (.slice none 0 0),.c (.slice none 0 0),ak 0,.c (.slice none 0 0)] 34),(0,.box [.c (.slice g.base g.l.length g.cap),ak g.out] 24)] 3 5 6 7 8 c qs vl (rH c qs n) [.lp 0 0 0 0,.agg (jM n),ak i] _ _ _ _ ak7 rfl rfl rfl (λR w' h=>aeH an1 h) (GB w.heap.size) (λR w' h b hb=>(h.1 b hb).1) (λw' ρ' F' h'=>hNC qs vl w' ρ' F' hNA hvl h') (λq ⟨hq1,hq2,hq3⟩=> ?_))|(show sH ..;(refine fO zf ?_))|(show fG ..;(refine b_ aja ?_))|(show jd _ ((_,.rows (List.take vl.length _++_) _ _)::_) _ _ _;refine iG (ys:=ints (vl++[q.2])) (m:=(vl++[q.2]).length) ?_ (CP vl q.2) ai_)|refine aN ?_|refine ag ?_ ?_<;>intro _|refine And.intro ?_ ?_))
   all_goals(conv=>whnf)
   all_goals
    rw[<-hq1]at hT hgr
    have hg3:=Zo hgr
    first|exact⟨(i+1,q.1,vl++[q.2]),[(5,some 16),(6,some 12),(7,some 13),(8,some 14)],⟨hlt,by show(vl++[q.2]).length=i+1;rw[List.length_append,hvl];rfl,hq3,by show q.1.code.length<=2048;omega,by show q.1.ay.length<=q.1.code.length;omega,by show q.1.inputs.length<=q.1.code.length;omega,by rw[if_neg acH,<-hq2]at hT;exact hT⟩,by show g.l.length-(i+1)<g.l.length-i;omega,rfl,aU,aU,λR w' h=>Fz h.1 h.2⟩|exact nA (λ_ _ h=>h.1.1) rfl ak_ (λρ=>rfl)
 ·obtain rfl:i=g.l.length:=by omega
  rw[List.drop_length,gZ]at hT
  rw[<-hT]at hrT
  have ho1:g.out.toNat<c.bH.l.length:=by rw[hc];show g.out.toNat<us.length;omega
  have ho2:g.out.toNat<vl.length:=by omega
  refine Wp.go fA rfl ?_
  (repeat' ((conv=>whnf)<;>first|refine Bu ?_|refine ag ?_ ?_<;>intro _))
  refine Wp.go fA rfl ?_
  (repeat' ((conv=>whnf)<;>first|refine Bu ?_|refine ag ?_ ?_<;>intro _))
  exact Wp.into 9 [] (La w g c qs vl r hout.1 ho1 ho2 hqo ⟨hqc,by omega,by omega⟩ (by rw[hc];exact fP) hrT) aS ⟨rfl,rfl⟩ ⟨rfl,aU,aU,λ_ _ h=>h⟩
section
variable {l:List ai} {sh:List (List Int)}
theorem Ao:∀{l:List ai} {Mt sh:List (List Int)} {n:ai} {s:List Int},eG l Mt=(0,sh)->bY n sh.length=true->bM n sh=some s->gW n=true->eG (l++[n]) Mt=(0,sh++[s])
 |[],Mt,sh,n,s,h,h1,h2,h3=>by
  obtain rfl:Mt=sh:=by simpa[eG]using h
  rw[List.nil_append,iA h1 h2 h3];rfl
 |m::r,Mt,sh,n,s,h,h1,h2,h3=>by
  by_cases hf:bY m Mt.length=false
  ·rw[r_ hf]at h;simp at h
  have hf:bY m Mt.length=true:=by simpa using hf
  cases hs:bM m Mt with
  |none=>rw[qh hf hs]at h;simp at h
  |some q=>
   by_cases hn:gW m=false
   ·rw[kP hf hs hn]at h;simp at h
   have hn:gW m=true:=by simpa using hn
   rw[iA hf hs hn]at h
   rw[List.cons_append,iA hf hs hn]
   exact Ao h h1 h2 h3
theorem BQ:∀(l:List ai) (sh:List (List Int)),(eG l sh).1=0->(eG l sh).2.length=sh.length+l.length
 |[],sh,_=>by simp[eG]
 |n::r,sh,h=>by
  by_cases hf:bY n sh.length=false
  ·rw[r_ hf]at h;simp at h
  have hf:bY n sh.length=true:=by simpa using hf
  cases hs:bM n sh with
  |none=>rw[qh hf hs]at h;simp at h
  |some s=>
   by_cases hn:gW n=false
   ·rw[kP hf hs hn]at h;simp at h
   have hn:gW n=true:=by simpa using hn
   rw[iA hf hs hn]at h|-
   rw[BQ r _ h]
   simp;omega
structure Ut(l:List ai):Prop where
 one:1<=l.length
 shapes:∃sh,eG l []=(0,sh)/\∀s∈sh,age s
 each:∀n∈l,Made n
theorem Xh{n:ai}(h:Ut l)(hsh:eG l []=(0,sh))(hn:Te n sh)(hok:∀s∈sh,age s):Ut (l++[n]):=by
 obtain⟨s,hs,hso⟩:=hn.shape
 refine⟨by simp,⟨sh++[s],Ao hsh hn.form hs hn.near,?_⟩,?_⟩
 ·intro x hx
  rcases List.mem_append.1 hx with hx|hx
  ·exact hok x hx
  ·simp at hx;subst hx;exact hso
 ·intro x hx
  rcases List.mem_append.1 hx with hx|hx
  ·exact h.each x hx
  ·simp at hx;subst hx;exact hn.made
theorem Xi{base:Option Addr}{cap:Nat}{out:Int}(h1:1<=l.length)(h24:l.length<=24)(ho:0<=out/\out<l.length)(h:eG l []=(0,sh)):check ⟨base,cap,l,out⟩=(0,sh):=by
 unfold check
 rw[if_neg (by simp only;omega)]
 exact h
end
open Go.ChangeShapes Go.WideShapes Go.ChangeAt
def Q4(w:World)(f:Field)(cs:List Value):Prop:=
 (f.type=3->∃i,(Lit.int .i64 i).wf=true/\cs=[.int .i64 i])/\(f.type=32->∃u:aj,cs=[u.val]/\u.raw w)
theorem amc{cs:List Value}(h:cs.length=9):∃a b c d e f g i j,cs=[a,b,c,d,e,f,g,i,j]:=by
 match cs,h with
 |[a,b,c,d,e,f,g,i,j],_=>exact⟨a,b,c,d,e,f,g,i,j,rfl⟩
theorem amd{cs:List Value}(h:cs.length=2):∃a b,cs=[a,b]:=by
 match cs,h with
 |[a,b],_=>exact⟨a,b,rfl⟩
theorem aiy:Tryz.prog.cellsOf 3=1:=by kernel_rfl
theorem aj3:Tryz.prog.cellsOf 32=1:=by kernel_rfl
theorem Xj(w:World):kw Tryz.prog w 41 λcs=>∃n:ai,cs=n.cells/\n.raw w:=by
 have h:=yo (P:=Tryz.prog) (w:=w) (k:=9) (Q:=Q4 w) Tryz.underlying41 jf (by
  intro f hf
  have hi:∀t,t=3->kw Tryz.prog w t λcs=>(t=3->∃i,(Lit.int .i64 i).wf=true/\cs=[.int .i64 i])/\(t=32->∃u:aj,cs=[u.val]/\u.raw w):=by
   rintro t rfl
   exact kw.mono (wX Tryz.underlying3) λcs hc=>⟨λ_=>hc,λh=>kJ⟩
  have hs:∀t,t=32->kw Tryz.prog w t λcs=>(t=3->∃i,(Lit.int .i64 i).wf=true/\cs=[.int .i64 i])/\(t=32->∃u:aj,cs=[u.val]/\u.raw w):=by
   rintro t rfl
   exact kw.mono (SH w) λcs hc=>⟨λh=>kJ,λ_=>hc⟩
  simp only[List.mem_toArray,List.mem_cons,List.not_mem_nil,or_false]at hf
  rcases hf with rfl|rfl|rfl|rfl|rfl|rfl|rfl|rfl|rfl
  all_goals first|(refine kw.mono (Q':=Q4 w _) (hi _ rfl) ?_;intro cs h;exact h)|(refine kw.mono (Q':=Q4 w _) (hs _ rfl) ?_;intro cs h;exact h))
 refine kw.mono h ?_
 rintro cs ⟨hl,hf⟩
 obtain⟨a,b,c,d,e,f,g,i,j,rfl⟩:=amc hl
 simp only[List.mem_toArray,List.mem_cons,List.not_mem_nil,or_false,forall_eq_or_imp,forall_eq,Q4,aiy,aj3,List.drop_zero,List.drop_succ_cons,List.take_succ_cons,List.take_zero,forall_const,true_and,and_true,reduceCtorEq,Nat.reduceEqDiff,false_implies]at hf
 obtain⟨⟨x1,w1,e1⟩,⟨x2,w2,e2⟩,⟨x3,w3,e3⟩,⟨x4,e4,w4⟩,⟨x5,w5,e5⟩,⟨x6,w6,e6⟩,⟨x7,w7,e7⟩,⟨x8,e8,w8⟩,⟨x9,e9,w9⟩⟩:=hf
 simp only[List.cons.injEq,and_true]at e1 e2 e3 e4 e5 e6 e7 e8 e9
 subst e1 e2 e3 e4 e5 e6 e7 e8 e9
 exact⟨⟨x1,x2,x3,x4,x5,x6,x7,x8,x9⟩,rfl,w4,w8,w9,wf_i64' w1,wf_i64' w2,wf_i64' w3,wf_i64' w5,wf_i64' w6,wf_i64' w7⟩
theorem Uu(w:World):kw Tryz.prog w 24 λcs=>∃g:bE,cs=[.slice g.base g.l.length g.cap,.int .i64 g.out]/\g.raw w:=by
 have hns:=Gb (P:=Tryz.prog) (w:=w) (k:=9) Tryz.underlying22 jf (Xj w)
 have h:=yo (P:=Tryz.prog) (w:=w) (k:=2) (Q:=λf cs=>(f.type=3->∃i,(Lit.int .i64 i).wf=true/\cs=[.int .i64 i])/\(f.type=22->ada w 9 (λcs=>∃n:ai,cs=n.cells/\n.raw w) cs)) Tryz.underlying24 jf (by
  intro f hf
  simp only[List.mem_toArray,List.mem_cons,List.not_mem_nil,or_false]at hf
  rcases hf with rfl|rfl
  ·exact kw.mono hns λcs hc=>⟨λh=>kJ,λ_=>hc⟩
  ·exact kw.mono (wX Tryz.underlying3) λcs hc=>⟨λ_=>hc,λh=>kJ⟩)
 refine kw.mono h ?_
 rintro cs ⟨hl,hf⟩
 obtain⟨a,b,rfl⟩:=amd hl
 have agz:Tryz.prog.cellsOf 22=1:=by kernel_rfl
 simp only[List.mem_toArray,List.mem_cons,List.not_mem_nil,or_false,forall_eq_or_imp,forall_eq,aiy,agz,List.drop_zero,List.drop_succ_cons,List.take_succ_cons,List.take_zero,forall_const,true_and,and_true,reduceCtorEq,Nat.reduceEqDiff,false_implies]at hf
 obtain⟨⟨base,cap,xs,e1,hr,hx,_⟩,x2,w2,e2⟩:=hf
 obtain⟨l,rfl,hall⟩:=zL (f:=ai.cells) (p:=λn=>n.raw w) λr hr=>by obtain⟨n,hn,hn'⟩:=(hx r hr).2;exact⟨n,hn',hn⟩
 simp only[List.cons.injEq,and_true]at e1 e2
 subst e1 e2
 exact⟨⟨base,cap,l,x2⟩,by simp,hr,hall,wf_i64' w2⟩
def FB:List ai->List (List Int)->Prop
 |[],inp=>inp=[]
 |n::r,inp=>if n.kind≠1 then FB r inp else∃x xs,inp=x::xs/\((x.length:Int)=entries n.shape.xs/\∀v∈x,n.lo<=v/\v<=n.hi)/\FB r xs
section
variable {m:Int} {l:List Int}
theorem BR:∀(l:List Int) (x:Int),m<=x->(∀y∈l,m<=y)->m<=l.foldl min x
 |[],x,h,_=>h
 |z::r,x,h,hl=>by
  rw[List.foldl_cons]
  have:=hl z List.mem_cons_self
  exact BR r _ aa λy hy=>hl y (List.mem_cons_of_mem _ hy)
theorem BS:∀(l:List Int) (x:Int),x<=m->(∀y∈l,y<=m)->l.foldl max x<=m
 |[],x,h,_=>h
 |z::r,x,h,hl=>by
  rw[List.foldl_cons]
  have:=hl z List.mem_cons_self
  exact BS r _ aa λy hy=>hl y (List.mem_cons_of_mem _ hy)
theorem aeM(hn:l≠[])(h:∀y∈l,m<=y):m<=foldI min l:=by
 cases l with
 |nil=>exact absurd rfl hn
 |cons x r=>exact BR r x (h x List.mem_cons_self) λy hy=>h y (List.mem_cons_of_mem _ hy)
theorem aaY(hn:l≠[])(h:∀y∈l,y<=m):foldI max l<=m:=by
 cases l with
 |nil=>exact absurd rfl hn
 |cons x r=>exact BS r x (h x List.mem_cons_self) λy hy=>h y (List.mem_cons_of_mem _ hy)
def mkI(l:List Int):aj:=⟨none,l.length,l⟩
theorem Uv(h:∀x∈l,bX x)(hl:l.length<=64):(mkI l).a_:=⟨λx hx=>by have:=h x hx;unfold bX at this;show _/\_;omega,Nat.le_refl _,by show l.length<=_;omega⟩
theorem Lb{g:bE}(hsp:(bT g).1=0):∀{r:List ai} {k:Nat} {kn:List aj} {inp:List (List Int)},k<=g.l.length->g.l.drop k=r->Ct g kn k->FB r inp->∃kn':List aj,jh (check g).2 r (kn.map aj.xs) inp=(0,kn'.map aj.xs)/\Ct g kn' g.l.length
 |[],k,kn,inp,hk,hr,hkn,hg=>by
  simp only[FB]at hg
  subst hg
  have:g.l.length<=k:=List.drop_eq_nil_iff.1 hr
  obtain rfl:k=g.l.length:=by omega
  exact⟨kn,by simp[jh],hkn⟩
 |n::r,k,kn,inp,hk,hr,hkn,hg=>by
  obtain⟨hck,hsl,hsi⟩:=jA hsp
  obtain⟨hl1,xn,hout,hcl,hin⟩:=gX hck
  have hlt:k<g.l.length:=by
   rcases Nat.lt_or_ge k g.l.length with h|h
   ·exact h
   ·rw[List.drop_eq_nil_of_le h]at hr;cases hr
  have hdrop:g.l.drop k=g.l[k]::g.l.drop (k+1):=List.drop_eq_getElem_cons hlt
  rw[hdrop]at hr
  have hgk:g.l[k]? =some n:=by rw[List.getElem?_eq_getElem hlt];simp only[List.cons.injEq]at hr;rw[hr.1]
  have hr2:g.l.drop (k+1)=r:=by simp only[List.cons.injEq]at hr;exact hr.2
  obtain⟨s,hs,hni⟩:=hin k n hgk
  obtain⟨p,hp,hpe,hp1,hp2⟩:=hsi k n hgk
  obtain⟨⟨ha0,ajI,hai⟩,⟨hb0,Wq,hbi⟩,cnt,DF,hpl⟩:=xm hck hgk
  have e1:(check g).2.getD k []=s:=by rw[List.getD_eq_getElem?_getD,hs];rfl
  rw[e1]at DF hpl
  have hcb:=(dL s).2
  have hkl:=hkn.len
  have aao:(kn.map aj.xs).length=k:=by rw[List.length_map,hkl]
  have hti:((check g).2.take k).length=k:=by rw[List.length_take,hcl];omega
  have hform:=hni.form
  rw[hti]at hform
  simp only[FB]at hg
  by_cases hk1:n.kind=1
  ·rw[if_neg (λh=>h hk1)]at hg
   obtain⟨x,xs,rfl,⟨hx1,hx2⟩,hg⟩:=hg
   have hsx:s=n.shape.xs:=by
    have:=hni.shape
    unfold bM at this
    rw[if_pos (.inl hk1)]at this
    simpa using this.symm
   have hL:iZ (check g).2 n ((bT g).2.take k)=[n.lo,n.hi]:=by
    unfold iZ iC
    rw[if_neg (by unfold dQ;omega)]
    exact if_pos hk1
   have ZH:within p x:=by
    rw[hpe]
    unfold q8 je
    rw[hL]
    intro z hz
    have m1:foldI min [n.lo,n.hi]=min n.lo n.hi:=rfl
    have m2:foldI max [n.lo,n.hi]=max n.lo n.hi:=rfl
    have:=hx2 z hz
    simp only[m1,m2]
    omega
   have hxl:x.length<=64:=by rw[<-hsx]at hx1;omega
   have hne:x≠[]:=by
    intro e
    have:=hpl.few
    rw[e]at hx1
    rw[<-hsx]at hx1
    simp only[List.length_nil]at hx1
    omega
   have hbad:¬((x.length:Int)≠entries s\/foldI min x<n.lo\/n.hi<foldI max x):=by
    rw[hsx]
    have h1:n.lo<=foldI min x:=aeM hne λy hy=>(hx2 y hy).1
    have h2:foldI max x<=n.hi:=aaY hne λy hy=>(hx2 y hy).2
    omega
   have hv:jh (check g).2 (n::r) (kn.map aj.xs) (x::xs)=jh (check g).2 r (kn.map aj.xs++[x]) xs:=by
    conv=>lhs;unfold jh
    rw[if_neg (λh=>h hk1)]
    simp only
    rw[aao,e1,if_neg hbad]
   rw[hv]
   have hkn2:=vW hkn (x:=mkI x) (Uv (λy hy=>by have:=ZH y hy;unfold bX;omega) hxl) hp hs ZH (by show(x.length:Int)=_;rw[hsx];exact hx1)
   have:=Lb hsp aa hr2 hkn2 hg
   rw[List.map_append]at this
   exact this
  ·rw[if_pos hk1]at hg
   have kA:=oM hsp hkn aa n.a.toNat
   have kB:=oM hsp hkn aa n.b.toNat
   have agj:=YS hsp hkn aa (dH hform)
   have hpl':eT n ((check g).2.take k) s (mkI ((check g).2.getD n.a.toNat [])).xs cnt:=hpl
   have hwn:=Qf hpl' hk1 agj kA.1 kB.1
   have hEq:iZ (check g).2 n ((bT g).2.take k)=iC n cnt (mkI ((check g).2.getD n.a.toNat [])).xs (((bT g).2.take k).getD n.a.toNat (0,0)) (((bT g).2.take k).getD n.b.toNat (0,0)):=by
    unfold iZ
    rw[show((bT g).2.take k).length=k by rw[List.length_take,hsl];omega,e1,DF];rfl
   have hv:jh (check g).2 (n::r) (kn.map aj.xs) inp=jh (check g).2 r (kn.map aj.xs++[kQ n cnt (mkI ((check g).2.getD n.a.toNat [])).xs (kn.getD n.a.toNat fI).xs (kn.getD n.b.toNat fI).xs]) inp:=by
    conv=>lhs;unfold jh
    unfold uY
    rw[if_pos hk1,AY,AY,aao,e1,DF];rfl
   rw[hv]
   have ZH:within p (kQ n cnt (mkI ((check g).2.getD n.a.toNat [])).xs (kn.getD n.a.toNat fI).xs (kn.getD n.b.toNat fI).xs):=by
    rw[hpe];unfold q8;rw[hEq];exact hwn.1
   have hkn2:=vW hkn (x:=mkI (kQ n cnt (mkI ((check g).2.getD n.a.toNat [])).xs (kn.getD n.a.toNat fI).xs (kn.getD n.b.toNat fI).xs)) (Uv (λy hy=>by have:=ZH y hy;unfold bX;omega) (by rw[hwn.2];exact hpl.few.2)) hp hs ZH (by show((kQ _ _ _ _ _).length:Int)=_;rw[hwn.2,DF])
   have:=Lb hsp aa hr2 hkn2 hg
   rw[List.map_append]at this
   exact this
end
structure P9.raw(w:World)(t:P9):Prop where
 rows:bf w t.base 1 (ajB t.bs)
 fits:∀x∈t.bs,x<=255
theorem Xk{l:List ai}{sh:List (List Int)}(hck:∀base cap out,0<=out->out<(l.length:Int)->check ⟨base,cap,l,out⟩=(0,sh))(base:Option Addr)(cap:Nat)(out:Int)(h0:0<=out)(h1:out<l.length):bT ⟨base,cap,l,out⟩=fV sh l []/\∀inp,sj ⟨base,cap,l,out⟩ inp=jh sh l [] inp:=by
 unfold bT sj
 rw[hck base cap out h0 h1]
 exact⟨rfl,λ_=>rfl⟩
section
variable {l:List ai} {sh:List (List Int)}
structure y_(l:List ai)(sh:List (List Int)):Prop where
 made:Ut l
 shapes:eG l []=(0,sh)
 ok:∀s∈sh,age s
theorem Ut.s(h:Ut l):∃sh,y_ l sh:=by
 obtain⟨sh,h1,h2⟩:=h.shapes
 exact⟨sh,h,h1,h2⟩
theorem y_.len(h:y_ l sh):sh.length=l.length:=by
 have:=BQ l [] (by rw[h.shapes])
 rw[h.shapes]at this
 simpa using this
theorem y_.snoc{n:ai}(h:y_ l sh)(hn:Te n sh){s:List Int}(hs:bM n sh=some s):y_ (l++[n]) (sh++[s]):=by
 obtain⟨s',h1,h2⟩:=hn.shape
 obtain rfl:s'=s:=by rw[hs]at h1;simpa using h1.symm
 exact⟨Xh h.made h.shapes hn h.ok,Ao h.shapes hn.form hs hn.near,λx hx=>by
  rcases List.mem_append.1 hx with hx|hx
  ·exact h.ok x hx
  ·simp at hx;subst hx;exact h2⟩
theorem y_.check(h:y_ l sh)(h24:l.length<=24)(base:Option Addr)(cap:Nat){out:Int}(h0:0<=out)(h1:out<l.length):check ⟨base,cap,l,out⟩=(0,sh):=Xi h.made.one h24 ⟨h0,h1⟩ h.shapes
theorem y_.a(h:y_ l sh)(h24:l.length<=24):∀n∈l,n.a.toNat<sh.length:=by
 have h1:=h.made.one
 have hc:=h.check h24 none 0 (out:=0) (Int.le_refl _) aa
 intro n hn
 obtain⟨i,hi⟩:=List.mem_iff_getElem?.1 hn
 have:=(xm (g:=⟨none,0,l,0⟩) Ni hi).1.2.1
 rw[hc]at this
 exact this
theorem y_.run{inp:List (List Int)}(h:y_ l sh)(h24:l.length<=24)(hg:FB l inp)(hsp:(fV sh l []).1=0):∃vals,jh sh l [] inp=(0,vals)/\vals.length=l.length/\(∀i,i<l.length->(∀x∈vals.getD i [],bX x)/\((vals.getD i []).length:Int)=entries (sh.getD i []))/\∀base cap (out:Int),0<=out->out<l.length->Mv ⟨base,cap,l,out⟩ inp=(0,vals.getD out.toNat []):=by
 have h1:=h.made.one
 have hc:=λbase cap (out:Int) (h0:0<=out) (h1:out<l.length)=>h.check h24 base cap h0 h1
 have hS:=Xk hc
 obtain⟨q1,q2⟩:=hS none 0 0 (Int.le_refl _) aa
 obtain⟨kn,v1,v2⟩:=Lb (g:=⟨none,0,l,0⟩) (by rw[q1];exact hsp) (k:=0) (kn:=[]) (Nat.zero_le _) rfl ⟨rfl,λu hu=>by simp at hu,λj u s q hu=>by simp at hu⟩ hg
 rw[hc none 0 0 (Int.le_refl _) aa]at v1
 have hkl:kn.length=l.length:=v2.len
 have v1:jh sh l [] inp=(0,kn.map aj.xs):=v1
 refine⟨kn.map aj.xs,v1,by rw[List.length_map,hkl],λi hi=> ?_,λbase cap out h0 h1=> ?_⟩
 ·have:=oM (g:=⟨none,0,l,0⟩) (by rw[q1];exact hsp) v2 (Nat.le_refl _) i
  rw[<-AY]
  refine⟨this.2.1,?_⟩
  have e:=this.2.2 hi
  rw[hc none 0 0 (Int.le_refl _) aa]at e
  rw[e,List.take_of_length_le (by rw[h.len];exact Nat.le_refl _)]
 ·obtain⟨r1,r2⟩:=hS base cap out h0 h1
  unfold Mv
  rw[r1,r2,if_neg aa,v1,if_neg fC]
end
section
variable {l fr to:List Int} {k j d:Nat} {rows:List (List Int)} {s f:Int}
def za(n:Nat)(d:Int)(r:List Int×Bool)(s f w:Int):List Int×Bool:=if(s+d)%n=f then(r.1.set s.toNat w,r.2||decide (w≠0))else r
def CQ(n:Nat)(d:Int)(fr row:List Int)(s:Int)(r:List Int×Bool)(k:Nat):List Int×Bool:=(List.range k).foldl (λr i=>za n d r s (fr.getD i 0) (row.getD i 0)) r
def wJ(n:Nat)(d:Int)(rows:List (List Int))(fr to:List Int)(o:Nat):List Int×Bool:=(List.range o).foldl (λr o=>CQ n d fr (rows.getD o []) (to.getD o 0) r fr.length) (List.replicate n 0,false)
def aaZ(n:Nat)(rows:List (List Int))(fr to:List Int)(d:Nat):List Int:=if(wJ n d rows fr to to.length).2 then(wJ n d rows fr to to.length).1 else []
theorem Uw(n:Nat)(d:Int)(fr row:List Int)(s:Int)(r:List Int×Bool)(k:Nat):CQ n d fr row s r (k+1)=za n d (CQ n d fr row s r k) s (fr.getD k 0) (row.getD k 0):=by simp[CQ,List.range_succ]
theorem Ux(n:Nat)(d:Int)(rows:List (List Int))(fr to:List Int)(o:Nat):wJ n d rows fr to (o+1)=CQ n d fr (rows.getD o []) (to.getD o 0) (wJ n d rows fr to o) fr.length:=by simp[wJ,List.range_succ]
abbrev aj4:=Int×Int×Int
def BU(rows:List (List Int))(fr to:List Int)(o:Nat):List aj4:=(List.range o).flatMap λo=>(List.range fr.length).map λi=>(to.getD o 0,fr.getD i 0,(rows.getD o []).getD i 0)
theorem yQ(n:Nat)(rows:List (List Int))(fr to:List Int)(o:Nat):nY n rows fr to o=(BU rows fr to o).foldl (λD t=>qG n D t.1 t.2.1 t.2.2) (List.replicate n []):=by
 simp only[nY,BU,z8,List.foldl_flatMap,List.foldl_map]
theorem Ec(n:Nat)(d:Int)(rows:List (List Int))(fr to:List Int)(o:Nat):wJ n d rows fr to o=(BU rows fr to o).foldl (λr t=>za n d r t.1 t.2.1 t.2.2) (List.replicate n 0,false):=by
 simp only[wJ,BU,CQ,List.foldl_flatMap,List.foldl_map]
theorem getD_at(h:k<l.length):l.getD k 0=l[k]:=by simp[List.getD,h]
theorem Lc(h:l.Nodup){i:Nat}(hi:i<l.length)(hj:j<l.length)(hij:i<j):l.getD i 0≠l.getD j 0:=by
 rw[getD_at hi,getD_at hj]
 rw[List.Nodup,List.pairwise_iff_getElem]at h
 exact h i j hi hj hij
theorem Gm(hf:fr.Nodup)(ht:to.Nodup):∀o,o<=to.length->(BU rows fr to o).Pairwise (λa b=>¬(a.1=b.1/\a.2.1=b.2.1)):=by
 intro o ho
 induction o with
 |zero=>simp[BU]
 |succ o ih=>
  have e:BU rows fr to (o+1)=BU rows fr to o++(List.range fr.length).map λi=>(to.getD o 0,fr.getD i 0,(rows.getD o []).getD i 0):=by simp[BU,List.range_succ]
  rw[e,List.pairwise_append]
  refine⟨ih aa,?_,?_⟩
  ·rw[List.pairwise_map,List.pairwise_iff_getElem]
   intro i j hi hj hij h
   simp only[List.getElem_range]at h
   rw[List.length_range]at hi hj
   exact Lc hf hi hj hij h.2
  ·intro a ha b hb h
   obtain⟨o',ho',ha⟩:=List.mem_flatMap.1 ha
   obtain⟨i,hi,rfl⟩:=List.mem_map.1 ha
   obtain⟨j,hj,rfl⟩:=List.mem_map.1 hb
   exact Lc ht (by have:=List.mem_range.1 ho';omega) aa (List.mem_range.1 ho') h.1
theorem Uy{n:Nat}(hf:∀x∈fr,0<=x/\x<n)(ht:∀x∈to,0<=x/\x<n){o:Nat}(ho:o<=to.length):∀t∈BU rows fr to o,(0<=t.1/\t.1<n)/\0<=t.2.1/\t.2.1<n:=by
 intro t h
 obtain⟨o',ho',h⟩:=List.mem_flatMap.1 h
 obtain⟨i,hi,rfl⟩:=List.mem_map.1 h
 have h1:o'<to.length:=by have:=List.mem_range.1 ho';omega
 have h2:i<fr.length:=List.mem_range.1 hi
 simp only
 rw[getD_at h1,getD_at h2]
 exact⟨ht _ (List.getElem_mem h1),hf _ (List.getElem_mem h2)⟩
theorem modn{x:Int}{n:Nat}(h0:0<=x)(h1:x<2*n):x%n=if x<n then x else x-n:=by
 split
 ·exact Int.emod_eq_of_lt h0 vE
 ·have:x=x-n+n:=by omega
  rw[this,Int.add_emod_right,Int.emod_eq_of_lt aa aa];omega
theorem aeN{n:Nat}(hs:0<=s/\s<n)(hf:0<=f/\f<n)(hd:d<n):(s+(d:Int))%n=f↔((f-s+n)%n).toNat=d:=by
 rw[modn (x:=s+d) aa aa,modn (x:=f-s+n) aa aa]
 split<;>split<;>omega
structure Xl(n d:Nat)(D:List (List Int))(r:List Int×Bool):Prop where
 aj5:D.length=n
 len:r.1.length=n
 is:D.getD d []=if r.2 then r.1 else []
 zero:r.2=false->r.1=List.replicate n 0
theorem Gn{α:Type}{l:List α}{x y:α}(h:k<l.length):(l.set k x).getD k y=x:=by simp[List.getD,h]
theorem getD_set_ne{α:Type}{l:List α}{x y:α}(h:k≠j):(l.set k x).getD j y=l.getD j y:=by simp[List.getD,List.getElem?_set_ne h]
theorem MS(hk:k<l.length)(h:l.getD k 0=0):l.set k 0=l:=by
 apply List.ext_getElem?
 intro i
 by_cases e:k=i
 ·subst e
  rw[List.getElem?_set_self hk]
  rw[getD_at hk]at h
  rw[List.getElem?_eq_getElem hk,h]
 ·rw[List.getElem?_set_ne e]
theorem Xl.step{n:Nat}(hd:d<n){D:List (List Int)}{r:List Int×Bool}(h:Xl n d D r){w:Int}(hs:0<=s/\s<n)(hf:0<=f/\f<n)(hz:(s+(d:Int))%n=f->r.1.getD s.toNat 0=0):Xl n d (qG n D s f w) (za n d r s f w):=by
 have hsn:s.toNat<n:=by omega
 have hc:=aeN hs hf hd
 obtain⟨l,b⟩:=r
 obtain⟨h1,h2,h3,h4⟩:=h
 simp only at h2 h3 h4 hz
 unfold qG za
 by_cases hw:w=0
 ·subst hw
  rw[if_pos rfl]
  split
  ·rename_i g
   have:=MS aa (hz g)
   simp only[this]
   exact⟨h1,h2,by simpa using h3,by simpa using h4⟩
  ·exact⟨h1,h2,h3,h4⟩
 ·rw[if_neg hw]
  have hd2:((f-s+n)%n).toNat<n:=by
   have:=Int.emod_nonneg (f-s+n) (show(n:Int)≠0 by omega)
   have:=Int.emod_lt_of_pos (f-s+n) (show(0:Int)<n by omega)
   omega
  by_cases g:(s+(d:Int))%n=f
  ·rw[if_pos g,hc.1 g]
   refine⟨by rw[List.length_set];exact h1,by rw[List.length_set];exact h2,?_,λe=>by simp[hw]at e⟩
   rw[Gn aa,h3]
   cases b with
   |true=>
    have hne:l≠[]:=λe=>by rw[e]at h2;simp at h2;omega
    simp[hne]
   |false=>
    rw[h4 rfl]
    simp[hw]
  ·rw[if_neg g]
   have hne:((f-s+n)%n).toNat≠d:=λe=>g (hc.2 e)
   exact⟨by rw[List.length_set];exact h1,h2,by rw[getD_set_ne hne];exact h3,h4⟩
theorem Ld{n:Nat}(hd:d<n):∀(T:List aj4) (D:List (List Int)) (r:List Int×Bool),T.Pairwise (λa b=>¬(a.1=b.1/\a.2.1=b.2.1))->(∀t∈T,(0<=t.1/\t.1<n)/\0<=t.2.1/\t.2.1<n)->Xl n d D r->
 (∀t∈T,(t.1+(d:Int))%n=t.2.1->r.1.getD t.1.toNat 0=0)->Xl n d (T.foldl (λD t=>qG n D t.1 t.2.1 t.2.2) D) (T.foldl (λr t=>za n d r t.1 t.2.1 t.2.2) r)
 |[],D,r,_,_,h,_=>h
 |t::T,D,r,hp,hin,h,hz=>by
  obtain⟨hp1,hp2⟩:=List.pairwise_cons.1 hp
  rw[List.foldl_cons,List.foldl_cons]
  have ht:=hin t List.mem_cons_self
  refine Ld hd T _ _ hp2 (λu hu=>hin u (List.mem_cons_of_mem _ hu)) (h.step hd ht.1 ht.2 (hz t List.mem_cons_self)) λu hu hc=> ?_
  have hu0:=hz u (List.mem_cons_of_mem _ hu) hc
  unfold za
  split
  ·rename_i g
   have hne:t.1.toNat≠u.1.toNat:=λe=>by
    have hti:=hin u (List.mem_cons_of_mem _ hu)
    have e1:t.1=u.1:=by omega
    exact hp1 u hu ⟨e1,by rw[<-g,<-hc,e1]⟩
   simp only
   rw[getD_set_ne hne];exact hu0
  ·exact hu0
theorem aa0{n:Nat}(hf:(∀x∈fr,0<=x/\x<n)/\fr.Nodup)(ht:(∀x∈to,0<=x/\x<n)/\to.Nodup):(List.range n).map (aaZ n rows fr to)=nY n rows fr to to.length:=by
 have key:∀d,d<n->Xl n d (nY n rows fr to to.length) (wJ n d rows fr to to.length):=λd hd=>by
  rw[yQ,Ec]
  refine Ld hd _ _ _ (Gm hf.2 ht.2 _ (Nat.le_refl _)) (Uy hf.1 ht.1 (Nat.le_refl _)) ⟨by simp,by simp,by simp[List.getD,hd],λ_=>rfl⟩ λt _ _=> ?_
  simp only[List.getD,List.getElem?_replicate]
  split<;>rfl
 have hlen:(nY n rows fr to to.length).length=n:=by
  rcases Nat.eq_zero_or_pos n with h0|h0
  ·subst h0
   rw[yQ]
   have:∀(T:List aj4) (D:List (List Int)),(T.foldl (λD t=>qG 0 D t.1 t.2.1 t.2.2) D).length=D.length:=by
    intro T
    induction T with
    |nil=>intro D;rfl
    |cons t T ih=>intro D;rw[List.foldl_cons,ih];unfold qG;split<;>simp
   rw[this];simp
  ·exact(key 0 h0).aj5
 apply List.ext_getElem
 ·simp[hlen]
 ·intro d h1 h2
  have hd:d<n:=by simpa using h1
  have:=(key d hd).is
  rw[List.getElem_map,List.getElem_range,aaZ,<-this]
  simp[List.getD,h2]
end
section
variable {l fr to:List Int} {slots:Int} {k:Nat}
def aiA(l:List Int)(slots:Int)(i:Nat):Prop:=(∀k,k<i->0<=l.getD k 0/\l.getD k 0<slots)/\∀j k,j<k->k<i->l.getD j 0≠l.getD k 0
theorem Xm(h:aiA l slots l.length):jO l slots=true:=by
 rw[jO,decide_eq_true_eq]
 refine⟨λx hx=> ?_,?_⟩
 ·obtain⟨k,hk,rfl⟩:=List.mem_iff_getElem.1 hx
  have:=h.1 k hk
  rwa[getD_at hk]at this
 ·rw[List.Nodup,List.pairwise_iff_getElem]
  intro i j hi hj hij
  have:=h.2 i j hij hj
  rwa[getD_at hi,getD_at hj]at this
theorem Uz(hk:k<l.length)(h:¬(0<=l.getD k 0/\l.getD k 0<slots)):jO l slots=false:=by
 refine Bool.eq_false_iff.2 λg=>h ?_
 rw[getD_at hk]
 exact(j5 g).1 _ (List.getElem_mem hk)
theorem UO{j:Nat}(hj:j<k)(hk:k<l.length)(h:l.getD j 0=l.getD k 0):jO l slots=false:=by
 refine Bool.eq_false_iff.2 λg=>Lc (j5 g).2 aa hk hj h
theorem aa1{base:Option Addr}{len cap size:Nat}{a:Addr}(i:Nat){K:SV->Prop}(hb:base=some a)(hi:i<=len)(hc:len<=cap)(h:K (.c (.slice (some a) i cap))):nU base len cap size none (some (i:Int)) none K:=by
 rw[oG]
 refine⟨0,i,cap,rfl,rfl,rfl,Nat.zero_le _,by omega,Nat.le_refl _,(λe=>by cases e),?_⟩
 subst hb
 have e:(if cap=0 then some a else(some a).map (·.add (0*size)))=some a:=by
  split
  ·rfl
  ·simp[Addr.add]
 rw[e];exact h
theorem BV(w:World)(u:aj)(hu:u.ok w)(slots:Int):Calls Tryz.prog 163 #[u.val,.int .i64 slots] w λe w'=>e= .returned (.bool (jO u.xs slots))/\Ext w w':=by
 have hf:=hu.few
 refine fq Tryz.func163 [.c u.val,ak slots] ?_
 (repeat' ((conv=>whnf)<;>first|refine aN ?_|refine ag ?_ ?_<;>intro _))
 refine Wp.loop (σ:=Nat) 0 (λi=>[(0,.c u.val),(1,ak slots),(9,.c u.val),(10,ak u.xs.length),(11,ak i)]) (λ_=>[]) (λ_=>aH w)
  (λi=>i<=u.xs.length/\aiA u.xs slots i) (λi=>u.xs.length-i) 0 [] aS (λ_=>⟨rfl,rfl⟩) ⟨Nat.zero_le _,λk hk=>absurd hk (Nat.not_lt_zero k),λj k _ hk=>absurd hk (Nat.not_lt_zero k)⟩ ⟨rfl,aU,trivial,λ_ _ h=>h⟩ ?_
 rintro i ⟨hi,hpre⟩
 by_cases hlt:i<u.xs.length
 ·obtain⟨ua,jr⟩:=hu.base aa
  have hur:∀(R:Nat->Prop) w',(aH w).holds R w'->bf w' (some ua) 1 (ints u.xs):=λR w' h=>by rw[<-jr];exact au h hu.rows
  by_cases hin:0<=u.xs.getD i 0/\u.xs.getD i 0<slots
  ·(repeat' ((conv=>whnf)<;>first|(show bC ..;refine ax ua i jr rfl hlt ?_)|(show fu ..;refine bO hur (j:=i) hlt ?_)|(show nU ..;refine aa1 i jr aa hu.room ?_)|refine aN ?_|refine ag ?_ ?_<;>intro _))
   all_goals(conv=>whnf)
   refine Wp.loop (σ:=Nat) 0 (λj=>[(0,.c u.val),(1,ak slots),(9,.c u.val),(10,ak u.xs.length),(11,ak i),(6,ak (u.xs.getD i 0)),(25,.c (.slice (some ua) i u.cap)),(26,ak i),(27,ak j)]) (λ_=>[]) (λ_=>aH w)
    (λj=>j<=i/\∀k,k<j->u.xs.getD k 0≠u.xs.getD i 0) (λj=>i-j) 0 [] aS (λ_=>⟨rfl,rfl⟩) ⟨Nat.zero_le _,λk hk=>absurd hk (Nat.not_lt_zero k)⟩ ⟨rfl,aU,trivial,λ_ _ h=>h⟩ ?_
   rintro j ⟨hj,hne⟩
   by_cases hlj:j<i
   ·by_cases he:u.xs.getD j 0=u.xs.getD i 0
    ·(repeat' ((conv=>whnf)<;>first|(show bC ..;refine ax ua j rfl rfl hlj ?_)|(show fu ..;refine bO hur (j:=j) aa ?_)|(show @dR _ _ _;(first|refine bA he ?_|refine bA aa ?_))|refine aN ?_))
     all_goals(conv=>whnf)
     exact aX (λ_ _ h=>h) rfl (UO hlj hlt he)
    ·(repeat' ((conv=>whnf)<;>first|(show bC ..;refine ax ua j rfl rfl hlj ?_)|(show fu ..;refine bO hur (j:=j) aa ?_)|(show @dR _ _ _;(first|refine cK he ?_|refine bA aa ?_))|refine aN ?_))
     all_goals(conv=>whnf)
     refine⟨j+1,[],⟨hlj,λk hk=> ?_⟩,by omega,rfl,aU,trivial,λ_ _ h=>h⟩
     rcases Nat.lt_or_ge k j with g|g
     ·exact hne k g
     ·obtain rfl:k=j:=by omega
      exact he
   ·(repeat' ((conv=>whnf)<;>first|refine aN ?_|refine ag ?_ ?_<;>intro _))
    all_goals(conv=>whnf)
    refine⟨i+1,[],⟨hlt,λk hk=> ?_,λj2 k hjk hk=> ?_⟩,by omega,rfl,aU,trivial,λ_ _ h=>h⟩
    ·rcases Nat.lt_or_ge k i with g|g
     ·exact hpre.1 k g
     ·obtain rfl:k=i:=by omega
      exact hin
    ·rcases Nat.lt_or_ge k i with g|g
     ·exact hpre.2 j2 k hjk g
     ·obtain rfl:k=i:=by omega
      exact hne j2 aa
  ·(repeat' ((conv=>whnf)<;>first|(show bC ..;refine ax ua i jr rfl hlt ?_)|(show fu ..;refine bO hur (j:=i) hlt ?_)|refine aN ?_|refine ag ?_ ?_<;>intro _))
   all_goals(conv=>whnf)
   all_goals first|(exfalso;omega)|exact aX (λ_ _ h=>h) rfl (Uz hlt hin)
 ·(repeat' ((conv=>whnf)<;>first|refine aN ?_|refine ag ?_ ?_<;>intro _))
  all_goals(conv=>whnf)
  obtain rfl:i=u.xs.length:=by omega
  exact aX (λ_ _ h=>h) rfl (Xm hpre)
def aeO(l:List aj)(n i:Nat):Prop:=∀k,k<i->∀h:k<l.length,l[k].xs.length=n
theorem Xn{l:List aj}(h1:1<=slots/\slots<=4096)(h2:l.length=to.length)(h3:jO fr slots=true)(h4:jO to slots=true)(h5:aeO l fr.length l.length):oQ (l.map aj.xs) fr to slots:=by
 refine⟨h1.1,h1.2,by rw[List.length_map];exact h2,h3,h4,λr hr=> ?_⟩
 obtain⟨u,hu,rfl⟩:=List.mem_map.1 hr
 obtain⟨k,hk,rfl⟩:=List.mem_iff_getElem.1 hu
 exact h5 k hk hk
def UQ(rows:List (List Int))(fr to:List Int)(slots:Int):Int:=if oQ rows fr to slots then 0 else 3
theorem Q5{rows:List (List Int)}{w:World}{B:Base}{H:Heap}{S:bJ}{nx:Nat}(hno:¬oQ rows fr to slots)(hb:∀R w',S.holds R w'->(aH B.w0).holds R w')(hw0:B.w0=w):jE B (ak 3) H S nx (λe w'=>e= .returned (.int .i64 (UQ rows fr to slots))/\Ext w w'):=
 bW hb (λ_=>by rw[UQ,if_neg hno];rfl) hw0
theorem xM(w:World)(rv:aY)(hr:rv.okB w)(fv tv:aj)(Vw:fv.ok w)(WS:tv.ok w)(slots:Int)(hs:i64 slots):
 Calls Tryz.prog 157 #[rv.val,fv.val,tv.val,.int .i64 slots] w λe w'=>e= .returned (.int .i64 (UQ (rv.l.map aj.xs) fv.xs tv.xs slots))/\Ext w w':=by
 have hr1:=hr.few
 have hf1:=Vw.few
 have ht1:=WS.few
 obtain⟨hs1,hs2⟩:=hs
 have hrl:(rv.l.map aj.xs).length=rv.l.length:=List.length_map _
 refine fq Tryz.func157 [.c rv.val,.c fv.val,.c tv.val,ak slots] ?_
 (repeat' ((conv=>whnf)<;>first|(show aC _ 163 [.c fv.val,ak slots] ..;refine fE (f:=163) Tryz.call163 _ (λρ w' hw=>BV w' fv (ae hw λR h=>Vw.later h) slots) (λhp1=> ?_) (λhp1=> ?_))|(show aC _ 163 [.c tv.val,ak slots] ..;refine fE (f:=163) Tryz.call163 _ (λρ w' hw=>BV w' tv (ae hw λR h=>WS.later h) slots) (λhp2=> ?_) (λhp2=> ?_))|refine aN ?_|refine ag ?_ ?_<;>intro _))
 all_goals(conv=>whnf)
 all_goals first|exact Q5 (λh=>by have:=h.1;have:=h.2.1;have:=h.2.2.1;omega) (λ_ _ h=>h) rfl|exact Q5 (λh=>Bool.false_ne_true (hp1.symm.trans h.2.2.2.1)) (λ_ _ h=>h) rfl|exact Q5 (λh=>Bool.false_ne_true (hp2.symm.trans h.2.2.2.2.1)) (λ_ _ h=>h) rfl|skip
 refine Wp.loop (σ:=Nat) 0 (λi=>[(0,.c rv.val),(1,.c fv.val),(36,.c rv.val),(37,ak rv.l.length),(38,ak i)]) (λ_=>[]) (λ_=>aH w)
  (λi=>i<=rv.l.length/\aeO rv.l fv.xs.length i) (λi=>rv.l.length-i) 0 [] aS (λ_=>⟨rfl,rfl⟩) ⟨Nat.zero_le _,λk hk=>absurd hk (Nat.not_lt_zero k)⟩ ⟨rfl,aU,trivial,λ_ _ h=>h⟩ ?_
 rintro i ⟨hi,hpre⟩
 by_cases hlt:i<rv.l.length
 ·obtain⟨ra,hra⟩:∃a,rv.base=some a:=aI (j:=i) hr.rows RN
  have hou:=hr.each rv.l[i] (List.getElem_mem hlt)
  have hof:=hou.few
  by_cases hne:rv.l[i].xs.length=fv.xs.length
  ·(repeat' ((conv=>whnf)<;>first|(show bC ..;refine ax ra i hra rfl hlt ?_)|refine ag8 ?_|(show @dR _ _ _;(first|refine bA aa ?_|refine cK aa ?_))|refine aN ?_))
   all_goals(conv=>whnf)
   refine⟨i+1,[],⟨hlt,λk hk h=> ?_⟩,by omega,rfl,aU,trivial,λ_ _ h=>h⟩
   rcases Nat.lt_or_ge k i with g|g
   ·exact hpre k g h
   ·obtain rfl:k=i:=by omega
    exact hne
  ·(repeat' ((conv=>whnf)<;>first|(show bC ..;refine ax ra i hra rfl hlt ?_)|refine ag8 ?_|(show @dR _ _ _;(first|refine bA aa ?_|refine cK aa ?_))|refine aN ?_))
   all_goals(conv=>whnf)
   exact Q5 (λh=>hne (h.2.2.2.2.2 _ (List.mem_map.2 ⟨_,List.getElem_mem hlt,rfl⟩))) (λ_ _ h=>h) rfl
 ·(repeat' ((conv=>whnf)<;>first|refine aN ?_|refine ag ?_ ?_<;>intro _))
  all_goals(conv=>whnf)
  obtain rfl:i=rv.l.length:=by omega
  have hok:=Xn (l:=rv.l) (fr:=fv.xs) (to:=tv.xs) (slots:=slots) ⟨by omega,by omega⟩ aa hp1 hp2 hpre
  exact bW (λ_ _ h=>h) (λ_=>by rw[UQ,if_pos hok];rfl) rfl
end
section
variable {w:World} {k m i:Nat} {H:Heap}
def Ed(N:Nat)(l:List aj):bJ where
 holds R w:=∀u∈l,((bn u).past N).holds R w
 stable:=λhR hw h u hu=>((bn u).past N).stable hR hw (h u hu)
theorem Le{N:Nat}{l:List aj}{u:aj}{R:Nat->Prop}(h:(Ed N l).holds R w)(hu:((bn u).past N).holds R w):(Ed N (l++[u])).holds R w:=by
 intro v hv
 rcases List.mem_append.1 hv with hv|hv
 ·exact h v hv
 ·rw[List.mem_singleton.1 hv];exact hu
theorem Ry{r:List Int}{v:Int}{K:List (List Value)->Prop}(hk:k<r.length)(h:K (ints (r.set k v))):bS (ints r) k 0 [.int .i64 v] K:=by
 refine iV _ (d9 hk) Ja ?_
 have e:(ints r).set k (bR [Value.int .i64 r[k]] 0 [.int .i64 v])=ints (r.set k v):=by
  have e2:bR [Value.int .i64 r[k]] 0 [.int .i64 v]=[Value.int .i64 v]:=rfl
  rw[e2]
  simp[ints,List.map_set]
 rw[e];exact h
theorem Lf(us:List aj)(base:Option Addr)(cap:Nat)(xs:List Int)(hm:m=us.length)(hk:k=xs.length){T:TypeId}:(i,bU.rows (aM (us++[aj.mk base cap xs])) 1 T)∈(i,bU.rows (List.take m (aM us)++[[.slice base k cap]]) 1 T)::H:=by
 subst hm hk
 rw[show aM (us++[aj.mk base cap xs])=List.take us.length (aM us)++[[.slice base xs.length cap]] by rw[List.take_of_length_le Pp];simp[aM,aj.val]]
 exact List.mem_cons_self
theorem Xo{n:Nat}{d:Int}{r:List Int×Bool}{s f x:Int}(h:r.1.length=n/\∀y∈r.1,i64 y)(hx:i64 x):(za n d r s f x).1.length=n/\∀y∈(za n d r s f x).1,i64 y:=by
 unfold za
 split
 ·exact⟨by rw[List.length_set];exact h.1,KU h.2 hx⟩
 ·exact h
theorem aa2{B:Base}{S:bJ}{nx:Nat}{us:List aj}{D:List (List Int)}(hb:∀R w',S.holds R w'->(aH B.w0).holds R w'/\(Ed B.w0.heap.size us).holds R w')(hw0:B.w0=w)(hD:us.map aj.xs=D)(hs:∀u∈us,u.a_)(hm:m=us.length)(hi:(i,bU.rows (aM us) 1 32)∈H):
 jE B (.sI [.os i m,ak 0]) H S nx (Ab w D 0):=by
 subst hw0 hm
 refine dz λρ w' hw=> ?_
 have hn1:=dF hw (λR w' h=>(hb R w' h).1) hi
 obtain⟨base,cap,e,h1,h2⟩:∃base cap,(SV.os i (aM us).length).rf ρ= .slice base us.length cap/\us.length<=cap/\(eY base 1 (aM us)).holds (λb=>B.w0.heap.size<=b/\b<w'.heap.size) w':=by
  obtain⟨base,cap,e,h1⟩:=fw hn1
  obtain⟨lc,e2,F,hF,hr,hcap,_⟩:=hn1
  rw[e2]at e
  simp only[Value.slice.injEq]at e
  obtain⟨e3,_,e4⟩:=e
  refine⟨base,cap,?_,?_,h1⟩
  ·rw[e2,e3,e4,aR]
  ·rw[<-e4];simpa[aR]using hcap
 rw[aR]at e
 refine⟨⟨base,cap,us⟩,⟨hD,hs,h1⟩,?_,aV hw (λR w' h=>(hb R w' h).1),h2,λu hu=>oh hw (λR w' h=>(hb R w' h).2 u hu)⟩
 have:(SV.sI [.os i us.length,ak 0]).rf ρ= .tuple #[(SV.os i us.length).rf ρ,.int .i64 0]:=rfl
 rw[this,e];rfl
theorem UR(w:World)(rv:aY)(hr:rv.okB w)(fv tv:aj)(Vw:fv.ok w)(WS:tv.ok w)(slots:Int)(hs:i64 slots):
 Calls Tryz.prog 138 #[rv.val,fv.val,tv.val,.int .i64 slots] w (Ab w (mK (rv.l.map aj.xs) fv.xs tv.xs slots).1 (mK (rv.l.map aj.xs) fv.xs tv.xs slots).2):=by
 have hr1:=hr.few
 have hf1:=Vw.few
 have ht1:=WS.few
 by_cases hok:oQ (rv.l.map aj.xs) fv.xs tv.xs slots
 ·rw[mK,if_pos hok]
  have aj6:UQ (rv.l.map aj.xs) fv.xs tv.xs slots=0:=by rw[UQ,if_pos hok]
  obtain⟨hs1,hs2,hrl,hp1,hp2,hlen⟩:=id hok
  rw[List.length_map]at hrl
  obtain⟨n,hn⟩:∃n:Nat,slots=n:=⟨slots.toNat,by omega⟩
  subst hn
  rw[Int.toNat_natCast,<-aa0 (j5 hp1) (j5 hp2)]
  have hfr:=(j5 hp1).1
  have hto:=(j5 hp2).1
  refine fq Tryz.func138 [.c rv.val,.c fv.val,.c tv.val,ak n] ?_
  (repeat' ((conv=>whnf)<;>first|(show aC _ 157 ..;(refine aJ (f:=157) Tryz.call157 (.int .i64 0) (λρ w' hw=>by have:=xM w' rv (ae hw λR h=>hr.later h) fv tv (ae hw λR h=>Vw.later h) (ae hw λR h=>WS.later h) n hs;rw[aj6]at this;exact this) ?_))|refine aN ?_|refine ag ?_ ?_<;>intro _))
  all_goals(conv=>whnf)
  refine Wp.loop (σ:=Nat×List aj) 2 (λx=>[(0,.c rv.val),(1,.c fv.val),(2,.c tv.val),(3,ak n),(11,.os 1 x.1),(12,ak x.1)])
   (λx=>[(1,.rows (aM x.2) 1 32)]) (λx=>(aH w).and (Ed w.heap.size x.2))
   (λx=>x.1<=n/\x.2.map aj.xs=(List.range x.1).map (aaZ n (rv.l.map aj.xs) fv.xs tv.xs)/\(∀u∈x.2,u.a_)) (λx=>n-x.1) (0,[]) [(1,none)] aS (λ_=>⟨rfl,rfl⟩)
   ⟨Nat.zero_le _,rfl,λu hu=>by cases hu⟩ ⟨rfl,aU,⟨rfl,trivial⟩,λ_ _ h=>⟨h,λu hu=>by cases hu⟩⟩ ?_
  rintro⟨d,us⟩ ⟨hd,fP,uW⟩
  dsimp only at hd fP uW
  have yf:us.length=d:=by have:=congrArg List.length fP;simpa using this
  by_cases hdn:d<n
  ·(repeat' ((conv=>whnf)<;>first|(show kv ..;(refine g_ n rfl rfl xY aa ?_))|refine aN ?_|refine ag ?_ ?_<;>intro _))
   all_goals(conv=>whnf)
   refine Wp.loop (σ:=Nat×(List Int×Bool)) 3 (λx=>[(0,.c rv.val),(1,.c fv.val),(2,.c tv.val),(3,ak n),(11,.os 1 d),(12,ak d),(13,.os 2 n),(14,.c (.bool x.2.2)),(34,.c tv.val),(35,ak tv.xs.length),(36,ak x.1)])
    (λx=>[(2,.rows (ints x.2.1) 1 3),(1,.rows (aM us) 1 32)]) (λx=>(aH w).and (Ed w.heap.size us))
    (λx=>x.1<=tv.xs.length/\x.2=wJ n d (rv.l.map aj.xs) fv.xs tv.xs x.1/\(x.2.1.length=n/\∀y∈x.2.1,i64 y)) (λx=>tv.xs.length-x.1) (0,(List.replicate n 0,false)) [] aS (λ_=>⟨rfl,rfl⟩)
    ⟨Nat.zero_le _,rfl,by simp,λy hy=>by rw[(List.mem_replicate.1 hy).2];exact⟨by decide,by decide⟩⟩ ⟨rfl,aU,⟨?_,aQ,trivial⟩,λ_ _ h=>h⟩ ?_
   ·show(2,bU.rows (ints (List.replicate n 0)) 1 3)∈_
    rw[show ints (List.replicate n 0)=List.replicate n [Value.int .i64 0] by simp[ints]]
    exact List.mem_cons_self
   rintro⟨o,r⟩ ⟨ho,hro,hrf⟩
   dsimp only at ho hro hrf
   by_cases hlt:o<tv.xs.length
   ·obtain⟨ta,Ia⟩:=WS.base aa
    have htr:∀(R:Nat->Prop) w',((aH w).and (Ed w.heap.size us)).holds R w'->bf w' (some ta) 1 (ints tv.xs):=λR w' h=>by rw[<-Ia];exact au h.1 WS.rows
    have CZ:o<rv.l.length:=by omega
    have hsb:0<=tv.xs.getD o 0/\tv.xs.getD o 0<n:=by
     rw[getD_at hlt];exact hto _ (List.getElem_mem hlt)
    obtain⟨sv,hsv⟩:∃sv,tv.xs.getD o 0=sv:=⟨_,rfl⟩
    (repeat' ((conv=>whnf)<;>first|(show bC ..;refine ax ta o Ia rfl hlt ?_)|(show fu ..;refine bO htr (j:=o) hlt ?_)|refine aN ?_|refine ag ?_ ?_<;>intro _))
    all_goals(conv=>whnf)
    have hrow:(rv.l.map aj.xs).getD o []=rv.l[o].xs:=by simp[List.getD,CZ]
    have hrlen:rv.l[o].xs.length=fv.xs.length:=hlen _ (List.mem_map.2 ⟨_,List.getElem_mem CZ,rfl⟩)
    have aj7:=hr.each rv.l[o] (List.getElem_mem CZ)
    obtain⟨ra,hra⟩:∃a,rv.base=some a:=aI (j:=o) hr.rows (by rw[aR];exact CZ)
    rw[hsv]at hsb|-
    obtain⟨sn,hsn⟩:∃k:Nat,sv=k:=⟨sv.toNat,by omega⟩
    have ags:sv.toNat=sn:=by omega
    have ak2:sn<n:=by omega
    refine Wp.loop (σ:=Nat×(List Int×Bool)) 3 (λx=>[(0,.c rv.val),(1,.c fv.val),(2,.c tv.val),(3,ak n),(11,.os 1 d),(12,ak d),(13,.os 2 n),(14,.c (.bool x.2.2)),(34,.c tv.val),(35,ak tv.xs.length),(36,ak o),(15,ak o),(16,ak sv),(41,.c fv.val),(42,ak fv.xs.length),(43,ak x.1)])
     (λx=>[(2,.rows (ints x.2.1) 1 3),(1,.rows (aM us) 1 32)]) (λx=>(aH w).and (Ed w.heap.size us))
     (λx=>x.1<=fv.xs.length/\x.2=CQ n d fv.xs rv.l[o].xs sv r x.1/\(x.2.1.length=n/\∀y∈x.2.1,i64 y)) (λx=>fv.xs.length-x.1) (0,r) [] aS (λ_=>⟨rfl,rfl⟩)
     ⟨Nat.zero_le _,rfl,hrf⟩ ⟨rfl,aU,aU,λ_ _ h=>h⟩ ?_
    rintro⟨i,l,b⟩ ⟨hi,aj8,hl1,hl2⟩
    dsimp only at hi aj8 hl1 hl2
    by_cases Eu:i<fv.xs.length
    ·obtain⟨fa,hfa⟩:=Vw.base aa
     have aiZ:∀(R:Nat->Prop) w',((aH w).and (Ed w.heap.size us)).holds R w'->bf w' (some fa) 1 (ints fv.xs):=λR w' h=>by rw[<-hfa];exact au h.1 Vw.rows
     obtain⟨wa,hwa⟩:=aj7.base aa
     have hwr:∀(R:Nat->Prop) w',((aH w).and (Ed w.heap.size us)).holds R w'->bf w' (some wa) 1 (ints rv.l[o].xs):=λR w' h=>by rw[<-hwa];exact au h.1 aj7.rows
     have mI:0<=fv.xs.getD i 0/\fv.xs.getD i 0<n:=by
      rw[getD_at Eu];exact hfr _ (List.getElem_mem Eu)
     have hwf:=OI aj7.fits i
     have hstep:=Uw n d fv.xs rv.l[o].xs sv r i
     rw[<-aj8]at hstep
     obtain⟨fi,hfi⟩:∃x,fv.xs.getD i 0=x:=⟨_,rfl⟩
     obtain⟨wi,ZH⟩:∃x,rv.l[o].xs.getD i 0=x:=⟨_,rfl⟩
     rw[hfi]at mI hstep
     rw[ZH]at hwf hstep
     have hnf:=Xo (n:=n) (d:=d) (r:=(l,b)) (s:=sv) (f:=fi) (x:=wi) ⟨hl1,hl2⟩ hwf
     rw[<-hstep]at hnf
     by_cases hc:(sv+(d:Int))%n=fi
     ·rw[za,if_pos hc,ags]at hstep
      by_cases hw0:wi=0
      ·have hdec:decide (wi≠0)=false:=by simp[hw0]
       rw[hdec]at hstep
       cases b with
       |true=>
        (repeat' ((conv=>whnf)<;>first|refine Rv ?_|refine Rw ?_|refine Rx ?_|refine X0 ?_|refine X3 ?_|(show @dR _ _ _;(first|refine bA hc ?_|refine bA aa ?_|refine cK aa ?_))|refine aN ?_))
        all_goals(conv=>whnf)
        exact⟨(i+1,(l.set sn wi,true)),[],⟨Eu,hstep.symm,by rw[hstep]at hnf;exact hnf⟩,by show fv.xs.length-(i+1)<fv.xs.length-i;omega,rfl,aU,aU,λ_ _ h=>h⟩
       |false=>
        (repeat' ((conv=>whnf)<;>first|refine Rv ?_|refine Rw ?_|refine Rx ?_|refine X0 ?_|refine X3 ?_|(show @dR _ _ _;(first|refine bA hc ?_|refine cK (λh=>h hw0) ?_|refine bA aa ?_|refine cK aa ?_))|refine aN ?_))
        all_goals(conv=>whnf)
        exact⟨(i+1,(l.set sn wi,false)),[],⟨Eu,hstep.symm,by rw[hstep]at hnf;exact hnf⟩,by show fv.xs.length-(i+1)<fv.xs.length-i;omega,rfl,aU,aU,λ_ _ h=>h⟩
      ·have hdec:decide (wi≠0)=true:=by simp[hw0]
       rw[hdec]at hstep
       cases b with
       |true=>
        (repeat' ((conv=>whnf)<;>first|refine Rv ?_|refine Rw ?_|refine Rx ?_|refine X0 ?_|refine X3 ?_|(show @dR _ _ _;(first|refine bA hc ?_|refine bA hw0 ?_|refine bA aa ?_|refine cK aa ?_))|refine aN ?_))
        all_goals(conv=>whnf)
        exact⟨(i+1,(l.set sn wi,true)),[],⟨Eu,hstep.symm,by rw[hstep]at hnf;exact hnf⟩,by show fv.xs.length-(i+1)<fv.xs.length-i;omega,rfl,aU,aU,λ_ _ h=>h⟩
       |false=>
        (repeat' ((conv=>whnf)<;>first|refine Rv ?_|refine Rw ?_|refine Rx ?_|refine X0 ?_|refine X3 ?_|(show @dR _ _ _;(first|refine bA hc ?_|refine bA hw0 ?_|refine bA aa ?_|refine cK aa ?_))|refine aN ?_))
        all_goals(conv=>whnf)
        exact⟨(i+1,(l.set sn wi,true)),[],⟨Eu,hstep.symm,by rw[hstep]at hnf;exact hnf⟩,by show fv.xs.length-(i+1)<fv.xs.length-i;omega,rfl,aU,aU,λ_ _ h=>h⟩
     ·rw[za,if_neg hc]at hstep
      (repeat' ((conv=>whnf)<;>first|refine Rv ?_|refine Rw ?_|refine Rx ?_|(show @dR _ _ _;(first|refine cK hc ?_|refine bA aa ?_|refine cK aa ?_))|refine aN ?_))
      all_goals(conv=>whnf)
      exact⟨(i+1,(l,b)),[],⟨Eu,hstep.symm,by rw[hstep]at hnf;exact hnf⟩,by show fv.xs.length-(i+1)<fv.xs.length-i;omega,rfl,aU,aU,λ_ _ h=>h⟩
    ·(repeat' ((conv=>whnf)<;>first|refine aN ?_|refine ag ?_ ?_<;>intro _))
     all_goals(conv=>whnf)
     have hif:i=fv.xs.length:=by omega
     exact⟨(o+1,(l,b)),[],⟨hlt,by rw[aj8,hif,hro,Ux,hrow,hsv],hl1,hl2⟩,by show tv.xs.length-(o+1)<tv.xs.length-o;omega,rfl,aU,aU,λ_ _ h=>h⟩
   ·have hol:o=tv.xs.length:=by omega
    obtain⟨l,b⟩:=r
    rw[hol]at hro
    have hrow:aaZ n (rv.l.map aj.xs) fv.xs tv.xs d=if b then l else []:=by rw[aaZ,<-hro]
    have hnext:∀u:aj,u.xs=(if b then l else [])->(us++[u]).map aj.xs=(List.range (d+1)).map (aaZ n (rv.l.map aj.xs) fv.xs tv.xs):=λu hu=>by
     rw[List.map_append,fP,List.range_succ,List.map_append,List.map_cons,List.map_nil,List.map_cons,List.map_nil,hu,hrow]
    have hsn:∀u:aj,u.a_->∀v∈us++[u],v.a_:=λu hu v hv=>by
     rcases List.mem_append.1 hv with hv|hv
     ·exact uW v hv
     ·rw[List.mem_singleton.1 hv];exact hu
    refine Wp.yE 2 w.heap.size (k:=1) (xs:=ints l) (T:=3) aQ (λR w' h b hb=>(h.1 b hb).1) (λl1 hl1=> ?_)
    rw[aF,hrf.1]at hl1
    cases b with
    |true=>
     (repeat' ((conv=>whnf)<;>first|(show sH ..;refine fO (Nat.le_of_eq (by rw[aR,yf])) ?_)|(show fG ..;(refine b_ ahT ?_))|refine aN ?_|refine ag ?_ ?_<;>intro _))
     all_goals(conv=>whnf)
     exact⟨(d+1,us++[aj.mk l1.base l1.cap l]),[(1,some 4)],⟨hdn,hnext _ rfl,hsn _ ⟨hrf.2,by show l.length<=l1.cap;rw[hrf.1];exact hl1,by show l.length<=1000000;rw[hrf.1];omega⟩⟩,by show n-(d+1)<n-d;omega,rfl,aU,⟨Lf us l1.base l1.cap l yf.symm hrf.1.symm,trivial⟩,λR w' h=>⟨h.1.1,Le h.1.2 h.2⟩⟩
    |false=>
     (repeat' ((conv=>whnf)<;>first|(show sH ..;refine fO (Nat.le_of_eq (by rw[aR,yf])) ?_)|(show fG ..;(refine b_ ahT ?_))|refine aN ?_|refine ag ?_ ?_<;>intro _))
     all_goals(conv=>whnf)
     exact⟨(d+1,us++[aj.mk none 0 []]),[(1,some 4)],⟨hdn,hnext _ rfl,hsn _ ⟨λx hx=>(by cases hx),Nat.le_refl _,by decide⟩⟩,by show n-(d+1)<n-d;omega,rfl,aU,⟨Lf us none 0 [] yf.symm rfl,trivial⟩,λR w' h=>⟨h.1.1,Le h.1.2 ⟨λr hr=>(by cases hr),.inl rfl⟩⟩⟩
  ·(repeat' ((conv=>whnf)<;>first|refine aN ?_|refine ag ?_ ?_<;>intro _))
   all_goals(conv=>whnf)
   obtain rfl:d=n:=by omega
   exact aa2 (i:=1) (us:=us) (λ_ _ h=>h) rfl fP uW yf.symm aQ
 ·rw[mK,if_neg hok]
  have aj6:UQ (rv.l.map aj.xs) fv.xs tv.xs slots=3:=by rw[UQ,if_neg hok]
  refine fq Tryz.func138 [.c rv.val,.c fv.val,.c tv.val,ak slots] ?_
  (repeat' ((conv=>whnf)<;>first|(show aC _ 157 ..;(refine aJ (f:=157) Tryz.call157 (.int .i64 3) (λρ w' hw=>by have:=xM w' rv (ae hw λR h=>hr.later h) fv tv (ae hw λR h=>Vw.later h) (ae hw λR h=>WS.later h) slots hs;rw[aj6]at this;exact this) ?_))|refine aN ?_|refine ag ?_ ?_<;>intro _))
  all_goals(conv=>whnf)
  exact aaI (λ_ _ h=>h) rfl
end
section
variable {s:Nat} {E E':Nat->Int} {l:List Int}
def W64(z:Int):Int:=IntKind.i64.wrap z
theorem Lg(z:Int):W64 z=if z%18446744073709551616>=9223372036854775808 then z%18446744073709551616-18446744073709551616 else z%18446744073709551616:=by
 unfold W64 IntKind.wrap
 simp[IntKind.signed,IntKind.bits]
theorem agA(z:Int):i64 (W64 z):=by
 rw[Lg]
 constructor<;>split<;>omega
theorem agB(a b:Int):W64 (W64 a+W64 b)=W64 (a+b):=by
 rw[Lg (W64 a+W64 b),Lg (a+b),Lg a,Lg b]
 split<;>split<;>split<;>split<;>omega
structure an2(n:Nat)(D:List (List Int)):Prop where
 len:D.length=n
 each:∀k,D.getD k []=[]\/(D.getD k []).length=n
theorem aeP{α:Type}{l:List α}{k:Nat}{y:α}(h:l.length<=k):l.getD k y=y:=by simp[List.getD,h]
theorem aa3{n:Nat}:(List.replicate n (0:Int)).getD s 0=0:=by
 simp only[List.getD,List.getElem?_replicate];split<;>rfl
theorem Xp{n:Nat}{rows:List (List Int)}{fr to:List Int}(hf:(∀x∈fr,0<=x/\x<n)/\fr.Nodup)(ht:(∀x∈to,0<=x/\x<n)/\to.Nodup)(hn:0<n):an2 n (nY n rows fr to to.length):=by
 have key:∀d,d<n->Xl n d (nY n rows fr to to.length) (wJ n d rows fr to to.length):=λd hd=>by
  rw[yQ,Ec]
  refine Ld hd _ _ _ (Gm hf.2 ht.2 _ (Nat.le_refl _)) (Uy hf.1 ht.1 (Nat.le_refl _)) ⟨by simp,by simp,by simp[List.getD,hd],λ_=>rfl⟩ λt _ _=>aa3
 refine⟨(key 0 hn).aj5,λk=> ?_⟩
 rcases Nat.lt_or_ge k n with g|g
 ·have h:=key k g
  rw[h.is]
  split
  ·exact .inr h.len
  ·exact .inl rfl
 ·exact .inl (aeP (by rw[(key 0 hn).aj5];exact g))
structure Gp(n:Nat)(E:Nat->Int)(l:List Int):Prop where
 len:l.length=n
 at_:∀s,s<n->l.getD s 0=W64 (E s)
theorem Gp.fits{n:Nat}(h:Gp n E l):∀x∈l,i64 x:=λx hx=>by
 obtain⟨k,hk,rfl⟩:=List.mem_iff_getElem.1 hx
 have:=h.at_ k (by rw[<-h.len];exact hk)
 rw[getD_at hk]at this
 rw[this];exact agA _
theorem Gp.eq{n:Nat}{l':List Int}(h:Gp n E l)(h':Gp n E' l')(he:∀s,s<n->E s=E' s):l=l':=by
 apply List.ext_getElem
 ·rw[h.len,h'.len]
 ·intro k h1 h2
  have a1:=h.at_ k acR
  have a2:=h'.at_ k acR
  rw[getD_at h1]at a1
  rw[getD_at h2]at a2
  rw[a1,a2,he k acR]
theorem Gp.step{n:Nat}(h:Gp n E l)(hs:s<n){p:Int}(he:E' s=E s+p)(hne:∀j,j≠s->E' j=E j):Gp n E' (l.set s (W64 (l.getD s 0+W64 p))):=by
 refine⟨by rw[List.length_set];exact h.len,λj hj=> ?_⟩
 by_cases e:s=j
 ·subst e
  rw[Gn (by rw[h.len];exact hs),h.at_ s hs,agB,he]
 ·rw[getD_set_ne e,h.at_ j hj,hne j (λg=>e g.symm)]
end
section
variable {m:Nat} {sh:List (List Int)} {s:List Int} {t:aj}
def Xq(n:ai):ai:={n with a:=0}
theorem UT{n:ai}(hk:dQ n\/n.kind=9)(h:bY n m=true):bY (Xq n) 1=true:=by
 unfold dQ at hk
 unfold bY at h|-
 unfold jT jW at h|-
 simp only[Xq]
 rcases hk with(h3|h4|h5)|h9
 ·simp only[h3]at h|-;simp at h|-;grind
 ·simp only[h4]at h|-;simp at h|-;grind
 ·simp only[h5]at h|-;simp at h|-;grind
 ·simp only[h9]at h|-;simp at h|-;grind
theorem aa4{n:ai}(hk:dQ n\/n.kind=9){t:List Int}(ht:sh.getD n.a.toNat []=t)(h:bM n sh=some s):bM (Xq n) [t]=some s:=by
 subst ht
 unfold dQ at hk
 unfold bM at h|-
 rcases hk with(h3|h4|h5)|h9
 ·simp only[Xq,h3]at h|-;simpa using h
 ·simp only[Xq,h4]at h|-;simpa using h
 ·simp only[Xq,h5]at h|-;simpa using h
 ·simp only[Xq,h9]at h|-;simpa using h
theorem aeQ{n:ai}(h:gW n=true):gW (Xq n)=true:=by
 unfold gW at h|-;exact h
theorem aa5(h:0<entries t.xs)(m:Nat):bY (inpN t) m=true:=by
 unfold bY jT
 simp[inpN,aex,h]
theorem aa6(t:aj):gW (inpN t)=true:=by
 unfold gW qa
 simp[inpN,aex]
theorem rows_ok{n:ai}(hk:dQ n\/n.kind=9)(hf:bY n m=true)(ht:sh.getD n.a.toNat []=t.xs)(hs:bM n sh=some s)(hn:gW n=true)(hp:0<entries t.xs):nu (Xq n) t/\(vH (Xq n) t).2=[t.xs,s]:=by
 have hc:vH (Xq n) t=(0,[t.xs,s]):=by
  unfold vH check
  rw[if_neg fC]
  show eG [inpN t,Xq n] []=_
  rw[iA (aa5 hp _) (show bM (inpN t) []=some t.xs by unfold bM;rw[if_pos (.inl rfl)];rfl) (aa6 t)]
  show eG [Xq n] [t.xs]=_
  rw[iA (UT hk hf) (aa4 hk ht hs) (aeQ hn)]
  rfl
 refine⟨⟨?_,rfl,by rw[hc]⟩,by rw[hc]⟩
 unfold dQ at hk|-
 exact hk
end
section
variable {layout m:Int} {c:dM} {sh:List (List Int)} {g:List ai} {i:Nat}
theorem MV{xs:List Int}{m:Nat}(h:(fT xs layout m).2=0):jO (fT xs layout m).1 m=true/\(fT xs layout m).1.length=(entries xs).toNat/\0<entries xs:=by
 have hb:=dL xs
 unfold fT at h|-
 split at h
 ·cases h
 ·rename_i h1
  split at h
  ·cases h
  ·rename_i h2
   rw[if_neg h1,if_neg h2]
   have hne:entries xs≠0:=by omega
   obtain⟨c,s,p,g1,g2,g3,g4,g5,g6,g7,g8,_⟩:=Fv (layout:=layout) hne
   rw[g2,g3]at h2|-
   refine⟨decide_eq_true ⟨λx hx=> ?_,?_⟩,dG _ _ _,by omega⟩
   ·obtain⟨i,hi,rfl⟩:=List.mem_map.1 hx
    have hi:=List.mem_range.1 hi
    have k1:=Ak g5 g6 (show i<=(entries xs).toNat-1 by omega)
    have k2:=oZ (s:=s) (p:=p) i
    omega
   ·have hlt:∀{i j:Nat},i<j->gL s p i<gL s p j:=λ{i j} hij=>by
     have k1:=OV (i:=i) g5 g6
     have k2:=Ak (i:=i+1) (j:=j) g5 g6 hij
     omega
    unfold ig
    rw[List.Nodup,List.pairwise_map]
    exact(List.pairwise_lt_range (n:=(entries xs).toNat)).imp (λ{i j} hij he=>by have:=hlt hij;omega)
theorem Lh:∀{l acc:List (List Int)},(gy layout m l acc).2=0->(gy layout m l acc).1=acc++l.map (λx=>(fT x layout m).1)/\∀x∈l,(fT x layout m).2=0
 |[],acc,_=>⟨by simp[gy],λx hx=>by cases hx⟩
 |x::r,acc,h=>by
  by_cases h1:(fT x layout m).2=0
  ·rw[Bf h1]at h|-
   obtain⟨h2,h3⟩:=Lh h
   refine⟨by rw[h2];simp,λy hy=> ?_⟩
   rcases List.mem_cons.1 hy with rfl|hy
   ·exact h1
   ·exact h3 y hy
  ·rw[Bg h1]at h
   exact absurd h h1
theorem CR{w:World}{ρ:Nat->SX.Loc}{F:Nat->Prop}{k n0:Nat}{H0:Heap}{A A':bJ}(h:iW w ρ F k n0 H0 A)(hA:∀R w,A.holds R w->A'.holds R w):iW w ρ F k n0 H0 A':=by
 obtain⟨R,φ,hw⟩:=h.abs
 exact⟨⟨R,φ,⟨hw.os,hw.tape,hw.output,hw.size,hw.pin,hw.ro,⟨hA R w hw.sJ.1,hw.sJ.2⟩,hw.key,hw.kS,hw.apart,hw.sep⟩⟩⟩
structure Ap(c:dM)(layout:Int)(sh:List (List Int))(g:List ai):Prop where
 slots:1<=c.slots/\c.slots<=4096
 len:sh.length=g.length
 each:∀(i:Nat) (n:ai),g[i]? =some n->n.iI/\n.small/\∃s,sh[i]? =some s/\iY n (sh.take i) s
 shapes:c.shapes.l.map aj.xs=sh
 shS:∀u∈c.shapes.l,u.a_
 bH:c.bH.l.map aj.xs=sh.map (λx=>(fT x layout c.slots).1)
 spS:∀u∈c.bH.l,u.a_
 good:∀x∈sh,(fT x layout c.slots).2=0
theorem Ap.at_(h:Ap c layout sh g)(hi:i<g.length):∃(t u:aj),c.shapes.l[i]? =some t/\t.a_/\c.bH.l[i]? =some u/\u.a_/\c.shapes.l.getD i fI=t/\c.bH.l.getD i fI=u/\sh.getD i []=t.xs/\sh[i]? =some t.xs/\u.xs=(fT t.xs layout c.slots).1/\jO u.xs c.slots=true/\u.xs.length=(entries t.xs).toNat/\0<entries t.xs:=by
 have l1:c.shapes.l.length=g.length:=by have:=congrArg List.length h.shapes;rw[List.length_map]at this;rw[this,h.len]
 have l2:c.bH.l.length=g.length:=by have:=congrArg List.length h.bH;rw[List.length_map,List.length_map]at this;rw[this,h.len]
 have i1:i<c.shapes.l.length:=by omega
 have i2:i<c.bH.l.length:=by omega
 have e1:=congrArg (λl:List (List Int)=>l[i]?) h.shapes
 have e2:=congrArg (λl:List (List Int)=>l[i]?) h.bH
 simp only[List.getElem?_map,List.getElem?_eq_getElem i1,List.getElem?_eq_getElem i2,Option.map_some]at e1 e2
 rw[<-e1]at e2
 have e3:c.bH.l[i].xs=(fT c.shapes.l[i].xs layout c.slots).1:=by simpa using e2
 have hm:c.shapes.l[i].xs∈sh:=List.mem_of_getElem? e1.symm
 obtain⟨p1,p2,p3⟩:=MV (h.good _ hm)
 refine⟨c.shapes.l[i],c.bH.l[i],List.getElem?_eq_getElem i1,h.shS _ (List.getElem_mem i1),List.getElem?_eq_getElem i2,h.spS _ (List.getElem_mem i2),by rw[List.getD_eq_getElem?_getD,List.getElem?_eq_getElem i1];rfl,by rw[List.getD_eq_getElem?_getD,List.getElem?_eq_getElem i2];rfl,by rw[List.getD_eq_getElem?_getD,<-e1];rfl,e1.symm,e3,by rw[e3];exact p1,by rw[e3];exact p2,p3⟩
theorem Li{l:List Int}(h:jO l m=true):∀x∈l,0<=x/\x<m:=(of_decide_eq_true h).1
theorem Ap.formed(h:Ap c layout sh g){n:ai}(hi:g[i]? =some n):i<g.length/\zN n i/\∃s,sh[i]? =some s/\iY n (sh.take i) s:=by
 have hl:=(List.getElem?_eq_some_iff.1 hi).1
 obtain⟨_,_,s,h1,h2⟩:=h.each i n hi
 have e:(sh.take i).length=i:=by rw[List.length_take,h.len];omega
 exact⟨hl,by have:=dH h2.form;rwa[e]at this,s,h1,h2⟩
theorem Gq(h:Ap c layout sh g){n:ai}(hi:g[i]? =some n)(hk:n.kind=1):Eb c n i (vv n.kind):=by
 obtain⟨hl,_,_⟩:=h.formed hi
 obtain⟨hn,_,_⟩:=h.each i n hi
 obtain⟨t,u,_,_,hu,_,_,eu,_⟩:=h.at_ hl
 intro s vl w ρ F hN hvl hO
 have e:cz c n i s.pl vl=lI s.pl n.lo n.hi u.xs:=by unfold cz;rw[if_pos hk,eu]
 have hF:vv n.kind=27:=by rw[hk];rfl
 rw[e,hF]
 exact aaG c s vl n i u hN hn.kE hn.kF hu w ρ F (CR hO (λR w h=>h.1))
theorem BX(h:Ap c layout sh g){n:ai}(hi:g[i]? =some n)(hk:dQ n\/n.kind=9):Eb c n i (vv n.kind):=by
 obtain⟨hl,hF,s,hs,hin⟩:=h.formed hi
 obtain⟨hn,hsm,_⟩:=h.each i n hi
 have hk1:n.kind≠1/\n.kind≠2/\n.kind≠6/\n.kind≠7/\n.kind≠8:=by rcases hk with hk|hk;(unfold dQ at hk;omega);omega
 obtain⟨h0,ha⟩:=hF.a hk1.1 hk1.2.1
 have hal:n.a.toNat<g.length:=by omega
 obtain⟨t,fr,ht,hts,hfr,CO,et,efr,gt_,_,_,fp,fl,fe⟩:=h.at_ hal
 obtain⟨t2,to,ht2,_,hto,tu,_,eto,_,gt2,_,tp,tl,te⟩:=h.at_ hl
 have es:s=t2.xs:=by rw[hs]at gt2;simpa using gt2
 have eta:(sh.take i).getD n.a.toNat []=t.xs:=by
  rw[<-gt_,List.getD_eq_getElem?_getD,List.getD_eq_getElem?_getD,List.getElem?_take,if_pos aa]
 obtain⟨hok,hc2⟩:=rows_ok hk hin.form eta hin.shape hin.near fe
 have hcnt:wI (n0 n) t=(entries s).toNat:=by show(entries ((vH (Xq n) t).2.getD 1 [])).toNat=_;rw[hc2];rfl
 have hr:jC (n0 n) t=((tJ (n0 n) t.xs (wI (n0 n) t),(List.range (wI (n0 n) t)).map (dA (n0 n) (wI (n0 n) t))),0):=by unfold jC;exact if_pos hok
 intro q vl w ρ F hN hvl hO
 have hav:n.a.toNat<vl.length:=by omega
 have hF:vv n.kind=26:=by unfold vv;rw[if_neg hk1.1,if_neg hk1.2.1,if_neg hk1.2.2.1,if_neg hk1.2.2.2.1,if_neg hk1.2.2.2.2]
 rw[hF]
 by_cases hft:n.kind=9/\fr.xs=to.xs
 ·have e:cz c n i q.pl vl=(q.pl,vl.getD n.a.toNat 0):=by
   unfold cz;rw[if_neg hk1.1,if_neg hk1.2.1,if_neg hk1.2.2.1,if_neg hk1.2.2.2.1,if_neg hk1.2.2.2.2,efr,eto,if_pos hft]
  rw[e]
  exact aeE c q vl n i fr to hN h0 hav hfr CO hto tu hft.1 hft.2 w ρ F hO
 ·have e:cz c n i q.pl vl=iq c.slots c.giant q.pl (vl.getD n.a.toNat 0) (jC (n0 n) t).1 fr.xs to.xs:=by
   unfold cz;rw[if_neg hk1.1,if_neg hk1.2.1,if_neg hk1.2.2.1,if_neg hk1.2.2.2.1,if_neg hk1.2.2.2.2,efr,eto,if_neg hft,et]
  rw[e]
  refine Us c q vl n i t fr to (jC (n0 n) t).1 hN h0 hav hn hsm ht hts hfr CO hto tu hft rfl ?_ ?_ w ρ F hO
  ·rw[hr]
   refine⟨by have:=h.slots.1;omega,by have:=h.slots.2;omega,?_,fp,tp,λr hr=> ?_⟩
   ·show(tJ _ _ _).length=_
    rw[tl,<-es,<-hcnt];simp[tJ]
   ·obtain⟨o,_,rfl⟩:=List.mem_map.1 hr
    rw[jQ,fl]
  ·rw[hr]
   show _<=(List.map _ _).length
   rw[tl,<-es,<-hcnt];simp
end
section
variable {n':ai} {c c':dM} {g g':bE}
theorem aeR{n:ai}{t t':aj}(h:n.pl=n'.pl)(ht:t.xs=t'.xs):jC n t=jC n' t':=by
 have hc:vH n t=vH n' t':=SF (g:=⟨none,0,[inpN t,n],1⟩) (h:=⟨none,0,[inpN t',n'],1⟩) (by simp only[List.map_cons,List.map_nil,h];congr 1;simp[ai.pl,inpN,ht]) rfl
 have hk:n.kind=n'.kind:=congrArg aP.kind h
 have ha:n.a=n'.a:=congrArg aP.a h
 have hok:nu n t↔nu n' t':=by unfold nu dQ;rw[hc,hk,ha]
 have hcn:wI n t=wI n' t':=by unfold wI;rw[hc]
 unfold jC
 by_cases ho:nu n t
 ·rw[if_pos ho,if_pos (hok.1 ho),hcn,ht]
  obtain⟨k,a,b,⟨_,_,sx⟩,lo,hi,sz,⟨_,_,dx⟩,⟨_,_,bx⟩⟩:=n
  obtain⟨k',a',b',⟨_,_,sx'⟩,lo',hi',sz',⟨_,_,dx'⟩,⟨_,_,bx'⟩⟩:=n'
  simp only[ai.pl,aP.mk.injEq]at h
  obtain⟨rfl,rfl,rfl,rfl,rfl,rfl,rfl,rfl,rfl⟩:=h
  rfl
 ·rw[if_neg ho,if_neg (λg=>ho (hok.2 g))]
theorem Iw(l:List aj)(i:Nat):(l.getD i fI).xs=(l.map aj.xs).getD i []:=by
 rw[List.getD_eq_getElem?_getD,List.getD_eq_getElem?_getD,List.getElem?_map]
 cases l[i]? <;>rfl
structure aeS(c c':dM):Prop where
 slots:c.slots=c'.slots
 giant:c.giant=c'.giant
 shapes:c.shapes.l.map aj.xs=c'.shapes.l.map aj.xs
 bH:c.bH.l.map aj.xs=c'.bH.l.map aj.xs
theorem UU{n:ai}(hc:aeS c c')(h:n.pl=n'.pl)(i:Nat)(s:fF)(vl:List Int):cz c n i s vl=cz c' n' i s vl:=by
 have hk:n.kind=n'.kind:=congrArg aP.kind h
 have ha:n.a=n'.a:=congrArg aP.a h
 have hb:n.b=n'.b:=congrArg aP.b h
 have hlo:n.lo=n'.lo:=congrArg aP.lo h
 have hhi:n.hi=n'.hi:=congrArg aP.hi h
 have hd:n.data.xs=n'.data.xs:=congrArg aP.data h
 have hr:jC (n0 n) (c.shapes.l.getD n.a.toNat fI)=jC (n0 n') (c'.shapes.l.getD n'.a.toNat fI):=by
  refine aeR ?_ (by rw[Iw,Iw,hc.shapes,ha])
  have e:∀m:ai,(n0 m).pl={m.pl with a:=0}:=λm=>rfl
  rw[e,e,h]
 unfold cz
 rw[hr]
 simp only[Iw,hc.slots,hc.giant,hc.bH,hk,ha,hb,hlo,hhi,hd]
theorem Gr(hc:aeS c c'):∀{l l':List ai} (i:Nat) (s:fF) (vl:List Int),l.map ai.pl=l'.map ai.pl->gZ c l i s vl=gZ c' l' i s vl
 |[],[],_,_,_,_=>rfl
 |[],_::_,_,_,_,h=>by simp at h
 |_::_,[],_,_,_,h=>by simp at h
 |x::l,y::m,i,s,vl,h=>by
  simp only[List.map_cons,List.cons.injEq]at h
  unfold gZ
  rw[UU hc h.1]
  split
  ·rfl
  ·exact Gr hc _ _ _ h.2
theorem Bh(hc:aeS c c')(hl:g.l.map ai.pl=g'.l.map ai.pl)(ho:g.out=g'.out):qJ c g=qJ c' g':=by
 unfold qJ
 rw[Gr hc 0 _ _ hl]
 cases gZ c' g'.l 0 ⟨[],[],[]⟩ []with
 |none=>rfl
 |some q=>simp only[lowerT,Iw,hc.slots,hc.bH,ho]
def aeT(l:List (List Int)):aY:=⟨none,0,l.map (aj.mk none 0)⟩
theorem Bi(l:List (List Int)):(aeT l).l.map aj.xs=l:=by
 show List.map aj.xs (List.map _ l)=l
 rw[List.map_map]
 exact(List.map_congr_left (λ_ _=>rfl)).trans (List.map_id l)
def kD(g:bE)(layout:Int)(giant:Bool)(m:Nat):qO×Int:=
 if(gy layout m (check g).2 []).2≠0 then(vo,(gy layout m (check g).2 []).2)
 else qJ ⟨m,giant,aeT (check g).2,aeT (gy layout m (check g).2 []).1⟩ g
theorem OY(hl:g.l.map ai.pl=g'.l.map ai.pl)(ho:g.out=g'.out)(layout:Int)(giant:Bool)(m:Nat):kD g layout giant m=kD g' layout giant m:=by
 unfold kD
 rw[SF hl ho]
 split
 ·rfl
 ·exact Bh ⟨rfl,rfl,rfl,rfl⟩ hl ho
theorem Q6{w:World}(hg:g.ok w)(hck:(check g).1=0){layout:Int}{m:Nat}(hm:4<=m/\m<=2048)(hz:(gy layout m (check g).2 []).2=0)(hs:c.slots=m)(h1:c.shapes.l.map aj.xs=(check g).2)(h2:∀u∈c.shapes.l,u.a_)(h3:c.bH.l.map aj.xs=(gy layout m (check g).2 []).1)(h4:∀u∈c.bH.l,u.a_):Ap c layout (check g).2 g.l:=by
 obtain⟨_,_,_,hcl,hin⟩:=gX hck
 obtain⟨e,hall⟩:=Lh hz
 subst hs
 refine⟨by omega,hcl,λi n hi=> ?_,h1,h2,by rw[h3,e,List.nil_append],h4,hall⟩
 have hm:=List.mem_of_getElem? hi
 exact⟨(hg.each n hm).iI,hg.small n hm,hin i n hi⟩
theorem Xr(w:World)(g:bE)(o:Am)(m:Nat)(hg:g.ok w)(hs:l7 o m)(hsp:(bT g).1=0)(htd:o.tidy=false)
 (hC:∀c:dM,Ap c o.layout (check g).2 g.l->∀(i:Nat) (n:ai),g.l[i]? =some n->Eb c n i (vv n.kind)):
 Calls Tryz.prog 9 #[g.val,o.val,.int .i64 m] w (oD w (kD g o.layout o.giant m)):=by
 have hck:=(jA hsp).1
 refine aeK w g o m hg hs hsp htd _ (λh=>by unfold kD;rw[if_pos h]) (λhz c h1 h2 h3 h4 h5 h6=> ?_)
 have hS:=Q6 hg hck (by unfold l7 at hs;omega) hz h1 h3 h4 h5 h6
 refine⟨hC c hS,?_⟩
 unfold kD
 rw[if_neg (λh=>h hz)]
 exact Bh ⟨h1,h2,by rw[h3,Bi],by rw[h5,Bi]⟩ rfl rfl
theorem CS{cx:Cx}{f:FuncId}{args:List SV}{H:Heap}{S:bJ}{nx:Nat}{K:SV->Heap->bJ->Nat->Prop}(r:qO×Int)(hf:∀ar w,(callFunc f ar).run cx.P w= .ok (.enter f ar) w)
 (hc:∀ρ w,dY cx.B ρ nx H S w->Calls cx.P f (SV.d_ ρ args).toArray w (oD w r)) (h:∀v:Al,v.pl=r.1->v.a_->K (.c (.tuple #[v.val,.int .i64 r.2])) H (S.and ((Xg v).past cx.B.w0.heap.size)) nx):aC cx f args H S nx K:=by
 refine gP hf (λv:Al=> .tuple #[v.val,.int .i64 r.2]) Xg (λv=>v.pl=r.1/\v.a_) (λρ w' hw=>(hc ρ w' hw).mono ?_) (λv hv=>h v hv.1 hv.2)
 rintro e w2 ⟨v,h1,h2,h3,h4⟩
 exact⟨v,h1,h2,h3,h4⟩
end
abbrev amf:Go.SX.DT:=(eF [0,1,2,3,4,5,6,7,8,9,10,11,12,13,14,15,16,117,118,119,120,21,122] .done)
def aj9(c:dM)(s:cZ):List SV:=[ak c.slots,.os 1 s.inputs.length,.os 2 s.ay.length,.os 3 s.code.length,ak 0,.c (.slice none 0 0),.c (.bool c.giant)]
abbrev lQ(c:dM)(s:cZ):Heap:=[(0,.box (aj9 c s) 79),(1,.rows (iF s.inputs) 3 92),(2,.rows (aM s.ay) 1 32),(3,.rows (iE s.code) 5 43)]
abbrev wh{α:Type}(w:World)(ρ:Nat->SX.Loc)(F:Nat->Prop)(val:α->SV)(H1:α->Heap)(D:α->bJ)(p:α->Prop):=yH w ρ F 1 4 val H1 D p
def FC(c:dM)(s:cZ)(d i1 i2 i3:Nat):Heap:=[(d,.box [ak c.slots,.os i1 s.inputs.length,.os i2 s.ay.length,.os i3 s.code.length,ak 0,.c (.slice none 0 0),.c (.bool c.giant)] 79),(i1,.rows (iF s.inputs) 3 92),(i2,.rows (aM s.ay) 1 32),(i3,.rows (iE s.code) 5 43)]
abbrev agC(d i1 i2 i3:Nat):Map:=[(0,some d),(1,some i1),(2,some i2),(3,some i3)]
theorem dK{cx:Cx}{f:FuncId}{args:List SV}{S:bJ}{nx:Nat}{K:SV->Heap->bJ->Nat->Prop}{α:Type}(rest:Heap)(d i1 i2 i3:Nat)(c:dM)(s:cZ)(A:bJ)(nT:List SV)(val:α->Value)(s':α->cZ)(D:α->bJ)(p:α->Prop)
 (hf:∀ar w,(callFunc f ar).run cx.P w= .ok (.enter f ar) w) (hm:vR 0 (agC d i1 i2 i3) (lQ c s)=true) (hl:tF (agC d i1 i2 i3) (lQ c s) (rest++FC c s d i1 i2 i3)=rest)
 (ha:args=SV.tQ (agC d i1 i2 i3).app nT) (hA:∀R w,S.holds R w->A.holds R w) (G:Nat->Prop) (hG:∀R w,S.holds R w->∀b,G b->R b)
 (hc:∀w ρ F,iW w ρ F 1 4 (lQ c s) A->Calls cx.P f (SV.d_ ρ nT).toArray w (wh w ρ F (λx=> .c (val x)) (λx=>lQ c (s' x)) D p))
 (h:∀x,p x->K (.c (val x)) (rest++FC c (s' x) d (nx+1) (nx+2) (nx+3)) (S.and ((D x).off G)) (nx+4)):aC cx f args (rest++FC c s d i1 i2 i3) S nx K:=by
 have hin:∀q∈FC c s d i1 i2 i3,q∈rest++FC c s d i1 i2 i3:=λq hq=>List.mem_append.2 (.inr hq)
 refine zV (agC d i1 i2 i3) 1 4 (lQ c s) A nT (λx=> .c (val x)) (λx=>lQ c (s' x)) D p hf hm rfl ⟨hin _ aQ,hin _ aQ,hin _ aQ,hin _ aQ,trivial⟩ (λi hi=> ?_) aS ha hA G hG hc (λx hx=> ?_)
 ·obtain rfl:i=0:=by omega
  exact⟨d,_,rfl,aQ⟩
 ·rw[hl]
  exact h x hx
theorem l8(c:dM)(s:cZ)(op a b k:Int)(hl:s.code.length<=1000000)(w:World)(ρ:Nat->SX.Loc)(F:Nat->Prop)(h:iW w ρ F 1 4 (lQ c s) dW):
 Calls Tryz.prog 82 (SV.d_ ρ [.lp 0 0 0 0,ak op,ak a,ak b,ak k]).toArray w (wh w ρ F (λ_:Unit=>ak s.code.length) (λ_=>lQ c (cu s op a b k)) (λ_=>dW) (λ_=>True)):=by
 have e1:((s.code++[oN.mk op s.code.length a b k]).length:Int)-1=s.code.length:=by rw[List.length_append];simp
 refine Es Tryz.func82 (mq 1 ρ) ρ [.lp 0 0 0 0,ak op,ak a,ak b,ak k] (lQ c s) (dW.and (f_ w F)) 4 h.abs ?_
 (repeat' ((conv=>whnf)<;>first|(show cO _ 1 ..;refine mE [22] _ amf ?_ (h6:=List.Sublist.cons_cons _ (List.Sublist.cons_cons _ (List.Sublist.cons_cons _ (List.nil_sublist _)))))|(show iK ..;refine og ?_)|(show iw ..;refine jc (s.code.length:Int) e1 aa aa ?_)|(show sH ..;(refine fO acF ?_))|(show fG ..;(refine b_ ahD ?_))|(show jd _ ((_,.rows (List.take s.code.length _++_) _ _)::_) _ _ _;refine iG (ys:=iE (s.code++[oN.mk op s.code.length a b k])) (m:=(s.code++[oN.mk op s.code.length a b k]).length) ?_ (Tu s.code (oN.mk op s.code.length a b k)) ahE)|refine aN ?_))
 all_goals(conv=>whnf)
 all_goals exact eU _ _ _ _ () [(3,some 5)] trivial aS rfl rfl rfl rfl aU (λR w' h=>⟨h.2,trivial⟩)
theorem agD{l:List aj}{k:Nat}(h:k<l.length):(aM l)[k]? =some [l[k].val]:=dh h
theorem FD(c:dM)(s:cZ)(u:aj)(hu:u.a_)(hs:∀p∈s.ay,p.a_)(hl:s.ay.length<=1000000)(w:World)(ρ:Nat->SX.Loc)(F:Nat->Prop)(h:iW w ρ F 1 4 (lQ c s) ((dP s.ay).and (bn u))):
 Calls Tryz.prog 135 (SV.d_ ρ [.lp 0 0 0 0,.c u.val]).toArray w (wh w ρ F (λ_:Unit=>ak (az s u).2) (λ_=>lQ c (az s u).1) (λ_=>dW) (λ_=>True)):=by
 refine Es Tryz.func135 (mq 1 ρ) ρ [.lp 0 0 0 0,.c u.val] (lQ c s) (((dP s.ay).and (bn u)).and (f_ w F)) 4 h.abs ?_
 (repeat' ((conv=>whnf)<;>first|refine aN ?_))
 refine Wp.loop (σ:=Nat) 4 (λk=>[(0,.lp 0 0 0 0),(1,.c u.val),(11,.os 2 s.ay.length),(12,ak s.ay.length),(13,ak k)]) (λ_=>lQ c s) (λ_=>((dP s.ay).and (bn u)).and (f_ w F))
  (λk=>k<=s.ay.length/\Cw u.xs ((s.ay.drop k).map aj.xs) k=Cw u.xs (s.ay.map aj.xs) 0) (λk=>s.ay.length-k) 0 [] aS (λ_=>⟨rfl,rfl⟩) ⟨by simp,rfl⟩ ⟨rfl,aU,aU,λR w' h=>h⟩ ?_
 rintro k ⟨hkl,he⟩
 by_cases hlt:k<s.ay.length
 ·rw[List.drop_eq_getElem_cons hlt,List.map_cons,Ox]at he
  have hrow:=agD hlt
  have hxm:=List.getElem_mem hlt
  generalize s.ay[k]=x at*
  by_cases hsx:x.xs=u.xs
  ·rw[if_pos hsx]at he
   (repeat' ((conv=>whnf)<;>first|(show bV ..;(refine aT k rfl hlt Pp ?_))|(show kC ..;refine row_of _ _ hrow rfl ?_)|(show aC _ 20 ..;(refine aJ (f:=20) Tryz.call20 (.bool true) (λρ w' hw=>by have:=qg w' x u (ae hw λR h=>bP (hs x hxm) (h.1.1 x hxm)) (ae hw λR h=>bP hu h.1.2);rw[decide_eq_true hsx]at this;exact this) ?_))|refine aN ?_|refine ag ?_ ?_<;>intro _))
   all_goals(conv=>whnf)
   have e:az s u=(s,(k:Int)):=by unfold az;rw[<-he]
   rw[e]
   all_goals exact eU _ _ _ _ () [] trivial aS rfl rfl rfl rfl aU (λR w' h=>⟨h.2,trivial⟩)
  ·rw[if_neg hsx]at he
   (repeat' ((conv=>whnf)<;>first|(show bV ..;(refine aT k rfl hlt Pp ?_))|(show kC ..;refine row_of _ _ hrow rfl ?_)|(show aC _ 20 ..;(refine aJ (f:=20) Tryz.call20 (.bool false) (λρ w' hw=>by have:=qg w' x u (ae hw λR h=>bP (hs x hxm) (h.1.1 x hxm)) (ae hw λR h=>bP hu h.1.2);rw[decide_eq_false hsx]at this;exact this) ?_))|refine aN ?_|refine ag ?_ ?_<;>intro _))
   all_goals(conv=>whnf)
   all_goals exact⟨k+1,[],⟨hlt,he⟩,by omega,rfl,aU,aU,λR w' h=>h⟩
 ·rw[List.drop_of_length_le aa]at he
  have e:az s u=(⟨s.inputs,s.ay++[u],s.code⟩,(s.ay.length:Int)):=by unfold az;rw[<-he];rfl
  have e1:((s.ay++[u]).length:Int)-1=s.ay.length:=by rw[List.length_append];simp
  rw[e]
  (repeat' ((conv=>whnf)<;>first|(show iw ..;refine jc (s.ay.length:Int) e1 aa aa ?_)|(show sH ..;(refine fO Pp ?_))|(show fG ..;(refine b_ ahz ?_))|(show jd _ ((_,.rows (List.take s.ay.length _++_) _ _)::_) _ _ _;refine iG (ys:=aM (s.ay++[u])) (m:=(s.ay++[u]).length) ?_ (D5 s.ay u) ahA)|refine aN ?_|refine ag ?_ ?_<;>intro _))
  all_goals(conv=>whnf)
  all_goals exact eU _ _ _ _ () [(2,some 5)] trivial aS rfl rfl rfl rfl aU (λR w' h=>⟨h.2,trivial⟩)
theorem UW(c:dM)(s:cZ)(x:Int)(hn:c.slots<=4096)(hs:∀p∈s.ay,p.a_)(hl:s.ay.length<=1000000)(hcl:s.code.length<=1000000)(w:World)(ρ:Nat->SX.Loc)(F:Nat->Prop)(h:iW w ρ F 1 4 (lQ c s) (dP s.ay)):
 Calls Tryz.prog 137 (SV.d_ ρ [.lp 0 0 0 0,ak x]).toArray w (wh w ρ F (λ_:aj=>ak s.code.length) (λu=>lQ c (zeroV s u x)) (λu=>bn u) (λu=>u.xs=List.replicate c.slots 0/\u.a_)):=by
 refine Es Tryz.func137 (mq 1 ρ) ρ [.lp 0 0 0 0,ak x] (lQ c s) ((dP s.ay).and (f_ w F)) 4 h.abs ?_
 (repeat' ((conv=>whnf)<;>first|(show kv ..;(refine g_ c.slots rfl rfl xY aa ?_))|(show jd _ ((_,.rows (List.replicate _ _) _ _)::_) _ _ _;refine rq (List.replicate c.slots 0) (dU w F) (λR w' h b hb=>(h.2 b hb).1) (uH _) fC (Ij _) wy (λu hu fP=> ?_))|(show aC _ 135 ..;refine dK [] 0 1 2 3 c s ((dP s.ay).and (bn u)) [.lp 0 0 0 0,.c u.val] _ _ _ _ Tryz.call135 rfl rfl rfl (λR w' h=>⟨h.1.1,jN h.2⟩) (dU w F) (λR w' h b hb=>(h.1.2 b hb).1) (λw' ρ' F' h'=>FD c s u fP hs hl w' ρ' F' h') (λ_ _=> ?_))|(show aC _ 82 ..;(refine dK [] 0 6 7 8 c (az s u).1 dW [.lp 0 0 0 0,ak 5,ak x,ak 0,ak (az s u).2] _ _ _ _ Tryz.call82 rfl rfl rfl (λR w' h=>trivial) (dU w F) (λR w' h b hb=>(h.1.1.2 b hb).1) (λw' ρ' F' h'=>l8 c (az s u).1 5 x 0 (az s u).2 (by rw[iT];exact hcl) w' ρ' F' h') (λ_ _=> ?_)))|refine aN ?_))
 all_goals(conv=>whnf)
 all_goals exact eU _ _ _ _ u [(1,some 10),(2,some 11),(3,some 12)] ⟨hu,fP⟩ aS (by rw[iT];rfl) rfl rfl rfl aU (λR w' h=>⟨h.1.1.1.2,h.1.1.2⟩)
def yR:Option Int->Int
 |none=> -1
 |some a=>a
def pR(s:cZ)(m:Option Int)(v:Int):cZ×Int:=match m with
 |none=>(s,v)
 |some a=>(cu s 3 a v 0,s.code.length)
theorem Ee(s:cZ)(m:Option Int)(v:Int):((pR s m v).1.pl,(pR s m v).2)=lq s.pl m v:=by
 cases m<;>rfl
theorem Ef(c:dM)(s:cZ)(m:Option Int)(hm:∀a,m=some a->0<=a)(v:Int)(hcl:s.code.length<=1000000)(w:World)(ρ:Nat->SX.Loc)(F:Nat->Prop)(h:iW w ρ F 1 4 (lQ c s) dW):
 Calls Tryz.prog 136 (SV.d_ ρ [.lp 0 0 0 0,ak (yR m),ak v]).toArray w (wh w ρ F (λ_:Unit=>ak (pR s m v).2) (λ_=>lQ c (pR s m v).1) (λ_=>dW) (λ_=>True)):=by
 refine Es Tryz.func136 (mq 1 ρ) ρ [.lp 0 0 0 0,ak (yR m),ak v] (lQ c s) (dW.and (f_ w F)) 4 h.abs ?_
 cases m with
 |none=>
  (repeat' ((conv=>whnf)<;>first|(show @dR _ _ _;refine bA aS ?_)|refine aN ?_))
  all_goals(conv=>whnf)
  all_goals exact eU _ _ _ _ () [] trivial aS rfl rfl rfl rfl aU (λR w' h=>⟨h.2,trivial⟩)
 |some a=>
  have ha:=hm a rfl
  (repeat' ((conv=>whnf)<;>first|(show @dR _ _ _;refine cK (show¬a<0 by omega) ?_)|(show aC _ 82 ..;refine dK [] 0 1 2 3 c s dW [.lp 0 0 0 0,ak 3,ak a,ak v,ak 0] _ _ _ _ Tryz.call82 rfl rfl rfl (λR w' h=>trivial) (dU w F) (λR w' h b hb=>(h.2 b hb).1) (λw' ρ' F' h'=>l8 c s 3 a v 0 hcl w' ρ' F' h') (λ_ _=> ?_))|refine aN ?_))
  all_goals(conv=>whnf)
  all_goals exact eU _ _ _ _ () [(1,some 5),(2,some 6),(3,some 7)] trivial aS rfl rfl rfl rfl aU (λR w' h=>⟨h.1.2,trivial⟩)
section
variable {f g:Nat->Int} {R:Nat->Prop} {w:World}
theorem Lj:∀{l:List Int} {e:Nat} {row:List Int},(∀k,k<e+l.length->f k=g k)->nL f l e row=nL g l e row
 |[],_,_,_=>rfl
 |s::r,e,row,h=>by
  unfold nL
  rw[h e acC]
  exact Lj (λk hk=>h k acC)
theorem wK{n:Nat}{l:List Int}(h:∀k,k<l.length->f k=g k):jk n l f=jk n l g:=Lj (λk hk=>h k aa)
theorem uu{S:bJ}{p:World->Prop}(h:S.holds R w)(hp:∀R w,S.holds R w->p w):(vZ p).holds R w:=⟨S,h,hp⟩
theorem uK{u:aj}(h:(bn u).holds R w):(tC u).holds R w:=uu h (λ_ _ h=>aO h)
theorem Zp(c:dM)(s:cZ)(xs:List (List Value))(T:TypeId):qW 5 ((4,.rows xs 1 T)::lQ c s)=true:=rfl
theorem I8(c:dM)(s:cZ)(v sp:aj)(hv:v.a_)(hv0:0<v.xs.length)(hn:c.slots<=4096)(hs:∀p∈s.ay,p.a_)(hl:s.ay.length<=1000000)(zb:sp.a_)(hb:∀x∈sp.xs,0<=x/\x<c.slots)
 (w:World) (ρ:Nat->SX.Loc) (F:Nat->Prop) (h:iW w ρ F 1 4 (lQ c s) (((dP s.ay).and (tC v)).and (bn sp))):
 Calls Tryz.prog 83 (SV.d_ ρ [.lp 0 0 0 0,.c v.val,.c sp.val]).toArray w (wh w ρ F (λu:aj=>ak (az s u).2) (λu=>lQ c (az s u).1) (λu=>bn u) (λu=>u.xs=jk c.slots sp.xs (λe=>v.xs.getD (e%v.xs.length) 0)/\u.a_)):=by
 obtain⟨f,hf⟩:∃f:Nat->Int,f=λe=>v.xs.getD (e%v.xs.length) 0:=⟨_,rfl⟩
 have hff:∀e,i64 (f e):=λe=>by
  have hm:=Nat.mod_lt e hv0
  rw[hf];show i64 (v.xs.getD (e%v.xs.length) 0)
  rw[List.getD_eq_getElem?_getD,List.getElem?_eq_getElem hm]
  exact hv.fits _ (List.getElem_mem hm)
 rw[<-hf]
 refine Es Tryz.func83 (mq 1 ρ) ρ [.lp 0 0 0 0,.c v.val,.c sp.val] (lQ c s) ((((dP s.ay).and (tC v)).and (bn sp)).and (f_ w F)) 4 h.abs ?_
 refine Wp.know (p:=∃a,v.base=some a) (λρ w' hw=>ae hw λR h=>aI (j:=0) (fK h.1.1.2) (by rw[aF];exact hv0)) ?_
 rintro⟨va,hva⟩
 (repeat' ((conv=>whnf)<;>first|(show kv ..;(refine g_ c.slots rfl rfl xY aa ?_))|refine aN ?_))
 refine Wp.loop (σ:=Nat) 5 (λe=>[(0,.lp 0 0 0 0),(1,.c v.val),(7,.os 4 c.slots),(16,.c sp.val),(17,ak sp.xs.length),(18,ak e)]) (λe=>(4,.rows (ints (nL f (sp.xs.take e) 0 (List.replicate c.slots 0))) 1 3)::lQ c s) (λ_=>(((dP s.ay).and (tC v)).and (bn sp)).and (f_ w F)) (λe=>e<=sp.xs.length) (λe=>sp.xs.length-e) 0 [] aS (λe=>⟨rfl,Zp _ _ _ _⟩)
  (Nat.zero_le _) ⟨rfl,aU,⟨?_,aQ,aQ,aQ,aQ,trivial⟩,λR w' h=>h⟩ ?_
 ·show(4,bU.rows (ints (List.replicate c.slots 0)) 1 3)∈_
  rw[<-uH]
  exact aQ
 rintro e he
 have hrl:(nL f (sp.xs.take e) 0 (List.replicate c.slots 0)).length=c.slots:=by rw[zW,List.length_replicate]
 by_cases hlt:e<sp.xs.length
 ·have htk:sp.xs.take (e+1)=sp.xs.take e++[sp.xs[e]]:=by rw[List.take_add_one,List.getElem?_eq_getElem hlt];rfl
  have hsn:nL f (sp.xs.take (e+1)) 0 (List.replicate c.slots 0)=(nL f (sp.xs.take e) 0 (List.replicate c.slots 0)).set sp.xs[e].toNat (f e):=by
   rw[htk,Fg,List.length_take,Nat.min_eq_left aa,Nat.zero_add]
  have hbe:=hb _ (List.getElem_mem hlt)
  have hxg:sp.xs.getD e 0=sp.xs[e]:=by rw[List.getD_eq_getElem?_getD,List.getElem?_eq_getElem hlt];rfl
  have nX:=zb.few
  have hem:(e:Int)%(v.xs.length:Int)=((e%v.xs.length:Nat):Int):=(Int.natCast_emod _ _).symm
  have hml:=Nat.mod_lt e hv0
  have hfe:v.xs.getD (e%v.xs.length) 0=f e:=by rw[hf]
  have an5:(v.xs.length:Int)≠0:=by omega
  generalize sp.xs[e]=z at*
  generalize nL f (sp.xs.take e) 0 (List.replicate c.slots 0)=row at*
  refine Wp.know (p:=∃a,sp.base=some a) (λρ w' hw=>ae hw λR h=>aI (j:=e) (aO h.1.2) Yj) ?_
  rintro⟨pa,hpa⟩
  (repeat' ((conv=>whnf)<;>first|(show ww ..;refine Iq (Int.natCast_nonneg _) an5 hem ?_)|(show bC ..;(first|refine ax pa e hpa rfl hlt ?_|refine ax va (e%v.xs.length) hva rfl hml ?_))|(show fu ..;(first|refine j6 (λR w' h=>by rw[<-hpa];exact aO h.1.2) (j:=e) hlt hxg ?_|refine j6 (λR w' h=>by rw[<-hva];exact fK h.1.1.2) (j:=e%v.xs.length) hml hfe ?_))|(show bV ..;(refine aT z.toNat aa aa ahX ?_))|(show bS ..;refine ints_set aa ?_)|refine aN ?_|refine ag ?_ ?_<;>intro _))
  all_goals(conv=>whnf)
  all_goals exact⟨e+1,[],hlt,by omega,rfl,aU,⟨by rw[hsn];exact aQ,aQ,aQ,aQ,aQ,trivial⟩,λR w' h=>h⟩
 ·obtain rfl:e=sp.xs.length:=by omega
  rw[List.take_length]at hrl
  have aaA:∀x∈nL f (sp.xs.take sp.xs.length) 0 (List.replicate c.slots 0),i64 x:=by
   rw[List.take_length]
   exact KN (Ij _) (λk hk=>hff k)
  refine Wp.Ii 4 (dU w F) (k:=1) (xs:=ints (nL f (sp.xs.take sp.xs.length) 0 (List.replicate c.slots 0))) (T:=3) aQ (λR w' h b hb=>(h.2 b hb).1) (λfl hfl=> ?_)
  rw[List.take_length]at aaA hfl|-
  rw[aF,hrl]at hfl
  obtain⟨u,hu⟩:∃u:aj,u=⟨fl.base,fl.cap,nL f sp.xs 0 (List.replicate c.slots 0)⟩:=⟨_,rfl⟩
  have Y9:u.xs=nL f sp.xs 0 (List.replicate c.slots 0):=by rw[hu]
  have fP:u.a_:=⟨by rw[Y9];exact aaA,by rw[Y9,hrl,hu];exact hfl,by rw[Y9,hrl];omega⟩
  have huv:Value.slice fl.base c.slots fl.cap=u.val:=by rw[hu];show _=Value.slice _ (nL f sp.xs 0 (List.replicate c.slots 0)).length _;rw[hrl]
  have jr:∀{R:Nat->Prop} {w':World},((eY fl.base 1 (ints (nL f sp.xs 0 (List.replicate c.slots 0)))).off (dU w F)).holds R w'->((bn u).off (dU w F)).holds R w':=λh=>by rw[hu];exact h
  (repeat' ((conv=>whnf)<;>first|(show aC _ 135 ..;(refine dK [] 0 1 2 3 c s ((dP s.ay).and (bn u)) [.lp 0 0 0 0,.c u.val] _ _ _ _ Tryz.call135 rfl rfl (by rw[<-huv];rfl) (λR w' h=>⟨h.1.1.1.1,jN (jr h.2)⟩) (dU w F) (λR w' h b hb=>(h.1.2 b hb).1) (λw' ρ' F' h'=>FD c s u fP hs hl w' ρ' F' h') (λ_ _=> ?_)))|refine aN ?_|refine ag ?_ ?_<;>intro _))
  all_goals(conv=>whnf)
  all_goals exact eU _ _ _ _ u [(1,some 6),(2,some 7),(3,some 8)] ⟨Y9,fP⟩ aS rfl rfl rfl rfl aU (λR w' h=>⟨h.1.1.2,jr h.1.2⟩)
end
abbrev amg:Go.SX.DT:=(eF [0,1,2,3,4,5,6,7,8,109,110,111,12] .done)
section
variable {M d:List Int} {base:Nat} {s:cZ}
abbrev Iy(w:World)(ρ:Nat->SX.Loc)(F:Nat->Prop)(c:dM)(s:cZ)(r:fF×Int):=wh w ρ F (λx:cZ×Int=>ak x.2) (λx=>lQ c x.1) (λx=>D6 s.ay x.1.ay) (λx=>x.1.pl=r.1/\x.2=r.2/\sw c x.1)
def pO(M:List Int)(e:Nat):List Int:=M.take e++List.replicate (M.length-e) 0
theorem Ll(M:List Int):pO M 0=List.replicate M.length 0:=by simp[pO]
theorem OZ(M:List Int):pO M M.length=M:=by simp[pO]
theorem Eg{e:Nat}(h:e<=M.length):(pO M e).length=M.length:=by
 unfold pO
 rw[List.length_append,List.length_take,List.length_replicate];omega
theorem O0{e:Nat}(h:e<M.length):(pO M e).set e (M.getD e 0)=pO M (e+1):=by
 unfold pO
 have e1:M.length-e=(M.length-(e+1))+1:=by omega
 have e2:M.getD e 0=M[e]:=by rw[List.getD_eq_getElem?_getD,List.getElem?_eq_getElem h];rfl
 have e3:(M.take e).length=e:=by rw[List.length_take];omega
 rw[e1,List.replicate_succ,List.set_append,if_neg aa,e3,Nat.sub_self,List.set_cons_zero,e2,List.take_succ_eq_append_getElem h,List.append_assoc]
 rfl
theorem Q7{n:Nat}(hd:d.length=n)(hb:base<=n):(jH n base d).length=n:=by
 unfold jH
 rw[List.length_append,List.length_drop,List.length_take];omega
theorem aa8{n e:Nat}(hd:d.length=n)(hb:base<n)(he:e<n):d.getD ((e+n-base)%n) 0=(jH n base d).getD e 0:=by
 unfold jH
 rw[List.getD_eq_getElem?_getD,List.getD_eq_getElem?_getD]
 congr 1
 by_cases h:e<base
 ·rw[List.getElem?_append_left acO,List.getElem?_drop,Nat.mod_eq_of_lt aa]
  congr 1;omega
 ·rw[List.getElem?_append_right acO,List.length_drop,List.getElem?_take,if_pos aa]
  have e1:e+n-base=(e-base)+n:=by omega
  rw[e1,Nat.add_mod_right,Nat.mod_eq_of_lt aa]
  congr 1;omega
structure MW(n:Nat)(t:Int->Option Int)(bl:List Int):Prop where
 len:bl.length=n
 at_:∀i:Nat,i<n->bl.getD i 0=yR (t i)
theorem FE(l:List Int)(i:Nat)(v:Int)(j:Nat)(hi:i<l.length):(l.set i v).getD j 0=if i=j then v else l.getD j 0:=by
 rw[List.getD_eq_getElem?_getD,List.getD_eq_getElem?_getD,List.getElem?_set]
 by_cases h:i=j
 ·rw[if_pos h,if_pos h,if_pos aa];rfl
 ·rw[if_neg h,if_neg h]
theorem MW.start{n:Nat}(hn:1<=n)(x:Int):MW n (mG x) ((List.replicate n (-1)).set 0 x):=by
 refine⟨by simp,λi hi=> ?_⟩
 rw[FE _ _ _ _ wy]
 unfold mG
 by_cases h:0=i
 ·subst h;rfl
 ·rw[if_neg h,if_neg aa,List.getD_eq_getElem?_getD,List.getElem?_replicate,if_pos hi];rfl
theorem MW.put{n:Nat}{t:Int->Option Int}{bl:List Int}(h:MW n t bl){i:Nat}(hi:i<n)(v:Int):MW n (λz=>if z=(i:Int)then some v else t z) (bl.set i v):=by
 refine⟨by rw[List.length_set];exact h.len,λj hj=> ?_⟩
 rw[FE _ _ _ _ (by rw[h.len];exact hi)]
 by_cases e:i=j
 ·subst e;rw[if_pos rfl,if_pos rfl];rfl
 ·rw[if_neg e,if_neg aa];exact h.at_ j hj
structure NonNeg(t:Int->Option Int)(m:Option Int):Prop where
 t:∀k a,t k=some a->0<=a
 m:∀a,m=some a->0<=a
theorem Eh{x:Int}(hx:0<=x):NonNeg (mG x) none:=by
 refine⟨λk a h=> ?_,λa h=>by cases h⟩
 unfold mG at h
 split at h
 ·simp only[Option.some.injEq]at h;omega
 ·cases h
theorem FH(s:cZ)(t:Int->Option Int)(m:Option Int)(v:Int):Ac s t m v=⟨(pR s m v).1,t,some (pR s m v).2⟩:=by
 cases m<;>rfl
theorem sD{m:Option Int}{v:Int}(hv:0<=v):0<=(pR s m v).2:=by
 cases m with
 |none=>exact hv
 |some a=>exact Int.natCast_nonneg _
theorem lJ.sum{c:dM}{k:Nat}(h:lJ c k s)(m:Option Int)(v:Int):lJ c (k+1) (pR s m v).1:=by
 cases m with
 |none=>exact h.mono (Nat.le_succ _)
 |some a=>exact h.lay _ _ _ _
theorem sF(s:cZ)(m:Option Int)(v:Int):(pR s m v).1.ay=s.ay:=by
 cases m<;>rfl
abbrev Lm(bl:List Int)(c:dM)(s:cZ)(d i1 i2 i3:Nat):Heap:=(4,.rows (ints bl) 1 3)::FC c s d i1 i2 i3
abbrev aeU(w:World)(ρ:Nat->SX.Loc)(F:Nat->Prop)(c:dM)(s:cZ)(r:fF×Int)(k:Nat)(env:Env)(H:Heap)(S:bJ)(nx:Nat):Prop:=Wp ⟨Tryz.prog,⟨w,mq 1 ρ⟩,Tryz.f86.ntmps,tab⟩ (OX k (bodyC Tryz.f86)) env H S nx (Sn ⟨Tryz.prog,⟨w,mq 1 ρ⟩,Tryz.f86.ntmps,tab⟩ Tryz.f86.results.toList (Iy w ρ F c s r))
structure qd(c:dM)(s:cZ)(x:Int)(d:aY):Prop where
 slots:1<=c.slots/\c.slots<=4096
 low:lJ c 500000 s
 x:0<=x
 len:d.l.length=c.slots
 each:∀u∈d.l,u.xs=[]\/u.xs.length=c.slots
 a_:∀u∈d.l,u.a_
theorem O1(c:dM)(s:cZ)(x:Int)(d:aY)(g:Nat)(hg1:1<=g)(hg4:g<=4096)(hgv:oC c.giant c.slots=g)(hN:qd c s x d)(w:World)(ρ:Nat->SX.Loc)(F:Nat->Prop):
 aeU w ρ F c s (jl c.slots c.giant s.pl x (d.l.map aj.xs)) 5 [(0,.lp 0 0 0 0),(1,ak x),(11,.c d.val),(13,ak c.slots),(14,ak g)] (lQ c s) (((dP s.ay).and (ni d)).and (f_ w F)) 4:=by
 have hN0:=hN
 obtain⟨⟨hn1,hn2⟩,z00,hx0,hdl,hdn,hds⟩:=hN
 (repeat' ((conv=>whnf)<;>first|(show kv ..;(refine g_ c.slots rfl rfl xY aa ?_))|refine aZ ?_))
 all_goals(conv=>whnf)
 have hml:(List.replicate c.slots (-1:Int)).length=c.slots:=List.length_replicate
 refine Wp.loop (σ:=Nat) 5 (λk=>[(0,.lp 0 0 0 0),(1,ak x),(11,.c d.val),(13,ak c.slots),(14,ak g),(15,.os 4 c.slots),(56,ak c.slots),(57,ak k)]) (λk=>(4,.rows (ints (pO (List.replicate c.slots (-1)) k)) 1 3)::lQ c s) (λ_=>((dP s.ay).and (ni d)).and (f_ w F)) (λk=>k<=c.slots) (λk=>c.slots-k) 0 [] aS (λe=>⟨rfl,Zp _ _ _ _⟩)
  (Nat.zero_le _) ⟨rfl,aU,⟨?_,aQ,aQ,aQ,aQ,trivial⟩,λR w' h=>h⟩ ?_
 ·show(4,bU.rows (ints (pO (List.replicate c.slots (-1)) 0)) 1 3)∈_
  rw[Ll,hml,<-uH]
  exact aQ
 intro k hk
 by_cases hlt:k<c.slots
 ·have hfs:(pO (List.replicate c.slots (-1)) k).set k (-1)=pO (List.replicate c.slots (-1)) (k+1):=by
   rw[<-O0 (by rw[hml];exact hlt)]
   congr 1
   rw[List.getD_eq_getElem?_getD,List.getElem?_replicate,if_pos hlt];rfl
  have hfl:(pO (List.replicate c.slots (-1)) k).length=c.slots:=by rw[Eg (by rw[hml];exact hk),hml]
  (repeat' ((conv=>whnf)<;>first|(show bV ..;(refine aT k rfl hlt ahY ?_))|(show bS ..;(refine ints_set (by rw[hfl];exact hlt) ?_))|refine aZ ?_|refine ag ?_ ?_<;>intro _))
  all_goals(conv=>whnf)
  exact⟨k+1,[],hlt,by omega,rfl,aU,⟨by rw[<-hfs];exact aQ,aQ,aQ,aQ,aQ,trivial⟩,λR w' h=>h⟩
 obtain rfl:k=c.slots:=by omega
 have hfa:pO (List.replicate c.slots (-1)) c.slots=List.replicate c.slots (-1):=by have:=OZ (List.replicate c.slots (-1));rwa[hml]at this
 rw[hfa]
 clear hfa hlt hk
 (repeat' ((conv=>whnf)<;>first|(show bV ..;(refine aT 0 rfl hn1 (by rw[aF,hml];exact Nat.le_refl _) ?_))|(show bS ..;(refine ints_set (by rw[hml];exact hn1) ?_))|refine aZ ?_|refine ag ?_ ?_<;>intro _))
 all_goals(conv=>whnf)
 have hlen:=hN0.len
 obtain⟨Y,hY0⟩:∃Y,kG c.slots g x (d.l.map aj.xs) c.slots (0*g) ⟨s.pl,mG x,none⟩=Y:=⟨_,rfl⟩
 refine Wp.loop (σ:=Nat×Nat×yL×List Int) 8 (λq=>[(0,.lp 0 0 0 0),(1,ak x),(11,.c d.val),(13,ak c.slots),(14,ak g),(15,.os 4 c.slots),(17,ak (yR q.2.2.1.m)),(18,ak q.1)]) (λq=>Lm q.2.2.2 c q.2.2.1.s 0 5 6 7) (λq=>WV w F s d q.2.2.1.s)
  (λq=>kG c.slots g x (d.l.map aj.xs) q.2.1 (q.1*g) q.2.2.1.pl=Y/\c.slots<=q.1*g+q.2.1/\q.1*g<=8192/\q.1<=8192/\lJ c (500000+6*(q.1*g)) q.2.2.1.s/\MW c.slots q.2.2.1.t q.2.2.2/\NonNeg q.2.2.1.t q.2.2.1.m) (λq=>c.slots-q.1*g) (0,c.slots,⟨s,mG x,none⟩,(List.replicate c.slots (-1)).set 0 x) [(5,some 1),(6,some 2),(7,some 3)] aS (λq=>⟨rfl,rfl⟩)
  ⟨hY0,by show c.slots<=0*g+c.slots;omega,by show 0*g<=_;omega,Nat.zero_le _,z00.mono aa,MW.start hn1 x,Eh hx0⟩
  ⟨rfl,aU,aU,λR w' h=>⟨⟨⟨h.1.1,lG _ _ _⟩,h.1.2⟩,h.2⟩⟩ ?_
 rintro⟨j,f,⟨ys,yt,ym⟩,bl⟩ ⟨hY,hf,hb8,hj8,z0,hB,hNN⟩
 simp only at hY hf hb8 hj8 z0 hB hNN
 obtain⟨base,hbase⟩:∃base,j*g=base:=⟨_,rfl⟩
 have hjg:(j:Int)*g=base:=by rw[<-hbase];push_cast;rfl
 rw[hbase]at hY hf hb8 z0
 by_cases hlt:base<c.slots
 ·obtain⟨f',rfl⟩:∃f',f=f'+1:=⟨f-1,by omega⟩
  rw[kG,if_pos hlt]at hY
  obtain⟨hi,hhi⟩:∃hi,hi=min c.slots (base+g):=⟨_,rfl⟩
  rw[<-hhi]at hY
  have hhi1:base<hi:=by omega
  have hhi2:hi<=c.slots:=by omega
  obtain⟨ds,aj_⟩:∃ds:List aj,(d.l.drop base).take (hi-base)=ds:=⟨_,rfl⟩
  have anQ:ds.length=hi-base:=by rw[<-aj_,List.length_take,List.length_drop];omega
  have amh:∀(i:Nat) (h:i<ds.length),∃h2:base+i<d.l.length,ds[i]=d.l[base+i]:=λi h=>by
   have h2:base+i<d.l.length:=by omega
   refine⟨h2,?_⟩
   subst aj_
   rw[List.getElem_take,List.getElem_drop]
  obtain⟨Z,TZ⟩:∃Z,mZ c.slots base x ((ds.drop 0).map aj.xs) 0 ⟨ys.pl,yt,none⟩=Z:=⟨_,rfl⟩
  have Rn:mZ c.slots base x (List.take (hi-base) (List.drop base (d.l.map aj.xs))) 0 ⟨ys.pl,yt,none⟩=Z:=by rw[<-TZ,<-aj_];simp[List.map_drop,List.map_take]
  (repeat' ((conv=>whnf)<;>first|refine Bw ?_|refine aZ ?_|refine ag ?_ ?_<;>intro _))
  all_goals(conv=>whnf)
  refine Wp.loop (σ:=Nat×yL×List Int) 11 (λq=>[(0,.lp 0 0 0 0),(1,ak x),(11,.c d.val),(13,ak c.slots),(14,ak g),(15,.os 4 c.slots),(17,ak (yR ym)),(18,ak j),(19,ak (yR q.2.1.m)),(20,ak q.1)]) (λq=>Lm q.2.2 c q.2.1.s 0 8 9 10) (λq=>WV w F s d q.2.1.s)
   (λq=>q.1<=ds.length/\mZ c.slots base x ((ds.drop q.1).map aj.xs) q.1 q.2.1.pl=Z/\lJ c (500000+6*base+4*q.1) q.2.1.s/\MW c.slots q.2.1.t q.2.2/\NonNeg q.2.1.t q.2.1.m) (λq=>ds.length-q.1) (0,⟨ys,yt,none⟩,bl) [(8,some 5),(9,some 6),(10,some 7)] aS (λq=>⟨rfl,rfl⟩)
   ⟨Nat.zero_le _,TZ,z0,hB,hNN.t,λa h=>by cases h⟩ ⟨rfl,aU,aU,λR w' h=>h⟩ ?_
  clear TZ z0 hB
  rintro⟨i,⟨zs,zt,zm⟩,bl2⟩ ⟨hil,hZ,z1,hB,hNZ⟩
  simp only at hil hZ z1 hB hNZ
  by_cases hlt2:i<ds.length
  ·rw[List.drop_eq_getElem_cons hlt2,List.map_cons,mZ]at hZ
   obtain⟨hbi,an6⟩:=amh i hlt2
   have hrow:=dh hbi
   have wN:=List.getElem_mem hbi
   rw[an6]at hZ
   generalize d.l[base+i]=u at*
   have fP:=hds u wN
   refine Wp.know (p:=∃a,d.base=some a) (λρ w' hw=>ae hw λR h=>aI (j:=base+i) (aO h.1.2.1) (by rw[aR];exact hbi)) ?_
   rintro⟨da,hda⟩
   rcases hdn u wN with hx1|hxl
   ·rw[q9,if_pos hx1]at hZ
    have yf:(u.xs.length:Int)=0:=by rw[hx1];rfl
    (repeat' ((conv=>whnf)<;>first|refine Bw ?_|(show bC ..;refine ax da (base+i) hda aa hbi ?_)|refine ab4 ?_|(show @dR _ _ _;(first|refine bA yf ?_|refine ajt ?_|refine anm ?_))|refine aZ ?_))
    all_goals(conv=>whnf)
    all_goals exact⟨(i+1,⟨zs,zt,zm⟩,bl2),[],⟨hlt2,hZ,z1.mono ahO,hB,hNZ⟩,by show ds.length-(i+1)<ds.length-i;omega,rfl,aU,aU,λR w' h=>h⟩
   have aaL:u.xs≠[]:=λh=>by rw[h]at hxl;simp at hxl;omega
   have yf:¬(u.xs.length:Int)=0:=by omega
   refine Wp.know (p:=∃a,u.base=some a) (λρ w' hw=>ae hw λR h=>aI (j:=0) (aO (h.1.2.2 u wN)) vD) ?_
   rintro⟨ua,jr⟩
   have hin:i<c.slots:=by omega
   have UX:=hB.at_ i hin
   have ajd:=hB.len
   rcases ht:zt i with _|t
   focus
    have UX:bl2.getD i 0= -1:=by rw[UX,ht];rfl
    iterate 7
     refine Wp.go fA rfl ?_
     (repeat' ((conv=>whnf)<;>first|refine Bw ?_|(show bC ..;refine ax da (base+i) hda aa hbi ?_)|refine ab4 ?_|(show @dR _ _ _;(first|refine cK yf ?_|refine bA (show(-1:Int)<0 by decide) ?_|refine ajt ?_))|(show bV ..;(refine aT i rfl hin ahW ?_))|(show kC ..;(refine Il Yn UX ?_))|(show bS ..;(refine ints_set Yn ?_))|(show aC _ 82 ..;(refine dK [(4,.rows (ints bl2) 1 3)] 0 8 9 10 c zs dW [.lp 0 0 0 0,ak 8,ak x,ak 0,ak i] _ _ _ _ Tryz.call82 rfl rfl rfl (λR w' h=>trivial) (dU w F) (λR w' h b hb=>(h.2 b hb).1) (λw' ρ' F' h'=>l8 c zs 8 x 0 i ZP w' ρ' F' h') (λ_ _=> ?_)))))
    obtain⟨a1,ha1⟩:∃a1:Int,(zs.code.length:Int)=a1:=⟨_,rfl⟩
    obtain⟨q1,hq1⟩:∃q1,cu zs 8 x 0 i=q1:=⟨_,rfl⟩
    obtain⟨t1,ht1⟩:∃t1:Int->Option Int,(λz=>if z=(i:Int)then some a1 else zt z)=t1:=⟨_,rfl⟩
    obtain⟨UY,UZ⟩:∃UY,bl2.set i a1=UY:=⟨_,rfl⟩
    have hT:tH zs zt x i=(q1,t1,a1):=by unfold tH;rw[ht,<-ht1,<-hq1,<-ha1]
    have ha0:0<=a1:=by rw[<-ha1];exact Int.natCast_nonneg _
    have hB3:MW c.slots t1 UY:=by rw[<-ht1,<-UZ];exact hB.put hin _
    have hb3:UY.getD i 0=a1:=by rw[<-UZ,FE _ _ _ _ Yn,if_pos rfl]
    have hN3:NonNeg t1 zm:=⟨λk a h=>by rw[<-ht1]at h;dsimp only at h;split at h;(simp only[Option.some.injEq]at h;omega);exact hNZ.t k a h,hNZ.m⟩
    have z2:lJ c (500000+6*base+4*i+1) q1:=by rw[<-hq1];exact z1.lay _ _ _ _
    refine Wp.into 18 [(15,some 12),(16,some 13),(17,some 14)] (show Wp _ _ ([(0,.lp 0 0 0 0),(1,ak x),(11,.c d.val),(13,ak c.slots),(14,ak g),(15,.os 4 c.slots),(17,ak (yR ym)),(18,ak j),(19,ak (yR zm)),(20,ak i),(21,.c u.val)]) (Lm UY c q1 0 15 16 17) (WV w F s d q1) 18 _ from ?_) aS ⟨rfl,rfl⟩ ⟨rfl,aU,⟨by rw[<-UZ,<-ha1];exact aQ,by rw[<-hq1];exact aQ,by rw[<-hq1];exact aQ,by rw[<-hq1];exact aQ,by rw[<-hq1];exact aQ,trivial⟩,λR w' h=>by rw[<-hq1];exact h.1⟩
   rotate_left
   focus
    have ht0:=hNZ.t i t ht
    have UX:bl2.getD i 0=t:=by rw[UX,ht];rfl
    iterate 7
     refine Wp.go fA rfl ?_
     (repeat' ((conv=>whnf)<;>first|refine Bw ?_|(show bC ..;refine ax da (base+i) hda aa hbi ?_)|refine ab4 ?_|(show @dR _ _ _;(first|refine cK yf ?_|refine cK (show¬t<0 by omega) ?_|refine ajt ?_))|(show bV ..;(refine aT i rfl hin ahW ?_))|(show kC ..;(refine Il Yn UX ?_))))
    obtain⟨a1,ha1⟩:∃a1:Int,t=a1:=⟨_,rfl⟩
    obtain⟨q1,hq1⟩:∃q1,zs=q1:=⟨_,rfl⟩
    obtain⟨t1,ht1⟩:∃t1,zt=t1:=⟨_,rfl⟩
    obtain⟨UY,UZ⟩:∃UY,bl2=UY:=⟨_,rfl⟩
    have hT:tH zs zt x i=(q1,t1,a1):=by unfold tH;rw[ht,<-ht1,<-hq1,<-ha1]
    have ha0:0<=a1:=by rw[<-ha1];exact ht0
    have hB3:MW c.slots t1 UY:=by rw[<-ht1,<-UZ];exact hB
    have hb3:UY.getD i 0=a1:=by rw[<-UZ,<-ha1];exact UX
    have hN3:NonNeg t1 zm:=by rw[<-ht1];exact hNZ
    have z2:lJ c (500000+6*base+4*i+1) q1:=by rw[<-hq1];exact z1.mono (Nat.le_succ _)
    refine Wp.into 18 [(15,some 8),(16,some 9),(17,some 10)] (show Wp _ _ ([(0,.lp 0 0 0 0),(1,ak x),(11,.c d.val),(13,ak c.slots),(14,ak g),(15,.os 4 c.slots),(17,ak (yR ym)),(18,ak j),(19,ak (yR zm)),(20,ak i),(21,.c u.val)]) (Lm UY c q1 0 15 16 17) (WV w F s d q1) 18 _ from ?_) aS ⟨rfl,rfl⟩ ⟨rfl,aU,⟨by rw[<-UZ];exact aQ,by rw[<-hq1];exact aQ,by rw[<-hq1];exact aQ,by rw[<-hq1];exact aQ,by rw[<-hq1];exact aQ,trivial⟩,λR w' h=>by rw[<-hq1];exact h⟩
   all_goals
    have aiC:=hB3.len
    have hMl:(jH c.slots base u.xs).length=c.slots:=Q7 hxl aa
    clear UX hB hNZ z1 ajd hq1 ha1 UZ ht1
    (repeat' ((conv=>whnf)<;>first|(show kv ..;(refine g_ c.slots rfl rfl xY aa ?_))|refine aZ ?_))
    refine Wp.loop (σ:=Nat) 19 (λe=>[(0,.lp 0 0 0 0),(1,ak x),(11,.c d.val),(13,ak c.slots),(14,ak g),(15,.os 4 c.slots),(17,ak (yR ym)),(18,ak j),(19,ak (yR zm)),(20,ak i),(21,.c u.val),(22,.os 18 c.slots),(114,ak c.slots),(115,ak e)]) (λe=>(18,.rows (ints (pO (jH c.slots base u.xs) e)) 1 3)::Lm UY c q1 0 15 16 17) (λ_=>WV w F s d q1) (λe=>e<=c.slots) (λe=>c.slots-e) 0 [] aS (λe=>⟨rfl,rfl⟩)
     (Nat.zero_le _) ⟨rfl,aU,⟨by show(18,bU.rows (ints (pO (jH c.slots base u.xs) 0)) 1 3)∈_;rw[Ll,hMl,<-uH];exact aQ,aQ,aQ,aQ,aQ,aQ,trivial⟩,λR w' h=>h⟩ ?_
    intro e he
    by_cases hlt3:e<c.slots
    ·have hfs:=O0 (M:=jH c.slots base u.xs) (e:=e) (by rw[hMl];exact hlt3)
     have hfl:(pO (jH c.slots base u.xs) e).length=c.slots:=by rw[Eg (by rw[hMl];exact he),hMl]
     have hmg:=aa8 hxl hlt hlt3
     have hz:(e:Int)-base+c.slots=((e+c.slots-base:Nat):Int):=by omega
     have hre:((e:Int)-base+c.slots)%(c.slots:Int)=(((e+c.slots-base)%c.slots:Nat):Int):=by rw[hz];exact(Int.natCast_emod _ _).symm
     have ami:(e+c.slots-base)%c.slots<u.xs.length:=by rw[hxl];exact Nat.mod_lt _ aa
     have an8:(c.slots:Int)≠0:=by omega
     (repeat' ((conv=>whnf)<;>first|refine Bw ?_|(show ww ..;refine Iq aa an8 hre ?_)|(show bC ..;refine ax ua ((e+c.slots-base)%c.slots) jr rfl ami ?_)|(show fu ..;(refine j6 (λR w' h=>by rw[<-jr];exact aO (h.1.2.2 u wN)) (j:=(e+c.slots-base)%c.slots) ami hmg ?_))|(show bV ..;(refine aT e rfl hlt3 ahY ?_))|(show bS ..;(refine ints_set (by rw[hfl];exact hlt3) ?_))|refine aZ ?_|refine ag ?_ ?_<;>intro _))
     all_goals(conv=>whnf)
     exact⟨e+1,[],hlt3,by omega,rfl,aU,⟨by rw[<-hfs];exact aQ,aQ,aQ,aQ,aQ,aQ,trivial⟩,λR w' h=>h⟩
    obtain rfl:e=c.slots:=by omega
    have hfa:pO (jH c.slots base u.xs) c.slots=jH c.slots base u.xs:=by have:=OZ (jH c.slots base u.xs);rwa[hMl]at this
    refine Wp.Ii 18 (dU w F) (k:=1) (xs:=ints (pO (jH c.slots base u.xs) c.slots)) (T:=3) aQ (λR w' h b hb=>(h.2 b hb).1) (λfl hfl=> ?_)
    rw[hfa]at hfl|-
    rw[aF,hMl]at hfl
    obtain⟨m,hm⟩:∃m:aj,m=⟨fl.base,fl.cap,jH c.slots base u.xs⟩:=⟨_,rfl⟩
    have hmx:m.xs=jH c.slots base u.xs:=by rw[hm]
    have hms:m.a_:=⟨by rw[hmx];exactλz hz=>(List.mem_append.1 hz).elim (λhz=>fP.fits z (List.mem_of_mem_drop hz)) (λhz=>fP.fits z (List.mem_of_mem_take hz)),by rw[hmx,hMl,hm];exact hfl,by rw[hmx,hMl];omega⟩
    have hmv:Value.slice fl.base c.slots fl.cap=m.val:=by rw[hm];show _=Value.slice _ (jH c.slots base u.xs).length _;rw[hMl]
    have hma:∀{R:Nat->Prop} {w':World},((eY fl.base 1 (ints (jH c.slots base u.xs))).off (dU w F)).holds R w'->((bn m).off (dU w F)).holds R w':=λh=>by rw[hm];exact h
    have eV:Ad x ⟨zs,zt,zm⟩ i m=⟨(pR (cu (az q1 m).1 5 a1 0 (az q1 m).2) zm (az q1 m).1.code.length).1,t1,some (pR (cu (az q1 m).1 5 a1 0 (az q1 m).2) zm (az q1 m).1.code.length).2⟩:=by unfold Ad;rw[hT];exact FH _ _ _ _
    have eP:=xJ (n:=c.slots) (base:=base) (x:=x) (y:=⟨zs,zt,zm⟩) (i:=i) hmx aaL
    rw[eV]at eP
    have z3:=((z2.plain hms).lay 5 a1 0 (az q1 m).2).sum zm (az q1 m).1.code.length
    have hpl:(pR (cu (az q1 m).1 5 a1 0 (az q1 m).2) zm (az q1 m).1.code.length).1.ay=(az q1 m).1.ay:=sF _ _ _
    clear hT eV
    (repeat' ((conv=>whnf)<;>first|(show cO _ 33 ..;refine mE [] [(4,.rows (ints UY) 1 3)] amg ?_ (h6:=List.Sublist.cons_cons _ (List.nil_sublist _)))|(show iK ..;(first|refine og ?_|refine og ?_ (List.sublist_append_left _ _) (λ_ _ h=>h.1.1.1)))|(show bV ..;(refine aT i rfl hin (by rw[aF,aiC];exact Nat.le_refl _) ?_))|(show kC ..;(refine Il (by rw[aiC];exact hin) hb3 ?_))|(show aC _ 135 ..;(refine dK [(4,.rows (ints UY) 1 3)] 0 15 16 17 c q1 ((dP q1.ay).and (bn m)) [.lp 0 0 0 0,.c m.val] _ _ _ _ Tryz.call135 rfl rfl (by rw[<-hmv];rfl) (λR w' h=>⟨h.1.1.1.1,jN (hma h.2)⟩) (dU w F) (λR w' h b hb=>(h.1.2 b hb).1) (λw' ρ' F' h'=>FD c q1 m hms z2.ok.ay (by have:=z2.qM;omega) w' ρ' F' h') (λ_ _=> ?_)))|(show aC _ 82 ..;(refine dK [(4,.rows (ints UY) 1 3)] 0 20 21 22 c (az q1 m).1 dW [.lp 0 0 0 0,ak 5,ak a1,ak 0,ak (az q1 m).2] _ _ _ _ Tryz.call82 rfl rfl rfl (λR w' h=>trivial) (dU w F) (λR w' h b hb=>(h.1.1.2 b hb).1) (λw' ρ' F' h'=>l8 c (az q1 m).1 5 a1 0 (az q1 m).2 (by rw[iT];have:=z2.lM;omega) w' ρ' F' h') (λ_ _=> ?_)))|(show aC _ 136 ..;(refine dK [(4,.rows (ints UY) 1 3)] 0 24 25 26 c (cu (az q1 m).1 5 a1 0 (az q1 m).2) dW [.lp 0 0 0 0,ak (yR zm),ak (az q1 m).1.code.length] _ _ _ _ Tryz.call136 rfl rfl rfl (λR w' h=>trivial) (dU w F) (λR w' h b hb=>(h.1.1.1.2 b hb).1) (λw' ρ' F' h'=>Ef c (cu (az q1 m).1 5 a1 0 (az q1 m).2) zm hN3.m (az q1 m).1.code.length (by have:=((z2.plain hms).lay 5 a1 0 (az q1 m).2).lM;omega) w' ρ' F' h') (λ_ _=> ?_)))|refine aZ ?_|refine ag ?_ ?_<;>intro _))
    all_goals(conv=>whnf)
    exact⟨(i+1,⟨(pR (cu (az q1 m).1 5 a1 0 (az q1 m).2) zm (az q1 m).1.code.length).1,t1,some (pR (cu (az q1 m).1 5 a1 0 (az q1 m).2) zm (az q1 m).1.code.length).2⟩,UY),[(8,some 28),(9,some 29),(10,some 30)],⟨hlt2,by rw[<-hZ];exact congrArg _ eP,z3.mono ahO,hB3,hN3.t,λa h=>by simp only[Option.some.injEq]at h;rw[<-h];exact sD (Int.natCast_nonneg _)⟩,by show ds.length-(i+1)<ds.length-i;omega,rfl,aU,aU,λR w' h=>⟨⟨⟨by rw[hpl];exact mr h.1.1.1.1.1.1.1 (jN (hma h.1.1.1.2)),by rw[hpl];exact gQ h.1.1.1.1.1.1.2 (hma h.1.1.1.2)⟩,h.1.1.1.1.1.2⟩,h.1.1.1.1.2⟩⟩
  obtain rfl:i=ds.length:=by omega
  rw[List.drop_length,List.map_nil,mZ]at hZ
  rw[<-hZ]at Rn
  have hG:=OJ (y:=⟨ys.pl,yt,ym⟩) (z:=⟨zs,zt,zm⟩) Rn
  have hY:kG c.slots g x (d.l.map aj.xs) f' (base+g) (ve base ym ⟨zs,zt,zm⟩).pl=Y:=by rw[hG];exact hY
  have hj1:(j+1)*g=base+g:=by rw[Nat.succ_mul,hbase]
  have hgb:base+g<=8192:=by omega
  have hjb:0<j↔0<base:=⟨λh=>by rw[<-hbase];exact Nat.mul_pos h hg1,λh=>by rcases Nat.eq_zero_or_pos j with e|e;(rw[e,Nat.zero_mul]at hbase;omega);exact e⟩
  have hjc:j<=base:=by rw[<-hbase];exact Nat.le_mul_of_pos_right j hg1
  clear hZ Rn hG amh
  rcases zm with _|a
  ·(repeat' ((conv=>whnf)<;>first|refine Bw ?_|(show @dR _ _ _;refine bA (show(-1:Int)<0 by decide) ?_)|refine aZ ?_|refine ag ?_ ?_<;>intro _))
   all_goals(conv=>whnf)
   all_goals exact⟨(j+1,f',⟨zs,zt,ym⟩,bl2),[(5,some 8),(6,some 9),(7,some 10)],⟨by show kG _ _ _ _ f' ((j+1)*g) _=Y;rw[hj1];exact hY,by show _<=(j+1)*g+f';rw[hj1];omega,by show(j+1)*g<=_;rw[hj1];exact hgb,by show j+1<=_;omega,z1.mono ai8,hB,hNZ.t,hNN.m⟩,by show c.slots-(j+1)*g<c.slots-j*g;rw[hj1,hbase];omega,rfl,aU,aU,λR w' h=>h⟩
  have ha0:=hNZ.m a rfl
  rcases Nat.lt_or_ge 0 j with hj|hj
  ·have hb:=hjb.1 hj
   have eV:ve base ym ⟨zs,zt,some a⟩=⟨(pR (cu zs 8 a 0 base) ym zs.code.length).1,zt,some (pR (cu zs 8 a 0 base) ym zs.code.length).2⟩:=by show(if 0<base then Ac (cu zs 8 a 0 base) zt ym zs.code.length else Ac zs zt ym a)=_;rw[if_pos hb];exact FH _ _ _ _
   rw[eV]at hY
   have z3:=(z1.lay 8 a 0 base).sum ym zs.code.length
   have hpl:(pR (cu zs 8 a 0 base) ym zs.code.length).1.ay=zs.ay:=sF _ _ _
   clear eV
   (repeat' ((conv=>whnf)<;>first|refine Bw ?_|(show @dR _ _ _;(first|refine cK (show¬a<0 by omega) ?_|refine bA aa ?_))|(show aC _ 82 ..;(refine dK [(4,.rows (ints bl2) 1 3)] 0 8 9 10 c zs dW [.lp 0 0 0 0,ak 8,ak a,ak 0,ak base] _ _ _ _ Tryz.call82 rfl rfl rfl (λR w' h=>trivial) (dU w F) (λR w' h b hb=>(h.2 b hb).1) (λw' ρ' F' h'=>l8 c zs 8 a 0 base ZP w' ρ' F' h') (λ_ _=> ?_)))|(show aC _ 136 ..;(refine dK [(4,.rows (ints bl2) 1 3)] 0 12 13 14 c (cu zs 8 a 0 base) dW [.lp 0 0 0 0,ak (yR ym),ak zs.code.length] _ _ _ _ Tryz.call136 rfl rfl rfl (λR w' h=>trivial) (dU w F) (λR w' h b hb=>(h.1.2 b hb).1) (λw' ρ' F' h'=>Ef c (cu zs 8 a 0 base) ym hNN.m zs.code.length (by have:=(z1.lay 8 a 0 base).lM;omega) w' ρ' F' h') (λ_ _=> ?_)))|refine aZ ?_|refine ag ?_ ?_<;>intro _))
   all_goals(conv=>whnf)
   all_goals exact⟨(j+1,f',⟨(pR (cu zs 8 a 0 base) ym zs.code.length).1,zt,some (pR (cu zs 8 a 0 base) ym zs.code.length).2⟩,bl2),[(5,some 16),(6,some 17),(7,some 18)],⟨by show kG _ _ _ _ f' ((j+1)*g) _=Y;rw[hj1];exact hY,by show _<=(j+1)*g+f';rw[hj1];omega,by show(j+1)*g<=_;rw[hj1];exact hgb,by show j+1<=_;omega,z3.mono ai8,hB,hNZ.t,λv h=>by simp only[Option.some.injEq]at h;rw[<-h];exact sD (Int.natCast_nonneg _)⟩,by show c.slots-(j+1)*g<c.slots-j*g;rw[hj1,hbase];omega,rfl,aU,aU,λR w' h=>⟨⟨⟨by rw[hpl];exact h.1.1.1.1.1,by rw[hpl];exact h.1.1.1.1.2⟩,h.1.1.1.2⟩,h.1.1.2⟩⟩
  ·have hb:¬0<base:=λh=>by have:=hjb.2 h;omega
   have eV:ve base ym ⟨zs,zt,some a⟩=⟨(pR zs ym a).1,zt,some (pR zs ym a).2⟩:=by show(if 0<base then Ac (cu zs 8 a 0 base) zt ym zs.code.length else Ac zs zt ym a)=_;rw[if_neg hb];exact FH _ _ _ _
   rw[eV]at hY
   have z3:=z1.sum ym a
   have hpl:(pR zs ym a).1.ay=zs.ay:=sF _ _ _
   clear eV
   (repeat' ((conv=>whnf)<;>first|refine Bw ?_|(show @dR _ _ _;(first|refine cK (show¬a<0 by omega) ?_|refine cK aa ?_))|(show aC _ 136 ..;(refine dK [(4,.rows (ints bl2) 1 3)] 0 8 9 10 c zs dW [.lp 0 0 0 0,ak (yR ym),ak a] _ _ _ _ Tryz.call136 rfl rfl rfl (λR w' h=>trivial) (dU w F) (λR w' h b hb=>(h.2 b hb).1) (λw' ρ' F' h'=>Ef c zs ym hNN.m a ZP w' ρ' F' h') (λ_ _=> ?_)))|refine aZ ?_|refine ag ?_ ?_<;>intro _))
   all_goals(conv=>whnf)
   all_goals exact⟨(j+1,f',⟨(pR zs ym a).1,zt,some (pR zs ym a).2⟩,bl2),[(5,some 12),(6,some 13),(7,some 14)],⟨by show kG _ _ _ _ f' ((j+1)*g) _=Y;rw[hj1];exact hY,by show _<=(j+1)*g+f';rw[hj1];omega,by show(j+1)*g<=_;rw[hj1];exact hgb,by show j+1<=_;omega,z3.mono ai8,hB,hNZ.t,λv h=>by simp only[Option.some.injEq]at h;rw[<-h];exact sD ha0⟩,by show c.slots-(j+1)*g<c.slots-j*g;rw[hj1,hbase];omega,rfl,aU,aU,λR w' h=>⟨⟨⟨by rw[hpl];exact h.1.1.1.1,by rw[hpl];exact h.1.1.1.2⟩,h.1.1.2⟩,h.1.2⟩⟩
 rw[KW hlt]at hY
 subst hY
 rw[Nat.zero_mul,<-hgv]at hY0
 rcases ym with _|a
 ·(repeat' ((conv=>whnf)<;>first|refine Bw ?_|(show @dR _ _ _;(first|refine bA (show(-1:Int)<0 by decide) ?_|refine cK aa ?_))|(show aC _ 137 ..;(refine dK [(4,.rows (ints bl) 1 3)] 0 5 6 7 c ys (dP ys.ay) [.lp 0 0 0 0,ak x] _ _ _ _ Tryz.call137 rfl rfl rfl (λR w' h=>h.1.1.1) (dU w F) (λR w' h b hb=>(h.2 b hb).1) (λw' ρ' F' h'=>UW c ys x hn2 z0.ok.ay RO G_ w' ρ' F' h') (λu ⟨hu,hsu⟩=> ?_)))|refine aZ ?_))
  all_goals(conv=>whnf)
  have e:jl c.slots c.giant s.pl x (d.l.map aj.xs)=((zeroV ys u x).pl,(ys.code.length:Int)):=by unfold jl;rw[hY0];exact yJ hu
  exact eU _ _ _ _ (zeroV ys u x,(ys.code.length:Int)) [(1,some 9),(2,some 10),(3,some 11)] ⟨(congrArg Prod.fst e).symm,(congrArg Prod.snd e).symm,(z0.zero hsu x).ok⟩ aS rfl rfl rfl rfl aU (λR w' h=>⟨h.1.2,gQ h.1.1.1.2 h.2⟩)
 ·have ha0:=hNN.m a rfl
  (repeat' ((conv=>whnf)<;>first|refine Bw ?_|(show @dR _ _ _;(first|refine cK (show¬a<0 by omega) ?_|refine cK aa ?_))|refine aZ ?_))
  all_goals(conv=>whnf)
  have e:jl c.slots c.giant s.pl x (d.l.map aj.xs)=(ys.pl,a):=by unfold jl;rw[hY0];rfl
  exact eU _ _ _ _ (ys,a) [(1,some 5),(2,some 6),(3,some 7)] ⟨(congrArg Prod.fst e).symm,(congrArg Prod.snd e).symm,z0.ok⟩ aS rfl rfl rfl rfl aU (λR w' h=>⟨h.2,h.1.1.2⟩)
end
end Go.Proofs.YtgndjjdeopfdkaaGreat

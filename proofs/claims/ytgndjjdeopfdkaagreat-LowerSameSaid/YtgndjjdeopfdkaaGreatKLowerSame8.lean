import Derived.Shelf.Spec.SlicesGrow
import Derived.Test.YtgndjjdeopfdkaaGreatKLowerSame7
/- texts QG MI of the proof of LowerSameSaid -/
set_option maxHeartbeats 16000000
set_option maxRecDepth 20000
set_option linter.unusedVariables false
set_option linter.unusedSimpArgs false
namespace Go.Proofs.YtgndjjdeopfdkaaGreat
open Go.SX Go.RowKit
section
abbrev aln:DT:=(bS [0,1,5,6,9,10,11,12,13,14] (.alt 2 (.alt 3 (.alt 4 (bS [7,8,115,116,117,18] .done) (.one 15 (.alt 4 (bS [7,8,116,117,18] .done) (bS [116,104,7,8,117,18] .done)))) (.one 15 (.alt 3 (.alt 4 (bS [7,8,116,117,18] .done) (bS [116,104,7,8,117,18] .done)) (bS [116,103,104,7,8,117,18] .done)))) (.one 15 (.alt 2 (.alt 3 (.alt 4 (bS [7,8,116,117,18] .done) (bS [116,104,7,8,117,18] .done)) (bS [116,103,104,7,8,117,18] .done)) (bS [116,102,103,104,7,8,117,18] .done)))))
def Eg(p:World->Prop):bR where
 holds R w:=∃E:bR,E.holds R w/\∀R' w',E.holds R' w'->p w'
 stable:=λhR hw ⟨E,h1,h2⟩=>⟨E,E.stable hR hw h1,h2⟩
variable {R:Nat->Prop} {w:World}
theorem iO{p:World->Prop}(h:(Eg p).holds R w):p w:=by
 obtain⟨E,h1,h2⟩:=h
 exact h2 R w h1
def Xn(u:ax):bR:=Eg λw=>bE w u.base 1 (aZ u.xs)
def Xp(n:ak):bR:=(Xn n.az).and ((Xn n.data).and (Xn n.aQ))
abbrev D6(c:fT)(s:fu)(n:ak):bR:=((iQ s.aF).and (wJ c)).and (Xp n)
theorem CL{cx:Cx}(hP:cx.P=Tryz.prog){args:List SV}{H:Heap}{S:bR}{nx:Nat}{K:SV->Heap->bR->Nat->Prop}(θ:Map)(c:fT)(s:fu)(vl:List Int)(g:FuncId)(cells:List Value)(Tb:TypeId)(i:Nat)(f:Nat->Int)(E:bR)(sp:ax)(hn:c.aA<=4096)(hs:∀p∈s.aF,p.bF)(hl:s.aF.length<=1000000)(hi:c.di.l[i]? =some sp)(Py:sp.bF)(hb:∀x∈sp.xs,0<=x/\x<c.aA)(hff:∀e,e<sp.xs.length->i64 (f e))
 (hg:∀ar w,(callFunc g ar).run Tryz.prog w= .ok (.enter g ar) w)
 (hof:∀R w' b (e:Nat),e<sp.xs.length->w'.heap[b]? =some (.cells cells.toArray Tb (0,0))->E.holds R w'->Calls Tryz.prog g #[.int .i64 e,.pointer (some ⟨b,0,none⟩)] w' λen w''=>en= .returned (.int .i64 (f e))/\Ext w' w'')
 (hm:BM 0 θ (kC c s vl cells Tb)=true) (hin:lI θ H (kC c s vl cells Tb)) (h0:∃j,θ.app 0=some j) (h1:∃j,θ.app 1=some j) (ha:args=SV.xY θ.app [.lp 0 0 0 0,aC i,.fn (.func g) [] [.lp 5 0 0 0]])
 (hA:∀R w,S.holds R w->(((iQ s.aF).and (wJ c)).and E).holds R w) (G:Nat->Prop) (hG:∀R w,S.holds R w->∀b,G b->R b)
 (h:∀u:ax,u.xs=bU c.aA sp.xs f->u.bF->K (aC (aS s u).2) (yQ θ (kC c s vl cells Tb) H++Vj (BN 2 nx θ) (kC c (aS s u).1 vl cells Tb)) (S.and ((bX u).off G)) (nx+6)):aJ cx 69 args H S nx K:=by
 obtain⟨P,B,n,tab⟩:=cx
 subst hP
 refine Xv θ 2 6 (kC c s vl cells Tb) (((iQ s.aF).and (wJ c)).and E) [.lp 0 0 0 0,aC i,.fn (.func g) [] [.lp 5 0 0 0]] (λu:ax=>aC (aS s u).2) (λu=>kC c (aS s u).1 vl cells Tb) (λu=>bX u) (λu=>u.xs=bU c.aA sp.xs f/\u.bF) Tryz.call69 hm (Tp _ _ _ _ _) hin (λi hi=> ?_) ay ha hA G hG (λw ρ F h'=>ZX c s vl g cells Tb _ f E sp hn hs hl hi Py hb hff hg hof w ρ F h') (λu hu=>h u hu.1 hu.2)
 have:i=0\/i=1:=by omega
 rcases this with rfl|rfl
 ·obtain⟨j,hj⟩:=h0
  exact⟨j,_,hj,aj⟩
 ·obtain⟨j,hj⟩:=h1
  exact⟨j,_,hj,aj⟩
variable {s:fu} {u:ax}
theorem Nl{c:fT}{sl:List Int}{f:Nat->Int}{op a b:Int}(hu:u.xs=bU c.aA sl f)(hok:yC c (eH (aS s u).1 op a b (aS s u).2)):
 (eH (aS s u).1 op a b (aS s u).2).pl=(bI (bH c.aA s.pl sl f).1 op a b (bH c.aA s.pl sl f).2).1/\((aS s u).1.code.length:Int)=(bI (bH c.aA s.pl sl f).1 op a b (bH c.aA s.pl sl f).2).2/\yC c (eH (aS s u).1 op a b (aS s u).2):=by
 have e:=DK s u
 unfold bH
 rw[<-hu,<-e]
 exact⟨rfl,rfl,hok⟩
theorem Cv{G:Nat->Prop}(hu:((bX u).off G).holds R w):((Q6 s.aF (aS s u).1.aF).off G).holds R w:=Z7 s u hu
theorem yw(w:World)(b e:Nat)(v:Int)(T:TypeId)(h:w.heap[b]? =some (.cells [Value.int .i64 v].toArray T (0,0))):Calls Tryz.prog 132 #[.int .i64 e,.pointer (some ⟨b,0,none⟩)] w λen w'=>en= .returned (.int .i64 v)/\Ext w w':=by
 have hc:w.cell? ⟨b,0,none⟩=some (.int .i64 v):=by simp[World.cell?,h]
 refine fH Tryz.func132 [aC e,.c (.pointer (some ⟨b,0,none⟩))] ?_
 repeat' ((conv=>whnf)<;>first|refine F7 ?_|refine a_ ?_)
 all_goals(conv=>whnf)
 all_goals exact bZ (λ_ _ h=>h) (λ_=>rfl) rfl
theorem ZE(c:fT)(s:fu)(vl:List Int)(n:ak)(i:Nat)(sp:ax)(hN:wT c s vl)(h0:0<=n.a)(ha:n.a.toNat<vl.length)(hd:n.data.xs.length=1)(hds:n.data.bF)(hi:c.di.l[i]? =some sp)(Py:sp.bF)(hb:∀x∈sp.xs,0<=x/\x<c.aA)(w:World)(ρ:Nat->SX.Loc)(F:Nat->Prop)(h:qF w ρ F 2 5 (kG c s vl) (D6 c s n)):
 Calls Tryz.prog 30 (SV.dW ρ [.lp 0 0 0 0,.agg (vo n),aC i]).toArray w (pz w ρ F c s vl (bI (bH c.aA s.pl sp.xs (λ_=>n.data.xs.getD 0 0)).1 5 (vl.getD n.a.toNat 0) 0 (bH c.aA s.pl sp.xs (λ_=>n.data.xs.getD 0 0)).2)):=by
 have hcl:=hN.y9
 have hpl:=hN.yF
 have hv64:i64 (n.data.xs.getD 0 0):=by
  rw[List.getD_eq_getElem?_getD,List.getElem?_eq_getElem aa]
  exact hds.fits _ (List.getElem_mem _)
 generalize hv:n.data.xs.getD 0 0=v at*
 refine zzF Tryz.func30 (yZ 2 ρ) ρ [.lp 0 0 0 0,.agg (vo n),aC i] (kG c s vl) ((D6 c s n).and (l8 w F)) 5 h.abs ?_
 refine Wp.know (p:=∃a,n.data.base=some a) (λρ w' hw=>ae hw λR h=>aT (j:=0) (iO h.1.2.2.1) dS) ?_
 rintro⟨da,hda⟩
 repeat' ((conv=>whnf)<;>first|(show cO _ 1 ..;refine mV [] _ aln ?_ (h6:=List.Sublist.cons_cons _ (List.Sublist.cons _ (List.Sublist.cons_cons _ (List.nil_sublist _)))))|refine eU ?_|(show dn ..;refine aM da 0 hda rfl aa ?_)|(show gZ ..;(refine qQ (λR w' h=>by rw[<-hda];first|exact iO h.1.2.2.1|exact iO h.1.1.2.2.1) (j:=0) aa hv ?_))|refine FX ?_|(show rQ ..;refine uV ha ?_)|refine vV ?_|(show nC ..;refine iZ ?_)|(show aJ _ 69 ..;(refine CL rfl [(0,some 0),(1,some 1),(2,some 2),(3,some 3),(4,some 4),(5,some 6)] c s vl 132 [.int .i64 v] 3 i (λ_=>v) iK sp hN.aA.2 hN.ok.aF aa hi Py hb (λ_ _=>hv64) Tryz.call132 (λR w' b e _ h _=>yw w' b e v _ h) rfl fE ⟨_,rfl⟩ ⟨_,rfl⟩ rfl (λR w' h=>⟨h.1.1,trivial⟩) (iV w F) (λR w' h b hb=>(h.2 b hb).1) (λu hu iL=> ?_)))|(show aJ _ 68 ..;(refine uC [(0,some 0),(1,some 1),(2,some 9),(3,some 10),(4,some 11)] c (aS s u).1 vl iK [.lp 0 0 0 0,aC 5,aC (vl.getD n.a.toNat 0),aC 0,aC (aS s u).2] _ _ _ _ Tryz.call68 rfl fE ⟨_,rfl⟩ ⟨_,rfl⟩ rfl (λR w' h=>trivial) (iV w F) (λR w' h b hb=>(h.1.2 b hb).1) (λw' ρ' F' h'=>gQ c (aS s u).1 vl 5 (vl.getD n.a.toNat 0) 0 (aS s u).2 Fe w' ρ' F' h') (λ_ _=> ?_)))|refine bV ?_|refine And.intro ?_ ?_)
 all_goals(conv=>whnf)
 all_goals exact lH _ _ _ _ (eH (aS s u).1 5 (vl.getD n.a.toNat 0) 0 (aS s u).2,((aS s u).1.code.length:Int)) [(2,some 15),(3,some 16),(4,some 17)] (Nl hu (De (y_ hN.ok iL) _ _ _ _)) ay rfl rfl rfl rfl fE (λR w' h=>⟨h.1.1.2,Cv h.1.2⟩)
end
abbrev alG:DT:=(bS [0,1,2,3,4,5,6,7,8,9,10,11,12,13,14,15,16,17,118,119,120,121,22,123] .done)
theorem Xb(w:World)(b e:Nat)(n:ak)(T:TypeId)(he:e<n.data.xs.length)(hd:bE w n.data.base 1 (aZ n.data.xs))(h:w.heap[b]? =some (.cells n.cells.toArray T (0,0))):Calls Tryz.prog 71 #[.int .i64 e,.pointer (some ⟨b,0,none⟩)] w λen w'=>en= .returned (.int .i64 (n.data.xs.getD e 0))/\Ext w w':=by
 have hc:w.cell? ⟨b,7,none⟩=some n.data.val:=by simp[World.cell?,h,ak.cells]
 obtain⟨da,hda⟩:∃a,n.data.base=some a:=aT (j:=e) hd (by rw[aP];exact he)
 refine fH Tryz.func71 [aC e,.c (.pointer (some ⟨b,0,none⟩))] ?_
 repeat' ((conv=>whnf)<;>first|(show dn ..;refine aM da e hda rfl he ?_)|(show gZ ..;(first|refine A9 (λR w' h=>by show w'.cell? ((Addr.mk b 0 none).add 7)=_;rw[fG,Nat.zero_add,jE (h _ (iA hc)).2];exact hc) ?_|refine qQ (λR w' h=>by rw[<-hda];exact aH h hd) (j:=e) he rfl ?_))|refine a_ ?_)
 all_goals(conv=>whnf)
 all_goals exact bZ (λ_ _ h=>h) (λ_=>rfl) rfl
theorem acF(c:fT)(s:fu)(vl:List Int)(n:ak)(i:Nat)(sp:ax)(hN:wT c s vl)(hd:sp.xs.length<=n.data.xs.length)(hds:n.data.bF)(hi:c.di.l[i]? =some sp)(Py:sp.bF)(hb:∀x∈sp.xs,0<=x/\x<c.aA)(w:World)(ρ:Nat->SX.Loc)(F:Nat->Prop)(h:qF w ρ F 2 5 (kG c s vl) (D6 c s n)):
 Calls Tryz.prog 28 (SV.dW ρ [.lp 0 0 0 0,.agg (vo n),aC i]).toArray w (pz w ρ F c s vl (bI (bH c.aA s.pl sp.xs (λe=>n.data.xs.getD e 0)).1 2 0 0 (bH c.aA s.pl sp.xs (λe=>n.data.xs.getD e 0)).2)):=by
 have hcl:=hN.y9
 have hpl:=hN.yF
 have hv64:∀e,e<sp.xs.length->i64 (n.data.xs.getD e 0):=λe he=>by
  rw[List.getD_eq_getElem?_getD,List.getElem?_eq_getElem aa]
  exact hds.fits _ (List.getElem_mem _)
 refine zzF Tryz.func28 (yZ 2 ρ) ρ [.lp 0 0 0 0,.agg (vo n),aC i] (kG c s vl) ((D6 c s n).and (l8 w F)) 5 h.abs ?_
 repeat' ((conv=>whnf)<;>first|(show aJ _ 69 ..;(refine CL rfl [(0,some 0),(1,some 1),(2,some 2),(3,some 3),(4,some 4),(5,some 5)] c s vl 71 n.cells 41 i (λe=>n.data.xs.getD e 0) (Xp n) sp hN.aA.2 hN.ok.aF aa hi Py hb hv64 Tryz.call71 (λR w' b e he hh hA=>Xb w' b e n _ aa (iO hA.2.1) hh) rfl fE ⟨_,rfl⟩ ⟨_,rfl⟩ rfl (λR w' h=>h.1) (iV w F) (λR w' h b hb=>(h.2 b hb).1) (λu hu iL=> ?_)))|(show aJ _ 68 ..;(refine uC [(0,some 0),(1,some 1),(2,some 8),(3,some 9),(4,some 10)] c (aS s u).1 vl iK [.lp 0 0 0 0,aC 2,aC 0,aC 0,aC (aS s u).2] _ _ _ _ Tryz.call68 rfl fE ⟨_,rfl⟩ ⟨_,rfl⟩ rfl (λR w' h=>trivial) (iV w F) (λR w' h b hb=>(h.1.2 b hb).1) (λw' ρ' F' h'=>gQ c (aS s u).1 vl 2 0 0 (aS s u).2 Fe w' ρ' F' h') (λ_ _=> ?_)))|refine a_ ?_)
 all_goals(conv=>whnf)
 all_goals exact lH _ _ _ _ (eH (aS s u).1 2 0 0 (aS s u).2,((aS s u).1.code.length:Int)) [(2,some 14),(3,some 15),(4,some 16)] (Nl hu (De (y_ hN.ok iL) _ _ _ _)) ay rfl rfl rfl rfl fE (λR w' h=>⟨h.1.1.2,Cv h.1.2⟩)
def inpV(s:fu)(lo hi:Int)(sp:ax):fu:=⟨s.inputs++[⟨lo,hi,sp⟩],s.aF,s.code⟩
def kN(s:dL)(lo hi:Int)(sl:List Int):dL×Int:=bI ⟨s.inputs++[⟨lo,hi,sl⟩],s.aF,s.code⟩ 1 0 0 s.inputs.length
theorem adP(c:fT)(s:fu)(vl:List Int)(n:ak)(i:Nat)(sp:ax)(hN:wT c s vl)(hlo:i64 n.lo)(hhi:i64 n.hi)(hi:c.di.l[i]? =some sp)(w:World)(ρ:Nat->SX.Loc)(F:Nat->Prop)(h:qF w ρ F 2 5 (kG c s vl) (D6 c s n)):
 Calls Tryz.prog 27 (SV.dW ρ [.lp 0 0 0 0,.agg (vo n),aC i]).toArray w (pz w ρ F c s vl (kN s.pl n.lo n.hi sp.xs)):=by
 have hcl:=hN.y9
 have hpl:=hN.yF
 have hil:=hN.aaK
 refine zzF Tryz.func27 (yZ 2 ρ) ρ [.lp 0 0 0 0,.agg (vo n),aC i] (kG c s vl) ((D6 c s n).and (l8 w F)) 5 h.abs ?_
 have akR:=(List.getElem?_eq_some_iff.1 hi).1
 have hrow:(bA c.di.l)[i]? =some [sp.val]:=by unfold bA;rw[List.getElem?_map,hi];rfl
 refine Wp.know (p:=∃a,c.di.base=some a) (λρ w' hw=>ae hw λR h=>aT (j:=i) (bf h.1.1.2.1) (by rw[bz];exact akR)) ?_
 rintro⟨sa,hsa⟩
 repeat' ((conv=>whnf)<;>first|(show cO _ 1 ..;refine mV [23] _ alG ?_ (h6:=List.Sublist.cons_cons _ (List.Sublist.cons_cons _ (List.Sublist.cons_cons _ (List.Sublist.cons _ (List.Sublist.refl _))))))|refine eU ?_|(show dn ..;refine aM sa i hsa rfl akR ?_)|(show gZ ..;(refine bN (λR w' h=>by rw[<-hsa];exact bf h.1.1.2.1) _ _ hrow rfl ?_))|(show Gn ..;(refine mg (by rw[lJ];exact Nat.le_refl _) ?_))|(show jv ..;(refine fU (by show(s.inputs.length+1)*40<=140737488355328;omega) ?_))|(show qN _ ((_,.rows (List.take s.inputs.length _++_) _ _)::_) _ _ _;refine uM (ys:=mq (s.inputs++[nN.mk n.lo n.hi sp])) (m:=(s.inputs++[nN.mk n.lo n.hi sp]).length) ?_ (afU s.inputs (nN.mk n.lo n.hi sp)) (by show s.inputs.length+1=_;rw[List.length_append];rfl))|refine a_ ?_)
 have hz:(((s.inputs++[nN.mk n.lo n.hi sp]).length:Nat):Int)-1=s.inputs.length:=by rw[List.length_append,List.length_singleton];omega
 repeat' ((conv=>whnf)<;>first|(show fF ..;(refine IM (y:=(s.inputs.length:Int)) (by rw[hz];exact IntWalk.i64_in _ ⟨by omega,by omega⟩) ?_))|(show aJ _ 68 ..;(refine uC [(0,some 0),(1,some 1),(2,some 7),(3,some 3),(4,some 4)] c (inpV s n.lo n.hi sp) vl iK [.lp 0 0 0 0,aC 1,aC 0,aC 0,aC s.inputs.length] _ _ _ _ Tryz.call68 rfl fE ⟨_,rfl⟩ ⟨_,rfl⟩ rfl (λR w' h=>trivial) (iV w F) (λR w' h b hb=>(h.2 b hb).1) (λw' ρ' F' h'=>gQ c (inpV s n.lo n.hi sp) vl 1 0 0 s.inputs.length (by show s.code.length<=_;omega) w' ρ' F' h') (λ_ _=> ?_)))|refine a_ ?_)
 all_goals(conv=>whnf)
 all_goals exact lH _ _ _ _ (eH (inpV s n.lo n.hi sp) 1 0 0 s.inputs.length,(s.code.length:Int)) [(2,some 10),(3,some 11),(4,some 12)] ⟨by unfold kN bI eH inpV fu.pl;simp[nN.pl],rfl,⟨hN.ok.aF,λx hx=>by
  rcases List.mem_append.1 hx with hx|hx
  ·exact hN.ok.inputs x hx
  ·rw[List.mem_singleton.1 hx];exact⟨List.mem_of_getElem? hi,hlo,hhi⟩⟩⟩ ay rfl rfl rfl rfl fE (λR w' h=>⟨h.1.2,vP _ _ _⟩)
section
def yU(c:fT)(s:fu)(vl:List Int)(d v i2 i3 i4:Nat):Heap:=[(d,.box [aC c.aA,.os i2 s.inputs.length,.os i3 s.aF.length,.os i4 s.code.length,aC 0,.c (.slice none 0 0),.c (.bool c.giant),.c c.shapes.val,.c c.di.val,.os v vl.length] 71),(v,.rows (aZ vl) 1 3),(i2,.rows (mq s.inputs) 3 92),(i3,.rows (bA s.aF) 1 32),(i4,.rows (iX s.code) 5 43)]
abbrev Ph(d v i2 i3 i4:Nat):Map:=[(0,some d),(1,some v),(2,some i2),(3,some i3),(4,some i4)]
variable {cx:Cx} {f:FuncId} {args:List SV} {S:bR} {nx:Nat} {K:SV->Heap->bR->Nat->Prop}
theorem dM{α:Type}(rest:Heap)(d v i2 i3 i4:Nat)(c:fT)(s:fu)(vl:List Int)(A:bR)(Ef:List SV)(val:α->Value)(s':α->fu)(D:α->bR)(p:α->Prop)
 (hf:∀ar w,(callFunc f ar).run cx.P w= .ok (.enter f ar) w) (hm:BM 0 (Ph d v i2 i3 i4) (kG c s vl)=true) (hl:yQ (Ph d v i2 i3 i4) (kG c s vl) (rest++yU c s vl d v i2 i3 i4)=rest)
 (ha:args=SV.xY (Ph d v i2 i3 i4).app Ef) (hA:∀R w,S.holds R w->A.holds R w) (G:Nat->Prop) (hG:∀R w,S.holds R w->∀b,G b->R b)
 (hc:∀w ρ F,qF w ρ F 2 5 (kG c s vl) A->Calls cx.P f (SV.dW ρ Ef).toArray w (Dy w ρ F (λx=> .c (val x)) (λx=>kG c (s' x) vl) D p))
 (h:∀x,p x->K (.c (val x)) (rest++yU c (s' x) vl d v (nx+2) (nx+3) (nx+4)) (S.and ((D x).off G)) (nx+5)):aJ cx f args (rest++yU c s vl d v i2 i3 i4) S nx K:=by
 have hin:∀q∈yU c s vl d v i2 i3 i4,q∈rest++yU c s vl d v i2 i3 i4:=λq hq=>List.mem_append.2 (.inr hq)
 refine uC (Ph d v i2 i3 i4) c s vl A Ef (λx=> .c (val x)) s' D p hf hm ⟨hin _ aj,hin _ aj,hin _ aj,hin _ aj,hin _ aj,trivial⟩ ⟨_,rfl⟩ ⟨_,rfl⟩ ha hA G hG hc (λx hx=> ?_)
 rw[hl]
 exact h x hx
theorem Wd{H:Heap}{K':SV->Heap->bR->Nat->Prop}(hk:aJ cx f args H S nx K')(h:∀v H' S' nx',K' v H' S' nx'->∃H2,H2.Sublist H'/\K v H2 S' nx'):aJ cx f args H S nx K:=by
 rw[fZ]at hk|-
 refine⟨hk.1,λρ w hw=>(hk.2 ρ w hw).mono ?_⟩
 rintro e w' ⟨v,ρ',H',S',nx',h1,h2,h3,h4,h5,h6⟩
 obtain⟨H2,g1,g2⟩:=h v H' S' nx' h6
 exact⟨v,ρ',H2,S',nx',h1,h2,h3,h4,h5.sub g1 (λ_ _ h=>h),g2⟩
theorem ru(hP:cx.P=Tryz.prog)(rest:Heap)(ib d v i2 i3 i4:Nat)(c:fT)(s:fu)(vl:List Int)(g:FuncId)(cells:List Value)(Tb:TypeId)(i:Nat)(f:Nat->Int)(E:bR)(sp:ax)(hn:c.aA<=4096)(hs:∀p∈s.aF,p.bF)(hl:s.aF.length<=1000000)(hi:c.di.l[i]? =some sp)(Py:sp.bF)(hb:∀x∈sp.xs,0<=x/\x<c.aA)(hff:∀e,e<sp.xs.length->i64 (f e))
 (hg:∀ar w,(callFunc g ar).run Tryz.prog w= .ok (.enter g ar) w)
 (hof:∀R w' b (e:Nat),e<sp.xs.length->w'.heap[b]? =some (.cells cells.toArray Tb (0,0))->E.holds R w'->Calls Tryz.prog g #[.int .i64 e,.pointer (some ⟨b,0,none⟩)] w' λen w''=>en= .returned (.int .i64 (f e))/\Ext w' w'')
 (hm:BM 0 (Ph d v i2 i3 i4++[(5,some ib)]) (kC c s vl cells Tb)=true) (hls:yQ (Ph d v i2 i3 i4++[(5,some ib)]) (kC c s vl cells Tb) ((ib,.box (cs cells) Tb)::(rest++yU c s vl d v i2 i3 i4))=rest) (ha:args=SV.xY (Ph d v i2 i3 i4++[(5,some ib)]:Map).app [.lp 0 0 0 0,aC i,.fn (.func g) [] [.lp 5 0 0 0]])
 (hA:∀R w,S.holds R w->(((iQ s.aF).and (wJ c)).and E).holds R w) (G:Nat->Prop) (hG:∀R w,S.holds R w->∀b,G b->R b)
 (h:∀u:ax,u.xs=bU c.aA sp.xs f->u.bF->K (aC (aS s u).2) (rest++yU c (aS s u).1 vl d v (nx+2) (nx+3) (nx+4)) (S.and ((bX u).off G)) (nx+6)):aJ cx 69 args ((ib,.box (cs cells) Tb)::(rest++yU c s vl d v i2 i3 i4)) S nx K:=by
 have hin:∀q∈yU c s vl d v i2 i3 i4,q∈(ib,b_.box (cs cells) Tb)::(rest++yU c s vl d v i2 i3 i4):=λq hq=>List.mem_cons_of_mem _ (List.mem_append.2 (.inr hq))
 refine Wd (K':=λw H' S' nx'=>∃u:ax,(u.xs=bU c.aA sp.xs f/\u.bF)/\w=aC (aS s u).2/\H'=rest++Vj (BN 2 nx (Ph d v i2 i3 i4++[(5,some ib)])) (kC c (aS s u).1 vl cells Tb)/\S'=S.and ((bX u).off G)/\nx'=nx+6) (CL hP (Ph d v i2 i3 i4++[(5,some ib)]) c s vl g cells Tb i f E sp hn hs hl hi Py hb hff hg hof hm ⟨hin _ aj,hin _ aj,hin _ aj,hin _ aj,hin _ aj,Me List.mem_cons_self,trivial⟩ ⟨_,rfl⟩ ⟨_,rfl⟩ ha hA G hG (λu h1 h2=>⟨u,⟨h1,h2⟩,rfl,by rw[hls],rfl,rfl⟩)) ?_
 rintro w H' S' nx' ⟨u,⟨h1,h2⟩,rfl,rfl,rfl,rfl⟩
 refine⟨_,?_,h u h1 h2⟩
 have e:Vj (BN 2 nx (Ph d v i2 i3 i4++[(5,some ib)])) (kC c (aS s u).1 vl cells Tb)=yU c (aS s u).1 vl d v (nx+2) (nx+3) (nx+4)++[(nx+5,(b_.box (cs cells) Tb).ren (BN 2 nx (Ph d v i2 i3 i4++[(5,some ib)])))]:=rfl
 rw[e,<-List.append_assoc]
 exact List.sublist_append_left _ _
end
section
theorem aho{xs:List Int}{j:Nat}{v:Int}{K:Value->Prop}(hj:j<xs.length)(e:xs.getD j 0=v)(h:K (.int .i64 v)):rQ (aZ xs) j 0 K:=by
 subst e;exact uV hj h
structure rE(c:fT)(k:Nat)(s:fu):Prop where
 ok:yC c s
 yF:s.aF.length<=k
 y9:s.code.length<=k
variable {c:fT} {k:Nat} {s:fu}
theorem rE.lay(h:rE c k s)(op a b x:Int):rE c (k+1) (eH s op a b x):=⟨De h.ok _ _ _ _,Nat.le_succ_of_le h.yF,by show(s.code++_).length<=_;rw[List.length_append,List.length_singleton];have:=h.y9;omega⟩
variable {u:ax}
theorem rE.plain(h:rE c k s)(hu:u.bF):rE c (k+1) (aS s u).1:=⟨y_ h.ok hu,by have:=Z6 s u;have:=h.yF;omega,by rw[uf];exact Nat.le_succ_of_le h.y9⟩
theorem rE.zero(h:rE c k s)(hu:u.bF)(x:Int):rE c (k+2) (zeroV s u x):=(h.plain hu).lay _ _ _ _
variable {R:Nat->Prop} {w:World}
theorem t_(h:(iQ s.aF).holds R w)(hu:(bX u).holds R w):(iQ (aS s u).1.aF).holds R w:=by
 unfold aS
 split
 ·exact h
 ·exact aaC h hu
theorem lY{old:List ax}{G:Nat->Prop}(h:((Q6 old s.aF).off G).holds R w)(hu:((bX u).off G).holds R w):((Q6 old (aS s u).1.aF).off G).holds R w:=by
 unfold aS
 split
 ·exact h
 ·intro v hv
  rcases List.mem_append.1 hv with hv|hv
  ·exact h v hv
  ·rw[List.mem_singleton.1 hv];exact .inr hu
theorem sU(s:fu)(op a b k:Int):bI s.pl op a b k=((eH s op a b k).pl,(s.code.length:Int)):=rfl
theorem oU{n:Nat}{sl:List Int}{f:Nat->Int}(hu:u.xs=bU n sl f):bH n s.pl sl f=((aS s u).1.pl,(aS s u).2):=by
 unfold bH
 rw[<-hu,<-DK]
theorem Qg{n:Nat}{x:Int}(hu:u.xs=List.replicate n 0):vB n s.pl x=((zeroV s u x).pl,(s.code.length:Int)):=by
 unfold vB
 rw[<-hu,<-DK]
 simp only[sU,uf]
 rfl
end
open Go.Shelf
def Xa:Go.Shelf.Ren:=⟨λ|4=>155|n=>n,λ|0=>0|3=>3|4=>4|9=>9|20=>20|22=>32|25=>3|n=>n,λn=>n⟩
theorem agU:Go.Proofs.Lays8.n4 Tryz.prog Xa:={
 mixed:=by kernel_rfl
 f4:=⟨ "slices.Grow[[]int,int]",by rfl,Tryz.func155.trans (congrArg some bg)⟩
 t0:=Tryz.underlying0
 a0:=Tryz.isAgg0
 z0:=Tryz.sizeOf0
 v0:=Tryz.zeroValue0
 t3:=Tryz.underlying3
 a3:=Tryz.isAgg3
 z3:=Tryz.sizeOf3
 v3:=Tryz.zeroValue3
 t4:=Tryz.underlying4
 a4:=Tryz.isAgg4
 z4:=Tryz.sizeOf4
 v4:=Tryz.zeroValue4
 t9:=Tryz.underlying9
 a9:=Tryz.isAgg9
 z9:=Tryz.sizeOf9
 v9:=Tryz.zeroValue9
 t20:=Tryz.underlying20
 a20:=Tryz.isAgg20
 z20:=Tryz.sizeOf20
 v20:=Tryz.zeroValue20
 t22:=Tryz.underlying32
 a22:=Tryz.isAgg32
 z22:=Tryz.sizeOf32
 v22:=Tryz.zeroValue32
}
theorem aex(w:World)(x:Int)(n:Nat)(hx:x=n)(h0:0<n)(hn:n<=1000000000):
 Calls Tryz.prog 155 #[.slice none 0 0,.int .i64 x] w λe w'=>∃v,e= .returned v/\Ext w w'/\je w w' v 1 3 []:=by
 subst hx
 have hi:∃i,Tryz.prog.info? 3=some i/\i.zero=some (.int .i64 0)/\i.size=1/\i.bytes=8:=by
  have h:(Tryz.prog.info? 3).map (λi=>(i.zero,i.size,i.bytes))=some (some (.int .i64 0),1,8):=by kernel_rfl
  cases hi:Tryz.prog.info? 3 with
  |none=>rw[hi]at h;cases h
  |some i=>
   rw[hi]at h
   simp only[Option.map_some,Option.some.injEq,Prod.mk.injEq]at h
   exact⟨i,rfl,h⟩
 obtain⟨i,h1,h2,h3,h4⟩:=hi
 refine(Any8.slices_Grow_grow agU i (.int .i64 0) h1 h2 aa none 0 0 n [] w (Nat.le_refl _) aa (by rw[h4];omega) aa aI (λ_=>rfl) (λa h=>by cases h)).mono ?_
 rintro e w' ⟨rfl,rfl⟩
 refine⟨_,rfl,(Ext.trans (show Ext w w.drew from⟨rfl,rfl,rfl,Nat.le_refl _,λ_ _=>rfl⟩) (Ke w.drew _)),⟨some ⟨w.heap.size,0,none⟩,_⟩,rfl,λb=>b=w.heap.size,λb hb=>by omega,by simp,Nat.zero_le _,.inr ⟨w.heap.size,0,_,rfl,λ_=>Iff.rfl,oP w.drew _,?_,?_⟩⟩
 ·have:=grownCap_le w (0+n) 0 3
  show 0+grownCap w (0+n) 0 3*1<=_
  have e:Xa.t 25=3:=rfl
  rw[e]
  simp[Builtin.zeroCells,Value.cells]
  omega
 ·intro i r h
  cases h
theorem ZF(w:World)(a:Addr)(cap:Nat)(u v:ax)(hr:bE w (some a) 1 [[u.val],[v.val]])(hu:u.ok w)(hv:v.ok w)(h0:0<u.xs.length+v.xs.length):
 Calls Tryz.prog 129 #[.slice (some a) 2 cap] w λe w'=>∃x,e= .returned x/\Ext w w'/\je w w' x 1 3 (aZ (u.xs++v.xs)):=by
 obtain⟨ub,uc,us⟩:=u
 obtain⟨vb,vc,vs⟩:=v
 obtain⟨hu,_,_,hfu⟩:=hu
 obtain⟨hv,_,_,hfv⟩:=hv
 simp only[ax.val]at*
 have eu:=aP us
 have ev:=aP vs
 refine fH Tryz.func129 [.c (.slice (some a) 2 cap)] ?_
 repeat' ((conv=>whnf)<;>first|refine a_ ?_)
 refine Wp.rounds 3 ?_
 repeat' ((conv=>whnf)<;>first|refine AO ?_|refine zP ?_|(show aJ _ 155 ..;refine jy (f:=155) Tryz.call155 1 3 (λ_:Unit=>[]) (λ_=>True) (λρ w' hw=>(aex w' _ (us.length+vs.length) aa h0 aa).mono (λe w2 h=>⟨(),trivial,h⟩)) (λ_ _=> ?_))|refine a_ ?_|refine ag ?_ ?_<;>intro _)
 refine Wp.rounds 3 ?_
 have nil:∀{l:List Int},bE w none 1 (aZ l)->l=[]:=λ{l} h=>List.eq_nil_of_length_eq_zero (by
  rcases h with h|⟨a,h,_⟩
  ·have:=congrArg List.length h
   rwa[aP]at this
  ·cases h)
 have e:List.take (([]:List (List Value)).length+(aZ us).length) (List.take ([]:List (List Value)).length []++aZ us)=aZ us:=by simp
 cases ub<;>cases vb
 ·have:=nil hu
  subst this
  have:=nil hv
  subst this
  exact absurd h0 ay
 ·have:=nil hu
  subst this
  repeat' ((conv=>whnf)<;>first|refine AO ?_|refine zP ?_|(show tV ..;refine kF (aP _) (λR w' h=>aH h hv) kJ ?_)|refine FW ?_|refine Fq ?_|refine a_ ?_|refine ag ?_ ?_<;>intro _)
  all_goals(conv=>whnf)
  exact gT (xs:=aZ ([]++vs)) (λ_ _ h=>h) rfl (by rw[List.nil_append];exact .head _) Ar
 ·have:=nil hv
  subst this
  repeat' ((conv=>whnf)<;>first|refine AO ?_|refine zP ?_|(show tV ..;refine kF (aP _) (λR w' h=>aH h hu) kJ ?_)|refine FW ?_|refine Fq ?_|refine a_ ?_|refine ag ?_ ?_<;>intro _)
  all_goals(conv=>whnf)
  exact gT (xs:=aZ (us++[])) (λ_ _ h=>h) rfl (by rw[List.append_nil us,e,List.append_nil (aZ us)];exact .head _) Ar
 ·repeat' ((conv=>whnf)<;>first|refine AO ?_|refine zP ?_|(show tV ..;(first|refine kF (aP us) (λR w' h=>aH h hu) kJ ?_|refine kF (aP vs) (λR w' h=>aH h hv) kJ ?_))|refine FW ?_|refine Fq ?_|refine a_ ?_|refine ag ?_ ?_<;>intro _)
  all_goals(conv=>whnf)
  exact gT (xs:=aZ (us++vs)) (λ_ _ h=>h) rfl (by rw[e,show aZ (us++vs)=aZ us++aZ vs by simp[aZ]];exact .head _) Ar
section
abbrev iR:=SX.Loc×List Int
def Nj(p:iR):List Value:=[.slice p.1.base p.2.length p.1.cap]
def iM(L:List iR):List (List Value):=L.map Nj
def nK(L:List iR):List zi:=L.map λp=>(p.1,p.2.map (Value.int .i64))
def DIs(n:Nat)(p:iR):Prop:=(p.1=⟨none,0⟩/\p.2=[])\/((∃b off,p.1.base=some ⟨b,off,none⟩)/\p.2.length=n/\n<=p.1.cap)
structure DOk(n:Nat)(L:List iR):Prop where
 len:L.length=n
 each:∀p∈L,DIs n p
def nu(n:Nat)(D:List (List Int))(s f w:Int):List (List Int):=
 if w=0 then D else D.set ((f-s+n)%n).toNat ((if D.getD ((f-s+n)%n).toNat []=[]then List.replicate n 0 else D.getD ((f-s+n)%n).toNat []).set s.toNat w)
def Ct(n:Nat)(fr row:List Int)(s:Int)(D:List (List Int))(k:Nat):List (List Int):=(List.range k).foldl (λD i=>nu n D s (fr.getD i 0) (row.getD i 0)) D
def pQ(n:Nat)(rows:List (List Int))(fr to:List Int)(o:Nat):List (List Int):=(List.range o).foldl (λD o=>Ct n fr (rows.getD o []) (to.getD o 0) D fr.length) (List.replicate n [])
theorem Yg(n:Nat)(fr row:List Int)(s:Int)(D:List (List Int))(k:Nat):Ct n fr row s D (k+1)=nu n (Ct n fr row s D k) s (fr.getD k 0) (row.getD k 0):=by simp[Ct,List.range_succ]
theorem VJ(n:Nat)(rows:List (List Int))(fr to:List Int)(o:Nat):pQ n rows fr to (o+1)=Ct n fr (rows.getD o []) (to.getD o 0) (pQ n rows fr to o) fr.length:=by simp[pQ,List.range_succ]
theorem He(L:List iR):(iM L).length=L.length:=by simp[iM]
variable {L:List iR} {d:Nat}
theorem tq{p:iR}(h:L[d]? =some p):(iM L)[d]? =some (Nj p):=by simp[iM,h]
theorem H8{p:iR}(h:L[d]? =some p):(nK L)[d]? =some (p.1,p.2.map (Value.int .i64)):=by simp[nK,h]
theorem yJ(L:List iR)(d:Nat)(p:iR):iM (L.set d p)=(iM L).set d (Nj p):=by simp[iM,List.map_set]
theorem Ic(L:List iR)(d:Nat)(p:iR):nK (L.set d p)=(nK L).set d (p.1,p.2.map (Value.int .i64)):=by simp[nK,List.map_set]
theorem DOk.set{n d:Nat}{L:List iR}{p:iR}(h:DOk n L)(hp:DIs n p):DOk n (L.set d p):=⟨by rw[List.length_set];exact h.len,λq hq=>by
 rcases List.mem_or_eq_of_mem_set hq with hq|hq
 ·exact h.each q hq
 ·rw[hq];exact hp⟩
def Cb(n:Nat):List iR:=List.replicate n (⟨none,0⟩,[])
theorem ahs(n:Nat):DOk n (Cb n):=⟨by simp[Cb],λp hp=> .inl Ns⟩
theorem Vy(n:Nat):(Cb n).map Prod.snd=List.replicate n []:=by simp[Cb]
theorem Ru(n:Nat):iM (Cb n)=List.replicate n [.slice none 0 0]:=by simp[iM,Cb,Nj]
theorem Vu(n:Nat):nK (Cb n)=List.replicate n (⟨none,0⟩,[]):=by simp[nK,Cb]
theorem H6{p:iR}(h:L[d]? =some p):(L.map Prod.snd).getD d []=p.2:=by simp[List.getD,h]
variable {s f w:Int}
theorem afC{n:Nat}{p:iR}{l:SX.Loc}(hd:L[d]? =some p)(hp:p.2=[])(hw:w≠0)(hdd:(f-s+n)%n=d):(L.set d (l,(List.replicate n 0).set s.toNat w)).map Prod.snd=nu n (L.map Prod.snd) s f w:=by
 rw[nu,if_neg hw,hdd,Int.toNat_natCast,H6 hd,if_pos hp,List.map_set]
theorem agl{n:Nat}{p:iR}(hd:L[d]? =some p)(hp:p.2≠[])(hw:w≠0)(hdd:(f-s+n)%n=d):(L.set d (p.1,p.2.set s.toNat w)).map Prod.snd=nu n (L.map Prod.snd) s f w:=by
 rw[nu,if_neg hw,hdd,Int.toNat_natCast,H6 hd,if_neg hp,List.map_set]
theorem amK{n:Nat}(h:0<=s/\s<n)(hf:0<=f/\f<n):∃d:Nat,(f-s+n)%n=d/\d<n/\0<=f-s+n:=by
 have h1:0<=(f-s+n)%n:=Int.emod_nonneg _ aa
 have h2:(f-s+n)%n<n:=Int.emod_lt_of_pos _ aa
 exact⟨((f-s+n)%n).toNat,by omega,by omega,by omega⟩
variable {t:TypeId} {ti:TI} {ox oy:Operand} {K:SV->Prop}
theorem ahU{P:Program}(h:lu P t=some ti)(hk:ti.ai=1)(hK:K (.c (.bool true))):mi P (do eqGuard .eql t ox oy (.slice none 0 0) (.slice none 0 0);binOp .eql t (.slice none 0 0) (.slice none 0 0)) K:=ji h hk hK
theorem ajO{P:Program}(h:lu P t=some ti)(hk:ti.ai=1){base:Option Addr}{a:Addr}{len cap:Nat}(e:base=some a)(hK:K (.c (.bool false))):mi P (do eqGuard .eql t ox oy (.slice base len cap) (.slice none 0 0);binOp .eql t (.slice base len cap) (.slice none 0 0)) K:=by
 subst e;exact ji h hk hK
end
section
def wm(x:aY):bR where
 holds R w:=(f_ x.base 1 (bA x.l)).holds R w/\∀u∈x.l,(bX u).holds R w
 stable:=λhR hw h=>⟨(f_ _ _ _).stable hR hw h.1,λu hu=>(bX u).stable hR hw (h.2 u hu)⟩
structure BO(D:List (List Int))(x:aY):Prop where
 rows:x.l.map ax.xs=D
 bF:∀u∈x.l,u.bF
 room:x.l.length<=x.cap
def afT(w:World)(D:List (List Int))(er:Int):Ending->World->Prop:=λe w'=>∃x:aY,BO D x/\e= .returned (.tuple #[x.val,.int .i64 er])/\Ext w w'/\(wm x).holds (λb=>w.heap.size<=b/\b<w'.heap.size) w'
def abK(n:Nat)(x:aY):Prop:=∀u∈x.l,(u.xs=[]/\u.base=none)\/u.xs.length=n
def tu(w:World)(n:Nat)(D:List (List Int))(er:Int):Ending->World->Prop:=λe w'=>∃x:aY,(BO D x/\abK n x)/\e= .returned (.tuple #[x.val,.int .i64 er])/\Ext w w'/\(wm x).holds (λb=>w.heap.size<=b/\b<w'.heap.size) w'
variable {w:World}
theorem tu.post{w':World}{n:Nat}{D:List (List Int)}{er:Int}{e:Ending}(h:tu w n D er e w'):afT w D er e w':=by
 obtain⟨x,h1,h2⟩:=h
 exact⟨x,h1.1,h2⟩
def Bd(rows:List (List Int))(fr to:List Int)(aA:Int):Prop:=1<=aA/\aA<=4096/\rows.length=to.length/\lG fr aA=true/\lG to aA=true/\∀r∈rows,r.length=fr.length
variable {B:Base} {H:Heap} {S:bR} {nx:Nat}
theorem aaz{n:Nat}(hb:∀R w',S.holds R w'->(aU B.w0).holds R w')(hw0:B.w0=w):jS B (.xg [.c (.slice none 0 0),aC 3]) H S nx (tu w n [] 3):=by
 subst hw0
 refine dK λρ w' hw=>⟨⟨none,0,[]⟩,⟨⟨rfl,λ_ h=>bT,Nat.le_refl _⟩,λ_ h=>bT⟩,rfl,bG hw hb,⟨⟨λ_ h=>bT,.inl rfl⟩,λ_ h=>by cases h⟩⟩
theorem wL{l:List Int}{aA:Int}(h:lG l aA=true):(∀x∈l,0<=x/\x<aA)/\l.Nodup:=by simpa[lG]using h
def p_(p:iR):ax:=⟨p.1.base,p.1.cap,p.2⟩
theorem afw{i g n m:Nat}{L:List iR}(hb:∀R w',S.holds R w'->(aU B.w0).holds R w')(hw0:B.w0=w)(hL:DOk n L)(hf:∀p∈L,∀x∈p.2,i64 x)(hn:n<=1000000)(hm:m=n)(hi:(i,b_.rows (iM L) 1 32)∈H)(hg:(g,b_.ext (o_ 3 (nK L)))∈H):
 jS B (.xg [.os i m,aC 0]) H S nx (tu w n (L.map Prod.snd) 0):=by
 subst hw0 hm
 refine dK λρ w' hw=> ?_
 have hn1:=fI hw hb hi
 have hsh:iM L=bA (L.map p_):=by simp[iM,bA,Nj,p_,ax.val]
 rw[hsh]at hn1
 obtain⟨base,cap,e,h1,h2⟩:∃base cap,(SV.os i (bA (L.map p_)).length).rf ρ= .slice base (L.map p_).length cap/\(L.map p_).length<=cap/\(f_ base 1 (bA (L.map p_))).holds (λb=>B.w0.heap.size<=b/\b<w'.heap.size) w':=by
  obtain⟨base,cap,e,h1⟩:=ig hn1
  obtain⟨lc,e2,F,hF,hr,hcap,_⟩:=hn1
  rw[e2]at e
  simp only[Value.slice.injEq]at e
  obtain⟨e3,_,e4⟩:=e
  refine⟨base,cap,?_,?_,h1⟩
  ·rw[e2,e3,e4,bz]
  ·rw[<-e4];simpa[bz]using hcap
 have hlen:(bA (L.map p_)).length=m:=by rw[bz,List.length_map,hL.len]
 rw[hlen]at e
 refine⟨⟨base,cap,L.map p_⟩,⟨⟨by simp[p_],λu hu=> ?_,h1⟩,λu hu=> ?_⟩,?_,bG hw hb,h2,λu hu=> ?_⟩
 ·obtain⟨p,hp,rfl⟩:=List.mem_map.1 hu
  rcases hL.each p hp with⟨e1,e2⟩|⟨_,e2,e3⟩
  ·exact⟨hf p hp,by simp[p_,e2],by simp[p_,e2]⟩
  ·exact⟨hf p hp,by simp[p_,e2,e3],by simp[p_,e2,hn]⟩
 ·obtain⟨p,hp,rfl⟩:=List.mem_map.1 hu
  rcases hL.each p hp with⟨e1,e2⟩|⟨_,e2,e3⟩
  ·exact .inl ⟨e2,by simp[p_,e1]⟩
  ·exact .inr e2
 ·have:(SV.xg [.os i m,aC 0]).rf ρ= .tuple #[(SV.os i m).rf ρ,.int .i64 0]:=rfl
  rw[this,e];rfl
 ·obtain⟨p,hp,rfl⟩:=List.mem_map.1 hu
  rcases hL.each p hp with⟨e1,e2⟩|⟨⟨b,off,e1⟩,e2,e3⟩
  ·show(f_ (p_ p).base 1 (aZ (p_ p).xs)).holds _ w'
   have:(p_ p).xs=[]:=e2
   rw[this]
   exact⟨λr hr=>(by cases hr),.inl rfl⟩
  ·have hp':((p.1,p.2.map (Value.int .i64)):zi)∈nK L:=List.mem_map.2 ⟨p,hp,rfl⟩
   obtain⟨g1,g2,g3⟩:=aa5 hw hb hg hp' e1
   refine⟨kJ,.inr ⟨b,off,e1,⟨g1,g2⟩,λk r hk j v hj=> ?_⟩⟩
   have hkl:k<p.2.length:=by
    have:=(List.getElem?_eq_some_iff.1 hk).1
    rwa[aP]at this
   have hk':(aZ p.2)[k]? =some r:=hk
   rw[eO hkl]at hk'
   obtain rfl:[Value.int .i64 p.2[k]]=r:=by simpa using hk'
   have hj0:j=0:=by
    rcases Nat.eq_zero_or_pos j with h|h
    ·exact h
    ·rw[List.getElem?_eq_none AR]at hj;cases hj
   subst hj0
   have:=g3 k (Value.int .i64 p.2[k]) (by simp[hkl])
   obtain rfl:Value.int .i64 p.2[k]=v:=by simpa using hj
   simpa using this
end
section
instance(rows:List (List Int))(fr to:List Int)(aA:Int):Decidable (Bd rows fr to aA):=by unfold Bd;infer_instance
def vk(rows:List (List Int))(fr to:List Int)(aA:Int):List (List Int)×Int:=if Bd rows fr to aA then(pQ aA.toNat rows fr to to.length,0)else([],3)
variable {w:World} {B:Base} {H:Heap} {S:bR} {nx:Nat}
theorem zS{rows:List (List Int)}{fr to:List Int}{aA:Int}(hno:¬Bd rows fr to aA)(hb:∀R w',S.holds R w'->(aU B.w0).holds R w')(hw0:B.w0=w):jS B (.xg [.c (.slice none 0 0),aC 3]) H S nx (tu w aA.toNat (vk rows fr to aA).1 (vk rows fr to aA).2):=by
 rw[vk,if_neg hno];exact aaz hb hw0
theorem Lt{ρ:Nat->SX.Loc}{T:TypeId}{fv:ax}(hw:dO B ρ nx H S w)(he:(0,b_.box [.c fv.val] T)∈H)(rv:aY)(hr:rv.okB w):
 Calls Tryz.prog 127 (SV.dW ρ [.c rv.val,.fn (.func 128) [] [.lp 0 0 0 0]]).toArray w λe w'=>e= .returned (.bool (rv.l.any λu=>decide (u.xs.length≠fv.xs.length)))/\Ext w w':=by
 obtain⟨R,φ,hw⟩:=hw
 obtain⟨b,h1,h2,h3⟩:=hw.jA _ he
 simp only at h1
 have ha:(SV.dW ρ [.c rv.val,.fn (.func 128) [] [.lp 0 0 0 0]]).toArray= #[rv.val,.func (.func 128) #[] #[.pointer (some ⟨b,0,none⟩)]]:=by
  simp[SV.dW,SV.rf,h1,Addr.add]
 rw[ha]
 exact Lp w rv hr ⟨b,0,none⟩ fv.base fv.xs.length fv.cap (by simp[World.cell?,h3,SV.dW,SV.rf,ax.val])
variable {l:List ax}
theorem abm{n:Nat}(h:(l.any λu=>decide (u.xs.length≠n))=false):∀r∈l.map ax.xs,r.length=n:=by
 intro r hr
 obtain⟨u,hu,rfl⟩:=List.mem_map.1 hr
 have:=List.any_eq_false.1 h u hu
 simpa using this
theorem afk{n:Nat}(h:(l.any λu=>decide (u.xs.length≠n))=true)(hall:∀r∈l.map ax.xs,r.length=n):False:=by
 obtain⟨u,hu,hx⟩:=List.any_eq_true.1 h
 exact absurd (hall _ (List.mem_map.2 ⟨u,hu,rfl⟩)) (by simpa using hx)
variable {x:Int}
theorem agN{y z:Int}{K:Int->Prop}(h0:0<=x)(hy:y≠0)(e:x%y=z)(h:K z):x8 x y K:=Ub h0 hy zM
theorem RO(b off k:Nat):(⟨b,off,none⟩:Addr).add (k*1)=⟨b,off+k,none⟩:=by simp[Addr.add]
variable {d:Nat}
theorem R_{L:List iR}{p:iR}(h:∀p∈L,∀x∈p.2,i64 x)(hp:∀x∈p.2,i64 x):∀q∈L.set d p,∀x∈q.2,i64 x:=λq hq=>by
 rcases List.mem_or_eq_of_mem_set hq with hq|hq
 ·exact h q hq
 ·rw[hq];exact hp
theorem V5{l:List Int}{k:Nat}(h:∀y∈l,i64 y)(hx:i64 x):∀y∈l.set k x,i64 y:=λy hy=>by
 rcases List.mem_or_eq_of_mem_set hy with hy|hy
 ·exact h y hy
 ·rw[hy];exact hx
theorem acJ{l:List Int}(h:∀y∈l,i64 y)(k:Nat):i64 (l.getD k 0):=by
 rcases Nat.lt_or_ge k l.length with g|g
 ·have e:l.getD k 0=l[k]:=by simp[List.getD,g]
  rw[e];exact h _ (List.getElem_mem g)
 ·have e:l.getD k 0=0:=by simp[List.getD,g]
  rw[e];exact⟨by decide,by decide⟩
theorem agy(n s:Nat)(x:Int):(List.replicate n (Value.int .i64 0)).set s (.int .i64 x)=((List.replicate n (0:Int)).set s x).map (Value.int .i64):=by simp[List.map_set]
theorem aix{a:Addr}{j:Nat}{xs:List Int}{v:Int}{K:SV->Prop}(hx:∀R w,S.holds R w->bE w (some a) 1 (aZ xs))(hj:j<xs.length)(e:xs.getD j 0=v)(h:K (aC v)):gZ (a.add (j*1)) S K:=by
 subst e;exact dP hx hj h
theorem List.X5{α:Type}{l:List α}{x:α}(h:l[d]? =some x):l.set d x=l:=by
 apply List.ext_getElem?
 intro i
 rw[List.getElem?_set]
 split
 ·rename_i e;subst e;split
  ·exact h.symm
  ·rw[List.getElem?_eq_none aa]
 ·rfl
theorem acU(w:World)(rv:aY)(hr:rv.okB w)(fv tv:ax)(hfv:fv.ok w)(htv:tv.ok w)(aA:Int)(hs:i64 aA):
 Calls Tryz.prog 64 #[rv.val,fv.val,tv.val,.int .i64 aA] w (tu w aA.toNat (vk (rv.l.map ax.xs) fv.xs tv.xs aA).1 (vk (rv.l.map ax.xs) fv.xs tv.xs aA).2):=by
 have hr1:=hr.few
 have hf1:=hfv.few
 have ht1:=htv.few
 obtain⟨hs1,hs2⟩:=hs
 have hrl:(rv.l.map ax.xs).length=rv.l.length:=List.length_map _
 refine fH Tryz.func64 [.c rv.val,.c fv.val,.c tv.val,aC aA] ?_
 repeat' ((conv=>whnf)<;>first|(show aJ _ 126 [.c fv.val,aC aA] ..;refine jR (f:=126) Tryz.call126 _ (λρ w' hw=>PX w' fv (ae hw λR h=>hfv.later h) aA) (λhp1=> ?_) (λhp1=> ?_))|(show aJ _ 126 [.c tv.val,aC aA] ..;refine jR (f:=126) Tryz.call126 _ (λρ w' hw=>PX w' tv (ae hw λR h=>htv.later h) aA) (λhp2=> ?_) (λhp2=> ?_))|(show aJ _ 127 ..;(refine jR (f:=127) Tryz.call127 _ (λρ w' hw=>Lt (fv:=fv) hw aj rv (ae hw λR h=>hr.later h)) (λhp3=> ?_) (λhp3=> ?_)))|(show pg ..;(refine lD aA.toNat aa aa Fv aa ?_))|refine a_ ?_|refine ag ?_ ?_<;>intro _)
 all_goals(conv=>whnf)
 all_goals first|exact zS (λh=>by have:=h.1;have:=h.2.1;have:=h.2.2.1;omega) (λ_ _ h=>h) rfl|exact zS (λh=>Bool.false_ne_true (hp1.symm.trans h.2.2.2.1)) (λ_ _ h=>h) rfl|exact zS (λh=>Bool.false_ne_true (hp2.symm.trans h.2.2.2.2.1)) (λ_ _ h=>h) rfl|exact zS (λh=>afk hp3 h.2.2.2.2.2) (λ_ _ h=>h) rfl|skip
 have hok:Bd (rv.l.map ax.xs) fv.xs tv.xs aA:=⟨by omega,by omega,by omega,hp1,hp2,abm hp3⟩
 rw[vk,if_pos hok]
 obtain⟨n,hn⟩:∃n:Nat,aA=n:=⟨aA.toNat,by omega⟩
 subst hn
 rw[Int.toNat_natCast]
 have hfr:=(wL hp1).1
 have hto:=(wL hp2).1
 refine Wp.grp 3 n ?_
 refine Wp.loop (σ:=Nat×List iR) 3 (λs=>[(0,.c rv.val),(3,aC n),(5,.lp 0 0 0 0),(10,.os 1 n),(49,.c tv.val),(50,aC tv.xs.length),(51,aC s.1)])
  (λs=>[(0,.box [.c fv.val] 32),(1,.rows (iM s.2) 1 32),(2,.ext (o_ 3 (nK s.2)))]) (λ_=>aU w)
  (λs=>DOk n s.2/\(∀p∈s.2,∀x∈p.2,i64 x)/\s.2.map Prod.snd=pQ n (rv.l.map ax.xs) fv.xs tv.xs s.1/\s.1<=tv.xs.length) (λs=>tv.xs.length-s.1) (0,Cb n) [] ay (λs=>⟨rfl,rfl⟩)
  ⟨ahs n,(λp hp x hx=>by rw[(List.mem_replicate.1 hp).2]at hx;cases hx),by rw[Vy];rfl,Nat.zero_le _⟩ ⟨rfl,⟨rfl,rfl,rfl,rfl,rfl,rfl,rfl,trivial⟩,?_,λ_ _ h=>h⟩ ?_
 ·show lI [] _ [(0,.box [.c fv.val] 32),(1,.rows (iM (Cb n)) 1 32),(2,.ext (o_ 3 (nK (Cb n))))]
  rw[Ru,Vu]
  exact fE
 rintro⟨o,L⟩ ⟨hL,hLf,hLs,hol⟩
 dsimp only at hL hLf hLs hol
 by_cases hlt:o<tv.xs.length
 ·obtain⟨ta,Vs⟩:=htv.base aa
  have htr:∀(R:Nat->Prop) w',(aU w).holds R w'->bE w' (some ta) 1 (aZ tv.xs):=λR w' h=>by rw[<-Vs];exact aH h htv.rows
  have VH:o<rv.l.length:=by omega
  have hsb:0<=tv.xs.getD o 0/\tv.xs.getD o 0<n:=by
   have e:tv.xs.getD o 0=tv.xs[o]:=by simp[List.getD,hlt]
   rw[e];exact hto _ (List.getElem_mem hlt)
  obtain⟨sv,hsv⟩:∃sv,tv.xs.getD o 0=sv:=⟨_,rfl⟩
  repeat' ((conv=>whnf)<;>first|(show dn ..;refine aM ta o Vs rfl hlt ?_)|(show gZ ..;refine dP htr (j:=o) hlt ?_)|refine a_ ?_|refine ag ?_ ?_<;>intro _)
  all_goals(conv=>whnf)
  have hrow:(rv.l.map ax.xs).getD o []=rv.l[o].xs:=by simp[List.getD,VH]
  have hrlen:rv.l[o].xs.length=fv.xs.length:=abm hp3 _ (List.mem_map.2 ⟨_,List.getElem_mem VH,rfl⟩)
  have hro:=hr.each rv.l[o] (List.getElem_mem VH)
  obtain⟨ra,hra⟩:∃a,rv.base=some a:=aT (j:=o) hr.rows (by rw[bz];exact VH)
  rw[hsv]at hsb|-
  refine Wp.loop (σ:=Nat×List iR) 3 (λs=>[(0,.c rv.val),(3,aC n),(5,.lp 0 0 0 0),(10,.os 1 n),(49,.c tv.val),(50,aC tv.xs.length),(51,aC o),(11,aC o),(12,aC sv),(56,.c fv.val),(57,aC fv.xs.length),(58,aC s.1)])
   (λs=>[(0,.box [.c fv.val] 32),(1,.rows (iM s.2) 1 32),(2,.ext (o_ 3 (nK s.2)))]) (λ_=>aU w)
   (λs=>DOk n s.2/\(∀p∈s.2,∀x∈p.2,i64 x)/\s.2.map Prod.snd=Ct n fv.xs rv.l[o].xs sv (pQ n (rv.l.map ax.xs) fv.xs tv.xs o) s.1/\s.1<=fv.xs.length) (λs=>fv.xs.length-s.1) (0,L) [] ay (λs=>⟨rfl,rfl⟩)
   ⟨hL,hLf,hLs,Nat.zero_le _⟩ ⟨rfl,⟨rfl,rfl,rfl,rfl,rfl,rfl,rfl,rfl,rfl,rfl,rfl,rfl,trivial⟩,fE,λ_ _ h=>h⟩ ?_
  clear hL hLf hLs
  rintro⟨i,M⟩ ⟨hM,hMf,hMs,hil⟩
  dsimp only at hM hMf hMs hil
  by_cases Vt:i<fv.xs.length
  ·obtain⟨fa,hfa⟩:=hfv.base aa
   have ano:∀(R:Nat->Prop) w',(aU w).holds R w'->bE w' (some fa) 1 (aZ fv.xs):=λR w' h=>by rw[<-hfa];exact aH h hfv.rows
   obtain⟨wa,hwa⟩:=hro.base aa
   have hwr:∀(R:Nat->Prop) w',(aU w).holds R w'->bE w' (some wa) 1 (aZ rv.l[o].xs):=λR w' h=>by rw[<-hwa];exact aH h hro.rows
   have nL:0<=fv.xs.getD i 0/\fv.xs.getD i 0<n:=by
    have e:fv.xs.getD i 0=fv.xs[i]:=by simp[List.getD,Vt]
    rw[e];exact hfr _ (List.getElem_mem Vt)
   have hwf:=acJ hro.fits i
   have hstep:=Yg n fv.xs rv.l[o].xs sv (pQ n (rv.l.map ax.xs) fv.xs tv.xs o) i
   rw[<-hMs]at hstep
   obtain⟨fi,hfi⟩:∃x,fv.xs.getD i 0=x:=⟨_,rfl⟩
   obtain⟨wi,hwi⟩:∃x,rv.l[o].xs.getD i 0=x:=⟨_,rfl⟩
   rw[hfi]at nL hstep
   rw[hwi]at hwf hstep
   by_cases hw0:wi=0
   ·repeat' ((conv=>whnf)<;>first|(show dn ..;(first|refine aM fa i hfa rfl Vt ?_|refine aM ra o hra rfl VH ?_|refine aM wa i hwa rfl aa ?_))|refine ED ?_|refine a_ ?_|refine ag ?_ ?_<;>intro _)
    all_goals(conv=>whnf)
    exact⟨(i+1,M),[],⟨hM,hMf,by rw[hstep,nu,if_pos hw0],Vt⟩,by show fv.xs.length-(i+1)<fv.xs.length-i;omega,rfl,fE,fE,λ_ _ h=>h⟩
   ·obtain⟨d,hdd,hdn,hd0⟩:=amK hsb nL
    have hMd:d<M.length:=by rw[hM.len];exact hdn
    have hdl:=He M
    obtain⟨q,hq⟩:∃q,M[d]? =some q:=⟨_,List.getElem?_eq_getElem hMd⟩
    have hqm:=List.mem_of_getElem? hq
    obtain⟨sn,hsn⟩:∃k:Nat,sv=k:=⟨sv.toNat,by omega⟩
    have akD:sv.toNat=sn:=by omega
    rcases hM.each q hqm with⟨e1,e2⟩|⟨⟨b,off,e1⟩,e2,e3⟩
    ·obtain⟨ql,qv⟩:=q
     simp only at e1 e2
     subst e1 e2
     repeat' ((conv=>whnf)<;>first|(show dn ..;(first|refine aM fa i hfa rfl Vt ?_|refine aM ra o hra rfl VH ?_|refine aM wa i hwa rfl aa ?_))|refine ED ?_|(show x8 ..;refine agN hd0 aa hdd ?_)|(show eP ..;refine bY d rfl hdn (Nat.le_of_eq (hdl.trans hM.len).symm) ?_)|(show rQ ..;refine row_of _ _ (tq hq) rfl ?_)|(show mi ..;refine ahU (ti 32 rfl) rfl ?_)|(show pg ..;(refine lD n rfl rfl mE aa ?_))|refine Lv ?_|refine ag ?_ ?_<;>intro _)
     all_goals(conv=>whnf)
     refine Te (g:=2) (d:=d) (us:=[]) (l0:=⟨none,0⟩) (L:=nK M) (vs:=List.replicate n (.int .i64 0)) aj (H8 hq) rfl rfl (by rw[tQ,List.map_replicate]) AA (λl hlc hlb=> ?_)
     rw[List.length_replicate]at hlc
     obtain⟨b,off,hlb⟩:=hlb
     have hset:((iM M).set d [.slice l.base n l.cap])[d]? =some [.slice l.base n l.cap]:=List.getElem?_set_self (by rw[hdl];exact hMd)
     have hgs:((nK M).set d (l,List.replicate n (.int .i64 0)))[d]? =some (l,List.replicate n (.int .i64 0)):=List.getElem?_set_self (by rw[nK,List.length_map];exact hMd)
     repeat' ((conv=>whnf)<;>first|(show dH ..;(refine jq _ (tq hq) kQ ?_))|(show eP ..;(first|refine bY d rfl hdn (Nat.le_of_eq (hdl.trans hM.len).symm) ?_|refine bY d rfl hdn (Nat.le_of_eq (by rw[List.length_set];exact(hdl.trans hM.len).symm)) ?_))|(show rQ ..;refine row_of _ _ hset rfl ?_)|(show dn ..;refine aM ⟨b,off,none⟩ sn hlb hsn aa ?_)|(show wrK ..;(refine YK (g:=2) (d:=d) (s:=sn) (l:=l) (vs:=List.replicate n (.int .i64 0)) aj hgs hlb AA (RO b off sn) ?_))|refine a_ ?_)
     all_goals(conv=>whnf)
     have eg:nK (M.set d (l,(List.replicate n 0).set sn wi))=((nK M).set d (l,List.replicate n (.int .i64 0))).set d (l,(List.replicate n (Value.int .i64 0)).set sn (.int .i64 wi)):=by rw[Ic,List.set_set,agy]
     have er:iM (M.set d (l,(List.replicate n 0).set sn wi))=(iM M).set d [.slice l.base n l.cap]:=by rw[yJ];simp[Nj,List.length_replicate]
     have hlenV:((l,(List.replicate n 0).set sn wi):iR).2.length=n:=by simp[List.length_replicate]
     refine⟨(i+1,M.set d (l,(List.replicate n 0).set sn wi)),[],⟨hM.set (.inr ⟨⟨b,off,hlb⟩,hlenV,hlc⟩),R_ hMf (V5 (λy hy=>by rw[(List.mem_replicate.1 hy).2];exact⟨by decide,by decide⟩) hwf),by rw[hstep];rw[<-afC hq rfl hw0 hdd,akD],Vt⟩,by show fv.xs.length-(i+1)<fv.xs.length-i;omega,rfl,fE,?_,λ_ _ h=>h⟩
     show lI [] _ [(0,.box [.c fv.val] 32),(1,.rows (iM (M.set d (l,(List.replicate n 0).set sn wi))) 1 32),(2,.ext (o_ 3 (nK (M.set d (l,(List.replicate n 0).set sn wi)))))]
     rw[eg,er]
     exact fE
    ·obtain⟨ql,qv⟩:=q
     simp only at e1 e2 e3
     repeat' ((conv=>whnf)<;>first|(show dn ..;(first|refine aM fa i hfa rfl Vt ?_|refine aM ra o hra rfl VH ?_|refine aM wa i hwa rfl aa ?_|refine aM ⟨b,off,none⟩ sn e1 hsn (show sn<qv.length by omega) ?_))|refine ED ?_|(show x8 ..;refine agN hd0 aa hdd ?_)|(show eP ..;refine bY d rfl hdn (Nat.le_of_eq (hdl.trans hM.len).symm) ?_)|(show rQ ..;refine row_of _ _ (tq hq) rfl ?_)|(show mi ..;refine ajO (ti 32 rfl) rfl e1 ?_)|(show wrK ..;(refine YK (g:=2) (d:=d) (s:=sn) (l:=ql) (vs:=qv.map (Value.int .i64)) aj (H8 hq) e1 vZ (RO b off sn) ?_))|refine a_ ?_|refine ag ?_ ?_<;>intro _)
     all_goals(conv=>whnf)
     have eg:nK (M.set d (ql,qv.set sn wi))=(nK M).set d (ql,(qv.map (Value.int .i64)).set sn (.int .i64 wi)):=by rw[Ic,List.map_set]
     have er:iM (M.set d (ql,qv.set sn wi))=(iM M).set d [.slice ql.base n ql.cap]:=by rw[yJ];simp[Nj,e2]
     have hlenV:((ql,qv.set sn wi):iR).2.length=n:=by simp[e2]
     refine⟨(i+1,M.set d (ql,qv.set sn wi)),[],⟨hM.set (.inr ⟨⟨b,off,e1⟩,hlenV,e3⟩),R_ hMf (V5 (hMf _ hqm) hwf),by rw[hstep];rw[<-agl hq (λh0=>by have:=congrArg List.length h0;simp only[List.length_nil]at this;omega) hw0 hdd,akD],Vt⟩,by show fv.xs.length-(i+1)<fv.xs.length-i;omega,rfl,fE,?_,λ_ _ h=>h⟩
     show lI [] _ [(0,.box [.c fv.val] 32),(1,.rows (iM (M.set d (ql,qv.set sn wi))) 1 32),(2,.ext (o_ 3 (nK (M.set d (ql,qv.set sn wi)))))]
     rw[eg,er,show(iM M).set d [.slice ql.base n ql.cap]=iM M from ?_]
     exact fE
     rw[<-e2,show [Value.slice ql.base qv.length ql.cap]=Nj (ql,qv)from rfl,<-yJ,List.X5 hq]
  ·repeat' ((conv=>whnf)<;>first|refine a_ ?_|refine ag ?_ ?_<;>intro _)
   all_goals(conv=>whnf)
   obtain rfl:i=fv.xs.length:=by omega
   exact⟨(o+1,M),[],⟨hM,hMf,by rw[hMs,VJ,hrow,hsv],hlt⟩,by show tv.xs.length-(o+1)<tv.xs.length-o;omega,rfl,fE,fE,λ_ _ h=>h⟩
 ·repeat' ((conv=>whnf)<;>first|refine a_ ?_|refine ag ?_ ?_<;>intro _)
  all_goals(conv=>whnf)
  obtain rfl:o=tv.xs.length:=by omega
  have:=afw (w:=w) (B:=⟨w,[]⟩) (H:=[(0,.box [.c fv.val] 32),(1,.rows (iM L) 1 32),(2,.ext (o_ 3 (nK L)))]) (S:=aU w) (nx:=3) (i:=1) (g:=2) (n:=n) (m:=n) (λ_ _ h=>h) rfl hL hLf aa rfl aj aj
  rw[hLs]at this
  exact this
end
section
variable {w:World}
theorem ET{base:Option Addr}{cap:Nat}{xs:List (List Value)}(l m:Nat)(hc:xs.length<=cap)(h:bE w base 1 xs):bE w (if cap=l then base else base.map (·.add (l*1))) 1 ((xs.drop l).take m):=by
 by_cases hl:cap<=l
 ·rw[List.drop_eq_nil_of_le aa,List.take_nil]
  exact .inl rfl
 rw[if_neg aa]
 rcases h with h|⟨a,rfl,h⟩
 ·subst h;rw[List.drop_nil,List.take_nil];exact .inl rfl
 ·refine .inr ⟨_,rfl,λk r hk j v hj=> ?_⟩
  rw[List.getElem?_take]at hk
  split at hk
  ·rw[List.getElem?_drop]at hk
   have:=h (l+k) r hk j v hj
   rw[Addr.add_add]
   rw[show l*1+(k*1+j)=(l+k)*1+j by omega]
   exact this
  ·cases hk
def cutV(u:ax)(l h:Nat):ax:=⟨if u.cap=l then u.base else u.base.map (·.add (l*1)),u.cap-l,(u.xs.drop l).take (h-l)⟩
variable {u:ax} {l h:Nat}
theorem uy(h2:h<=u.xs.length):(cutV u l h).xs.length=h-l:=by
 show((u.xs.drop l).take (h-l)).length=_
 rw[List.length_take,List.length_drop];omega
variable {lo hi:Option Int} {K:SV->Prop}
theorem kS(hlo:match lo with|some z=>z=l|none=>l=0)(hhi:match hi with|some z=>z=h|none=>h=u.xs.length)(h1:l<=h)(h2:h<=u.xs.length)(h3:u.xs.length<=u.cap)(hk:K (.c (cutV u l h).val)):ny u.base u.xs.length u.cap 1 lo hi none K:=by
 rw[vU]
 refine⟨l,h,u.cap,hlo,hhi,rfl,h1,by omega,Nat.le_refl _,λh=>bT,?_⟩
 have e:(cutV u l h).val= .slice (if u.cap=l then u.base else u.base.map (·.add (l*1))) (h-l) (u.cap-l):=by
  show Value.slice _ _ _=_
  rw[uy h2];rfl
 rw[<-e];exact hk
theorem qC(hr:bE w u.base 1 (aZ u.xs))(h3:u.xs.length<=u.cap):bE w (cutV u l h).base 1 (aZ (cutV u l h).xs):=by
 have:=ET l (h-l) (by rw[aP];exact h3) hr
 rwa[show((aZ u.xs).drop l).take (h-l)=aZ ((u.xs.drop l).take (h-l)) by simp[aZ,List.map_drop,List.map_take]]at this
theorem qp(hu:u.bF):(cutV u l h).bF:=by
 refine⟨λx hx=>hu.fits x (List.mem_of_mem_drop (List.mem_of_mem_take hx)),?_,?_⟩
 ·have:=hu.room
  show((u.xs.drop l).take (h-l)).length<=u.cap-l
  rw[List.length_take,List.length_drop];omega
 ·have:=hu.few
  show((u.xs.drop l).take (h-l)).length<=_
  rw[List.length_take,List.length_drop];omega
def Lu(d:aY)(l h:Nat):aY:=⟨if d.cap=l then d.base else d.base.map (·.add (l*1)),d.cap-l,(d.l.drop l).take (h-l)⟩
theorem La{u:aY}(h2:h<=u.l.length):(Lu u l h).l.length=h-l:=by
 show((u.l.drop l).take (h-l)).length=_
 rw[List.length_take,List.length_drop];omega
theorem Z8{u:aY}(hlo:match lo with|some z=>z=l|none=>l=0)(hhi:match hi with|some z=>z=h|none=>h=u.l.length)(h1:l<=h)(h2:h<=u.l.length)(h3:u.l.length<=u.cap)(hk:K (.c (Lu u l h).val)):ny u.base u.l.length u.cap 1 lo hi none K:=by
 rw[vU]
 refine⟨l,h,u.cap,hlo,hhi,rfl,h1,by omega,Nat.le_refl _,λh=>bT,?_⟩
 have e:(Lu u l h).val= .slice (if u.cap=l then u.base else u.base.map (·.add (l*1))) (h-l) (u.cap-l):=by
  show Value.slice _ _ _=_
  rw[La h2];rfl
 rw[<-e];exact hk
theorem acG{u:aY}(hr:bE w u.base 1 (bA u.l))(h3:u.l.length<=u.cap):bE w (Lu u l h).base 1 (bA (Lu u l h).l):=by
 have:=ET l (h-l) (by rw[bz];exact h3) hr
 rwa[show((bA u.l).drop l).take (h-l)=bA ((u.l.drop l).take (h-l)) by simp[bA,List.map_drop,List.map_take]]at this
variable {cx:Cx} {H:Heap} {S:bR} {nx:Nat}
theorem agT{f:FuncId}{args:List SV}{K:SV->Heap->bR->Nat->Prop}(hk:aJ cx f args H S nx (λv H S nx=>qN v H S nx K)):aJ cx f args H S nx K:=by
 rw[fZ]at hk|-
 refine⟨hk.1,λρ w hw=>(hk.2 ρ w hw).mono ?_⟩
 rintro e w' ⟨v,ρ',H',S',nx',h1,h2,h3,h4,h5,h6⟩
 obtain⟨v2,H2,S2,g1,g2,g3,g4⟩:=Kc h6 h5 h4
 exact⟨v2,ρ',H2,S2,nx',by rw[g1];exact h1,h2,h3,g2,g3,g4⟩
theorem Yt(w:World)(base:Option Addr)(cap:Nat)(u v:ax)(hr:bE w base 1 [[u.val],[v.val]])(hu:u.ok w)(hv:v.ok w)(h0:0<u.xs.length+v.xs.length):
 Calls Tryz.prog 129 #[.slice base 2 cap] w λe w'=>∃x,e= .returned x/\Ext w w'/\je w w' x 1 3 (aZ (u.xs++v.xs)):=by
 obtain⟨a,rfl⟩:=aT (j:=0) hr (by show 0<2;decide)
 exact ZF w a cap u v hr hu hv h0
theorem xR(hP:cx.P=Tryz.prog){j:Nat}{T:TypeId}{K:SV->Heap->bR->Nat->Prop}(u v:ax)(G:Nat->Prop)(hG:∀R w,S.holds R w->∀b,G b->R b)(hu:∀R w,S.holds R w->bE w u.base 1 (aZ u.xs))(hv:∀R w,S.holds R w->bE w v.base 1 (aZ v.xs))(iL:u.bF)(hvs:v.bF)(h0:0<u.xs.length+v.xs.length)(hl:u.xs.length+v.xs.length<=1000000)
 (h:∀m:ax,m.xs=u.xs++v.xs->m.bF->K (.c m.val) H (S.and ((bX m).off G)) (nx+1)):aJ cx 129 [.os j 2] ((j,.rows [[u.val],[v.val]] 1 T)::H) S nx K:=by
 obtain⟨P,B,n,tab⟩:=cx
 subst hP
 refine agT ?_
 refine Wd (K':=λx H' S' nx'=>x= .os nx (aZ (u.xs++v.xs)).length/\H'=(nx,.rows (aZ (u.xs++v.xs)) 1 3)::(j,.rows [[u.val],[v.val]] 1 T)::H/\S'=S/\nx'=nx+1) (jy (f:=129) Tryz.call129 1 3 (λ_:Unit=>aZ (u.xs++v.xs)) (λ_=>True) (λρ w' hw=> ?_) (λ_ _=>⟨rfl,rfl,rfl,rfl⟩)) ?_
 ·have hr:=eZ hw (i:=j) (xs:=[[u.val],[v.val]]) (k:=1) (T:=T) List.mem_cons_self
  exact(Yt w' _ _ u v hr ⟨ae hw λR h=>hu R _ h,iL.fits,iL.room,iL.few⟩ ⟨ae hw λR h=>hv R _ h,hvs.fits,hvs.room,hvs.few⟩ h0).mono (λe w2 h=>⟨(),trivial,h⟩)
 ·rintro x H' S' nx' ⟨rfl,rfl,rfl,rfl⟩
  refine⟨_,List.Sublist.cons_cons _ (List.sublist_cons_self _ _),?_⟩
  rw[aP]
  exact OL (u.xs++v.xs) G hG rfl rfl (λx hx=>(List.mem_append.1 hx).elim (iL.fits x) (hvs.fits x)) (by rw[List.length_append];exact hl) (λm hm hms=>h m hm hms)
def pX(t:Int->Option Int):Int->Option Value:=λz=>(t z).map (Value.int .i64)
theorem Y2(x:Int):Az (λ_=>none) 0 (.int .i64 x)=pX (qY x):=by
 funext z
 unfold Az pX qY
 split<;>rfl
theorem afA(t:Int->Option Int)(k v:Int):Az (pX t) k (.int .i64 v)=pX (λz=>if z=k then some v else t z):=by
 funext z
 unfold Az pX
 by_cases h:z=k
 ·simp[h]
 ·simp[h]
end
section
abbrev abx:DT:=(bS [0,1,2,3,5,6,7,8,4,9,110,111,12] .done)
abbrev xE:DT:=(bS [0,1,2,3,4,5,6,7,8,109,110] .done)
theorem afP:(Tryz.prog.info? 3).map (λi=>i.zero)=some (some (.int .i64 0)):=by kernel_rfl
variable {H:Heap} {S:bR} {i r:Nat} {t:Int->Option Int} {k:Int} {K:SV->Prop} {B:Base} {tb:List (Nat×TI)}
theorem Ve{n:Nat}(hi:(i,b_.ext (lC r (pX t)))∈H){v:Option Int}(hv:t k=v)(h:K (.c (.tuple #[.int .i64 (v.getD 0),.bool v.isSome]))):Ce ⟨Tryz.prog,B,n,tb⟩ 161 (.c (.map (some r))) (aC k) true H S K:=by
 have hz:=afP
 cases ht:Tryz.prog.info? 3 with
 |none=>rw[ht]at hz;cases hz
 |some ti=>
  rw[ht]at hz
  refine abv (z:= .int .i64 0) Tryz.underlying161 Tryz.underlying3 ht (by simpa using hz) hi ?_
  have e:(pX t k).getD (.int .i64 0)= .int .i64 (v.getD 0)/\(pX t k).isSome=v.isSome:=by
   unfold pX
   rw[hv]
   cases v<;>exact⟨rfl,rfl⟩
  rw[if_pos rfl,e.1,e.2]
  exact h
variable {x:Int}
theorem afG{K:Heap->Prop}{n:Nat}(hi:(i,b_.ext (lC r (λ_=>none)))∈H)(h:Ed i (.ext (lC r (pX (qY x)))) K H):qV ⟨Tryz.prog,B,n,tb⟩ 161 (.c (.map (some r))) (aC 0) (aC x) H S K:=
 Ji Tryz.underlying161 Tryz.underlying3 hi (by rw[Y2];exact h)
theorem aiP{v:Int}{K:Heap->Prop}{n:Nat}(hi:(i,b_.ext (lC r (pX t)))∈H)(h:Ed i (.ext (lC r (pX (λz=>if z=k then some v else t z)))) K H):qV ⟨Tryz.prog,B,n,tb⟩ 161 (.c (.map (some r))) (aC k) (aC v) H S K:=
 Ji Tryz.underlying161 Tryz.underlying3 hi (by rw[afA];exact h)
theorem ahH{y z:Int}{K':Bool->Prop}{Kt:SV->Prop}(hz:z=min x y)(e1:K' true=mmK false .i64 Kt y [])(e2:K' false=mmK false .i64 Kt x [])(h:Kt (aC z)):iG (y<x) K':=by
 refine ag (λhy=> ?_) (λhy=> ?_)
 ·rw[e1];show Kt _;rw[<-show z=y by omega];exact h
 ·rw[e2];show Kt _;rw[<-show z=x by omega];exact h
theorem q9{P:Program}{t:TypeId}{ti:TI}(h:lu P t=some ti)(hk:ti.ai=1){ox oy:Operand}{base:Option Addr}{len cap:Nat}{b:Bool}(hb:base.isNone=b)(hK:K (.c (.bool b))):
 mi P (do eqGuard .eql t ox oy (.slice base len cap) (.slice none 0 0);binOp .eql t (.slice base len cap) (.slice none 0 0)) K:=by
 subst hb
 exact ji h hk hK
structure Ch where
 s:fu
 t:Int->Option Int
 m:Option Int
def Ch.pl(y:Ch):oZ:=⟨y.s.pl,y.t,y.m⟩
def jK(m:Option Int):List SV:=[.lp 0 0 0 0,aC (m.getD 0),.c (.bool m.isSome)]
def Bl(s:fu)(t:Int->Option Int)(x:Int)(i:Nat):fu×(Int->Option Int)×Int:=match t i with
 |some a=>(s,t,a)
 |none=>(eH s 8 x 0 i,λz=>if z=i then some (s.code.length:Int)else t z,s.code.length)
def LF(s:fu)(t:Int->Option Int)(m:Option Int)(v:Int):Ch:=match m with
 |none=>⟨s,t,some v⟩
 |some a=>⟨eH s 3 a v 0,t,some s.code.length⟩
def Kb(x:Int)(y:Ch)(i:Nat)(m:ax):Ch:=
 LF (eH (aS (Bl y.s y.t x i).1 m).1 5 (Bl y.s y.t x i).2.2 0 (aS (Bl y.s y.t x i).1 m).2) (Bl y.s y.t x i).2.1 y.m (aS (Bl y.s y.t x i).1 m).1.code.length
def CX(base:Nat)(mo:Option Int)(z:Ch):Ch:=match z.m with
 |none=>⟨z.s,z.t,mo⟩
 |some a=>if 0<base then LF (eH z.s 8 a 0 base) z.t mo z.s.code.length else LF z.s z.t mo a
theorem TY(s:fu)(t:Int->Option Int)(m:Option Int)(v:Int):(LF s t m v).pl=⟨(iU s.pl m v).1,t,some (iU s.pl m v).2⟩:=by
 cases m<;>rfl
variable {base:Nat}
theorem DU{n:Nat}{y:Ch}{m:ax}{dd:List Int}(hm:m.xs=wR n base dd)(hd:dd≠[]):(Kb x y i m).pl=uX n base x y.pl i dd:=by
 have ep:∀s:fu,dF s.pl (wR n base dd)=((aS s m).1.pl,(aS s m).2):=λs=>by rw[<-hm,<-DK]
 unfold Kb uX
 rw[if_neg hd,TY]
 have et:rY y.pl.s y.pl.t x i=((Bl y.s y.t x i).1.pl,(Bl y.s y.t x i).2):=by
  unfold rY Bl
  show(match y.t i with|some a=>_|none=>_)=_
  cases y.t i<;>rfl
 simp only[et,ep,sU]
 rfl
variable {y:oZ}
theorem adZ{n:Nat}{z:Ch}{ds:List (List Int)}(hz:sN n base x ds 0 ⟨y.s,y.t,none⟩=z.pl):(CX base y.m z).pl=sV n base x y ds:=by
 unfold CX sV
 simp only[hz]
 show _=(match z.m with|none=>_|some a=>_)
 cases z.m with
 |none=>rfl
 |some a=>
  show(if 0<base then _ else _:Ch).pl=_
  by_cases hb:0<base
  ·simp only[if_pos hb,TY];rfl
  ·simp only[if_neg hb,TY];rfl
theorem rE.mono{c:fT}{k k':Nat}{s:fu}(h:rE c k s)(hk:k<=k'):rE c k' s:=⟨h.ok,Nat.le_trans h.yF hk,Nat.le_trans h.y9 hk⟩
variable {g f:Nat}
theorem Zt{n:Nat}{all:List (List Int)}(h:¬base<n):p8 n g x all f base y=y:=by
 cases f with
 |zero=>rfl
 |succ f=>rw[p8,if_neg h]
theorem agS{n:Nat}(h:g*g<n)(hf:n<=g+f)(h1:1<=g):∃f',f=f'+1/\stepG f n g=stepG f' n (2*g):=by
 have hg:g<=g*g:=Nat.le_mul_of_pos_right g h1
 obtain⟨f',rfl⟩:∃f',f=f'+1:=⟨f-1,by omega⟩
 exact⟨f',rfl,by rw[stepG,if_pos h]⟩
theorem stepG_end{n:Nat}(h:¬g*g<n):stepG f n g=g:=by
 cases f with
 |zero=>rfl
 |succ f=>rw[stepG,if_neg h]
theorem agD{n:Nat}(h:g*g<n)(hn:n<=4096):g<64:=by
 rcases Nat.lt_or_ge g 64 with h1|h1
 ·exact h1
 ·have:64*64<=g*g:=Nat.mul_le_mul h1 h1
  omega
theorem Fp{cx:Cx}{cc:Operand}{a b:Code}{bb:Bool}{env:Env}{nx:Nat}{K:Exit->Env->Heap->bR->Nat->Prop}(hev:∀k:SV->Prop,xX cx.n env cc k=k (.c (.bool bb)))(h1:bb=true->vcC cx a env H S nx K)(h2:bb=false->vcC cx b env H S nx K):vcC cx (.cond cc a b) env H S nx K:=by
 show xX cx.n env cc _
 rw[hev]
 cases bb
 ·exact h2 rfl
 ·exact h1 rfl
abbrev ak3(w:World)(F:Nat->Prop)(s0:fu)(d:aY)(s:fu):bR:=(((iQ s.aF).and ((Q6 s0.aF s.aF).off (iV w F))).and (wm d)).and (l8 w F)
abbrev al9(c:fT)(vl:List Int)(r:Nat)(y:Ch):Heap:=(6,.box (jK y.m) 129)::(5,.ext (lC r (pX y.t)))::yU c y.s vl 0 1 7 8 9
abbrev ama(c:fT)(vl:List Int)(r:Nat)(m:Option Int)(y:Ch):Heap:=(10,.box (jK y.m) 129)::(6,.box (jK m) 129)::(5,.ext (lC r (pX y.t)))::yU c y.s vl 0 1 11 12 13
theorem afX(c:fT)(s:fu)(vl:List Int)(x:Int)(d:aY)(hN:wT c s vl)(hdl:d.l.length=c.aA)(hdn:abK c.aA d)(hds:∀u∈d.l,u.bF)(hdc:d.l.length<=d.cap)(w:World)(ρ:Nat->SX.Loc)(F:Nat->Prop)(h:qF w ρ F 2 5 (kG c s vl) ((iQ s.aF).and (wm d))):
 Calls Tryz.prog 65 (SV.dW ρ [.lp 0 0 0 0,aC x,.c d.val]).toArray w (pz w ρ F c s vl (nG c.aA c.giant s.pl x (d.l.map ax.xs))):=by
 have hn1:=hN.aA.1
 have hn2:=hN.aA.2
 refine zzF Tryz.func65 (yZ 2 ρ) ρ [.lp 0 0 0 0,aC x,.c d.val] (kG c s vl) (((iQ s.aF).and (wm d)).and (l8 w F)) 5 h.abs ?_
 (repeat' ((conv=>whnf)<;>first|refine Wp.go bW rfl ?_))
 refine Fp (λ_=>rfl) (λhg=> ?_) (λhg=> ?_)
 focus
  (repeat' ((conv=>whnf)<;>first|refine Wp.go bW rfl ?_))
  refine Wp.loop (σ:=Nat×Nat) 5 (λq=>[(0,.lp 0 0 0 0),(1,aC x),(2,.c d.val),(7,aC c.aA),(8,aC q.2)]) (λ_=>kG c s vl) (λ_=>((iQ s.aF).and (wm d)).and (l8 w F)) (λq=>stepG q.1 c.aA q.2=stepG c.aA c.aA 1/\c.aA<=q.2+q.1/\1<=q.2/\q.2<=128) (λq=>q.1) (c.aA,1) [] ay (λq=>⟨rfl,rfl⟩) ⟨rfl,by omega,Nat.le_refl _,(by decide:1<=128)⟩ ⟨rfl,⟨rfl,rfl,rfl,rfl,rfl,trivial⟩,fE,λR w' h=>h⟩ ?_
  rintro⟨f,g⟩ ⟨hgs,hgf,hg1,hg2⟩
  simp only at hgs hgf hg1 hg2
  have hgg:g*g<=128*128:=Nat.mul_le_mul hg2 hg2
  have hgc:((g*g:Nat):Int)=(g:Int)*g:=by push_cast;rfl
  by_cases hlt:g*g<c.aA
  focus
   obtain⟨f',rfl,e⟩:=agS hlt hgf hg1
   have:=agD hlt hn2
   (repeat' ((conv=>whnf)<;>first|(show @iG _ _ _;(refine gJ rZ ?_))|(show fF ..;(first|refine wrap_i64 rZ rZ ?_))|refine Wp.go bW rfl ?_|refine mh ?_))
   all_goals(conv=>whnf)
   exact⟨(f',g*2),[],⟨by rw[<-hgs,e,Nat.mul_comm],by show c.aA<=g*2+f';omega,by show 1<=g*2;omega,by show g*2<=128;omega⟩,Nat.lt_succ_self f',rfl,fE,fE,λR w' h=>h⟩
  rw[stepG_end hlt]at hgs
  have hgv:tT c.giant c.aA=g:=by rw[hg];exact hgs.symm
  have hg4:g<=4096:=by omega
  (repeat' ((conv=>whnf)<;>first|(show @iG _ _ _;(refine jc rZ ?_))|(show fF ..;(refine wrap_i64 rZ rZ ?_))|(show xA ..;refine Rm (λr=> ?_))|(show qV ..;(refine afG aj ?_))|refine Wp.go bW rfl ?_))
  clear hgs hgf hgg hgc hg2 hlt hg
 rotate_left
 focus
  let g:Nat:=c.aA
  have hgv:tT c.giant c.aA=g:=by rw[hg];show c.aA=g;rfl
  have hg1:1<=g:=hn1
  have hg4:g<=4096:=hn2
  (repeat' ((conv=>whnf)<;>first|(show xA ..;refine Rm (λr=> ?_))|(show qV ..;(refine afG aj ?_))|refine Wp.go bW rfl ?_))
  clear hg
 all_goals
  obtain⟨Y,hY0⟩:∃Y,p8 c.aA g x (d.l.map ax.xs) c.aA 0 ⟨s.pl,qY x,none⟩=Y:=⟨_,rfl⟩
  refine Wp.loop (σ:=Nat×Nat×Ch) 10 (λq=>[(0,.lp 0 0 0 0),(1,aC x),(2,.c d.val),(7,aC c.aA),(8,aC g),(9,.c (.map (some r))),(10,.lp 6 0 0 0),(11,aC q.1)]) (λq=>al9 c vl r q.2.2) (λq=>ak3 w F s d q.2.2.s) (λq=>p8 c.aA g x (d.l.map ax.xs) q.2.1 q.1 q.2.2.pl=Y/\c.aA<=q.1+q.2.1/\q.1<=8192/\rE c (500000+6*q.1) q.2.2.s) (λq=>c.aA-q.1) (0,c.aA,⟨s,qY x,none⟩) [(7,some 2),(8,some 3),(9,some 4)] ay (λq=>⟨rfl,rfl⟩) ⟨hY0,by show c.aA<=0+c.aA;omega,Nat.zero_le _,hN.ok,hN.yF,hN.y9⟩ ⟨rfl,⟨rfl,rfl,rfl,rfl,rfl,rfl,rfl,rfl,trivial⟩,fE,λR w' h=>⟨⟨⟨h.1.1,vP _ _ _⟩,h.1.2⟩,h.2⟩⟩ ?_
  rintro⟨base,f,ys,yt,ym⟩ ⟨hY,hf,hb8,z0⟩
  simp only at hY hf hb8 z0
  by_cases hlt:base<c.aA
  focus
   obtain⟨f',rfl⟩:∃f',f=f'+1:=⟨f-1,by omega⟩
   rw[p8,if_pos hlt]at hY
   obtain⟨hi,hhi⟩:∃hi,hi=min c.aA (base+g):=⟨_,rfl⟩
   rw[<-hhi]at hY
   have hhi1:base<hi:=by omega
   have hhi2:hi<=c.aA:=by omega
   (repeat' ((conv=>whnf)<;>first|(show @iG _ _ _;(first|refine ahH (z:=(hi:Int)) aa rfl rfl ?_|refine gJ aa ?_))|(show ny ..;refine Z8 (u:=d) (l:=base) (h:=hi) rfl rfl aa aa hdc ?_)|refine Wp.go bW rfl ?_|refine mh ?_))
   have ao6:(Lu d base hi).l.length=hi-base:=La aa
   have ajg:∀u∈(Lu d base hi).l,u∈d.l:=λu hu=>List.mem_of_mem_drop (List.mem_of_mem_take hu)
   obtain⟨Z,hZ0⟩:∃Z,sN c.aA base x (((Lu d base hi).l.drop 0).map ax.xs) 0 ⟨ys.pl,yt,none⟩=Z:=⟨_,rfl⟩
   have hZg:sN c.aA base x (List.take (hi-base) (List.drop base (d.l.map ax.xs))) 0 ⟨ys.pl,yt,none⟩=Z:=by rw[<-hZ0];simp[Lu,List.map_drop,List.map_take]
   have hcr:∀R w',(wm d).holds R w'->bE w' (Lu d base hi).base 1 (bA (Lu d base hi).l):=λR w' h=>acG (bf h.1) hdc
   generalize hds':Lu d base hi=ds at*
   refine Wp.loop (σ:=Nat×Ch) 14 (λq=>[(0,.lp 0 0 0 0),(1,aC x),(2,.c d.val),(7,aC c.aA),(8,aC g),(9,.c (.map (some r))),(10,.lp 6 0 0 0),(11,aC base),(12,.lp 10 0 0 0),(57,.c ds.val),(58,aC ds.l.length),(59,aC q.1)]) (λq=>ama c vl r ym q.2) (λq=>ak3 w F s d q.2.s) (λq=>q.1<=ds.l.length/\sN c.aA base x ((ds.l.drop q.1).map ax.xs) q.1 q.2.pl=Z/\rE c (500000+6*base+4*q.1) q.2.s) (λq=>ds.l.length-q.1) (0,⟨ys,yt,none⟩) [(11,some 7),(12,some 8),(13,some 9)] ay (λq=>⟨rfl,rfl⟩) ⟨Nat.zero_le _,hZ0,z0⟩ ⟨rfl,⟨rfl,rfl,rfl,rfl,rfl,rfl,rfl,rfl,rfl,rfl,rfl,rfl,trivial⟩,fE,λR w' h=>h⟩ ?_
   clear hZ0 z0
   rintro⟨k,qs,qt,qm⟩ ⟨hkl,hZ,z0⟩
   simp only at hkl hZ z0
   by_cases hlt2:k<ds.l.length
   focus
    rw[List.drop_eq_getElem_cons hlt2,List.map_cons,sN]at hZ
    have hrow:=fQ hlt2
    have IZ:=ajg _ (List.getElem_mem hlt2)
    generalize ds.l[k]=u at*
    have iL:=hds u IZ
    refine Wp.know (p:=∃a,ds.base=some a) (λρ w' hw=>ae hw λR h=>aT (j:=k) (hcr _ _ h.1.2) (by rw[bz];exact hlt2)) ?_
    rintro⟨da,hda⟩
    rcases hdn u IZ with⟨hx0,hb0⟩|hxl
    focus
     rw[uX,if_pos hx0]at hZ
     (repeat' ((conv=>whnf)<;>first|(show dn ..;refine aM da k hda rfl hlt2 ?_)|(show gZ ..;(refine bN (λR w' h=>by rw[<-hda];exact hcr _ _ h.1.2) _ _ hrow rfl ?_))|(show mi ..;(refine q9 (ti 32 rfl) rfl (b:=true) (by rw[hb0];rfl) ?_))|refine Wp.go bW rfl ?_|refine Ib ?_|refine Hz ?_|refine mh ?_|refine ag ?_ ?_<;>intro _))
     all_goals(conv=>whnf)
     all_goals exact⟨(k+1,⟨qs,qt,qm⟩),[],⟨hlt2,hZ,z0.mono vW⟩,by show ds.l.length-(k+1)<ds.l.length-k;omega,rfl,fE,fE,λR w' h=>h⟩
    have ahC:u.xs≠[]:=λh=>by rw[h]at hxl;simp at hxl;omega
    refine Wp.know (p:=∃a,u.base=some a) (λρ w' hw=>ae hw λR h=>aT (j:=0) (bf (h.1.2.2 u IZ)) dS) ?_
    rintro⟨ua,rO⟩
    have hu1:(cutV u (c.aA-base) c.aA).xs=u.xs.drop (c.aA-base):=by show(u.xs.drop (c.aA-base)).take (c.aA-(c.aA-base))=_;rw[List.take_of_length_le zW]
    have hu2:(cutV u 0 (c.aA-base)).xs=u.xs.take (c.aA-base):=by show(u.xs.drop 0).take (c.aA-base-0)=_;rw[List.drop_zero,Nat.sub_zero]
    rcases ht:qt k with _|t
    focus
     rcases qm with _|a
     focus
      (repeat' ((conv=>whnf)<;>first|(show dn ..;refine aM da k hda rfl hlt2 ?_)|(show gZ ..;(refine bN (λR w' h=>by rw[<-hda];exact hcr _ _ h.1.2) _ _ hrow rfl ?_))|(show mi ..;(refine q9 (ti 32 rfl) rfl (b:=false) AU ?_))|(show Ce ..;(refine Ve aj ht ?_))|refine Wp.go bW rfl ?_|refine Ib ?_|refine Hz ?_|refine ag ?_ ?_<;>intro _))
      refine dM [(10,.box (jK none) 129),(6,.box (jK ym) 129),(5,.ext (lC r (pX qt)))] 0 1 11 12 13 c (qs) vl iK [.lp 0 0 0 0,aC (8),aC (x),aC (0),aC (k)] _ _ _ _ Tryz.call68 rfl rfl rfl (λR w' h=>trivial) (iV w F) (λR w' h b hb=>((h).2 b hb).1) (λw' ρ' F' h'=>gQ c (qs) vl (8) (x) (0) (k) pW w' ρ' F' h') (λ_ _=> ?_)
      have z1:=z0.lay (8) (x) (0) (k)
      (repeat' ((conv=>whnf)<;>first|(show qV ..;(refine aiP aj ?_))|(show cO _ 21 ..;refine mV [] _ abx ?_)|(show ny ..;(first|refine kS (u:=u) (l:=c.aA-base) (h:=c.aA) nV hxl.symm aa aa iL.room ?_|refine kS (u:=u) (l:=0) (h:=c.aA-base) rfl nV aa aa iL.room ?_))|(show aJ _ 129 ..;(refine xR rfl (cutV u (c.aA-base) c.aA) (cutV u 0 (c.aA-base)) (iV w F) (λR w' h b hb=>((h.1).2 b hb).1) (λR w' h=>qC (bf ((h.1).1.2.2 u IZ)) iL.room) (λR w' h=>qC (bf ((h.1).1.2.2 u IZ)) iL.room) (qp iL) (qp iL) nP nP (λm hm ms=> ?_)))|refine Wp.go bW rfl ?_|refine mh ?_|refine XD ?_|refine lS ?_))
      have hmv:m.xs=wR c.aA base u.xs:=by rw[hm,hu1,hu2];rfl
      refine dM [(10,.box (jK none) 129),(6,.box (jK ym) 129),(5,.ext (lC r (pX (λz=>if z=(k:Int)then some ((qs).code.length:Int)else qt z))))] 0 1 16 17 18 c (eH (qs) (8) (x) (0) (k)) vl ((iQ (eH (qs) (8) (x) (0) (k)).aF).and (bX m)) [.lp 0 0 0 0,.c m.val] _ _ _ _ Tryz.call130 rfl rfl rfl (λR w' h=>⟨(h.1.1).1.1.1,qX (h).2⟩) (iV w F) (λR w' h b hb=>((h.1.1).2 b hb).1) (λw' ρ' F' h'=>vO c (eH (qs) (8) (x) (0) (k)) vl m ms z1.ok.aF (by have:=z1.yF;omega) w' ρ' F' h') (λ_ _=> ?_)
      have z2:=z1.plain ms
      (repeat' ((conv=>whnf)<;>first|refine Wp.go bW rfl ?_))
      refine dM [(10,.box (jK none) 129),(6,.box (jK ym) 129),(5,.ext (lC r (pX (λz=>if z=(k:Int)then some ((qs).code.length:Int)else qt z))))] 0 1 23 24 25 c ((aS (eH (qs) (8) (x) (0) (k)) m).1) vl iK [.lp 0 0 0 0,aC (5),aC (((qs).code.length:Int)),aC (0),aC ((aS (eH (qs) (8) (x) (0) (k)) m).2)] _ _ _ _ Tryz.call68 rfl rfl rfl (λR w' h=>trivial) (iV w F) (λR w' h b hb=>((h.1.1.1).2 b hb).1) (λw' ρ' F' h'=>gQ c ((aS (eH (qs) (8) (x) (0) (k)) m).1) vl (5) (((qs).code.length:Int)) (0) ((aS (eH (qs) (8) (x) (0) (k)) m).2) Gb w' ρ' F' h') (λ_ _=> ?_)
      have z3:=z2.lay (5) (((qs).code.length:Int)) (0) ((aS (eH (qs) (8) (x) (0) (k)) m).2)
      (repeat' ((conv=>whnf)<;>first|(show aJ _ 73 ..;(refine gm bW Tryz.func73 rfl rfl rfl Tryz.call73 rfl fO ?_))|(show cO _ 1 ..;refine mV [9,10] _ xE ?_)|(show nC ..;refine iZ ?_)|refine Wp.go bW rfl ?_|refine mh ?_))
      all_goals(conv=>whnf)
      all_goals exact⟨(k+1,⟨eH ((aS (eH (qs) (8) (x) (0) (k)) m).1) (5) (((qs).code.length:Int)) (0) ((aS (eH (qs) (8) (x) (0) (k)) m).2),(λz=>if z=(k:Int)then some ((qs).code.length:Int)else qt z),some (((aS (eH (qs) (8) (x) (0) (k)) m).1).code.length:Int)⟩),[(11,some 28),(12,some 29),(13,some 30)],⟨hlt2,by rw[<-hZ,<-DU (y:=⟨qs,qt,none⟩) (x:=x) (i:=k) hmv ahC];simp only[Kb,Bl,ht,LF],z3.mono vW⟩,by show ds.l.length-(k+1)<ds.l.length-k;omega,rfl,fE,fE,λR w' h=>⟨⟨⟨(t_ ((h.1.1.1.1).1.1.1) (qX (h.1.1).2)),(lY ((h.1.1.1.1).1.1.2) (h.1.1).2)⟩,(h.1.1.1.1).1.2⟩,(h.1.1.1.1).2⟩⟩
     focus
      (repeat' ((conv=>whnf)<;>first|(show dn ..;refine aM da k hda rfl hlt2 ?_)|(show gZ ..;(refine bN (λR w' h=>by rw[<-hda];exact hcr _ _ h.1.2) _ _ hrow rfl ?_))|(show mi ..;(refine q9 (ti 32 rfl) rfl (b:=false) AU ?_))|(show Ce ..;(refine Ve aj ht ?_))|refine Wp.go bW rfl ?_|refine Ib ?_|refine Hz ?_|refine ag ?_ ?_<;>intro _))
      refine dM [(10,.box (jK (some a)) 129),(6,.box (jK ym) 129),(5,.ext (lC r (pX qt)))] 0 1 11 12 13 c (qs) vl iK [.lp 0 0 0 0,aC (8),aC (x),aC (0),aC (k)] _ _ _ _ Tryz.call68 rfl rfl rfl (λR w' h=>trivial) (iV w F) (λR w' h b hb=>((h).2 b hb).1) (λw' ρ' F' h'=>gQ c (qs) vl (8) (x) (0) (k) pW w' ρ' F' h') (λ_ _=> ?_)
      have z1:=z0.lay (8) (x) (0) (k)
      (repeat' ((conv=>whnf)<;>first|(show qV ..;(refine aiP aj ?_))|(show cO _ 21 ..;refine mV [] _ abx ?_)|(show ny ..;(first|refine kS (u:=u) (l:=c.aA-base) (h:=c.aA) nV hxl.symm aa aa iL.room ?_|refine kS (u:=u) (l:=0) (h:=c.aA-base) rfl nV aa aa iL.room ?_))|(show aJ _ 129 ..;(refine xR rfl (cutV u (c.aA-base) c.aA) (cutV u 0 (c.aA-base)) (iV w F) (λR w' h b hb=>((h.1).2 b hb).1) (λR w' h=>qC (bf ((h.1).1.2.2 u IZ)) iL.room) (λR w' h=>qC (bf ((h.1).1.2.2 u IZ)) iL.room) (qp iL) (qp iL) nP nP (λm hm ms=> ?_)))|refine Wp.go bW rfl ?_|refine mh ?_|refine XD ?_|refine lS ?_))
      have hmv:m.xs=wR c.aA base u.xs:=by rw[hm,hu1,hu2];rfl
      refine dM [(10,.box (jK (some a)) 129),(6,.box (jK ym) 129),(5,.ext (lC r (pX (λz=>if z=(k:Int)then some ((qs).code.length:Int)else qt z))))] 0 1 16 17 18 c (eH (qs) (8) (x) (0) (k)) vl ((iQ (eH (qs) (8) (x) (0) (k)).aF).and (bX m)) [.lp 0 0 0 0,.c m.val] _ _ _ _ Tryz.call130 rfl rfl rfl (λR w' h=>⟨(h.1.1).1.1.1,qX (h).2⟩) (iV w F) (λR w' h b hb=>((h.1.1).2 b hb).1) (λw' ρ' F' h'=>vO c (eH (qs) (8) (x) (0) (k)) vl m ms z1.ok.aF (by have:=z1.yF;omega) w' ρ' F' h') (λ_ _=> ?_)
      have z2:=z1.plain ms
      (repeat' ((conv=>whnf)<;>first|refine Wp.go bW rfl ?_))
      refine dM [(10,.box (jK (some a)) 129),(6,.box (jK ym) 129),(5,.ext (lC r (pX (λz=>if z=(k:Int)then some ((qs).code.length:Int)else qt z))))] 0 1 23 24 25 c ((aS (eH (qs) (8) (x) (0) (k)) m).1) vl iK [.lp 0 0 0 0,aC (5),aC (((qs).code.length:Int)),aC (0),aC ((aS (eH (qs) (8) (x) (0) (k)) m).2)] _ _ _ _ Tryz.call68 rfl rfl rfl (λR w' h=>trivial) (iV w F) (λR w' h b hb=>((h.1.1.1).2 b hb).1) (λw' ρ' F' h'=>gQ c ((aS (eH (qs) (8) (x) (0) (k)) m).1) vl (5) (((qs).code.length:Int)) (0) ((aS (eH (qs) (8) (x) (0) (k)) m).2) Gb w' ρ' F' h') (λ_ _=> ?_)
      have z3:=z2.lay (5) (((qs).code.length:Int)) (0) ((aS (eH (qs) (8) (x) (0) (k)) m).2)
      (repeat' ((conv=>whnf)<;>first|(show aJ _ 73 ..;(refine gm bW Tryz.func73 rfl rfl rfl Tryz.call73 rfl fO ?_))|(show cO _ 1 ..;refine mV [9,10] _ xE ?_)|(show nC ..;refine iZ ?_)|refine Wp.go bW rfl ?_|refine mh ?_))
      refine dM [(10,.box (jK (some a)) 129),(6,.box (jK ym) 129),(5,.ext (lC r (pX (λz=>if z=(k:Int)then some ((qs).code.length:Int)else qt z))))] 0 1 28 29 30 c (eH ((aS (eH (qs) (8) (x) (0) (k)) m).1) (5) (((qs).code.length:Int)) (0) ((aS (eH (qs) (8) (x) (0) (k)) m).2)) vl iK [.lp 0 0 0 0,aC (3),aC (a),aC ((((aS (eH (qs) (8) (x) (0) (k)) m).1).code.length:Int)),aC (0)] _ _ _ _ Tryz.call68 rfl rfl rfl (λR w' h=>trivial) (iV w F) (λR w' h b hb=>((h.1.1.1.1).2 b hb).1) (λw' ρ' F' h'=>gQ c (eH ((aS (eH (qs) (8) (x) (0) (k)) m).1) (5) (((qs).code.length:Int)) (0) ((aS (eH (qs) (8) (x) (0) (k)) m).2)) vl (3) (a) ((((aS (eH (qs) (8) (x) (0) (k)) m).1).code.length:Int)) (0) (by have:=z3.y9;omega) w' ρ' F' h') (λ_ _=> ?_)
      have z4:=z3.lay (3) (a) ((((aS (eH (qs) (8) (x) (0) (k)) m).1).code.length:Int)) (0)
      (repeat' ((conv=>whnf)<;>first|(show aJ _ 73 ..;(refine gm bW Tryz.func73 rfl rfl rfl Tryz.call73 rfl fO ?_))|(show cO _ 1 ..;refine mV [9,10] _ xE ?_)|(show nC ..;refine iZ ?_)|refine Wp.go bW rfl ?_|refine mh ?_))
      all_goals(conv=>whnf)
      all_goals exact⟨(k+1,⟨eH (eH ((aS (eH (qs) (8) (x) (0) (k)) m).1) (5) (((qs).code.length:Int)) (0) ((aS (eH (qs) (8) (x) (0) (k)) m).2)) (3) (a) ((((aS (eH (qs) (8) (x) (0) (k)) m).1).code.length:Int)) (0),(λz=>if z=(k:Int)then some ((qs).code.length:Int)else qt z),some ((eH ((aS (eH (qs) (8) (x) (0) (k)) m).1) (5) (((qs).code.length:Int)) (0) ((aS (eH (qs) (8) (x) (0) (k)) m).2)).code.length:Int)⟩),[(11,some 33),(12,some 34),(13,some 35)],⟨hlt2,by rw[<-hZ,<-DU (y:=⟨qs,qt,some a⟩) (x:=x) (i:=k) hmv ahC];simp only[Kb,Bl,ht,LF],z4.mono vW⟩,by show ds.l.length-(k+1)<ds.l.length-k;omega,rfl,fE,fE,λR w' h=>⟨⟨⟨(t_ ((h.1.1.1.1.1).1.1.1) (qX (h.1.1.1).2)),(lY ((h.1.1.1.1.1).1.1.2) (h.1.1.1).2)⟩,(h.1.1.1.1.1).1.2⟩,(h.1.1.1.1.1).2⟩⟩
    focus
     rcases qm with _|a
     focus
      (repeat' ((conv=>whnf)<;>first|(show dn ..;refine aM da k hda rfl hlt2 ?_)|(show gZ ..;(refine bN (λR w' h=>by rw[<-hda];exact hcr _ _ h.1.2) _ _ hrow rfl ?_))|(show mi ..;(refine q9 (ti 32 rfl) rfl (b:=false) AU ?_))|(show Ce ..;(refine Ve aj ht ?_))|(show cO _ 21 ..;refine mV [] _ abx ?_)|(show ny ..;(first|refine kS (u:=u) (l:=c.aA-base) (h:=c.aA) nV hxl.symm aa aa iL.room ?_|refine kS (u:=u) (l:=0) (h:=c.aA-base) rfl nV aa aa iL.room ?_))|(show aJ _ 129 ..;(refine xR rfl (cutV u (c.aA-base) c.aA) (cutV u 0 (c.aA-base)) (iV w F) (λR w' h b hb=>((h).2 b hb).1) (λR w' h=>qC (bf ((h).1.2.2 u IZ)) iL.room) (λR w' h=>qC (bf ((h).1.2.2 u IZ)) iL.room) (qp iL) (qp iL) nP nP (λm hm ms=> ?_)))|refine Wp.go bW rfl ?_|refine Ib ?_|refine Hz ?_|refine mh ?_|refine XD ?_|refine lS ?_|refine ag ?_ ?_<;>intro _))
      have hmv:m.xs=wR c.aA base u.xs:=by rw[hm,hu1,hu2];rfl
      refine dM [(10,.box (jK none) 129),(6,.box (jK ym) 129),(5,.ext (lC r (pX qt)))] 0 1 11 12 13 c (qs) vl ((iQ (qs).aF).and (bX m)) [.lp 0 0 0 0,.c m.val] _ _ _ _ Tryz.call130 rfl rfl rfl (λR w' h=>⟨(h.1).1.1.1,qX (h).2⟩) (iV w F) (λR w' h b hb=>((h.1).2 b hb).1) (λw' ρ' F' h'=>vO c (qs) vl m ms z0.ok.aF zn w' ρ' F' h') (λ_ _=> ?_)
      have z1:=z0.plain ms
      (repeat' ((conv=>whnf)<;>first|refine Wp.go bW rfl ?_))
      refine dM [(10,.box (jK none) 129),(6,.box (jK ym) 129),(5,.ext (lC r (pX qt)))] 0 1 18 19 20 c ((aS (qs) m).1) vl iK [.lp 0 0 0 0,aC (5),aC (t),aC (0),aC ((aS (qs) m).2)] _ _ _ _ Tryz.call68 rfl rfl rfl (λR w' h=>trivial) (iV w F) (λR w' h b hb=>((h.1.1).2 b hb).1) (λw' ρ' F' h'=>gQ c ((aS (qs) m).1) vl (5) (t) (0) ((aS (qs) m).2) EO w' ρ' F' h') (λ_ _=> ?_)
      have z2:=z1.lay (5) (t) (0) ((aS (qs) m).2)
      (repeat' ((conv=>whnf)<;>first|(show aJ _ 73 ..;(refine gm bW Tryz.func73 rfl rfl rfl Tryz.call73 rfl fO ?_))|(show cO _ 1 ..;refine mV [9,10] _ xE ?_)|(show nC ..;refine iZ ?_)|refine Wp.go bW rfl ?_|refine mh ?_))
      all_goals(conv=>whnf)
      all_goals exact⟨(k+1,⟨eH ((aS (qs) m).1) (5) (t) (0) ((aS (qs) m).2),qt,some (((aS (qs) m).1).code.length:Int)⟩),[(11,some 23),(12,some 24),(13,some 25)],⟨hlt2,by rw[<-hZ,<-DU (y:=⟨qs,qt,none⟩) (x:=x) (i:=k) hmv ahC];simp only[Kb,Bl,ht,LF],z2.mono vW⟩,by show ds.l.length-(k+1)<ds.l.length-k;omega,rfl,fE,fE,λR w' h=>⟨⟨⟨(t_ ((h.1.1.1).1.1.1) (qX (h.1.1).2)),(lY ((h.1.1.1).1.1.2) (h.1.1).2)⟩,(h.1.1.1).1.2⟩,(h.1.1.1).2⟩⟩
     focus
      (repeat' ((conv=>whnf)<;>first|(show dn ..;refine aM da k hda rfl hlt2 ?_)|(show gZ ..;(refine bN (λR w' h=>by rw[<-hda];exact hcr _ _ h.1.2) _ _ hrow rfl ?_))|(show mi ..;(refine q9 (ti 32 rfl) rfl (b:=false) AU ?_))|(show Ce ..;(refine Ve aj ht ?_))|(show cO _ 21 ..;refine mV [] _ abx ?_)|(show ny ..;(first|refine kS (u:=u) (l:=c.aA-base) (h:=c.aA) nV hxl.symm aa aa iL.room ?_|refine kS (u:=u) (l:=0) (h:=c.aA-base) rfl nV aa aa iL.room ?_))|(show aJ _ 129 ..;(refine xR rfl (cutV u (c.aA-base) c.aA) (cutV u 0 (c.aA-base)) (iV w F) (λR w' h b hb=>((h).2 b hb).1) (λR w' h=>qC (bf ((h).1.2.2 u IZ)) iL.room) (λR w' h=>qC (bf ((h).1.2.2 u IZ)) iL.room) (qp iL) (qp iL) nP nP (λm hm ms=> ?_)))|refine Wp.go bW rfl ?_|refine Ib ?_|refine Hz ?_|refine mh ?_|refine XD ?_|refine lS ?_|refine ag ?_ ?_<;>intro _))
      have hmv:m.xs=wR c.aA base u.xs:=by rw[hm,hu1,hu2];rfl
      refine dM [(10,.box (jK (some a)) 129),(6,.box (jK ym) 129),(5,.ext (lC r (pX qt)))] 0 1 11 12 13 c (qs) vl ((iQ (qs).aF).and (bX m)) [.lp 0 0 0 0,.c m.val] _ _ _ _ Tryz.call130 rfl rfl rfl (λR w' h=>⟨(h.1).1.1.1,qX (h).2⟩) (iV w F) (λR w' h b hb=>((h.1).2 b hb).1) (λw' ρ' F' h'=>vO c (qs) vl m ms z0.ok.aF zn w' ρ' F' h') (λ_ _=> ?_)
      have z1:=z0.plain ms
      (repeat' ((conv=>whnf)<;>first|refine Wp.go bW rfl ?_))
      refine dM [(10,.box (jK (some a)) 129),(6,.box (jK ym) 129),(5,.ext (lC r (pX qt)))] 0 1 18 19 20 c ((aS (qs) m).1) vl iK [.lp 0 0 0 0,aC (5),aC (t),aC (0),aC ((aS (qs) m).2)] _ _ _ _ Tryz.call68 rfl rfl rfl (λR w' h=>trivial) (iV w F) (λR w' h b hb=>((h.1.1).2 b hb).1) (λw' ρ' F' h'=>gQ c ((aS (qs) m).1) vl (5) (t) (0) ((aS (qs) m).2) EO w' ρ' F' h') (λ_ _=> ?_)
      have z2:=z1.lay (5) (t) (0) ((aS (qs) m).2)
      (repeat' ((conv=>whnf)<;>first|(show aJ _ 73 ..;(refine gm bW Tryz.func73 rfl rfl rfl Tryz.call73 rfl fO ?_))|(show cO _ 1 ..;refine mV [9,10] _ xE ?_)|(show nC ..;refine iZ ?_)|refine Wp.go bW rfl ?_|refine mh ?_))
      refine dM [(10,.box (jK (some a)) 129),(6,.box (jK ym) 129),(5,.ext (lC r (pX qt)))] 0 1 23 24 25 c (eH ((aS (qs) m).1) (5) (t) (0) ((aS (qs) m).2)) vl iK [.lp 0 0 0 0,aC (3),aC (a),aC ((((aS (qs) m).1).code.length:Int)),aC (0)] _ _ _ _ Tryz.call68 rfl rfl rfl (λR w' h=>trivial) (iV w F) (λR w' h b hb=>((h.1.1.1).2 b hb).1) (λw' ρ' F' h'=>gQ c (eH ((aS (qs) m).1) (5) (t) (0) ((aS (qs) m).2)) vl (3) (a) ((((aS (qs) m).1).code.length:Int)) (0) Gb w' ρ' F' h') (λ_ _=> ?_)
      have z3:=z2.lay (3) (a) ((((aS (qs) m).1).code.length:Int)) (0)
      (repeat' ((conv=>whnf)<;>first|(show aJ _ 73 ..;(refine gm bW Tryz.func73 rfl rfl rfl Tryz.call73 rfl fO ?_))|(show cO _ 1 ..;refine mV [9,10] _ xE ?_)|(show nC ..;refine iZ ?_)|refine Wp.go bW rfl ?_|refine mh ?_))
      all_goals(conv=>whnf)
      all_goals exact⟨(k+1,⟨eH (eH ((aS (qs) m).1) (5) (t) (0) ((aS (qs) m).2)) (3) (a) ((((aS (qs) m).1).code.length:Int)) (0),qt,some ((eH ((aS (qs) m).1) (5) (t) (0) ((aS (qs) m).2)).code.length:Int)⟩),[(11,some 28),(12,some 29),(13,some 30)],⟨hlt2,by rw[<-hZ,<-DU (y:=⟨qs,qt,some a⟩) (x:=x) (i:=k) hmv ahC];simp only[Kb,Bl,ht,LF],z3.mono vW⟩,by show ds.l.length-(k+1)<ds.l.length-k;omega,rfl,fE,fE,λR w' h=>⟨⟨⟨(t_ ((h.1.1.1.1).1.1.1) (qX (h.1.1.1).2)),(lY ((h.1.1.1.1).1.1.2) (h.1.1.1).2)⟩,(h.1.1.1.1).1.2⟩,(h.1.1.1.1).2⟩⟩
   obtain rfl:k=ds.l.length:=by omega
   rw[List.drop_length]at hZ
   have hZ:(⟨qs,qt,qm⟩:Ch).pl=Z:=hZ
   have hS:sV c.aA base x (Ch.pl ⟨ys,yt,ym⟩) (List.take (hi-base) (List.drop base (d.l.map ax.xs)))=(CX base ym ⟨qs,qt,qm⟩).pl:=(adZ (y:=Ch.pl ⟨ys,yt,ym⟩) (hZg.trans hZ.symm)).symm
   rw[hS]at hY
   clear hS hZ hZg hcr ajg hkl hds'
   have hkg:ds.l.length<=g:=by omega
   rcases qm with _|a
   focus
    (repeat' ((conv=>whnf)<;>first|(show @iG _ _ _;refine jc aa ?_)|refine Wp.go bW rfl ?_|refine mh ?_))
    all_goals(conv=>whnf)
    all_goals exact⟨(base+g,f',⟨qs,qt,ym⟩),[(7,some 11),(8,some 12),(9,some 13)],⟨by rw[<-hY];simp only[CX],by show c.aA<=base+g+f';omega,by show base+g<=8192;omega,z0.mono vY⟩,by show c.aA-(base+g)<c.aA-base;omega,rfl,fE,fE,λR w' h=>⟨⟨⟨(h).1.1.1,(h).1.1.2⟩,(h).1.2⟩,(h).2⟩⟩
   rcases Nat.lt_or_ge 0 base with hb|hb
   focus
    rcases ym with _|b
    focus
     (repeat' ((conv=>whnf)<;>first|(show @iG _ _ _;refine gJ aa ?_)|refine Wp.go bW rfl ?_|refine Ib ?_|refine Hz ?_|refine ag ?_ ?_<;>intro _))
     refine dM [(10,.box (jK (some a)) 129),(6,.box (jK none) 129),(5,.ext (lC r (pX qt)))] 0 1 11 12 13 c (qs) vl iK [.lp 0 0 0 0,aC (8),aC (a),aC (0),aC (base)] _ _ _ _ Tryz.call68 rfl rfl rfl (λR w' h=>trivial) (iV w F) (λR w' h b hb=>((h).2 b hb).1) (λw' ρ' F' h'=>gQ c (qs) vl (8) (a) (0) (base) pW w' ρ' F' h') (λ_ _=> ?_)
     have z1:=z0.lay (8) (a) (0) (base)
     (repeat' ((conv=>whnf)<;>first|(show aJ _ 73 ..;(refine gm bW Tryz.func73 rfl rfl rfl Tryz.call73 rfl fO ?_))|(show cO _ 1 ..;refine mV [9,10] _ xE ?_)|(show nC ..;refine iZ ?_)|refine Wp.go bW rfl ?_|refine mh ?_))
     all_goals(conv=>whnf)
     all_goals exact⟨(base+g,f',⟨eH (qs) (8) (a) (0) (base),qt,some ((qs).code.length:Int)⟩),[(7,some 16),(8,some 17),(9,some 18)],⟨by rw[<-hY];simp only[CX,LF,if_pos hb],by show c.aA<=base+g+f';omega,by show base+g<=8192;omega,z1.mono vY⟩,by show c.aA-(base+g)<c.aA-base;omega,rfl,fE,fE,λR w' h=>⟨⟨⟨(h.1).1.1.1,(h.1).1.1.2⟩,(h.1).1.2⟩,(h.1).2⟩⟩
    focus
     (repeat' ((conv=>whnf)<;>first|(show @iG _ _ _;refine gJ aa ?_)|refine Wp.go bW rfl ?_|refine Ib ?_|refine Hz ?_|refine ag ?_ ?_<;>intro _))
     refine dM [(10,.box (jK (some a)) 129),(6,.box (jK (some b)) 129),(5,.ext (lC r (pX qt)))] 0 1 11 12 13 c (qs) vl iK [.lp 0 0 0 0,aC (8),aC (a),aC (0),aC (base)] _ _ _ _ Tryz.call68 rfl rfl rfl (λR w' h=>trivial) (iV w F) (λR w' h b hb=>((h).2 b hb).1) (λw' ρ' F' h'=>gQ c (qs) vl (8) (a) (0) (base) pW w' ρ' F' h') (λ_ _=> ?_)
     have z1:=z0.lay (8) (a) (0) (base)
     (repeat' ((conv=>whnf)<;>first|(show aJ _ 73 ..;(refine gm bW Tryz.func73 rfl rfl rfl Tryz.call73 rfl fO ?_))|(show cO _ 1 ..;refine mV [9,10] _ xE ?_)|(show nC ..;refine iZ ?_)|refine Wp.go bW rfl ?_|refine mh ?_))
     refine dM [(10,.box (jK (some ((qs).code.length:Int))) 129),(6,.box (jK (some b)) 129),(5,.ext (lC r (pX qt)))] 0 1 16 17 18 c (eH (qs) (8) (a) (0) (base)) vl iK [.lp 0 0 0 0,aC (3),aC (b),aC (((qs).code.length:Int)),aC (0)] _ _ _ _ Tryz.call68 rfl rfl rfl (λR w' h=>trivial) (iV w F) (λR w' h b hb=>((h.1).2 b hb).1) (λw' ρ' F' h'=>gQ c (eH (qs) (8) (a) (0) (base)) vl (3) (b) (((qs).code.length:Int)) (0) EO w' ρ' F' h') (λ_ _=> ?_)
     have z2:=z1.lay (3) (b) (((qs).code.length:Int)) (0)
     (repeat' ((conv=>whnf)<;>first|(show aJ _ 73 ..;(refine gm bW Tryz.func73 rfl rfl rfl Tryz.call73 rfl fO ?_))|(show cO _ 1 ..;refine mV [9,10] _ xE ?_)|(show nC ..;refine iZ ?_)|refine Wp.go bW rfl ?_|refine mh ?_))
     all_goals(conv=>whnf)
     all_goals exact⟨(base+g,f',⟨eH (eH (qs) (8) (a) (0) (base)) (3) (b) (((qs).code.length:Int)) (0),qt,some ((eH (qs) (8) (a) (0) (base)).code.length:Int)⟩),[(7,some 21),(8,some 22),(9,some 23)],⟨by rw[<-hY];simp only[CX,LF,if_pos hb],by show c.aA<=base+g+f';omega,by show base+g<=8192;omega,z2.mono vY⟩,by show c.aA-(base+g)<c.aA-base;omega,rfl,fE,fE,λR w' h=>⟨⟨⟨(h.1.1).1.1.1,(h.1.1).1.1.2⟩,(h.1.1).1.2⟩,(h.1.1).2⟩⟩
   focus
    have hb:¬0<base:=by omega
    rcases ym with _|b
    focus
     (repeat' ((conv=>whnf)<;>first|(show @iG _ _ _;refine jc aa ?_)|(show aJ _ 73 ..;(refine gm bW Tryz.func73 rfl rfl rfl Tryz.call73 rfl fO ?_))|(show cO _ 1 ..;refine mV [9,10] _ xE ?_)|(show nC ..;refine iZ ?_)|refine Wp.go bW rfl ?_|refine mh ?_))
     all_goals(conv=>whnf)
     all_goals exact⟨(base+g,f',⟨qs,qt,some a⟩),[(7,some 11),(8,some 12),(9,some 13)],⟨by rw[<-hY];simp only[CX,LF,if_neg hb],by show c.aA<=base+g+f';omega,by show base+g<=8192;omega,z0.mono vY⟩,by show c.aA-(base+g)<c.aA-base;omega,rfl,fE,fE,λR w' h=>⟨⟨⟨(h).1.1.1,(h).1.1.2⟩,(h).1.2⟩,(h).2⟩⟩
    focus
     (repeat' ((conv=>whnf)<;>first|(show @iG _ _ _;refine jc aa ?_)|(show aJ _ 73 ..;(refine gm bW Tryz.func73 rfl rfl rfl Tryz.call73 rfl fO ?_))|(show cO _ 1 ..;refine mV [9,10] _ xE ?_)|(show nC ..;refine iZ ?_)|refine Wp.go bW rfl ?_|refine mh ?_))
     refine dM [(10,.box (jK (some a)) 129),(6,.box (jK (some b)) 129),(5,.ext (lC r (pX qt)))] 0 1 11 12 13 c (qs) vl iK [.lp 0 0 0 0,aC (3),aC (b),aC (a),aC (0)] _ _ _ _ Tryz.call68 rfl rfl rfl (λR w' h=>trivial) (iV w F) (λR w' h b hb=>((h).2 b hb).1) (λw' ρ' F' h'=>gQ c (qs) vl (3) (b) (a) (0) pW w' ρ' F' h') (λ_ _=> ?_)
     have z1:=z0.lay (3) (b) (a) (0)
     (repeat' ((conv=>whnf)<;>first|(show aJ _ 73 ..;(refine gm bW Tryz.func73 rfl rfl rfl Tryz.call73 rfl fO ?_))|(show cO _ 1 ..;refine mV [9,10] _ xE ?_)|(show nC ..;refine iZ ?_)|refine Wp.go bW rfl ?_|refine mh ?_))
     all_goals(conv=>whnf)
     all_goals exact⟨(base+g,f',⟨eH (qs) (3) (b) (a) (0),qt,some ((qs).code.length:Int)⟩),[(7,some 16),(8,some 17),(9,some 18)],⟨by rw[<-hY];simp only[CX,LF,if_neg hb],by show c.aA<=base+g+f';omega,by show base+g<=8192;omega,z1.mono vY⟩,by show c.aA-(base+g)<c.aA-base;omega,rfl,fE,fE,λR w' h=>⟨⟨⟨(h.1).1.1.1,(h.1).1.1.2⟩,(h.1).1.2⟩,(h.1).2⟩⟩
  rw[Zt hlt]at hY
  subst hY
  rw[<-hgv]at hY0
  rcases ym with _|a
  focus
   (repeat' ((conv=>whnf)<;>first|(show @iG _ _ _;refine jc aa ?_)|refine Wp.go bW rfl ?_|refine mh ?_))
   refine dM [(6,.box (jK none) 129),(5,.ext (lC r (pX yt)))] 0 1 7 8 9 c (ys) vl (iQ (ys).aF) [.lp 0 0 0 0,aC (x)] _ _ _ _ Tryz.call74 rfl rfl rfl (λR w' h=>(h).1.1.1) (iV w F) (λR w' h b hb=>((h).2 b hb).1) (λw' ρ' F' h'=>We c (ys) vl (x) hn2 z0.ok.aF zn pW w' ρ' F' h') (λu ⟨hu,hsu⟩=> ?_)
   have z1:=z0.zero hsu (x)
   (repeat' ((conv=>whnf)<;>first|refine Wp.go bW rfl ?_))
   all_goals(conv=>whnf)
   have e:nG c.aA c.giant s.pl x (d.l.map ax.xs)=((zeroV (ys) u (x)).pl,((ys).code.length:Int)):=by unfold nG;rw[hY0];exact Qg hu
   all_goals exact lH _ _ _ _ (zeroV (ys) u (x),(((ys).code.length:Int):Int)) [(2,some 12),(3,some 13),(4,some 14)] ⟨(congrArg Prod.fst e).symm,(congrArg Prod.snd e).symm,z1.ok⟩ ay rfl rfl rfl rfl fE (λR w' h=>⟨(h.1).2,(lY ((h.1).1.1.2) (h).2)⟩)
  focus
   (repeat' ((conv=>whnf)<;>first|(show @iG _ _ _;refine jc aa ?_)|refine Wp.go bW rfl ?_|refine mh ?_))
   all_goals(conv=>whnf)
   have e:nG c.aA c.giant s.pl x (d.l.map ax.xs)=((ys).pl,a):=by unfold nG;rw[hY0];rfl
   all_goals exact lH _ _ _ _ (ys,(a:Int)) [(2,some 7),(3,some 8),(4,some 9)] ⟨(congrArg Prod.fst e).symm,(congrArg Prod.snd e).symm,z0.ok⟩ ay rfl rfl rfl rfl fE (λR w' h=>⟨(h).2,(h).1.1.2⟩)
end
def pO(g:Nat->Int->Int):Nat->List Int->Int
 |_,[]=>0
 |i,w::r=>g i w+pO g (i+1) r
def Q7(g:Nat->Int->Int):List Sp->Int
 |[]=>0
 |t::r=>g t.2.toNat t.1+Q7 g r
def Br(r:List Int)(t:Sp):List Int:=r.set t.2.toNat t.1
theorem CU(g:Nat->Int->Int):∀(a b:List Int) (i:Nat),pO g i (a++b)=pO g i a+pO g (i+a.length) b
 |[],b,i=>by simp[pO]
 |x::r,b,i=>by
  rw[List.cons_append,pO,pO,CU g r b (i+1),List.length_cons,show i+1+r.length=i+(r.length+1) by omega]
  omega
theorem XX(g:Nat->Int->Int){v:Int}:∀{r:List Int} {i j:Nat},j<r.length->r.getD j 0=0->g (i+j) 0=0->pO g i (r.set j v)=pO g i r+g (i+j) v
 |[],i,j,h,_,_=>by simp at h
 |x::r,i,0,_,h0,hg=>by
  have hx:x=0:=by simpa using h0
  subst hx
  rw[List.set_cons_zero,pO,pO]
  simp only[Nat.add_zero]at hg|-
  omega
 |x::r,i,j+1,h,h0,hg=>by
  rw[List.set_cons_succ,pO,pO,XX g (i:=i+1) wU (by simpa using h0) (by rw[show i+1+j=i+(j+1) by omega];exact hg),show i+1+j=i+(j+1) by omega]
  omega
theorem Sw(g:Nat->Int->Int)(hg:∀k,g k 0=0):∀(n i:Nat),pO g i (List.replicate n 0)=0
 |0,i=>rfl
 |n+1,i=>by rw[List.replicate_succ,pO,hg,Sw g hg n (i+1)];rfl
theorem Lb(r:List Int)(t:Sp):(Br r t).length=r.length:=by simp[Br]
theorem Iy:∀(T:List Sp) (r:List Int),(T.foldl Br r).length=r.length
 |[],r=>rfl
 |t::T,r=>by rw[List.foldl_cons,Iy T,Lb]
theorem Qr(g:Nat->Int->Int)(hg:∀k,g k 0=0):∀{T:List Sp} {r:List Int},(∀t∈T,(0<=t.2/\t.2<r.length)/\r.getD t.2.toNat 0=0)->T.Pairwise (λx y=>x.2≠y.2)->pO g 0 (T.foldl Br r)=pO g 0 r+Q7 g T
 |[],r,_,_=>by simp[Q7]
 |t::T,r,h,hp=>by
  obtain⟨hp1,hp2⟩:=List.pairwise_cons.1 hp
  obtain⟨⟨h1,h2⟩,h3⟩:=h t List.mem_cons_self
  rw[List.foldl_cons,Qr g hg (T:=T) (r:=Br r t) (λu hu=> ?_) hp2]
  ·have e:pO g 0 (Br r t)=pO g 0 r+g t.2.toNat t.1:=by
    have:=XX g (v:=t.1) (r:=r) (i:=0) (j:=t.2.toNat) aa h3 (hg _)
    rw[Nat.zero_add]at this
    exact this
   rw[e,Q7];omega
  ·obtain⟨g1,g2⟩:=h u (List.mem_cons_of_mem _ hu)
   refine⟨by rw[Lb];exact g1,?_⟩
   have hne:=hp1 u hu
   unfold Br
   rw[List.getD_eq_getElem?_getD,List.getElem?_set_ne aa,<-List.getD_eq_getElem?_getD]
   exact g2
def Lm(av:List Int)(i:Nat)(w:Int):Int:=w*av.getD i 0
theorem adM(av:List Int)(k:Nat):Lm av k 0=0:=by unfold Lm;omega
theorem Rq(av:List Int):∀(T:List Sp) (s:Int),T.foldl (FP av) s=s+Q7 (Lm av) T
 |[],s=>by simp[Q7]
 |t::T,s=>by
  rw[List.foldl_cons,Rq av T,Q7]
  have e1:FP av s t=s+t.1*av.getD t.2.toNat 0:=rfl
  have e2:Lm av t.2.toNat t.1=t.1*av.getD t.2.toNat 0:=rfl
  omega
theorem Cw{A B x y m:Int}(hx:0<=x/\x<m)(hy:0<=y/\y<m)(h:A*m+x=B*m+y):A=B/\x=y:=by
 have hm:0<m:=by omega
 have e1:(A*m+x)/m=A:=by rw[Int.add_comm,Int.add_mul_ediv_right _ _ aa,Int.ediv_eq_zero_of_lt hx.1 hx.2];omega
 have e2:(B*m+y)/m=B:=by rw[Int.add_comm,Int.add_mul_ediv_right _ _ aa,Int.ediv_eq_zero_of_lt hy.1 hy.2];omega
 have:A=B:=by rw[<-e1,<-e2,h]
 subst this
 exact⟨rfl,by omega⟩
theorem BR{i j m:Int}(_hm:0<m)(h1:i/m=j/m)(h2:i%m=j%m):i=j:=by
 have q1:=Int.mul_ediv_add_emod i m
 have q2:=Int.mul_ediv_add_emod j m
 rw[h1,h2]at q1
 omega
theorem ae9{d:List Int}{k1 k2 k3 i1 i2 o:Int}{i j:Nat}(h2:1<=k2/\k2<=i1)(h3:1<=k3/\k3<=i2)(ho:0<=o)(h:(gY d k1 k2 k3 i1 i2 o i).2=(gY d k1 k2 k3 i1 i2 o j).2):i=j:=by
 have hW:0<i2-k3+1:=by omega
 have hH:0<i1-k2+1:=by omega
 obtain⟨d1,d2,d3,d4⟩:=jI ho hW
 obtain⟨d5,d6,d7,d8⟩:=jI d1 hH
 have c3:=Int.emod_nonneg (i:Int) (show k3≠0 by omega)
 have c4:=Int.emod_lt_of_pos (i:Int) (show 0<k3 by omega)
 have e3:=Int.emod_nonneg (j:Int) (show k3≠0 by omega)
 have e4:=Int.emod_lt_of_pos (j:Int) (show 0<k3 by omega)
 have c7:=Int.emod_nonneg ((i:Int)/k3) (show k2≠0 by omega)
 have c8:=Int.emod_lt_of_pos ((i:Int)/k3) (show 0<k2 by omega)
 have e7:=Int.emod_nonneg ((j:Int)/k3) (show k2≠0 by omega)
 have e8:=Int.emod_lt_of_pos ((j:Int)/k3) (show 0<k2 by omega)
 have h':((i:Int)/k3/k2*i1+o/(i2-k3+1)%(i1-k2+1)+(i:Int)/k3%k2)*i2+o%(i2-k3+1)+(i:Int)%k3=((j:Int)/k3/k2*i1+o/(i2-k3+1)%(i1-k2+1)+(j:Int)/k3%k2)*i2+o%(i2-k3+1)+(j:Int)%k3:=h
 rw[Int.add_assoc,Int.add_assoc _ _ ((j:Int)%k3)]at h'
 obtain⟨q1,q2⟩:=Cw ⟨by omega,by omega⟩ ⟨by omega,by omega⟩ h'
 rw[Int.add_assoc,Int.add_assoc _ _ ((j:Int)/k3%k2)]at q1
 obtain⟨q3,q4⟩:=Cw ⟨by omega,by omega⟩ ⟨by omega,by omega⟩ q1
 have q5:=BR aa q3 (show(i:Int)/k3%k2=(j:Int)/k3%k2 by omega)
 have q6:=BR aa q5 (show(i:Int)%k3=(j:Int)%k3 by omega)
 omega
theorem ag3{z i1 i2 o:Int}{i j:Nat}(hz:1<=z)(h1:z<=i1)(h2:z<=i2)(m1:i1%z=0)(m2:i2%z=0)(ho:0<=o)(hi:(i:Int)<z*z)(hj:(j:Int)<z*z)(h:(iN z i1 i2 o i).2=(iN z i1 i2 o j).2):i=j:=by
 have hW:=uq (x:=i2) (y:=z) aa h2
 have hH:=uq (x:=i1) (y:=z) aa h1
 have q1:=Int.mul_ediv_add_emod i1 z
 have q2:=Int.mul_ediv_add_emod i2 z
 obtain⟨d1,d2,d3,d4⟩:=jI (x:=o) (y:=i2/z) ho aa
 obtain⟨d5,d6,d7,d8⟩:=jI (x:=o/(i2/z)) (y:=i1/z) d1 aa
 obtain⟨c1,c2,c3,c4⟩:=jI (x:=(i:Int)) (y:=z) aa aa
 obtain⟨e1,e2,e3,e4⟩:=jI (x:=(j:Int)) (y:=z) aa aa
 have hdy:(i:Int)/z<z:=Int.ediv_lt_of_lt_mul aa hi
 have hdj:(j:Int)/z<z:=Int.ediv_lt_of_lt_mul aa hj
 have h':(o/(i2/z)/(i1/z)*i1+o/(i2/z)%(i1/z)*z+(i:Int)/z)*i2+o%(i2/z)*z+(i:Int)%z=(o/(i2/z)/(i1/z)*i1+o/(i2/z)%(i1/z)*z+(j:Int)/z)*i2+o%(i2/z)*z+(j:Int)%z:=h
 have y0:0<=o/(i2/z)%(i1/z)*z:=Int.mul_nonneg d7 aa
 have x0:0<=o%(i2/z)*z:=Int.mul_nonneg d3 aa
 have y1:o/(i2/z)%(i1/z)*z<=(i1/z-1)*z:=Int.mul_le_mul_of_nonneg_right aa aa
 have x1:o%(i2/z)*z<=(i2/z-1)*z:=Int.mul_le_mul_of_nonneg_right aa aa
 have y2:(i1/z-1)*z=z*(i1/z)-z:=by rw[Int.sub_mul,Int.one_mul,Int.mul_comm]
 have x2:(i2/z-1)*z=z*(i2/z)-z:=by rw[Int.sub_mul,Int.one_mul,Int.mul_comm]
 rw[Int.add_assoc,Int.add_assoc _ _ ((j:Int)%z)]at h'
 obtain⟨g1,g2⟩:=Cw ⟨by omega,by omega⟩ ⟨by omega,by omega⟩ h'
 have q6:=BR aa (show(i:Int)/z=(j:Int)/z by omega) (show(i:Int)%z=(j:Int)%z by omega)
 omega
section
def qZ(n:ak)(tl:List Int)(o:Nat):List Int:=
 if n.ai=3 then(n.data.xs.drop (o*(au tl).toNat)).take (au tl).toNat else(dZ n tl o).foldl Br (List.replicate (au tl).toNat 0)
def TW(n:ak)(tl:List Int)(cnt:Nat):List (List Int):=(List.range cnt).map (qZ n tl)
def Tx(n:ak)(cnt:Nat):List Int:=(List.range cnt).map (dV n cnt)
theorem wH{f:Nat->Sp}{m:Nat}(h:∀i j,i<m->j<m->(f i).2=(f j).2->i=j):((List.range m).map f).Pairwise (λx y=>x.2≠y.2):=by
 rw[List.pairwise_map]
 refine List.Pairwise.imp_of_mem ?_ (List.pairwise_lt_range (n:=m))
 intro i j hi hj hlt e
 have:=h i j (List.mem_range.1 hi) (List.mem_range.1 hj) e
 omega
structure ajE(n:ak)(t:List Int):Prop where
 k2:1<=n.az.xs.getD 2 0/\n.az.xs.getD 2 0<=t.getD 1 0
 k3:1<=n.az.xs.getD 3 0/\n.az.xs.getD 3 0<=t.getD 2 0
variable {sh:List (List Int)} {s t:List Int} {cnt:Nat}
theorem Vf{n:ak}(h:gN n sh s t cnt)(hk:n.ai=4):ajE n t:=by
 have hsh:=h.node.az
 have QW:=(dJ h.node.form).acS hk
 obtain⟨hl4,acD⟩:=uu QW
 have dm2:=acD _ (cu (xs:=n.az.xs) (k:=2) aa)
 have dm3:=acD _ (cu (xs:=n.az.xs) (k:=3) aa)
 unfold bP at hsh
 rw[if_neg aa,if_neg aa,if_pos hk,(h.first (.inr (.inl hk))).1]at hsh
 split at hsh
 ·cases hsh
 ·exact⟨by omega,by omega⟩
structure ajA(n:ak)(t:List Int):Prop where
 z:1<=n.size
 z1:n.size<=t.getD 1 0
 z2:n.size<=t.getD 2 0
 m1:t.getD 1 0%n.size=0
 m2:t.getD 2 0%n.size=0
theorem TS{n:ak}(h:gN n sh s t cnt)(hk:n.ai=5):ajA n t:=by
 have hsh:=h.node.az
 have hz:=(dJ h.node.form).pool hk
 obtain⟨hf,hg⟩:=h.first (.inr (.inr hk))
 unfold bP at hsh
 rw[if_neg aa,if_neg aa,if_neg aa,if_pos hk,hf]at hsh
 split at hsh
 ·cases hsh
 ·rename_i hbad
  have YR:=(g_ hg).2.2
  have td1:=YR _ (cu (xs:=t) (k:=1) aa)
  have td2:=YR _ (cu (xs:=t) (k:=2) aa)
  have m1:t.getD 1 0%n.size=0:=by omega
  have m2:t.getD 2 0%n.size=0:=by omega
  refine⟨by omega,?_,?_,m1,m2⟩
  ·rcases(by omega:t.getD 1 0<n.size\/n.size<=t.getD 1 0)with hlt|hge
   ·rw[Int.emod_eq_of_lt aa hlt]at m1;omega
   ·exact hge
  ·rcases(by omega:t.getD 2 0<n.size\/n.size<=t.getD 2 0)with hlt|hge
   ·rw[Int.emod_eq_of_lt aa hlt]at m2;omega
   ·exact hge
theorem afI{n:ak}(h:gN n sh s t cnt)(hl:eF n)(hk3:n.ai≠3)(o:Nat):(dZ n t o).Pairwise (λx y=>x.2≠y.2):=by
 rcases hl with hk|hk|hk
 ·exact absurd hk hk3
 ·have c:=Vf h hk
  have hG:dZ n t o=CS n.data.xs (n.az.xs.getD 1 0) (n.az.xs.getD 2 0) (n.az.xs.getD 3 0) (t.getD 1 0) (t.getD 2 0) o:=by unfold dZ;rw[if_neg aa,if_pos hk]
  rw[hG]
  exact wH λi j _ _ e=>ae9 c.k2 c.k3 aa e
 ·have c:=TS h hk
  have hG:dZ n t o=CQ n.size (t.getD 1 0) (t.getD 2 0) o:=by unfold dZ;rw[if_neg aa,if_neg aa]
  rw[hG]
  exact wH λi j hi hj e=>ag3 c.z c.z1 c.z2 c.m1 c.m2 aa aa aa e
theorem P8(g:Nat->Int->Int)(f:Nat->Int):∀(m i:Nat),Q7 g ((List.range' i m).map λk=>(f k,(k:Int)))=pO g i ((List.range' i m).map f)
 |0,i=>rfl
 |m+1,i=>by
  rw[List.range'_succ,List.map_cons,List.map_cons,Q7,pO,P8 g f m (i+1)]
  simp
theorem ah3{n:ak}(h:gN n sh s t cnt)(hl:eF n){o:Nat}(ho:o<cnt)(g:Nat->Int->Int)(hg:∀k,g k 0=0):pO g 0 (qZ n t o)=Q7 g (dZ n t o):=by
 obtain⟨F,P0,hL⟩:=gN.lin (t:=⟨none,0,t⟩) h hl
 by_cases hk:n.ai=3
 ·have hG:dZ n t o=uK n o (au t).toNat:=by unfold dZ;rw[if_pos hk]
  have hR:qZ n t o=(n.data.xs.drop (o*(au t).toNat)).take (au t).toNat:=if_pos hk
  rw[hG,hR]
  unfold uK
  have hsh:=h.node.az
  have hc:=h.cnt
  obtain⟨hf,hgp⟩:=h.first hl
  obtain⟨b1,b2⟩:=(dJ h.node.form).aQ hk
  unfold bP at hsh
  rw[if_neg aa,if_pos hk,hf]at hsh
  split at hsh
  ·rename_i hdl
   rw[Option.some.injEq]at hsh
   have he1:au [(n.aQ.xs.length:Int)]=n.aQ.xs.length:=by
    unfold au
    rw[if_neg aI]
    simp only[dX]
    rw[if_neg aa]
    omega
   rw[<-hsh,he1]at hc
   obtain⟨size,hsz⟩:∃size:Nat,au t=size:=⟨(au t).toNat,by omega⟩
   have ad8:n.data.xs.length=n.aQ.xs.length*size:=by
    rw[hsz,<-Int.natCast_mul]at hdl
    exact Int.ofNat.inj hdl
   rw[hsz,Int.toNat_natCast]
   have hle:o*size+size<=n.data.xs.length:=by
    have:(o+1)*size<=n.aQ.xs.length*size:=Nat.mul_le_mul_right _ aa
    rw[Nat.add_mul,Nat.one_mul]at this
    omega
   have e:=P8 g (λi=>n.data.xs.getD (o*size+i) 0) size 0
   rw[<-List.range_eq_range']at e
   rw[e]
   congr 1
   apply List.ext_getElem
   ·simp;omega
   ·intro i h1 h2
    rw[List.getElem_take,List.getElem_drop,List.getElem_map,List.getElem_range,List.getD_eq_getElem?_getD,List.getElem?_eq_getElem]
    rfl
  ·cases hsh
 ·have hR:qZ n t o=(dZ n t o).foldl Br (List.replicate (au t).toNat 0):=if_neg hk
  rw[hR,Qr g hg (λu hu=> ?_) (afI h hl hk o),Sw g hg]
  ·omega
  ·have:0<=u.2/\u.2<au t:=hL.at_ o ho u hu
   rw[List.length_replicate]
   refine⟨by omega,?_⟩
   rw[List.getD_eq_getElem?_getD,List.getElem?_replicate]
   split<;>rfl
end
structure ahA where
 rows:aY
 aQ:ax
 own:Bool
def ahA.val(x:ahA):Value:= .tuple #[x.rows.val,x.aQ.val]
structure aa_(n:ak)(tl:List Int)(cnt:Nat)(x:ahA):Prop where
 rows:x.rows.l.map ax.xs=TW n tl cnt
 aQ:x.aQ.xs=Tx n cnt
 bF:∀u∈x.rows.l,u.bF
 al0:x.aQ.bF
 old:x.own=false->x.aQ=n.aQ/\∀w,n.data.ok w->∀u∈x.rows.l,u.ok w
section
variable {x:Int}
theorem mul_add_div{A m:Int}(hx:0<=x/\x<m):(A*m+x)/m=A/\(A*m+x)%m=x:=by
 have hm:0<m:=by omega
 constructor
 ·rw[Int.add_comm,Int.add_mul_ediv_right _ _ aa,Int.ediv_eq_zero_of_lt hx.1 hx.2];omega
 ·rw[Int.add_comm,Int.add_mul_emod_self_right,Int.emod_eq_of_lt hx.1 hx.2]
theorem akj{c y H W o:Int}(ho:o=(c*H+y)*W+x)(hx:0<=x/\x<W)(hy:0<=y/\y<H):o/W/H=c/\o/W%H=y/\o%W=x:=by
 subst ho
 rw[(mul_add_div hx).1,(mul_add_div hx).2,(mul_add_div hy).1,(mul_add_div hy).2]
 exact⟨rfl,rfl,rfl⟩
variable {v:Int}
theorem aai{r:List Int}{k:Nat}{K:List (List Value)->Prop}(hk:k<r.length)(h:K (aZ (r.set k v))):dH (aZ r) k 0 [.int .i64 v] K:=by
 refine jq _ (eO hk) kQ ?_
 have e:(aZ r).set k (cB [Value.int .i64 r[k]] 0 [.int .i64 v])=aZ (r.set k v):=by
  have e2:cB [Value.int .i64 r[k]] 0 [.int .i64 v]=[Value.int .i64 v]:=rfl
  rw[e2]
  simp[aZ,List.map_set]
 rw[e];exact h
theorem Mg{a:Addr}{j:Nat}{S:bR}{xs:List Int}{K:SV->Prop}(hx:∀R w,S.holds R w->bE w (some a) 1 (aZ xs))(hj:j<xs.length)(e:xs.getD j 0=v)(h:K (aC v)):gZ (a.add (j*1)) S K:=by
 subst e;exact dP hx hj h
structure Jg(n:ak)(tl:List Int)(us:List ax)(o:Nat):Prop where
 rows:us.map ax.xs=(List.range o).map (qZ n tl)
 bF:∀u∈us,u.bF
variable {tl:List Int} {us:List ax} {o:Nat}
theorem Jg.len{n:ak}(h:Jg n tl us o):us.length=o:=by
 have:=congrArg List.length h.rows
 simpa using this
theorem Jg.next{n:ak}{u:ax}(h:Jg n tl us o)(hu:u.bF)(hx:u.xs=qZ n tl o):Jg n tl (us++[u]) (o+1):=by
 refine⟨by rw[List.map_append,h.rows,List.range_succ,List.map_append,List.map_cons,List.map_nil,List.map_cons,List.map_nil,hx],λv hv=> ?_⟩
 rcases List.mem_append.1 hv with hv|hv
 ·exact h.bF v hv
 ·rw[List.mem_singleton.1 hv];exact hu
end
theorem YY{o k1 c k0:Int}(ho:0<=o/\o<k0)(hc:0<=c/\c<k1):o*k1+c<k0*k1:=by
 have u:(o+1)*k1<=k0*k1:=Int.mul_le_mul_of_nonneg_right aa aa
 rw[Int.add_mul,Int.one_mul]at u
 omega
structure ZA(n:ak)(tl:List Int)(cnt:Nat)(us:List ax)(bs:List Int)(m:Nat):Prop where
 rows:Jg n tl us m
 aQ:bs=(List.range m).map (dV n cnt)
theorem ZA.next{n:ak}{tl:List Int}{cnt:Nat}{us:List ax}{bs:List Int}{m:Nat}{u:ax}{b:Int}(h:ZA n tl cnt us bs m)(hu:u.bF)(hx:u.xs=qZ n tl m)(hb:dV n cnt m=b):ZA n tl cnt (us++[u]) (bs++[b]) (m+1):=
 ⟨h.rows.next hu hx,by rw[h.aQ,<-hb,List.range_succ,List.map_append];rfl⟩
def zO(n:ak)(tl:List Int)(o i:Int):Int:=
 if n.ai=3 then n.data.xs.getD (o*au tl+i).toNat 0
 else if n.ai=4 then
  (let y:=i/tl.getD 2 0%tl.getD 1 0-o/(tl.getD 2 0-n.az.xs.getD 3 0+1)%(tl.getD 1 0-n.az.xs.getD 2 0+1)
   let x:=i%tl.getD 2 0-o%(tl.getD 2 0-n.az.xs.getD 3 0+1)
   if y<0\/n.az.xs.getD 2 0<=y\/x<0\/n.az.xs.getD 3 0<=x then 0
   else n.data.xs.getD (((o/(tl.getD 2 0-n.az.xs.getD 3 0+1)/(tl.getD 1 0-n.az.xs.getD 2 0+1)*n.az.xs.getD 1 0+i/tl.getD 2 0/tl.getD 1 0)*n.az.xs.getD 2 0+y)*n.az.xs.getD 3 0+x).toNat 0)
 else if i/tl.getD 2 0/tl.getD 1 0≠o/(tl.getD 2 0/n.size)/(tl.getD 1 0/n.size)\/i/tl.getD 2 0%tl.getD 1 0/n.size≠o/(tl.getD 2 0/n.size)%(tl.getD 1 0/n.size)\/i%tl.getD 2 0/n.size≠o%(tl.getD 2 0/n.size)then 0 else 1
theorem Zm{r:List Int}{x:Sp}{i:Nat}(h:x.2.toNat≠i):(Br r x).getD i 0=r.getD i 0:=by simp[Br,List.getD,List.getElem?_set_ne h]
theorem Dw:∀(T:List Sp) (r:List Int) (i:Nat),(∀x∈T,x.2.toNat≠i)->(T.foldl Br r).getD i 0=r.getD i 0
 |[],_,_,_=>rfl
 |x::T,r,i,h=>by
  rw[List.foldl_cons,Dw T _ i (λy hy=>h y (List.mem_cons_of_mem _ hy)),Zm (h x List.mem_cons_self)]
theorem Mt:∀(T:List Sp) (r:List Int) (i:Nat) (x:Sp),i<r.length->x∈T->x.2.toNat=i->(∀y∈T,y.2.toNat=i->y.1=x.1)->(T.foldl Br r).getD i 0=x.1
 |[],_,_,_,_,h,_,_=>by cases h
 |z::T,r,i,x,hl,hx,he,hu=>by
  rw[List.foldl_cons]
  by_cases hex:∃y∈T,y.2.toNat=i
  ·obtain⟨y,hy,hyi⟩:=hex
   have h1:=Mt T (Br r z) i y (by rw[Br,List.length_set];exact hl) hy hyi (λu hu' hui=>(hu u (List.mem_cons_of_mem _ hu') hui).trans (hu y (List.mem_cons_of_mem _ hy) hyi).symm)
   rw[h1];exact hu y (List.mem_cons_of_mem _ hy) hyi
  ·rw[Dw T _ i (λy hy e=>hex ⟨y,hy,e⟩)]
   have hzx:x=z:=by
    rcases List.mem_cons.1 hx with g|g
    ·exact g
    ·exact absurd ⟨x,g,he⟩ hex
   subst hzx
   simp[Br,List.getD,he,hl]
theorem Rt(n i:Nat):(List.replicate n (0:Int)).getD i 0=0:=by
 simp only[List.getD,List.getElem?_replicate];split<;>rfl
theorem lX{i I1 I2:Int}(h0:0<=i)(h1:0<I1)(h2:0<I2):i=(i/I2/I1*I1+i/I2%I1)*I2+i%I2/\(0<=i%I2/\i%I2<I2)/\(0<=i/I2%I1/\i/I2%I1<I1)/\0<=i/I2/I1:=by
 have e1:=Int.mul_ediv_add_emod i I2
 have e2:=Int.mul_ediv_add_emod (i/I2) I1
 have g0:0<=i/I2:=Int.ediv_nonneg h0 aa
 refine⟨?_,⟨Int.emod_nonneg _ aa,Int.emod_lt_of_pos _ h2⟩,⟨Int.emod_nonneg _ aa,Int.emod_lt_of_pos _ h1⟩,Int.ediv_nonneg g0 aa⟩
 have e3:i/I2/I1*I1+i/I2%I1=i/I2:=by rw[Int.mul_comm];exact e2
 rw[e3,Int.mul_comm];exact e1.symm
theorem rV{a b c:Int}(hb:0<b)(h:a<c*b):a/b<c:=Int.ediv_lt_of_lt_mul hb h
theorem Ya{d:List Int}{k1 k2 k3 i1 i2 o i:Int}{E:Nat}(hk2:1<=k2/\k2<=i1)(hk3:1<=k3/\k3<=i2)(hE:(E:Int)=k1*i1*i2)(hi:0<=i/\i<E)(ho:0<=o):
 ((CS d k1 k2 k3 i1 i2 o).foldl Br (List.replicate E 0)).getD i.toNat 0=
   (if i/i2%i1-o/(i2-k3+1)%(i1-k2+1)<0\/k2<=i/i2%i1-o/(i2-k3+1)%(i1-k2+1)\/i%i2-o%(i2-k3+1)<0\/k3<=i%i2-o%(i2-k3+1)then 0
    else d.getD (((o/(i2-k3+1)/(i1-k2+1)*k1+i/i2/i1)*k2+(i/i2%i1-o/(i2-k3+1)%(i1-k2+1)))*k3+(i%i2-o%(i2-k3+1))).toNat 0):=by
 have h1:0<i1:=by omega
 have h2:0<i2:=by omega
 obtain⟨ei,bx,by_,bc⟩:=lX hi.1 h1 h2
 obtain⟨eo,ox,oy,oc⟩:=lX (i:=o) (I1:=i1-k2+1) (I2:=i2-k3+1) ho aa aa
 obtain⟨c,hc⟩:∃c,i/i2/i1=c:=⟨_,rfl⟩
 obtain⟨fy,Zx⟩:∃c,i/i2%i1=c:=⟨_,rfl⟩
 obtain⟨fx,hfx⟩:∃c,i%i2=c:=⟨_,rfl⟩
 obtain⟨tc,htc⟩:∃c,o/(i2-k3+1)/(i1-k2+1)=c:=⟨_,rfl⟩
 obtain⟨ty,hty⟩:∃c,o/(i2-k3+1)%(i1-k2+1)=c:=⟨_,rfl⟩
 obtain⟨tx,htx⟩:∃c,o%(i2-k3+1)=c:=⟨_,rfl⟩
 rw[hc,Zx,hfx]at ei
 rw[Zx]at by_
 rw[hfx]at bx
 rw[hc]at bc
 rw[htc]at oc
 rw[hty]at oy
 rw[htx]at ox
 rw[hc,Zx,hfx,htc,hty,htx]
 have hck:c<k1:=by
  have h3:i/i2<k1*i1:=rV h2 (by rw[<-hE];exact hi.2)
  rw[<-hc];exact rV h1 h3
 have term:∀x∈CS d k1 k2 k3 i1 i2 o,x.2.toNat=i.toNat->∃p:Nat,x=gY d k1 k2 k3 i1 i2 o p/\(p:Int)/k3/k2=c/\ty+(p:Int)/k3%k2=fy/\tx+(p:Int)%k3=fx:=by
  intro x hx hxi
  obtain⟨p,hp,rfl⟩:=List.mem_map.1 hx
  obtain⟨ep,px,py,pc⟩:=lX (i:=(p:Int)) (I1:=k2) (I2:=k3) aa aa aa
  refine⟨p,rfl,?_⟩
  have hpos:(gY d k1 k2 k3 i1 i2 o p).2=(((p:Int)/k3/k2*i1+(ty+(p:Int)/k3%k2))*i2+(tx+(p:Int)%k3)):=by
   unfold gY
   rw[hty,htx]
   simp only
   rw[<-Int.add_assoc,<-Int.add_assoc]
  have hnn:0<=(gY d k1 k2 k3 i1 i2 o p).2:=by
   rw[hpos]
   have:=Int.mul_nonneg (show 0<=(p:Int)/k3/k2*i1+(ty+(p:Int)/k3%k2) by have:=Int.mul_nonneg pc (show 0<=i1 by omega);omega) (show 0<=i2 by omega)
   omega
  have he:i=(((p:Int)/k3/k2*i1+(ty+(p:Int)/k3%k2))*i2+(tx+(p:Int)%k3)):=by rw[<-hpos];omega
  have:=akj he ⟨by omega,by omega⟩ ⟨by omega,by omega⟩
  rw[hc,Zx,hfx]at this
  exact⟨this.1.symm,this.2.1.symm,this.2.2.symm⟩
 split
 ·rename_i hbad
  rw[Dw,Rt]
  intro x hx hxi
  obtain⟨p,rfl,g1,g2,g3⟩:=term x hx hxi
  obtain⟨ep,px,py,pc⟩:=lX (i:=(p:Int)) (I1:=k2) (I2:=k3) aa aa aa
  omega
 ·rename_i hgood
  obtain⟨y,hy⟩:∃y,fy-ty=y:=⟨_,rfl⟩
  obtain⟨x,hx⟩:∃x,fx-tx=x:=⟨_,rfl⟩
  rw[hy,hx]at hgood|-
  have hcy:0<=c*k2+y:=by have:=Int.mul_nonneg bc (show 0<=k2 by omega);omega
  have hp0:0<=(c*k2+y)*k3+x:=by have:=Int.mul_nonneg hcy (show 0<=k3 by omega);omega
  obtain⟨p,hp⟩:=Int.eq_ofNat_of_zero_le hp0
  have hp3:=akj (o:=(p:Int)) (c:=c) (y:=y) (x:=x) (H:=k2) (W:=k3) hp.symm ⟨by omega,by omega⟩ ⟨by omega,by omega⟩
  have hlt:(p:Int)<k1*k2*k3:=by
   rw[<-hp]
   have a1:(c+1)*k2<=k1*k2:=Int.mul_le_mul_of_nonneg_right aa aa
   rw[Int.add_mul,Int.one_mul]at a1
   have a2:(c*k2+y+1)*k3<=k1*k2*k3:=Int.mul_le_mul_of_nonneg_right aa aa
   rw[Int.add_mul,Int.one_mul]at a2
   omega
  have hmem:gY d k1 k2 k3 i1 i2 o p∈CS d k1 k2 k3 i1 i2 o:=List.mem_map.2 ⟨p,List.mem_range.2 aa,rfl⟩
  have hval:∀q:Nat,(q:Int)/k3/k2=c->ty+(q:Int)/k3%k2=fy->tx+(q:Int)%k3=fx->(gY d k1 k2 k3 i1 i2 o q).1=d.getD (((tc*k1+c)*k2+y)*k3+x).toNat 0/\(gY d k1 k2 k3 i1 i2 o q).2=i:=by
   intro q g1 g2 g3
   obtain⟨eq,qx,qy,qc⟩:=lX (i:=(q:Int)) (I1:=k2) (I2:=k3) aa aa aa
   rw[g1]at eq
   have e1:(q:Int)/k3%k2=y:=by omega
   have e2:(q:Int)%k3=x:=by omega
   rw[e1,e2]at eq
   unfold gY
   rw[htc,hty,htx,g1,e1,e2]
   constructor
   ·simp only
    congr 2
    rw[eq];grind
   ·simp only
    rw[ei,<-hy]at*
    have:fx=tx+x:=by omega
    grind
  have hpv:=hval p hp3.1 (by rw[hp3.2.1];omega) (by rw[hp3.2.2];omega)
  rw[Mt _ _ _ (gY d k1 k2 k3 i1 i2 o p) AA hmem (by rw[hpv.2]) (λu hu hui=> ?_)]
  ·exact hpv.1
  ·obtain⟨q,rfl,g1,g2,g3⟩:=term u hu hui
   rw[(hval q g1 g2 g3).1,hpv.1]
theorem CF{a b z:Int}(hz:0<z)(hb:0<=b/\b<z):(a*z+b)/z=a/\(a*z+b)%z=b:=mul_add_div hb
theorem YC{z i1 i2 o i:Int}{E:Nat}(hz:1<=z)(h1:z<=i1)(h2:z<=i2)(m1:i1%z=0)(m2:i2%z=0)(hi:0<=i/\i<E)(ho:0<=o):
 ((CQ z i1 i2 o).foldl Br (List.replicate E 0)).getD i.toNat 0=
   (if i/i2/i1≠o/(i2/z)/(i1/z)\/i/i2%i1/z≠o/(i2/z)%(i1/z)\/i%i2/z≠o%(i2/z)then 0 else 1):=by
 have q1:=Int.mul_ediv_add_emod i1 z
 have q2:=Int.mul_ediv_add_emod i2 z
 obtain⟨H,hH⟩:∃H,i1/z=H:=⟨_,rfl⟩
 obtain⟨W,hW⟩:∃W,i2/z=W:=⟨_,rfl⟩
 rw[hH]at q1|-
 rw[hW]at q2|-
 have e1:i1=H*z:=by rw[Int.mul_comm];omega
 have e2:i2=W*z:=by rw[Int.mul_comm];omega
 have hH1:0<H:=by rw[<-hH];exact Int.ediv_pos_of_pos_of_dvd aa aa (Int.dvd_of_emod_eq_zero m1)
 have hW1:0<W:=by rw[<-hW];exact Int.ediv_pos_of_pos_of_dvd aa aa (Int.dvd_of_emod_eq_zero m2)
 obtain⟨ei,bx,by_,bc⟩:=lX (i:=i) (I1:=i1) (I2:=i2) hi.1 aa aa
 obtain⟨eo,ox,oy,oc⟩:=lX (i:=o) (I1:=H) (I2:=W) ho hH1 hW1
 obtain⟨c,hc⟩:∃c,i/i2/i1=c:=⟨_,rfl⟩
 obtain⟨fy,Zx⟩:∃c,i/i2%i1=c:=⟨_,rfl⟩
 obtain⟨fx,hfx⟩:∃c,i%i2=c:=⟨_,rfl⟩
 obtain⟨tc,htc⟩:∃c,o/W/H=c:=⟨_,rfl⟩
 obtain⟨ty,hty⟩:∃c,o/W%H=c:=⟨_,rfl⟩
 obtain⟨tx,htx⟩:∃c,o%W=c:=⟨_,rfl⟩
 rw[hc,Zx,hfx]at ei
 rw[Zx]at by_
 rw[hfx]at bx
 rw[hc]at bc
 rw[htc]at oc
 rw[hty]at oy
 rw[htx]at ox
 rw[hc,Zx,hfx,htc,hty,htx]
 have hty':ty*z+z<=i1:=by
  have:=Int.mul_le_mul_of_nonneg_right (show ty+1<=H by omega) (show 0<=z by omega)
  rw[Int.add_mul,Int.one_mul,<-e1]at this;exact this
 have aoY:tx*z+z<=i2:=by
  have:=Int.mul_le_mul_of_nonneg_right (show tx+1<=W by omega) (show 0<=z by omega)
  rw[Int.add_mul,Int.one_mul,<-e2]at this;exact this
 have apb:0<=ty*z:=Int.mul_nonneg oy.1 aa
 have apr:0<=tx*z:=Int.mul_nonneg ox.1 aa
 have term:∀x∈CQ z i1 i2 o,x.1=1/\(x.2.toNat=i.toNat->tc=c/\fy/z=ty/\fx/z=tx):=by
  intro x hx
  obtain⟨p,hp,rfl⟩:=List.mem_map.1 hx
  refine⟨rfl,λhxi=> ?_⟩
  have hpz:(p:Int)<z*z:=by have:=List.mem_range.1 hp;omega
  have py:0<=(p:Int)/z/\(p:Int)/z<z:=⟨Int.ediv_nonneg aa aa,rV aa hpz⟩
  have px:0<=(p:Int)%z/\(p:Int)%z<z:=⟨Int.emod_nonneg _ aa,Int.emod_lt_of_pos _ aa⟩
  have hpos:(iN z i1 i2 o p).2=((tc*i1+(ty*z+(p:Int)/z))*i2+(tx*z+(p:Int)%z)):=by
   unfold iN
   rw[hH,hW,htc,hty,htx]
   simp only
   rw[<-Int.add_assoc,<-Int.add_assoc]
  have hnn:0<=(iN z i1 i2 o p).2:=by
   rw[hpos]
   have:=Int.mul_nonneg (show 0<=tc*i1+(ty*z+(p:Int)/z) by have:=Int.mul_nonneg oc (show 0<=i1 by omega);omega) (show 0<=i2 by omega)
   omega
  have he:i=((tc*i1+(ty*z+(p:Int)/z))*i2+(tx*z+(p:Int)%z)):=by rw[<-hpos];omega
  have:=akj he ⟨by omega,by omega⟩ ⟨by omega,by omega⟩
  rw[hc,Zx,hfx]at this
  exact⟨this.1.symm,by rw[this.2.1];exact(CF aa py).1,by rw[this.2.2];exact(CF aa px).1⟩
 split
 ·rename_i hbad
  rw[Dw,Rt]
  intro x hx hxi
  have:=(term x hx).2 hxi
  omega
 ·rename_i hgood
  have g1:c=tc:=by omega
  have g2:fy/z=ty:=by omega
  have g3:fx/z=tx:=by omega
  have r1:=Int.mul_ediv_add_emod fy z
  have r2:=Int.mul_ediv_add_emod fx z
  rw[g2]at r1
  rw[g3]at r2
  have ry:0<=fy%z/\fy%z<z:=⟨Int.emod_nonneg _ aa,Int.emod_lt_of_pos _ aa⟩
  have rx:0<=fx%z/\fx%z<z:=⟨Int.emod_nonneg _ aa,Int.emod_lt_of_pos _ aa⟩
  have hp0:0<=fy%z*z+fx%z:=by have:=Int.mul_nonneg ry.1 (show 0<=z by omega);omega
  obtain⟨p,hp⟩:=Int.eq_ofNat_of_zero_le hp0
  have hpd:=CF (a:=fy%z) (b:=fx%z) (z:=z) aa rx
  rw[hp]at hpd
  have hlt:(p:Int)<z*z:=by
   rw[<-hp]
   have:=Int.mul_le_mul_of_nonneg_right (show fy%z+1<=z by omega) (show 0<=z by omega)
   rw[Int.add_mul,Int.one_mul]at this
   omega
  have hmem:iN z i1 i2 o p∈CQ z i1 i2 o:=List.mem_map.2 ⟨p,List.mem_range.2 aa,rfl⟩
  have hval:(iN z i1 i2 o p).2=i:=by
   unfold iN
   rw[hH,hW,htc,hty,htx]
   simp only
   have hd1:(p:Int)/z=fy%z:=hpd.1
   have hd2:(p:Int)%z=fx%z:=hpd.2
   rw[hd1,hd2,ei,g1]
   have e3:fy=ty*z+fy%z:=by rw[Int.mul_comm];omega
   have e4:fx=tx*z+fx%z:=by rw[Int.mul_comm];omega
   obtain⟨a,ha⟩:∃a,fy%z=a:=⟨_,rfl⟩
   obtain⟨b,hb⟩:∃b,fx%z=b:=⟨_,rfl⟩
   rw[ha]at e3|-
   rw[hb]at e4|-
   rw[e3,e4];grind
  rw[Mt _ _ _ (iN z i1 i2 o p) AA hmem (by rw[hval]) (λu hu _=>((term u hu).1).trans (term _ hmem).1.symm)]
  exact(term _ hmem).1
theorem ZM{n:ak}{sh:List (List Int)}{s t:List Int}{cnt:Nat}(h:gN n sh s t cnt)(hl:eF n){o i:Nat}(hi:(i:Int)<au t):(qZ n t o).getD i 0=zO n t o i:=by
 have hb:=dN t
 unfold qZ zO
 by_cases h3:n.ai=3
 ·rw[if_pos h3,if_pos h3]
  have e:((o:Int)*au t+(i:Int)).toNat=o*(au t).toNat+i:=by
   have:au t=((au t).toNat:Int):=by omega
   rw[this]
   have e2:(o:Int)*((au t).toNat:Int)+(i:Int)=((o*(au t).toNat+i:Nat):Int):=by simp
   rw[Int.toNat_natCast,e2,Int.toNat_natCast]
  rw[e]
  simp only[List.getD,List.getElem?_take,List.getElem?_drop]
  rw[if_pos aa]
 ·rw[if_neg h3,if_neg h3]
  by_cases h4:n.ai=4
  ·have hk:n.ai=3\/n.ai=4\/n.ai=5:= .inr (.inl h4)
   have hci:=Vf h h4
   obtain⟨hf,hg⟩:=h.first hk
   have QW:=(dJ h.node.form).acS h4
   have hsh:=h.node.az
   unfold bP at hsh
   rw[if_neg aa,if_neg aa,if_pos h4,hf]at hsh
   split at hsh
   ·cases hsh
   ·rename_i hbad
    have h3l:t.length=3:=by omega
    have ht0:t.getD 0 0=n.az.xs.getD 1 0:=by omega
    have hE:au t=n.az.xs.getD 1 0*t.getD 1 0*t.getD 2 0:=by
     rw[<-ht0]
     match t,h3l,hg with
     |[a,b,c],_,hg=>
      have h0:au [a,b,c]=dX 1 [a,b,c]:=by unfold au;rfl
      rw[h0]at hg|-
      simp only[dX]at hg|-
      split at hg
      ·omega
      split at hg
      ·omega
      split at hg
      ·omega
      rename_i g1 g2 g3
      rw[if_neg g1,if_neg g2,if_neg g3]
      show 1*a*b*c=a*b*c
      rw[Int.one_mul]
    have hrow:=Ya (d:=n.data.xs) (k1:=n.az.xs.getD 1 0) (o:=(o:Int)) (i:=(i:Int)) (E:=(au t).toNat) hci.k2 hci.k3 (by rw[<-hE];omega) ⟨by omega,by omega⟩ aa
    have hT:dZ n t o=CS n.data.xs (n.az.xs.getD 1 0) (n.az.xs.getD 2 0) (n.az.xs.getD 3 0) (t.getD 1 0) (t.getD 2 0) o:=by unfold dZ;rw[if_neg h3,if_pos h4]
    rw[hT,if_pos h4]
    rw[Int.toNat_natCast]at hrow
    exact hrow
  ·have h5:n.ai=5:=by rcases hl with g|g|g<;>first|exact absurd g h3|exact absurd g h4|exact g
   have hpi:=TS h h5
   have hrow:=YC (z:=n.size) (i1:=t.getD 1 0) (i2:=t.getD 2 0) (o:=(o:Int)) (i:=(i:Int)) (E:=(au t).toNat) hpi.z hpi.z1 hpi.z2 hpi.m1 hpi.m2 ⟨by omega,by omega⟩ aa
   have hT:dZ n t o=CQ n.size (t.getD 1 0) (t.getD 2 0) o:=by unfold dZ;rw[if_neg h3,if_neg h4]
   rw[hT,if_neg h4]
   rw[Int.toNat_natCast]at hrow
   exact hrow
section
abbrev aiv:DT:=(bS [0,1,2,3,4,5,6,7,8,9,10,11,12,13,14] (.alt 15 (bS [116,117] .done) (bS [116,115,117] .done)))
variable {x y q:Int} {K:Int->Prop}
theorem vC(e:x/y=q)(h0:0<=x)(h1:x<=9223372036854775807)(hy:0<y)(h:K q):yM .i64 x y K:=div_pos rfl h0 h1 hy zM
theorem abg(h0:0<=x)(hy:y≠0)(e:x%y=q)(h:K q):x8 x y K:=Ub h0 hy zM
def Lr(c y x:Int):Value:= .agg #[.int .i64 c,.int .i64 y,.int .i64 x]
theorem Dk(w:World)(at_ high wide:Int)(h0:0<=at_/\at_<=10000)(hh:1<=high/\high<=64)(hw:1<=wide/\wide<=64):Calls Tryz.prog 150 #[.int .i64 at_,.int .i64 high,.int .i64 wide] w λe w'=>e= .returned (Lr (at_/wide/high) (at_/wide%high) (at_%wide))/\Ext w w':=by
 obtain⟨d1,d2,d3,d4⟩:=jI h0.1 (show 0<wide by omega)
 refine fH Tryz.func150 [aC at_,aC high,aC wide] ?_
 repeat' ((conv=>whnf)<;>first|(show yM ..;(first|refine vC (x:=at_) rfl aa aa aa ?_|refine vC (x:=at_/wide) rfl aa aa aa ?_))|(show x8 ..;(first|refine abg (x:=at_) aa aa rfl ?_|refine abg (x:=at_/wide) aa aa rfl ?_))|(show cO _ 1 ..;refine mV [14] _ aiT ?_)|refine a_ ?_)
 all_goals(conv=>whnf)
 exact bZ (λ_ _ h=>h) (λ_=>rfl) rfl
def ou(n:ak)(t:ax):Value:= .agg #[.int .i64 n.ai,.int .i64 n.a,.int .i64 n.b,n.az.val,.int .i64 n.lo,.int .i64 n.hi,.int .i64 n.size,n.data.val,n.aQ.val,t.val]
theorem rJ{a:Addr}{j:Nat}{S:bR}{xs:List Int}{v:Int}{K:SV->Prop}(hx:∀R w,S.holds R w->bE w (some a) 1 (aZ xs))(hj:j<xs.length)(e:xs.getD j 0=v)(h:K (aC v)):gZ (a.add (j*1)) S K:=by
 subst e;exact dP hx hj h
theorem ac_(w:World)(n:ak)(t:ax)(hs:n.az.ok w)(hd:n.data.ok w)(ht:t.ok w)(hsl:n.az.xs.length=4)(htl:t.xs.length=3){k1 k2 k3 i1 i2:Int}(e1:n.az.xs.getD 1 0=k1)(e2:n.az.xs.getD 2 0=k2)(e3:n.az.xs.getD 3 0=k3)(f1:t.xs.getD 1 0=i1)(f2:t.xs.getD 2 0=i2)(b2:(1<=k2/\k2<=i1)/\i1<=64)(b3:(1<=k3/\k3<=i2)/\i2<=64)
 {o c fy fx tc ty tx:Int} (ho:0<=o/\o<=10000) (hc:0<=c/\c<=10000) (Zx:0<=fy/\fy<=10000) (hfx:0<=fx/\fx<=10000) (g1:o/(i2-k3+1)/(i1-k2+1)=tc) (g2:o/(i2-k3+1)%(i1-k2+1)=ty) (g3:o%(i2-k3+1)=tx) {z:Int}
 (hz:(fy-ty<0\/k2<=fy-ty\/fx-tx<0\/k3<=fx-tx)/\z=0\/¬(fy-ty<0\/k2<=fy-ty\/fx-tx<0\/k3<=fx-tx)/\(0<=tc*k1/\tc*k1<=1000000)/\(0<=(tc*k1+c)*k2/\(tc*k1+c)*k2<=1000000)/\(0<=((tc*k1+c)*k2+(fy-ty))*k3/\((tc*k1+c)*k2+(fy-ty))*k3<=1000000)/\∃q:Nat,((tc*k1+c)*k2+(fy-ty))*k3+(fx-tx)=q/\q<n.data.xs.length/\n.data.xs.getD q 0=z):
 Calls Tryz.prog 149 #[ou n t,.int .i64 o,Lr c fy fx] w λe w'=>e= .returned (.int .i64 z)/\Ext w w':=by
 obtain⟨sa,hsa⟩:=hs.base aa
 obtain⟨ta,Vs⟩:=ht.base aa
 have hsr:∀(R:Nat->Prop) w',(aU w).holds R w'->bE w' (some sa) 1 (aZ n.az.xs):=λR w' h=>by rw[<-hsa];exact aH h hs.rows
 have htr:∀(R:Nat->Prop) w',(aU w).holds R w'->bE w' (some ta) 1 (aZ t.xs):=λR w' h=>by rw[<-Vs];exact aH h ht.rows
 have hsp:∀(w':World),Calls Tryz.prog 150 #[.int .i64 o,.int .i64 (i1-k2+1),.int .i64 (i2-k3+1)] w' λe w2=>e= .returned (Lr tc ty tx)/\Ext w' w2:=λw'=>by
  have:=Dk w' o (i1-k2+1) (i2-k3+1) ho aa aa
  rw[g1,g2,g3]at this;exact this
 obtain⟨d1,d2,d3,d4⟩:=jI ho.1 (show 0<i2-k3+1 by omega)
 obtain⟨d5,d6,d7,d8⟩:=jI d1 (show 0<i1-k2+1 by omega)
 rw[g1]at d5 d6
 rw[g2]at d7 d8
 rw[g3]at d3 d4
 rcases hz with⟨hbad,rfl⟩|⟨hgood,hA,hB,hC,q,hq,Tn,rfl⟩
 ·refine fH Tryz.func149 [.agg [aC n.ai,aC n.a,aC n.b,.c n.az.val,aC n.lo,aC n.hi,aC n.size,.c n.data.val,.c n.aQ.val,.c t.val],aC o,.agg [aC c,aC fy,aC fx]] ?_
  repeat' ((conv=>whnf)<;>first|(show dn ..;(first|refine aM sa 2 hsa rfl aa ?_|refine aM sa 3 hsa rfl aa ?_|refine aM sa 1 hsa rfl aa ?_|refine aM ta 1 Vs rfl aa ?_|refine aM ta 2 Vs rfl aa ?_))|(show gZ ..;(first|refine rJ hsr (j:=2) aa e2 ?_|refine rJ hsr (j:=3) aa e3 ?_|refine rJ hsr (j:=1) aa e1 ?_|refine rJ htr (j:=1) aa f1 ?_|refine rJ htr (j:=2) aa f2 ?_))|(show @iG _ _ _;(first|refine gJ aa ?_|refine jc aa ?_|(refine ag ?_ ?_<;>intro _)))|(show aJ _ 150 ..;refine aR (f:=150) Tryz.call150 (Lr tc ty tx) (λρ w' hw=>hsp w') ?_)|(show cO _ 2 ..;refine mV [17] _ aiv ?_)|refine bV ?_|refine And.intro ?_ ?_)
  all_goals(conv=>whnf)
  all_goals first|(exfalso;omega)|exact bZ (λ_ _ h=>h) (λ_=>rfl) rfl
 ·obtain⟨da,hda⟩:=hd.base aa
  have hdr:∀(R:Nat->Prop) w',(aU w).holds R w'->bE w' (some da) 1 (aZ n.data.xs):=λR w' h=>by rw[<-hda];exact aH h hd.rows
  refine fH Tryz.func149 [.agg [aC n.ai,aC n.a,aC n.b,.c n.az.val,aC n.lo,aC n.hi,aC n.size,.c n.data.val,.c n.aQ.val,.c t.val],aC o,.agg [aC c,aC fy,aC fx]] ?_
  repeat' ((conv=>whnf)<;>first|(show dn ..;(first|refine aM sa 2 hsa rfl aa ?_|refine aM sa 3 hsa rfl aa ?_|refine aM sa 1 hsa rfl aa ?_|refine aM ta 1 Vs rfl aa ?_|refine aM ta 2 Vs rfl aa ?_|refine aM da q hda hq Tn ?_))|(show gZ ..;(first|refine rJ hsr (j:=2) aa e2 ?_|refine rJ hsr (j:=3) aa e3 ?_|refine rJ hsr (j:=1) aa e1 ?_|refine rJ htr (j:=1) aa f1 ?_|refine rJ htr (j:=2) aa f2 ?_|refine dP hdr (j:=q) Tn ?_))|(show aJ _ 150 ..;refine aR (f:=150) Tryz.call150 (Lr tc ty tx) (λρ w' hw=>hsp w') ?_)|(show cO _ 2 ..;refine mV [17] _ aiv ?_)|refine bV ?_|refine ag ?_ ?_<;>intro _|refine And.intro ?_ ?_)
  all_goals(conv=>whnf)
  all_goals exact bZ (λ_ _ h=>h) (λ_=>rfl) rfl
end
end Go.Proofs.YtgndjjdeopfdkaaGreat

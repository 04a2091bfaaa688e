import Derived.WalkKit
import Derived.Below
import Derived.Deep.Quiet
/- texts Mac Mac of the proof of LowerMakesSaid -/
set_option maxHeartbeats 16000000
set_option maxRecDepth 20000
set_option linter.unusedVariables false
set_option linter.unusedSimpArgs false
theorem zzK{P:Prop}(h:P:=by kernel_rfl):P:=h
theorem aX{P Q:Prop}(q:Q)(h:Q->P:=by first|(show _->Wp _ _ _ _ _ _ _;exact Wp.go bQ rfl)|(show _-> @eZ _ _ _;first|exact cu (by omega)|exact dA (by omega))|(show _->iL _ _ _;exact wrap_i64 (by omega) (by omega))|(show _->vO _ _ _;exact gY (by first|exact Nat.le_refl _|omega))|(show _->gP _ _ _;exact dP (by first|omega|(dsimp only;omega)))|(show _->ltK _ _ _;exact Jd (by omega))|(show _->lq _ _ _ _ _;exact eF (by first|exact List.Sublist.refl _|exact List.Sublist.cons _ (List.Sublist.refl _)|exact List.Sublist.cons _ (List.Sublist.cons _ (List.Sublist.refl _))|exact List.Sublist.cons _ (List.Sublist.cons _ (List.Sublist.cons _ (List.Sublist.refl _)))) (by first|exact(λ_ _ h=>h)|exact(λ_ _ h=>h.1)|exact(λ_ _ h=>h.1.1)))|exact kT|exact Ju):P:=h q
theorem bn{P Q:Prop}(q:Q)(h:Q->P:=by first|(show _->Wp _ _ _ _ _ _ _;exact Wp.go bQ rfl)|(show _-> @eZ _ _ _;first|exact cu (by omega)|exact dA (by omega))|(show _->iL _ _ _;exact wrap_i64 (by omega) (by omega))|(show _->vO _ _ _;exact gY (by first|exact Nat.le_refl _|omega))|(show _->gP _ _ _;exact dP (by first|omega|(dsimp only;omega)))|(show _->ltK _ _ _;exact Jd (by omega))|(show _->lq _ _ _ _ _;exact eF (by first|exact List.Sublist.refl _|exact List.Sublist.cons _ (List.Sublist.refl _)|exact List.Sublist.cons _ (List.Sublist.cons _ (List.Sublist.refl _))|exact List.Sublist.cons _ (List.Sublist.cons _ (List.Sublist.cons _ (List.Sublist.refl _)))) (by first|exact(λ_ _ h=>h)|exact(λ_ _ h=>h.1)|exact(λ_ _ h=>h.1.1)))|exact kT|exact Ju|(show _->b_ _ _ _ _ _ _ _ _;exact yP bQ mixed (by kernel_rfl))):P:=h q
theorem uT{P Q:Prop}(q:Q)(h:Q->P:=by first|(show _->Wp _ _ _ _ _ _ _;exact Wp.go bQ rfl)|(show _-> @eZ _ _ _;first|exact cu (by omega)|exact dA (by omega))|(show _->iL _ _ _;exact wrap_i64 (by omega) (by omega))|(show _->vO _ _ _;exact gY (by first|exact Nat.le_refl _|omega))|(show _->gP _ _ _;exact dP (by first|omega|(dsimp only;omega)))|(show _->ltK _ _ _;exact Jd (by omega))|(show _->lq _ _ _ _ _;exact eF (by first|exact List.Sublist.refl _|exact List.Sublist.cons _ (List.Sublist.refl _)|exact List.Sublist.cons _ (List.Sublist.cons _ (List.Sublist.refl _))|exact List.Sublist.cons _ (List.Sublist.cons _ (List.Sublist.cons _ (List.Sublist.refl _)))) (by first|exact(λ_ _ h=>h)|exact(λ_ _ h=>h.1)|exact(λ_ _ h=>h.1.1)))|exact Ju):P:=h q
theorem BD{P Q:Prop}(q:Q)(h:Q->P:=by first|(show _-> @eZ _ _ _;first|exact cu (by omega)|exact dA (by omega))|(show _->iL _ _ _;exact wrap_i64 (by omega) (by omega))|(show _->vO _ _ _;exact gY (by first|exact Nat.le_refl _|omega))|(show _->gP _ _ _;exact dP (by first|omega|(dsimp only;omega)))|(show _->ltK _ _ _;exact Jd (by omega))|(show _->lq _ _ _ _ _;exact eF (by first|exact List.Sublist.refl _|exact List.Sublist.cons _ (List.Sublist.refl _)|exact List.Sublist.cons _ (List.Sublist.cons _ (List.Sublist.refl _))|exact List.Sublist.cons _ (List.Sublist.cons _ (List.Sublist.cons _ (List.Sublist.refl _)))) (by first|exact(λ_ _ h=>h)|exact(λ_ _ h=>h.1)|exact(λ_ _ h=>h.1.1)))|exact kT|exact Ju):P:=h q
theorem WN{P Q:Prop}(q:Q)(h:Q->P:=by first|(show _-> @eZ _ _ _;first|exact cu (by omega)|exact dA (by omega))|(show _->iL _ _ _;exact wrap_i64 (by omega) (by omega))|(show _->vO _ _ _;exact gY (by first|exact Nat.le_refl _|omega))|(show _->gP _ _ _;exact dP (by first|omega|(dsimp only;omega)))|(show _->ltK _ _ _;exact Jd (by omega))|(show _->lq _ _ _ _ _;exact eF (by first|exact List.Sublist.refl _|exact List.Sublist.cons _ (List.Sublist.refl _)|exact List.Sublist.cons _ (List.Sublist.cons _ (List.Sublist.refl _))|exact List.Sublist.cons _ (List.Sublist.cons _ (List.Sublist.cons _ (List.Sublist.refl _)))) (by first|exact(λ_ _ h=>h)|exact(λ_ _ h=>h.1)|exact(λ_ _ h=>h.1.1)))|exact kT|exact Ju|(show _->b_ _ _ _ _ _ _ _ _;exact yP bQ mixed (by kernel_rfl))):P:=h q
theorem bM{P:Prop}(h:P:=by repeat(first|exact trivial|refine⟨(by first|exact rfl|(repeat(first|exact List.mem_cons_self|apply List.mem_cons_of_mem))),?_⟩)):P:=h
theorem acK{P Q:Prop}(q:Q)(h:Q->P:=by show _->aI _ 148 ..;exactλq_=>aQ (f:=148) Tryz.call148 _ (λρ w' hw=>OH w' n at_ sv (ae hw λR h=>hs.later h) i s hi ha) q_):P:=h q
theorem agY{P Q:Prop}(q:Q)(h:Q->P:=by show _->kE _ 148 ..;exactλq_=>iU (f:=148) Tryz.call148 _ (λρ w' hw=>OH w' n at_ sv (ae hw λR h=>hs.later h) i s hi ha) q_):P:=h q
theorem F9{P Q:Prop}(q:Q)(h:Q->P:=by show _->CQ ..;exactλq_=>Ih (by omega) (by omega) q_):P:=h q
theorem OW{P Q:Prop}(q:Q)(h:Q->P:=by show _->wK ..;exactλq_=>div_pos rfl (by omega) (by omega) (by omega) q_):P:=h q
theorem U_{P Q:Prop}(q:Q)(h:Q->P:=by show _->mF ..;exactλq_=>gL (λR w' h=>by rw[<-ha];exact aA h.1 hg.rows) _ hrow rfl q_):P:=h q
theorem afu{P Q:Prop}(q:Q)(h:Q->P:=by show _->vO ..;exactλq_=>gY (by rw[aW];exact Nat.le_refl _) q_):P:=h q
theorem ZY{P Q:Prop}(q:Q)(h:Q->P:=by show _->gP ..;exactλq_=>dP (by show(us.length+1)*24<=140737488355328;omega) q_):P:=h q
theorem Jt{P Q:Prop}(q:Q)(h:Q->P:=by show _->lY ..;exactλq_=>Du (ti 165 rfl) rfl jU q_):P:=h q
theorem Ht{P Q:Prop}(q:Q)(h:Q->P:=by show _->aI _ 134 ..;exactλq_=>ko (f:=134) (adA n) 7 rfl Tryz.call134 (λρ w' hw=>ahh w' n) q_):P:=h q
theorem Nb{P Q:Prop}(q:Q)(h:Q->P:=by show _->aI _ 42 ..;exactλq_=>aQ (f:=42) Tryz.call42 _ (λρ w' hw=>jq w' n.ay.base n.ay.cap n.ay.xs (ae hw λR h=>aA h.1.1 hn.ay.rows)) q_):P:=h q
theorem M4{P Q:Prop}(q:Q)(h:Q->P:=by show _->kE _ 42 ..;exactλq_=>iU (f:=42) Tryz.call42 _ (λρ w' hw=>jq w' n.ay.base n.ay.cap n.ay.xs (ae hw λR h=>aA h.1.1 hn.ay.rows)) q_):P:=h q
theorem Gv{P Q:Prop}(q:Q)(h:Q->P:=by show _->bV ..;first|exactλq_=>aH ah 0 hah rfl (by omega) q_|exactλq_=>aH am 0 jU rfl (by omega) q_|exactλq_=>aH ah 1 hah rfl (by omega) q_|exactλq_=>aH am 1 jU rfl (by omega) q_|exactλq_=>aH ah 2 hah rfl (by omega) q_|exactλq_=>aH am 2 jU rfl (by omega) q_|exactλq_=>aH ah 3 hah rfl (by omega) q_|exactλq_=>aH am 3 jU rfl (by omega) q_|exactλq_=>aH ah 4 hah rfl (by omega) q_|exactλq_=>aH am 4 jU rfl (by omega) q_|exactλq_=>aH ah 5 hah rfl (by omega) q_|exactλq_=>aH am 5 jU rfl (by omega) q_|exactλq_=>aH ah 6 hah rfl (by omega) q_|exactλq_=>aH am 6 jU rfl (by omega) q_|exactλq_=>aH _ 0 (hbase (by omega)) rfl (by omega) q_):P:=h q
theorem aic{P Q:Prop}(q:Q)(h:Q->P:=by show _->aI _ 133 ..;exactλq_=>ko (f:=133) [true,false,false,false,false,true,false] 7 rfl Tryz.call133 (λρ w' hw=>rU w' n.ak [true,false,false,false,false,true,false] hm) q_):P:=h q
theorem ain{P Q:Prop}(q:Q)(h:Q->P:=by show _->aI _ 133 ..;exactλq_=>ko (f:=133) [true,false,true,false,false,true,true] 7 rfl Tryz.call133 (λρ w' hw=>rU w' n.ak [true,false,true,false,false,true,true] hm) q_):P:=h q
theorem D9{P Q:Prop}(q:Q)(h:Q->P:=by show _->bV ..;exactλq_=>aH a i ha rfl hlt q_):P:=h q
theorem ace{P Q:Prop}(q:Q)(h:Q->P:=by show _->aI _ 61 ..;exactλq_=>aQ (f:=61) Tryz.call61 _ (λρ w' hw=>tV w' s (ae hw λR h=>hss.later h)) q_):P:=h q
theorem ZK{P Q:Prop}(q:Q)(h:Q->P:=by show _->gP ..;exactλq_=>dP (by show(m+1)*8<=140737488355328;omega) q_):P:=h q
theorem VK{P Q:Prop}(q:Q)(h:Q->P:=by show _->bV ..;exactλq_=>aH _ o jD rfl (by omega) q_):P:=h q
theorem Pd{P Q:Prop}(q:Q)(h:Q->P:=by show _->fT ..;exactλq_=>bY hur (j:=o) (by omega) q_):P:=h q
theorem WU{P Q:Prop}(q:Q)(h:Q->P:=by show _->di ..;exactλq_=>bg o rfl hlt (by rw[aJ,uq (by omega)];exact Nat.le_refl _) q_):P:=h q
theorem VM{P Q:Prop}(q:Q)(h:Q->P:=by show _->cO ..;exactλq_=>Gw hlen hlt q_):P:=h q
theorem aeL{P Q:Prop}(q:Q)(h:Q->P:=by show _->bV ..;first|exactλq_=>aH a i ha rfl hlt q_|exactλq_=>aH a j ha hja amd q_):P:=h q
theorem ae6{P Q:Prop}(q:Q)(h:Q->P:=by show _->fT ..;first|exactλq_=>bA (λR w' h=>by rw[<-ha];exact aA h hs.rows) _ _ hrow rfl q_|exactλq_=>bA (λR w' h=>by rw[<-ha];exact aA h hs.rows) _ _ ai5 rfl q_):P:=h q
theorem BF{P Q:Prop}(q:Q)(h:Q->P:=by show _->lq ..;exactλq_=>Ob q_):P:=h q
theorem aha{P Q:Prop}(q:Q)(h:Q->P:=by show _->bV ..;first|exactλq_=>aH us 1 fI rfl (by rw[hsl];decide) q_|exactλq_=>aH us 2 fI rfl (by rw[hsl];decide) q_|exactλq_=>aH us 3 fI rfl (by rw[hsl];decide) q_|exactλq_=>aH ut 1 hut rfl (by rw[htl];decide) q_|exactλq_=>aH ut 2 hut rfl (by rw[htl];decide) q_):P:=h q
theorem agb{P Q:Prop}(q:Q)(h:Q->P:=by show _->fT ..;first|exactλq_=>bA P6 [.int .i64 k1] (.int .i64 k1) (j:=1) rfl rfl q_|exactλq_=>bA P6 [.int .i64 k2] (.int .i64 k2) (j:=2) rfl rfl q_|exactλq_=>bA P6 [.int .i64 k3] (.int .i64 k3) (j:=3) rfl rfl q_|exactλq_=>bA htr [.int .i64 i1] (.int .i64 i1) (j:=1) rfl rfl q_|exactλq_=>bA htr [.int .i64 i2] (.int .i64 i2) (j:=2) rfl rfl q_):P:=h q
theorem agc{P Q:Prop}(q:Q)(h:Q->P:=by show _->lq ..;exactλq_=>eF (by repeat(first|exact List.Sublist.refl _|exact List.nil_sublist _|apply List.Sublist.cons_cons|apply List.Sublist.cons)) (λ_ _ h=>h) q_):P:=h q
theorem ahA{P Q:Prop}(q:Q)(h:Q->P:=by show _->fT ..;first|exactλq_=>bA htr [.int .i64 i1] (.int .i64 i1) (j:=1) rfl rfl q_|exactλq_=>bA htr [.int .i64 i2] (.int .i64 i2) (j:=2) rfl rfl q_):P:=h q
theorem YN{P Q:Prop}(q:Q)(h:Q->P:=by show _->Br ..;exactλq_=>AO _ _ hrow rfl rfl q_):P:=h q
theorem agO{P Q:Prop}(q:Q)(h:Q->P:=by show _->aI _ 52 ..;exactλq_=>aQ (f:=52) Tryz.call52 (.int .i64 (foldI min x.1.xs)) (λρ w' hw=>PS w' x.1 (ae hw λR h=>al4 hn.data hx2 hx3 h.1.1 h.2) hEL) q_):P:=h q
theorem ahd{P Q:Prop}(q:Q)(h:Q->P:=by show _->aI _ 53 ..;exactλq_=>aQ (f:=53) Tryz.call53 (.int .i64 (foldI max x.1.xs)) (λρ w' hw=>PO w' x.1 (ae hw λR h=>al4 hn.data hx2 hx3 h.1.1 h.2) hEL) q_):P:=h q
theorem af_{P Q:Prop}(q:Q)(h:Q->P:=by show _->di ..;exactλq_=>bg i rfl hlt (by rw[h_,qU (by first|omega|(rw[List.length_append,List.length_singleton];omega))];exact Nat.le_refl _) q_):P:=h q
theorem agJ{P Q:Prop}(q:Q)(h:Q->P:=by show _->ltK ..;exactλq_=>Jd (by rw[h_,qU (by rw[List.length_append,List.length_singleton];omega)];exact hlt) q_):P:=h q
theorem Gz{P Q:Prop}(q:Q)(h:Q->P:=by show _->mF ..;exactλq_=>gL (λR w' h=>by rw[<-ha];exact aA h.1.1 hg.rows) _ hrow rfl q_):P:=h q
theorem acJ{P Q:Prop}(q:Q)(h:Q->P:=by show _->aI _ 50 ..;exactλq_=>aQ (f:=50) Tryz.call50 _ (λρ w' hw=>hat w' (ae hw λR h=>oQ hsv (by omega) h.1.2)) q_):P:=h q
theorem aif{P Q:Prop}(q:Q)(h:Q->P:=by show _->kE _ 52 ..;exactλq_=>iU (f:=52) Tryz.call52 (.int .i64 (foldI min x.xs)) (λρ w' hw=>PS w' x (ae hw λR h=>acz.later h.1.1) (by omega)) q_):P:=h q
theorem aiH{P Q:Prop}(q:Q)(h:Q->P:=by show _->kE _ 53 ..;exactλq_=>iU (f:=53) Tryz.call53 (.int .i64 (foldI max x.xs)) (λρ w' hw=>PO w' x (ae hw λR h=>acz.later h.1.1) (by omega)) q_):P:=h q
theorem TW{P Q:Prop}(q:Q)(h:Q->P:=by show _->fT ..;first|exactλq_=>yC (λR w' h=>by simp only[iA];exact(hd.later h).c0) q_|exactλq_=>yC (λR w' h=>by simp only[iA];exact(hd.later h).c2) q_):P:=h q
theorem acm{P Q:Prop}(q:Q)(h:Q->P:=by show _->BP ..;exactλq_=>Ur (by repeat(first|exact List.mem_cons_self|apply List.mem_cons_of_mem)) hs q_):P:=h q
theorem acX{P Q:Prop}(q:Q)(h:Q->P:=by show _->qf ..;exactλq_=>ahb (by repeat(first|exact List.mem_cons_self|apply List.mem_cons_of_mem)) q_):P:=h q
theorem afs{P Q:Prop}(q:Q)(h:Q->P:=by show _->fT ..;exactλq_=>yC (λR w' h=>by simp only[iA];exact(hd.rest hm h).c0) q_):P:=h q
theorem Y9{P Q:Prop}(q:Q)(h:Q->P:=by show _->bV ..;exactλq_=>aH na k hna rfl hk q_):P:=h q
theorem aeb{P Q:Prop}(q:Q)(h:Q->P:=by show _->mF ..;exactλq_=>gL (λR w' h=>by rw[<-hna];exact Jo hm hd.nodes h) _ hrow rfl q_):P:=h q
theorem agf{P Q:Prop}(q:Q)(h:Q->P:=by show _->aI _ 109 [_,ax n.a] ..;exactλq_=>aQ (f:=109) Tryz.call109 (.bool true) (λρ w' hw=>qa (ae hw λR h=>hd.later h) ha0 H_ hkA) q_):P:=h q
theorem agh{P Q:Prop}(q:Q)(h:Q->P:=by show _->fT ..;exactλq_=>bA (λR w' h=>by rw[<-hsa];exact aV (by first|exact h.2.1|exact h.1.2.1)) _ _ (dF hs1) rfl q_):P:=h q
theorem aiF{P Q:Prop}(q:Q)(h:Q->P:=by show _->jT _ ((_,.rows (List.take s.code.length _++_) _ _)::_) _ _ _;exactλq_=>jY (ys:=iO (s.code++[qX.mk op s.code.length a b k])) (m:=(s.code++[qX.mk op s.code.length a b k]).length) q_ (afV s.code (qX.mk op s.code.length a b k)) (by show s.code.length+1=_;rw[List.length_append];rfl)):P:=h q
theorem aiB{P Q:Prop}(q:Q)(h:Q->P:=by show _->jT _ ((_,.rows (List.take s.aF.length _++_) _ _)::_) _ _ _;exactλq_=>jY (ys:=aS (s.aF++[u])) (m:=(s.aF++[u]).length) q_ (ZJ s.aF u) (by show s.aF.length+1=_;rw[List.length_append];rfl)):P:=h q
theorem Qd{P Q:Prop}(q:Q)(h:Q->P:=by show _->mJ ..;exactλq_=>jC c.aj rfl rfl (by show 8*_<=_;omega) (by omega) q_):P:=h q
theorem ahR{P Q:Prop}(q:Q)(h:Q->P:=by show _->jT _ ((_,.rows (List.replicate _ _) _ _)::_) _ _ _;exactλq_=>vD (List.replicate c.aj 0) (dZ w F) (λR w' h b hb=>(h.2 b hb).1) (xC _) (by simp) (Q9 _) (by simp;omega) q_):P:=h q
theorem SQ{P Q:Prop}(q:Q)(h:Q->P:=by show _->bV ..;exactλq_=>aH ra i hra rfl hlt q_):P:=h q
theorem acg{P Q:Prop}(q:Q)(h:Q->P:=by show _->fT ..;exactλq_=>bA (λR w' h=>by rw[<-hra];exact aA h hr.rows) _ _ (dF hlt) rfl q_):P:=h q
theorem agi{P Q:Prop}(q:Q)(h:Q->P:=by show _->di ..;first|exactλq_=>bg n.a.toNat (by omega) ha (by rw[aJ];exact Nat.le_refl _) q_|exactλq_=>bg n.b.toNat (by omega) hb (by rw[aJ];exact Nat.le_refl _) q_):P:=h q
theorem Oc{P Q:Prop}(q:Q)(h:Q->P:=by show _->di ..;exactλq_=>bg n.a.toNat (by omega) ha (by rw[aJ];exact Nat.le_refl _) q_):P:=h q
theorem Zo{P Q:Prop}(q:Q)(h:Q->P:=by show _->aI _ 72 ..;exactλq_=>gy bQ Tryz.func72 rfl rfl rfl Tryz.call72 rfl (by show 1<=_;decide) q_):P:=h q
theorem ZM{P Q:Prop}(q:Q)(h:Q->P:=by show _->bV ..;exactλq_=>aH sa i hsa rfl aaS q_):P:=h q
theorem ahG{P Q:Prop}(q:Q)(h:Q->P:=by show _->jT _ ((_,.rows (List.take s.inputs.length _++_) _ _)::_) _ _ _;exactλq_=>jY (ys:=iP (s.inputs++[qo.mk n.lo n.hi sp])) (m:=(s.inputs++[qo.mk n.lo n.hi sp]).length) q_ (afP s.inputs (qo.mk n.lo n.hi sp)) (by show s.inputs.length+1=_;rw[List.length_append];rfl)):P:=h q
theorem abR{P Q:Prop}(q:Q)(h:Q->P:=by show _->bV ..;first|exactλq_=>aH a 0 rfl rfl (by decide) q_|exactλq_=>aH a 1 rfl rfl (by decide) q_):P:=h q
theorem aci{P Q:Prop}(q:Q)(h:Q->P:=by show _->fT ..;first|exactλq_=>bA (λR w' h=>aA h hr) _ _ (j:=0) rfl rfl q_|exactλq_=>bA (λR w' h=>aA h hr) _ _ (j:=1) rfl rfl q_):P:=h q
theorem aeO{P Q:Prop}(q:Q)(h:Q->P:=by show _->gP ..;exactλq_=>dP (by simp only[List.length_take,List.length_append,aJ,List.length_nil];omega) q_):P:=h q
theorem adR{P Q:Prop}(q:Q)(h:Q->P:=by show _->vO ..;exactλq_=>gY (by simp only[List.length_take,List.length_append,aJ,List.length_nil];omega) q_):P:=h q
theorem O7{P Q:Prop}(q:Q)(h:Q->P:=by show _->bV ..;first|exactλq_=>aH fa i hfa rfl Gm q_|exactλq_=>aH ra o hra rfl Fq q_|exactλq_=>aH wa i hwa rfl (by omega) q_):P:=h q
theorem aeK{P Q:Prop}(q:Q)(h:Q->P:=by show _->fT ..;first|exactλq_=>Y_ akk (j:=i) Gm hfi q_|exactλq_=>bA (λR w' h=>by rw[<-hra];exact aA h hr.rows) _ _ (dF Fq) rfl q_|exactλq_=>Y_ hwr (j:=i) (by omega) hwi q_):P:=h q
theorem afd{P Q:Prop}(q:Q)(h:Q->P:=by show _->aI _ 42 ..;exactλq_=>aQ (f:=42) Tryz.call42 (.int .i64 (az t.xs)) (λρ w' hw=>jq w' t.base t.cap t.xs (ae hw λR h=>aA h ht.rows)) q_):P:=h q
theorem Jf{P Q:Prop}(q:Q)(h:Q->P:=by show _->bV ..;first|exactλq_=>aH _ 1 hut rfl (by omega) q_|exactλq_=>aH _ 2 hut rfl (by omega) q_|exactλq_=>aH _ 0 fI rfl (by omega) q_|exactλq_=>aH _ 1 fI rfl (by omega) q_|exactλq_=>aH _ 2 fI rfl (by omega) q_|exactλq_=>aH _ 3 fI rfl (by omega) q_):P:=h q
theorem JD{P Q:Prop}(q:Q)(h:Q->P:=by show _->fT ..;first|exactλq_=>jc (λR w' h=>hur R w' h.1) (j:=1) (by omega) g1 q_|exactλq_=>jc (λR w' h=>hur R w' h.1) (j:=2) (by omega) g2 q_|exactλq_=>jc (λR w' h=>P6 R w' h.1) (j:=0) (by omega) s0 q_|exactλq_=>jc (λR w' h=>P6 R w' h.1) (j:=1) (by omega) s1 q_|exactλq_=>jc (λR w' h=>P6 R w' h.1) (j:=2) (by omega) s2 q_|exactλq_=>jc (λR w' h=>P6 R w' h.1) (j:=3) (by omega) s3 q_):P:=h q
theorem RN{P Q:Prop}(q:Q)(h:Q->P:=by show _->vO ..;exactλq_=>gY (Nat.le_of_eq (by rw[aJ,dU])) q_):P:=h q
theorem aeH{P Q:Prop}(q:Q)(h:Q->P:=by show _->gP ..;exactλq_=>dP (by show(k+1)*8<=140737488355328;omega) q_):P:=h q
theorem adh{P Q:Prop}(q:Q)(h:Q->P:=by show _->di ..;exactλq_=>bg (n-1) (by omega) (by omega) (Nat.le_of_eq (by rw[aJ,dU])) q_):P:=h q
theorem ahz{P Q:Prop}(q:Q)(h:Q->P:=by show _->iL ..;first|exactλq_=>je ((cc*n:Nat):Int) (Int.natCast_mul cc n).symm (by omega) (by omega) q_|exactλq_=>je (gT n n k) hpl (by omega) (by omega) q_|exactλq_=>wrap_i64 (by omega) (by omega) q_):P:=h q
theorem afQ{P Q:Prop}(q:Q)(h:Q->P:=by show _->iL ..;first|exactλq_=>je ((m/s*p:Nat):Int) hq1 (by omega) (by omega) q_|exactλq_=>je (gT s p m) hpn.symm (by omega) (by omega) q_|exactλq_=>wrap_i64 (by omega) (by omega) q_):P:=h q
theorem aaY{P Q:Prop}(q:Q)(h:Q->P:=by show _->wK ..;exactλq_=>IZ (q:=((m/n:Nat):Int)) (Int.natCast_ediv m n).symm (by omega) (by omega) (by omega) q_):P:=h q
theorem aaL{P Q:Prop}(q:Q)(h:Q->P:=by show _->CQ ..;exactλq_=>Ri (q:=((m%n:Nat):Int)) (by omega) (by omega) (Int.natCast_emod m n).symm q_):P:=h q
theorem abh{P Q:Prop}(q:Q)(h:Q->P:=by show _->iL ..;first|exactλq_=>je ((m/n*n:Nat):Int) hq1 (by omega) (by omega) q_|exactλq_=>je (gT n n m) hpn.symm (by omega) (by omega) q_|exactλq_=>wrap_i64 (by omega) (by omega) q_):P:=h q
theorem OQ{P Q:Prop}(q:Q)(h:Q->P:=by show _-> @eZ _ _ _;first|exactλq_=>cu (by omega) q_|exactλq_=>dA (by omega) q_):P:=h q
theorem aeU{P Q:Prop}(q:Q)(h:Q->P:=by show _->bV ..;first|exactλq_=>aH sa n.a.toNat hsa (by omega) (ln hfr) q_|exactλq_=>aH sa i hsa rfl (ln hto) q_):P:=h q
theorem ahM{P Q:Prop}(q:Q)(h:Q->P:=by show _->fT ..;first|exactλq_=>bA (λR w' h=>by rw[<-hsa];exact aV h.1.1.1.2.1) _ _ (YV hfr) rfl q_|exactλq_=>bA (λR w' h=>by rw[<-hsa];exact aV h.1.1.1.2.1) _ _ (YV hto) rfl q_):P:=h q
theorem Ug{P Q:Prop}(q:Q)(h:Q->P:=by show _->bV ..;exactλq_=>aH sa k hsa rfl hlt q_):P:=h q
theorem T9{P Q:Prop}(q:Q)(h:Q->P:=by show _->fT ..;exactλq_=>bA (λR w' h=>by rw[<-hsa];exact aV h.1.2.1) _ _ hrow rfl q_):P:=h q
theorem abb{P Q:Prop}(q:Q)(h:Q->P:=by show _->aI _ 25 ..;exactλq_=>K3 (gz u.xs o.aR m) Tryz.call25 (λρ w' hw=>aby w' u (ae hw λR h=>aV (h.1.2.2 u vY)) o.aR m) q_):P:=h q
theorem ac4{P Q:Prop}(q:Q)(h:Q->P:=by show _->jT _ ((_,.rows (List.take us.length _++_) _ _)::_) _ _ _;exactλq_=>jY (ys:=aS (us++[x])) (m:=(us++[x]).length) q_ (ZJ us x) (by show us.length+1=_;rw[List.length_append];rfl)):P:=h q
theorem aez{P Q:Prop}(q:Q)(h:Q->P:=by show _->vO ..;exactλq_=>gY (by rw[aJ];exact Nat.le_refl _) q_):P:=h q
theorem ac_{P Q:Prop}(q:Q)(h:Q->P:=by show _->gP ..;exactλq_=>dP (by show(vl.length+1)*8<=140737488355328;omega) q_):P:=h q
theorem aeG{P Q:Prop}(q:Q)(h:Q->P:=by show _->jT _ ((_,.rows (List.take vl.length _++_) _ _)::_) _ _ _;exactλq_=>jY (ys:=aN (vl++[q.2])) (m:=(vl++[q.2]).length) q_ (Xr vl q.2) (by show vl.length+1=_;rw[List.length_append];rfl)):P:=h q
theorem Zy{P Q:Prop}(q:Q)(h:Q->P:=by show _->fT ..;first|exactλq_=>Y_ akk (j:=i) Gm hfi q_|exactλq_=>bA (λR w' h=>by rw[<-hra];exact aA h.1 hr.rows) _ _ (dF Fq) rfl q_|exactλq_=>Y_ hwr (j:=i) (by omega) hwi q_):P:=h q
theorem ZR{P Q:Prop}(q:Q)(h:Q->P:=by show _->di ..;exactλq_=>bg sn hsn aml (Nat.le_of_eq (by rw[aJ];exact hl1.symm)) q_):P:=h q
theorem ab_{P Q:Prop}(q:Q)(h:Q->P:=by show _->cO ..;exactλq_=>Sg (Nat.lt_of_lt_of_eq aml hl1.symm) q_):P:=h q
theorem J6{P Q:Prop}(q:Q)(h:Q->P:=by show _->iL ..;first|exactλq_=>je (base:Int) hjg (by omega) (by omega) q_|exactλq_=>lG q_):P:=h q
theorem aeB{P Q:Prop}(q:Q)(h:Q->P:=by show _->fT ..;exactλq_=>bA (λR w' h=>by rw[<-hda];exact aV h.1.2.1) _ _ hrow rfl q_):P:=h q
theorem ahL{P Q:Prop}(q:Q)(h:Q->P:=by show _->aI _ 34 ..;exactλq_=>Ag (f:=34) (wN n t) Tryz.call34 (λρ w' hw=>by have:=qR w' ⟨l1.base,l1.cap,[inpN t,n],1⟩ (ae hw λR h=>Q_ (hn.later h.1) hsm (ht.later h.1) h.2);rw[Ik]at this;exact this) (λhne=>absurd hok.2.2 hne) q_):P:=h q
theorem aa0{P Q:Prop}(q:Q)(h:Q->P:=by show _->lq ..;first|exactλq_=>Ob q_|exactλq_=>Ob q_ (List.Sublist.cons_cons _ (List.nil_sublist _)) (λ_ _ h=>h.1.1.1)|exactλq_=>Ob q_ (List.Sublist.cons_cons _ (List.Sublist.cons_cons _ (List.nil_sublist _))) (λ_ _ h=>h.1.1.1)):P:=h q
theorem abz{P Q:Prop}(q:Q)(h:Q->P:=by show _->fT ..;exactλq_=>bA (λR w' h=>by rw[<-hsa];first|exact aV h.1.1.1.2.1|exact aV h.1.1.1.1.2.1) _ _ hrow rfl q_):P:=h q
theorem ahF{P Q:Prop}(q:Q)(h:Q->P:=by show _->aI _ 83 ..;exactλq_=>dR [(5,.box (cs n.cells) 41),(1,.rows (aN vl) 1 3)] 0 2 3 4 c s (((dW s.aF).and (tO n.data)).and (bE sp)) [.lp 0 0 0 0,.c n.data.val,.c sp.val] _ _ _ _ Tryz.call83 rfl rfl rfl (λR w' h=>⟨⟨h.1.1.1.1,h.1.1.2.2.1⟩,h.1.1.1.2.2 sp (List.mem_of_getElem? hi)⟩) (dZ w F) (λR w' h b hb=>(h.2 b hb).1) (λw' ρ' F' h'=>J7 c s n.data sp hds hd0 hN.aj.2 hN.ok.aF (by omega) zo hb w' ρ' F' h') q_):P:=h q
theorem aiD{P Q:Prop}(q:Q)(h:Q->P:=by show _->aI _ 35 ..;exactλq_=>K3 (gz u.xs o.aR m) Tryz.call35 (λρ w' hw=>PW w' u (ae hw λR h=>aV (h.1.2.2 u vY)) o.aR m) q_):P:=h q
theorem acd{P Q:Prop}(q:Q)(h:Q->P:=by show _->aI _ 54 ..;exactλq_=>aQ (f:=54) Tryz.call54 (dG st n).j3 (λρ w' hw=>by obtain⟨b,e,hd⟩:=zP hw (by repeat(first|exact List.mem_cons_self|apply List.mem_cons_of_mem)) (by repeat(first|exact List.mem_cons_self|apply List.mem_cons_of_mem)) (by repeat(first|exact List.mem_cons_self|apply List.mem_cons_of_mem));exact AV e (Ng hd n WB (by omega))) q_):P:=h q
theorem aip{P Q:Prop}(q:Q)(h:Q->P:=by show _->aI _ 55 ..;exactλq_=>aaW (gD (check g).2 i) (kR (gD (check g).2 i) (kept.map ai.pl) (dG st n).pl) Tryz.call55 (λρ w' hw=>by obtain⟨b,e,hd⟩:=zP hw (by repeat(first|exact List.mem_cons_self|apply List.mem_cons_of_mem)) (by repeat(first|exact List.mem_cons_self|apply List.mem_cons_of_mem)) (by repeat(first|exact List.mem_cons_self|apply List.mem_cons_of_mem));exact AV e (De w' b _ _ _ _ hd (ae hw λR h=>D8 hko h.2) (ae hw λR h=>hno.later h.1))) q_):P:=h q
theorem afZ{P Q:Prop}(q:Q)(h:Q->P:=by show _->aI _ 55 ..;exactλq_=>aQ (f:=55) Tryz.call55 (dG st n).j3 (λρ w' hw=>by obtain⟨b,e,hd⟩:=zP hw (by repeat(first|exact List.mem_cons_self|apply List.mem_cons_of_mem)) (by repeat(first|exact List.mem_cons_self|apply List.mem_cons_of_mem)) (by repeat(first|exact List.mem_cons_self|apply List.mem_cons_of_mem));exact AV e (aaq hd (dG st n) ajO (by simpa using hk))) q_):P:=h q
theorem afc{P Q:Prop}(q:Q)(h:Q->P:=by show _->BP ..;exactλq_=>Ur (by repeat(first|exact List.mem_cons_self|apply List.mem_cons_of_mem)) hsb q_):P:=h q
theorem adH{P Q:Prop}(q:Q)(h:Q->P:=by show _->di ..;first|exactλq_=>bg j rfl hlt (Nat.le_of_eq (dS kept).symm) q_|exactλq_=>bg j rfl hlt (Nat.le_of_eq hgl.symm) q_):P:=h q
theorem Ow{P Q:Prop}(q:Q)(h:Q->P:=by show _->cO ..;exactλq_=>TT hpl hlt q_):P:=h q
theorem afa{P Q:Prop}(q:Q)(h:Q->P:=by show _->b_ _ 24 ..;exactλq_=>lu [14] _ alT q_ (h6:=List.Sublist.cons_cons _ (List.Sublist.cons _ (List.Sublist.refl _)))):P:=h q
theorem adf{P Q:Prop}(q:Q)(h:Q->P:=by show _->aI _ 54 ..;exactλq_=>aQ (f:=54) Tryz.call54 (dG (eG kept.length (p++[acc.length])) x).j3 (λρ w' hw=>by obtain⟨b,e,hd⟩:=aaR (st:=eG kept.length (p++[acc.length])) hw hq (by repeat(first|exact List.mem_cons_self|apply List.mem_cons_of_mem)) (by repeat(first|exact List.mem_cons_self|apply List.mem_cons_of_mem)) (by repeat(first|exact List.mem_cons_self|apply List.mem_cons_of_mem));exact AV e (Ng hd x hxq (by omega))) q_):P:=h q
theorem ae4{P Q:Prop}(q:Q)(h:Q->P:=by show _->jT _ ((_,.rows (List.take acc.length _++_) _ _)::_) _ _ _;exactλq_=>jY (ys:=bF (acc++[dG (eG kept.length (p++[acc.length])) x])) (m:=(acc++[dG (eG kept.length (p++[acc.length])) x]).length) q_ (mg acc (dG (eG kept.length (p++[acc.length])) x)) (by show acc.length+1=_;rw[List.length_append];rfl)):P:=h q
theorem Ou{P Q:Prop}(q:Q)(h:Q->P:=by show _->vO ..;exactλq_=>gY (by rw[dS];exact Nat.le_refl _) q_):P:=h q
theorem Ph{P Q:Prop}(q:Q)(h:Q->P:=by show _->gP ..;exactλq_=>dP (by show(acc.length+1)*120<=140737488355328;omega) q_):P:=h q
theorem afH{P Q:Prop}(q:Q)(h:Q->P:=by show _->lq ..;first|exactλq_=>eF (List.Sublist.cons _ (List.Sublist.cons _ (List.Sublist.refl _))) (λ_ _ h=>h) q_|exactλq_=>eF (List.Sublist.cons_cons _ (List.Sublist.cons _ (List.Sublist.refl _))) (λ_ _ h=>h) q_|exactλq_=>eF (List.Sublist.cons _ (List.Sublist.cons_cons _ (List.Sublist.cons _ (List.Sublist.refl _)))) (λ_ _ h=>h) q_):P:=h q
theorem Pw{P Q:Prop}(q:Q)(h:Q->P:=by show _->mF ..;exactλq_=>gL (λR w' h=>by rw[<-hra];exact aA h hr) _ hrow rfl q_):P:=h q
theorem YK{P Q:Prop}(q:Q)(h:Q->P:=by show _->bV ..;exactλq_=>aH ra j hra rfl hlt q_):P:=h q
theorem Zt{P Q:Prop}(q:Q)(h:Q->P:=by show _->di ..;first|exactλq_=>bg j rfl hlt (Nat.le_of_eq hbl.symm) q_|exactλq_=>bg j rfl hlt (Nat.le_of_eq hgl.symm) q_|exactλq_=>bg x.a.toNat (by omega) (by omega) (Nat.le_of_eq hgl.symm) q_|exactλq_=>bg x.b.toNat (by omega) (by omega) (Nat.le_of_eq hgl.symm) q_):P:=h q
theorem ZQ{P Q:Prop}(q:Q)(h:Q->P:=by show _->mq ..;first|exactλq_=>row_of _ _ (EE (by omega) hb) rfl q_|exactλq_=>row_of _ _ (qP (k:=x.a.toNat) (by omega)) rfl q_|exactλq_=>row_of _ _ (qP (k:=x.b.toNat) (by omega)) rfl q_):P:=h q
theorem ah8{P Q:Prop}(q:Q)(h:Q->P:=by show _->jT _ ((_,.rows (List.take acc.length _++_) _ _)::_) _ _ _;exactλq_=>jY (ys:=bF (acc++[x])) (m:=(acc++[x]).length) q_ (mg acc (x)) (by show acc.length+1=_;rw[List.length_append];rfl)):P:=h q
theorem X9{P Q:Prop}(q:Q)(h:Q->P:=by show _->mF ..;exactλq_=>gL (λR w' h=>by rw[<-ha2];exact aA h hacc) _ Cc rfl q_):P:=h q
theorem age{P Q:Prop}(q:Q)(h:Q->P:=by show _->aI _ 91 ..;exactλq_=>VP (f:=91) n t.xs cnt Tryz.call91 (λρ w' hw=>ak2 w' (ae hw λR h=>hno.later h) (ae hw λR h=>hto.later h)) q_):P:=h q
theorem Xe{P Q:Prop}(q:Q)(h:Q->P:=by show _->aI _ 90 ..;exactλq_=>aQ (f:=90) Tryz.call90 (.bool false) (λρ w' hw=>J4 w') q_):P:=h q
theorem Zg{P Q:Prop}(q:Q)(h:Q->P:=by show _->vO ..;exactλq_=>gY (by rw[aJ,hlen];exact Nat.le_refl _) q_):P:=h q
theorem ahx{P Q:Prop}(q:Q)(h:Q->P:=by show _->bV ..;first|exactλq_=>aH a2 n.a.toNat ha2 hna hlt q_|exactλq_=>aH ua 0 jD rfl (by omega) q_|exactλq_=>aH ua 1 jD rfl (by omega) q_|exactλq_=>aH ua 2 jD rfl (by omega) q_):P:=h q
theorem agq{P Q:Prop}(q:Q)(h:Q->P:=by show _->fT ..;first|exactλq_=>jc hur (j:=0) (by omega) hd0 q_|exactλq_=>jc hur (j:=1) (by omega) hd1 q_|exactλq_=>jc hur (j:=2) (by omega) hd2 q_):P:=h q
theorem ah0{P Q:Prop}(q:Q)(h:Q->P:=by show _->aI _ 92 [ax d0,ax d1,ax d2,ax a.1] ..;exactλq_=>aQ (f:=92) Tryz.call92 (.int .i64 (fA n.data.xs a.1)) (λρ w' hw=>hpc a.1 w' p1) q_):P:=h q
theorem ah5{P Q:Prop}(q:Q)(h:Q->P:=by show _->aI _ 92 [ax d0,ax d1,ax d2,ax a.2] ..;exactλq_=>aQ (f:=92) Tryz.call92 (.int .i64 (fA n.data.xs a.2)) (λρ w' hw=>hpc a.2 w' p2) q_):P:=h q
theorem aaH{P Q:Prop}(q:Q)(h:Q->P:=by show _->gP ..;exactλq_=>dP (by show(i+1)*8<=140737488355328;omega) q_):P:=h q
theorem ahJ{P Q:Prop}(q:Q)(h:Q->P:=by show _->aI _ 44 ..;exactλq_=>aQ (f:=44) Tryz.call44 (jy (jg E)) (λρ w' hw=>amv w' (ae hw λR h=>oQ hsv (by omega) h.2) (ae hw λR h=>hn.later h.1) (ρ 1).base (ρ 1).cap (eT hw (by repeat(first|exact List.mem_cons_self|apply List.mem_cons_of_mem)))) q_):P:=h q
theorem S9{P Q:Prop}(q:Q)(h:Q->P:=by show _->di ..;exactλq_=>bg j rfl hjl (Nat.le_of_eq (dS row).symm) q_):P:=h q
theorem KF{P Q:Prop}(q:Q)(h:Q->P:=by show _->Br ..;exactλq_=>AO _ _ G9 rfl rfl q_):P:=h q
theorem KS{P Q:Prop}(q:Q)(h:Q->P:=by show _->bV ..;exactλq_=>aH sa i hsa rfl aeh q_):P:=h q
theorem TR{P Q:Prop}(q:Q)(h:Q->P:=by show _->fT ..;exactλq_=>bA (λR w' h=>by rw[<-hsa];exact aV h.1.1.2.1) _ _ af5 rfl q_):P:=h q
theorem Pn{P Q:Prop}(q:Q)(h:Q->P:=by show _->vO ..;first|exactλq_=>gY (by rw[dS];exact Nat.le_refl _) q_|exactλq_=>gY (by rw[aW];exact Nat.le_refl _) q_|exactλq_=>gY (by rw[nP];exact Nat.le_refl _) q_):P:=h q
theorem SH{P Q:Prop}(q:Q)(h:Q->P:=by show _->gP ..;first|exactλq_=>dP (by show(row.length+1)*120<=140737488355328;omega) q_|exactλq_=>dP (by show(nS.length+1)*24<=140737488355328;omega) q_|exactλq_=>dP (by show(st.length+1)*8<=140737488355328;omega) q_):P:=h q
theorem Uo{P Q:Prop}(q:Q)(h:Q->P:=by show _->jT _ ((_,.rows (List.take nS.length _++_) _ _)::_) _ _ _;exactλq_=>jY (ys:=aS (nS++[u])) (m:=(nS++[u]).length) q_ (Tw nS u) (by show nS.length+1=_;rw[List.length_append];rfl)):P:=h q
theorem Tc{P Q:Prop}(q:Q)(h:Q->P:=by show _->jT _ ((_,.rows (List.take st.length _++_) _ _)::_) _ _ _;first|exactλq_=>jY (ys:=aN (qE (st++[row.length]))) (m:=(st++[row.length]).length) q_ (Dj st row.length) (by show st.length+1=_;rw[List.length_append];rfl)|exactλq_=>jY (ys:=aN (qE (st++[q]))) (m:=(st++[q]).length) q_ (Dj st q) (by show st.length+1=_;rw[List.length_append];rfl)):P:=h q
theorem Tt{P Q:Prop}(q:Q)(h:Q->P:=by show _->aI _ 75 ..;exactλq_=>pM n 2 rfl ht Tryz.call75 (λρ w' hw=>rQ w' n hno.qO hno.oh) q_):P:=h q
theorem Zf{P Q:Prop}(q:Q)(h:Q->P:=by show _->ltK ..;exactλq_=>Jd (by first|omega|(rw[dS];omega)) q_):P:=h q
theorem ac1{P Q:Prop}(q:Q)(h:Q->P:=by show _->bV ..;first|exactλq_=>aH ua 0 jD rfl (by omega) q_|exactλq_=>aH ua 1 jD rfl (by omega) q_):P:=h q
theorem aeD{P Q:Prop}(q:Q)(h:Q->P:=by show _->fT ..;first|exactλq_=>bA (λR w' h=>by rw[<-jD];exact aV ((bE u1).mono h.2 (λb hb=>hb.1))) _ _ hu0 rfl q_|exactλq_=>bA (λR w' h=>by rw[<-jD];exact aV ((bE u1).mono h.2 (λb hb=>hb.1))) _ _ ajC rfl q_):P:=h q
theorem adV{P Q:Prop}(q:Q)(h:Q->P:=by show _->di ..;first|exactλq_=>bg n.a.toNat (by omega) haL (Nat.le_of_eq (nP st).symm) q_|exactλq_=>bg (st.getD n.a.toNat 0) rfl agW (Nat.le_of_eq (dS row).symm) q_|exactλq_=>bg n.b.toNat (by omega) hbL (Nat.le_of_eq (nP st).symm) q_|exactλq_=>bg (st.getD n.b.toNat 0) rfl ajo (Nat.le_of_eq (dS row).symm) q_):P:=h q
theorem afy{P Q:Prop}(q:Q)(h:Q->P:=by show _->mq ..;first|exactλq_=>row_of _ _ akm rfl q_|exactλq_=>row_of _ _ Cc rfl q_|exactλq_=>row_of _ _ aon rfl q_|exactλq_=>row_of _ _ KQ rfl q_):P:=h q
theorem Zj{P Q:Prop}(q:Q)(h:Q->P:=by show _->mJ ..;exactλq_=>jC row.length rfl rfl (by show 24*row.length<=_;omega) (by omega) q_):P:=h q
theorem XV{P Q:Prop}(q:Q)(h:Q->P:=by show _->jT _ ((_,.rows (List.replicate _ [.slice none 0 0]) _ _)::_) _ _ _;exactλq_=>jY (ys:=aS (og row.length [])) (m:=row.length) q_ (by simp[og,aS,fQ,au.val]) rfl):P:=h q
theorem ahf{P Q:Prop}(q:Q)(h:Q->P:=by show _->di ..;first|exactλq_=>bg j rfl hjl (Nat.le_of_eq (dS row).symm) q_|exactλq_=>bg j rfl hjl (by rw[aW,uw (by omega)];exact Nat.le_refl _) q_):P:=h q
theorem aij{P Q:Prop}(q:Q)(h:Q->P:=by show _->lq ..;first|exactλq_=>eF (List.nil_sublist _) (λ_ _ h=>h) q_|exactλq_=>eF (List.nil_sublist _) (λ_ _ h=>h.1) q_):P:=h q
theorem ah6{P Q:Prop}(q:Q)(h:Q->P:=by show _->jT _ ((_,.rows (List.take row.length _++_) _ _)::_) _ _ _;exactλq_=>jY (ys:=bF (row++[(fZ u x.1)])) (m:=(row++[(fZ u x.1)]).length) q_ (mg row (fZ u x.1)) (by show row.length+1=_;rw[List.length_append];rfl)):P:=h q
theorem ahX{P Q:Prop}(q:Q)(h:Q->P:=by show _->jT _ ((_,.rows (List.take row.length _++_) _ _)::_) _ _ _;exactλq_=>jY (ys:=bF (row++[(jJ n (st.getD n.a.toNat 0) (st.getD n.b.toNat 0))])) (m:=(row++[(jJ n (st.getD n.a.toNat 0) (st.getD n.b.toNat 0))]).length) q_ (mg row (jJ n (st.getD n.a.toNat 0) (st.getD n.b.toNat 0))) (by show row.length+1=_;rw[List.length_append];rfl)):P:=h q
theorem acL{P Q:Prop}(q:Q)(h:Q->P:=by show _->aI _ 75 ..;exactλq_=>pM n 1 rfl ht Tryz.call75 (λρ w' hw=>rQ w' n hno.qO hno.oh) q_):P:=h q
theorem ahH{P Q:Prop}(q:Q)(h:Q->P:=by show _->fT ..;exactλq_=>bA (λR w' h=>by rw[<-jD];exact aV ((bE u1).mono h.2 (λb hb=>hb.1))) _ _ hu0 rfl q_):P:=h q
theorem ahQ{P Q:Prop}(q:Q)(h:Q->P:=by show _->di ..;first|exactλq_=>bg n.a.toNat (by omega) haL (Nat.le_of_eq (nP st).symm) q_|exactλq_=>bg (st.getD n.a.toNat 0) rfl agW (Nat.le_of_eq (dS row).symm) q_):P:=h q
theorem adE{P Q:Prop}(q:Q)(h:Q->P:=by show _-> @eZ _ _ _;first|exactλq_=>dA (show¬(p:Int)<=2048 by omega) q_|exactλq_=>dA (by omega) q_|exactλq_=>cu (by omega) q_):P:=h q
theorem ZI{P Q:Prop}(q:Q)(h:Q->P:=by show _->bV ..;exactλq_=>aH da 1 hda rfl (by omega) q_):P:=h q
theorem ZN{P Q:Prop}(q:Q)(h:Q->P:=by show _->fT ..;exactλq_=>kz (λR w' h=>by rw[<-hda];exact fV h.1.2.2.1) (j:=1) (by omega) hb q_):P:=h q
theorem SS{P Q:Prop}(q:Q)(h:Q->P:=by show _->aI _ 73 ..;exactλq_=>gy bQ Tryz.func73 rfl rfl rfl Tryz.call73 rfl (by show 2<=_;decide) q_):P:=h q
theorem aeJ{P Q:Prop}(q:Q)(h:Q->P:=by show _->fT ..;exactλq_=>kz (λR w' h=>by rw[<-hda];exact fV h.1.2.2.1) (j:=2) (by omega) ha q_):P:=h q
theorem ad3{P Q:Prop}(q:Q)(h:Q->P:=by show _->aI _ 7 ..;exactλq_=>aQ (f:=7) Tryz.call7 (.bool true) (λρ w' hw=>Te w') q_):P:=h q
theorem ahl{P Q:Prop}(q:Q)(h:Q->P:=by show _->aI _ 8 ..;exactλq_=>aQ (f:=8) Tryz.call8 (.bool true) (λρ w' hw=>by have:=Yn w' g (ae hw λR h=>hg.later h);rw[hf]at this;exact this) q_):P:=h q
theorem aU{P:Prop}(h:P:=by repeat(first|exact List.mem_cons_self|apply List.mem_cons_of_mem)):P:=h
theorem aa{P:Prop}(h:P:=by omega):P:=h
theorem aY{P:Prop}(h:P:=by decide):P:=h
theorem gK{P:Prop}(h:P:=by first|exact h.2|exact h.1.2):P:=h
theorem gJ{P:Prop}(h:P:=by first|exact h.1.2|exact h.2):P:=h
theorem Lt{P:Prop}(h:P:=by simp only[kg,Bool.true_or,Bool.false_or,Bool.true_and,Bool.and_true,Bool.and_eq_true,Bool.and_eq_false_iff,decide_eq_true_eq,decide_eq_false_iff_not];omega):P:=h
theorem ji{P:Prop}(h:P:=by kernel_rfl):P:=h
theorem fP{P:Prop}(h:P:=by simp):P:=h
theorem vK{P:Prop}(h:P:=by rw[aJ];omega):P:=h
theorem Ta{P:Prop}(h:P:=by unfold bR;simp only[hA];(repeat(first|rw[if_pos (by omega)]|rw[if_neg (by omega)]))):P:=h
theorem kP{P:Prop}(h:P:=by cases h):P:=h
theorem Lj{P:Prop}(h:P:=by rw[zA (by omega),zA (by omega)];omega):P:=h
theorem Yk{P:Prop}(h:P:=by unfold bR;simp only[hA];repeat(first|rw[if_pos (by omega)]|rw[if_neg (by omega)])):P:=h
theorem acu{P:Prop}(h:P:=by first|(rw[List.length_append];rfl)|(rw[List.length_append,xD];rfl)|(rw[List.length_append,xB];rfl)):P:=h
theorem Tp{P:Prop}(h:P:=by first|(left;omega)|(right;left;omega)|(right;right;assumption)):P:=h
theorem Ca{P:Prop}(h:P:=by rw[dS];omega):P:=h
theorem BG{P:Prop}(h:P:=by simpa[IM]using hk):P:=h
theorem Nn{P:Prop}(h:P:=by show _=((c.aj-base:Nat):Int);omega):P:=h
theorem DI{P:Prop}(h:P:=by show 8*_<=_;omega):P:=h
theorem Hu{P:Prop}(h:P:=by first|exact h.1.1|exact h.1):P:=h
theorem BL{P:Prop}(h:P:=by show 2<=_;decide):P:=h
theorem Zi{P:Prop}(h:P:=by rw[aW,uw (by omega)];exact Nat.le_refl _):P:=h
theorem CK{P:Prop}(h:P:=by rw[hlm];exact hform):P:=h
theorem vJ{P:Prop}(h:P:=by assumption):P:=h
theorem Fu{P:Prop}(h:P:=by have:=z0.lW;omega):P:=h
theorem FW{P:Prop}(h:P:=by show 0+1<=1;omega):P:=h
theorem yL{P:Prop}(h:P:=by simp;omega):P:=h
theorem N7{P:Prop}(h:P:=by rw[aJ];exact Nat.le_refl _):P:=h
theorem EU{P:Prop}(h:P:=by rw[<-hgc];omega):P:=h
theorem aht{P:Prop}(h:P:=by have:=eT hw (i:=6) (by repeat(first|exact List.mem_cons_self|apply List.mem_cons_of_mem));rw[hgk]at this;exact this):P:=h
theorem Mw{P:Prop}(h:P:=by rw[aW];exact hlt):P:=h
theorem J9{P:Prop}(h:P:=by rw[aW];omega):P:=h
theorem Yo{P:Prop}(h:P:=by show _<=500000+6*base+4*(k+1);omega):P:=h
theorem Oz{P:Prop}(h:P:=by rw[List.length_replicate];omega):P:=h
theorem RH{P:Prop}(h:P:=by have:=hb (by omega) (by omega);omega):P:=h
theorem Su{P:Prop}(h:P:=by rw[aW];exact Nat.le_refl _):P:=h
theorem aiC{P:Prop}(h:P:=by repeat(first|exact List.Sublist.refl _|exact List.nil_sublist _|apply List.Sublist.cons_cons|apply List.Sublist.cons)):P:=h
theorem ahv{P:Prop}(h:P:=by first|exact Tryz.call27|exact Tryz.call28|exact Tryz.call29|exact Tryz.call30|exact Tryz.call31|exact Tryz.call26):P:=h
theorem ae2{P:Prop}(h:P:=by first|exact hn.later h.1|exact hn.later h.1.1|exact hn.later h.1.1.1):P:=h
theorem acf{P:Prop}(h:P:=by rw[List.length_append,List.length_singleton];omega):P:=h
theorem Xf{P:Prop}(h:P:=by show _<=500000+6*(base+g);omega):P:=h
theorem MC{P:Prop}(h:P:=by have:=z0.qW;omega):P:=h
theorem aew{P:Prop}(h:P:=by rw[h_,qU (by omega)];exact Nat.le_refl _):P:=h
theorem af3{P:Prop}(h:P:=by first|(simp only[aN,List.map_append];rfl)|(simp only[aN,List.map_append,xD];rfl)):P:=h
theorem ag0{P:Prop}(h:P:=by first|(simp only[aN,List.map_append];rfl)|(simp only[aN,List.map_append,xB];rfl)):P:=h
theorem NW{P:Prop}(h:P:=by unfold cK;omega):P:=h
theorem Wj{P:Prop}(h:P:=by unfold tight at ht;omega):P:=h
theorem ahU{P:Prop}(h:P:=by rw[if_pos (by show 2048<q.1.code.length;omega)]at hT;rw[<-hrT,<-hT];rfl):P:=h
theorem afw{P:Prop}(h:P:=by show _<=500000+6*((j+1)*g);rw[hj1];omega):P:=h
theorem acy{P:Prop}(h:P:=by rw[h_];exact Nat.le_refl _):P:=h
theorem Yp{P:Prop}(h:P:=by rw[aW];exact aaS):P:=h
theorem YL{P:Prop}(h:P:=by rw[h_];exact hlt):P:=h
theorem Yh{P:Prop}(h:P:=by rw[aJ,HZ];omega):P:=h
theorem Ze{P:Prop}(h:P:=by rw[List.length_cons];omega):P:=h
theorem acw{P:Prop}(h:P:=by simpa using congrArg Prod.fst g.symm):P:=h
theorem Um{P:Prop}(h:P:=by have:=z1.lW;omega):P:=h
theorem TM{P:Prop}(h:P:=by rw[List.length_map]):P:=h
theorem abl{P:Prop}(h:P:=by rw[aW];exact ln hto):P:=h
theorem afi{P:Prop}(h:P:=by show(m+1)*24<=140737488355328;omega):P:=h
theorem aeF{P:Prop}(h:P:=by have:=hx i (by simp[SV.has]);exact this):P:=h
theorem ais{P:Prop}(h:P:=by rw[yQ,yQ,vG,vG];apply Array.ext';simp):P:=h
theorem ahE{P:Prop}(h:P:=by intro x hx;simp only[List.mem_singleton]at hx;subst hx;omega):P:=h
theorem Yy{P:Prop}(h:P:=by rw[iX];omega):P:=h
theorem ahp{P:Prop}(h:P:=by simp[kY,u_,Value.formed,Tryz.underlying43,ZT]):P:=h
theorem adL{P:Prop}(h:P:=by rw[List.length_map];exact Nat.le_refl _):P:=h
theorem afJ{P:Prop}(h:P:=by rw[nE];exact Nat.le_refl _):P:=h
theorem aeE{P:Prop}(h:P:=by rw[nO];exact Nat.le_refl _):P:=h
theorem ab5{P:Prop}(h:P:=by rw[ha (by omega)];exact ho):P:=h
theorem abP{P:Prop}(h:P:=by rw[aJ];exact hlt):P:=h
theorem aaw{P:Prop}(h:P:=by rw[List.length_map];omega):P:=h
theorem agP{P:Prop}(h:P:=by unfold kG;rw[RG,if_pos (by rw[e2];exact hok),e2]):P:=h
theorem ahI{P:Prop}(h:P:=by rw[qz,he,decide_eq_false (by omega),Bool.false_and]):P:=h
theorem ag9{P:Prop}(h:P:=by show(s.aF.length+1)*24<=140737488355328;omega):P:=h
theorem aii{P:Prop}(h:P:=by show(s.inputs.length+1)*40<=140737488355328;omega):P:=h
theorem ad4{P:Prop}(h:P:=by show¬2048<q.1.code.length;omega):P:=h
theorem aeo{P:Prop}(h:P:=by rw[nP];exact Nat.le_refl _):P:=h
theorem aie{P:Prop}(h:P:=by show(s.code.length+1)*40<=140737488355328;omega):P:=h
theorem aib{P:Prop}(h:P:=by rw[(List.mem_replicate.1 hp).2];exact⟨rfl,rfl⟩):P:=h
theorem aiJ{P:Prop}(h:P:=by show 2048<q.1.code.length;omega):P:=h
theorem aef{P:Prop}(h:P:=by have:=(z0.plain fI).lW;omega):P:=h
theorem ahu{P:Prop}(h:P:=by simp[jy,Value.formed,Tryz.underlying58,ac5]):P:=h
theorem ah3{P:Prop}(h:P:=by show acc.length+1=_;rw[List.length_append];rfl):P:=h
theorem agI{P:Prop}(h:P:=by show row.length+1=_;rw[List.length_append];rfl):P:=h
theorem agu{P:Prop}(h:P:=by show st.length+1=_;rw[List.length_append];rfl):P:=h
theorem afX{P:Prop}(h:P:=by rw[yQ,yQ];apply Array.ext';simp):P:=h
theorem agp{P:Prop}(h:P:=by rw[hg,List.map_map];exact(List.map_id row).symm):P:=h
theorem aim{P:Prop}(h:P:=by show(st.length+1)*8<=140737488355328;omega):P:=h
theorem ahy{P:Prop}(h:P:=by rw[aJ,jr];exact Nat.le_refl _):P:=h
theorem afm{P:Prop}(h:P:=by rw[hlm];exact dM hform):P:=h
theorem ach{P:Prop}(h:P:=by rw[<-htx];exact hg):P:=h
theorem aey{P:Prop}(h:P:=by rw[dS];exact hlt):P:=h
theorem aik{P:Prop}(h:P:=by show _<=500000+6*base+4*(i+1);omega):P:=h
theorem ab9{P:Prop}(h:P:=by show 1<=j;exact h):P:=h
theorem Tz{P:Prop}(h:P:=by rw[h2];rfl):P:=h
theorem afC{P:Prop}(h:P:=by rw[aW];exact hil):P:=h
theorem agd{P:Prop}(h:P:=by rw[aJ,hml,hm];exact Nat.le_refl _):P:=h
theorem YH{P:Prop}(h:P:=by rw[e];exact h):P:=h
theorem aaM{P:Prop}(h:P:=by rw[ajA];exact hin):P:=h
theorem ady{P:Prop}(h:P:=by rw[List.length_drop];omega):P:=h
theorem ahW{P:Prop}(h:P:=by rw[h_,hil];exact Nat.le_refl _):P:=h
theorem agN{P:Prop}(h:P:=by show(m+1)*16<=140737488355328;omega):P:=h
theorem agH{P:Prop}(h:P:=by rw[aW,hml];exact Nat.le_refl _):P:=h
theorem ah4{P:Prop}(h:P:=by show(d+1)*24<=140737488355328;omega):P:=h
theorem afS{P:Prop}(h:P:=by rw[List.length_map];exact dM hform):P:=h
theorem ahZ{P:Prop}(h:P:=by show(m+2)*8<=140737488355328;omega):P:=h
theorem agk{P:Prop}(h:P:=by rw[aJ,ajA];exact Nat.le_refl _):P:=h
theorem ahP{P:Prop}(h:P:=by rw[aJ,hrl];exact Nat.le_refl _):P:=h
theorem agj{P:Prop}(h:P:=by rw[aJ,hfl];exact Nat.le_refl _):P:=h
theorem aeP{P:Prop}(h:P:=by rw[hu];exact Nat.one_pos):P:=h
theorem aao{P:Prop}(h:P:=by simp only[execOp]):P:=h
theorem abA{P:Prop}(h:P:=by simp[aJ]):P:=h
theorem NY{P:Prop}(h:P:=by simp[h]):P:=h
theorem ahT{P:Prop}(h:P:=by simp[SV.has]):P:=h
theorem aba{P:Prop}(h:P:=by rw[hN];exact he):P:=h
theorem aex{P:Prop}(h:P:=by show 24*_<=_;omega):P:=h
theorem aea{P:Prop}(h:P:=by rw[<-h.len];exact h1):P:=h
theorem afn{P:Prop}(h:P:=by have:=(z0).qW;omega):P:=h
theorem aeu{P:Prop}(h:P:=by have:=(z0).lW;omega):P:=h
theorem Yw{P:Prop}(h:P:=by rw[hs];rfl):P:=h
theorem ac8{P:Prop}(h:P:=by simpa[SV.has]using hi):P:=h
theorem aaU{P:Prop}(h:P:=by simpa using hfit):P:=h
theorem ZW{P:Prop}(h:P:=by rw[htl];decide):P:=h
theorem adk{P:Prop}(h:P:=by rw[hL.wE];exact hil):P:=h
theorem acV{P:Prop}(h:P:=by rw[hkM];decide):P:=h
theorem ade{P:Prop}(h:P:=by have:=z2.lW;omega):P:=h
theorem Zw{P:Prop}(h:P:=by rw[gp,gq]):P:=h
theorem ab1{P:Prop}(h:P:=by simpa using h):P:=h
theorem aaX{P:Prop}(h:P:=by rw[ho];simp):P:=h
theorem Z8{P:Prop}(h:P:=by rw[jD];rfl):P:=h
theorem Tx{P:Prop}(h:P:=by rw[hc]):P:=h

import Derived.WalkKit
import Derived.Below
import Derived.Deep.Quiet
/- texts Mac Mac of the proof of LowerSameSaid -/
set_option maxHeartbeats 16000000
set_option maxRecDepth 20000
set_option linter.unusedVariables false
set_option linter.unusedSimpArgs false
theorem zzK{P:Prop}(h:P:=by kernel_rfl):P:=h
theorem a_{P Q:Prop}(q:Q)(h:Q->P:=by first|(show _->Wp _ _ _ _ _ _ _;exact Wp.go bW rfl)|(show _-> @iG _ _ _;first|exact gJ (by omega)|exact jc (by omega))|(show _->fF _ _ _;exact wrap_i64 (by omega) (by omega))|(show _->Gn _ _ _;exact mg (by first|exact Nat.le_refl _|omega))|(show _->jv _ _ _;exact fU (by first|omega|(dsimp only;omega)))|(show _->ltK _ _ _;exact XG (by omega))|(show _->mW _ _ _ _ _;exact ed (by first|exact List.Sublist.refl _|exact List.Sublist.cons _ (List.Sublist.refl _)|exact List.Sublist.cons _ (List.Sublist.cons _ (List.Sublist.refl _))|exact List.Sublist.cons _ (List.Sublist.cons _ (List.Sublist.cons _ (List.Sublist.refl _)))) (by first|exact(λ_ _ h=>h)|exact(λ_ _ h=>h.1)|exact(λ_ _ h=>h.1.1)))|exact lS|exact UW):P:=h q
theorem bV{P Q:Prop}(q:Q)(h:Q->P:=by first|(show _->Wp _ _ _ _ _ _ _;exact Wp.go bW rfl)|(show _-> @iG _ _ _;first|exact gJ (by omega)|exact jc (by omega))|(show _->fF _ _ _;exact wrap_i64 (by omega) (by omega))|(show _->Gn _ _ _;exact mg (by first|exact Nat.le_refl _|omega))|(show _->jv _ _ _;exact fU (by first|omega|(dsimp only;omega)))|(show _->ltK _ _ _;exact XG (by omega))|(show _->mW _ _ _ _ _;exact ed (by first|exact List.Sublist.refl _|exact List.Sublist.cons _ (List.Sublist.refl _)|exact List.Sublist.cons _ (List.Sublist.cons _ (List.Sublist.refl _))|exact List.Sublist.cons _ (List.Sublist.cons _ (List.Sublist.cons _ (List.Sublist.refl _)))) (by first|exact(λ_ _ h=>h)|exact(λ_ _ h=>h.1)|exact(λ_ _ h=>h.1.1)))|exact lS|exact UW|(show _->cO _ _ _ _ _ _ _ _;exact EI bW mixed (by kernel_rfl))):P:=h q
theorem Lv{P Q:Prop}(q:Q)(h:Q->P:=by first|(show _->Wp _ _ _ _ _ _ _;exact Wp.go bW rfl)|(show _-> @iG _ _ _;first|exact gJ (by omega)|exact jc (by omega))|(show _->fF _ _ _;exact wrap_i64 (by omega) (by omega))|(show _->Gn _ _ _;exact mg (by first|exact Nat.le_refl _|omega))|(show _->jv _ _ _;exact fU (by first|omega|(dsimp only;omega)))|(show _->ltK _ _ _;exact XG (by omega))|(show _->mW _ _ _ _ _;exact ed (by first|exact List.Sublist.refl _|exact List.Sublist.cons _ (List.Sublist.refl _)|exact List.Sublist.cons _ (List.Sublist.cons _ (List.Sublist.refl _))|exact List.Sublist.cons _ (List.Sublist.cons _ (List.Sublist.cons _ (List.Sublist.refl _)))) (by first|exact(λ_ _ h=>h)|exact(λ_ _ h=>h.1)|exact(λ_ _ h=>h.1.1)))|exact UW):P:=h q
theorem FB{P Q:Prop}(q:Q)(h:Q->P:=by first|(show _-> @iG _ _ _;first|exact gJ (by omega)|exact jc (by omega))|(show _->fF _ _ _;exact wrap_i64 (by omega) (by omega))|(show _->Gn _ _ _;exact mg (by first|exact Nat.le_refl _|omega))|(show _->jv _ _ _;exact fU (by first|omega|(dsimp only;omega)))|(show _->ltK _ _ _;exact XG (by omega))|(show _->mW _ _ _ _ _;exact ed (by first|exact List.Sublist.refl _|exact List.Sublist.cons _ (List.Sublist.refl _)|exact List.Sublist.cons _ (List.Sublist.cons _ (List.Sublist.refl _))|exact List.Sublist.cons _ (List.Sublist.cons _ (List.Sublist.cons _ (List.Sublist.refl _)))) (by first|exact(λ_ _ h=>h)|exact(λ_ _ h=>h.1)|exact(λ_ _ h=>h.1.1)))|exact lS|exact UW):P:=h q
theorem fE{P:Prop}(h:P:=by repeat(first|exact trivial|refine⟨(by first|exact rfl|(repeat(first|exact List.mem_cons_self|apply List.mem_cons_of_mem))),?_⟩)):P:=h
theorem bn{P Q:Prop}(q:Q)(h:Q->P:=by show _-> @iG _ _ _;first|exactλq_=>gJ (by omega) q_|exactλq_=>jc (by omega) q_):P:=h q
theorem NW{P Q:Prop}(q:Q)(h:Q->P:=by show _->ahm ..;exactλq_=>ah7 (.tuple #[.int .u64 ((x+y:Nat):Int),.int .u64 ((0:Nat):Int)]) (λρ w' _=>hadd w') q_):P:=h q
theorem Ab{P Q:Prop}(q:Q)(h:Q->P:=by show _->aJ _ 148 ..;exactλq_=>aR (f:=148) Tryz.call148 _ (λρ w' hw=>SN w' n at_ sv (ae hw λR h=>hs.later h) i s hi ha) q_):P:=h q
theorem O_{P Q:Prop}(q:Q)(h:Q->P:=by show _->jQ _ 148 ..;exactλq_=>jo (f:=148) Tryz.call148 _ (λρ w' hw=>SN w' n at_ sv (ae hw λR h=>hs.later h) i s hi ha) q_):P:=h q
theorem mG{P Q:Prop}(q:Q)(h:Q->P:=by show _->x8 ..;exactλq_=>Ub (by omega) (by omega) q_):P:=h q
theorem pK{P Q:Prop}(q:Q)(h:Q->P:=by show _->yM ..;exactλq_=>div_pos rfl (by omega) (by omega) (by omega) q_):P:=h q
theorem A_{P Q:Prop}(q:Q)(h:Q->P:=by show _->lK ..;exactλq_=>gI (λR w' h=>by rw[<-ha];exact aH h.1 hg.rows) _ hrow rfl q_):P:=h q
theorem zT{P Q:Prop}(q:Q)(h:Q->P:=by show _->Gn ..;exactλq_=>mg (by rw[bz];exact Nat.le_refl _) q_):P:=h q
theorem rX{P Q:Prop}(q:Q)(h:Q->P:=by show _->jv ..;exactλq_=>fU (by show(us.length+1)*24<=140737488355328;omega) q_):P:=h q
theorem lg{P Q:Prop}(q:Q)(h:Q->P:=by show _->mi ..;exactλq_=>Gz (ti 165 rfl) rfl jW q_):P:=h q
theorem kV{P Q:Prop}(q:Q)(h:Q->P:=by show _->aJ _ 134 ..;exactλq_=>jH (f:=134) (aew n) 7 rfl Tryz.call134 (λρ w' hw=>aik w' n) q_):P:=h q
theorem nZ{P Q:Prop}(q:Q)(h:Q->P:=by show _->aJ _ 42 ..;exactλq_=>aR (f:=42) Tryz.call42 _ (λρ w' hw=>kr w' n.az.base n.az.cap n.az.xs (ae hw λR h=>aH h.1.1 hn.az.rows)) q_):P:=h q
theorem nQ{P Q:Prop}(q:Q)(h:Q->P:=by show _->jQ _ 42 ..;exactλq_=>jo (f:=42) Tryz.call42 _ (λρ w' hw=>kr w' n.az.base n.az.cap n.az.xs (ae hw λR h=>aH h.1.1 hn.az.rows)) q_):P:=h q
theorem j4{P Q:Prop}(q:Q)(h:Q->P:=by show _->dn ..;first|exactλq_=>aM ah 0 hah rfl (by omega) q_|exactλq_=>aM am 0 jW rfl (by omega) q_|exactλq_=>aM ah 1 hah rfl (by omega) q_|exactλq_=>aM am 1 jW rfl (by omega) q_|exactλq_=>aM ah 2 hah rfl (by omega) q_|exactλq_=>aM am 2 jW rfl (by omega) q_|exactλq_=>aM ah 3 hah rfl (by omega) q_|exactλq_=>aM am 3 jW rfl (by omega) q_|exactλq_=>aM ah 4 hah rfl (by omega) q_|exactλq_=>aM am 4 jW rfl (by omega) q_|exactλq_=>aM ah 5 hah rfl (by omega) q_|exactλq_=>aM am 5 jW rfl (by omega) q_|exactλq_=>aM ah 6 hah rfl (by omega) q_|exactλq_=>aM am 6 jW rfl (by omega) q_|exactλq_=>aM _ 0 (hbase (by omega)) rfl (by omega) q_):P:=h q
theorem Pw{P Q:Prop}(q:Q)(h:Q->P:=by show _->aJ _ 133 ..;exactλq_=>jH (f:=133) [true,false,false,false,false,true,false] 7 rfl Tryz.call133 (λρ w' hw=>qW w' n.ai [true,false,false,false,false,true,false] hm) q_):P:=h q
theorem MX{P Q:Prop}(q:Q)(h:Q->P:=by show _->aJ _ 133 ..;exactλq_=>jH (f:=133) [true,false,true,false,false,true,true] 7 rfl Tryz.call133 (λρ w' hw=>qW w' n.ai [true,false,true,false,false,true,true] hm) q_):P:=h q
theorem Ag{P Q:Prop}(q:Q)(h:Q->P:=by show _->Gn ..;exactλq_=>mg (by rw[aP];exact Nat.le_refl _) q_):P:=h q
theorem pR{P Q:Prop}(q:Q)(h:Q->P:=by show _->dn ..;exactλq_=>aM a i ha rfl hlt q_):P:=h q
theorem zJ{P Q:Prop}(q:Q)(h:Q->P:=by show _->aJ _ 61 ..;exactλq_=>aR (f:=61) Tryz.call61 _ (λρ w' hw=>vI w' s (ae hw λR h=>hss.later h)) q_):P:=h q
theorem oJ{P Q:Prop}(q:Q)(h:Q->P:=by show _->dn ..;exactλq_=>aM _ 0 rO rfl (by omega) q_):P:=h q
theorem nY{P Q:Prop}(q:Q)(h:Q->P:=by show _->gZ ..;exactλq_=>dP hur (j:=0) (by omega) q_):P:=h q
theorem kZ{P Q:Prop}(q:Q)(h:Q->P:=by show _->dn ..;exactλq_=>aM _ 1 rO rfl (by omega) q_):P:=h q
theorem kX{P Q:Prop}(q:Q)(h:Q->P:=by show _->gZ ..;exactλq_=>dP hur (j:=1) (by omega) q_):P:=h q
theorem jZ{P Q:Prop}(q:Q)(h:Q->P:=by show _->dn ..;exactλq_=>aM _ 2 rO rfl (by omega) q_):P:=h q
theorem j6{P Q:Prop}(q:Q)(h:Q->P:=by show _->gZ ..;exactλq_=>dP hur (j:=2) (by omega) q_):P:=h q
theorem sP{P Q:Prop}(q:Q)(h:Q->P:=by show _->dn ..;exactλq_=>aM _ o rO rfl (by omega) q_):P:=h q
theorem pY{P Q:Prop}(q:Q)(h:Q->P:=by show _->gZ ..;exactλq_=>dP hur (j:=o) (by omega) q_):P:=h q
theorem su{P Q:Prop}(q:Q)(h:Q->P:=by show _->eP ..;exactλq_=>bY o rfl hlt (by rw[aP,vF (by omega)];exact Nat.le_refl _) q_):P:=h q
theorem sZ{P Q:Prop}(q:Q)(h:Q->P:=by show _->dH ..;exactλq_=>K9 hlen hlt q_):P:=h q
theorem Fy{P Q:Prop}(q:Q)(h:Q->P:=by show _->dn ..;first|exactλq_=>aM a i ha rfl hlt q_|exactλq_=>aM a j ha hja alv q_):P:=h q
theorem EL{P Q:Prop}(q:Q)(h:Q->P:=by show _->gZ ..;first|exactλq_=>bN (λR w' h=>by rw[<-ha];exact aH h hs.rows) _ _ hrow rfl q_|exactλq_=>bN (λR w' h=>by rw[<-ha];exact aH h hs.rows) _ _ aba rfl q_):P:=h q
theorem eU{P Q:Prop}(q:Q)(h:Q->P:=by show _->mW ..;exactλq_=>akI q_):P:=h q
theorem Nc{P Q:Prop}(q:Q)(h:Q->P:=by show _->dn ..;first|exactλq_=>aM us 1 iL rfl (by rw[hsl];decide) q_|exactλq_=>aM us 2 iL rfl (by rw[hsl];decide) q_|exactλq_=>aM us 3 iL rfl (by rw[hsl];decide) q_|exactλq_=>aM ut 1 hut rfl (by rw[htl];decide) q_|exactλq_=>aM ut 2 hut rfl (by rw[htl];decide) q_):P:=h q
theorem PT{P Q:Prop}(q:Q)(h:Q->P:=by show _->gZ ..;first|exactλq_=>bN hsr [.int .i64 k1] (.int .i64 k1) (j:=1) rfl rfl q_|exactλq_=>bN hsr [.int .i64 k2] (.int .i64 k2) (j:=2) rfl rfl q_|exactλq_=>bN hsr [.int .i64 k3] (.int .i64 k3) (j:=3) rfl rfl q_|exactλq_=>bN htr [.int .i64 i1] (.int .i64 i1) (j:=1) rfl rfl q_|exactλq_=>bN htr [.int .i64 i2] (.int .i64 i2) (j:=2) rfl rfl q_):P:=h q
theorem PL{P Q:Prop}(q:Q)(h:Q->P:=by show _->mW ..;exactλq_=>ed (by repeat(first|exact List.Sublist.refl _|exact List.nil_sublist _|apply List.Sublist.cons_cons|apply List.Sublist.cons)) (λ_ _ h=>h) q_):P:=h q
theorem N7{P Q:Prop}(q:Q)(h:Q->P:=by show _->gZ ..;first|exactλq_=>bN htr [.int .i64 i1] (.int .i64 i1) (j:=1) rfl rfl q_|exactλq_=>bN htr [.int .i64 i2] (.int .i64 i2) (j:=2) rfl rfl q_):P:=h q
theorem wV{P Q:Prop}(q:Q)(h:Q->P:=by show _->G9 ..;exactλq_=>I_ _ _ hrow rfl rfl q_):P:=h q
theorem Nt{P Q:Prop}(q:Q)(h:Q->P:=by show _->aJ _ 52 ..;exactλq_=>aR (f:=52) Tryz.call52 (.int .i64 (foldI min x.1.xs)) (λρ w' hw=>U5 w' x.1 (ae hw λR h=>alT hn.data hx2 hx3 h.1.1 h.2) hEL) q_):P:=h q
theorem Po{P Q:Prop}(q:Q)(h:Q->P:=by show _->aJ _ 53 ..;exactλq_=>aR (f:=53) Tryz.call53 (.int .i64 (foldI max x.1.xs)) (λρ w' hw=>Ux w' x.1 (ae hw λR h=>alT hn.data hx2 hx3 h.1.1 h.2) hEL) q_):P:=h q
theorem Pt{P Q:Prop}(q:Q)(h:Q->P:=by show _->eP ..;exactλq_=>bY i rfl hlt (by rw[jg,rF (by first|omega|(rw[List.length_append,List.length_singleton];omega))];exact Nat.le_refl _) q_):P:=h q
theorem Nz{P Q:Prop}(q:Q)(h:Q->P:=by show _->ltK ..;exactλq_=>XG (by rw[jg,rF (by rw[List.length_append,List.length_singleton];omega)];exact hlt) q_):P:=h q
theorem Ae{P Q:Prop}(q:Q)(h:Q->P:=by show _->lK ..;exactλq_=>gI (λR w' h=>by rw[<-ha];exact aH h.1.1 hg.rows) _ hrow rfl q_):P:=h q
theorem zF{P Q:Prop}(q:Q)(h:Q->P:=by show _->aJ _ 50 ..;exactλq_=>aR (f:=50) Tryz.call50 _ (λρ w' hw=>hat w' (ae hw λR h=>zy hsv (by omega) h.1.2)) q_):P:=h q
theorem Oq{P Q:Prop}(q:Q)(h:Q->P:=by show _->jQ _ 52 ..;exactλq_=>jo (f:=52) Tryz.call52 (.int .i64 (foldI min x.xs)) (λρ w' hw=>U5 w' x (ae hw λR h=>ae3.later h.1.1) (by omega)) q_):P:=h q
theorem M6{P Q:Prop}(q:Q)(h:Q->P:=by show _->jQ _ 53 ..;exactλq_=>jo (f:=53) Tryz.call53 (.int .i64 (foldI max x.xs)) (λρ w' hw=>Ux w' x (ae hw λR h=>ae3.later h.1.1) (by omega)) q_):P:=h q
theorem tJ{P Q:Prop}(q:Q)(h:Q->P:=by show _->gZ ..;first|exactλq_=>A9 (λR w' h=>by simp only[fG];exact(hd.later h).c0) q_|exactλq_=>A9 (λR w' h=>by simp only[fG];exact(hd.later h).c2) q_):P:=h q
theorem Au{P Q:Prop}(q:Q)(h:Q->P:=by show _->Ce ..;exactλq_=>Oo (by repeat(first|exact List.mem_cons_self|apply List.mem_cons_of_mem)) hs q_):P:=h q
theorem zY{P Q:Prop}(q:Q)(h:Q->P:=by show _->qV ..;exactλq_=>ah_ (by repeat(first|exact List.mem_cons_self|apply List.mem_cons_of_mem)) q_):P:=h q
theorem F8{P Q:Prop}(q:Q)(h:Q->P:=by show _->gZ ..;exactλq_=>A9 (λR w' h=>by simp only[fG];exact(hd.rest hm h).c0) q_):P:=h q
theorem wI{P Q:Prop}(q:Q)(h:Q->P:=by show _->dn ..;exactλq_=>aM na k hna rfl hk q_):P:=h q
theorem EW{P Q:Prop}(q:Q)(h:Q->P:=by show _->lK ..;exactλq_=>gI (λR w' h=>by rw[<-hna];exact Ms hm hd.nodes h) _ hrow rfl q_):P:=h q
theorem P5{P Q:Prop}(q:Q)(h:Q->P:=by show _->aJ _ 109 [_,aC n.a] ..;exactλq_=>aR (f:=109) Tryz.call109 (.bool true) (λρ w' hw=>rH (ae hw λR h=>hd.later h) ha0 NZ hkA) q_):P:=h q
theorem M9{P Q:Prop}(q:Q)(h:Q->P:=by show _->gZ ..;exactλq_=>bN (λR w' h=>by rw[<-hsa];exact bf (by first|exact h.2.1|exact h.1.2.1)) _ _ (fQ hs1) rfl q_):P:=h q
theorem F7{P Q:Prop}(q:Q)(h:Q->P:=by show _->gZ ..;exactλq_=>A9 (λR w' h=>by rw[jE (h _ (iA hc)).2];exact hc) q_):P:=h q
theorem FX{P Q:Prop}(q:Q)(h:Q->P:=by show _->eP ..;exactλq_=>bY n.a.toNat (by omega) ha (by rw[aP];exact Nat.le_refl _) q_):P:=h q
theorem vV{P Q:Prop}(q:Q)(h:Q->P:=by show _->aJ _ 72 ..;exactλq_=>gm bW Tryz.func72 rfl rfl rfl Tryz.call72 rfl (by show 1<=_;decide) q_):P:=h q
theorem AO{P Q:Prop}(q:Q)(h:Q->P:=by show _->dn ..;first|exactλq_=>aM a 0 rfl rfl (by decide) q_|exactλq_=>aM a 1 rfl rfl (by decide) q_):P:=h q
theorem zP{P Q:Prop}(q:Q)(h:Q->P:=by show _->gZ ..;first|exactλq_=>bN (λR w' h=>aH h hr) _ _ (j:=0) rfl rfl q_|exactλq_=>bN (λR w' h=>aH h hr) _ _ (j:=1) rfl rfl q_):P:=h q
theorem FW{P Q:Prop}(q:Q)(h:Q->P:=by show _->jv ..;exactλq_=>fU (by simp only[List.length_take,List.length_append,aP,List.length_nil];omega) q_):P:=h q
theorem Fq{P Q:Prop}(q:Q)(h:Q->P:=by show _->Gn ..;exactλq_=>mg (by simp only[List.length_take,List.length_append,aP,List.length_nil];omega) q_):P:=h q
theorem ED{P Q:Prop}(q:Q)(h:Q->P:=by show _->gZ ..;first|exactλq_=>aix ano (j:=i) Vt hfi q_|exactλq_=>bN (λR w' h=>by rw[<-hra];exact aH h hr.rows) _ _ (fQ VH) rfl q_|exactλq_=>aix hwr (j:=i) (by omega) hwi q_):P:=h q
theorem Ey{P Q:Prop}(q:Q)(h:Q->P:=by show _->Gn ..;exactλq_=>mg (Nat.le_of_eq (by rw[aP,fV])) q_):P:=h q
theorem EF{P Q:Prop}(q:Q)(h:Q->P:=by show _->jv ..;exactλq_=>fU (by show(k+1)*8<=140737488355328;omega) q_):P:=h q
theorem F9{P Q:Prop}(q:Q)(h:Q->P:=by show _->eP ..;exactλq_=>bY (n-1) (by omega) (by omega) (Nat.le_of_eq (by rw[aP,fV])) q_):P:=h q
theorem MZ{P Q:Prop}(q:Q)(h:Q->P:=by show _->fF ..;first|exactλq_=>yN ((cc*n:Nat):Int) (Int.natCast_mul cc n).symm (by omega) (by omega) q_|exactλq_=>yN (kD n n k) hpl (by omega) (by omega) q_|exactλq_=>wrap_i64 (by omega) (by omega) q_):P:=h q
theorem nU{P Q:Prop}(q:Q)(h:Q->P:=by show _->fF ..;exactλq_=>pF ((i+1:Nat):Int) (by omega) (by omega) (by omega) q_):P:=h q
theorem sw{P Q:Prop}(q:Q)(h:Q->P:=by show _->cO _ 13 ..;exactλq_=>mV [] [] akQ q_ (h6:=List.nil_sublist _)):P:=h q
theorem tC{P Q:Prop}(q:Q)(h:Q->P:=by show _->cO _ 14 ..;exactλq_=>mV [25] _ alj q_ (h6:=List.Sublist.cons_cons _ (List.Sublist.cons_cons _ (List.Sublist.cons _ (List.Sublist.refl _))))):P:=h q
theorem tH{P Q:Prop}(q:Q)(h:Q->P:=by show _->eP ..;first|exactλq_=>bY 0 rfl (show 0<4 by decide) (show 4<=4 by decide) q_|exactλq_=>bY 1 rfl (show 1<4 by decide) (show 4<=4 by decide) q_|exactλq_=>bY 2 rfl (show 2<4 by decide) (show 4<=4 by decide) q_|exactλq_=>bY 3 rfl (show 3<4 by decide) (show 4<=4 by decide) q_):P:=h q
theorem sK{P Q:Prop}(q:Q)(h:Q->P:=by show _->rQ ..;exactλq_=>row_of _ _ rfl rfl q_):P:=h q
theorem wX{P Q:Prop}(q:Q)(h:Q->P:=by show _->Gn ..;exactλq_=>mg (by rw[jJ];exact Nat.le_refl _) q_):P:=h q
theorem z8{P Q:Prop}(q:Q)(h:Q->P:=by show _->gZ ..;exactλq_=>bN (λR w' h=>by rw[<-hsa];exact bf h.1.2.1) _ _ hrow rfl q_):P:=h q
theorem AY{P Q:Prop}(q:Q)(h:Q->P:=by show _->aJ _ 25 ..;exactλq_=>ZV (gM u.xs o.aV m) Tryz.call25 (λρ w' hw=>adz w' u (ae hw λR h=>bf (h.1.2.2 u IZ)) o.aV m) q_):P:=h q
theorem OP{P Q:Prop}(q:Q)(h:Q->P:=by show _->qN _ ((_,.rows (List.take us.length _++_) _ _)::_) _ _ _;exactλq_=>uM (ys:=bA (us++[x])) (m:=(us++[x]).length) q_ (Vk us x) (by show us.length+1=_;rw[List.length_append];rfl)):P:=h q
theorem Ob{P Q:Prop}(q:Q)(h:Q->P:=by show _->qN _ ((_,.rows (List.take vl.length _++_) _ _)::_) _ _ _;exactλq_=>uM (ys:=aZ (vl++[q.2])) (m:=(vl++[q.2]).length) q_ (Z5 vl q.2) (by show vl.length+1=_;rw[List.length_append];rfl)):P:=h q
theorem zQ{P Q:Prop}(q:Q)(h:Q->P:=by show _->aJ _ 54 ..;exactλq_=>aR (f:=54) Tryz.call54 (dR st n).p9 (λρ w' hw=>by obtain⟨b,e,hd⟩:=Cg hw (by repeat(first|exact List.mem_cons_self|apply List.mem_cons_of_mem)) (by repeat(first|exact List.mem_cons_self|apply List.mem_cons_of_mem)) (by repeat(first|exact List.mem_cons_self|apply List.mem_cons_of_mem));exact C_ e (RD hd n alb (by omega))) q_):P:=h q
theorem OH{P Q:Prop}(q:Q)(h:Q->P:=by show _->aJ _ 55 ..;exactλq_=>adE (gD (check g).2 i) (lm (gD (check g).2 i) (kept.map ak.pl) (dR st n).pl) Tryz.call55 (λρ w' hw=>by obtain⟨b,e,hd⟩:=Cg hw (by repeat(first|exact List.mem_cons_self|apply List.mem_cons_of_mem)) (by repeat(first|exact List.mem_cons_self|apply List.mem_cons_of_mem)) (by repeat(first|exact List.mem_cons_self|apply List.mem_cons_of_mem));exact C_ e (hfd w' b _ _ _ _ hd (ae hw λR h=>Im hko h.2) (ae hw λR h=>hno.later h.1))) q_):P:=h q
theorem Oe{P Q:Prop}(q:Q)(h:Q->P:=by show _->aJ _ 55 ..;exactλq_=>aR (f:=55) Tryz.call55 (dR st n).p9 (λρ w' hw=>by obtain⟨b,e,hd⟩:=Cg hw (by repeat(first|exact List.mem_cons_self|apply List.mem_cons_of_mem)) (by repeat(first|exact List.mem_cons_self|apply List.mem_cons_of_mem)) (by repeat(first|exact List.mem_cons_self|apply List.mem_cons_of_mem));exact C_ e (adm hd (dR st n) ajZ (by simpa using hk))) q_):P:=h q
theorem Fb{P Q:Prop}(q:Q)(h:Q->P:=by show _->Ce ..;exactλq_=>Oo (by repeat(first|exact List.mem_cons_self|apply List.mem_cons_of_mem)) hsb q_):P:=h q
theorem Ex{P Q:Prop}(q:Q)(h:Q->P:=by show _->eP ..;first|exactλq_=>bY j rfl hlt (Nat.le_of_eq (jJ kept).symm) q_|exactλq_=>bY j rfl hlt (Nat.le_of_eq hgl.symm) q_):P:=h q
theorem Ew{P Q:Prop}(q:Q)(h:Q->P:=by show _->cO _ 24 ..;exactλq_=>mV [14] _ alJ q_ (h6:=List.Sublist.cons_cons _ (List.Sublist.cons _ (List.Sublist.refl _)))):P:=h q
theorem FD{P Q:Prop}(q:Q)(h:Q->P:=by show _->aJ _ 54 ..;exactλq_=>aR (f:=54) Tryz.call54 (dR (jd kept.length (p++[acc.length])) x).p9 (λρ w' hw=>by obtain⟨b,e,hd⟩:=adg (st:=jd kept.length (p++[acc.length])) hw hq (by repeat(first|exact List.mem_cons_self|apply List.mem_cons_of_mem)) (by repeat(first|exact List.mem_cons_self|apply List.mem_cons_of_mem)) (by repeat(first|exact List.mem_cons_self|apply List.mem_cons_of_mem));exact C_ e (RD hd x hxq (by omega))) q_):P:=h q
theorem Fx{P Q:Prop}(q:Q)(h:Q->P:=by show _->qN _ ((_,.rows (List.take acc.length _++_) _ _)::_) _ _ _;exactλq_=>uM (ys:=bO (acc++[dR (jd kept.length (p++[acc.length])) x])) (m:=(acc++[dR (jd kept.length (p++[acc.length])) x]).length) q_ (O5 acc (dR (jd kept.length (p++[acc.length])) x)) (by show acc.length+1=_;rw[List.length_append];rfl)):P:=h q
theorem E9{P Q:Prop}(q:Q)(h:Q->P:=by show _->jv ..;exactλq_=>fU (by show(acc.length+1)*120<=140737488355328;omega) q_):P:=h q
theorem Gh{P Q:Prop}(q:Q)(h:Q->P:=by show _->mW ..;first|exactλq_=>ed (List.Sublist.cons _ (List.Sublist.cons _ (List.Sublist.refl _))) (λ_ _ h=>h) q_|exactλq_=>ed (List.Sublist.cons_cons _ (List.Sublist.cons _ (List.Sublist.refl _))) (λ_ _ h=>h) q_|exactλq_=>ed (List.Sublist.cons _ (List.Sublist.cons_cons _ (List.Sublist.cons _ (List.Sublist.refl _)))) (λ_ _ h=>h) q_):P:=h q
theorem zo{P Q:Prop}(q:Q)(h:Q->P:=by show _->gZ ..;first|exactλq_=>rD h.at_ (j:=8) (λR w' h=>h) rfl q_|exactλq_=>bN (λR w' hR=>by rw[<-Gm];exact aH hR h.Ck) _ _ (j:=x.a.toNat) (oQ hu) rfl q_):P:=h q
theorem zZ{P Q:Prop}(q:Q)(h:Q->P:=by show _->dn ..;exactλq_=>aM pa x.a.toNat Gm (by omega) hkl q_):P:=h q
theorem OD{P Q:Prop}(q:Q)(h:Q->P:=by show _->aJ _ 99 ..;exactλq_=>aR (f:=99) Tryz.call99 q.val (λρ w' hw=>Vv (ae hw λR hR=>h8 w' R hR) x (k:=x.b.toNat) (by omega) hq) q_):P:=h q
theorem Ng{P Q:Prop}(q:Q)(h:Q->P:=by show _->aJ _ 103 ..;exactλq_=>aR (f:=103) Tryz.call103 (.bool true) (λρ w' _=>Mw w' x.k v.aF.l.length ⟨k0,k1⟩) q_):P:=h q
theorem O8{P Q:Prop}(q:Q)(h:Q->P:=by show _->aJ _ 102 ..;exactλq_=>aR (f:=102) Tryz.call102 (.bool true) (λρ w' hw=>EQ hw (i:=i) (T:=3) (by repeat(first|exact List.mem_cons_self|apply List.mem_cons_of_mem)) ha) q_):P:=h q
theorem vT{P Q:Prop}(q:Q)(h:Q->P:=by show _->dn ..;exactλq_=>aM da 1 hda rfl (by omega) q_):P:=h q
theorem wG{P Q:Prop}(q:Q)(h:Q->P:=by show _->gZ ..;exactλq_=>qQ (λR w' h=>by rw[<-hda];exact iO h.1.2.2.1) (j:=1) (by omega) hb q_):P:=h q
theorem sO{P Q:Prop}(q:Q)(h:Q->P:=by show _->aJ _ 73 ..;exactλq_=>gm bW Tryz.func73 rfl rfl rfl Tryz.call73 rfl (by show 2<=_;decide) q_):P:=h q
theorem Gg{P Q:Prop}(q:Q)(h:Q->P:=by show _->gZ ..;exactλq_=>qQ (λR w' h=>by rw[<-hda];exact iO h.1.2.2.1) (j:=2) (by omega) ha q_):P:=h q
theorem aa{P:Prop}(h:P:=by omega):P:=h
theorem aj{P:Prop}(h:P:=by repeat(first|exact List.mem_cons_self|apply List.mem_cons_of_mem)):P:=h
theorem aO{P:Prop}(h:P:=by first|exact List.mem_cons_self|exact List.mem_cons_of_mem _ List.mem_cons_self|(repeat(first|exact List.mem_cons_self|apply List.mem_cons_of_mem))):P:=h
theorem aX{P:Prop}(h:P:=by first|exact h.2|exact h.1.2):P:=h
theorem aW{P:Prop}(h:P:=by first|exact h.1.2|exact h.2):P:=h
theorem ay{P:Prop}(h:P:=by decide):P:=h
theorem dQ{P:Prop}(h:P:=by first|exact h|exact h.1|exact h.1.1|exact h.1.1.1):P:=h
theorem nM{P:Prop}(h:P:=by simp only[gW,Bool.true_or,Bool.false_or,Bool.true_and,Bool.and_true,Bool.and_eq_true,Bool.and_eq_false_iff,decide_eq_true_eq,decide_eq_false_iff_not];omega):P:=h
theorem aI{P:Prop}(h:P:=by simp):P:=h
theorem bg{P:Prop}(h:P:=by kernel_rfl):P:=h
theorem dS{P:Prop}(h:P:=by rw[aP];omega):P:=h
theorem sF{P:Prop}(h:P:=by unfold bP;simp only[hA];(repeat(first|rw[if_pos (by omega)]|rw[if_neg (by omega)]))):P:=h
theorem bT{P:Prop}(h:P:=by cases h):P:=h
theorem nP{P:Prop}(h:P:=by rw[uy (by omega),uy (by omega)];omega):P:=h
theorem wF{P:Prop}(h:P:=by unfold bP;simp only[hA];repeat(first|rw[if_pos (by omega)]|rw[if_neg (by omega)])):P:=h
theorem fO{P:Prop}(h:P:=by show 2<=_;decide):P:=h
theorem z_{P:Prop}(h:P:=by first|(rw[List.length_append];rfl)|(rw[List.length_append,xD];rfl)|(rw[List.length_append,xB];rfl)):P:=h
theorem iq{P:Prop}(h:P:=by simpa[LH]using hk):P:=h
theorem nV{P:Prop}(h:P:=by show _=((c.aA-base:Nat):Int);omega):P:=h
theorem wP{P:Prop}(h:P:=by first|exact h|exact h.1|exact h.1.1|exact h.1.1.1|exact h.1.1.1.1):P:=h
theorem kW{P:Prop}(h:P:=by first|exact h.1.1|exact h.1):P:=h
theorem ko{P:Prop}(h:P:=by rw[jJ];omega):P:=h
theorem wM{P:Prop}(h:P:=by rw[bz,zN (by omega)];exact Nat.le_refl _):P:=h
theorem ja{P:Prop}(h:P:=by rw[hlm];exact hform):P:=h
theorem oG{P:Prop}(h:P:=by rw[aP];exact Nat.le_refl _):P:=h
theorem oo{P:Prop}(h:P:=by simp[SV.dW,SV.rf,mQ,fG]):P:=h
theorem fK{P:Prop}(h:P:=by simp;omega):P:=h
theorem fw{P:Prop}(h:P:=by assumption):P:=h
theorem kP{P:Prop}(h:P:=by unfold tight at ht;omega):P:=h
theorem jF{P:Prop}(h:P:=by unfold eF;omega):P:=h
theorem kQ{P:Prop}(h:P:=by show 0+1<=1;omega):P:=h
theorem vW{P:Prop}(h:P:=by show _<=500000+6*base+4*(k+1);omega):P:=h
theorem sQ{P:Prop}(h:P:=by have:=hb (by omega) (by omega);omega):P:=h
theorem Pq{P:Prop}(h:P:=by repeat(first|exact List.Sublist.refl _|exact List.nil_sublist _|apply List.Sublist.cons_cons|apply List.Sublist.cons)):P:=h
theorem Ov{P:Prop}(h:P:=by first|exact Tryz.call27|exact Tryz.call28|exact Tryz.call29|exact Tryz.call30|exact Tryz.call31|exact Tryz.call26):P:=h
theorem mE{P:Prop}(h:P:=by show 8*_<=_;omega):P:=h
theorem nO{P:Prop}(h:P:=by rw[bz];omega):P:=h
theorem pM{P:Prop}(h:P:=by rw[bz];exact hlt):P:=h
theorem Gi{P:Prop}(h:P:=by first|exact hn.later h.1|exact hn.later h.1.1|exact hn.later h.1.1.1):P:=h
theorem zk{P:Prop}(h:P:=by rw[List.length_append,List.length_singleton];omega):P:=h
theorem vY{P:Prop}(h:P:=by show _<=500000+6*(base+g);omega):P:=h
theorem FH{P:Prop}(h:P:=by rw[zV,zV,mF,mF];apply Array.ext';simp):P:=h
theorem FC{P:Prop}(h:P:=by rw[jg,rF (by omega)];exact Nat.le_refl _):P:=h
theorem wB{P:Prop}(h:P:=by simpa using congrArg Prod.fst g.symm):P:=h
theorem OZ{P:Prop}(h:P:=by first|(simp only[aZ,List.map_append];rfl)|(simp only[aZ,List.map_append,xD];rfl)):P:=h
theorem Ol{P:Prop}(h:P:=by first|(simp only[aZ,List.map_append];rfl)|(simp only[aZ,List.map_append,xB];rfl)):P:=h
theorem mJ{P:Prop}(h:P:=by simp only;omega):P:=h
theorem pW{P:Prop}(h:P:=by have:=z0.y9;omega):P:=h
theorem oI{P:Prop}(h:P:=by unfold fJ;omega):P:=h
theorem OM{P:Prop}(h:P:=by rw[if_pos (by show 2048<q.1.code.length;omega)]at hT;rw[<-hrT,<-hT];rfl):P:=h
theorem O0{P:Prop}(h:P:=by simp only[List.length_append,List.length_cons,List.length_nil]at hk|-;omega):P:=h
theorem kU{P:Prop}(h:P:=by rw[h2];rfl):P:=h
theorem ES{P:Prop}(h:P:=by rw[zV,zV];apply Array.ext';simp):P:=h
theorem AB{P:Prop}(h:P:=by show 8*n<=281474976710656;omega):P:=h
theorem vZ{P:Prop}(h:P:=by rw[List.length_map];omega):P:=h
theorem AA{P:Prop}(h:P:=by rw[List.length_replicate];omega):P:=h
theorem Ff{P:Prop}(h:P:=by have:=hx i (by simp[SV.has]);exact this):P:=h
theorem rZ{P:Prop}(h:P:=by rw[<-hgc];omega):P:=h
theorem Pp{P:Prop}(h:P:=by intro x hx;simp only[List.mem_singleton]at hx;subst hx;omega):P:=h
theorem P7{P:Prop}(h:P:=by simp[kT,uI,Value.formed,Tryz.underlying43,aa8]):P:=h
theorem FK{P:Prop}(h:P:=by rw[jJ];exact Nat.le_refl _):P:=h
theorem AX{P:Prop}(h:P:=by rw[bz];exact hkl):P:=h
theorem P9{P:Prop}(h:P:=by rw[List.length_append,List.length_singleton,hR.oK];omega):P:=h
theorem Be{P:Prop}(h:P:=by rw[ha (by omega)];exact ho):P:=h
theorem EP{P:Prop}(h:P:=by rw[jg];exact Nat.le_refl _):P:=h
theorem zW{P:Prop}(h:P:=by rw[List.length_drop];omega):P:=h
theorem PP{P:Prop}(h:P:=by rw[nR,he,decide_eq_false (by omega),Bool.false_and]):P:=h
theorem Bb{P:Prop}(h:P:=by subst hx';subst hy';simp):P:=h
theorem Fj{P:Prop}(h:P:=by rw[PV];exact Nat.le_refl _):P:=h
theorem Ns{P:Prop}(h:P:=by rw[(List.mem_replicate.1 hp).2];exact⟨rfl,rfl⟩):P:=h
theorem FT{P:Prop}(h:P:=by have:=(z0.plain iL).y9;omega):P:=h
theorem OO{P:Prop}(h:P:=by simp[o7,Value.formed,Tryz.underlying58,agH]):P:=h
theorem Mv{P:Prop}(h:P:=by rw[eG,List.length_map,List.length_range]):P:=h
theorem AC{P:Prop}(h:P:=by rw[eG];omega):P:=h
theorem NU{P:Prop}(h:P:=by show st.length+1=_;rw[List.length_append];rfl):P:=h
theorem Qk{P:Prop}(h:P:=by show(l.length+1)*120<=140737488355328;omega):P:=h
theorem Nf{P:Prop}(h:P:=by show(xs.length+1)*8<=140737488355328;omega):P:=h
theorem Ql{P:Prop}(h:P:=by rw[hg,List.map_map];exact(List.map_id row).symm):P:=h
theorem Nq{P:Prop}(h:P:=by show(st.length+1)*8<=140737488355328;omega):P:=h
theorem Ps{P:Prop}(h:P:=by show(vl.length+1)*8<=140737488355328;omega):P:=h
theorem M3{P:Prop}(h:P:=by rw[List.length_append,List.length_singleton,hvl]):P:=h
theorem Pd{P:Prop}(h:P:=by rw[List.length_append,List.length_singleton,hkl]):P:=h
theorem Fu{P:Prop}(h:P:=by rw[hlm];exact dJ hform):P:=h
theorem Am{P:Prop}(h:P:=by rw[<-htx];exact hg):P:=h
theorem zn{P:Prop}(h:P:=by have:=z0.yF;omega):P:=h
theorem EG{P:Prop}(h:P:=by rw[oF];exact hlt):P:=h
theorem AR{P:Prop}(h:P:=by show 1<=j;exact h):P:=h
theorem FR{P:Prop}(h:P:=by rw[bz];exact hil):P:=h
theorem EA{P:Prop}(h:P:=by rw[List.length_cons];omega):P:=h
theorem PO{P:Prop}(h:P:=by rw[jg,hil];exact Nat.le_refl _):P:=h
theorem Nk{P:Prop}(h:P:=by show(m+1)*16<=140737488355328;omega):P:=h
theorem PU{P:Prop}(h:P:=by rw[eG,hlen];exact Nat.le_refl _):P:=h
theorem Qi{P:Prop}(h:P:=by rw[List.length_map];exact dJ hform):P:=h
theorem zu{P:Prop}(h:P:=by simp only[execOp]):P:=h
theorem Ar{P:Prop}(h:P:=by simp[aP]):P:=h
theorem pV{P:Prop}(h:P:=by simp[h]):P:=h
theorem Pj{P:Prop}(h:P:=by simp[SV.has]):P:=h
theorem wU{P:Prop}(h:P:=by simpa using h):P:=h
theorem AJ{P:Prop}(h:P:=by rw[hN];exact he):P:=h
theorem Fv{P:Prop}(h:P:=by show 24*_<=_;omega):P:=h
theorem FI{P:Prop}(h:P:=by rw[<-h.len];exact h1):P:=h
theorem F_{P:Prop}(h:P:=by have:=(z0).yF;omega):P:=h
theorem EB{P:Prop}(h:P:=by have:=(z0).y9;omega):P:=h
theorem wo{P:Prop}(h:P:=by rw[hs];rfl):P:=h
theorem wW{P:Prop}(h:P:=by rw[e2];rfl):P:=h
theorem Fg{P:Prop}(h:P:=by simpa[SV.has]using hi):P:=h
theorem zH{P:Prop}(h:P:=by simpa using hfit):P:=h
theorem zX{P:Prop}(h:P:=by rw[htl];decide):P:=h
theorem ER{P:Prop}(h:P:=by rw[hL.oK];exact hil):P:=h
theorem Fe{P:Prop}(h:P:=by rw[uf];omega):P:=h
theorem Gb{P:Prop}(h:P:=by have:=z2.y9;omega):P:=h
theorem EO{P:Prop}(h:P:=by have:=z1.y9;omega):P:=h
theorem wS{P:Prop}(h:P:=by rw[gp,gq]):P:=h
theorem zM{P:Prop}(h:P:=by rw[e];exact h):P:=h
theorem Gj{P:Prop}(h:P:=by show 1<=_;decide):P:=h
theorem Aj{P:Prop}(h:P:=by rw[ho];simp):P:=h
theorem AU{P:Prop}(h:P:=by rw[rO];rfl):P:=h

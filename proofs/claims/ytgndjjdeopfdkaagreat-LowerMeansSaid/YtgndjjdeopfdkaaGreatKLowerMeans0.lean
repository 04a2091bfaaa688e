import Derived.WalkKit
import Derived.Below
import Derived.Deep.Quiet
/- texts Mac Mac of the proof of LowerMeansSaid -/
set_option maxHeartbeats 16000000
set_option maxRecDepth 20000
set_option linter.unusedVariables false
set_option linter.unusedSimpArgs false
theorem zzK{P:Prop}(h:P:=by kernel_rfl):P:=h
theorem a_{P Q:Prop}(q:Q)(h:Q->P:=by first|(show _->Wp _ _ _ _ _ _ _;exact Wp.go bW rfl)|(show _-> @iG _ _ _;first|exact gJ (by omega)|exact jc (by omega))|(show _->fF _ _ _;exact wrap_i64 (by omega) (by omega))|(show _->Gn _ _ _;exact mg (by first|exact Nat.le_refl _|omega))|(show _->jv _ _ _;exact fU (by first|omega|(dsimp only;omega)))|(show _->ltK _ _ _;exact XG (by omega))|(show _->mW _ _ _ _ _;exact ed (by first|exact List.Sublist.refl _|exact List.Sublist.cons _ (List.Sublist.refl _)|exact List.Sublist.cons _ (List.Sublist.cons _ (List.Sublist.refl _))|exact List.Sublist.cons _ (List.Sublist.cons _ (List.Sublist.cons _ (List.Sublist.refl _)))) (by first|exact(λ_ _ h=>h)|exact(λ_ _ h=>h.1)|exact(λ_ _ h=>h.1.1)))|exact lS|exact UW):P:=h q
theorem bV{P Q:Prop}(q:Q)(h:Q->P:=by first|(show _->Wp _ _ _ _ _ _ _;exact Wp.go bW rfl)|(show _-> @iG _ _ _;first|exact gJ (by omega)|exact jc (by omega))|(show _->fF _ _ _;exact wrap_i64 (by omega) (by omega))|(show _->Gn _ _ _;exact mg (by first|exact Nat.le_refl _|omega))|(show _->jv _ _ _;exact fU (by first|omega|(dsimp only;omega)))|(show _->ltK _ _ _;exact XG (by omega))|(show _->mW _ _ _ _ _;exact ed (by first|exact List.Sublist.refl _|exact List.Sublist.cons _ (List.Sublist.refl _)|exact List.Sublist.cons _ (List.Sublist.cons _ (List.Sublist.refl _))|exact List.Sublist.cons _ (List.Sublist.cons _ (List.Sublist.cons _ (List.Sublist.refl _)))) (by first|exact(λ_ _ h=>h)|exact(λ_ _ h=>h.1)|exact(λ_ _ h=>h.1.1)))|exact lS|exact UW|(show _->cO _ _ _ _ _ _ _ _;exact EI bW mixed (by kernel_rfl))):P:=h q
theorem Lv{P Q:Prop}(q:Q)(h:Q->P:=by first|(show _->Wp _ _ _ _ _ _ _;exact Wp.go bW rfl)|(show _-> @iG _ _ _;first|exact gJ (by omega)|exact jc (by omega))|(show _->fF _ _ _;exact wrap_i64 (by omega) (by omega))|(show _->Gn _ _ _;exact mg (by first|exact Nat.le_refl _|omega))|(show _->jv _ _ _;exact fU (by first|omega|(dsimp only;omega)))|(show _->ltK _ _ _;exact XG (by omega))|(show _->mW _ _ _ _ _;exact ed (by first|exact List.Sublist.refl _|exact List.Sublist.cons _ (List.Sublist.refl _)|exact List.Sublist.cons _ (List.Sublist.cons _ (List.Sublist.refl _))|exact List.Sublist.cons _ (List.Sublist.cons _ (List.Sublist.cons _ (List.Sublist.refl _)))) (by first|exact(λ_ _ h=>h)|exact(λ_ _ h=>h.1)|exact(λ_ _ h=>h.1.1)))|exact UW):P:=h q
theorem FB{P Q:Prop}(q:Q)(h:Q->P:=by first|(show _-> @iG _ _ _;first|exact gJ (by omega)|exact jc (by omega))|(show _->fF _ _ _;exact wrap_i64 (by omega) (by omega))|(show _->Gn _ _ _;exact mg (by first|exact Nat.le_refl _|omega))|(show _->jv _ _ _;exact fU (by first|omega|(dsimp only;omega)))|(show _->ltK _ _ _;exact XG (by omega))|(show _->mW _ _ _ _ _;exact ed (by first|exact List.Sublist.refl _|exact List.Sublist.cons _ (List.Sublist.refl _)|exact List.Sublist.cons _ (List.Sublist.cons _ (List.Sublist.refl _))|exact List.Sublist.cons _ (List.Sublist.cons _ (List.Sublist.cons _ (List.Sublist.refl _)))) (by first|exact(λ_ _ h=>h)|exact(λ_ _ h=>h.1)|exact(λ_ _ h=>h.1.1)))|exact lS|exact UW):P:=h q
theorem fE{P:Prop}(h:P:=by repeat(first|exact trivial|refine⟨(by first|exact rfl|(repeat(first|exact List.mem_cons_self|apply List.mem_cons_of_mem))),?_⟩)):P:=h
theorem bn{P Q:Prop}(q:Q)(h:Q->P:=by show _-> @iG _ _ _;first|exactλq_=>gJ (by omega) q_|exactλq_=>jc (by omega) q_):P:=h q
theorem NW{P Q:Prop}(q:Q)(h:Q->P:=by show _->ahm ..;exactλq_=>ah7 (.tuple #[.int .u64 ((x+y:Nat):Int),.int .u64 ((0:Nat):Int)]) (λρ w' _=>hadd w') q_):P:=h q
theorem Ab{P Q:Prop}(q:Q)(h:Q->P:=by show _->aJ _ 148 ..;exactλq_=>aR (f:=148) Tryz.call148 _ (λρ w' hw=>SN w' n at_ sv (ae hw λR h=>hs.later h) i s hi ha) q_):P:=h q
theorem O_{P Q:Prop}(q:Q)(h:Q->P:=by show _->jQ _ 148 ..;exactλq_=>jo (f:=148) Tryz.call148 _ (λρ w' hw=>SN w' n at_ sv (ae hw λR h=>hs.later h) i s hi ha) q_):P:=h q
theorem mG{P Q:Prop}(q:Q)(h:Q->P:=by show _->x8 ..;exactλq_=>Ub (by omega) (by omega) q_):P:=h q
theorem pK{P Q:Prop}(q:Q)(h:Q->P:=by show _->yM ..;exactλq_=>div_pos rfl (by omega) (by omega) (by omega) q_):P:=h q
theorem A_{P Q:Prop}(q:Q)(h:Q->P:=by show _->lK ..;exactλq_=>gI (λR w' h=>by rw[<-ha];exact aH h.1 hg.rows) _ hrow rfl q_):P:=h q
theorem zT{P Q:Prop}(q:Q)(h:Q->P:=by show _->Gn ..;exactλq_=>mg (by rw[acN];exact Nat.le_refl _) q_):P:=h q
theorem rX{P Q:Prop}(q:Q)(h:Q->P:=by show _->jv ..;exactλq_=>fU (by show(us.length+1)*24<=140737488355328;omega) q_):P:=h q
theorem lg{P Q:Prop}(q:Q)(h:Q->P:=by show _->mi ..;exactλq_=>Gz (ti 165 rfl) rfl jW q_):P:=h q
theorem kV{P Q:Prop}(q:Q)(h:Q->P:=by show _->aJ _ 134 ..;exactλq_=>jH (f:=134) (aew n) 7 rfl Tryz.call134 (λρ w' hw=>aik w' n) q_):P:=h q
theorem nZ{P Q:Prop}(q:Q)(h:Q->P:=by show _->aJ _ 42 ..;exactλq_=>aR (f:=42) Tryz.call42 _ (λρ w' hw=>kr w' n.az.base n.az.cap n.az.xs (ae hw λR h=>aH h.1.1 hn.az.rows)) q_):P:=h q
theorem nQ{P Q:Prop}(q:Q)(h:Q->P:=by show _->jQ _ 42 ..;exactλq_=>jo (f:=42) Tryz.call42 _ (λρ w' hw=>kr w' n.az.base n.az.cap n.az.xs (ae hw λR h=>aH h.1.1 hn.az.rows)) q_):P:=h q
theorem j4{P Q:Prop}(q:Q)(h:Q->P:=by show _->dn ..;first|exactλq_=>aM ah 0 hah rfl (by omega) q_|exactλq_=>aM am 0 jW rfl (by omega) q_|exactλq_=>aM ah 1 hah rfl (by omega) q_|exactλq_=>aM am 1 jW rfl (by omega) q_|exactλq_=>aM ah 2 hah rfl (by omega) q_|exactλq_=>aM am 2 jW rfl (by omega) q_|exactλq_=>aM ah 3 hah rfl (by omega) q_|exactλq_=>aM am 3 jW rfl (by omega) q_|exactλq_=>aM ah 4 hah rfl (by omega) q_|exactλq_=>aM am 4 jW rfl (by omega) q_|exactλq_=>aM ah 5 hah rfl (by omega) q_|exactλq_=>aM am 5 jW rfl (by omega) q_|exactλq_=>aM ah 6 hah rfl (by omega) q_|exactλq_=>aM am 6 jW rfl (by omega) q_|exactλq_=>aM _ 0 (hbase (by omega)) rfl (by omega) q_):P:=h q
theorem Pw{P Q:Prop}(q:Q)(h:Q->P:=by show _->aJ _ 133 ..;exactλq_=>jH (f:=133) [true,false,false,false,false,true,false] 7 rfl Tryz.call133 (λρ w' hw=>qW w' n.ai [true,false,false,false,false,true,false] hm) q_):P:=h q
theorem MX{P Q:Prop}(q:Q)(h:Q->P:=by show _->aJ _ 133 ..;exactλq_=>jH (f:=133) [true,false,true,false,false,true,true] 7 rfl Tryz.call133 (λρ w' hw=>qW w' n.ai [true,false,true,false,false,true,true] hm) q_):P:=h q
theorem Ag{P Q:Prop}(q:Q)(h:Q->P:=by show _->Gn ..;exactλq_=>mg (by rw[aP];exact Nat.le_refl _) q_):P:=h q
theorem pR{P Q:Prop}(q:Q)(h:Q->P:=by show _->dn ..;exactλq_=>aM a i ha rfl hlt q_):P:=h q
theorem zJ{P Q:Prop}(q:Q)(h:Q->P:=by show _->aJ _ 61 ..;exactλq_=>aR (f:=61) Tryz.call61 _ (λρ w' hw=>vI w' s (ae hw λR h=>hss.later h)) q_):P:=h q
theorem oJ{P Q:Prop}(q:Q)(h:Q->P:=by show _->dn ..;exactλq_=>aM _ 0 rO rfl (by omega) q_):P:=h q
theorem nY{P Q:Prop}(q:Q)(h:Q->P:=by show _->gZ ..;exactλq_=>dP hur (j:=0) (by omega) q_):P:=h q
theorem kZ{P Q:Prop}(q:Q)(h:Q->P:=by show _->dn ..;exactλq_=>aM _ 1 rO rfl (by omega) q_):P:=h q
theorem kX{P Q:Prop}(q:Q)(h:Q->P:=by show _->gZ ..;exactλq_=>dP hur (j:=1) (by omega) q_):P:=h q
theorem jZ{P Q:Prop}(q:Q)(h:Q->P:=by show _->dn ..;exactλq_=>aM _ 2 rO rfl (by omega) q_):P:=h q
theorem j6{P Q:Prop}(q:Q)(h:Q->P:=by show _->gZ ..;exactλq_=>dP hur (j:=2) (by omega) q_):P:=h q
theorem sP{P Q:Prop}(q:Q)(h:Q->P:=by show _->dn ..;exactλq_=>aM _ o rO rfl (by omega) q_):P:=h q
theorem pY{P Q:Prop}(q:Q)(h:Q->P:=by show _->gZ ..;exactλq_=>dP hur (j:=o) (by omega) q_):P:=h q
theorem su{P Q:Prop}(q:Q)(h:Q->P:=by show _->eP ..;exactλq_=>bY o rfl hlt (by rw[aP,vF (by omega)];exact Nat.le_refl _) q_):P:=h q
theorem sZ{P Q:Prop}(q:Q)(h:Q->P:=by show _->dH ..;exactλq_=>K9 hlen hlt q_):P:=h q
theorem Fy{P Q:Prop}(q:Q)(h:Q->P:=by show _->dn ..;first|exactλq_=>aM a i ha rfl hlt q_|exactλq_=>aM a j ha hja alv q_):P:=h q
theorem EL{P Q:Prop}(q:Q)(h:Q->P:=by show _->gZ ..;first|exactλq_=>bN (λR w' h=>by rw[<-ha];exact aH h hs.rows) _ _ hrow rfl q_|exactλq_=>bN (λR w' h=>by rw[<-ha];exact aH h hs.rows) _ _ aba rfl q_):P:=h q
theorem eU{P Q:Prop}(q:Q)(h:Q->P:=by show _->mW ..;exactλq_=>akI q_):P:=h q
theorem Nc{P Q:Prop}(q:Q)(h:Q->P:=by show _->dn ..;first|exactλq_=>aM us 1 iL rfl (by rw[hsl];decide) q_|exactλq_=>aM us 2 iL rfl (by rw[hsl];decide) q_|exactλq_=>aM us 3 iL rfl (by rw[hsl];decide) q_|exactλq_=>aM ut 1 hut rfl (by rw[htl];decide) q_|exactλq_=>aM ut 2 hut rfl (by rw[htl];decide) q_):P:=h q
theorem PT{P Q:Prop}(q:Q)(h:Q->P:=by show _->gZ ..;first|exactλq_=>bN hsr [.int .i64 k1] (.int .i64 k1) (j:=1) rfl rfl q_|exactλq_=>bN hsr [.int .i64 k2] (.int .i64 k2) (j:=2) rfl rfl q_|exactλq_=>bN hsr [.int .i64 k3] (.int .i64 k3) (j:=3) rfl rfl q_|exactλq_=>bN htr [.int .i64 i1] (.int .i64 i1) (j:=1) rfl rfl q_|exactλq_=>bN htr [.int .i64 i2] (.int .i64 i2) (j:=2) rfl rfl q_):P:=h q
theorem PL{P Q:Prop}(q:Q)(h:Q->P:=by show _->mW ..;exactλq_=>ed (by repeat(first|exact List.Sublist.refl _|exact List.nil_sublist _|apply List.Sublist.cons_cons|apply List.Sublist.cons)) (λ_ _ h=>h) q_):P:=h q
theorem N7{P Q:Prop}(q:Q)(h:Q->P:=by show _->gZ ..;first|exactλq_=>bN htr [.int .i64 i1] (.int .i64 i1) (j:=1) rfl rfl q_|exactλq_=>bN htr [.int .i64 i2] (.int .i64 i2) (j:=2) rfl rfl q_):P:=h q
theorem wV{P Q:Prop}(q:Q)(h:Q->P:=by show _->G9 ..;exactλq_=>I_ _ _ hrow rfl rfl q_):P:=h q
theorem Nt{P Q:Prop}(q:Q)(h:Q->P:=by show _->aJ _ 52 ..;exactλq_=>aR (f:=52) Tryz.call52 (.int .i64 (foldI min x.1.xs)) (λρ w' hw=>U5 w' x.1 (ae hw λR h=>alT hn.data hx2 hx3 h.1.1 h.2) hEL) q_):P:=h q
theorem Po{P Q:Prop}(q:Q)(h:Q->P:=by show _->aJ _ 53 ..;exactλq_=>aR (f:=53) Tryz.call53 (.int .i64 (foldI max x.1.xs)) (λρ w' hw=>Ux w' x.1 (ae hw λR h=>alT hn.data hx2 hx3 h.1.1 h.2) hEL) q_):P:=h q
theorem Pt{P Q:Prop}(q:Q)(h:Q->P:=by show _->eP ..;exactλq_=>bY i rfl hlt (by rw[jg,rF (by first|omega|(rw[List.length_append,List.length_singleton];omega))];exact Nat.le_refl _) q_):P:=h q
theorem Nz{P Q:Prop}(q:Q)(h:Q->P:=by show _->ltK ..;exactλq_=>XG (by rw[jg,rF (by rw[List.length_append,List.length_singleton];omega)];exact hlt) q_):P:=h q
theorem Ae{P Q:Prop}(q:Q)(h:Q->P:=by show _->lK ..;exactλq_=>gI (λR w' h=>by rw[<-ha];exact aH h.1.1 hg.rows) _ hrow rfl q_):P:=h q
theorem zF{P Q:Prop}(q:Q)(h:Q->P:=by show _->aJ _ 50 ..;exactλq_=>aR (f:=50) Tryz.call50 _ (λρ w' hw=>hat w' (ae hw λR h=>zy hsv (by omega) h.1.2)) q_):P:=h q
theorem Oq{P Q:Prop}(q:Q)(h:Q->P:=by show _->jQ _ 52 ..;exactλq_=>jo (f:=52) Tryz.call52 (.int .i64 (foldI min x.xs)) (λρ w' hw=>U5 w' x (ae hw λR h=>ae3.later h.1.1) (by omega)) q_):P:=h q
theorem M6{P Q:Prop}(q:Q)(h:Q->P:=by show _->jQ _ 53 ..;exactλq_=>jo (f:=53) Tryz.call53 (.int .i64 (foldI max x.xs)) (λρ w' hw=>Ux w' x (ae hw λR h=>ae3.later h.1.1) (by omega)) q_):P:=h q
theorem tJ{P Q:Prop}(q:Q)(h:Q->P:=by show _->gZ ..;first|exactλq_=>A9 (λR w' h=>by simp only[fG];exact(hd.later h).c0) q_|exactλq_=>A9 (λR w' h=>by simp only[fG];exact(hd.later h).c2) q_):P:=h q
theorem Au{P Q:Prop}(q:Q)(h:Q->P:=by show _->Ce ..;exactλq_=>Oo (by repeat(first|exact List.mem_cons_self|apply List.mem_cons_of_mem)) hs q_):P:=h q
theorem zY{P Q:Prop}(q:Q)(h:Q->P:=by show _->qV ..;exactλq_=>ah_ (by repeat(first|exact List.mem_cons_self|apply List.mem_cons_of_mem)) q_):P:=h q
theorem F8{P Q:Prop}(q:Q)(h:Q->P:=by show _->gZ ..;exactλq_=>A9 (λR w' h=>by simp only[fG];exact(hd.rest hm h).c0) q_):P:=h q
theorem wI{P Q:Prop}(q:Q)(h:Q->P:=by show _->dn ..;exactλq_=>aM na k hna rfl hk q_):P:=h q
theorem EW{P Q:Prop}(q:Q)(h:Q->P:=by show _->lK ..;exactλq_=>gI (λR w' h=>by rw[<-hna];exact Ms hm hd.nodes h) _ hrow rfl q_):P:=h q
theorem P5{P Q:Prop}(q:Q)(h:Q->P:=by show _->aJ _ 109 [_,aC n.a] ..;exactλq_=>aR (f:=109) Tryz.call109 (.bool true) (λρ w' hw=>rH (ae hw λR h=>hd.later h) ha0 NZ hkA) q_):P:=h q
theorem M9{P Q:Prop}(q:Q)(h:Q->P:=by show _->gZ ..;exactλq_=>bN (λR w' h=>by rw[<-hsa];exact bf (by first|exact h.2.1|exact h.1.2.1)) _ _ (fQ hs1) rfl q_):P:=h q
theorem F7{P Q:Prop}(q:Q)(h:Q->P:=by show _->gZ ..;exactλq_=>A9 (λR w' h=>by rw[jE (h _ (iA hc)).2];exact hc) q_):P:=h q
theorem FX{P Q:Prop}(q:Q)(h:Q->P:=by show _->eP ..;exactλq_=>bY n.a.toNat (by omega) ha (by rw[aP];exact Nat.le_refl _) q_):P:=h q
theorem vV{P Q:Prop}(q:Q)(h:Q->P:=by show _->aJ _ 72 ..;exactλq_=>gm bW Tryz.func72 rfl rfl rfl Tryz.call72 rfl (by show 1<=_;decide) q_):P:=h q
theorem AO{P Q:Prop}(q:Q)(h:Q->P:=by show _->dn ..;first|exactλq_=>aM a 0 rfl rfl (by decide) q_|exactλq_=>aM a 1 rfl rfl (by decide) q_):P:=h q
theorem zP{P Q:Prop}(q:Q)(h:Q->P:=by show _->gZ ..;first|exactλq_=>bN (λR w' h=>aH h hr) _ _ (j:=0) rfl rfl q_|exactλq_=>bN (λR w' h=>aH h hr) _ _ (j:=1) rfl rfl q_):P:=h q
theorem FW{P Q:Prop}(q:Q)(h:Q->P:=by show _->jv ..;exactλq_=>fU (by simp only[List.length_take,List.length_append,aP,List.length_nil];omega) q_):P:=h q
theorem Fq{P Q:Prop}(q:Q)(h:Q->P:=by show _->Gn ..;exactλq_=>mg (by simp only[List.length_take,List.length_append,aP,List.length_nil];omega) q_):P:=h q
theorem ED{P Q:Prop}(q:Q)(h:Q->P:=by show _->gZ ..;first|exactλq_=>aix ano (j:=i) Vt hfi q_|exactλq_=>bN (λR w' h=>by rw[<-hra];exact aH h hr.rows) _ _ (fQ VH) rfl q_|exactλq_=>aix hwr (j:=i) (by omega) hwi q_):P:=h q
theorem aoD{P Q:Prop}(q:Q)(h:Q->P:=by show _->aJ _ 42 ..;exactλq_=>aR (f:=42) Tryz.call42 (.int .i64 (au t.xs)) (λρ w' hw=>kr w' t.base t.cap t.xs (ae hw λR h=>aH h ht.rows)) q_):P:=h q
theorem amY{P Q:Prop}(q:Q)(h:Q->P:=by show _->dn ..;first|exactλq_=>aM _ 1 hut rfl (by omega) q_|exactλq_=>aM _ 2 hut rfl (by omega) q_|exactλq_=>aM _ 0 iL rfl (by omega) q_|exactλq_=>aM _ 1 iL rfl (by omega) q_|exactλq_=>aM _ 2 iL rfl (by omega) q_|exactλq_=>aM _ 3 iL rfl (by omega) q_):P:=h q
theorem amV{P Q:Prop}(q:Q)(h:Q->P:=by show _->gZ ..;first|exactλq_=>Mg (λR w' h=>hur R w' h.1) (j:=1) (by omega) g1 q_|exactλq_=>Mg (λR w' h=>hur R w' h.1) (j:=2) (by omega) g2 q_|exactλq_=>Mg (λR w' h=>hsr R w' h.1) (j:=0) (by omega) s0 q_|exactλq_=>Mg (λR w' h=>hsr R w' h.1) (j:=1) (by omega) s1 q_|exactλq_=>Mg (λR w' h=>hsr R w' h.1) (j:=2) (by omega) s2 q_|exactλq_=>Mg (λR w' h=>hsr R w' h.1) (j:=3) (by omega) s3 q_):P:=h q
theorem Ey{P Q:Prop}(q:Q)(h:Q->P:=by show _->Gn ..;exactλq_=>mg (Nat.le_of_eq (by rw[aP,fV])) q_):P:=h q
theorem EF{P Q:Prop}(q:Q)(h:Q->P:=by show _->jv ..;exactλq_=>fU (by show(k+1)*8<=140737488355328;omega) q_):P:=h q
theorem F9{P Q:Prop}(q:Q)(h:Q->P:=by show _->eP ..;exactλq_=>bY (n-1) (by omega) (by omega) (Nat.le_of_eq (by rw[aP,fV])) q_):P:=h q
theorem MZ{P Q:Prop}(q:Q)(h:Q->P:=by show _->fF ..;first|exactλq_=>yN ((cc*n:Nat):Int) (Int.natCast_mul cc n).symm (by omega) (by omega) q_|exactλq_=>yN (kD n n k) hpl (by omega) (by omega) q_|exactλq_=>wrap_i64 (by omega) (by omega) q_):P:=h q
theorem nU{P Q:Prop}(q:Q)(h:Q->P:=by show _->fF ..;exactλq_=>pF ((i+1:Nat):Int) (by omega) (by omega) (by omega) q_):P:=h q
theorem sw{P Q:Prop}(q:Q)(h:Q->P:=by show _->cO _ 13 ..;exactλq_=>mV [] [] akQ q_ (h6:=List.nil_sublist _)):P:=h q
theorem tC{P Q:Prop}(q:Q)(h:Q->P:=by show _->cO _ 14 ..;exactλq_=>mV [25] _ alj q_ (h6:=List.Sublist.cons_cons _ (List.Sublist.cons_cons _ (List.Sublist.cons _ (List.Sublist.refl _))))):P:=h q
theorem tH{P Q:Prop}(q:Q)(h:Q->P:=by show _->eP ..;first|exactλq_=>bY 0 rfl (show 0<4 by decide) (show 4<=4 by decide) q_|exactλq_=>bY 1 rfl (show 1<4 by decide) (show 4<=4 by decide) q_|exactλq_=>bY 2 rfl (show 2<4 by decide) (show 4<=4 by decide) q_|exactλq_=>bY 3 rfl (show 3<4 by decide) (show 4<=4 by decide) q_):P:=h q
theorem sK{P Q:Prop}(q:Q)(h:Q->P:=by show _->rQ ..;exactλq_=>row_of _ _ rfl rfl q_):P:=h q
theorem wX{P Q:Prop}(q:Q)(h:Q->P:=by show _->Gn ..;exactλq_=>mg (by rw[jJ];exact Nat.le_refl _) q_):P:=h q
theorem z8{P Q:Prop}(q:Q)(h:Q->P:=by show _->gZ ..;exactλq_=>bN (λR w' h=>by rw[<-hsa];exact bf h.1.2.1) _ _ hrow rfl q_):P:=h q
theorem AY{P Q:Prop}(q:Q)(h:Q->P:=by show _->aJ _ 25 ..;exactλq_=>ZV (gM u.xs o.aV m) Tryz.call25 (λρ w' hw=>adz w' u (ae hw λR h=>bf (h.1.2.2 u IZ)) o.aV m) q_):P:=h q
theorem OP{P Q:Prop}(q:Q)(h:Q->P:=by show _->qN _ ((_,.rows (List.take us.length _++_) _ _)::_) _ _ _;exactλq_=>uM (ys:=bA (us++[x])) (m:=(us++[x]).length) q_ (Vk us x) (by show us.length+1=_;rw[List.length_append];rfl)):P:=h q
theorem Ob{P Q:Prop}(q:Q)(h:Q->P:=by show _->qN _ ((_,.rows (List.take vl.length _++_) _ _)::_) _ _ _;exactλq_=>uM (ys:=aZ (vl++[q.2])) (m:=(vl++[q.2]).length) q_ (Z5 vl q.2) (by show vl.length+1=_;rw[List.length_append];rfl)):P:=h q
theorem zQ{P Q:Prop}(q:Q)(h:Q->P:=by show _->aJ _ 54 ..;exactλq_=>aR (f:=54) Tryz.call54 (dR st n).p9 (λρ w' hw=>by obtain⟨b,e,hd⟩:=Cg hw (by repeat(first|exact List.mem_cons_self|apply List.mem_cons_of_mem)) (by repeat(first|exact List.mem_cons_self|apply List.mem_cons_of_mem)) (by repeat(first|exact List.mem_cons_self|apply List.mem_cons_of_mem));exact C_ e (RD hd n alb (by omega))) q_):P:=h q
theorem OH{P Q:Prop}(q:Q)(h:Q->P:=by show _->aJ _ 55 ..;exactλq_=>adE (gD (check g).2 i) (lm (gD (check g).2 i) (kept.map ak.pl) (dR st n).pl) Tryz.call55 (λρ w' hw=>by obtain⟨b,e,hd⟩:=Cg hw (by repeat(first|exact List.mem_cons_self|apply List.mem_cons_of_mem)) (by repeat(first|exact List.mem_cons_self|apply List.mem_cons_of_mem)) (by repeat(first|exact List.mem_cons_self|apply List.mem_cons_of_mem));exact C_ e (hfd w' b _ _ _ _ hd (ae hw λR h=>Im hko h.2) (ae hw λR h=>hno.later h.1))) q_):P:=h q
theorem Oe{P Q:Prop}(q:Q)(h:Q->P:=by show _->aJ _ 55 ..;exactλq_=>aR (f:=55) Tryz.call55 (dR st n).p9 (λρ w' hw=>by obtain⟨b,e,hd⟩:=Cg hw (by repeat(first|exact List.mem_cons_self|apply List.mem_cons_of_mem)) (by repeat(first|exact List.mem_cons_self|apply List.mem_cons_of_mem)) (by repeat(first|exact List.mem_cons_self|apply List.mem_cons_of_mem));exact C_ e (adm hd (dR st n) ajZ (by simpa using hk))) q_):P:=h q
theorem Fb{P Q:Prop}(q:Q)(h:Q->P:=by show _->Ce ..;exactλq_=>Oo (by repeat(first|exact List.mem_cons_self|apply List.mem_cons_of_mem)) hsb q_):P:=h q
theorem Ex{P Q:Prop}(q:Q)(h:Q->P:=by show _->eP ..;first|exactλq_=>bY j rfl hlt (Nat.le_of_eq (jJ kept).symm) q_|exactλq_=>bY j rfl hlt (Nat.le_of_eq hgl.symm) q_):P:=h q
theorem Ew{P Q:Prop}(q:Q)(h:Q->P:=by show _->cO _ 24 ..;exactλq_=>mV [14] _ alJ q_ (h6:=List.Sublist.cons_cons _ (List.Sublist.cons _ (List.Sublist.refl _)))):P:=h q
theorem FD{P Q:Prop}(q:Q)(h:Q->P:=by show _->aJ _ 54 ..;exactλq_=>aR (f:=54) Tryz.call54 (dR (jd kept.length (p++[acc.length])) x).p9 (λρ w' hw=>by obtain⟨b,e,hd⟩:=adg (st:=jd kept.length (p++[acc.length])) hw hq (by repeat(first|exact List.mem_cons_self|apply List.mem_cons_of_mem)) (by repeat(first|exact List.mem_cons_self|apply List.mem_cons_of_mem)) (by repeat(first|exact List.mem_cons_self|apply List.mem_cons_of_mem));exact C_ e (RD hd x hxq (by omega))) q_):P:=h q
theorem Fx{P Q:Prop}(q:Q)(h:Q->P:=by show _->qN _ ((_,.rows (List.take acc.length _++_) _ _)::_) _ _ _;exactλq_=>uM (ys:=bO (acc++[dR (jd kept.length (p++[acc.length])) x])) (m:=(acc++[dR (jd kept.length (p++[acc.length])) x]).length) q_ (O5 acc (dR (jd kept.length (p++[acc.length])) x)) (by show acc.length+1=_;rw[List.length_append];rfl)):P:=h q
theorem E9{P Q:Prop}(q:Q)(h:Q->P:=by show _->jv ..;exactλq_=>fU (by show(acc.length+1)*120<=140737488355328;omega) q_):P:=h q
theorem Gh{P Q:Prop}(q:Q)(h:Q->P:=by show _->mW ..;first|exactλq_=>ed (List.Sublist.cons _ (List.Sublist.cons _ (List.Sublist.refl _))) (λ_ _ h=>h) q_|exactλq_=>ed (List.Sublist.cons_cons _ (List.Sublist.cons _ (List.Sublist.refl _))) (λ_ _ h=>h) q_|exactλq_=>ed (List.Sublist.cons _ (List.Sublist.cons_cons _ (List.Sublist.cons _ (List.Sublist.refl _)))) (λ_ _ h=>h) q_):P:=h q
theorem aoq{P Q:Prop}(q:Q)(h:Q->P:=by show _->lK ..;exactλq_=>gI (λR w' h=>by rw[<-ha2];exact aH h hacc) _ ap0 rfl q_):P:=h q
theorem apI{P Q:Prop}(q:Q)(h:Q->P:=by show _->aJ _ 91 ..;exactλq_=>ase (f:=91) n t.xs cnt Tryz.call91 (λρ w' hw=>atT w' (ae hw λR h=>hno.later h) (ae hw λR h=>hto.later h)) q_):P:=h q
theorem aod{P Q:Prop}(q:Q)(h:Q->P:=by show _->aJ _ 90 ..;exactλq_=>aR (f:=90) Tryz.call90 (.bool false) (λρ w' hw=>apD w') q_):P:=h q
theorem aoi{P Q:Prop}(q:Q)(h:Q->P:=by show _->Gn ..;exactλq_=>mg (by rw[aP,hlen];exact Nat.le_refl _) q_):P:=h q
theorem apO{P Q:Prop}(q:Q)(h:Q->P:=by show _->dn ..;first|exactλq_=>aM a2 n.a.toNat ha2 hna hlt q_|exactλq_=>aM ua 0 rO rfl (by omega) q_|exactλq_=>aM ua 1 rO rfl (by omega) q_|exactλq_=>aM ua 2 rO rfl (by omega) q_):P:=h q
theorem apP{P Q:Prop}(q:Q)(h:Q->P:=by show _->gZ ..;first|exactλq_=>Mg hur (j:=0) (by omega) hd0 q_|exactλq_=>Mg hur (j:=1) (by omega) hd1 q_|exactλq_=>Mg hur (j:=2) (by omega) hd2 q_):P:=h q
theorem apo{P Q:Prop}(q:Q)(h:Q->P:=by show _->aJ _ 92 [aC d0,aC d1,aC d2,aC a.1] ..;exactλq_=>aR (f:=92) Tryz.call92 (.int .i64 (iF n.data.xs a.1)) (λρ w' hw=>hpc a.1 w' p1) q_):P:=h q
theorem apy{P Q:Prop}(q:Q)(h:Q->P:=by show _->aJ _ 92 [aC d0,aC d1,aC d2,aC a.2] ..;exactλq_=>aR (f:=92) Tryz.call92 (.int .i64 (iF n.data.xs a.2)) (λρ w' hw=>hpc a.2 w' p2) q_):P:=h q
theorem aot{P Q:Prop}(q:Q)(h:Q->P:=by show _->jv ..;exactλq_=>fU (by show(i+1)*8<=140737488355328;omega) q_):P:=h q
theorem apm{P Q:Prop}(q:Q)(h:Q->P:=by show _->aJ _ 44 ..;exactλq_=>aR (f:=44) Tryz.call44 (o7 (rq E)) (λρ w' hw=>arS w' (ae hw λR h=>zy hsv (by omega) h.2) (ae hw λR h=>hn.later h.1) (ρ 1).base (ρ 1).cap (eZ hw (by repeat(first|exact List.mem_cons_self|apply List.mem_cons_of_mem)))) q_):P:=h q
theorem zo{P Q:Prop}(q:Q)(h:Q->P:=by show _->gZ ..;first|exactλq_=>rD h.at_ (j:=8) (λR w' h=>h) rfl q_|exactλq_=>bN (λR w' hR=>by rw[<-Gm];exact aH hR h.Ck) _ _ (j:=x.a.toNat) (oQ hu) rfl q_):P:=h q
theorem zZ{P Q:Prop}(q:Q)(h:Q->P:=by show _->dn ..;exactλq_=>aM pa x.a.toNat Gm (by omega) hkl q_):P:=h q
theorem OD{P Q:Prop}(q:Q)(h:Q->P:=by show _->aJ _ 99 ..;exactλq_=>aR (f:=99) Tryz.call99 q.val (λρ w' hw=>Vv (ae hw λR hR=>h8 w' R hR) x (k:=x.b.toNat) (by omega) hq) q_):P:=h q
theorem Ng{P Q:Prop}(q:Q)(h:Q->P:=by show _->aJ _ 103 ..;exactλq_=>aR (f:=103) Tryz.call103 (.bool true) (λρ w' _=>Mw w' x.k v.aF.l.length ⟨k0,k1⟩) q_):P:=h q
theorem O8{P Q:Prop}(q:Q)(h:Q->P:=by show _->aJ _ 102 ..;exactλq_=>aR (f:=102) Tryz.call102 (.bool true) (λρ w' hw=>EQ hw (i:=i) (T:=3) (by repeat(first|exact List.mem_cons_self|apply List.mem_cons_of_mem)) ha) q_):P:=h q
theorem vT{P Q:Prop}(q:Q)(h:Q->P:=by show _->dn ..;exactλq_=>aM da 1 hda rfl (by omega) q_):P:=h q
theorem wG{P Q:Prop}(q:Q)(h:Q->P:=by show _->gZ ..;exactλq_=>qQ (λR w' h=>by rw[<-hda];exact iO h.1.2.2.1) (j:=1) (by omega) hb q_):P:=h q
theorem sO{P Q:Prop}(q:Q)(h:Q->P:=by show _->aJ _ 73 ..;exactλq_=>gm bW Tryz.func73 rfl rfl rfl Tryz.call73 rfl (by show 2<=_;decide) q_):P:=h q
theorem Gg{P Q:Prop}(q:Q)(h:Q->P:=by show _->gZ ..;exactλq_=>qQ (λR w' h=>by rw[<-hda];exact iO h.1.2.2.1) (j:=2) (by omega) ha q_):P:=h q
theorem apq{P Q:Prop}(q:Q)(h:Q->P:=by show _->fF ..;first|exactλq_=>aoy (j:Int) hj3 (by omega) (by omega) q_|exactλq_=>aoy ((i+1:Nat):Int) (by omega) (by omega) (by omega) q_|exactλq_=>zh j rfl (by omega) q_):P:=h q
theorem aov{P Q:Prop}(q:Q)(h:Q->P:=by show _->fF ..;exactλq_=>zh (n-1) (by omega) (by omega) q_):P:=h q
theorem apd{P Q:Prop}(q:Q)(h:Q->P:=by show _->aJ _ 94 ..;exactλq_=>aR (f:=94) Tryz.call94 (.int .u64 ((x*x%n:Nat):Int)) (λρ w' _=>aou w' x x n (by omega) hn2) q_):P:=h q
theorem apc{P Q:Prop}(q:Q)(h:Q->P:=by show _->gZ ..;first|exactλq_=>bN (λR w' h=>by rw[<-hia];exact aH h.1.1 hiv.rows) _ _ as1 rfl q_|exactλq_=>bN (λR w' h=>by rw[<-hsa];exact bf h.1.2.1) _ _ at1 rfl q_):P:=h q
theorem apf{P Q:Prop}(q:Q)(h:Q->P:=by show _->jQ _ 42 ..;exactλq_=>jo (f:=42) Tryz.call42 (.int .i64 (au u.xs)) (λρ w' hw=>kr w' u.base u.cap u.xs (ae hw λR h=>((zy hsv (by omega) h.1.2).each u IZ).rows)) q_):P:=h q
theorem aa{P:Prop}(h:P:=by omega):P:=h
theorem aj{P:Prop}(h:P:=by repeat(first|exact List.mem_cons_self|apply List.mem_cons_of_mem)):P:=h
theorem aO{P:Prop}(h:P:=by first|exact List.mem_cons_self|exact List.mem_cons_of_mem _ List.mem_cons_self|(repeat(first|exact List.mem_cons_self|apply List.mem_cons_of_mem))):P:=h
theorem ay{P:Prop}(h:P:=by decide):P:=h
theorem aX{P:Prop}(h:P:=by first|exact h.2|exact h.1.2):P:=h
theorem aW{P:Prop}(h:P:=by first|exact h.1.2|exact h.2):P:=h
theorem dQ{P:Prop}(h:P:=by first|exact h|exact h.1|exact h.1.1|exact h.1.1.1):P:=h
theorem nM{P:Prop}(h:P:=by simp only[gW,Bool.true_or,Bool.false_or,Bool.true_and,Bool.and_true,Bool.and_eq_true,Bool.and_eq_false_iff,decide_eq_true_eq,decide_eq_false_iff_not];omega):P:=h
theorem aI{P:Prop}(h:P:=by simp):P:=h
theorem bg{P:Prop}(h:P:=by kernel_rfl):P:=h
theorem dS{P:Prop}(h:P:=by rw[aP];omega):P:=h
theorem sF{P:Prop}(h:P:=by unfold bP;simp only[hA];(repeat(first|rw[if_pos (by omega)]|rw[if_neg (by omega)]))):P:=h
theorem bT{P:Prop}(h:P:=by cases h):P:=h
theorem nP{P:Prop}(h:P:=by rw[uy (by omega),uy (by omega)];omega):P:=h
theorem wF{P:Prop}(h:P:=by unfold bP;simp only[hA];repeat(first|rw[if_pos (by omega)]|rw[if_neg (by omega)])):P:=h
theorem fO{P:Prop}(h:P:=by show 2<=_;decide):P:=h
theorem z_{P:Prop}(h:P:=by first|(rw[List.length_append];rfl)|(rw[List.length_append,xD];rfl)|(rw[List.length_append,xB];rfl)):P:=h
theorem iq{P:Prop}(h:P:=by simpa[LH]using hk):P:=h
theorem ko{P:Prop}(h:P:=by rw[jJ];omega):P:=h
theorem nV{P:Prop}(h:P:=by show _=((c.aA-base:Nat):Int);omega):P:=h
theorem wP{P:Prop}(h:P:=by first|exact h|exact h.1|exact h.1.1|exact h.1.1.1|exact h.1.1.1.1):P:=h
theorem kW{P:Prop}(h:P:=by first|exact h.1.1|exact h.1):P:=h
theorem wM{P:Prop}(h:P:=by rw[acN,zN (by omega)];exact Nat.le_refl _):P:=h
theorem ja{P:Prop}(h:P:=by rw[hlm];exact hform):P:=h
theorem oG{P:Prop}(h:P:=by rw[aP];exact Nat.le_refl _):P:=h
theorem mE{P:Prop}(h:P:=by show 8*_<=_;omega):P:=h
theorem oo{P:Prop}(h:P:=by simp[SV.dW,SV.rf,mQ,fG]):P:=h
theorem jF{P:Prop}(h:P:=by unfold eF;omega):P:=h
theorem fK{P:Prop}(h:P:=by simp;omega):P:=h
theorem kP{P:Prop}(h:P:=by unfold tight at ht;omega):P:=h
theorem nO{P:Prop}(h:P:=by rw[acN];omega):P:=h
theorem kQ{P:Prop}(h:P:=by show 0+1<=1;omega):P:=h
theorem fw{P:Prop}(h:P:=by assumption):P:=h
theorem vW{P:Prop}(h:P:=by show _<=500000+6*base+4*(k+1);omega):P:=h
theorem sQ{P:Prop}(h:P:=by have:=hb (by omega) (by omega);omega):P:=h
theorem Pq{P:Prop}(h:P:=by repeat(first|exact List.Sublist.refl _|exact List.nil_sublist _|apply List.Sublist.cons_cons|apply List.Sublist.cons)):P:=h
theorem Ov{P:Prop}(h:P:=by first|exact Tryz.call27|exact Tryz.call28|exact Tryz.call29|exact Tryz.call30|exact Tryz.call31|exact Tryz.call26):P:=h
theorem pM{P:Prop}(h:P:=by rw[acN];exact hlt):P:=h
theorem Gi{P:Prop}(h:P:=by first|exact hn.later h.1|exact hn.later h.1.1|exact hn.later h.1.1.1):P:=h
theorem zk{P:Prop}(h:P:=by rw[List.length_append,List.length_singleton];omega):P:=h
theorem vY{P:Prop}(h:P:=by show _<=500000+6*(base+g);omega):P:=h
theorem vZ{P:Prop}(h:P:=by rw[List.length_map];omega):P:=h
theorem FH{P:Prop}(h:P:=by rw[zV,zV,mF,mF];apply Array.ext';simp):P:=h
theorem mJ{P:Prop}(h:P:=by simp only;omega):P:=h
theorem AB{P:Prop}(h:P:=by show 8*n<=281474976710656;omega):P:=h
theorem FC{P:Prop}(h:P:=by rw[jg,rF (by omega)];exact Nat.le_refl _):P:=h
theorem wB{P:Prop}(h:P:=by simpa using congrArg Prod.fst g.symm):P:=h
theorem AX{P:Prop}(h:P:=by rw[acN];exact hkl):P:=h
theorem OZ{P:Prop}(h:P:=by first|(simp only[aZ,List.map_append];rfl)|(simp only[aZ,List.map_append,xD];rfl)):P:=h
theorem Ol{P:Prop}(h:P:=by first|(simp only[aZ,List.map_append];rfl)|(simp only[aZ,List.map_append,xB];rfl)):P:=h
theorem AA{P:Prop}(h:P:=by rw[List.length_replicate];omega):P:=h
theorem pW{P:Prop}(h:P:=by have:=z0.y9;omega):P:=h
theorem oI{P:Prop}(h:P:=by unfold fJ;omega):P:=h
theorem OM{P:Prop}(h:P:=by rw[if_pos (by show 2048<q.1.code.length;omega)]at hT;rw[<-hrT,<-hT];rfl):P:=h
theorem EP{P:Prop}(h:P:=by rw[jg];exact Nat.le_refl _):P:=h
theorem O0{P:Prop}(h:P:=by simp only[List.length_append,List.length_cons,List.length_nil]at hk|-;omega):P:=h
theorem kU{P:Prop}(h:P:=by rw[h2];rfl):P:=h
theorem aoj{P:Prop}(h:P:=by rw[jg];exact hlt):P:=h
theorem ES{P:Prop}(h:P:=by rw[zV,zV];apply Array.ext';simp):P:=h
theorem aoA{P:Prop}(h:P:=by rw[<-hdx];exact(Int.natCast_mul d d).symm):P:=h
theorem aoz{P:Prop}(h:P:=by show(m+1)*24<=140737488355328;omega):P:=h
theorem Ff{P:Prop}(h:P:=by have:=hx i (by simp[SV.has]);exact this):P:=h
theorem aoF{P:Prop}(h:P:=by show(m+1)*8<=140737488355328;omega):P:=h
theorem rZ{P:Prop}(h:P:=by rw[<-hgc];omega):P:=h
theorem Pp{P:Prop}(h:P:=by intro x hx;simp only[List.mem_singleton]at hx;subst hx;omega):P:=h
theorem P7{P:Prop}(h:P:=by simp[kT,uI,Value.formed,Tryz.underlying43,aa8]):P:=h
theorem FK{P:Prop}(h:P:=by rw[jJ];exact Nat.le_refl _):P:=h
theorem P9{P:Prop}(h:P:=by rw[List.length_append,List.length_singleton,hR.oK];omega):P:=h
theorem Be{P:Prop}(h:P:=by rw[ha (by omega)];exact ho):P:=h
theorem zW{P:Prop}(h:P:=by rw[List.length_drop];omega):P:=h
theorem aps{P:Prop}(h:P:=by rw[acN,List.length_map,hkl];exact Nat.le_refl _):P:=h
theorem PP{P:Prop}(h:P:=by rw[nR,he,decide_eq_false (by omega),Bool.false_and]):P:=h
theorem Bb{P:Prop}(h:P:=by subst hx';subst hy';simp):P:=h
theorem Fj{P:Prop}(h:P:=by rw[PV];exact Nat.le_refl _):P:=h
theorem Ns{P:Prop}(h:P:=by rw[(List.mem_replicate.1 hp).2];exact⟨rfl,rfl⟩):P:=h
theorem FT{P:Prop}(h:P:=by have:=(z0.plain iL).y9;omega):P:=h
theorem OO{P:Prop}(h:P:=by simp[o7,Value.formed,Tryz.underlying58,agH]):P:=h
theorem Mv{P:Prop}(h:P:=by rw[eG,List.length_map,List.length_range]):P:=h
theorem AC{P:Prop}(h:P:=by rw[eG];omega):P:=h
theorem ao9{P:Prop}(h:P:=by rw[hx.1,hpe];unfold r9;rw[hEq];exact hwn.1):P:=h
theorem NU{P:Prop}(h:P:=by show st.length+1=_;rw[List.length_append];rfl):P:=h
theorem Qk{P:Prop}(h:P:=by show(l.length+1)*120<=140737488355328;omega):P:=h
theorem Nf{P:Prop}(h:P:=by show(xs.length+1)*8<=140737488355328;omega):P:=h
theorem Ql{P:Prop}(h:P:=by rw[hg,List.map_map];exact(List.map_id row).symm):P:=h
theorem Nq{P:Prop}(h:P:=by show(st.length+1)*8<=140737488355328;omega):P:=h
theorem Ps{P:Prop}(h:P:=by show(vl.length+1)*8<=140737488355328;omega):P:=h
theorem M3{P:Prop}(h:P:=by rw[List.length_append,List.length_singleton,hvl]):P:=h
theorem Pd{P:Prop}(h:P:=by rw[List.length_append,List.length_singleton,hkl]):P:=h
theorem apx{P:Prop}(h:P:=by rw[aP,amw];exact Nat.le_refl _):P:=h
theorem Fu{P:Prop}(h:P:=by rw[hlm];exact dJ hform):P:=h
theorem Am{P:Prop}(h:P:=by rw[<-htx];exact hg):P:=h
theorem zn{P:Prop}(h:P:=by have:=z0.yF;omega):P:=h
theorem EG{P:Prop}(h:P:=by rw[oF];exact hlt):P:=h
theorem AR{P:Prop}(h:P:=by show 1<=j;exact h):P:=h
theorem FR{P:Prop}(h:P:=by rw[acN];exact hil):P:=h
theorem apC{P:Prop}(h:P:=by rw[aP,hml,hm];exact Nat.le_refl _):P:=h
theorem ape{P:Prop}(h:P:=by rw[List.length_map,List.length_drop];omega):P:=h
theorem EA{P:Prop}(h:P:=by rw[List.length_cons];omega):P:=h
theorem PO{P:Prop}(h:P:=by rw[jg,hil];exact Nat.le_refl _):P:=h
theorem Nk{P:Prop}(h:P:=by show(m+1)*16<=140737488355328;omega):P:=h
theorem apF{P:Prop}(h:P:=by rw[acN,hml];exact Nat.le_refl _):P:=h
theorem PU{P:Prop}(h:P:=by rw[eG,hlen];exact Nat.le_refl _):P:=h
theorem apt{P:Prop}(h:P:=by show(i+1)*24<=140737488355328;omega):P:=h
theorem Qi{P:Prop}(h:P:=by rw[List.length_map];exact dJ hform):P:=h
theorem apa{P:Prop}(h:P:=by show(m+2)*8<=140737488355328;omega):P:=h
theorem zu{P:Prop}(h:P:=by simp only[execOp]):P:=h
theorem Ar{P:Prop}(h:P:=by simp[aP]):P:=h
theorem pV{P:Prop}(h:P:=by simp[h]):P:=h
theorem Pj{P:Prop}(h:P:=by simp[SV.has]):P:=h
theorem wU{P:Prop}(h:P:=by simpa using h):P:=h
theorem AJ{P:Prop}(h:P:=by rw[hN];exact he):P:=h
theorem Fv{P:Prop}(h:P:=by show 24*_<=_;omega):P:=h
theorem FI{P:Prop}(h:P:=by rw[<-h.len];exact h1):P:=h
theorem F_{P:Prop}(h:P:=by have:=(z0).yF;omega):P:=h
theorem EB{P:Prop}(h:P:=by have:=(z0).y9;omega):P:=h
theorem wo{P:Prop}(h:P:=by rw[hs];rfl):P:=h
theorem wW{P:Prop}(h:P:=by rw[e2];rfl):P:=h
theorem Fg{P:Prop}(h:P:=by simpa[SV.has]using hi):P:=h
theorem zH{P:Prop}(h:P:=by simpa using hfit):P:=h
theorem zX{P:Prop}(h:P:=by rw[htl];decide):P:=h
theorem ER{P:Prop}(h:P:=by rw[hL.oK];exact hil):P:=h
theorem Fe{P:Prop}(h:P:=by rw[uf];omega):P:=h
theorem aow{P:Prop}(h:P:=by rw[hv2];decide):P:=h
theorem Gb{P:Prop}(h:P:=by have:=z2.y9;omega):P:=h
theorem EO{P:Prop}(h:P:=by have:=z1.y9;omega):P:=h
theorem wS{P:Prop}(h:P:=by rw[gp,gq]):P:=h
theorem zM{P:Prop}(h:P:=by rw[e];exact h):P:=h
theorem Gj{P:Prop}(h:P:=by show 1<=_;decide):P:=h
theorem Aj{P:Prop}(h:P:=by rw[ho];simp):P:=h
theorem AU{P:Prop}(h:P:=by rw[rO];rfl):P:=h
theorem ahd:type_of% @Nat.lt_of_lt_of_le:=@Nat.lt_of_lt_of_le
theorem amh:type_of% @Bool.or_eq_true:=@Bool.or_eq_true
theorem ael:type_of% @Nat.eq_of_beq_eq_true:=@Nat.eq_of_beq_eq_true
theorem akz:type_of% @Nat.ne_of_beq_eq_false:=@Nat.ne_of_beq_eq_false
theorem ack:type_of% @Nat.lt_or_ge:=@Nat.lt_or_ge
theorem aiC:type_of% @Nat.le_trans:=@Nat.le_trans
theorem Tw:type_of% @Nat.le_refl:=@Nat.le_refl
theorem anb:type_of% @Nat.ble_eq_true_of_le:=@Nat.ble_eq_true_of_le
theorem amt:type_of% @Int.not_lt:=@Int.not_lt
theorem adu:type_of% @List.mem_of_getElem?:=@List.mem_of_getElem?
theorem aiD:type_of% @Nat.zero_add:=@Nat.zero_add
theorem ab5:type_of% @List.getElem?_map:=@List.getElem?_map
theorem abH:type_of% @List.getElem?_eq_some_iff:=@List.getElem?_eq_some_iff
theorem al2:type_of% @List.getElem?_take:=@List.getElem?_take
theorem anl:type_of% @List.getElem?_drop:=@List.getElem?_drop
theorem aob:type_of% @Bool.false_eq_true:=@Bool.false_eq_true
theorem alF:type_of% @Nat.add_assoc:=@Nat.add_assoc
theorem aon:type_of% @Option.isSome_iff_exists:=@Option.isSome_iff_exists
theorem al8:type_of% @Array.ext':=@Array.ext'
theorem an_:type_of% @List.ext_getElem?:=@List.ext_getElem?
theorem YL:type_of% @List.getElem?_eq_getElem:=@List.getElem?_eq_getElem
theorem aiQ:type_of% @List.getElem?_eq_none:=@List.getElem?_eq_none
theorem alq:type_of% @List.map_set:=@List.map_set
theorem anz:type_of% @List.mem_or_eq_of_mem_set:=@List.mem_or_eq_of_mem_set
theorem ahb:type_of% @List.foldl_cons:=@List.foldl_cons
theorem amr:type_of% @Nat.add_zero:=@Nat.add_zero
theorem afY:type_of% @List.map_cons:=@List.map_cons
theorem abr:type_of% @List.mem_cons:=@List.mem_cons
theorem afF:type_of% @Bool.and_eq_true:=@Bool.and_eq_true
theorem amF:type_of% @List.getElem?_toArray:=@List.getElem?_toArray
theorem amH:type_of% @Array.getElem?_toList:=@Array.getElem?_toList
theorem amD:type_of% @Nat.lt_succ_self:=@Nat.lt_succ_self
theorem amN:type_of% @Nat.le_succ:=@Nat.le_succ
theorem aiN:type_of% @List.pairwise_cons:=@List.pairwise_cons
theorem aom:type_of% @List.sublist_cons_self:=@List.sublist_cons_self
theorem YV:type_of% @List.mem_cons_self:=@List.mem_cons_self
theorem aeg:type_of% @List.mem_cons_of_mem:=@List.mem_cons_of_mem
theorem aj3:type_of% @List.pairwise_map:=@List.pairwise_map
theorem amn:type_of% @List.length_nil:=@List.length_nil
theorem ahN:type_of% @List.length_cons:=@List.length_cons
theorem anI:type_of% @List.getElem?_set_self:=@List.getElem?_set_self
theorem amy:type_of% @List.getElem?_set_ne:=@List.getElem?_set_ne
theorem ahZ:type_of% @List.append_assoc:=@List.append_assoc
theorem ahg:type_of% @List.getElem?_append_right:=@List.getElem?_append_right
theorem ag9:type_of% @List.getElem?_append_left:=@List.getElem?_append_left
theorem aj4:type_of% @Nat.mul_le_mul_right:=@Nat.mul_le_mul_right
theorem aiB:type_of% @Nat.succ_mul:=@Nat.succ_mul
theorem abl:type_of% @List.mem_map:=@List.mem_map
theorem amO:type_of% @List.getElem?_cons_zero:=@List.getElem?_cons_zero
theorem ane:type_of% @List.getElem?_cons_succ:=@List.getElem?_cons_succ
theorem adx:type_of% @List.length_append:=@List.length_append
theorem amT:type_of% @List.getElem?_replicate:=@List.getElem?_replicate
theorem akr:type_of% @Nat.mod_eq_of_lt:=@Nat.mod_eq_of_lt
theorem amk:type_of% @Option.map_some:=@Option.map_some
theorem akv:type_of% @Int.natCast_mul:=@Int.natCast_mul
theorem ams:type_of% @List.mem_of_mem_take:=@List.mem_of_mem_take
theorem anW:type_of% @List.mem_of_mem_drop:=@List.mem_of_mem_drop
theorem amm:type_of% @Nat.eq_zero_or_pos:=@Nat.eq_zero_or_pos
theorem akx:type_of% @Nat.mod_lt:=@Nat.mod_lt
theorem aoe:type_of% @Bool.not_eq_true':=@Bool.not_eq_true'
theorem an4:type_of% @Nat.le_of_ble_eq_true:=@Nat.le_of_ble_eq_true
theorem ahV:type_of% @List.eq_nil_of_length_eq_zero:=@List.eq_nil_of_length_eq_zero
theorem ajM:type_of% @List.append_nil:=@List.append_nil
theorem aoc:type_of% @List.size_toArray:=@List.size_toArray
theorem aeh:type_of% @List.mem_append:=@List.mem_append
theorem aae:type_of% @Nat.zero_le:=@Nat.zero_le
theorem aoa:type_of% @Nat.le_of_not_lt:=@Nat.le_of_not_lt
theorem akg:type_of% @List.nil_append:=@List.nil_append
theorem amJ:type_of% @List.cons_append:=@List.cons_append
theorem aiH:type_of% @Nat.sub_self:=@Nat.sub_self
theorem afe:type_of% @List.mem_singleton:=@List.mem_singleton
theorem am4:type_of% @Nat.sub_zero:=@Nat.sub_zero
theorem akM:type_of% @List.all_eq_true:=@List.all_eq_true
theorem amv:type_of% @Int.ediv_nonneg:=@Int.ediv_nonneg
theorem aku:type_of% @Int.ediv_le_self:=@Int.ediv_le_self
theorem af7:type_of% @List.Sublist.refl:=@List.Sublist.refl
theorem aej:type_of% @List.Sublist.cons:=@List.Sublist.cons
theorem amG:type_of% @List.nil_sublist:=@List.nil_sublist
theorem aei:type_of% @List.Sublist.cons_cons:=@List.Sublist.cons_cons
theorem anK:type_of% @List.any_eq_true:=@List.any_eq_true
theorem am7:type_of% @List.getElem?_range:=@List.getElem?_range
theorem ahe:type_of% @List.mem_range:=@List.mem_range
theorem ahf:type_of% @Nat.not_lt_zero:=@Nat.not_lt_zero
theorem ahc:type_of% @List.drop_eq_getElem_cons:=@List.drop_eq_getElem_cons
theorem aha:type_of% @Int.le_trans:=@Int.le_trans
theorem ahi:type_of% @Int.mul_le_mul_of_nonneg_right:=@Int.mul_le_mul_of_nonneg_right
theorem ai6:type_of% @Int.mul_le_mul_of_nonneg_left:=@Int.mul_le_mul_of_nonneg_left
theorem ajF:type_of% @Int.mul_comm:=@Int.mul_comm
theorem an8:type_of% @Int.ediv_lt_of_lt_mul:=@Int.ediv_lt_of_lt_mul
theorem ag8:type_of% @Int.mul_le_mul:=@Int.mul_le_mul
theorem ajP:type_of% @List.take_succ_eq_append_getElem:=@List.take_succ_eq_append_getElem
theorem aen:type_of% @List.take_of_length_le:=@List.take_of_length_le
theorem afn:type_of% @List.map_append:=@List.map_append
theorem anJ:type_of% @Nat.div_le_self:=@Nat.div_le_self
theorem am6:type_of% @Int.natCast_ediv:=@Int.natCast_ediv
theorem anE:type_of% @Bool.true_and:=@Bool.true_and
theorem amC:type_of% @List.drop_of_length_le:=@List.drop_of_length_le
theorem aek:type_of% @List.length_take:=@List.length_take
theorem aiF:type_of% @List.not_mem_nil:=@List.not_mem_nil
theorem ami:type_of% @Bool.and_eq_false_iff:=@Bool.and_eq_false_iff
theorem age:type_of% @Int.one_mul:=@Int.one_mul
theorem aby:type_of% @List.getElem_mem:=@List.getElem_mem
theorem agJ:type_of% @Int.mul_nonneg:=@Int.mul_nonneg
theorem amo:type_of% @Int.eq_ofNat_of_zero_le:=@Int.eq_ofNat_of_zero_le
theorem aas:type_of% @List.length_map:=@List.length_map
theorem aem:type_of% @Int.le_refl:=@Int.le_refl
theorem alL:type_of% @Int.emod_nonneg:=@Int.emod_nonneg
theorem akS:type_of% @Int.emod_lt_of_pos:=@Int.emod_lt_of_pos
theorem alN:type_of% @Nat.mul_le_mul:=@Nat.mul_le_mul
theorem TR:type_of% @List.getD_eq_getElem?_getD:=@List.getD_eq_getElem?_getD
theorem ag_:type_of% @List.length_singleton:=@List.length_singleton
theorem aiK:type_of% @List.map_nil:=@List.map_nil
theorem ait:type_of% @List.range_succ:=@List.range_succ
theorem aoo:type_of% @Int.mul_le_mul_of_nonpos_left:=@Int.mul_le_mul_of_nonpos_left
theorem aml:type_of% @List.length_drop:=@List.length_drop
theorem anY:type_of% @List.map_drop:=@List.map_drop
theorem amj:type_of% @List.length_range:=@List.length_range
theorem amz:type_of% @Int.mul_pos:=@Int.mul_pos
theorem aky:type_of% @Int.add_mul:=@Int.add_mul
theorem ajY:type_of% @Nat.min_eq_left:=@Nat.min_eq_left
theorem am5:type_of% @List.mem_flatMap:=@List.mem_flatMap
theorem amB:type_of% @Int.mul_ediv_add_emod:=@Int.mul_ediv_add_emod
theorem ank:type_of% @Int.mul_assoc:=@Int.mul_assoc
theorem anc:type_of% @Int.emod_eq_of_lt:=@Int.emod_eq_of_lt
theorem akY:type_of% @List.drop_length:=@List.drop_length
theorem alQ:type_of% @List.ext_getElem:=@List.ext_getElem
theorem anm:type_of% @List.getElem_map:=@List.getElem_map
theorem am3:type_of% @List.getElem_range:=@List.getElem_range
theorem alu:type_of% @Array.getElem?_eq_some_iff:=@Array.getElem?_eq_some_iff
theorem amx:type_of% @List.getElem?_set:=@List.getElem?_set
theorem amd:type_of% @List.mem_iff_getElem?:=@List.mem_iff_getElem?
theorem amA:type_of% @List.pairwise_iff_getElem:=@List.pairwise_iff_getElem
theorem alP:type_of% @Int.toNat_of_nonneg:=@Int.toNat_of_nonneg
theorem ajc:type_of% @List.length_set:=@List.length_set
theorem anB:type_of% @List.mem_replicate:=@List.mem_replicate
theorem aiS:type_of% @List.length_replicate:=@List.length_replicate
theorem aol:type_of% @Array.replicate_succ:=@Array.replicate_succ
theorem aok:type_of% @Array.replicate_zero:=@Array.replicate_zero
theorem aop:type_of% @List.getElem?_take_of_lt:=@List.getElem?_take_of_lt
theorem am0:type_of% @List.mem_iff_getElem:=@List.mem_iff_getElem
theorem ahh:type_of% @Int.toNat_natCast:=@Int.toNat_natCast
theorem amL:type_of% @Nat.le_of_eq:=@Nat.le_of_eq
theorem akw:type_of% @Int.add_assoc:=@Int.add_assoc
theorem anM:type_of% @Int.natCast_add:=@Int.natCast_add
theorem anA:type_of% @List.map_congr_left:=@List.map_congr_left
theorem amE:type_of% @Int.add_zero:=@Int.add_zero
theorem anw:type_of% @Int.le_add_one:=@Int.le_add_one
theorem amq:type_of% @Int.le_antisymm:=@Int.le_antisymm
theorem aof:type_of% @Int.natCast_nonneg:=@Int.natCast_nonneg

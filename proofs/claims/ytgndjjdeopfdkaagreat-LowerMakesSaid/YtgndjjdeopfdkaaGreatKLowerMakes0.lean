import Derived.WalkKit
import Derived.Below
import Derived.Deep.Quiet
/- texts Mac Mac of the proof of LowerMakesSaid -/
set_option maxHeartbeats 16000000
set_option maxRecDepth 20000
theorem aN{P Q:Prop}(q:Q)(h:Q->P:=by first|(show _->Wp _ _ _ _ _ _ _;exact Wp.go fA rfl)|(show _-> @dR _ _ _;first|exact bA (by omega)|exact cK (by omega))|(show _->iw _ _ _;exact wrap_i64 (by omega) (by omega))|(show _->sH _ _ _;exact fO (by first|exact Nat.le_refl _|omega))|(show _->fG _ _ _;exact b_ (by first|omega|(dsimp only;omega)))|(show _->ltK _ _ _;exact FP (by omega))|(show _->iK _ _ _ _ _;exact gm (by first|exact List.Sublist.refl _|exact List.Sublist.cons _ (List.Sublist.refl _)|exact List.Sublist.cons _ (List.Sublist.cons _ (List.Sublist.refl _))|exact List.Sublist.cons _ (List.Sublist.cons _ (List.Sublist.cons _ (List.Sublist.refl _)))) (by first|exact(λ_ _ h=>h)|exact(λ_ _ h=>h.1)|exact(λ_ _ h=>h.1.1)))|exact uN|exact IZ):P:=h q
theorem aZ{P Q:Prop}(q:Q)(h:Q->P:=by first|(show _->Wp _ _ _ _ _ _ _;exact Wp.go fA rfl)|(show _-> @dR _ _ _;first|exact bA (by omega)|exact cK (by omega))|(show _->iw _ _ _;exact wrap_i64 (by omega) (by omega))|(show _->sH _ _ _;exact fO (by first|exact Nat.le_refl _|omega))|(show _->fG _ _ _;exact b_ (by first|omega|(dsimp only;omega)))|(show _->ltK _ _ _;exact FP (by omega))|(show _->iK _ _ _ _ _;exact gm (by first|exact List.Sublist.refl _|exact List.Sublist.cons _ (List.Sublist.refl _)|exact List.Sublist.cons _ (List.Sublist.cons _ (List.Sublist.refl _))|exact List.Sublist.cons _ (List.Sublist.cons _ (List.Sublist.cons _ (List.Sublist.refl _)))) (by first|exact(λ_ _ h=>h)|exact(λ_ _ h=>h.1)|exact(λ_ _ h=>h.1.1)))|exact uN|exact IZ|(show _->cO _ _ _ _ _ _ _ _;exact xX fA mixed (by kernel_rfl))):P:=h q
theorem qP{P Q:Prop}(q:Q)(h:Q->P:=by first|(show _->Wp _ _ _ _ _ _ _;exact Wp.go fA rfl)|(show _-> @dR _ _ _;first|exact bA (by omega)|exact cK (by omega))|(show _->iw _ _ _;exact wrap_i64 (by omega) (by omega))|(show _->sH _ _ _;exact fO (by first|exact Nat.le_refl _|omega))|(show _->fG _ _ _;exact b_ (by first|omega|(dsimp only;omega)))|(show _->ltK _ _ _;exact FP (by omega))|(show _->iK _ _ _ _ _;exact gm (by first|exact List.Sublist.refl _|exact List.Sublist.cons _ (List.Sublist.refl _)|exact List.Sublist.cons _ (List.Sublist.cons _ (List.Sublist.refl _))|exact List.Sublist.cons _ (List.Sublist.cons _ (List.Sublist.cons _ (List.Sublist.refl _)))) (by first|exact(λ_ _ h=>h)|exact(λ_ _ h=>h.1)|exact(λ_ _ h=>h.1.1)))|exact IZ):P:=h q
theorem am8{P Q:Prop}(q:Q)(h:Q->P:=by first|(show _->Wp _ _ _ _ _ _ _;exact Wp.go fA rfl)|(show _-> @dR _ _ _;first|exact bA (by omega)|exact cK (by omega))|(show _->iw _ _ _;exact wrap_i64 (by omega) (by omega))|(show _->sH _ _ _;exact fO (by first|exact Nat.le_refl _|omega))|(show _->fG _ _ _;exact b_ (by first|omega|(dsimp only;omega)))|(show _->ltK _ _ _;exact FP (by omega))|(show _->iK _ _ _ _ _;exact gm (by first|exact List.Sublist.refl _|exact List.Sublist.cons _ (List.Sublist.refl _)|exact List.Sublist.cons _ (List.Sublist.cons _ (List.Sublist.refl _))|exact List.Sublist.cons _ (List.Sublist.cons _ (List.Sublist.cons _ (List.Sublist.refl _)))) (by first|exact(λ_ _ h=>h)|exact(λ_ _ h=>h.1)|exact(λ_ _ h=>h.1.1)))):P:=h q
theorem Bu{P Q:Prop}(q:Q)(h:Q->P:=by first|(show _-> @dR _ _ _;first|exact bA (by omega)|exact cK (by omega))|(show _->iw _ _ _;exact wrap_i64 (by omega) (by omega))|(show _->sH _ _ _;exact fO (by first|exact Nat.le_refl _|omega))|(show _->fG _ _ _;exact b_ (by first|omega|(dsimp only;omega)))|(show _->ltK _ _ _;exact FP (by omega))|(show _->iK _ _ _ _ _;exact gm (by first|exact List.Sublist.refl _|exact List.Sublist.cons _ (List.Sublist.refl _)|exact List.Sublist.cons _ (List.Sublist.cons _ (List.Sublist.refl _))|exact List.Sublist.cons _ (List.Sublist.cons _ (List.Sublist.cons _ (List.Sublist.refl _)))) (by first|exact(λ_ _ h=>h)|exact(λ_ _ h=>h.1)|exact(λ_ _ h=>h.1.1)))|exact uN|exact IZ):P:=h q
theorem Vz{P Q:Prop}(q:Q)(h:Q->P:=by first|(show _-> @dR _ _ _;first|exact bA (by omega)|exact cK (by omega))|(show _->iw _ _ _;exact wrap_i64 (by omega) (by omega))|(show _->sH _ _ _;exact fO (by first|exact Nat.le_refl _|omega))|(show _->fG _ _ _;exact b_ (by first|omega|(dsimp only;omega)))|(show _->ltK _ _ _;exact FP (by omega))|(show _->iK _ _ _ _ _;exact gm (by first|exact List.Sublist.refl _|exact List.Sublist.cons _ (List.Sublist.refl _)|exact List.Sublist.cons _ (List.Sublist.cons _ (List.Sublist.refl _))|exact List.Sublist.cons _ (List.Sublist.cons _ (List.Sublist.cons _ (List.Sublist.refl _)))) (by first|exact(λ_ _ h=>h)|exact(λ_ _ h=>h.1)|exact(λ_ _ h=>h.1.1)))|exact uN|exact IZ|(show _->cO _ _ _ _ _ _ _ _;exact xX fA mixed (by kernel_rfl))):P:=h q
theorem aU{P:Prop}(h:P:=by repeat(first|exact trivial|refine⟨(by first|rfl|(repeat(first|exact List.mem_cons_self|apply List.mem_cons_of_mem))),?_⟩)):P:=h
theorem aky{P Q:Prop}(q:Q)(h:Q->P:=by show _->ku _ 148 ..;exactλq_=>iL (f:=148) Tryz.call148 _ (λρ w' hw=>Et w' n at_ sv (ae hw λR h=>hs.later h) i s hi ha) q_):P:=h q
theorem aiN{P Q:Prop}(q:Q)(h:Q->P:=by show _->aC _ 148 ..;exactλq_=>aJ (f:=148) Tryz.call148 _ (λρ w' hw=>Et w' n at_ sv (ae hw λR h=>hs.later h) i s hi ha) q_):P:=h q
theorem Ro{P Q:Prop}(q:Q)(h:Q->P:=by show _->l_ ..;exactλq_=>tL (ti 165 rfl) rfl jq q_):P:=h q
theorem Rp{P Q:Prop}(q:Q)(h:Q->P:=by show _->aC _ 134 ..;exactλq_=>jD (f:=134) (ZG n) 7 rfl Tryz.call134 (λρ w' hw=>XU w' n) q_):P:=h q
theorem Rq{P Q:Prop}(q:Q)(h:Q->P:=by show _->aC _ 42 ..;exactλq_=>aJ (f:=42) Tryz.call42 _ (λρ w' hw=>gT w' n.shape.base n.shape.cap n.shape.xs (ae hw λR h=>au h.1.1 hn.shape.rows)) q_):P:=h q
theorem Rs{P Q:Prop}(q:Q)(h:Q->P:=by show _->ku _ 42 ..;exactλq_=>iL (f:=42) Tryz.call42 _ (λρ w' hw=>gT w' n.shape.base n.shape.cap n.shape.xs (ae hw λR h=>au h.1.1 hn.shape.rows)) q_):P:=h q
theorem Rt{P Q:Prop}(q:Q)(h:Q->P:=by show _->bC ..;first|exactλq_=>ax ah 0 hah rfl (by omega) q_|exactλq_=>ax am 0 jq rfl (by omega) q_|exactλq_=>ax ah 1 hah rfl (by omega) q_|exactλq_=>ax am 1 jq rfl (by omega) q_|exactλq_=>ax ah 2 hah rfl (by omega) q_|exactλq_=>ax am 2 jq rfl (by omega) q_|exactλq_=>ax ah 3 hah rfl (by omega) q_|exactλq_=>ax am 3 jq rfl (by omega) q_|exactλq_=>ax ah 4 hah rfl (by omega) q_|exactλq_=>ax am 4 jq rfl (by omega) q_|exactλq_=>ax ah 5 hah rfl (by omega) q_|exactλq_=>ax am 5 jq rfl (by omega) q_|exactλq_=>ax ah 6 hah rfl (by omega) q_|exactλq_=>ax am 6 jq rfl (by omega) q_|exactλq_=>ax _ 0 (hbase (by omega)) rfl (by omega) q_):P:=h q
theorem akz{P Q:Prop}(q:Q)(h:Q->P:=by show _->aC _ 133 ..;exactλq_=>jD (f:=133) [true,false,false,false,false,true,false] 7 rfl Tryz.call133 (λρ w' hw=>rM w' n.kind [true,false,false,false,false,true,false] hm) q_):P:=h q
theorem akA{P Q:Prop}(q:Q)(h:Q->P:=by show _->aC _ 133 ..;exactλq_=>jD (f:=133) [true,false,true,false,false,true,true] 7 rfl Tryz.call133 (λρ w' hw=>rM w' n.kind [true,false,true,false,false,true,true] hm) q_):P:=h q
theorem akB{P Q:Prop}(q:Q)(h:Q->P:=by show _->aC _ 134 ..;exactλq_=>jD (f:=134) (ZG n) 7 rfl Tryz.call134 (λρ w' hw=>XU w' n) q_):P:=h q
theorem aiO{P Q:Prop}(q:Q)(h:Q->P:=by show _->bC ..;first|exactλq_=>ax ah 0 hah rfl (by omega) q_|exactλq_=>ax am 0 jq rfl (by omega) q_|exactλq_=>ax ah 1 hah rfl (by omega) q_|exactλq_=>ax am 1 jq rfl (by omega) q_|exactλq_=>ax ah 2 hah rfl (by omega) q_|exactλq_=>ax am 2 jq rfl (by omega) q_|exactλq_=>ax ah 3 hah rfl (by omega) q_|exactλq_=>ax am 3 jq rfl (by omega) q_|exactλq_=>ax ah 4 hah rfl (by omega) q_|exactλq_=>ax am 4 jq rfl (by omega) q_|exactλq_=>ax ah 5 hah rfl (by omega) q_|exactλq_=>ax am 5 jq rfl (by omega) q_|exactλq_=>ax ah 6 hah rfl (by omega) q_|exactλq_=>ax am 6 jq rfl (by omega) q_|exactλq_=>ax _ 0 (hbase (by omega)) rfl (by omega) q_):P:=h q
theorem akC{P Q:Prop}(q:Q)(h:Q->P:=by show _->aC _ 133 ..;exactλq_=>jD (f:=133) (true::r) 7 hr Tryz.call133 (λρ w' hw=>rM w' n.kind _ hm) q_):P:=h q
theorem abQ{P Q:Prop}(q:Q)(h:Q->P:=by show _->bC ..;exactλq_=>ax _ o jr rfl (by omega) q_):P:=h q
theorem abR{P Q:Prop}(q:Q)(h:Q->P:=by show _->fu ..;exactλq_=>bO hur (j:=o) (by omega) q_):P:=h q
theorem abS{P Q:Prop}(q:Q)(h:Q->P:=by show _->bV ..;exactλq_=>aT o rfl hlt (by rw[aF,pU (by omega)];exact Nat.le_refl _) q_):P:=h q
theorem abT{P Q:Prop}(q:Q)(h:Q->P:=by show _->bS ..;exactλq_=>zi hlen hlt q_):P:=h q
theorem aiP{P Q:Prop}(q:Q)(h:Q->P:=by show _->bC ..;first|exactλq_=>ax a i ha rfl hlt q_|exactλq_=>ax a j ha hja akD q_):P:=h q
theorem aiQ{P Q:Prop}(q:Q)(h:Q->P:=by show _->fu ..;first|exactλq_=>aW (λR w' h=>by rw[<-ha];exact au h hs.rows) _ _ hrow rfl q_|exactλq_=>aW (λR w' h=>by rw[<-ha];exact au h hs.rows) _ _ ag1 rfl q_):P:=h q
theorem aiR{P Q:Prop}(q:Q)(h:Q->P:=by show _->aC _ 61 ..;exactλq_=>aJ (f:=61) Tryz.call61 _ (λρ w' hw=>pV w' s (ae hw λR h=>hss.later h)) q_):P:=h q
theorem akE{P Q:Prop}(q:Q)(h:Q->P:=by show _->bC ..;first|exactλq_=>ax us 1 fP rfl (by rw[hsl];decide) q_|exactλq_=>ax us 2 fP rfl (by rw[hsl];decide) q_|exactλq_=>ax us 3 fP rfl (by rw[hsl];decide) q_|exactλq_=>ax ut 1 hut rfl (by rw[htl];decide) q_|exactλq_=>ax ut 2 hut rfl (by rw[htl];decide) q_):P:=h q
theorem akF{P Q:Prop}(q:Q)(h:Q->P:=by show _->fu ..;first|exactλq_=>aW Pj [.int .i64 k1] (.int .i64 k1) (j:=1) rfl rfl q_|exactλq_=>aW Pj [.int .i64 k2] (.int .i64 k2) (j:=2) rfl rfl q_|exactλq_=>aW Pj [.int .i64 k3] (.int .i64 k3) (j:=3) rfl rfl q_|exactλq_=>aW htr [.int .i64 i1] (.int .i64 i1) (j:=1) rfl rfl q_|exactλq_=>aW htr [.int .i64 i2] (.int .i64 i2) (j:=2) rfl rfl q_):P:=h q
theorem akG{P Q:Prop}(q:Q)(h:Q->P:=by show _->bC ..;first|exactλq_=>ax ut 1 hut rfl (by rw[htl];decide) q_|exactλq_=>ax ut 2 hut rfl (by rw[htl];decide) q_):P:=h q
theorem akH{P Q:Prop}(q:Q)(h:Q->P:=by show _->fu ..;first|exactλq_=>aW htr [.int .i64 i1] (.int .i64 i1) (j:=1) rfl rfl q_|exactλq_=>aW htr [.int .i64 i2] (.int .i64 i2) (j:=2) rfl rfl q_):P:=h q
theorem akI{P Q:Prop}(q:Q)(h:Q->P:=by show _->aC _ 52 ..;exactλq_=>aJ (f:=52) Tryz.call52 (.int .i64 (foldI min x.1.xs)) (λρ w' hw=>Pk w' x.1 (ae hw λR h=>akJ hn.data hx2 hx3 h.1.1 h.2) hEL) q_):P:=h q
theorem akK{P Q:Prop}(q:Q)(h:Q->P:=by show _->aC _ 53 ..;exactλq_=>aJ (f:=53) Tryz.call53 (.int .i64 (foldI max x.1.xs)) (λρ w' hw=>Pm w' x.1 (ae hw λR h=>akJ hn.data hx2 hx3 h.1.1 h.2) hEL) q_):P:=h q
theorem akL{P Q:Prop}(q:Q)(h:Q->P:=by show _->bV ..;exactλq_=>aT i rfl hlt (by rw[gU,pW (by first|omega|(rw[List.length_append,List.length_singleton];omega))];exact Nat.le_refl _) q_):P:=h q
theorem akM{P Q:Prop}(q:Q)(h:Q->P:=by show _->ltK ..;exactλq_=>FP (by rw[gU,pW (by rw[List.length_append,List.length_singleton];omega)];exact hlt) q_):P:=h q
theorem afP{P Q:Prop}(q:Q)(h:Q->P:=by show _->iM ..;exactλq_=>dO (λR w' h=>by rw[<-ha];exact au h.1.1 hg.rows) _ hrow rfl q_):P:=h q
theorem afQ{P Q:Prop}(q:Q)(h:Q->P:=by show _->aC _ 50 ..;exactλq_=>aJ (f:=50) Tryz.call50 _ (λρ w' hw=>hat w' (ae hw λR h=>oF hsv (by omega) h.1.2)) q_):P:=h q
theorem akN{P Q:Prop}(q:Q)(h:Q->P:=by show _->ku _ 52 ..;exactλq_=>iL (f:=52) Tryz.call52 (.int .i64 (foldI min x.xs)) (λρ w' hw=>Pk w' x (ae hw λR h=>abU.later h.1.1) (by omega)) q_):P:=h q
theorem akO{P Q:Prop}(q:Q)(h:Q->P:=by show _->ku _ 53 ..;exactλq_=>iL (f:=53) Tryz.call53 (.int .i64 (foldI max x.xs)) (λρ w' hw=>Pm w' x (ae hw λR h=>abU.later h.1.1) (by omega)) q_):P:=h q
theorem akP{P Q:Prop}(q:Q)(h:Q->P:=by show _->fu ..;first|exactλq_=>pX (λR w' h=>by simp only[fQ];exact(hd.later h).c0) q_|exactλq_=>pX (λR w' h=>by simp only[fQ];exact(hd.later h).c2) q_):P:=h q
theorem afR{P Q:Prop}(q:Q)(h:Q->P:=by show _->I4 ..;exactλq_=>Ru (by repeat(first|exact List.mem_cons_self|apply List.mem_cons_of_mem)) hs q_):P:=h q
theorem aiS{P Q:Prop}(q:Q)(h:Q->P:=by show _->tN ..;exactλq_=>afS (by repeat(first|exact List.mem_cons_self|apply List.mem_cons_of_mem)) q_):P:=h q
theorem aiT{P Q:Prop}(q:Q)(h:Q->P:=by show _->fu ..;exactλq_=>pX (λR w' h=>by simp only[fQ];exact(hd.rest hm h).c0) q_):P:=h q
theorem aiU{P Q:Prop}(q:Q)(h:Q->P:=by show _->iM ..;exactλq_=>dO (λR w' h=>by rw[<-hna];exact I5 hm hd.nodes h) _ hrow rfl q_):P:=h q
theorem akQ{P Q:Prop}(q:Q)(h:Q->P:=by show _->fu ..;first|exactλq_=>pX (λR w' h=>by simp only[fQ];exact(hd.later h).c0) q_|exactλq_=>pX (λR w' h=>by simp only[fQ];exact(hd.later h).c2) q_):P:=h q
theorem akR{P Q:Prop}(q:Q)(h:Q->P:=by show _->aC _ 109 [_,ak n.a] ..;exactλq_=>aJ (f:=109) Tryz.call109 (.bool true) (λρ w' hw=>pY (ae hw λR h=>hd.later h) ha0 Hz hkA) q_):P:=h q
theorem akS{P Q:Prop}(q:Q)(h:Q->P:=by show _->fu ..;first|exactλq_=>pX (λR w' h=>by simp only[fQ];exact(hd.later h).c0) q_|exactλq_=>pX (λR w' h=>by simp only[fQ];exact(hd.later h).c2) q_):P:=h q
theorem akT{P Q:Prop}(q:Q)(h:Q->P:=by show _->fu ..;exactλq_=>aW (λR w' h=>by rw[<-hsa];exact aO (by first|exact h.2.1|exact h.1.2.1)) _ _ (dh hs1) rfl q_):P:=h q
theorem akU{P Q:Prop}(q:Q)(h:Q->P:=by show _->fu ..;exactλq_=>aW (λR w' h=>by rw[<-hra];exact au h hr.rows) _ _ (dh hlt) rfl q_):P:=h q
theorem afT{P Q:Prop}(q:Q)(h:Q->P:=by show _->bC ..;first|exactλq_=>ax a 0 rfl rfl (by decide) q_|exactλq_=>ax a 1 rfl rfl (by decide) q_):P:=h q
theorem afU{P Q:Prop}(q:Q)(h:Q->P:=by show _->fu ..;first|exactλq_=>aW (λR w' h=>au h hr) _ _ (j:=0) rfl rfl q_|exactλq_=>aW (λR w' h=>au h hr) _ _ (j:=1) rfl rfl q_):P:=h q
theorem aiV{P Q:Prop}(q:Q)(h:Q->P:=by show _->fG ..;exactλq_=>b_ (by simp only[List.length_take,List.length_append,aF,List.length_nil];omega) q_):P:=h q
theorem aiW{P Q:Prop}(q:Q)(h:Q->P:=by show _->sH ..;exactλq_=>fO (by simp only[List.length_take,List.length_append,aF,List.length_nil];omega) q_):P:=h q
theorem akV{P Q:Prop}(q:Q)(h:Q->P:=by show _->bC ..;first|exactλq_=>ax fa i hfa rfl Eu q_|exactλq_=>ax ra o hra rfl CZ q_|exactλq_=>ax wa i hwa rfl (by omega) q_):P:=h q
theorem aiY{P Q:Prop}(q:Q)(h:Q->P:=by show _->fu ..;first|exactλq_=>XV aiZ (j:=i) Eu hfi q_|exactλq_=>aW (λR w' h=>by rw[<-hra];exact au h hr.rows) _ _ (dh CZ) rfl q_|exactλq_=>XV hwr (j:=i) (by omega) ZH q_):P:=h q
theorem akW{P Q:Prop}(q:Q)(h:Q->P:=by show _->tN ..;exactλq_=>ai0 (by repeat(first|exact List.mem_cons_self|apply List.mem_cons_of_mem)) q_):P:=h q
theorem abV{P Q:Prop}(q:Q)(h:Q->P:=by show _->bC ..;exactλq_=>ax da k hda rfl hlt2 q_):P:=h q
theorem abW{P Q:Prop}(q:Q)(h:Q->P:=by show _->fu ..;exactλq_=>aW (λR w' h=>by rw[<-hda];exact hcr _ _ h.1.2) _ _ hrow rfl q_):P:=h q
theorem afV{P Q:Prop}(q:Q)(h:Q->P:=by show _->l_ ..;exactλq_=>C8 (ti 32 rfl) rfl (b:=false) (by rw[jr];rfl) q_):P:=h q
theorem afW{P Q:Prop}(q:Q)(h:Q->P:=by show _->I4 ..;exactλq_=>ai1 (by repeat(first|exact List.mem_cons_self|apply List.mem_cons_of_mem)) ht q_):P:=h q
theorem akX{P Q:Prop}(q:Q)(h:Q->P:=by show _->tN ..;exactλq_=>akY (by repeat(first|exact List.mem_cons_self|apply List.mem_cons_of_mem)) q_):P:=h q
theorem afX{P Q:Prop}(q:Q)(h:Q->P:=by show _->nU ..;first|exactλq_=>I6 (u:=u) (l:=c.slots-base) (h:=c.slots) (by show _=((c.slots-base:Nat):Int);omega) hxl.symm (by omega) (by omega) fP.room q_|exactλq_=>I6 (u:=u) (l:=0) (h:=c.slots-base) rfl (by show _=((c.slots-base:Nat):Int);omega) (by omega) (by omega) fP.room q_):P:=h q
theorem akZ{P Q:Prop}(q:Q)(h:Q->P:=by show _->aC _ 129 ..;exactλq_=>FQ rfl (cutV u (c.slots-base) c.slots) (cutV u 0 (c.slots-base)) (dU w F) (λR w' h b hb=>((h.1).2 b hb).1) (λR w' h=>Av (aO ((h.1).1.2.2 u wN)) fP.room) (λR w' h=>Av (aO ((h.1).1.2.2 u wN)) fP.room) (Aw fP) (Aw fP) (by rw[kH (by omega),kH (by omega)];omega) (by rw[kH (by omega),kH (by omega)];omega) q_):P:=h q
theorem G7{P Q:Prop}(q:Q)(h:Q->P:=by show _->aC _ 73 ..;exactλq_=>o5 fA Tryz.func73 rfl rfl rfl Tryz.call73 rfl (by show 2<=_;decide) q_):P:=h q
theorem G8{P Q:Prop}(q:Q)(h:Q->P:=by show _->cO _ 1 ..;exactλq_=>mE [9,10] _ abX q_):P:=h q
theorem G9{P Q:Prop}(q:Q)(h:Q->P:=by show _->I7 ..;exactλq_=>C9 q_):P:=h q
theorem ak0{P Q:Prop}(q:Q)(h:Q->P:=by show _->aC _ 129 ..;exactλq_=>FQ rfl (cutV u (c.slots-base) c.slots) (cutV u 0 (c.slots-base)) (dU w F) (λR w' h b hb=>((h).2 b hb).1) (λR w' h=>Av (aO ((h).1.2.2 u wN)) fP.room) (λR w' h=>Av (aO ((h).1.2.2 u wN)) fP.room) (Aw fP) (Aw fP) (by rw[kH (by omega),kH (by omega)];omega) (by rw[kH (by omega),kH (by omega)];omega) q_):P:=h q
theorem abY{P Q:Prop}(q:Q)(h:Q->P:=by show _-> @dR _ _ _;exactλq_=>cK (by omega) q_):P:=h q
theorem Mi{P Q:Prop}(q:Q)(h:Q->P:=by show _->bC ..;first|exactλq_=>ax _ 1 hut rfl (by omega) q_|exactλq_=>ax _ 2 hut rfl (by omega) q_|exactλq_=>ax _ 0 fP rfl (by omega) q_|exactλq_=>ax _ 1 fP rfl (by omega) q_|exactλq_=>ax _ 2 fP rfl (by omega) q_|exactλq_=>ax _ 3 fP rfl (by omega) q_):P:=h q
theorem Mj{P Q:Prop}(q:Q)(h:Q->P:=by show _->fu ..;first|exactλq_=>ja (λR w' h=>hur R w' h.1) (j:=1) (by omega) g1 q_|exactλq_=>ja (λR w' h=>hur R w' h.1) (j:=2) (by omega) g2 q_|exactλq_=>ja (λR w' h=>Pj R w' h.1) (j:=0) (by omega) s0 q_|exactλq_=>ja (λR w' h=>Pj R w' h.1) (j:=1) (by omega) s1 q_|exactλq_=>ja (λR w' h=>Pj R w' h.1) (j:=2) (by omega) s2 q_|exactλq_=>ja (λR w' h=>Pj R w' h.1) (j:=3) (by omega) s3 q_):P:=h q
theorem ag2{P Q:Prop}(q:Q)(h:Q->P:=by show _->cO _ 22 ..;exactλq_=>mE [13] _ ak1 q_ (h6:=List.Sublist.cons_cons _ (List.Sublist.cons_cons _ (List.Sublist.cons _ (List.Sublist.refl _))))):P:=h q
theorem M0{P Q:Prop}(q:Q)(h:Q->P:=by show _->iK ..;first|exactλq_=>gm (List.Sublist.cons _ (List.Sublist.cons_cons _ (List.Sublist.cons_cons _ (List.Sublist.cons _ (List.Sublist.refl _))))) (λ_ _ h=>h) q_|exactλq_=>gm (List.Sublist.cons_cons _ (List.Sublist.cons_cons _ (List.Sublist.cons _ (List.Sublist.refl _)))) (λ_ _ h=>h) q_):P:=h q
theorem ag3{P Q:Prop}(q:Q)(h:Q->P:=by show _->aC _ 124 ..;exactλq_=>aJ (f:=124) Tryz.call124 (.int .i64 (vC n t.xs o i)) (λρ w' hw=>hww w' (ae hw λR h=>hn.later h) (ae hw λR h=>ht.later h)) q_):P:=h q
theorem XW{P Q:Prop}(q:Q)(h:Q->P:=by show _->bV ..;exactλq_=>aT o rfl hoc (Nat.le_of_eq (hdl.trans hM.len).symm) q_):P:=h q
theorem abZ{P Q:Prop}(q:Q)(h:Q->P:=by show _->sH ..;exactλq_=>fO (Nat.le_of_eq (by rw[aF,dG])) q_):P:=h q
theorem ab0{P Q:Prop}(q:Q)(h:Q->P:=by show _->fG ..;exactλq_=>b_ (by show(k+1)*8<=140737488355328;omega) q_):P:=h q
theorem ab1{P Q:Prop}(q:Q)(h:Q->P:=by show _->bV ..;exactλq_=>aT (n-1) (by omega) (by omega) (Nat.le_of_eq (by rw[aF,dG])) q_):P:=h q
theorem ag4{P Q:Prop}(q:Q)(h:Q->P:=by show _->iw ..;first|exactλq_=>jc ((cc*n:Nat):Int) (Int.natCast_mul cc n).symm (by omega) (by omega) q_|exactλq_=>jc (gL n n k) hpl (by omega) (by omega) q_|exactλq_=>wrap_i64 (by omega) (by omega) q_):P:=h q
theorem ag5{P Q:Prop}(q:Q)(h:Q->P:=by show _->qQ ..;exactλq_=>HV (q:=((m/s:Nat):Int)) (Int.natCast_ediv m s).symm (by omega) (by omega) (by omega) q_):P:=h q
theorem ag6{P Q:Prop}(q:Q)(h:Q->P:=by show _->iw ..;first|exactλq_=>jc ((m/s*p:Nat):Int) hq1 (by omega) (by omega) q_|exactλq_=>jc (gL s p m) hpn.symm (by omega) (by omega) q_|exactλq_=>wrap_i64 (by omega) (by omega) q_):P:=h q
theorem ab2{P Q:Prop}(q:Q)(h:Q->P:=by show _->sH ..;exactλq_=>fO (Nat.le_of_eq (by rw[aF,dG])) q_):P:=h q
theorem ab3{P Q:Prop}(q:Q)(h:Q->P:=by show _->fG ..;exactλq_=>b_ (by show(m+1)*8<=140737488355328;omega) q_):P:=h q
theorem XX{P Q:Prop}(q:Q)(h:Q->P:=by show _->qQ ..;exactλq_=>HV (q:=((m/n:Nat):Int)) (Int.natCast_ediv m n).symm (by omega) (by omega) (by omega) q_):P:=h q
theorem XY{P Q:Prop}(q:Q)(h:Q->P:=by show _->ww ..;exactλq_=>Pn (q:=((m%n:Nat):Int)) (by omega) (by omega) (Int.natCast_emod m n).symm q_):P:=h q
theorem XZ{P Q:Prop}(q:Q)(h:Q->P:=by show _->iw ..;first|exactλq_=>jc ((m/n*n:Nat):Int) hq1 (by omega) (by omega) q_|exactλq_=>jc (gL n n m) hpn.symm (by omega) (by omega) q_|exactλq_=>wrap_i64 (by omega) (by omega) q_):P:=h q
theorem ag7{P Q:Prop}(q:Q)(h:Q->P:=by show _->aC _ 25 ..;exactλq_=>B_ (fT u.xs o.layout m) Tryz.call25 (λρ w' hw=>M3 w' u (ae hw λR h=>aO (h.1.2.2 u wN)) o.layout m) q_):P:=h q
theorem ag8{P Q:Prop}(q:Q)(h:Q->P:=by show _->fu ..;exactλq_=>aW (λR w' h=>by rw[<-hra];exact au h hr.rows) _ _ (dh hlt) rfl q_):P:=h q
theorem Rv{P Q:Prop}(q:Q)(h:Q->P:=by show _->bC ..;first|exactλq_=>ax fa i hfa rfl Eu q_|exactλq_=>ax ra o hra rfl CZ q_|exactλq_=>ax wa i hwa rfl (by omega) q_):P:=h q
theorem Rw{P Q:Prop}(q:Q)(h:Q->P:=by show _->fu ..;first|exactλq_=>XV aiZ (j:=i) Eu hfi q_|exactλq_=>aW (λR w' h=>by rw[<-hra];exact au h.1 hr.rows) _ _ (dh CZ) rfl q_|exactλq_=>XV hwr (j:=i) (by omega) ZH q_):P:=h q
theorem Rx{P Q:Prop}(q:Q)(h:Q->P:=by show _->ww ..;exactλq_=>rO (by omega) (by omega) q_):P:=h q
theorem X0{P Q:Prop}(q:Q)(h:Q->P:=by show _->bV ..;exactλq_=>aT sn hsn ak2 (Nat.le_of_eq (by rw[aF];exact hl1.symm)) q_):P:=h q
theorem X3{P Q:Prop}(q:Q)(h:Q->P:=by show _->bS ..;exactλq_=>Ry (Nat.lt_of_lt_of_eq ak2 hl1.symm) q_):P:=h q
theorem Bw{P Q:Prop}(q:Q)(h:Q->P:=by show _->iw ..;first|exactλq_=>jc (base:Int) hjg (by omega) (by omega) q_|exactλq_=>ak3 q_):P:=h q
theorem ab4{P Q:Prop}(q:Q)(h:Q->P:=by show _->fu ..;exactλq_=>aW (λR w' h=>by rw[<-hda];exact aO h.1.2.1) _ _ hrow rfl q_):P:=h q
theorem X4{P Q:Prop}(q:Q)(h:Q->P:=by show _->iK ..;first|exactλq_=>og q_|exactλq_=>og q_ (List.Sublist.cons_cons _ (List.nil_sublist _)) (λ_ _ h=>h.1.1.1)|exactλq_=>og q_ (List.Sublist.cons_cons _ (List.Sublist.cons_cons _ (List.nil_sublist _))) (λ_ _ h=>h.1.1.1)):P:=h q
theorem X5{P Q:Prop}(q:Q)(h:Q->P:=by show _->bC ..;exactλq_=>ax sa i hsa rfl VJ q_):P:=h q
theorem X6{P Q:Prop}(q:Q)(h:Q->P:=by show _->fu ..;exactλq_=>aW (λR w' h=>by rw[<-hsa];first|exact aO h.1.1.1.2.1|exact aO h.1.1.1.1.2.1) _ _ hrow rfl q_):P:=h q
theorem ag9{P Q:Prop}(q:Q)(h:Q->P:=by show _->aC _ 83 ..;exactλq_=>dK [(5,.box (cs n.cells) 41),(1,.rows (ints vl) 1 3)] 0 2 3 4 c s (((dP s.ay).and (tC n.data)).and (bn sp)) [.lp 0 0 0 0,.c n.data.val,.c sp.val] _ _ _ _ Tryz.call83 rfl rfl rfl (λR w' h=>⟨⟨h.1.1.1.1,h.1.1.2.2.1⟩,h.1.1.1.2.2 sp (List.mem_of_getElem? hi)⟩) (dU w F) (λR w' h b hb=>(h.2 b hb).1) (λw' ρ' F' h'=>I8 c s n.data sp hds hd0 hN.slots.2 hN.ok.ay (by omega) zb hb w' ρ' F' h') q_):P:=h q
theorem ab5{P Q:Prop}(q:Q)(h:Q->P:=by show _->bV ..;exactλq_=>aT n.a.toNat (by omega) ha (by rw[aF];exact Nat.le_refl _) q_):P:=h q
theorem ag_{P Q:Prop}(q:Q)(h:Q->P:=by show _->aC _ 35 ..;exactλq_=>B_ (fT u.xs o.layout m) Tryz.call35 (λρ w' hw=>Po w' u (ae hw λR h=>aO (h.1.2.2 u wN)) o.layout m) q_):P:=h q
theorem X7{P Q:Prop}(q:Q)(h:Q->P:=by show _->aC _ 54 ..;exactλq_=>aJ (f:=54) Tryz.call54 (dw st n).jS (λρ w' hw=>by obtain⟨b,e,hd⟩:=zk hw (by repeat(first|exact List.mem_cons_self|apply List.mem_cons_of_mem)) (by repeat(first|exact List.mem_cons_self|apply List.mem_cons_of_mem)) (by repeat(first|exact List.mem_cons_self|apply List.mem_cons_of_mem));exact Ay e (M4 hd n VK (by omega))) q_):P:=h q
theorem aha{P Q:Prop}(q:Q)(h:Q->P:=by show _->aC _ 55 ..;exactλq_=>ZI (gD (check g).2 i) (kI (gD (check g).2 i) (kept.map ai.pl) (dw st n).pl) Tryz.call55 (λρ w' hw=>by obtain⟨b,e,hd⟩:=zk hw (by repeat(first|exact List.mem_cons_self|apply List.mem_cons_of_mem)) (by repeat(first|exact List.mem_cons_self|apply List.mem_cons_of_mem)) (by repeat(first|exact List.mem_cons_self|apply List.mem_cons_of_mem));exact Ay e (Ca w' b _ _ _ _ hd (ae hw λR h=>C_ hko h.2) (ae hw λR h=>hno.later h.1))) q_):P:=h q
theorem ahb{P Q:Prop}(q:Q)(h:Q->P:=by show _->aC _ 55 ..;exactλq_=>aJ (f:=55) Tryz.call55 (dw st n).jS (λρ w' hw=>by obtain⟨b,e,hd⟩:=zk hw (by repeat(first|exact List.mem_cons_self|apply List.mem_cons_of_mem)) (by repeat(first|exact List.mem_cons_self|apply List.mem_cons_of_mem)) (by repeat(first|exact List.mem_cons_self|apply List.mem_cons_of_mem));exact Ay e (ZJ hd (dw st n) ai2 (by simpa using hk))) q_):P:=h q
theorem ab6{P Q:Prop}(q:Q)(h:Q->P:=by show _->I4 ..;exactλq_=>Ru (by repeat(first|exact List.mem_cons_self|apply List.mem_cons_of_mem)) hsb q_):P:=h q
theorem ab7{P Q:Prop}(q:Q)(h:Q->P:=by show _->bV ..;first|exactλq_=>aT j rfl hlt (Nat.le_of_eq (dB kept).symm) q_|exactλq_=>aT j rfl hlt (Nat.le_of_eq hgl.symm) q_):P:=h q
theorem ab8{P Q:Prop}(q:Q)(h:Q->P:=by show _->cO _ 24 ..;exactλq_=>mE [14] _ ak4 q_ (h6:=List.Sublist.cons_cons _ (List.Sublist.cons _ (List.Sublist.refl _)))):P:=h q
theorem ab9{P Q:Prop}(q:Q)(h:Q->P:=by show _->aC _ 54 ..;exactλq_=>aJ (f:=54) Tryz.call54 (dw (dZ kept.length (p++[acc.length])) x).jS (λρ w' hw=>by obtain⟨b,e,hd⟩:=ZK (st:=dZ kept.length (p++[acc.length])) hw hq (by repeat(first|exact List.mem_cons_self|apply List.mem_cons_of_mem)) (by repeat(first|exact List.mem_cons_self|apply List.mem_cons_of_mem)) (by repeat(first|exact List.mem_cons_self|apply List.mem_cons_of_mem));exact Ay e (M4 hd x hxq (by omega))) q_):P:=h q
theorem ab_{P Q:Prop}(q:Q)(h:Q->P:=by show _->jd _ ((_,.rows (List.take acc.length _++_) _ _)::_) _ _ _;exactλq_=>iG (ys:=bq (acc++[dw (dZ kept.length (p++[acc.length])) x])) (m:=(acc++[dw (dZ kept.length (p++[acc.length])) x]).length) q_ (lT acc (dw (dZ kept.length (p++[acc.length])) x)) (by show acc.length+1=_;rw[List.length_append];rfl)):P:=h q
theorem acd{P Q:Prop}(q:Q)(h:Q->P:=by show _->sH ..;exactλq_=>fO (by rw[dB];exact Nat.le_refl _) q_):P:=h q
theorem ace{P Q:Prop}(q:Q)(h:Q->P:=by show _->fG ..;exactλq_=>b_ (by show(acc.length+1)*120<=140737488355328;omega) q_):P:=h q
theorem acf{P Q:Prop}(q:Q)(h:Q->P:=by show _->iK ..;first|exactλq_=>gm (List.Sublist.cons _ (List.Sublist.cons _ (List.Sublist.refl _))) (λ_ _ h=>h) q_|exactλq_=>gm (List.Sublist.cons_cons _ (List.Sublist.cons _ (List.Sublist.refl _))) (λ_ _ h=>h) q_|exactλq_=>gm (List.Sublist.cons _ (List.Sublist.cons_cons _ (List.Sublist.cons _ (List.Sublist.refl _)))) (λ_ _ h=>h) q_):P:=h q
theorem acg{P Q:Prop}(q:Q)(h:Q->P:=by show _->kC ..;exactλq_=>row_of _ _ (Ev (by omega) hb) rfl q_):P:=h q
theorem M5{P Q:Prop}(q:Q)(h:Q->P:=by show _->iM ..;exactλq_=>dO (λR w' h=>by rw[<-hra];exact au h hr) _ hrow rfl q_):P:=h q
theorem Rz{P Q:Prop}(q:Q)(h:Q->P:=by show _->bC ..;exactλq_=>ax ra j hra rfl hlt q_):P:=h q
theorem RA{P Q:Prop}(q:Q)(h:Q->P:=by show _->bV ..;first|exactλq_=>aT j rfl hlt (Nat.le_of_eq hbl.symm) q_|exactλq_=>aT j rfl hlt (Nat.le_of_eq hgl.symm) q_|exactλq_=>aT x.a.toNat (by omega) (by omega) (Nat.le_of_eq hgl.symm) q_|exactλq_=>aT x.b.toNat (by omega) (by omega) (Nat.le_of_eq hgl.symm) q_):P:=h q
theorem X8{P Q:Prop}(q:Q)(h:Q->P:=by show _->kC ..;first|exactλq_=>row_of _ _ (Ev (by omega) hb) rfl q_|exactλq_=>row_of _ _ (p8 (k:=x.a.toNat) (by omega)) rfl q_|exactλq_=>row_of _ _ (p8 (k:=x.b.toNat) (by omega)) rfl q_):P:=h q
theorem X9{P Q:Prop}(q:Q)(h:Q->P:=by show _->bS ..;exactλq_=>vJ hpl hlt q_):P:=h q
theorem ahc{P Q:Prop}(q:Q)(h:Q->P:=by show _->aC _ 75 ..;exactλq_=>o6 x 0 rfl ht Tryz.call75 (λρ w' hw=>qR w' x hxs.p9 hxs.nQ) q_):P:=h q
theorem ahd{P Q:Prop}(q:Q)(h:Q->P:=by show _->jd _ ((_,.rows (List.take acc.length _++_) _ _)::_) _ _ _;exactλq_=>iG (ys:=bq (acc++[x])) (m:=(acc++[x]).length) q_ (lT acc (x)) (by show acc.length+1=_;rw[List.length_append];rfl)):P:=h q
theorem X_{P Q:Prop}(q:Q)(h:Q->P:=by show _->sH ..;exactλq_=>fO (by rw[dB];exact Nat.le_refl _) q_):P:=h q
theorem Ya{P Q:Prop}(q:Q)(h:Q->P:=by show _->fG ..;exactλq_=>b_ (by show(acc.length+1)*120<=140737488355328;omega) q_):P:=h q
theorem ach{P Q:Prop}(q:Q)(h:Q->P:=by show _->aC _ 90 ..;exactλq_=>aJ (f:=90) Tryz.call90 (.bool false) (λρ w' hw=>Bz w') q_):P:=h q
theorem ahe{P Q:Prop}(q:Q)(h:Q->P:=by show _->bC ..;first|exactλq_=>ax a2 n.a.toNat ha2 hna hlt q_|exactλq_=>ax ua 0 jr rfl (by omega) q_|exactλq_=>ax ua 1 jr rfl (by omega) q_|exactλq_=>ax ua 2 jr rfl (by omega) q_):P:=h q
theorem ahf{P Q:Prop}(q:Q)(h:Q->P:=by show _->fu ..;first|exactλq_=>ja hur (j:=0) (by omega) hd0 q_|exactλq_=>ja hur (j:=1) (by omega) hd1 q_|exactλq_=>ja hur (j:=2) (by omega) hd2 q_):P:=h q
theorem ahg{P Q:Prop}(q:Q)(h:Q->P:=by show _->aC _ 92 [ak d0,ak d1,ak d2,ak a.1] ..;exactλq_=>aJ (f:=92) Tryz.call92 (.int .i64 (eX n.data.xs a.1)) (λρ w' hw=>hpc a.1 w' p1) q_):P:=h q
theorem ahh{P Q:Prop}(q:Q)(h:Q->P:=by show _->aC _ 92 [ak d0,ak d1,ak d2,ak a.2] ..;exactλq_=>aJ (f:=92) Tryz.call92 (.int .i64 (eX n.data.xs a.2)) (λρ w' hw=>hpc a.2 w' p2) q_):P:=h q
theorem Yb{P Q:Prop}(q:Q)(h:Q->P:=by show _->sH ..;exactλq_=>fO (by rw[aF,hlen];exact Nat.le_refl _) q_):P:=h q
theorem Yc{P Q:Prop}(q:Q)(h:Q->P:=by show _->fG ..;exactλq_=>b_ (by show(i+1)*8<=140737488355328;omega) q_):P:=h q
theorem ahi{P Q:Prop}(q:Q)(h:Q->P:=by show _->aC _ 44 ..;exactλq_=>aJ (f:=44) Tryz.call44 (jv (je E)) (λρ w' hw=>ak5 w' (ae hw λR h=>oF hsv (by omega) h.2) (ae hw λR h=>hn.later h.1) (ρ 1).base (ρ 1).cap (ed hw (by repeat(first|exact List.mem_cons_self|apply List.mem_cons_of_mem)))) q_):P:=h q
theorem M6{P Q:Prop}(q:Q)(h:Q->P:=by show _->bC ..;exactλq_=>ax a i ha rfl hlt q_):P:=h q
theorem M7{P Q:Prop}(q:Q)(h:Q->P:=by show _->iM ..;exactλq_=>dO (λR w' h=>by rw[<-ha];exact au h.1.1 hg.rows) _ hrow rfl q_):P:=h q
theorem ahj{P Q:Prop}(q:Q)(h:Q->P:=by show _->aC _ 75 ..;exactλq_=>o6 n 0 rfl ht Tryz.call75 (λρ w' hw=>qR w' n hno.p9 hno.nQ) q_):P:=h q
theorem M8{P Q:Prop}(q:Q)(h:Q->P:=by show _->bV ..;exactλq_=>aT j rfl hjl (Nat.le_of_eq (dB row).symm) q_):P:=h q
theorem FR{P Q:Prop}(q:Q)(h:Q->P:=by show _->rP ..;exactλq_=>o7 _ _ FT rfl rfl q_):P:=h q
theorem FU{P Q:Prop}(q:Q)(h:Q->P:=by show _->bC ..;exactλq_=>ax sa i hsa rfl aci q_):P:=h q
theorem M9{P Q:Prop}(q:Q)(h:Q->P:=by show _->fu ..;exactλq_=>aW (λR w' h=>by rw[<-hsa];exact aO h.1.1.2.1) _ _ acj rfl q_):P:=h q
theorem M_{P Q:Prop}(q:Q)(h:Q->P:=by show _->sH ..;first|exactλq_=>fO (by rw[dB];exact Nat.le_refl _) q_|exactλq_=>fO (by rw[aR];exact Nat.le_refl _) q_|exactλq_=>fO (by rw[mO];exact Nat.le_refl _) q_):P:=h q
theorem Na{P Q:Prop}(q:Q)(h:Q->P:=by show _->fG ..;first|exactλq_=>b_ (by show(row.length+1)*120<=140737488355328;omega) q_|exactλq_=>b_ (by show(nE.length+1)*24<=140737488355328;omega) q_|exactλq_=>b_ (by show(st.length+1)*8<=140737488355328;omega) q_):P:=h q
theorem Nb{P Q:Prop}(q:Q)(h:Q->P:=by show _->jd _ ((_,.rows (List.take nE.length _++_) _ _)::_) _ _ _;exactλq_=>iG (ys:=aM (nE++[u])) (m:=(nE++[u]).length) q_ (RB nE u) (by show nE.length+1=_;rw[List.length_append];rfl)):P:=h q
theorem Nc{P Q:Prop}(q:Q)(h:Q->P:=by show _->jd _ ((_,.rows (List.take st.length _++_) _ _)::_) _ _ _;first|exactλq_=>iG (ys:=ints (p_ (st++[row.length]))) (m:=(st++[row.length]).length) q_ (Da st row.length) (by show st.length+1=_;rw[List.length_append];rfl)|exactλq_=>iG (ys:=ints (p_ (st++[q]))) (m:=(st++[q]).length) q_ (Da st q) (by show st.length+1=_;rw[List.length_append];rfl)):P:=h q
theorem Nf{P Q:Prop}(q:Q)(h:Q->P:=by show _->aC _ 75 ..;exactλq_=>o6 n 2 rfl ht Tryz.call75 (λρ w' hw=>qR w' n hno.p9 hno.nQ) q_):P:=h q
theorem RD{P Q:Prop}(q:Q)(h:Q->P:=by show _->ltK ..;exactλq_=>FP (by first|omega|(rw[dB];omega)) q_):P:=h q
theorem ack{P Q:Prop}(q:Q)(h:Q->P:=by show _->bC ..;first|exactλq_=>ax ua 0 jr rfl (by omega) q_|exactλq_=>ax ua 1 jr rfl (by omega) q_):P:=h q
theorem acm{P Q:Prop}(q:Q)(h:Q->P:=by show _->fu ..;first|exactλq_=>aW (λR w' h=>by rw[<-jr];exact aO ((bn u1).mono h.2 (λb hb=>hb.1))) _ _ hu0 rfl q_|exactλq_=>aW (λR w' h=>by rw[<-jr];exact aO ((bn u1).mono h.2 (λb hb=>hb.1))) _ _ ai3 rfl q_):P:=h q
theorem acn{P Q:Prop}(q:Q)(h:Q->P:=by show _->bV ..;first|exactλq_=>aT n.a.toNat (by omega) haL (Nat.le_of_eq (mO st).symm) q_|exactλq_=>aT (st.getD n.a.toNat 0) rfl afY (Nat.le_of_eq (dB row).symm) q_|exactλq_=>aT n.b.toNat (by omega) hbL (Nat.le_of_eq (mO st).symm) q_|exactλq_=>aT (st.getD n.b.toNat 0) rfl ai4 (Nat.le_of_eq (dB row).symm) q_):P:=h q
theorem aco{P Q:Prop}(q:Q)(h:Q->P:=by show _->kC ..;first|exactλq_=>row_of _ _ ai5 rfl q_|exactλq_=>row_of _ _ vK rfl q_|exactλq_=>row_of _ _ am9 rfl q_|exactλq_=>row_of _ _ I9 rfl q_):P:=h q
theorem RF{P Q:Prop}(q:Q)(h:Q->P:=by show _->kv ..;exactλq_=>g_ row.length rfl rfl (by show 24*row.length<=_;omega) (by omega) q_):P:=h q
theorem RG{P Q:Prop}(q:Q)(h:Q->P:=by show _->jd _ ((_,.rows (List.replicate _ [.slice none 0 0]) _ _)::_) _ _ _;exactλq_=>iG (ys:=aM (nR row.length [])) (m:=row.length) q_ (by simp[nR,aM,fI,aj.val]) rfl):P:=h q
theorem ahk{P Q:Prop}(q:Q)(h:Q->P:=by show _->bV ..;first|exactλq_=>aT j rfl hjl (Nat.le_of_eq (dB row).symm) q_|exactλq_=>aT j rfl hjl (by rw[aR,tO (by omega)];exact Nat.le_refl _) q_):P:=h q
theorem ahl{P Q:Prop}(q:Q)(h:Q->P:=by show _->iK ..;first|exactλq_=>gm (List.nil_sublist _) (λ_ _ h=>h) q_|exactλq_=>gm (List.nil_sublist _) (λ_ _ h=>h.1) q_):P:=h q
theorem ahm{P Q:Prop}(q:Q)(h:Q->P:=by show _->jd _ ((_,.rows (List.take row.length _++_) _ _)::_) _ _ _;exactλq_=>iG (ys:=bq (row++[(fU u x.1)])) (m:=(row++[(fU u x.1)]).length) q_ (lT row (fU u x.1)) (by show row.length+1=_;rw[List.length_append];rfl)):P:=h q
theorem ahn{P Q:Prop}(q:Q)(h:Q->P:=by show _->jd _ ((_,.rows (List.take row.length _++_) _ _)::_) _ _ _;exactλq_=>iG (ys:=bq (row++[(jI n (st.getD n.a.toNat 0) (st.getD n.b.toNat 0))])) (m:=(row++[(jI n (st.getD n.a.toNat 0) (st.getD n.b.toNat 0))]).length) q_ (lT row (jI n (st.getD n.a.toNat 0) (st.getD n.b.toNat 0))) (by show row.length+1=_;rw[List.length_append];rfl)):P:=h q
theorem Yd{P Q:Prop}(q:Q)(h:Q->P:=by show _->aC _ 75 ..;exactλq_=>o6 n 1 rfl ht Tryz.call75 (λρ w' hw=>qR w' n hno.p9 hno.nQ) q_):P:=h q
theorem aho{P Q:Prop}(q:Q)(h:Q->P:=by show _->fu ..;exactλq_=>aW (λR w' h=>by rw[<-jr];exact aO ((bn u1).mono h.2 (λb hb=>hb.1))) _ _ hu0 rfl q_):P:=h q
theorem ahp{P Q:Prop}(q:Q)(h:Q->P:=by show _->bV ..;first|exactλq_=>aT n.a.toNat (by omega) haL (Nat.le_of_eq (mO st).symm) q_|exactλq_=>aT (st.getD n.a.toNat 0) rfl afY (Nat.le_of_eq (dB row).symm) q_):P:=h q
theorem acp{P Q:Prop}(q:Q)(h:Q->P:=by show _-> @dR _ _ _;first|exactλq_=>cK (show¬(p:Int)<=2048 by omega) q_|exactλq_=>cK (by omega) q_|exactλq_=>bA (by omega) q_):P:=h q
theorem ahq{P Q:Prop}(q:Q)(h:Q->P:=by show _->iM ..;first|exactλq_=>dO hur _ (FV hlt) rfl q_|exactλq_=>dO Ye _ (FV hlt2) rfl q_):P:=h q
theorem ahr{P Q:Prop}(q:Q)(h:Q->P:=by show _->aC _ 25 ..;exactλq_=>B_ (fT u.xs o.layout m) Tryz.call25 (λρ w' hw=>M3 w' u (ae hw λR h=>aO (h.1.2.2 u wN)) o.layout m) q_):P:=h q
theorem ahs{P Q:Prop}(q:Q)(h:Q->P:=by show _->fu ..;exactλq_=>j6 (λR w' h=>by rw[<-hda];exact fK h.1.2.2.1) (j:=0) (by omega) hv q_):P:=h q
theorem Yf{P Q:Prop}(q:Q)(h:Q->P:=by show _->aC _ 72 ..;exactλq_=>o5 fA Tryz.func72 rfl rfl rfl Tryz.call72 rfl (by show 1<=_;decide) q_):P:=h q
theorem I_{P Q:Prop}(q:Q)(h:Q->P:=by show _->I7 ..;exactλq_=>C9 q_):P:=h q
theorem RH{P Q:Prop}(q:Q)(h:Q->P:=by show _->bC ..;exactλq_=>ax da 1 hda rfl (by omega) q_):P:=h q
theorem RI{P Q:Prop}(q:Q)(h:Q->P:=by show _->fu ..;exactλq_=>j6 (λR w' h=>by rw[<-hda];exact fK h.1.2.2.1) (j:=1) (by omega) hb q_):P:=h q
theorem Ng{P Q:Prop}(q:Q)(h:Q->P:=by show _->aC _ 73 ..;exactλq_=>o5 fA Tryz.func73 rfl rfl rfl Tryz.call73 rfl (by show 2<=_;decide) q_):P:=h q
theorem acr{P Q:Prop}(q:Q)(h:Q->P:=by show _->fu ..;exactλq_=>j6 (λR w' h=>by rw[<-hda];exact fK h.1.2.2.1) (j:=2) (by omega) ha q_):P:=h q
theorem acs{P Q:Prop}(q:Q)(h:Q->P:=by show _->aC _ 7 ..;exactλq_=>aJ (f:=7) Tryz.call7 (.bool true) (λρ w' hw=>RJ w') q_):P:=h q
theorem aht{P Q:Prop}(q:Q)(h:Q->P:=by show _->aC _ 8 ..;exactλq_=>aJ (f:=8) Tryz.call8 (.bool true) (λρ w' hw=>by have:=Yg w' g (ae hw λR h=>hg.later h);rw[hf]at this;exact this) q_):P:=h q
theorem aQ{P:Prop}(h:P:=by repeat(first|exact List.mem_cons_self|apply List.mem_cons_of_mem)):P:=h
theorem aa{P:Prop}(h:P:=by omega):P:=h
theorem aS{P:Prop}(h:P:=by decide):P:=h
theorem gG{P:Prop}(h:P:=by first|exact h.2|exact h.1.2):P:=h
theorem gH{P:Prop}(h:P:=by first|exact h.1.2|exact h.2):P:=h
theorem RL{P:Prop}(h:P:=by simp only[jT,Bool.true_or,Bool.false_or,Bool.true_and,Bool.and_true,Bool.and_eq_true,Bool.and_eq_false_iff,decide_eq_true_eq,decide_eq_false_iff_not];omega):P:=h
theorem jf{P:Prop}(h:P:=by kernel_rfl):P:=h
theorem zf{P:Prop}(h:P:=by rw[aF];exact Nat.le_refl _):P:=h
theorem fC{P:Prop}(h:P:=by simp):P:=h
theorem vD{P:Prop}(h:P:=by rw[aF];omega):P:=h
theorem ZL{P:Prop}(h:P:=by unfold bM;simp only[hA];(repeat(first|rw[if_pos (by omega)]|rw[if_neg (by omega)]))):P:=h
theorem xY{P:Prop}(h:P:=by show 8*_<=_;omega):P:=h
theorem kJ{P:Prop}(h:P:=by cases h):P:=h
theorem afZ{P:Prop}(h:P:=by repeat(first|exact List.Sublist.refl _|exact List.nil_sublist _|apply List.Sublist.cons_cons|apply List.Sublist.cons)):P:=h
theorem acu{P:Prop}(h:P:=by unfold bM;simp only[hA];repeat(first|rw[if_pos (by omega)]|rw[if_neg (by omega)])):P:=h
theorem af0{P:Prop}(h:P:=by first|(rw[List.length_append];rfl)|(rw[List.length_append,xD];rfl)|(rw[List.length_append,xB];rfl)):P:=h
theorem ZM{P:Prop}(h:P:=by first|(left;omega)|(right;left;omega)|(right;right;assumption)):P:=h
theorem Db{P:Prop}(h:P:=by rw[dB];omega):P:=h
theorem Cb{P:Prop}(h:P:=by simpa[HY]using hk):P:=h
theorem Pp{P:Prop}(h:P:=by rw[aR];exact Nat.le_refl _):P:=h
theorem Mk{P:Prop}(h:P:=by first|exact h.1.1|exact h.1):P:=h
theorem acv{P:Prop}(h:P:=by rw[aR,tO (by omega)];exact Nat.le_refl _):P:=h
theorem Ew{P:Prop}(h:P:=by rw[hlm];exact hform):P:=h
theorem wy{P:Prop}(h:P:=by simp;omega):P:=h
theorem vE{P:Prop}(h:P:=by assumption):P:=h
theorem G_{P:Prop}(h:P:=by have:=z0.lM;omega):P:=h
theorem Ja{P:Prop}(h:P:=by show 0+1<=1;omega):P:=h
theorem He{P:Prop}(h:P:=by rw[<-hgc];omega):P:=h
theorem ak6{P:Prop}(h:P:=by have:=ed hw (i:=6) (by repeat(first|exact List.mem_cons_self|apply List.mem_cons_of_mem));rw[hgk]at this;exact this):P:=h
theorem RN{P:Prop}(h:P:=by rw[aR];exact hlt):P:=h
theorem Pq{P:Prop}(h:P:=by rw[aR];omega):P:=h
theorem acw{P:Prop}(h:P:=by show _<=500000+6*base+4*(k+1);omega):P:=h
theorem VL{P:Prop}(h:P:=by rw[List.length_replicate];omega):P:=h
theorem ZN{P:Prop}(h:P:=by have:=hb (by omega) (by omega);omega):P:=h
theorem ak7{P:Prop}(h:P:=by first|exact Tryz.call27|exact Tryz.call28|exact Tryz.call29|exact Tryz.call30|exact Tryz.call31|exact Tryz.call26):P:=h
theorem ai6{P:Prop}(h:P:=by first|exact hn.later h.1|exact hn.later h.1.1|exact hn.later h.1.1.1):P:=h
theorem af1{P:Prop}(h:P:=by rw[List.length_append,List.length_singleton];omega):P:=h
theorem acy{P:Prop}(h:P:=by show _<=500000+6*(base+g);omega):P:=h
theorem af2{P:Prop}(h:P:=by show(us.length+1)*24<=140737488355328;omega):P:=h
theorem RO{P:Prop}(h:P:=by have:=z0.qM;omega):P:=h
theorem ai7{P:Prop}(h:P:=by rw[gU,pW (by omega)];exact Nat.le_refl _):P:=h
theorem ak8{P:Prop}(h:P:=by first|(simp only[ints,List.map_append];rfl)|(simp only[ints,List.map_append,xD];rfl)):P:=h
theorem ak9{P:Prop}(h:P:=by first|(simp only[ints,List.map_append];rfl)|(simp only[ints,List.map_append,xB];rfl)):P:=h
theorem RP{P:Prop}(h:P:=by unfold bX;omega):P:=h
theorem ZO{P:Prop}(h:P:=by unfold tight at ht;omega):P:=h
theorem ak_{P:Prop}(h:P:=by rw[if_pos (by show 2048<q.1.code.length;omega)]at hT;rw[<-hrT,<-hT];rfl):P:=h
theorem ai8{P:Prop}(h:P:=by show _<=500000+6*((j+1)*g);rw[hj1];omega):P:=h
theorem af3{P:Prop}(h:P:=by rw[gU];exact Nat.le_refl _):P:=h
theorem acz{P:Prop}(h:P:=by rw[aR];exact VJ):P:=h
theorem ai9{P:Prop}(h:P:=by show us.length+1=_;rw[List.length_append];rfl):P:=h
theorem ai_{P:Prop}(h:P:=by show vl.length+1=_;rw[List.length_append];rfl):P:=h
theorem acA{P:Prop}(h:P:=by rw[gU];exact hlt):P:=h
theorem acB{P:Prop}(h:P:=by rw[aF,Hf];omega):P:=h
theorem aja{P:Prop}(h:P:=by show(vl.length+1)*8<=140737488355328;omega):P:=h
theorem acC{P:Prop}(h:P:=by rw[List.length_cons];omega):P:=h
theorem af4{P:Prop}(h:P:=by simpa using congrArg Prod.fst g.symm):P:=h
theorem ZP{P:Prop}(h:P:=by have:=z1.lM;omega):P:=h
theorem ZQ{P:Prop}(h:P:=by rw[List.length_map]):P:=h
theorem af5{P:Prop}(h:P:=by rw[aR];exact ln hto):P:=h
theorem ajb{P:Prop}(h:P:=by show(m+1)*24<=140737488355328;omega):P:=h
theorem ajc{P:Prop}(h:P:=by have:=hx i (by simp[SV.has]);exact this):P:=h
theorem ala{P:Prop}(h:P:=by rw[xZ,xZ,uO,uO];apply Array.ext';simp):P:=h
theorem acD{P:Prop}(h:P:=by show(m+1)*8<=140737488355328;omega):P:=h
theorem ahv{P:Prop}(h:P:=by intro x hx;simp only[List.mem_singleton]at hx;subst hx;omega):P:=h
theorem RQ{P:Prop}(h:P:=by rw[iT];omega):P:=h
theorem ahw{P:Prop}(h:P:=by simp[kT,uP,Value.formed,Tryz.underlying43,Yh]):P:=h
theorem acE{P:Prop}(h:P:=by rw[List.length_map];exact Nat.le_refl _):P:=h
theorem acF{P:Prop}(h:P:=by rw[mP];exact Nat.le_refl _):P:=h
theorem acG{P:Prop}(h:P:=by rw[mQ];exact Nat.le_refl _):P:=h
theorem Yi{P:Prop}(h:P:=by rw[ha (by omega)];exact ho):P:=h
theorem Yj{P:Prop}(h:P:=by rw[aF];exact hlt):P:=h
theorem Yk{P:Prop}(h:P:=by rw[List.length_map];omega):P:=h
theorem ahx{P:Prop}(h:P:=by unfold kD;rw[Rn,if_pos (by rw[e2];exact hok),e2]):P:=h
theorem ahy{P:Prop}(h:P:=by rw[qa,he,decide_eq_false (by omega),Bool.false_and]):P:=h
theorem ahz{P:Prop}(h:P:=by show(s.ay.length+1)*24<=140737488355328;omega):P:=h
theorem ahA{P:Prop}(h:P:=by show s.ay.length+1=_;rw[List.length_append];rfl):P:=h
theorem ahB{P:Prop}(h:P:=by show(s.inputs.length+1)*40<=140737488355328;omega):P:=h
theorem ahC{P:Prop}(h:P:=by show s.inputs.length+1=_;rw[List.length_append];rfl):P:=h
theorem acH{P:Prop}(h:P:=by show¬2048<q.1.code.length;omega):P:=h
theorem acI{P:Prop}(h:P:=by rw[mO];exact Nat.le_refl _):P:=h
theorem ahD{P:Prop}(h:P:=by show(s.code.length+1)*40<=140737488355328;omega):P:=h
theorem ahE{P:Prop}(h:P:=by show s.code.length+1=_;rw[List.length_append];rfl):P:=h
theorem ahF{P:Prop}(h:P:=by rw[(List.mem_replicate.1 hp).2];exact⟨rfl,rfl⟩):P:=h
theorem alb{P:Prop}(h:P:=by show 2048<q.1.code.length;omega):P:=h
theorem acJ{P:Prop}(h:P:=by have:=(z0.plain fP).lM;omega):P:=h
theorem ahG{P:Prop}(h:P:=by simp[jv,Value.formed,Tryz.underlying58,acK]):P:=h
theorem ahH{P:Prop}(h:P:=by show acc.length+1=_;rw[List.length_append];rfl):P:=h
theorem ahI{P:Prop}(h:P:=by show row.length+1=_;rw[List.length_append];rfl):P:=h
theorem ahJ{P:Prop}(h:P:=by show st.length+1=_;rw[List.length_append];rfl):P:=h
theorem ahK{P:Prop}(h:P:=by rw[xZ,xZ];apply Array.ext';simp):P:=h
theorem ahL{P:Prop}(h:P:=by rw[hg,List.map_map];exact(List.map_id row).symm):P:=h
theorem ahM{P:Prop}(h:P:=by show(st.length+1)*8<=140737488355328;omega):P:=h
theorem ahN{P:Prop}(h:P:=by rw[aF,jm];exact Nat.le_refl _):P:=h
theorem acL{P:Prop}(h:P:=by rw[hlm];exact dH hform):P:=h
theorem Yl{P:Prop}(h:P:=by rw[<-htx];exact hg):P:=h
theorem acM{P:Prop}(h:P:=by rw[dB];exact hlt):P:=h
theorem ahO{P:Prop}(h:P:=by show _<=500000+6*base+4*(i+1);omega):P:=h
theorem Ym{P:Prop}(h:P:=by show 1<=j;exact h):P:=h
theorem Nh{P:Prop}(h:P:=by rw[h2];rfl):P:=h
theorem acN{P:Prop}(h:P:=by rw[aR];exact hil):P:=h
theorem ahP{P:Prop}(h:P:=by rw[aF,hml,hm];exact Nat.le_refl _):P:=h
theorem RS{P:Prop}(h:P:=by rw[e];exact h):P:=h
theorem Yn{P:Prop}(h:P:=by rw[ajd];exact hin):P:=h
theorem acO{P:Prop}(h:P:=by rw[List.length_drop];omega):P:=h
theorem ahQ{P:Prop}(h:P:=by rw[gU,hil];exact Nat.le_refl _):P:=h
theorem ahR{P:Prop}(h:P:=by show(m+1)*16<=140737488355328;omega):P:=h
theorem ahS{P:Prop}(h:P:=by rw[aR,hml];exact Nat.le_refl _):P:=h
theorem ahT{P:Prop}(h:P:=by show(d+1)*24<=140737488355328;omega):P:=h
theorem ahU{P:Prop}(h:P:=by rw[List.length_map];exact dH hform):P:=h
theorem ahV{P:Prop}(h:P:=by show(m+2)*8<=140737488355328;omega):P:=h
theorem ahW{P:Prop}(h:P:=by rw[aF,ajd];exact Nat.le_refl _):P:=h
theorem ahX{P:Prop}(h:P:=by rw[aF,hrl];exact Nat.le_refl _):P:=h
theorem ahY{P:Prop}(h:P:=by rw[aF,hfl];exact Nat.le_refl _):P:=h
theorem acP{P:Prop}(h:P:=by rw[hu];exact Nat.one_pos):P:=h
theorem Yo{P:Prop}(h:P:=by simp only[execOp]):P:=h
theorem Yp{P:Prop}(h:P:=by simp[aF]):P:=h
theorem Jb{P:Prop}(h:P:=by simp[h]):P:=h
theorem ahZ{P:Prop}(h:P:=by simp[SV.has]):P:=h
theorem Yq{P:Prop}(h:P:=by rw[hN];exact he):P:=h
theorem acQ{P:Prop}(h:P:=by show 24*_<=_;omega):P:=h
theorem acR{P:Prop}(h:P:=by rw[<-h.len];exact h1):P:=h
theorem acS{P:Prop}(h:P:=by have:=(z0).qM;omega):P:=h
theorem acT{P:Prop}(h:P:=by have:=(z0).lM;omega):P:=h
theorem RU{P:Prop}(h:P:=by rw[hs];rfl):P:=h
theorem acU{P:Prop}(h:P:=by simpa[SV.has]using hi):P:=h
theorem Yr{P:Prop}(h:P:=by simpa using hfit):P:=h
theorem acV{P:Prop}(h:P:=by rw[hL.wz];exact hil):P:=h
theorem Yt{P:Prop}(h:P:=by rw[hkM];decide):P:=h
theorem acW{P:Prop}(h:P:=by have:=z2.lM;omega):P:=h
theorem RV{P:Prop}(h:P:=by rw[gp,gq]):P:=h
theorem Yu{P:Prop}(h:P:=by simpa using h):P:=h
theorem Yv{P:Prop}(h:P:=by rw[ho];simp):P:=h
theorem Ni{P:Prop}(h:P:=by rw[hc]):P:=h

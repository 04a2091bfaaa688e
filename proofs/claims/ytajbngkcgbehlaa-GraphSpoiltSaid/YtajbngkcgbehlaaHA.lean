import Derived.Test.YtajbngkcgbehlaaGZ
import Derived.Test.YtajbngkcgbehlaaGT
namespace Go.Proofs.Ytajbngkcgbehlaa
open Go.SX Go.RowKit Go.ChangeShapes Go.WideShapes Go.ChangeAt
theorem call_graph {cx : Cx} {f : FuncId} {H : Heap} {S : Asn} {nx i : Nat} {K : SV → Heap → Asn → Nat → Prop} (t : BytesV) (k : Nat) (hi : (i, Ent.box (cs (tcells t k)) 39) ∈ H) (hf : ∀ ar w, (callFunc f ar).run cx.P w = .ok (.enter f ar) w)
    (hsm : t.bs.length ≤ 1000000) (hby : ∀ x ∈ t.bs, x ≤ 255) (hk : k ≤ t.bs.length) (hS : ∀ R w', S.holds R w' → (bytesD t).holds R w')
    (hc : ∀ w' b, TapeOk w' b t k → Calls cx.P f #[.pointer (some ⟨b, 0, none⟩)] w' (GraphPost w' b t))
    (h : ∀ (l : List NodeV) (out : Int) (k' : Nat), MadeL l → l.length ≤ 8 → 0 ≤ out → out < l.length → K (.agg [.os nx l.length, .c (.int .i64 out)]) ((nx, .rows (nodeRows l) 9 43) :: setH i (.box (cs (tcells t k')) 39) H) (S.and ((nodesD l).past cx.B.w0.heap.size)) (nx + 1)) : callK cx f [.lp i 0 0 0] H S nx K := by
  rw [callK_def]
  refine ⟨hf, fun ρ w hw => ?_⟩
  obtain ⟨R, φ, hwR⟩ := hw
  obtain ⟨b, h1, h2, h3⟩ := hwR.ent _ hi
  simp only at h1 h2
  rw [rfs_cs] at h3
  have hRo : ∀ x, R x → oth w b x := fun x hx => ⟨hwR.ro x hx, fun e => hwR.apart _ hi x ((h2 x).2 e) hx⟩
  have e : SV.rfs ρ [.lp i 0 0 0] = [Value.pointer (some ⟨b, 0, none⟩)] := by
    simp only [SV.rfs, SV.rf, h1, Option.map_some, add_none]
  rw [e]
  refine (hc w b ⟨hsm, hby, (bytesD t).mono (hS R w hwR.asn) hRo, hk, h3⟩).mono ?_
  rintro e w' ⟨l, out, k', l0, F, hml, h8, ho0, ho1, hk', rfl, hs, hb, hF, hent, hD⟩
  have hlt : (Ent.box (cs (tcells t k')) 39).lt nx := fun y hy => lts_cs nx _ y hy
  have h' := hwR.store hi hlt (w' := w') fun G hG => by
    obtain ⟨b', g1, g2, g3⟩ := hG
    obtain rfl : b = b' := by rw [h1] at g1; simpa using g1
    exact ⟨⟨hs.os, hs.tape, hs.output, hs.size, fun y hy hne => hs.block y hy fun e => hne ((g2 y).2 e)⟩, b, g1, g2, by rw [rfs_cs]; exact hb⟩
  have hold : ∀ p ∈ setH i (.box (cs (tcells t k')) 39) H, ∀ x, φ p.1 x → x < w.heap.size := fun q hq x hx => by
    have hk : q.1 ∈ H.map (·.1) := by rw [← keys_setH i (.box (cs (tcells t k')) 39) H]; exact List.mem_map.2 ⟨q, hq, rfl⟩
    obtain ⟨q', hq', e⟩ := List.mem_map.1 hk
    rw [← e] at hx
    exact Ent.size (hwR.ent q' hq') hx
  have ha := h'.add (F := F) (e := .rows (nodeRows l) 9 43) (l := l0) (fun y hy => by simp [Ent.hass] at hy) hent (fun x hx hR => by have := hF x hx; have := hwR.ro x hR; omega) (fun p hp x hx hx' => by have := hF x hx'; have := hold p hp x hx; omega)
  refine ⟨.agg [.os nx l.length, .c (.int .i64 out)], upd ρ nx l0, _, _, nx + 1, by simp [SV.rf, SV.rfs, upd_same], fun j hj => upd_lt hj, Nat.le_succ _, ?_, ?_, h l out k' hml h8 ho0 ho1⟩
  · rw [SV.lt_agg, SV.lts_iff]
    intro v hv
    simp only [List.mem_cons, List.not_mem_nil, or_false] at hv
    rcases hv with rfl | rfl
    · exact SV.lt_os (by omega)
    · exact SV.lt_c _
  · refine ⟨fun y => R y ∨ ((w.heap.size ≤ y ∧ y < w'.heap.size) ∧ ¬ F y), (fun i => if i = nx then F else φ i), ha.os, ha.tape, ha.output, ha.size, ha.pin, fun y hy => hy.elim (ha.ro y) (fun h => h.1.2), ⟨S.stable (fun _ h => .inl h) (fun _ _ => rfl) ha.asn, ?_⟩, ha.key, ha.ent, fun q hq y hy hy' => ?_, ha.sep⟩
    · exact (nodesD l).stable (fun y hy => ⟨.inr hy, Nat.le_trans hwR.size hy.1.1⟩) (fun _ _ => rfl) hD
    · rcases hy' with hy' | hy'
      · exact ha.apart q hq y hy hy'
      · rcases List.mem_cons.1 hq with rfl | hq
        · simp only [if_true] at hy; exact hy'.2 hy
        · have hne : q.1 ≠ nx := by have := (h'.key q hq).1; omega
          simp only [if_neg hne] at hy
          have := hold q hq y hy
          omega
end Go.Proofs.Ytajbngkcgbehlaa

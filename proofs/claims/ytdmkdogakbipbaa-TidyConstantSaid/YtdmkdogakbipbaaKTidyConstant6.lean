import Derived.Test.YtdmkdogakbipbaaKTidyConstant5
/- IS -/
namespace Go.Proofs.Ytdmkdogakbipbaa
open Go.SX Go.RowKit
theorem div_to {x y q : Int} {K : Int → Prop} (e : x / y = q) (h0 : 0 ≤ x) (h1 : x ≤ 9223372036854775807) (hy : 0 < y) (h : K q) : divK .i64 x y K := by
  subst e; exact div_pos rfl h0 h1 hy h
def biasI (n : NodeV) (cnt o : Nat) : Int := if n.kind = 3 then n.bias.xs.getD o 0 else if n.kind = 4 then n.bias.xs.getD (o / (cnt / n.bias.xs.length)) 0 else 0
set_option maxRecDepth 20000 in
theorem bias_any (w : World) (n : NodeV) (hb : n.bias.ok w) (hk : n.kind = 3 ∨ n.kind = 4 ∨ n.kind = 5) (inV fnV : Value) (cnt o : Nat) (hc : cnt ≤ 64) (ho : o < cnt) (h3 : n.kind = 3 → n.bias.xs.length = cnt) (h4 : n.kind = 4 → 1 ≤ n.bias.xs.length ∧ n.bias.xs.length ≤ cnt ∧ o / (cnt / n.bias.xs.length) < n.bias.xs.length) : Calls Try.prog 79 #[placeV n inV fnV cnt, .int .i64 o] w fun e w' => e = .returned (.int .i64 (biasI n cnt o)) ∧ Ext w w' := by
  have hfew := hb.few
  rcases hk with hk | hk | hk
  · have hB : biasI n cnt o = n.bias.xs.getD o 0 := if_pos hk
    rw [hB]
    have hl := h3 hk
    obtain ⟨ua, hua⟩ := hb.base (by omega)
    have hur : ∀ (R : Nat → Prop) w', (baseA w).holds R w' → RowsI w' (some ua) 1 (ints n.bias.xs) := fun R w' h => by rw [← hua]; exact rows_base h hb.rows
    refine calls_of tab tabOk Try.func79 rfl rfl rfl [] (fun _ => ⟨none, 0⟩) [.agg [.c (.int .i64 n.kind), .c (.int .i64 n.a), .c (.int .i64 n.b), .c n.shape.val, .c (.int .i64 n.lo), .c (.int .i64 n.hi), .c (.int .i64 n.size), .c n.data.val, .c n.bias.val, .c inV, .c fnV, .c (.int .i64 (cnt : Int))], .c (.int .i64 o)] [] (baseA w) 0 rfl rfl (by show 2 ≤ _; decide) (abs_base w) ?_
    (repeat' ((conv => whnf) <;> first | (show idxK _ _ _ _ _; refine idx_of _ o hua rfl (by omega) ?_) | (show roK _ _ _; refine ro_int hur (j := o) (by omega) ?_) | (show drawK _ _ _ _ _ _ _ _; refine draw_quiet tabOk mixed (by kernel_rfl) ?_) | (show Wp _ _ _ _ _ _ _; refine Wp.go tabOk rfl ?_) | (show @cmpK _ _ _; (first | refine cmpY ?_ | refine cmpN ?_ | (refine cmp_both ?_ ?_ <;> intro _))) | (show wrapK _ _ _; refine wrapA ?_) | (show leK _ _ _; refine leA ?_) | (show roomK _ _ _; refine roomA ?_) | (show ltK _ _ _; refine ltA ?_) | (show _ ∧ _; refine ⟨?_, ?_⟩) | (show keepK _ _ _ _ _; refine keepA ?_) | refine own_keep ?_ | refine ap_old ?_))
    conv => whnf
    exact ends_of (fun _ _ h => h) (fun _ => rfl) rfl
  · have hB : biasI n cnt o = n.bias.xs.getD (o / (cnt / n.bias.xs.length)) 0 := by unfold biasI; rw [if_neg (by omega), if_pos hk]
    rw [hB]
    obtain ⟨h5, h6, h7⟩ := h4 hk
    obtain ⟨ua, hua⟩ := hb.base (by omega)
    have hur : ∀ (R : Nat → Prop) w', (baseA w).holds R w' → RowsI w' (some ua) 1 (ints n.bias.xs) := fun R w' h => by rw [← hua]; exact rows_base h hb.rows
    have e1 : (cnt : Int) / n.bias.xs.length = ((cnt / n.bias.xs.length : Nat) : Int) := by rw [Int.natCast_ediv]
    have hd : 1 ≤ cnt / n.bias.xs.length := (Nat.one_le_div_iff (by omega)).2 h6
    have hdl : cnt / n.bias.xs.length ≤ cnt := Nat.div_le_self _ _
    have e2 : (o : Int) / ((cnt / n.bias.xs.length : Nat) : Int) = ((o / (cnt / n.bias.xs.length) : Nat) : Int) := (Int.natCast_ediv o (cnt / n.bias.xs.length)).symm
    obtain ⟨q, hq⟩ : ∃ q, o / (cnt / n.bias.xs.length) = q := ⟨_, rfl⟩
    obtain ⟨p, hp⟩ : ∃ p, cnt / n.bias.xs.length = p := ⟨_, rfl⟩
    rw [hq] at e2 h7 ⊢
    rw [hp] at e1 e2 hd hdl
    refine calls_of tab tabOk Try.func79 rfl rfl rfl [] (fun _ => ⟨none, 0⟩) [.agg [.c (.int .i64 n.kind), .c (.int .i64 n.a), .c (.int .i64 n.b), .c n.shape.val, .c (.int .i64 n.lo), .c (.int .i64 n.hi), .c (.int .i64 n.size), .c n.data.val, .c n.bias.val, .c inV, .c fnV, .c (.int .i64 (cnt : Int))], .c (.int .i64 o)] [] (baseA w) 0 rfl rfl (by show 2 ≤ _; decide) (abs_base w) ?_
    (repeat' ((conv => whnf) <;> first | (show idxK _ _ _ _ _; refine idx_of _ q hua rfl (by omega) ?_) | (show roK _ _ _; refine ro_int hur (j := q) (by omega) ?_) | (show divK _ _ _ _; (first | refine div_to e1 (by omega) (by omega) (by omega) ?_ | refine div_to e2 (by omega) (by omega) (by omega) ?_)) | (show drawK _ _ _ _ _ _ _ _; refine draw_quiet tabOk mixed (by kernel_rfl) ?_) | (show Wp _ _ _ _ _ _ _; refine Wp.go tabOk rfl ?_) | (show @cmpK _ _ _; (first | refine cmpY ?_ | refine cmpN ?_ | (refine cmp_both ?_ ?_ <;> intro _))) | (show wrapK _ _ _; refine wrapA ?_) | (show leK _ _ _; refine leA ?_) | (show roomK _ _ _; refine roomA ?_) | (show ltK _ _ _; refine ltA ?_) | (show _ ∧ _; refine ⟨?_, ?_⟩) | (show keepK _ _ _ _ _; refine keepA ?_) | refine own_keep ?_ | refine ap_old ?_))
    all_goals (conv => whnf)
    all_goals exact ends_of (fun _ _ h => h) (fun _ => rfl) rfl
  · have hB : biasI n cnt o = 0 := by unfold biasI; rw [if_neg (by omega), if_neg (by omega)]
    rw [hB]
    refine calls_of tab tabOk Try.func79 rfl rfl rfl [] (fun _ => ⟨none, 0⟩) [.agg [.c (.int .i64 n.kind), .c (.int .i64 n.a), .c (.int .i64 n.b), .c n.shape.val, .c (.int .i64 n.lo), .c (.int .i64 n.hi), .c (.int .i64 n.size), .c n.data.val, .c n.bias.val, .c inV, .c fnV, .c (.int .i64 (cnt : Int))], .c (.int .i64 o)] [] (baseA w) 0 rfl rfl (by show 2 ≤ _; decide) (abs_base w) ?_
    (repeat' ((conv => whnf) <;> first | (show drawK _ _ _ _ _ _ _ _; refine draw_quiet tabOk mixed (by kernel_rfl) ?_) | (show Wp _ _ _ _ _ _ _; refine Wp.go tabOk rfl ?_) | (show @cmpK _ _ _; (first | refine cmpY ?_ | refine cmpN ?_ | (refine cmp_both ?_ ?_ <;> intro _))) | (show wrapK _ _ _; refine wrapA ?_) | (show leK _ _ _; refine leA ?_) | (show roomK _ _ _; refine roomA ?_) | (show ltK _ _ _; refine ltA ?_) | (show _ ∧ _; refine ⟨?_, ?_⟩) | (show keepK _ _ _ _ _; refine keepA ?_) | refine own_keep ?_ | refine ap_old ?_))
    conv => whnf
    exact ends_of (fun _ _ h => h) (fun _ => rfl) rfl
def fLo (a : Sp) (s : Int) (t : Sp) : Int := s + min (t.1 * a.1) (t.1 * a.2)
def fHi (a : Sp) (s : Int) (t : Sp) : Int := s + max (t.1 * a.1) (t.1 * a.2)
def linPre (n : NodeV) (cnt k : Nat) (T : Nat → List Sp) (a : Sp) : List Int := (List.range k).flatMap fun o => [(T o).foldl (fLo a) (biasI n cnt o), (T o).foldl (fHi a) (biasI n cnt o)]
def linEnds (n : NodeV) (cnt : Nat) (T : Nat → List Sp) (a : Sp) : List Int := linPre n cnt cnt T a
theorem linPre_snoc (n : NodeV) (cnt k : Nat) (T : Nat → List Sp) (a : Sp) : linPre n cnt (k + 1) T a = linPre n cnt k T a ++ [(T k).foldl (fLo a) (biasI n cnt k), (T k).foldl (fHi a) (biasI n cnt k)] := by
  unfold linPre; rw [List.range_succ, List.flatMap_append]; simp
theorem linPre_len (n : NodeV) (cnt : Nat) (T : Nat → List Sp) (a : Sp) : ∀ k, (linPre n cnt k T a).length = 2 * k
  | 0 => rfl
  | k + 1 => by rw [linPre_snoc, List.length_append, linPre_len n cnt T a k]; rfl
theorem fold_snoc {f : Int → Sp → Int} {s : Int} {l : List Sp} {j : Nat} (h : j < l.length) : (l.take (j + 1)).foldl f s = f ((l.take j).foldl f s) l[j] := by
  rw [List.take_succ_eq_append_getElem h, List.foldl_append]; rfl
theorem ints_two (l : List Int) (x y : Int) {i m : Nat} {T : TypeId} {H : Heap} (hm : m = l.length) : (i, Ent.rows (ints (l ++ [x, y])) 1 T) ∈ (i, Ent.rows (List.take m (ints l) ++ [[.int .i64 x], [.int .i64 y]]) 1 T) :: H := by
  subst hm
  rw [show ints (l ++ [x, y]) = List.take l.length (ints l) ++ [[.int .i64 x], [.int .i64 y]] by rw [List.take_of_length_le (by rw [ints_length]; exact Nat.le_refl _)]; simp [ints]]
  exact List.mem_cons_self
/-- what is known of the closure that tells terms -/
structure TermsOk (w : World) (F : FuncId) (P0 : Value) (cnt : Nat) (T : Nat → List Sp) : Prop where
  enter : ∀ ar w, (callFunc F ar).run Try.prog w = .ok (.enter F ar) w
  calls : ∀ R w', (baseA w).holds R w' → ∀ o, o < cnt → Calls Try.prog F #[P0, .int .i64 o] w' (TermsPost w' (T o))
  few : ∀ o, o < cnt → (T o).length ≤ 64
  bd : ∀ o, o < cnt → ∀ s ∈ T o, bd20 s.1
structure LinOk (w : World) (n : NodeV) (cnt : Nat) : Prop where
  kind : n.kind = 3 ∨ n.kind = 4 ∨ n.kind = 5
  bias : n.bias.ok w
  biasBd : ∀ x ∈ n.bias.xs, bd20 x
  few : cnt ≤ 64
  three : n.kind = 3 → n.bias.xs.length = cnt
  four : n.kind = 4 → 1 ≤ n.bias.xs.length ∧ n.bias.xs.length ≤ cnt ∧ ∀ o, o < cnt → o / (cnt / n.bias.xs.length) < n.bias.xs.length
theorem biasI_bd {w : World} {n : NodeV} {cnt : Nat} (h : LinOk w n cnt) (o : Nat) : bd20 (biasI n cnt o) := by
  unfold biasI
  split
  · exact getD_bd h.biasBd _
  · split
    · exact getD_bd h.biasBd _
    · exact ⟨by decide, by decide⟩
theorem lin_bd {a : Sp} (ha : bd20 a.1 ∧ bd20 a.2) : ∀ {l : List Sp} {s : Int}, (∀ t ∈ l, bd20 t.1) → (s - l.length * 1099511627776 ≤ l.foldl (fLo a) s ∧ l.foldl (fLo a) s ≤ s + l.length * 1099511627776) ∧ (s - l.length * 1099511627776 ≤ l.foldl (fHi a) s ∧ l.foldl (fHi a) s ≤ s + l.length * 1099511627776)
  | [], s, _ => by simp
  | t :: r, s, h => by
    have h1 := mul_bd (A := 1048576) (B := 1048576) (h t List.mem_cons_self) ha.1
    have h2 := mul_bd (A := 1048576) (B := 1048576) (h t List.mem_cons_self) ha.2
    have g1 := lin_bd ha (l := r) (s := fLo a s t) (fun x hx => h x (List.mem_cons_of_mem _ hx))
    have g2 := lin_bd ha (l := r) (s := fHi a s t) (fun x hx => h x (List.mem_cons_of_mem _ hx))
    have e1 : fLo a s t = s + min (t.1 * a.1) (t.1 * a.2) := rfl
    have e2 : fHi a s t = s + max (t.1 * a.1) (t.1 * a.2) := rfl
    simp only [List.foldl_cons, List.length_cons]
    omega
theorem call_terms {B : Base} {m : Nat} {F : FuncId} {args : List SV} {H : Heap} {S : Asn} {nx : Nat} {K : SV → Heap → Asn → Nat → Prop} (T : List Sp) (hf : ∀ ar w, (callFunc F ar).run Try.prog w = .ok (.enter F ar) w)
    (hc : ∀ ρ w, Abs B ρ nx H S w → Calls Try.prog F (SV.rfs ρ args).toArray w (TermsPost w T)) (h : K (.os nx T.length) ((nx, .rows (spRows T) 2 110) :: H) S (nx + 1)) : callK ⟨Try.prog, B, m, tab⟩ F args H S nx K := by
  refine call_new hf 2 110 (fun _ : Unit => spRows T) (fun _ => True) (fun ρ w hw => (hc ρ w hw).mono ?_) (fun _ _ => ?_)
  · rintro e w' ⟨v, h1, h2, h3⟩
    exact ⟨(), trivial, v, h1, h2, h3⟩
  · rw [spRows_length]; exact h
set_option maxRecDepth 20000 in
set_option maxHeartbeats 2000000 in
theorem ends_lin (w : World) (n : NodeV) (inV : Value) (F : FuncId) (P0 : Value) (cnt : Nat) (T : Nat → List Sp) (a b : Sp) (hT : TermsOk w F P0 cnt T) (hn : LinOk w n cnt) (ha : bd20 a.1 ∧ bd20 a.2) : Calls Try.prog 58 #[placeV n inV (.func (.func F) #[P0] #[]) cnt, spanV a, spanV b] w (EndsPost w n (linEnds n cnt T a)) := by
  have hk := hn.kind
  have hfew := hn.few
  obtain ⟨ha1, ha2⟩ := ha
  refine calls_of tab tabOk Try.func58 rfl rfl rfl [] (fun _ => ⟨none, 0⟩) [.agg [.c (.int .i64 n.kind), .c (.int .i64 n.a), .c (.int .i64 n.b), .c n.shape.val, .c (.int .i64 n.lo), .c (.int .i64 n.hi), .c (.int .i64 n.size), .c n.data.val, .c n.bias.val, .c inV, .fn (.func F) [.c P0] [], .c (.int .i64 (cnt : Int))], .agg [.c (.int .i64 a.1), .c (.int .i64 a.2)], .agg [.c (.int .i64 b.1), .c (.int .i64 b.2)]] [] (baseA w) 0 rfl rfl (by show 3 ≤ _; decide) (abs_base w) ?_
  (repeat' ((conv => whnf) <;> first | (show drawK _ 9 _ _ _ _ _ _; refine draw_tree tabOk mixed [] _ dtIB0 (by kernel_rfl) (by kernel_rfl) (by kernel_rfl) (List.Sublist.refl _) ?_) | (show drawK _ 11 _ _ _ _ _ _; refine draw_tree tabOk mixed [] _ dtIB1 (by kernel_rfl) (by kernel_rfl) (by kernel_rfl) (List.Sublist.refl _) ?_) | (show drawK _ _ _ _ _ _ _ _; refine draw_quiet tabOk mixed (by kernel_rfl) ?_) | (show Wp _ _ _ _ _ _ _; refine Wp.go tabOk rfl ?_) | (show @cmpK _ _ _; (first | refine cmpY ?_ | refine cmpN ?_ | (refine cmp_both ?_ ?_ <;> intro _))) | (show wrapK _ _ _; refine wrapA ?_) | (show leK _ _ _; refine leA ?_) | (show roomK _ _ _; refine roomA ?_) | (show ltK _ _ _; refine ltA ?_) | (show _ ∧ _; refine ⟨?_, ?_⟩) | (show keepK _ _ _ _ _; refine keepA ?_) | refine own_keep ?_ | refine ap_old ?_))
  refine Wp.loop (σ := Nat × Nat) 4 (fun ⟨o, m⟩ => [(3, .lp 0 0 0 0), (4, .lp 1 0 0 0), (11, .os 3 m), (124, .c (.int .i64 cnt)), (125, .c (.int .i64 o))]) (fun ⟨o, m⟩ => [(3, .rows (ints (linPre n cnt o T a)) 1 3), (1, .box [.c (.int .i64 a.1), .c (.int .i64 a.2)] 68), (0, .box [.c (.int .i64 n.kind), .c (.int .i64 n.a), .c (.int .i64 n.b), .c n.shape.val, .c (.int .i64 n.lo), .c (.int .i64 n.hi), .c (.int .i64 n.size), .c n.data.val, .c n.bias.val, .c inV, .fn (.func F) [.c P0] [], .c (.int .i64 (cnt : Int))] 75)]) (fun _ => baseA w)
    (fun ⟨o, m⟩ => o ≤ cnt ∧ m = 2 * o) (fun s => cnt - s.1) (0, 0) [(3, none)] (by decide) (fun s => ⟨rfl, rfl⟩) ⟨Nat.zero_le _, rfl⟩ ⟨rfl, ⟨rfl, rfl, rfl, rfl, rfl, trivial⟩, ⟨rfl, (by repeat (first | exact List.mem_cons_self | apply List.mem_cons_of_mem)), (by repeat (first | exact List.mem_cons_self | apply List.mem_cons_of_mem)), trivial⟩, fun _ _ h => h⟩ ?_
  rintro ⟨o, m⟩ ⟨ho, hm⟩
  have hml := linPre_len n cnt T a o
  by_cases hlt : o < cnt
  · have hsn := linPre_snoc n cnt o T a
    have hbd := biasI_bd hn o
    have htb := hT.bd o hlt
    have htf := hT.few o hlt
    have hC : ∀ {R : Nat → Prop} {w' : World}, (baseA w).holds R w' → Calls Try.prog F #[P0, .int .i64 o] w' (TermsPost w' (T o)) := fun h => hT.calls _ _ h o hlt
    (repeat' ((conv => whnf) <;> first | (show callQ _ 79 _ _ _ _ _; refine callQ_of (f := 79) Try.call79 (.int .i64 (biasI n cnt o)) (fun ρ w' hw => bias_any w' n (holds_of_abs hw fun R h => hn.bias.later h) hk inV (.func (.func F) #[P0] #[]) cnt o hfew hlt hn.three (fun h4 => ⟨(hn.four h4).1, (hn.four h4).2.1, (hn.four h4).2.2 o hlt⟩)) ?_) | ((show callK _ F _ _ _ _ _); refine call_terms (T o) hT.enter (fun ρ w' hw => holds_of_abs hw fun R h => hC h) ?_) | (show drawK _ 9 _ _ _ _ _ _; refine draw_tree tabOk mixed [] _ dtIB0 (by kernel_rfl) (by kernel_rfl) (by kernel_rfl) (List.Sublist.refl _) ?_) | (show drawK _ 11 _ _ _ _ _ _; refine draw_tree tabOk mixed [] _ dtIB1 (by kernel_rfl) (by kernel_rfl) (by kernel_rfl) (List.Sublist.refl _) ?_) | (show drawK _ _ _ _ _ _ _ _; refine draw_quiet tabOk mixed (by kernel_rfl) ?_) | (show Wp _ _ _ _ _ _ _; refine Wp.go tabOk rfl ?_) | (show @cmpK _ _ _; (first | refine cmpY ?_ | refine cmpN ?_ | (refine cmp_both ?_ ?_ <;> intro _))) | (show wrapK _ _ _; refine wrapA ?_) | (show leK _ _ _; refine leA ?_) | (show roomK _ _ _; refine roomA ?_) | (show ltK _ _ _; refine ltA ?_) | (show _ ∧ _; refine ⟨?_, ?_⟩) | (show keepK _ _ _ _ _; refine keepA ?_) | refine own_keep ?_ | refine ap_old ?_))
    refine Wp.loop (σ := Nat × Int × Int) 5 (fun ⟨j, lo, hi⟩ => [(3, .lp 0 0 0 0), (4, .lp 1 0 0 0), (11, .os 3 m), (124, .c (.int .i64 cnt)), (125, .c (.int .i64 o)), (13, .c (.int .i64 lo)), (14, .c (.int .i64 hi)), (137, .os 4 (T o).length), (138, .c (.int .i64 (T o).length)), (139, .c (.int .i64 j))]) (fun _ => [(4, .rows (spRows (T o)) 2 110), (3, .rows (ints (linPre n cnt o T a)) 1 3), (1, .box [.c (.int .i64 a.1), .c (.int .i64 a.2)] 68), (0, .box [.c (.int .i64 n.kind), .c (.int .i64 n.a), .c (.int .i64 n.b), .c n.shape.val, .c (.int .i64 n.lo), .c (.int .i64 n.hi), .c (.int .i64 n.size), .c n.data.val, .c n.bias.val, .c inV, .fn (.func F) [.c P0] [], .c (.int .i64 (cnt : Int))] 75)]) (fun _ => baseA w)
      (fun ⟨j, lo, hi⟩ => j ≤ (T o).length ∧ lo = ((T o).take j).foldl (fLo a) (biasI n cnt o) ∧ hi = ((T o).take j).foldl (fHi a) (biasI n cnt o)) (fun s => (T o).length - s.1) (0, biasI n cnt o, biasI n cnt o) [] (by decide) (fun s => ⟨rfl, rfl⟩) ⟨Nat.zero_le _, rfl, rfl⟩ ⟨rfl, ⟨rfl, rfl, rfl, rfl, rfl, rfl, rfl, rfl, rfl, rfl, trivial⟩, ⟨(by repeat (first | exact List.mem_cons_self | apply List.mem_cons_of_mem)), (by repeat (first | exact List.mem_cons_self | apply List.mem_cons_of_mem)), (by repeat (first | exact List.mem_cons_self | apply List.mem_cons_of_mem)), (by repeat (first | exact List.mem_cons_self | apply List.mem_cons_of_mem)), trivial⟩, fun _ _ h => h⟩ ?_
    rintro ⟨j, lo, hi⟩ ⟨hj, hlo, hhi⟩
    by_cases hjl : j < (T o).length
    · have s1 := fold_snoc (f := fLo a) (s := biasI n cnt o) hjl
      have s2 := fold_snoc (f := fHi a) (s := biasI n cnt o) hjl
      have hrow := spRows_get hjl
      have hwb := htb _ (List.getElem_mem hjl)
      have g := lin_bd ⟨ha1, ha2⟩ (l := (T o).take j) (s := biasI n cnt o) (fun x hx => htb x (List.mem_of_mem_take hx))
      rw [← hlo, ← hhi, List.length_take, Nat.min_eq_left hj] at g
      rw [← hlo] at s1
      rw [← hhi] at s2
      generalize (T o)[j] = s at *
      have q1 := mul_bd (A := 1048576) (B := 1048576) hwb ha1
      have q2 := mul_bd (A := 1048576) (B := 1048576) hwb ha2
      unfold bd20 at hbd
      (repeat' ((conv => whnf) <;> first | (show idxRowK _ _ _ _ _ _; (refine idxRow_of j rfl hjl (by rw [spRows_length]; exact Nat.le_refl _) ?_)) | (show rowAggK _ _ _ _ _; refine rowAgg_of _ _ hrow rfl rfl ?_) | (show drawK _ 9 _ _ _ _ _ _; refine draw_tree tabOk mixed [] _ dtIB0 (by kernel_rfl) (by kernel_rfl) (by kernel_rfl) (List.Sublist.refl _) ?_) | (show drawK _ 11 _ _ _ _ _ _; refine draw_tree tabOk mixed [] _ dtIB1 (by kernel_rfl) (by kernel_rfl) (by kernel_rfl) (List.Sublist.refl _) ?_) | (show drawK _ _ _ _ _ _ _ _; refine draw_quiet tabOk mixed (by kernel_rfl) ?_) | (show Wp _ _ _ _ _ _ _; refine Wp.go tabOk rfl ?_) | (show @cmpK _ _ _; (first | refine cmpY ?_ | refine cmpN ?_ | (refine cmp_both ?_ ?_ <;> intro _))) | (show wrapK _ _ _; refine wrapA ?_) | (show leK _ _ _; refine leA ?_) | (show roomK _ _ _; refine roomA ?_) | (show ltK _ _ _; refine ltA ?_) | (show _ ∧ _; refine ⟨?_, ?_⟩) | (show keepK _ _ _ _ _; refine keepA ?_) | refine own_keep ?_ | refine ap_old ?_))
      all_goals (conv => whnf)
      all_goals exact ⟨(j + 1, _, _), [], ⟨hjl, by rw [s1]; unfold fLo; omega, by rw [s2]; unfold fHi; omega⟩, by simp only; omega, rfl, ⟨rfl, rfl, rfl, rfl, rfl, rfl, rfl, rfl, rfl, rfl, trivial⟩, ⟨(by repeat (first | exact List.mem_cons_self | apply List.mem_cons_of_mem)), (by repeat (first | exact List.mem_cons_self | apply List.mem_cons_of_mem)), (by repeat (first | exact List.mem_cons_self | apply List.mem_cons_of_mem)), (by repeat (first | exact List.mem_cons_self | apply List.mem_cons_of_mem)), trivial⟩, fun _ _ h => h⟩
    · obtain rfl : j = (T o).length := by omega
      rw [List.take_of_length_le (Nat.le_refl _)] at hlo hhi
      (repeat' ((conv => whnf) <;> first | (show leK _ _ _; (refine le_of (by rw [ints_length, hml, hm]; exact Nat.le_refl _) ?_)) | (show roomK _ _ _; (refine room_of (by show (m + 2) * 8 ≤ 140737488355328; omega) ?_)) | (show drawK _ 9 _ _ _ _ _ _; refine draw_tree tabOk mixed [] _ dtIB0 (by kernel_rfl) (by kernel_rfl) (by kernel_rfl) (List.Sublist.refl _) ?_) | (show drawK _ 11 _ _ _ _ _ _; refine draw_tree tabOk mixed [] _ dtIB1 (by kernel_rfl) (by kernel_rfl) (by kernel_rfl) (List.Sublist.refl _) ?_) | (show drawK _ _ _ _ _ _ _ _; refine draw_quiet tabOk mixed (by kernel_rfl) ?_) | (show Wp _ _ _ _ _ _ _; refine Wp.go tabOk rfl ?_) | (show @cmpK _ _ _; (first | refine cmpY ?_ | refine cmpN ?_ | (refine cmp_both ?_ ?_ <;> intro _))) | (show wrapK _ _ _; refine wrapA ?_) | (show leK _ _ _; refine leA ?_) | (show roomK _ _ _; refine roomA ?_) | (show ltK _ _ _; refine ltA ?_) | (show _ ∧ _; refine ⟨?_, ?_⟩) | (show keepK _ _ _ _ _; refine keepA ?_) | refine own_keep ?_ | refine ap_old ?_))
      conv => whnf
      exact ⟨(o + 1, m + 2), [(3, some 6)], ⟨hlt, by omega⟩, by simp only; omega, rfl, ⟨rfl, rfl, rfl, rfl, rfl, trivial⟩, ⟨by
        show (6, Ent.rows (ints (linPre n cnt (o + 1) T a)) 1 3) ∈ _
        rw [hsn, ← hlo, ← hhi]; exact ints_two _ _ _ (by rw [hml, hm]), (by repeat (first | exact List.mem_cons_self | apply List.mem_cons_of_mem)), (by repeat (first | exact List.mem_cons_self | apply List.mem_cons_of_mem)), trivial⟩, fun _ _ h => h⟩
  · obtain rfl : o = cnt := by omega
    (repeat' ((conv => whnf) <;> first | (show drawK _ 9 _ _ _ _ _ _; refine draw_tree tabOk mixed [] _ dtIB0 (by kernel_rfl) (by kernel_rfl) (by kernel_rfl) (List.Sublist.refl _) ?_) | (show drawK _ 11 _ _ _ _ _ _; refine draw_tree tabOk mixed [] _ dtIB1 (by kernel_rfl) (by kernel_rfl) (by kernel_rfl) (List.Sublist.refl _) ?_) | (show drawK _ _ _ _ _ _ _ _; refine draw_quiet tabOk mixed (by kernel_rfl) ?_) | (show Wp _ _ _ _ _ _ _; refine Wp.go tabOk rfl ?_) | (show @cmpK _ _ _; (first | refine cmpY ?_ | refine cmpN ?_ | (refine cmp_both ?_ ?_ <;> intro _))) | (show wrapK _ _ _; refine wrapA ?_) | (show leK _ _ _; refine leA ?_) | (show roomK _ _ _; refine roomA ?_) | (show ltK _ _ _; refine ltA ?_) | (show _ ∧ _; refine ⟨?_, ?_⟩) | (show keepK _ _ _ _ _; refine keepA ?_) | refine own_keep ?_ | refine ap_old ?_))
    conv => whnf
    refine eends_new (fun _ _ h => h) rfl (by repeat (first | exact List.mem_cons_self | apply List.mem_cons_of_mem)) (by rw [hm]; exact hml.symm) (fun x hx => ?_) (by rw [show linEnds n o T a = linPre n o o T a from rfl, hml]; omega)
    obtain ⟨q, hq, hx⟩ := List.mem_flatMap.1 hx
    rw [List.mem_range] at hq
    have g := lin_bd ⟨ha1, ha2⟩ (l := T q) (s := biasI n o q) (hT.bd q hq)
    have gf := hT.few q hq
    have gb := biasI_bd hn q
    unfold bd20 at gb
    simp only [List.mem_cons, List.not_mem_nil, or_false] at hx
    unfold i64
    rcases hx with rfl | rfl <;> omega
end Go.Proofs.Ytdmkdogakbipbaa

/- IT -/
namespace Go.Proofs.Ytdmkdogakbipbaa
open Go.SX Go.RowKit
def fNum (av : List Int) (s : Int) (t : Sp) : Int := s + t.1 * av.getD t.2.toNat 0
def numsLin (n : NodeV) (cnt k : Nat) (T : Nat → List Sp) (av : List Int) : List Int := (List.range k).map fun o => (T o).foldl (fNum av) (biasI n cnt o)
theorem gridI_at {n i : Nat} {l : List Int} {x : Int} (hl : l.length = i) (hi : i < n) : (ints (gridI n (l ++ [x])))[i]? = some [.int .i64 x] := by
  subst hl
  rw [ints_get (by rw [gridI_length (by rw [List.length_append, List.length_singleton]; omega)]; exact hi)]
  simp [gridI]
theorem gridI_set {n i : Nat} {l : List Int} {x y : Int} {K : List (List Value) → Prop} (hl : l.length = i) (hi : i < n) (h : K (ints (gridI n (l ++ [y])))) : rowStoreK (ints (gridI n (l ++ [x]))) i 0 [.int .i64 y] K := by
  refine rowStore_of _ (gridI_at hl hi) (by show 0 + 1 ≤ 1; omega) ?_
  have e : (ints (gridI n (l ++ [x]))).set i (setFrom [.int .i64 x] 0 [.int .i64 y]) = ints (gridI n (l ++ [y])) := by
    have e2 : setFrom [Value.int .i64 x] 0 [.int .i64 y] = [Value.int .i64 y] := rfl
    rw [e2]
    subst hl
    unfold gridI ints
    rw [List.length_append, List.length_append, List.length_singleton, List.length_singleton]
    simp
  rw [e]; exact h
theorem num_bd {av : List Int} (ha : ∀ x ∈ av, bd20 x) : ∀ {l : List Sp} {s : Int}, (∀ t ∈ l, bd20 t.1) → s - l.length * 1099511627776 ≤ l.foldl (fNum av) s ∧ l.foldl (fNum av) s ≤ s + l.length * 1099511627776
  | [], s, _ => by simp
  | t :: r, s, h => by
    have h1 := mul_bd (A := 1048576) (B := 1048576) (h t List.mem_cons_self) (getD_bd ha t.2.toNat)
    have g1 := num_bd ha (l := r) (s := fNum av s t) (fun x hx => h x (List.mem_cons_of_mem _ hx))
    have e1 : fNum av s t = s + t.1 * av.getD t.2.toNat 0 := rfl
    simp only [List.foldl_cons, List.length_cons]
    omega
set_option maxRecDepth 20000 in
set_option maxHeartbeats 2000000 in
theorem nums_lin (w : World) (n : NodeV) (inV : Value) (F : FuncId) (P0 : Value) (cnt : Nat) (T : Nat → List Sp) (a b : IntsV) (hT : TermsOk w F P0 cnt T) (hn : LinOk w n cnt) (ha : a.ok w) (hab : ∀ x ∈ a.xs, bd20 x) (hat : ∀ o, o < cnt → ∀ s ∈ T o, 0 ≤ s.2 ∧ s.2 < a.xs.length) : Calls Try.prog 45 #[placeV n inV (.func (.func F) #[P0] #[]) cnt, a.val, b.val] w (NewInts w (numsLin n cnt cnt T a.xs)) := by
  have hk := hn.kind
  have hfew := hn.few
  refine calls_of tab tabOk Try.func45 rfl rfl rfl [] (fun _ => ⟨none, 0⟩) [.agg [.c (.int .i64 n.kind), .c (.int .i64 n.a), .c (.int .i64 n.b), .c n.shape.val, .c (.int .i64 n.lo), .c (.int .i64 n.hi), .c (.int .i64 n.size), .c n.data.val, .c n.bias.val, .c inV, .fn (.func F) [.c P0] [], .c (.int .i64 (cnt : Int))], .c a.val, .c b.val] [] (baseA w) 0 rfl rfl (by show 3 ≤ _; decide) (abs_base w) ?_
  (repeat' ((conv => whnf) <;> first | (show makeK _ _ _ _; (refine make_of cnt rfl rfl (by show 8 * _ ≤ _; omega) (by omega) ?_)) | (show drawK _ 15 _ _ _ _ _ _; refine draw_tree tabOk mixed [12] _ dtIF0 (by kernel_rfl) (by kernel_rfl) (by kernel_rfl) (List.Sublist.refl _) ?_) | (show drawK _ 17 _ _ _ _ _ _; refine draw_tree tabOk mixed [13] _ dtIF1 (by kernel_rfl) (by kernel_rfl) (by kernel_rfl) (List.Sublist.refl _) ?_) | (show drawK _ 19 _ _ _ _ _ _; refine draw_tree tabOk mixed [9] _ dtIF2 (by kernel_rfl) (by kernel_rfl) (by kernel_rfl) (List.Sublist.refl _) ?_) | (show drawK _ 10 _ _ _ _ _ _; refine draw_tree tabOk mixed [14] _ dtIF3 (by kernel_rfl) (by kernel_rfl) (by kernel_rfl) (List.Sublist.refl _) ?_) | (show Wp _ _ _ _ _ _ _; refine Wp.go tabOk rfl ?_) | (show @cmpK _ _ _; (first | refine cmpY ?_ | refine cmpN ?_ | (refine cmp_both ?_ ?_ <;> intro _))) | (show wrapK _ _ _; refine wrapA ?_) | (show leK _ _ _; refine leA ?_) | (show roomK _ _ _; refine roomA ?_) | (show ltK _ _ _; refine ltA ?_) | (show _ ∧ _; refine ⟨?_, ?_⟩) | (show keepK _ _ _ _ _; refine keepA ?_) | refine own_keep ?_ | refine ap_old ?_))
  refine Wp.loop (σ := Nat) 2 (fun o => [(1, .c a.val), (2, .c b.val), (3, .lp 0 0 0 0), (7, .os 1 cnt), (15, .c (.int .i64 cnt)), (16, .c (.int .i64 o))]) (fun o => [(1, .rows (ints (gridI cnt (numsLin n cnt o T a.xs))) 1 3), (0, .box [.c (.int .i64 n.kind), .c (.int .i64 n.a), .c (.int .i64 n.b), .c n.shape.val, .c (.int .i64 n.lo), .c (.int .i64 n.hi), .c (.int .i64 n.size), .c n.data.val, .c n.bias.val, .c inV, .fn (.func F) [.c P0] [], .c (.int .i64 (cnt : Int))] 75)]) (fun _ => baseA w)
    (fun o => o ≤ cnt) (fun o => cnt - o) 0 [] (by decide) (fun s => ⟨rfl, rfl⟩) (Nat.zero_le _) ⟨rfl, ⟨rfl, rfl, rfl, rfl, rfl, rfl, trivial⟩, ⟨?_, (by repeat (first | exact List.mem_cons_self | apply List.mem_cons_of_mem)), trivial⟩, fun _ _ h => h⟩ ?_
  · have : ints (gridI cnt (numsLin n cnt 0 T a.xs)) = List.replicate cnt [Value.int .i64 0] := by simp [ints, gridI, numsLin]
    show (1, Ent.rows (ints (gridI cnt (numsLin n cnt 0 T a.xs))) 1 3) ∈ _
    rw [this]
    exact (by repeat (first | exact List.mem_cons_self | apply List.mem_cons_of_mem))
  rintro o ho
  have hlen : (numsLin n cnt o T a.xs).length = o := by simp [numsLin]
  by_cases hlt : o < cnt
  · have hsnoc : numsLin n cnt (o + 1) T a.xs = numsLin n cnt o T a.xs ++ [(T o).foldl (fNum a.xs) (biasI n cnt o)] := by unfold numsLin; rw [List.range_succ, List.map_append]; rfl
    have hbd := biasI_bd hn o
    have htb := hT.bd o hlt
    have htf := hT.few o hlt
    have hta := hat o hlt
    have hC : ∀ {R : Nat → Prop} {w' : World}, (baseA w).holds R w' → Calls Try.prog F #[P0, .int .i64 o] w' (TermsPost w' (T o)) := fun h => hT.calls _ _ h o hlt
    (repeat' ((conv => whnf) <;> first | (show idxRowK _ _ _ _ _ _; (refine idxRow_of o rfl hlt (by rw [ints_length, gridI_length (by omega)]; exact Nat.le_refl _) ?_)) | (show rowStoreK _ _ _ _ _; refine gridI_store hlen hlt ?_) | (show callK _ 79 _ _ _ _ _; refine call_pure (f := 79) Try.call79 (.int .i64 (biasI n cnt o)) (fun ρ w' hw => bias_any w' n (holds_of_abs hw fun R h => hn.bias.later h) hk inV (.func (.func F) #[P0] #[]) cnt o hfew hlt hn.three (fun h4 => ⟨(hn.four h4).1, (hn.four h4).2.1, (hn.four h4).2.2 o hlt⟩)) ?_) | ((show callK _ F _ _ _ _ _); refine call_terms (T o) hT.enter (fun ρ w' hw => holds_of_abs hw fun R h => hC h) ?_) | (show drawK _ 15 _ _ _ _ _ _; refine draw_tree tabOk mixed [12] _ dtIF0 (by kernel_rfl) (by kernel_rfl) (by kernel_rfl) (List.Sublist.refl _) ?_) | (show drawK _ 17 _ _ _ _ _ _; refine draw_tree tabOk mixed [13] _ dtIF1 (by kernel_rfl) (by kernel_rfl) (by kernel_rfl) (List.Sublist.refl _) ?_) | (show drawK _ 19 _ _ _ _ _ _; refine draw_tree tabOk mixed [9] _ dtIF2 (by kernel_rfl) (by kernel_rfl) (by kernel_rfl) (List.Sublist.refl _) ?_) | (show drawK _ 10 _ _ _ _ _ _; refine draw_tree tabOk mixed [14] _ dtIF3 (by kernel_rfl) (by kernel_rfl) (by kernel_rfl) (List.Sublist.refl _) ?_) | (show Wp _ _ _ _ _ _ _; refine Wp.go tabOk rfl ?_) | (show @cmpK _ _ _; (first | refine cmpY ?_ | refine cmpN ?_ | (refine cmp_both ?_ ?_ <;> intro _))) | (show wrapK _ _ _; refine wrapA ?_) | (show leK _ _ _; refine leA ?_) | (show roomK _ _ _; refine roomA ?_) | (show ltK _ _ _; refine ltA ?_) | (show _ ∧ _; refine ⟨?_, ?_⟩) | (show keepK _ _ _ _ _; refine keepA ?_) | refine own_keep ?_ | refine ap_old ?_))
    refine Wp.loop (σ := Nat × Int) 3 (fun ⟨j, cur⟩ => [(1, .c a.val), (2, .c b.val), (3, .lp 0 0 0 0), (7, .os 1 cnt), (8, .c (.int .i64 o)), (15, .c (.int .i64 cnt)), (16, .c (.int .i64 o)), (31, .os 2 (T o).length), (32, .c (.int .i64 (T o).length)), (33, .c (.int .i64 j))]) (fun ⟨j, cur⟩ => [(2, .rows (spRows (T o)) 2 110), (1, .rows (ints (gridI cnt (numsLin n cnt o T a.xs ++ [cur]))) 1 3), (0, .box [.c (.int .i64 n.kind), .c (.int .i64 n.a), .c (.int .i64 n.b), .c n.shape.val, .c (.int .i64 n.lo), .c (.int .i64 n.hi), .c (.int .i64 n.size), .c n.data.val, .c n.bias.val, .c inV, .fn (.func F) [.c P0] [], .c (.int .i64 (cnt : Int))] 75)]) (fun _ => baseA w)
      (fun ⟨j, cur⟩ => j ≤ (T o).length ∧ cur = ((T o).take j).foldl (fNum a.xs) (biasI n cnt o)) (fun s => (T o).length - s.1) (0, biasI n cnt o) [] (by decide) (fun s => ⟨rfl, rfl⟩) ⟨Nat.zero_le _, rfl⟩ ⟨rfl, ⟨rfl, rfl, rfl, rfl, rfl, rfl, rfl, rfl, rfl, rfl, trivial⟩, ⟨(by repeat (first | exact List.mem_cons_self | apply List.mem_cons_of_mem)), (by repeat (first | exact List.mem_cons_self | apply List.mem_cons_of_mem)), (by repeat (first | exact List.mem_cons_self | apply List.mem_cons_of_mem)), trivial⟩, fun _ _ h => h⟩ ?_
    rintro ⟨j, cur⟩ ⟨hj, hcur⟩
    by_cases hjl : j < (T o).length
    · have s1 := fold_snoc (f := fNum a.xs) (s := biasI n cnt o) hjl
      have hrow := spRows_get hjl
      have hwb := htb _ (List.getElem_mem hjl)
      have hwa := hta _ (List.getElem_mem hjl)
      have g := num_bd hab (l := (T o).take j) (s := biasI n cnt o) (fun x hx => htb x (List.mem_of_mem_take hx))
      rw [← hcur, List.length_take, Nat.min_eq_left hj] at g
      rw [← hcur] at s1
      generalize (T o)[j] = s at *
      have q1 := mul_bd (A := 1048576) (B := 1048576) hwb (getD_bd hab s.2.toNat)
      unfold bd20 at hbd
      obtain ⟨ua, hua⟩ := ha.base (by omega)
      have hur : ∀ (R : Nat → Prop) w', (baseA w).holds R w' → RowsI w' (some ua) 1 (ints a.xs) := fun R w' h => by rw [← hua]; exact rows_base h ha.rows
      (repeat' ((conv => whnf) <;> first | (show idxRowK _ _ _ _ _ _; (first | refine idxRow_of j rfl hjl (by rw [spRows_length]; exact Nat.le_refl _) ?_ | refine idxRow_of o rfl hlt (by rw [ints_length, gridI_length (by rw [List.length_append, List.length_singleton]; omega)]; exact Nat.le_refl _) ?_)) | (show rowAggK _ _ _ _ _; refine rowAgg_of _ _ hrow rfl rfl ?_) | (show rowK _ _ _ _; refine row_of _ _ (gridI_at hlen hlt) rfl ?_) | (show idxK _ _ _ _ _; refine idx_z hua (by omega) (by omega) ?_) | (show roK _ _ _; refine ro_int hur (j := s.2.toNat) (by omega) ?_) | (show rowStoreK _ _ _ _ _; refine gridI_set hlen hlt ?_) | (show drawK _ 15 _ _ _ _ _ _; refine draw_tree tabOk mixed [12] _ dtIF0 (by kernel_rfl) (by kernel_rfl) (by kernel_rfl) (List.Sublist.refl _) ?_) | (show drawK _ 17 _ _ _ _ _ _; refine draw_tree tabOk mixed [13] _ dtIF1 (by kernel_rfl) (by kernel_rfl) (by kernel_rfl) (List.Sublist.refl _) ?_) | (show drawK _ 19 _ _ _ _ _ _; refine draw_tree tabOk mixed [9] _ dtIF2 (by kernel_rfl) (by kernel_rfl) (by kernel_rfl) (List.Sublist.refl _) ?_) | (show drawK _ 10 _ _ _ _ _ _; refine draw_tree tabOk mixed [14] _ dtIF3 (by kernel_rfl) (by kernel_rfl) (by kernel_rfl) (List.Sublist.refl _) ?_) | (show Wp _ _ _ _ _ _ _; refine Wp.go tabOk rfl ?_) | (show @cmpK _ _ _; (first | refine cmpY ?_ | refine cmpN ?_ | (refine cmp_both ?_ ?_ <;> intro _))) | (show wrapK _ _ _; refine wrapA ?_) | (show leK _ _ _; refine leA ?_) | (show roomK _ _ _; refine roomA ?_) | (show ltK _ _ _; refine ltA ?_) | (show _ ∧ _; refine ⟨?_, ?_⟩) | (show keepK _ _ _ _ _; refine keepA ?_) | refine own_keep ?_ | refine ap_old ?_))
      all_goals (conv => whnf)
      all_goals exact ⟨(j + 1, _), [], ⟨hjl, by rw [s1, fNum]⟩, by simp only; omega, rfl, ⟨rfl, rfl, rfl, rfl, rfl, rfl, rfl, rfl, rfl, rfl, trivial⟩, ⟨(by repeat (first | exact List.mem_cons_self | apply List.mem_cons_of_mem)), (by repeat (first | exact List.mem_cons_self | apply List.mem_cons_of_mem)), (by repeat (first | exact List.mem_cons_self | apply List.mem_cons_of_mem)), trivial⟩, fun _ _ h => h⟩
    · obtain rfl : j = (T o).length := by omega
      rw [List.take_of_length_le (Nat.le_refl _)] at hcur
      (repeat' ((conv => whnf) <;> first | (show drawK _ 15 _ _ _ _ _ _; refine draw_tree tabOk mixed [12] _ dtIF0 (by kernel_rfl) (by kernel_rfl) (by kernel_rfl) (List.Sublist.refl _) ?_) | (show drawK _ 17 _ _ _ _ _ _; refine draw_tree tabOk mixed [13] _ dtIF1 (by kernel_rfl) (by kernel_rfl) (by kernel_rfl) (List.Sublist.refl _) ?_) | (show drawK _ 19 _ _ _ _ _ _; refine draw_tree tabOk mixed [9] _ dtIF2 (by kernel_rfl) (by kernel_rfl) (by kernel_rfl) (List.Sublist.refl _) ?_) | (show drawK _ 10 _ _ _ _ _ _; refine draw_tree tabOk mixed [14] _ dtIF3 (by kernel_rfl) (by kernel_rfl) (by kernel_rfl) (List.Sublist.refl _) ?_) | (show Wp _ _ _ _ _ _ _; refine Wp.go tabOk rfl ?_) | (show @cmpK _ _ _; (first | refine cmpY ?_ | refine cmpN ?_ | (refine cmp_both ?_ ?_ <;> intro _))) | (show wrapK _ _ _; refine wrapA ?_) | (show leK _ _ _; refine leA ?_) | (show roomK _ _ _; refine roomA ?_) | (show ltK _ _ _; refine ltA ?_) | (show _ ∧ _; refine ⟨?_, ?_⟩) | (show keepK _ _ _ _ _; refine keepA ?_) | refine own_keep ?_ | refine ap_old ?_))
      conv => whnf
      exact ⟨o + 1, [], hlt, by omega, rfl, ⟨rfl, rfl, rfl, rfl, rfl, rfl, trivial⟩, ⟨by
        show (1, Ent.rows (ints (gridI cnt (numsLin n cnt (o + 1) T a.xs))) 1 3) ∈ _
        rw [hsnoc, ← hcur]; exact (by repeat (first | exact List.mem_cons_self | apply List.mem_cons_of_mem)), (by repeat (first | exact List.mem_cons_self | apply List.mem_cons_of_mem)), trivial⟩, fun _ _ h => h⟩
  · obtain rfl : o = cnt := by omega
    have hgr : gridI o (numsLin n o o T a.xs) = numsLin n o o T a.xs := by unfold gridI; rw [hlen, Nat.sub_self]; simp
    (repeat' ((conv => whnf) <;> first | (show drawK _ 15 _ _ _ _ _ _; refine draw_tree tabOk mixed [12] _ dtIF0 (by kernel_rfl) (by kernel_rfl) (by kernel_rfl) (List.Sublist.refl _) ?_) | (show drawK _ 17 _ _ _ _ _ _; refine draw_tree tabOk mixed [13] _ dtIF1 (by kernel_rfl) (by kernel_rfl) (by kernel_rfl) (List.Sublist.refl _) ?_) | (show drawK _ 19 _ _ _ _ _ _; refine draw_tree tabOk mixed [9] _ dtIF2 (by kernel_rfl) (by kernel_rfl) (by kernel_rfl) (List.Sublist.refl _) ?_) | (show drawK _ 10 _ _ _ _ _ _; refine draw_tree tabOk mixed [14] _ dtIF3 (by kernel_rfl) (by kernel_rfl) (by kernel_rfl) (List.Sublist.refl _) ?_) | (show Wp _ _ _ _ _ _ _; refine Wp.go tabOk rfl ?_) | (show @cmpK _ _ _; (first | refine cmpY ?_ | refine cmpN ?_ | (refine cmp_both ?_ ?_ <;> intro _))) | (show wrapK _ _ _; refine wrapA ?_) | (show leK _ _ _; refine leA ?_) | (show roomK _ _ _; refine roomA ?_) | (show ltK _ _ _; refine ltA ?_) | (show _ ∧ _; refine ⟨?_, ?_⟩) | (show keepK _ _ _ _ _; refine keepA ?_) | refine own_keep ?_ | refine ap_old ?_))
    conv => whnf
    refine ints_endG hgr (fun _ _ h => h) rfl (by repeat (first | exact List.mem_cons_self | apply List.mem_cons_of_mem)) (by rw [hlen]) (fun x hx => ?_) (by rw [hlen]; omega)
    obtain ⟨q, hq, rfl⟩ := List.mem_map.1 hx
    rw [List.mem_range] at hq
    have g := num_bd hab (l := T q) (s := biasI n o q) (hT.bd q hq)
    have gf := hT.few q hq
    have gb := biasI_bd hn q
    unfold bd20 at gb
    unfold i64
    omega
end Go.Proofs.Ytdmkdogakbipbaa

/- IU -/
namespace Go.Proofs.Ytdmkdogakbipbaa
open Go.SX Go.RowKit
theorem entries3_valI {a b c : Int} (h : 0 < entries [a, b, c]) : entries [a, b, c] = a * b * c := by
  unfold entries at h ⊢
  rw [if_neg (by simp)] at h ⊢
  simp only [entLoop] at h ⊢
  split at h
  · simp at h
  · rename_i h1
    split at h
    · simp at h
    · rename_i h2
      split at h
      · simp at h
      · rename_i h3
        rw [if_neg h1, if_neg h2, if_neg h3]
        grind
theorem kernel4I {a b c e : Int} (h : 0 < kernelI [a, b, c, e]) : kernelI [a, b, c, e] = a * b * c * e := by
  unfold kernelI at h ⊢
  rw [if_pos (by simp)] at h ⊢
  simp only [kerLoop] at h ⊢
  split at h
  · simp at h
  · rename_i h1
    split at h
    · simp at h
    · rename_i h2
      split at h
      · simp at h
      · rename_i h3
        split at h
        · simp at h
        · rename_i h4
          rw [if_neg h1, if_neg h2, if_neg h3, if_neg h4]
          grind
theorem div2_lt {o k h w : Int} (ho : o < k * h * w) (hw : 0 < w) (hh : 0 < h) : o / w / h < k :=
  Int.ediv_lt_of_lt_mul hh (Int.ediv_lt_of_lt_mul hw ho)
theorem conv_at {d : List Int} {k1 k2 k3 i1 i2 o : Int} {i : Nat} (h1 : 1 ≤ k1) (h2 : 1 ≤ k2 ∧ k2 ≤ i1) (h3 : 1 ≤ k3 ∧ k3 ≤ i2) (ho : 0 ≤ o) (hi : (i : Int) < k1 * k2 * k3) : 0 ≤ (convTerm d k1 k2 k3 i1 i2 o i).2 ∧ (convTerm d k1 k2 k3 i1 i2 o i).2 < k1 * i1 * i2 := by
  have hW : 0 < i2 - k3 + 1 := by omega
  have hH : 0 < i1 - k2 + 1 := by omega
  obtain ⟨d1, d2, d3, d4⟩ := div_bd ho hW
  obtain ⟨d5, d6, d7, d8⟩ := div_bd d1 hH
  obtain ⟨c1, c2, c3, c4⟩ := div_bd (x := (i : Int)) (y := k3) (by omega) (by omega)
  obtain ⟨c5, c6, c7, c8⟩ := div_bd (x := (i : Int) / k3) (y := k2) c1 (by omega)
  have hc := div2_lt (o := (i : Int)) (k := k1) (h := k2) (w := k3) hi (by omega) (by omega)
  show 0 ≤ ((i : Int) / k3 / k2 * i1 + o / (i2 - k3 + 1) % (i1 - k2 + 1) + (i : Int) / k3 % k2) * i2 + o % (i2 - k3 + 1) + (i : Int) % k3 ∧ ((i : Int) / k3 / k2 * i1 + o / (i2 - k3 + 1) % (i1 - k2 + 1) + (i : Int) / k3 % k2) * i2 + o % (i2 - k3 + 1) + (i : Int) % k3 < k1 * i1 * i2
  generalize (i : Int) / k3 / k2 = C at *
  generalize o / (i2 - k3 + 1) % (i1 - k2 + 1) = Y at *
  generalize (i : Int) / k3 % k2 = DY at *
  generalize o % (i2 - k3 + 1) = X at *
  generalize (i : Int) % k3 = DX at *
  have e1 : C * i1 ≤ (k1 - 1) * i1 := Int.mul_le_mul_of_nonneg_right (by omega) (by omega)
  rw [Int.sub_mul, Int.one_mul] at e1
  have e0 : 0 ≤ C * i1 := Int.mul_nonneg c5 (by omega)
  have e2 : (C * i1 + Y + DY) * i2 ≤ (k1 * i1 - 1) * i2 := Int.mul_le_mul_of_nonneg_right (by omega) (by omega)
  rw [Int.sub_mul, Int.one_mul] at e2
  have e3 : 0 ≤ (C * i1 + Y + DY) * i2 := Int.mul_nonneg (by omega) (by omega)
  omega
theorem pool_at {z i0 i1 i2 o : Int} {i : Nat} (hz : 1 ≤ z) (h1 : z ≤ i1) (h2 : z ≤ i2) (m1 : i1 % z = 0) (m2 : i2 % z = 0) (ho : 0 ≤ o ∧ o < i0 * (i1 / z) * (i2 / z)) (hi : (i : Int) < z * z) : 0 ≤ (poolTerm z i1 i2 o i).2 ∧ (poolTerm z i1 i2 o i).2 < i0 * i1 * i2 := by
  have hW := div_pos1 (x := i2) (y := z) (by omega) h2
  have hH := div_pos1 (x := i1) (y := z) (by omega) h1
  have q1 := Int.mul_ediv_add_emod i1 z
  have q2 := Int.mul_ediv_add_emod i2 z
  obtain ⟨d1, d2, d3, d4⟩ := div_bd (x := o) (y := i2 / z) ho.1 (by omega)
  obtain ⟨d5, d6, d7, d8⟩ := div_bd (x := o / (i2 / z)) (y := i1 / z) d1 (by omega)
  obtain ⟨c1, c2, c3, c4⟩ := div_bd (x := (i : Int)) (y := z) (by omega) (by omega)
  have hdy : (i : Int) / z < z := Int.ediv_lt_of_lt_mul (by omega) hi
  have hc := div2_lt (o := o) (k := i0) (h := i1 / z) (w := i2 / z) ho.2 (by omega) (by omega)
  show 0 ≤ (o / (i2 / z) / (i1 / z) * i1 + o / (i2 / z) % (i1 / z) * z + (i : Int) / z) * i2 + o % (i2 / z) * z + (i : Int) % z ∧ (o / (i2 / z) / (i1 / z) * i1 + o / (i2 / z) % (i1 / z) * z + (i : Int) / z) * i2 + o % (i2 / z) * z + (i : Int) % z < i0 * i1 * i2
  generalize o / (i2 / z) / (i1 / z) = C at *
  generalize o / (i2 / z) % (i1 / z) = Y at *
  generalize o % (i2 / z) = X at *
  generalize (i : Int) / z = DY at *
  generalize (i : Int) % z = DX at *
  have y1 : Y * z ≤ (i1 / z - 1) * z := Int.mul_le_mul_of_nonneg_right (by omega) (by omega)
  have x1 : X * z ≤ (i2 / z - 1) * z := Int.mul_le_mul_of_nonneg_right (by omega) (by omega)
  have y2 : (i1 / z - 1) * z = z * (i1 / z) - z := by rw [Int.sub_mul, Int.one_mul, Int.mul_comm]
  have x2 : (i2 / z - 1) * z = z * (i2 / z) - z := by rw [Int.sub_mul, Int.one_mul, Int.mul_comm]
  have y0 : 0 ≤ Y * z := Int.mul_nonneg d7 (by omega)
  have x0 : 0 ≤ X * z := Int.mul_nonneg d3 (by omega)
  have y1' : Y * z ≤ i1 - z := by omega
  have x1' : X * z ≤ i2 - z := by omega
  have e1 : C * i1 ≤ (i0 - 1) * i1 := Int.mul_le_mul_of_nonneg_right (by omega) (by omega)
  rw [Int.sub_mul, Int.one_mul] at e1
  have e0 : 0 ≤ C * i1 := Int.mul_nonneg d5 (by omega)
  have e2 : (C * i1 + Y * z + DY) * i2 ≤ (i0 * i1 - 1) * i2 := Int.mul_le_mul_of_nonneg_right (by omega) (by omega)
  rw [Int.sub_mul, Int.one_mul] at e2
  have e3 : 0 ≤ (C * i1 + Y * z + DY) * i2 := Int.mul_nonneg (by omega) (by omega)
  omega
end Go.Proofs.Ytdmkdogakbipbaa

/- IV -/
namespace Go.Proofs.Ytdmkdogakbipbaa
open Go.SX Go.RowKit
def termsG (n : NodeV) (tl : List Int) (o : Nat) : List Sp :=
  if n.kind = 3 then denseT n o (entries tl).toNat
  else if n.kind = 4 then convT n.data.xs (n.shape.xs.getD 1 0) (n.shape.xs.getD 2 0) (n.shape.xs.getD 3 0) (tl.getD 1 0) (tl.getD 2 0) o
  else poolT n.size (tl.getD 1 0) (tl.getD 2 0) o
theorem form4 {n : NodeV} {at_ : Nat} (h : formB n at_ = true) (hk : n.kind = 4) : (n.data.xs.length : Int) = kernelI n.shape.xs ∧ (n.bias.xs.length : Int) = n.shape.xs.getD 0 0 := by
  unfold formB at h
  repeat (first | rw [if_pos (by omega)] at h | rw [if_neg (by omega)] at h)
  simp only [Bool.and_eq_true, decide_eq_true_eq] at h
  exact ⟨h.1.2, h.2⟩
theorem list4 {l : List Int} (h : l.length = 4) : l = [l.getD 0 0, l.getD 1 0, l.getD 2 0, l.getD 3 0] := by
  match l, h with
  | [a, b, c, d], _ => rfl
/-- what a node over weights, at its place, is known to be -/
structure LinIn (n : NodeV) (t : IntsV) (cnt : Nat) (F : FuncId) (P0 : Value) : Prop where
  fn : termsF n t.val cnt = .func (.func F) #[P0] #[]
  terms : ∀ w, t.ok w → n.ok w → TermsOk w F P0 cnt (termsG n t.xs)
  lin : ∀ w, n.ok w → LinOk w n cnt
  at_ : ∀ o, o < cnt → ∀ s ∈ termsG n t.xs o, 0 ≤ s.2 ∧ s.2 < entries t.xs
set_option maxHeartbeats 1000000 in
theorem lin_in {n : NodeV} {sh : List (List Int)} {s : List Int} {t : IntsV} {cnt : Nat} (hn : NodeIn n sh s) (hk : n.kind = 3 ∨ n.kind = 4 ∨ n.kind = 5) (ht : sh.getD n.a.toNat [] = t.xs) (hg : 0 < entries t.xs) (hgs : ∀ q ∈ sh, 0 < entries q) (hc : entries s = cnt) : ∃ F P0, LinIn n t cnt F P0 := by
  have hsh := hn.shape
  have hfo := formed_of hn.form
  have h4 := form4 hn.form
  obtain ⟨nd, nb, _, _, _⟩ := near_in hn.near
  have heb := (entries_bd t.xs).2
  have hcb : cnt ≤ 64 := by have := (entries_bd s).2; omega
  have hsp := (entries_bd s).1
  rcases hk with hk | hk | hk
  · unfold shapeO at hsh
    rw [if_neg (by omega), if_pos hk, ht] at hsh
    by_cases hdl : (n.data.xs.length : Int) = n.bias.xs.length * entries t.xs
    · rw [if_pos hdl, Option.some.injEq] at hsh
      obtain ⟨b1, b2⟩ := hfo.bias hk
      have he1 : entries [(n.bias.xs.length : Int)] = n.bias.xs.length := by
        unfold entries
        rw [if_neg (by simp)]
        simp only [entLoop]
        rw [if_neg (by omega)]
        omega
      rw [← hsh, he1] at hc
      have hbl : n.bias.xs.length = cnt := by omega
      obtain ⟨size, hsz⟩ : ∃ size : Nat, entries t.xs = size := ⟨(entries t.xs).toNat, by omega⟩
      have hdl' : n.data.xs.length = n.bias.xs.length * size := by
        rw [hsz, ← Int.natCast_mul] at hdl
        exact Int.ofNat.inj hdl
      have hG : ∀ o, termsG n t.xs o = denseT n o size := fun o => by unfold termsG; rw [if_pos hk, hsz]; rfl
      refine ⟨_, _, if_pos hk, fun w hto hno => ⟨Try.call75, fun R w' hb o ho => ?_, fun o ho => ?_, fun o ho x hx => ?_⟩, fun w hno => ⟨.inl hk, hno.bias, nb, hcb, fun _ => hbl, fun h => by omega⟩, fun o ho x hx => ?_⟩
      · rw [hG]
        exact dense_any w' n (hno.data.later hb) ⟨b1, b2⟩ (.slice none 0 0) .nilFunc cnt o size (by omega) hdl' (by omega)
      · rw [hG]; simp [denseT]; omega
      · rw [hG] at hx
        obtain ⟨i, _, rfl⟩ := List.mem_map.1 hx
        exact getD_bd nd _
      · rw [hG] at hx
        obtain ⟨i, hi, rfl⟩ := List.mem_map.1 hx
        rw [List.mem_range] at hi
        simp only
        omega
    · rw [if_neg hdl] at hsh; cases hsh
  · obtain ⟨g1, g2⟩ := h4 hk
    have hker := hfo.kern hk
    obtain ⟨hl4, hdim⟩ := kernel_dims hker
    have hsx := list4 hl4
    unfold shapeO at hsh
    rw [if_neg (by omega), if_neg (by omega), if_pos hk, ht] at hsh
    have hG : ∀ o, termsG n t.xs o = convT n.data.xs (n.shape.xs.getD 1 0) (n.shape.xs.getD 2 0) (n.shape.xs.getD 3 0) (t.xs.getD 1 0) (t.xs.getD 2 0) o := fun o => by unfold termsG; rw [if_neg (by omega), if_pos hk]
    have dm : ∀ k, k < 4 → 1 ≤ n.shape.xs.getD k 0 ∧ n.shape.xs.getD k 0 ≤ 64 := fun k hk => hdim _ (getD_mem (by omega))
    have dm0 := dm 0 (by decide)
    have dm1 := dm 1 (by decide)
    have dm2 := dm 2 (by decide)
    have dm3 := dm 3 (by decide)
    rw [hsx] at g1 hker
    have hke := kernel4I hker
    rw [hke] at g1
    generalize n.shape.xs.getD 0 0 = k0 at *
    generalize n.shape.xs.getD 1 0 = k1 at *
    generalize n.shape.xs.getD 2 0 = k2 at *
    generalize n.shape.xs.getD 3 0 = k3 at *
    by_cases hbad : t.xs.length ≠ 3 ∨ t.xs.getD 0 0 ≠ k1 ∨ t.xs.getD 1 0 < k2 ∨ t.xs.getD 2 0 < k3
    · rw [if_pos hbad] at hsh; cases hsh
    rw [if_neg hbad] at hsh
    have hl3 : t.xs.length = 3 := by omega
    have htx := len3 hl3
    have tdm := (entries_dims hg).2.2
    have td1 := tdm _ (getD_mem (xs := t.xs) (k := 1) (by omega))
    have td2 := tdm _ (getD_mem (xs := t.xs) (k := 2) (by omega))
    have te : entries t.xs = k1 * t.xs.getD 1 0 * t.xs.getD 2 0 := by
      have h0 : t.xs.getD 0 0 = k1 := by omega
      have := entries3_valI (a := t.xs.getD 0 0) (b := t.xs.getD 1 0) (c := t.xs.getD 2 0) (by rw [← htx]; exact hg)
      rw [← htx, h0] at this
      exact this
    generalize hi0 : t.xs.getD 0 0 = i0 at *
    generalize t.xs.getD 1 0 = i1 at *
    generalize t.xs.getD 2 0 = i2 at *
    by_cases hpos : 0 < entries [k0, i1 - k2 + 1, i2 - k3 + 1]
    · rw [if_pos hpos, Option.some.injEq] at hsh
      have hcv := entries3_valI hpos
      rw [hsh, hc] at hcv
      have hQ : k1 * k2 * k3 ≤ k1 * i1 * i2 := by
        have q1 : k1 * k2 ≤ k1 * i1 := Int.mul_le_mul_of_nonneg_left (by omega) (by omega)
        have q0 : 0 < k1 * k2 := Int.mul_pos (by omega) (by omega)
        exact Int.mul_le_mul q1 (by omega) (by omega) (by omega)
      have hQ0 : 0 < k1 * k2 * k3 := Int.mul_pos (Int.mul_pos (by omega) (by omega)) (by omega)
      have hob : ∀ o : Nat, o < cnt → (o : Int) < k0 * (i1 - k2 + 1) * (i2 - k3 + 1) := fun o ho => by rw [← hcv]; omega
      refine ⟨_, _, by unfold termsF; rw [if_neg (by omega), if_pos hk], fun w hto hno => ⟨Try.call76, fun R w' hb o ho => ?_, fun o ho => ?_, fun o ho x hx => ?_⟩, fun w hno => ⟨.inr (.inl hk), hno.bias, nb, hcb, fun h => by omega, fun _ => ?_⟩, fun o ho x hx => ?_⟩
      · rw [hG]
        exact conv_any w' n t (hno.data.later hb) (hno.shape.later hb) (hto.later hb) .nilFunc cnt k0 k1 k2 k3 i1 i2 o ⟨hsx, ⟨i0, htx⟩, dm1, by omega, by omega, by omega, by omega, g1, by omega, by omega, div2_lt (hob o ho) (by omega) (by omega)⟩
      · rw [hG]; simp only [convT, List.length_map, List.length_range]; omega
      · rw [hG] at hx
        obtain ⟨i, _, rfl⟩ := List.mem_map.1 hx
        exact getD_bd nd _
      · have hw1 : 0 < (i1 - k2 + 1) * (i2 - k3 + 1) := Int.mul_pos (by omega) (by omega)
        obtain ⟨A, hA⟩ : ∃ A : Nat, (i1 - k2 + 1) * (i2 - k3 + 1) = A := ⟨((i1 - k2 + 1) * (i2 - k3 + 1)).toNat, by omega⟩
        obtain ⟨B, hB⟩ : ∃ B : Nat, k0 = B := ⟨k0.toNat, by omega⟩
        have hcA : cnt = B * A := by
          have : (cnt : Int) = B * A := by rw [hcv, Int.mul_assoc, hA, hB]
          exact_mod_cast this
        have hbB : n.bias.xs.length = B := by omega
        have hA1 : 1 ≤ A := by omega
        have hB1 : 1 ≤ B := by omega
        rw [hbB, hcA]
        refine ⟨hB1, Nat.le_mul_of_pos_right B hA1, fun o ho => ?_⟩
        rw [Nat.mul_div_cancel_left A hB1]
        exact (Nat.div_lt_iff_lt_mul hA1).2 ho
      · rw [hG] at hx
        obtain ⟨i, hi, rfl⟩ := List.mem_map.1 hx
        rw [List.mem_range] at hi
        rw [te]
        exact conv_at (by omega) (by omega) (by omega) (by omega) (by omega)
    · rw [if_neg hpos] at hsh; cases hsh
  · have hz := hfo.pool hk
    unfold shapeO at hsh
    rw [if_neg (by omega), if_neg (by omega), if_neg (by omega), if_pos hk, ht] at hsh
    have hG : ∀ o, termsG n t.xs o = poolT n.size (t.xs.getD 1 0) (t.xs.getD 2 0) o := fun o => by unfold termsG; rw [if_neg (by omega), if_neg (by omega)]
    by_cases hbad : t.xs.length ≠ 3 ∨ t.xs.getD 1 0 % n.size ≠ 0 ∨ t.xs.getD 2 0 % n.size ≠ 0
    · rw [if_pos hbad] at hsh; cases hsh
    rw [if_neg hbad, Option.some.injEq] at hsh
    have hl3 : t.xs.length = 3 := by omega
    have htx := len3 hl3
    have tdm := (entries_dims hg).2.2
    have td0 := tdm _ (getD_mem (xs := t.xs) (k := 0) (by omega))
    have td1 := tdm _ (getD_mem (xs := t.xs) (k := 1) (by omega))
    have td2 := tdm _ (getD_mem (xs := t.xs) (k := 2) (by omega))
    have te : entries t.xs = t.xs.getD 0 0 * t.xs.getD 1 0 * t.xs.getD 2 0 := by
      have := entries3_valI (a := t.xs.getD 0 0) (b := t.xs.getD 1 0) (c := t.xs.getD 2 0) (by rw [← htx]; exact hg)
      rw [← htx] at this
      exact this
    generalize t.xs.getD 0 0 = i0 at *
    generalize t.xs.getD 1 0 = i1 at *
    generalize t.xs.getD 2 0 = i2 at *
    have m1 : i1 % n.size = 0 := by omega
    have m2 : i2 % n.size = 0 := by omega
    have z1 : n.size ≤ i1 := by
      rcases (by omega : i1 < n.size ∨ n.size ≤ i1) with hlt | hge
      · rw [Int.emod_eq_of_lt (by omega) hlt] at m1; omega
      · exact hge
    have z2 : n.size ≤ i2 := by
      rcases (by omega : i2 < n.size ∨ n.size ≤ i2) with hlt | hge
      · rw [Int.emod_eq_of_lt (by omega) hlt] at m2; omega
      · exact hge
    have hpos : 0 < entries [i0, i1 / n.size, i2 / n.size] := by
      have := shape_good hfo hgs hn.shape rfl
      rw [hsh]; exact this
    have hcv := entries3_valI hpos
    rw [hsh, hc] at hcv
    have hQ : n.size * n.size ≤ i1 * i2 := Int.mul_le_mul z1 z2 (by omega) (by omega)
    have hQ2 : i1 * i2 ≤ i0 * i1 * i2 := by
      have : 1 * (i1 * i2) ≤ i0 * (i1 * i2) := Int.mul_le_mul_of_nonneg_right (by omega) (Int.mul_nonneg (by omega) (by omega))
      rw [Int.mul_assoc]; omega
    have hob : ∀ o : Nat, o < cnt → (o : Int) < i0 * (i1 / n.size) * (i2 / n.size) := fun o ho => by rw [← hcv]; omega
    refine ⟨_, _, by unfold termsF; rw [if_neg (by omega), if_neg (by omega)], fun w hto hno => ⟨Try.call77, fun R w' hb o ho => ?_, fun o ho => ?_, fun o ho x hx => ?_⟩, fun w hno => ⟨.inr (.inr hk), hno.bias, nb, hcb, fun h => by omega, fun h => by omega⟩, fun o ho x hx => ?_⟩
    · rw [hG]
      exact pool_any w' n t (hto.later hb) .nilFunc cnt i1 i2 o ⟨⟨i0, htx⟩, by omega, z2, by omega, by omega, by omega⟩
    · rw [hG]; simp only [poolT, List.length_map, List.length_range]; omega
    · rw [hG] at hx
      obtain ⟨i, _, rfl⟩ := List.mem_map.1 hx
      exact ⟨(show (-1048576 : Int) ≤ 1 by decide), (show (1 : Int) ≤ 1048576 by decide)⟩
    · rw [hG] at hx
      obtain ⟨i, hi, rfl⟩ := List.mem_map.1 hx
      rw [List.mem_range] at hi
      rw [te]
      have hzz := Int.mul_pos (show 0 < n.size by omega) (show 0 < n.size by omega)
      exact pool_at (by omega) z1 z2 m1 m2 ⟨by omega, hob o ho⟩ (by omega)
end Go.Proofs.Ytdmkdogakbipbaa

/- IW -/
namespace Go.Proofs.Ytdmkdogakbipbaa
open Go.SX Go.RowKit
def isLin (n : NodeV) : Prop := n.kind = 3 ∨ n.kind = 4 ∨ n.kind = 5
instance (n : NodeV) : Decidable (isLin n) := inferInstanceAs (Decidable (_ ∨ _))
def inA (n : NodeV) (t : IntsV) : Value := if isLin n then t.val else .slice none 0 0
def fnA (n : NodeV) (t : IntsV) (cnt : Int) : Value := if isLin n then termsF n t.val cnt else .nilFunc
theorem inA_slice (n : NodeV) (t : IntsV) : ∃ b l c, inA n t = .slice b l c := by
  unfold inA
  split
  · exact ⟨_, _, _, rfl⟩
  · exact ⟨_, _, _, rfl⟩
theorem fnA_func (n : NodeV) (t : IntsV) (cnt : Int) : fnA n t cnt = .nilFunc ∨ ∃ f a r, fnA n t cnt = .func f a r := by
  unfold fnA termsF
  split
  · right
    split
    · exact ⟨_, _, _, rfl⟩
    · split
      · exact ⟨_, _, _, rfl⟩
      · exact ⟨_, _, _, rfl⟩
  · exact .inl rfl
def endsA (n : NodeV) (cnt : Nat) (t : List Int) (a b : Sp) : List Int := if isLin n then linEnds n cnt (termsG n t) a else endsL n a b
def numsA (n : NodeV) (cnt : Nat) (t a b : List Int) : List Int := if isLin n then numsLin n cnt cnt (termsG n t) a else numsL n cnt a b
theorem shapes_pos {g : GraphV} (h : (check g).1 = 0) : ∀ q ∈ (check g).2, 0 < entries q := by
  obtain ⟨_, _, _, hcl, hin⟩ := check_in h
  have key : ∀ i, i ≤ g.l.length → ∀ q ∈ (check g).2.take i, 0 < entries q := by
    intro i
    induction i with
    | zero => intro _ q hq; simp at hq
    | succ i ih =>
      intro hi q hq
      obtain ⟨s, hs, hni⟩ := hin i g.l[i] (List.getElem?_eq_getElem (by omega))
      obtain ⟨hls, hse⟩ := List.getElem?_eq_some_iff.1 hs
      rw [List.take_succ_eq_append_getElem hls, hse] at hq
      rcases List.mem_append.1 hq with hq | hq
      · exact ih (by omega) q hq
      · simp at hq; subst hq
        exact shape_good (formed_of hni.form) (ih (by omega)) hni.shape rfl
  intro q hq
  have := key g.l.length (Nat.le_refl _) q
  rw [List.take_of_length_le (by omega)] at this
  exact this hq
/-- a node at its place: its shape s, the shape t of its first node -/
structure PlaceIn (n : NodeV) (sh : List (List Int)) (s t : List Int) (cnt : Nat) : Prop where
  node : NodeIn n sh s
  cnt : entries s = cnt
  pos : ∀ q ∈ sh, 0 < entries q
  first : isLin n → sh.getD n.a.toNat [] = t ∧ 0 < entries t
theorem PlaceIn.few {n : NodeV} {sh : List (List Int)} {s t : List Int} {cnt : Nat} (h : PlaceIn n sh s t cnt) : 1 ≤ cnt ∧ cnt ≤ 64 := by
  have h1 := shape_good (formed_of h.node.form) h.pos h.node.shape rfl
  have h2 := (entries_bd s).2
  have h3 := h.cnt
  omega
theorem PlaceIn.lin {n : NodeV} {sh : List (List Int)} {s : List Int} {t : IntsV} {cnt : Nat} (h : PlaceIn n sh s t.xs cnt) (hl : isLin n) : ∃ F P0, LinIn n t cnt F P0 :=
  lin_in h.node hl (h.first hl).1 (h.first hl).2 h.pos h.cnt
theorem at_all (w : World) (n : NodeV) (sv : ShapesV) (hs : sv.ok w) (i : Nat) (s t : IntsV) (cnt : Nat) (hi : sv.l[i]? = some s) (hj : sv.l[n.a.toNat]? = some t) (h0 : 0 ≤ n.a) (hc : entries s.xs = cnt) : Calls Try.prog 44 #[n.valA, sv.val, .int .i64 i] w fun e w' => e = .returned (placeV n (inA n t) (fnA n t cnt) cnt) ∧ Ext w w' := by
  by_cases hl : isLin n
  · have e1 : inA n t = t.val := if_pos hl
    have e2 : fnA n t cnt = termsF n t.val cnt := if_pos hl
    rw [e1, e2, ← hc]
    exact at_lin w n sv hs i n.a.toNat s t hi hj (by omega) hl
  · have e1 : inA n t = .slice none 0 0 := if_neg hl
    have e2 : fnA n t cnt = .nilFunc := if_neg hl
    rw [e1, e2, ← hc]
    unfold isLin at hl
    exact at_plain w n sv hs i s hi (by omega)
theorem ends_all (w : World) (n : NodeV) (sh : List (List Int)) (s : List Int) (t : IntsV) (cnt : Nat) (h : PlaceIn n sh s t.xs cnt) (hno : n.ok w) (hto : t.ok w) (a b : Sp) (ha : bd20 a.1 ∧ bd20 a.2) (hb : bd20 b.1 ∧ bd20 b.2) : Calls Try.prog 58 #[placeV n (inA n t) (fnA n t cnt) cnt, spanV a, spanV b] w (EndsPost w n (endsA n cnt t.xs a b)) := by
  by_cases hl : isLin n
  · obtain ⟨F, P0, hL⟩ := h.lin hl
    have e2 : fnA n t cnt = .func (.func F) #[P0] #[] := (if_pos hl).trans hL.fn
    have e3 : endsA n cnt t.xs a b = linEnds n cnt (termsG n t.xs) a := if_pos hl
    rw [e2, e3]
    exact ends_lin w n _ F P0 cnt _ a b (hL.terms w hto hno) (hL.lin w hno) ha
  · have e3 : endsA n cnt t.xs a b = endsL n a b := if_neg hl
    rw [e3]
    obtain ⟨_, _, h7, h8, h2⟩ := ahead_of h.node.form
    obtain ⟨nd, nb, nlo, nhi, nle⟩ := near_in h.node.near
    have hkind := (formed_of h.node.form).kind
    unfold isLin at hl
    exact ends_plain w n hno.data _ _ _ a b ⟨by omega, nd, h7, h8, nlo, nhi, ha.1, ha.2, hb.1, hb.2⟩
theorem endsA_len {n : NodeV} {sh : List (List Int)} {s t : List Int} {cnt : Nat} (h : PlaceIn n sh s t cnt) (a b : Sp) : 1 ≤ (endsA n cnt t a b).length := by
  unfold endsA
  split
  · have := h.few
    unfold linEnds
    rw [linPre_len]; omega
  · exact endsL_len h.node.form
structure NumIn (n : NodeV) (sh : List (List Int)) (a b : List Int) : Prop where
  aLen : n.kind ≠ 1 → n.kind ≠ 2 → (a.length : Int) = entries (sh.getD n.a.toNat [])
  bLen : n.kind = 6 → (b.length : Int) = entries (sh.getD n.b.toNat [])
theorem shape_rel2 {n : NodeV} {sh : List (List Int)} {s : List Int} (h : shapeO n sh = some s) (hnk : ¬ isLin n) (hk : 1 ≤ n.kind ∧ n.kind ≤ 9) (hk1 : n.kind ≠ 1) : (n.kind = 2 → s = n.shape.xs) ∧ (n.kind ≠ 2 → entries (sh.getD n.a.toNat []) = entries s) ∧ (n.kind = 6 → entries (sh.getD n.b.toNat []) = entries s) := by
  unfold isLin at hnk
  unfold shapeO at h
  by_cases h2 : n.kind = 2
  · rw [if_pos (by omega)] at h
    exact ⟨fun _ => by simpa using h.symm, fun h => absurd h2 h, fun h => by omega⟩
  · rw [if_neg (by omega), if_neg (by omega), if_neg (by omega), if_neg (by omega)] at h
    refine ⟨fun h => absurd h h2, fun _ => ?_, fun h6 => ?_⟩
    · split at h
      · split at h
        · simp only [Option.some.injEq] at h; rw [h]
        · cases h
      · split at h
        · split at h
          · rename_i he; simp only [Option.some.injEq] at h; rw [← h]; exact he.symm
          · cases h
        · simp only [Option.some.injEq] at h; rw [h]
    · rw [if_pos h6] at h
      split at h
      · rename_i he; simp only [Option.some.injEq] at h; rw [← he, h]
      · cases h
/-- the lengths of a plain node's numbers -/
theorem plain_lens {n : NodeV} {sh : List (List Int)} {s t : List Int} {cnt : Nat} (h : PlaceIn n sh s t cnt) (hl : ¬ isLin n) (hk1 : n.kind ≠ 1) {a b : List Int} (hn : NumIn n sh a b) : (n.kind = 2 ∨ n.kind = 6 ∨ n.kind = 7 ∨ n.kind = 8 ∨ n.kind = 9) ∧ (n.kind = 2 → n.data.xs.length = cnt) ∧ (n.kind ≠ 2 → a.length = cnt) ∧ (n.kind = 6 → b.length = cnt) := by
  obtain ⟨_, _, h7, h8, h2⟩ := ahead_of h.node.form
  have hkind := (formed_of h.node.form).kind
  obtain ⟨r2, rA, rB⟩ := shape_rel2 h.node.shape hl hkind hk1
  have hc := h.cnt
  unfold isLin at hl
  refine ⟨by omega, fun hk => ?_, fun hk => ?_, fun hk => ?_⟩
  · have := h2 hk
    rw [← r2 hk, hc] at this
    omega
  · have := hn.aLen hk1 hk
    rw [rA hk, hc] at this
    omega
  · have := hn.bLen hk
    rw [rB hk, hc] at this
    omega
theorem nums_all (w : World) (n : NodeV) (sh : List (List Int)) (s : List Int) (t : IntsV) (cnt : Nat) (h : PlaceIn n sh s t.xs cnt) (hk1 : n.kind ≠ 1) (hno : n.ok w) (hto : t.ok w) (a b : IntsV) (ha : a.ok w) (hb : b.ok w) (hab : ∀ x ∈ a.xs, bd20 x) (hbb : ∀ x ∈ b.xs, bd20 x) (hn : NumIn n sh a.xs b.xs) : Calls Try.prog 45 #[placeV n (inA n t) (fnA n t cnt) cnt, a.val, b.val] w (NewInts w (numsA n cnt t.xs a.xs b.xs)) := by
  by_cases hl : isLin n
  · obtain ⟨F, P0, hL⟩ := h.lin hl
    have e2 : fnA n t cnt = .func (.func F) #[P0] #[] := (if_pos hl).trans hL.fn
    have e3 : numsA n cnt t.xs a.xs b.xs = numsLin n cnt cnt (termsG n t.xs) a.xs := if_pos hl
    rw [e2, e3]
    have hk2 : n.kind ≠ 2 := by unfold isLin at hl; omega
    have hal := hn.aLen hk1 hk2
    rw [(h.first hl).1] at hal
    exact nums_lin w n _ F P0 cnt _ a b (hL.terms w hto hno) (hL.lin w hno) ha hab fun o ho s hs => by
      have := hL.at_ o ho s hs
      omega
  · have e3 : numsA n cnt t.xs a.xs b.xs = numsL n cnt a.xs b.xs := if_neg hl
    rw [e3]
    obtain ⟨_, _, h7, h8, h2⟩ := ahead_of h.node.form
    obtain ⟨nd, nb, nlo, nhi, nle⟩ := near_in h.node.near
    obtain ⟨q1, q2, q3, q4⟩ := plain_lens h hl hk1 hn
    exact nums_plain w n _ _ cnt a b ⟨q1, h.few.2, hno.data, nd, q2, h7, h8, ha, hb, q3, q4, hab, hbb⟩
theorem lin_within {A : Sp} {av : List Int} (hA : within A av) : ∀ {l : List Sp} {s1 s s2 : Int}, s1 ≤ s → s ≤ s2 → (∀ t ∈ l, 0 ≤ t.2 ∧ t.2 < av.length) → l.foldl (fLo A) s1 ≤ l.foldl (fNum av) s ∧ l.foldl (fNum av) s ≤ l.foldl (fHi A) s2
  | [], s1, s, s2, h1, h2, _ => ⟨h1, h2⟩
  | t :: r, s1, s, s2, h1, h2, h => by
    have ht := h t List.mem_cons_self
    have hw := within_getD hA (o := t.2.toNat) (by omega)
    have hs := scale_within (d := t.1) hw.1 hw.2
    have m1 : foldI min [t.1 * A.1, t.1 * A.2] = min (t.1 * A.1) (t.1 * A.2) := rfl
    have m2 : foldI max [t.1 * A.1, t.1 * A.2] = max (t.1 * A.1) (t.1 * A.2) := rfl
    rw [m1, m2, Int.mul_comm (av.getD t.2.toNat 0) t.1] at hs
    have e1 : fLo A s1 t = s1 + min (t.1 * A.1) (t.1 * A.2) := rfl
    have e2 : fHi A s2 t = s2 + max (t.1 * A.1) (t.1 * A.2) := rfl
    have e3 : fNum av s t = s + t.1 * av.getD t.2.toNat 0 := rfl
    simp only [List.foldl_cons]
    exact lin_within hA (by omega) (by omega) fun x hx => h x (List.mem_cons_of_mem _ hx)
def spanE (l : List Int) : Sp := (foldI min l, foldI max l)
theorem nums_in {n : NodeV} {sh : List (List Int)} {s : List Int} {t : IntsV} {cnt : Nat} (h : PlaceIn n sh s t.xs cnt) (hk1 : n.kind ≠ 1) {a b : List Int} {A B : Sp} (hn : NumIn n sh a b) (hA : within A a) (hB : within B b) : within (spanE (endsA n cnt t.xs A B)) (numsA n cnt t.xs a b) ∧ (numsA n cnt t.xs a b).length = cnt := by
  by_cases hl : isLin n
  · obtain ⟨F, P0, hL⟩ := h.lin hl
    have e1 : endsA n cnt t.xs A B = linEnds n cnt (termsG n t.xs) A := if_pos hl
    have e3 : numsA n cnt t.xs a b = numsLin n cnt cnt (termsG n t.xs) a := if_pos hl
    rw [e1, e3]
    have hk2 : n.kind ≠ 2 := by unfold isLin at hl; omega
    have hal := hn.aLen hk1 hk2
    rw [(h.first hl).1] at hal
    refine ⟨fun x hx => ?_, by simp [numsLin]⟩
    obtain ⟨o, ho, rfl⟩ := List.mem_map.1 hx
    have ho' := List.mem_range.1 ho
    have hw := lin_within hA (l := termsG n t.xs o) (Int.le_refl (biasI n cnt o)) (Int.le_refl _) fun s hs => by
      have := hL.at_ o ho' s hs
      omega
    have m1 : (termsG n t.xs o).foldl (fLo A) (biasI n cnt o) ∈ linEnds n cnt (termsG n t.xs) A := List.mem_flatMap.2 ⟨o, ho, by simp⟩
    have m2 : (termsG n t.xs o).foldl (fHi A) (biasI n cnt o) ∈ linEnds n cnt (termsG n t.xs) A := List.mem_flatMap.2 ⟨o, ho, by simp⟩
    exact ⟨Int.le_trans (foldI_min_le m1) hw.1, Int.le_trans hw.2 (foldI_max_ge m2)⟩
  · have e1 : endsA n cnt t.xs A B = endsL n A B := if_neg hl
    have e3 : numsA n cnt t.xs a b = numsL n cnt a b := if_neg hl
    rw [e1, e3]
    obtain ⟨q1, q2, q3, q4⟩ := plain_lens h hl hk1 hn
    refine ⟨fun x hx => ?_, by simp [numsL]⟩
    obtain ⟨o, ho, rfl⟩ := List.mem_map.1 hx
    exact num_within q1 q2 q3 q4 hA hB (List.mem_range.1 ho)
end Go.Proofs.Ytdmkdogakbipbaa

/- IX -/
namespace Go.Proofs.Ytdmkdogakbipbaa
abbrev dtIX0 : Go.SX.DT := (.take 0 (.take 1 (.take 2 (.take 3 (.take 4 (.take 5 (.take 6 (.take 7 (.take 8 (.take 9 (.take 10 (.one 11 (.take 12 (.done))))))))))))))
open Go.SX Go.RowKit
theorem getD_memL {l : List (List Int)} {k : Nat} (h : k < l.length) : l.getD k [] ∈ l := by
  rw [List.getD_eq_getElem?_getD, List.getElem?_eq_getElem h]; exact List.getElem_mem h
def endsAt (sh : List (List Int)) (n : NodeV) (acc : List Sp) : List Int := endsA n (entries (sh.getD acc.length [])).toNat (sh.getD n.a.toNat []) (acc.getD n.a.toNat (0, 0)) (acc.getD n.b.toNat (0, 0))
def spansQ (sh : List (List Int)) : List NodeV → List Sp → Int × List Sp
  | [], acc => (0, acc)
  | n :: r, acc =>
    if foldI min (endsAt sh n acc) < -1048576 ∨ 1048576 < foldI max (endsAt sh n acc) then (5, [])
    else spansQ sh r (acc ++ [(foldI min (endsAt sh n acc), foldI max (endsAt sh n acc))])
def spansH (g : GraphV) : Int × List Sp := if (check g).1 ≠ 0 then ((check g).1, []) else spansQ (check g).2 g.l []
/-- a node of a graph that may be stands at its place -/
theorem place_in {g : GraphV} (h : (check g).1 = 0) {i : Nat} {n : NodeV} (hn : g.l[i]? = some n) : (0 ≤ n.a ∧ n.a.toNat < (check g).2.length ∧ (n.a.toNat < i ∨ n.a.toNat = 0)) ∧ (0 ≤ n.b ∧ n.b.toNat < (check g).2.length ∧ (n.b.toNat < i ∨ n.b.toNat = 0)) ∧ ∃ cnt : Nat, entries ((check g).2.getD i []) = cnt ∧ PlaceIn n ((check g).2.take i) ((check g).2.getD i []) ((check g).2.getD n.a.toNat []) cnt := by
  obtain ⟨hl1, hl24, hout, hcl, hin⟩ := check_in h
  have hpos := shapes_pos h
  obtain ⟨hlt, _⟩ := List.getElem?_eq_some_iff.1 hn
  obtain ⟨s, hs, hni⟩ := hin i n hn
  have hti : ((check g).2.take i).length = i := by rw [List.length_take, hcl]; omega
  have hform := hni.form
  rw [hti] at hform
  obtain ⟨hA, hB, _⟩ := ahead_of hform
  have hfo := formed_of hform
  have e1 : (check g).2.getD i [] = s := by rw [List.getD_eq_getElem?_getD, hs]; rfl
  rw [e1]
  refine ⟨⟨hA.1, by omega, by omega⟩, ⟨hB.1, by omega, by omega⟩, (entries s).toNat, by have := (entries_bd s).1; omega, ⟨hni, by have := (entries_bd s).1; omega, fun q hq => hpos q (List.mem_of_mem_take hq), fun hl => ?_⟩⟩
  unfold isLin at hl
  have ha := hfo.a (by omega) (by omega)
  have e2 : ((check g).2.take i).getD n.a.toNat [] = (check g).2.getD n.a.toNat [] := by
    rw [List.getD_eq_getElem?_getD, List.getD_eq_getElem?_getD, List.getElem?_take, if_pos (by omega)]
  refine ⟨e2, hpos _ (getD_memL (by omega))⟩
set_option maxRecDepth 20000 in
theorem spans_all (w : World) (g : GraphV) (hg : g.ok w) : Calls Try.prog 25 #[g.val] w (SpansPost w (spansH g)) := by
  refine calls_of tab tabOk Try.func25 rfl rfl rfl [] (fun _ => ⟨none, 0⟩) [.agg [.c (.slice g.base g.l.length g.cap), .c (.int .i64 g.out)]] [] (baseA w) 0 rfl rfl (by show 1 ≤ _; decide) (abs_base w) ?_
  (repeat' ((conv => whnf) <;> first | (show drawK _ _ _ _ _ _ _ _; refine draw_quiet tabOk mixed (by kernel_rfl) ?_) | (show Wp _ _ _ _ _ _ _; refine Wp.go tabOk rfl ?_) | (show @cmpK _ _ _; (first | refine cmpY ?_ | refine cmpN ?_ | (refine cmp_both ?_ ?_ <;> intro _))) | (show wrapK _ _ _; refine wrapA ?_) | (show leK _ _ _; refine leA ?_) | (show roomK _ _ _; refine roomA ?_) | (show ltK _ _ _; refine ltA ?_) | (show _ ∧ _; refine ⟨?_, ?_⟩) | (show keepK _ _ _ _ _; refine keepA ?_) | refine own_keep ?_ | refine ap_old ?_))
  refine call_check (f := 43) (check g) Try.call43 (fun ρ w' hw => check_any w' g (holds_of_abs hw fun R h => hg.later h)) (fun hne => ?_) (fun he sv hm hsv => ?_)
  · have hq : spansH g = ((check g).1, []) := if_pos hne
    rw [hq]
    (repeat' ((conv => whnf) <;> first | (show @cmpK _ _ _; refine cmp_yes hne ?_) | (show drawK _ _ _ _ _ _ _ _; refine draw_quiet tabOk mixed (by kernel_rfl) ?_) | (show Wp _ _ _ _ _ _ _; refine Wp.go tabOk rfl ?_) | (show @cmpK _ _ _; (first | refine cmpY ?_ | refine cmpN ?_ | (refine cmp_both ?_ ?_ <;> intro _))) | (show wrapK _ _ _; refine wrapA ?_) | (show leK _ _ _; refine leA ?_) | (show roomK _ _ _; refine roomA ?_) | (show ltK _ _ _; refine ltA ?_) | (show _ ∧ _; refine ⟨?_, ?_⟩) | (show keepK _ _ _ _ _; refine keepA ?_) | refine own_keep ?_ | refine ap_old ?_))
    conv => whnf
    exact spans_bad (fun _ _ h => h) rfl hne (fun _ => rfl)
  have hq : spansH g = spansQ (check g).2 g.l [] := if_neg (fun h => h he)
  rw [hq]
  obtain ⟨hl1, hl24, hout, hcl, hin⟩ := check_in he
  have hsl : sv.l.length = g.l.length := by rw [← hcl, ← hm]; simp
  (repeat' ((conv => whnf) <;> first | (show makeK _ _ _ _; (refine make_of g.l.length rfl rfl (by show 16 * _ ≤ _; omega) (by omega) ?_)) | (show drawK _ _ _ _ _ _ _ _; refine draw_quiet tabOk mixed (by kernel_rfl) ?_) | (show Wp _ _ _ _ _ _ _; refine Wp.go tabOk rfl ?_) | (show @cmpK _ _ _; (first | refine cmpY ?_ | refine cmpN ?_ | (refine cmp_both ?_ ?_ <;> intro _))) | (show wrapK _ _ _; refine wrapA ?_) | (show leK _ _ _; refine leA ?_) | (show roomK _ _ _; refine roomA ?_) | (show ltK _ _ _; refine ltA ?_) | (show _ ∧ _; refine ⟨?_, ?_⟩) | (show keepK _ _ _ _ _; refine keepA ?_) | refine own_keep ?_ | refine ap_old ?_))
  refine Wp.loop (σ := Nat × List Sp) 2 (fun ⟨i, _⟩ => [(6, .os 1 g.l.length), (4, .c sv.val), (24, .c (.slice g.base g.l.length g.cap)), (25, .c (.int .i64 g.l.length)), (26, .c (.int .i64 i))]) (fun ⟨_, acc⟩ => [(1, .rows (spRows (gridS g.l.length acc)) 2 68)]) (fun _ => (baseA w).and ((shapesD sv).past w.heap.size))
    (fun ⟨i, acc⟩ => i ≤ g.l.length ∧ acc.length = i ∧ spansQ (check g).2 (g.l.drop i) acc = spansQ (check g).2 g.l [] ∧ (∀ s ∈ acc, bd20 s.1 ∧ bd20 s.2)) (fun s => g.l.length - s.1) (0, []) [] (by decide) (fun s => ⟨rfl, rfl⟩) ⟨Nat.zero_le _, rfl, rfl, fun s hs => by simp at hs⟩ ⟨rfl, ⟨rfl, rfl, rfl, rfl, rfl, trivial⟩, ⟨?_, trivial⟩, fun _ _ h => h⟩ ?_
  · have : spRows (gridS g.l.length []) = List.replicate g.l.length [Value.int .i64 0, .int .i64 0] := by simp [spRows, gridS]
    show (1, Ent.rows (spRows (gridS g.l.length [])) 2 68) ∈ _
    rw [this]
    exact (by repeat (first | exact List.mem_cons_self | apply List.mem_cons_of_mem))
  rintro ⟨i, acc⟩ ⟨hi, hal, hsp, hab⟩
  by_cases hlt : i < g.l.length
  · obtain ⟨a, ha⟩ : ∃ a, g.base = some a := base_some (j := i) hg.rows (by rw [nodeRows_length]; omega)
    have hnm := List.getElem_mem hlt
    obtain ⟨s, hs, hni⟩ := hin i g.l[i] (List.getElem?_eq_getElem hlt)
    have hdrop : g.l.drop i = g.l[i] :: g.l.drop (i + 1) := List.drop_eq_getElem_cons hlt
    rw [hdrop] at hsp
    have hrow := nodeRows_get hlt
    have hpi := place_in he (List.getElem?_eq_getElem hlt)
    generalize g.l[i] = n at *
    have hn := hg.each n hnm
    obtain ⟨⟨ha0, hal2, hai⟩, ⟨hb0, hbl2, hbi⟩, cnt, hcnt, hpl⟩ := hpi
    have e1 : (check g).2.getD i [] = s := by rw [List.getD_eq_getElem?_getD, hs]; rfl
    rw [e1] at hcnt hpl
    obtain ⟨u, hu, hus⟩ : ∃ u, sv.l[i]? = some u ∧ u.xs = s := by
      rw [← hm, List.getElem?_map] at hs
      cases hu : sv.l[i]? with
      | none => rw [hu] at hs; simp at hs
      | some u => rw [hu] at hs; exact ⟨u, rfl, by simpa using hs⟩
    obtain ⟨t, ht, hts⟩ : ∃ t, sv.l[n.a.toNat]? = some t ∧ t.xs = (check g).2.getD n.a.toNat [] := by
      have hlt2 : n.a.toNat < sv.l.length := by omega
      refine ⟨sv.l[n.a.toNat], List.getElem?_eq_getElem hlt2, ?_⟩
      rw [← hm, List.getD_eq_getElem?_getD, List.getElem?_map, List.getElem?_eq_getElem hlt2]; rfl
    have htm : t ∈ sv.l := List.mem_of_getElem? ht
    have hucnt : entries u.xs = cnt := by rw [hus]; exact hcnt
    rw [← hts] at hpl
    have hEq : endsAt (check g).2 n acc = endsA n cnt t.xs (acc.getD n.a.toNat (0, 0)) (acc.getD n.b.toNat (0, 0)) := by
      unfold endsAt
      rw [hal, e1, hcnt, hts]; rfl
    have hA2 := getD_sp hab n.a.toNat
    have hB2 := getD_sp hab n.b.toNat
    have hEL := endsA_len hpl (acc.getD n.a.toNat (0, 0)) (acc.getD n.b.toNat (0, 0))
    have gA := gridS_getD (n := g.l.length) (acc := acc) (j := n.a.toNat) (by omega) (by omega)
    have gB := gridS_getD (n := g.l.length) (acc := acc) (j := n.b.toNat) (by omega) (by omega)
    (repeat' ((conv => whnf) <;> first | (show idxK _ _ _ _ _; refine idx_of a i ha rfl hlt ?_) | (show roAggK _ _ _ _; (refine roAgg_row (fun R w' h => by rw [← ha]; exact rows_base h.1 hg.rows) _ hrow rfl ?_)) | (show callK _ 44 _ _ _ _ _; refine call_pure (f := 44) Try.call44 (placeV n (inA n t) (fnA n t cnt) cnt) (fun ρ w' hw => at_all w' n sv (holds_of_abs hw fun R h => shapes_okI hsv (by omega) h.2) i u t cnt hu ht ha0 hucnt) ?_) | (show idxRowK _ _ _ _ _ _; (first | refine idxRow_of n.a.toNat (by omega) (by omega) (by rw [spRows_length, gridS_length (by omega)]; exact Nat.le_refl _) ?_ | refine idxRow_of n.b.toNat (by omega) (by omega) (by rw [spRows_length, gridS_length (by omega)]; exact Nat.le_refl _) ?_)) | (show rowAggK _ _ _ _ _; (first | refine rowAgg_of _ _ gA rfl rfl ?_ | refine rowAgg_of _ _ gB rfl rfl ?_)) | (show drawK _ 9 _ _ _ _ _ _; refine draw_tree tabOk mixed [] _ dtIX0 (by kernel_rfl) (by kernel_rfl) (by kernel_rfl) (List.Sublist.refl _) ?_) | (show callK _ 58 _ _ _ _ _; refine call_past Try.call58 (fun x : IntsV × Bool => x.1.val) oldA (fun x => x.1.xs = endsA n cnt t.xs (acc.getD n.a.toNat (0, 0)) (acc.getD n.b.toNat (0, 0)) ∧ x.1.sane ∧ (x.2 = true → x.1 = n.data)) (fun ρ w' hw => ends_all w' n _ s t cnt hpl (holds_of_abs hw fun R h => hn.later h.1) (holds_of_abs hw fun R h => (shapes_okI hsv (by omega) h.2).each t htm) (acc.getD n.a.toNat (0, 0)) (acc.getD n.b.toNat (0, 0)) hA2 hB2) (fun x hx => ?_)) | (show drawK _ _ _ _ _ _ _ _; refine draw_quiet tabOk mixed (by kernel_rfl) ?_) | (show Wp _ _ _ _ _ _ _; refine Wp.go tabOk rfl ?_) | (show @cmpK _ _ _; (first | refine cmpY ?_ | refine cmpN ?_ | (refine cmp_both ?_ ?_ <;> intro _))) | (show wrapK _ _ _; refine wrapA ?_) | (show leK _ _ _; refine leA ?_) | (show roomK _ _ _; refine roomA ?_) | (show ltK _ _ _; refine ltA ?_) | (show _ ∧ _; refine ⟨?_, ?_⟩) | (show keepK _ _ _ _ _; refine keepA ?_) | refine own_keep ?_ | refine ap_old ?_))
    all_goals
      obtain ⟨hx1, hx2, hx3⟩ := hx
      rw [← hx1] at hEL
      by_cases hr : foldI min x.1.xs < -1048576 ∨ 1048576 < foldI max x.1.xs
      · have hq2 : spansQ (check g).2 (n :: g.l.drop (i + 1)) acc = (5, []) := by simp only [spansQ]; rw [hEq, ← hx1, if_pos hr]
        rw [hq2] at hsp
        rw [← hsp]
        (repeat' ((conv => whnf) <;> first | (show callK _ 46 _ _ _ _ _; refine call_pure (f := 46) Try.call46 (.int .i64 (foldI min x.1.xs)) (fun ρ w' hw => min_any w' x.1 (holds_of_abs hw fun R h => x_ok hn.data hx2 hx3 h.1.1 h.2) hEL) ?_) | (show callK _ 47 _ _ _ _ _; refine call_pure (f := 47) Try.call47 (.int .i64 (foldI max x.1.xs)) (fun ρ w' hw => max_any w' x.1 (holds_of_abs hw fun R h => x_ok hn.data hx2 hx3 h.1.1 h.2) hEL) ?_) | (show idxRowK _ _ _ _ _ _; (refine idxRow_of i rfl hlt (by rw [spRows_length, gridS_length (by first | omega | (rw [List.length_append, List.length_singleton]; omega))]; exact Nat.le_refl _) ?_)) | (show ltK _ _ _; (refine lt_of (by rw [spRows_length, gridS_length (by rw [List.length_append, List.length_singleton]; omega)]; exact hlt) ?_)) | (show rowStoreK _ _ _ _ _; refine gridS_store hal hlt ?_) | (show rowK _ _ _ _; refine row_of _ _ (gridS_at hal hlt) rfl ?_) | (show drawK _ _ _ _ _ _ _ _; refine draw_quiet tabOk mixed (by kernel_rfl) ?_) | (show Wp _ _ _ _ _ _ _; refine Wp.go tabOk rfl ?_) | (show @cmpK _ _ _; (first | refine cmpY ?_ | refine cmpN ?_ | (refine cmp_both ?_ ?_ <;> intro _))) | (show wrapK _ _ _; refine wrapA ?_) | (show leK _ _ _; refine leA ?_) | (show roomK _ _ _; refine roomA ?_) | (show ltK _ _ _; refine ltA ?_) | (show _ ∧ _; refine ⟨?_, ?_⟩) | (show keepK _ _ _ _ _; refine keepA ?_) | refine own_keep ?_ | refine ap_old ?_))
        all_goals (conv => whnf)
        all_goals first | omega | exact spans_bad (fun _ _ h => h.1.1) rfl (by decide) (fun _ => rfl)
      · have hq2 : spansQ (check g).2 (n :: g.l.drop (i + 1)) acc = spansQ (check g).2 (g.l.drop (i + 1)) (acc ++ [(foldI min x.1.xs, foldI max x.1.xs)]) := by
          conv => lhs; unfold spansQ
          rw [hEq, ← hx1, if_neg hr]
        rw [hq2] at hsp
        have hle := foldI_le hEL
        (repeat' ((conv => whnf) <;> first | (show callK _ 46 _ _ _ _ _; refine call_pure (f := 46) Try.call46 (.int .i64 (foldI min x.1.xs)) (fun ρ w' hw => min_any w' x.1 (holds_of_abs hw fun R h => x_ok hn.data hx2 hx3 h.1.1 h.2) hEL) ?_) | (show callK _ 47 _ _ _ _ _; refine call_pure (f := 47) Try.call47 (.int .i64 (foldI max x.1.xs)) (fun ρ w' hw => max_any w' x.1 (holds_of_abs hw fun R h => x_ok hn.data hx2 hx3 h.1.1 h.2) hEL) ?_) | (show idxRowK _ _ _ _ _ _; (refine idxRow_of i rfl hlt (by rw [spRows_length, gridS_length (by first | omega | (rw [List.length_append, List.length_singleton]; omega))]; exact Nat.le_refl _) ?_)) | (show ltK _ _ _; (refine lt_of (by rw [spRows_length, gridS_length (by rw [List.length_append, List.length_singleton]; omega)]; exact hlt) ?_)) | (show rowStoreK _ _ _ _ _; refine gridS_store hal hlt ?_) | (show rowK _ _ _ _; refine row_of _ _ (gridS_at hal hlt) rfl ?_) | (show drawK _ _ _ _ _ _ _ _; refine draw_quiet tabOk mixed (by kernel_rfl) ?_) | (show Wp _ _ _ _ _ _ _; refine Wp.go tabOk rfl ?_) | (show @cmpK _ _ _; (first | refine cmpY ?_ | refine cmpN ?_ | (refine cmp_both ?_ ?_ <;> intro _))) | (show wrapK _ _ _; refine wrapA ?_) | (show leK _ _ _; refine leA ?_) | (show roomK _ _ _; refine roomA ?_) | (show ltK _ _ _; refine ltA ?_) | (show _ ∧ _; refine ⟨?_, ?_⟩) | (show keepK _ _ _ _ _; refine keepA ?_) | refine own_keep ?_ | refine ap_old ?_))
        all_goals (conv => whnf)
        all_goals exact ⟨(i + 1, acc ++ [(foldI min x.1.xs, foldI max x.1.xs)]), [], ⟨hlt, by rw [List.length_append, hal]; rfl, hsp, fun s hs => by
          rcases List.mem_append.1 hs with h | h
          · exact hab s h
          · simp at h; subst h; unfold bd20; omega⟩, by simp only; omega, rfl, ⟨rfl, rfl, rfl, rfl, rfl, trivial⟩, ⟨(by repeat (first | exact List.mem_cons_self | apply List.mem_cons_of_mem)), trivial⟩, fun _ _ h => h.1⟩
  · obtain rfl : i = g.l.length := by omega
    rw [List.drop_length] at hsp
    (repeat' ((conv => whnf) <;> first | (show drawK _ _ _ _ _ _ _ _; refine draw_quiet tabOk mixed (by kernel_rfl) ?_) | (show Wp _ _ _ _ _ _ _; refine Wp.go tabOk rfl ?_) | (show @cmpK _ _ _; (first | refine cmpY ?_ | refine cmpN ?_ | (refine cmp_both ?_ ?_ <;> intro _))) | (show wrapK _ _ _; refine wrapA ?_) | (show leK _ _ _; refine leA ?_) | (show roomK _ _ _; refine roomA ?_) | (show ltK _ _ _; refine ltA ?_) | (show _ ∧ _; refine ⟨?_, ?_⟩) | (show keepK _ _ _ _ _; refine keepA ?_) | refine own_keep ?_ | refine ap_old ?_))
    conv => whnf
    have hgr : gridS g.l.length acc = acc := by unfold gridS; rw [hal, Nat.sub_self]; simp
    exact spans_good (l := gridS g.l.length acc) (fun _ _ h => h.1) rfl (by repeat (first | exact List.mem_cons_self | apply List.mem_cons_of_mem)) (by rw [hgr, hal]) (by rw [hgr, ← hsp]; rfl)
end Go.Proofs.Ytdmkdogakbipbaa

/- IH -/
namespace Go.Proofs.Ytdmkdogakbipbaa
open Go.SX Go.RowKit
def RunPost (w : World) (r : Int × List Int) (e : Ending) (w' : World) : Prop :=
  (r.1 ≠ 0 ∧ e = .returned (.tuple #[.slice none 0 0, .int .i64 r.1]) ∧ Ext w w') ∨ (r.1 = 0 ∧ ∃ x : IntsV, (x.xs = r.2 ∧ x.sane) ∧ e = .returned (.tuple #[x.val, .int .i64 0]) ∧ Ext w w' ∧ (intsA x).holds (fun b => w.heap.size ≤ b ∧ b < w'.heap.size) w')
theorem run_bad {B : Base} {v : SV} {H : Heap} {S : Asn} {nx : Nat} {w : World} {r : Int × List Int} (hb : ∀ R w', S.holds R w' → (baseA B.w0).holds R w') (hw0 : B.w0 = w) (hn : r.1 ≠ 0) (hv : ∀ ρ, v.rf ρ = .tuple #[.slice none 0 0, .int .i64 r.1]) : finK B v H S nx (RunPost w r) := by
  subst hw0
  exact fin_of fun ρ w' hw => .inl ⟨hn, by rw [hv], ext_of_abs hw hb⟩
theorem run_good {B : Base} {x : IntsV} {H : Heap} {S : Asn} {nx : Nat} {w : World} {r : Int × List Int} (hb : ∀ R w', S.holds R w' → (baseA B.w0).holds R w') (hw0 : B.w0 = w) (hs : x.sane) (hr : r = (0, x.xs)) (hD : ∀ R w', S.holds R w' → ((intsA x).past B.w0.heap.size).holds R w') : finK B (.tup [.c x.val, .c (.int .i64 0)]) H S nx (RunPost w r) := by
  subst hw0 hr
  exact fin_of fun ρ w' hw => .inr ⟨rfl, x, ⟨rfl, hs⟩, rfl, ext_of_abs hw hb, past_new hw hD⟩
theorem run_bad12 {B : Base} {v : SV} {H : Heap} {S : Asn} {nx : Nat} {w : World} {r' : Int × List (List Int)} {X : Int × List Int} (hb : ∀ R w', S.holds R w' → (baseA B.w0).holds R w') (hw0 : B.w0 = w) (hr : r' = (12, [])) (hv : ∀ ρ, v.rf ρ = .tuple #[.slice none 0 0, .int .i64 12]) : finK B v H S nx (RunPost w (if r'.1 ≠ 0 then (r'.1, []) else X)) := by
  subst hr
  have e : (if ((12 : Int), ([] : List (List Int))).1 ≠ 0 then (((12 : Int), ([] : List (List Int))).1, ([] : List Int)) else X) = (12, []) := if_pos (show (12 : Int) ≠ 0 by decide)
  rw [e]
  exact run_bad hb hw0 (show (12 : Int) ≠ 0 by decide) hv
theorem run_good0 {B : Base} {x : IntsV} {H : Heap} {S : Asn} {nx : Nat} {w : World} {r' : Int × List (List Int)} {k : Nat} {L : List (List Int)} (hb : ∀ R w', S.holds R w' → (baseA B.w0).holds R w') (hw0 : B.w0 = w) (hs : x.sane) (hr : r' = (0, L)) (hx : L.getD k [] = x.xs) (hD : ∀ R w', S.holds R w' → ((intsA x).past B.w0.heap.size).holds R w') : finK B (.tup [.c x.val, .c (.int .i64 0)]) H S nx (RunPost w (if r'.1 ≠ 0 then (r'.1, []) else (0, r'.2.getD k []))) := by
  subst hr
  have e : (if ((0 : Int), L).1 ≠ 0 then (((0 : Int), L).1, ([] : List Int)) else (0, ((0 : Int), L).2.getD k [])) = (0, L.getD k []) := if_neg (show ¬ (0 : Int) ≠ 0 by decide)
  rw [e, hx]
  exact run_good hb hw0 hs rfl hD
/-- a call of Spans -/
theorem call_spans {cx : Cx} {f : FuncId} {args : List SV} {H : Heap} {S : Asn} {nx : Nat} {K : SV → Heap → Asn → Nat → Prop} (r : Int × List Sp) (hf : ∀ ar w, (callFunc f ar).run cx.P w = .ok (.enter f ar) w)
    (hc : ∀ ρ w', Abs cx.B ρ nx H S w' → Calls cx.P f (SV.rfs ρ args).toArray w' (SpansPost w' r))
    (h0 : r.1 ≠ 0 → K (.c (.tuple #[.slice none 0 0, .int .i64 r.1])) H S nx)
    (h1 : r.1 = 0 → ∀ base cap, K (.c (.tuple #[.slice base r.2.length cap, .int .i64 0])) H (S.and ((rowsA base 2 (spRows r.2)).past cx.B.w0.heap.size)) nx) : callK cx f args H S nx K := by
  rw [callK_def]
  refine ⟨hf, fun ρ w hw => (hc ρ w hw).mono ?_⟩
  rintro e w' (⟨hr, rfl, he⟩ | ⟨hr, v, rfl, he, hn⟩)
  · exact ⟨.c (.tuple #[.slice none 0 0, .int .i64 r.1]), ρ, H, S, nx, rfl, fun _ _ => rfl, Nat.le_refl _, SV.lt_c _, hw.ext he, h0 hr⟩
  · obtain ⟨base, cap, e1, hD⟩ := newRows_data hn
    rw [spRows_length] at e1
    subst e1
    exact ⟨.c (.tuple #[.slice base r.2.length cap, .int .i64 0]), ρ, H, _, nx, rfl, fun _ _ => rfl, Nat.le_refl _, SV.lt_c _, hw.grow he hD, h1 hr base cap⟩
theorem getD_kn {N : Nat} {l : List IntsV} {R : Nat → Prop} {w : World} (hs : ∀ u ∈ l, u.sane) (h : (eachA N l).holds R w) (k : Nat) : (l.getD k nilI).ok w := by
  rcases Nat.lt_or_ge k l.length with hk | hk
  · rw [List.getD_eq_getElem?_getD, List.getElem?_eq_getElem hk]
    exact intsA_ok (hs _ (List.getElem_mem hk)) ((intsA _).mono (h _ (List.getElem_mem hk)) (fun b hb => hb.1))
  · rw [List.getD_eq_getElem?_getD, List.getElem?_eq_none hk]
    exact intsA_ok nilI_sane (nilI_holds R w)
theorem getD_xs (l : List IntsV) (k : Nat) : (l.getD k nilI).xs = (l.map IntsV.xs).getD k [] := by
  rcases Nat.lt_or_ge k l.length with hk | hk
  · simp [List.getD_eq_getElem?_getD, hk]
  · simp [List.getD_eq_getElem?_getD, hk, nilI]
end Go.Proofs.Ytdmkdogakbipbaa

/- IY -/
namespace Go.Proofs.Ytdmkdogakbipbaa
abbrev dtIY0 : Go.SX.DT := (.take 0 (.take 1 (.take 2 (.take 3 (.take 4 (.take 5 (.take 6 (.take 7 (.take 8 (.take 9 (.take 10 (.take 11 (.take 12 (.one 13 (.take 14 (.one 15 (.done)))))))))))))))))
abbrev dtIY1 : Go.SX.DT := (.take 0 (.take 1 (.take 2 (.take 3 (.take 4 (.alt 5 (.take 8 (.alt 6 (.alt 7 (.one 9 (.one 10 (.done))) (.one 9 (.one 7 (.one 10 (.done))))) (.one 9 (.one 6 (.one 7 (.one 10 (.done))))))) (.one 6 (.alt 5 (.take 8 (.alt 7 (.one 9 (.one 10 (.done))) (.one 9 (.one 7 (.one 10 (.done)))))) (.one 7 (.one 5 (.take 8 (.one 9 (.one 10 (.done))))))))))))))
abbrev dtIY2 : Go.SX.DT := (.take 0 (.take 1 (.take 2 (.take 6 (.alt 3 (.alt 4 (.alt 5 (.alt 7 (.one 8 (.one 9 (.take 10 (.done)))) (.one 8 (.alt 7 (.one 9 (.take 10 (.done))) (.one 9 (.one 7 (.take 10 (.done))))))) (.one 7 (.one 5 (.one 8 (.one 9 (.take 10 (.done))))))) (.one 7 (.one 4 (.one 5 (.one 8 (.one 9 (.take 10 (.done)))))))) (.one 7 (.one 3 (.one 4 (.one 5 (.one 8 (.one 9 (.take 10 (.done)))))))))))))
open Go.SX Go.RowKit
def numsAt (sh : List (List Int)) (n : NodeV) (known : List (List Int)) : List Int := numsA n (entries (sh.getD known.length [])).toNat (sh.getD n.a.toNat []) (known.getD n.a.toNat []) (known.getD n.b.toNat [])
def valsQ (sh : List (List Int)) : List NodeV → List (List Int) → List (List Int) → Int × List (List Int)
  | [], known, inp => if 0 < inp.length then (12, []) else (0, known)
  | n :: r, known, inp =>
    if n.kind ≠ 1 then valsQ sh r (known ++ [numsAt sh n known]) inp
    else match inp with
      | [] => (12, [])
      | x :: xs => if (x.length : Int) ≠ entries (sh.getD known.length []) ∨ foldI min x < n.lo ∨ n.hi < foldI max x then (12, []) else valsQ sh r (known ++ [x]) xs
def valsH (g : GraphV) (inp : List (List Int)) : Int × List (List Int) := valsQ (check g).2 g.l [] inp
def runH (g : GraphV) (inp : List (List Int)) : Int × List Int :=
  if (spansH g).1 ≠ 0 then ((spansH g).1, []) else if (valsH g inp).1 ≠ 0 then ((valsH g inp).1, []) else (0, (valsH g inp).2.getD g.out.toNat [])
def spanAt (sh : List (List Int)) (n : NodeV) (acc : List Sp) : Sp := spanE (endsAt sh n acc)
theorem spansQ_in {sh : List (List Int)} : ∀ {l : List NodeV} {acc S : List Sp}, spansQ sh l acc = (0, S) → ∃ q, S = acc ++ q ∧ q.length = l.length ∧ ∀ i n, l[i]? = some n → ∃ s, q[i]? = some s ∧ s = spanAt sh n (acc ++ q.take i) ∧ -1048576 ≤ s.1 ∧ s.2 ≤ 1048576
  | [], acc, S, h => by
    obtain rfl : acc = S := by simpa [spansQ] using h
    exact ⟨[], by simp, rfl, fun i n hn => by simp at hn⟩
  | m :: r, acc, S, h => by
    by_cases hr : (spanAt sh m acc).1 < -1048576 ∨ 1048576 < (spanAt sh m acc).2
    · have : spansQ sh (m :: r) acc = (5, []) := if_pos hr
      rw [this] at h; simp at h
    · have : spansQ sh (m :: r) acc = spansQ sh r (acc ++ [spanAt sh m acc]) := if_neg hr
      rw [this] at h
      obtain ⟨q, hq, hl, ha⟩ := spansQ_in h
      refine ⟨spanAt sh m acc :: q, by rw [hq, List.append_assoc]; rfl, by simp [hl], fun i n hin => ?_⟩
      cases i with
      | zero =>
        simp only [List.getElem?_cons_zero, Option.some.injEq] at hin
        subst hin
        exact ⟨_, rfl, by simp, by omega, by omega⟩
      | succ i =>
        simp only [List.getElem?_cons_succ] at hin
        obtain ⟨t, h1, h2, h3⟩ := ha i n hin
        refine ⟨t, by simpa using h1, ?_, h3⟩
        rw [List.take_succ_cons, show acc ++ spanAt sh m acc :: q.take i = acc ++ [spanAt sh m acc] ++ q.take i by simp]
        exact h2
theorem spansH_in {g : GraphV} (h : (spansH g).1 = 0) : (check g).1 = 0 ∧ (spansH g).2.length = g.l.length ∧ ∀ i n, g.l[i]? = some n → ∃ s, (spansH g).2[i]? = some s ∧ s = spanAt (check g).2 n ((spansH g).2.take i) ∧ -1048576 ≤ s.1 ∧ s.2 ≤ 1048576 := by
  unfold spansH at h ⊢
  by_cases hc : (check g).1 ≠ 0
  · rw [if_pos hc] at h; exact absurd h hc
  · rw [if_neg hc] at h ⊢
    obtain ⟨q, hq, hl, ha⟩ := spansQ_in (l := g.l) (acc := []) (S := (spansQ (check g).2 g.l []).2) (Prod.ext h rfl)
    rw [List.nil_append] at hq
    rw [hq]
    exact ⟨by omega, hl, fun i n hn => by simpa using ha i n hn⟩
/-- known so far: as many as there should be, within their spans -/
structure KnownH (g : GraphV) (kn : List IntsV) (i : Nat) : Prop where
  len : kn.length = i
  sane : ∀ u ∈ kn, u.sane
  each : ∀ (j : Nat) (u : IntsV) (s : Sp) (q : List Int), kn[j]? = some u → (spansH g).2[j]? = some s → (check g).2[j]? = some q → within s u.xs ∧ (u.xs.length : Int) = entries q
theorem known_argH {g : GraphV} {kn : List IntsV} {i : Nat} (hsp : (spansH g).1 = 0) (hkn : KnownH g kn i) (hi : i ≤ g.l.length) (k : Nat) : within (((spansH g).2.take i).getD k (0, 0)) (kn.getD k nilI).xs ∧ (∀ x ∈ (kn.getD k nilI).xs, bd20 x) ∧ (k < i → ((kn.getD k nilI).xs.length : Int) = entries (((check g).2.take i).getD k [])) := by
  obtain ⟨hck, hsl, hsi⟩ := spansH_in hsp
  obtain ⟨hl1, hl24, hout, hcl, hin⟩ := check_in hck
  have hkl := hkn.len
  rcases Nat.lt_or_ge k i with hk | hk
  · have hkg : k < g.l.length := by omega
    obtain ⟨p, hp, _, hp1, hp2⟩ := hsi k g.l[k] (List.getElem?_eq_getElem hkg)
    obtain ⟨s, hs, _⟩ := hin k g.l[k] (List.getElem?_eq_getElem hkg)
    have hk' : k < kn.length := by omega
    obtain ⟨h1, h2⟩ := hkn.each k kn[k] p s (List.getElem?_eq_getElem hk') hp hs
    have e1 : kn.getD k nilI = kn[k] := by rw [List.getD_eq_getElem?_getD, List.getElem?_eq_getElem hk']; rfl
    have e2 : ((spansH g).2.take i).getD k (0, 0) = p := by rw [List.getD_eq_getElem?_getD, List.getElem?_take, if_pos hk, hp]; rfl
    have e3 : ((check g).2.take i).getD k [] = s := by rw [List.getD_eq_getElem?_getD, List.getElem?_take, if_pos hk, hs]; rfl
    rw [e1, e2, e3]
    exact ⟨h1, fun x hx => by have := h1 x hx; unfold bd20; omega, fun _ => h2⟩
  · have e1 : kn.getD k nilI = nilI := by rw [List.getD_eq_getElem?_getD, List.getElem?_eq_none (by omega)]; rfl
    rw [e1]
    exact ⟨fun x hx => by simp [nilI] at hx, fun x hx => by simp [nilI] at hx, fun h => by omega⟩
theorem num_inH {g : GraphV} {kn : List IntsV} {i : Nat} {n : NodeV} (hsp : (spansH g).1 = 0) (hkn : KnownH g kn i) (hi : i ≤ g.l.length) (hf : Formed n i) : NumIn n ((check g).2.take i) (kn.getD n.a.toNat nilI).xs (kn.getD n.b.toNat nilI).xs :=
  ⟨fun k1 k2 => (known_argH hsp hkn hi n.a.toNat).2.2 (by have := hf.a k1 k2; omega), fun k6 => (known_argH hsp hkn hi n.b.toNat).2.2 (by have := hf.b k6; omega)⟩
theorem known_snocH {g : GraphV} {kn : List IntsV} {i : Nat} {x : IntsV} {s : List Int} {p : Sp} (hkn : KnownH g kn i) (hx : x.sane) (hp : (spansH g).2[i]? = some p) (hs : (check g).2[i]? = some s) (hw : within p x.xs) (hl : (x.xs.length : Int) = entries s) : KnownH g (kn ++ [x]) (i + 1) := by
  have hkl := hkn.len
  refine ⟨by rw [List.length_append, hkl]; rfl, fun u hu => ?_, fun j u p' q hu hp' hq => ?_⟩
  · rcases List.mem_append.1 hu with h | h
    · exact hkn.sane u h
    · simp at h; subst h; exact hx
  · rcases Nat.lt_or_ge j i with hj | hj
    · rw [List.getElem?_append_left (by omega)] at hu
      exact hkn.each j u p' q hu hp' hq
    · rw [List.getElem?_append_right (by omega)] at hu
      have h0 : j - kn.length = 0 := by
        rcases Nat.eq_zero_or_pos (j - kn.length) with h | h
        · exact h
        · rw [List.getElem?_eq_none (by simp; omega)] at hu; cases hu
      rw [h0] at hu
      simp only [List.getElem?_cons_zero, Option.some.injEq] at hu
      subst hu
      obtain rfl : j = i := by omega
      rw [hp] at hp'
      rw [hs] at hq
      simp only [Option.some.injEq] at hp' hq
      subst hp' hq
      exact ⟨hw, hl⟩
set_option maxRecDepth 20000 in
set_option maxHeartbeats 2000000 in
theorem run_all (w : World) (g : GraphV) (hg : g.ok w) (iv : ShapesV) (hiv : InV.ok w iv) : Calls Try.prog 18 #[g.val, iv.val] w (RunPost w (runH g (iv.l.map IntsV.xs))) := by
  have hivf := hiv.few
  refine calls_of tab tabOk Try.func18 rfl rfl rfl [] (fun _ => ⟨none, 0⟩) [.agg [.c (.slice g.base g.l.length g.cap), .c (.int .i64 g.out)], .c iv.val] [] (baseA w) 0 rfl rfl (by show 2 ≤ _; decide) (abs_base w) ?_
  (repeat' ((conv => whnf) <;> first | (show drawK _ 11 _ _ _ _ _ _; refine draw_tree tabOk mixed [15] _ dtIY0 (by kernel_rfl) (by kernel_rfl) (by kernel_rfl) (List.Sublist.refl _) ?_) | (show drawK _ 14 _ _ _ _ _ _; refine draw_tree tabOk mixed [9] _ dtIY1 (by kernel_rfl) (by kernel_rfl) (by kernel_rfl) (List.Sublist.refl _) ?_) | (show drawK _ _ _ _ _ _ _ _; refine draw_quiet tabOk mixed (by kernel_rfl) ?_) | (show Wp _ _ _ _ _ _ _; refine Wp.go tabOk rfl ?_) | (show @cmpK _ _ _; (first | refine cmpY ?_ | refine cmpN ?_ | (refine cmp_both ?_ ?_ <;> intro _))) | (show wrapK _ _ _; refine wrapA ?_) | (show leK _ _ _; refine leA ?_) | (show roomK _ _ _; refine roomA ?_) | (show ltK _ _ _; refine ltA ?_) | (show _ ∧ _; refine ⟨?_, ?_⟩) | (show keepK _ _ _ _ _; refine keepA ?_) | refine own_keep ?_ | refine ap_old ?_))
  refine call_spans (f := 25) (spansH g) Try.call25 (fun ρ w' hw => spans_all w' g (holds_of_abs hw fun R h => hg.later h)) (fun hne => ?_) (fun hsp base cap => ?_)
  · have hq : runH g (iv.l.map IntsV.xs) = ((spansH g).1, []) := if_pos hne
    rw [hq]
    (repeat' ((conv => whnf) <;> first | (show @cmpK _ _ _; refine cmp_yes hne ?_) | (show drawK _ 11 _ _ _ _ _ _; refine draw_tree tabOk mixed [15] _ dtIY0 (by kernel_rfl) (by kernel_rfl) (by kernel_rfl) (List.Sublist.refl _) ?_) | (show drawK _ 14 _ _ _ _ _ _; refine draw_tree tabOk mixed [9] _ dtIY1 (by kernel_rfl) (by kernel_rfl) (by kernel_rfl) (List.Sublist.refl _) ?_) | (show drawK _ _ _ _ _ _ _ _; refine draw_quiet tabOk mixed (by kernel_rfl) ?_) | (show Wp _ _ _ _ _ _ _; refine Wp.go tabOk rfl ?_) | (show @cmpK _ _ _; (first | refine cmpY ?_ | refine cmpN ?_ | (refine cmp_both ?_ ?_ <;> intro _))) | (show wrapK _ _ _; refine wrapA ?_) | (show leK _ _ _; refine leA ?_) | (show roomK _ _ _; refine roomA ?_) | (show ltK _ _ _; refine ltA ?_) | (show _ ∧ _; refine ⟨?_, ?_⟩) | (show keepK _ _ _ _ _; refine keepA ?_) | refine own_keep ?_ | refine ap_old ?_))
    conv => whnf
    exact run_bad (fun _ _ h => h) rfl hne (fun _ => rfl)
  have hq : runH g (iv.l.map IntsV.xs) = if (valsH g (iv.l.map IntsV.xs)).1 ≠ 0 then ((valsH g (iv.l.map IntsV.xs)).1, []) else (0, (valsH g (iv.l.map IntsV.xs)).2.getD g.out.toNat []) := if_neg (fun h => h hsp)
  rw [hq]
  obtain ⟨hck, hsl, hsi⟩ := spansH_in hsp
  obtain ⟨hl1, hl24, hout, hcl, hin⟩ := check_in hck
  (repeat' ((conv => whnf) <;> first | (show drawK _ 11 _ _ _ _ _ _; refine draw_tree tabOk mixed [15] _ dtIY0 (by kernel_rfl) (by kernel_rfl) (by kernel_rfl) (List.Sublist.refl _) ?_) | (show drawK _ 14 _ _ _ _ _ _; refine draw_tree tabOk mixed [9] _ dtIY1 (by kernel_rfl) (by kernel_rfl) (by kernel_rfl) (List.Sublist.refl _) ?_) | (show drawK _ _ _ _ _ _ _ _; refine draw_quiet tabOk mixed (by kernel_rfl) ?_) | (show Wp _ _ _ _ _ _ _; refine Wp.go tabOk rfl ?_) | (show @cmpK _ _ _; (first | refine cmpY ?_ | refine cmpN ?_ | (refine cmp_both ?_ ?_ <;> intro _))) | (show wrapK _ _ _; refine wrapA ?_) | (show leK _ _ _; refine leA ?_) | (show roomK _ _ _; refine roomA ?_) | (show ltK _ _ _; refine ltA ?_) | (show _ ∧ _; refine ⟨?_, ?_⟩) | (show keepK _ _ _ _ _; refine keepA ?_) | refine own_keep ?_ | refine ap_old ?_))
  refine call_check (f := 43) (check g) Try.call43 (fun ρ w' hw => check_any w' g (holds_of_abs hw fun R h => hg.later h.1)) (fun hne => absurd hck hne) (fun _ sv hm hsv => ?_)
  have hsvl : sv.l.length = g.l.length := by rw [← hcl, ← hm]; simp
  (repeat' ((conv => whnf) <;> first | (show makeK _ _ _ _; (refine make_of g.l.length rfl rfl (by show 24 * _ ≤ _; omega) (by omega) ?_)) | (show drawK _ 11 _ _ _ _ _ _; refine draw_tree tabOk mixed [15] _ dtIY0 (by kernel_rfl) (by kernel_rfl) (by kernel_rfl) (List.Sublist.refl _) ?_) | (show drawK _ 14 _ _ _ _ _ _; refine draw_tree tabOk mixed [9] _ dtIY1 (by kernel_rfl) (by kernel_rfl) (by kernel_rfl) (List.Sublist.refl _) ?_) | (show drawK _ _ _ _ _ _ _ _; refine draw_quiet tabOk mixed (by kernel_rfl) ?_) | (show Wp _ _ _ _ _ _ _; refine Wp.go tabOk rfl ?_) | (show @cmpK _ _ _; (first | refine cmpY ?_ | refine cmpN ?_ | (refine cmp_both ?_ ?_ <;> intro _))) | (show wrapK _ _ _; refine wrapA ?_) | (show leK _ _ _; refine leA ?_) | (show roomK _ _ _; refine roomA ?_) | (show ltK _ _ _; refine ltA ?_) | (show _ ∧ _; refine ⟨?_, ?_⟩) | (show keepK _ _ _ _ _; refine keepA ?_) | refine own_keep ?_ | refine ap_old ?_))
  refine Wp.loop (σ := Nat × List IntsV × ShapesV) 2 (fun ⟨i, _, cur⟩ => [(2, .lp 0 0 0 0), (1, .c cur.val), (8, .c sv.val), (10, .os 1 g.l.length), (32, .c (.slice g.base g.l.length g.cap)), (33, .c (.int .i64 g.l.length)), (34, .c (.int .i64 i))]) (fun ⟨_, kn, _⟩ => [(1, .rows (shRows (gridK g.l.length kn)) 1 33), (0, .box [.c (.slice g.base g.l.length g.cap), .c (.int .i64 g.out)] 26)]) (fun ⟨_, kn, _⟩ => ((baseA w).and ((shapesD sv).past w.heap.size)).and (eachA w.heap.size kn))
    (fun ⟨i, kn, cur⟩ => i ≤ g.l.length ∧ KnownH g kn i ∧ InV.ok w cur ∧ valsQ (check g).2 (g.l.drop i) (kn.map IntsV.xs) (cur.l.map IntsV.xs) = valsH g (iv.l.map IntsV.xs)) (fun s => g.l.length - s.1) (0, [], iv) [] (by decide) (fun s => ⟨rfl, rfl⟩) ⟨Nat.zero_le _, ⟨rfl, fun u hu => by simp at hu, fun j u s q hu => by simp at hu⟩, hiv, rfl⟩ ⟨rfl, ⟨rfl, rfl, rfl, rfl, rfl, rfl, rfl, trivial⟩, ⟨?_, (by repeat (first | exact List.mem_cons_self | apply List.mem_cons_of_mem)), trivial⟩, fun R w h => ⟨⟨h.1.1, h.2⟩, eachA_nil _ R w⟩⟩ ?_
  · have : shRows (gridK g.l.length []) = List.replicate g.l.length [Value.slice none 0 0] := by simp [shRows, gridK]; exact .inr rfl
    show (1, Ent.rows (shRows (gridK g.l.length [])) 1 33) ∈ _
    rw [this]
    exact (by repeat (first | exact List.mem_cons_self | apply List.mem_cons_of_mem))
  rintro ⟨i, kn, cur⟩ ⟨hi, hkn, hcur, hv⟩
  have hkl := hkn.len
  have hcf := hcur.few
  by_cases hlt : i < g.l.length
  · obtain ⟨a, ha⟩ : ∃ a, g.base = some a := base_some (j := i) hg.rows (by rw [nodeRows_length]; omega)
    have hnm := List.getElem_mem hlt
    obtain ⟨s, hs, hni⟩ := hin i g.l[i] (List.getElem?_eq_getElem hlt)
    obtain ⟨p, hp, hpe, hp1, hp2⟩ := hsi i g.l[i] (List.getElem?_eq_getElem hlt)
    have hdrop : g.l.drop i = g.l[i] :: g.l.drop (i + 1) := List.drop_eq_getElem_cons hlt
    rw [hdrop] at hv
    have hrow := nodeRows_get hlt
    have hpi := place_in hck (List.getElem?_eq_getElem hlt)
    generalize g.l[i] = n at *
    have hn := hg.each n hnm
    obtain ⟨⟨ha0, hal2, hai⟩, ⟨hb0, hbl2, hbi⟩, cnt, hcnt0, hpl⟩ := hpi
    have e1 : (check g).2.getD i [] = s := by rw [List.getD_eq_getElem?_getD, hs]; rfl
    rw [e1] at hcnt0 hpl
    have hti : ((check g).2.take i).length = i := by rw [List.length_take, hcl]; omega
    have hform := hni.form
    rw [hti] at hform
    have hkml : (kn.map IntsV.xs).length = i := by rw [List.length_map, hkl]
    obtain ⟨t, ht, hts⟩ : ∃ t, sv.l[n.a.toNat]? = some t ∧ t.xs = (check g).2.getD n.a.toNat [] := by
      have hlt2 : n.a.toNat < sv.l.length := by omega
      refine ⟨sv.l[n.a.toNat], List.getElem?_eq_getElem hlt2, ?_⟩
      rw [← hm, List.getD_eq_getElem?_getD, List.getElem?_map, List.getElem?_eq_getElem hlt2]; rfl
    have htm : t ∈ sv.l := List.mem_of_getElem? ht
    rw [← hts] at hpl
    obtain ⟨u, hu, hus⟩ : ∃ u, sv.l[i]? = some u ∧ u.xs = s := by
      have hs' := hs
      rw [← hm, List.getElem?_map] at hs'
      cases hu : sv.l[i]? with
      | none => rw [hu] at hs'; simp at hs'
      | some u => rw [hu] at hs'; exact ⟨u, rfl, by simpa using hs'⟩
    have hcnt : entries u.xs = cnt := by rw [hus]; exact hcnt0
    have hcb := (entries_bd u.xs).2
    have hat : ∀ w', sv.ok w' → Calls Try.prog 44 #[n.valA, sv.val, .int .i64 i] w' (fun e w'' => e = .returned (placeV n (inA n t) (fnA n t cnt) cnt) ∧ Ext w' w'') := fun w' h => at_all w' n sv h i u t cnt hu ht ha0 hcnt
    have hnm : n.kind ≠ 1 → ∀ w', n.ok w' → t.ok w' → ∀ a b : IntsV, a.ok w' → b.ok w' → (∀ x ∈ a.xs, bd20 x) → (∀ x ∈ b.xs, bd20 x) → NumIn n ((check g).2.take i) a.xs b.xs → Calls Try.prog 45 #[placeV n (inA n t) (fnA n t cnt) cnt, a.val, b.val] w' (NewInts w' (numsA n cnt t.xs a.xs b.xs)) := fun hk1 w' h1 h2 a b h3 h4 h5 h6 h7 => nums_all w' n _ s t cnt hpl hk1 h1 h2 a b h3 h4 h5 h6 h7
    obtain ⟨ib, il, ic, hinv⟩ := inA_slice n t
    have hfn := fnA_func n t cnt
    rw [hinv] at hat hnm
    by_cases hk1 : n.kind = 1
    · have hf0 : fnA n t cnt = .nilFunc := if_neg (by unfold isLin; omega)
      rw [hf0] at hat
      obtain ⟨cb, cc, cl⟩ := cur
      cases cl with
      | nil =>
        have hv1 : valsQ (check g).2 (n :: g.l.drop (i + 1)) (kn.map IntsV.xs) [] = (12, []) := by
          conv => lhs; unfold valsQ
          rw [if_neg (fun h => h hk1)]
        have hv2 : valsH g (iv.l.map IntsV.xs) = (12, []) := by rw [← hv]; exact hv1
        (repeat' ((conv => whnf) <;> first | (show @cmpK _ _ _; refine cmp_yes rfl ?_) | (show idxK _ _ _ _ _; refine idx_of a i ha rfl hlt ?_) | (show roAggK _ _ _ _; (refine roAgg_row (fun R w' h => by rw [← ha]; exact rows_base h.1.1 hg.rows) _ hrow rfl ?_)) | (show callK _ 44 _ _ _ _ _; refine call_pure (f := 44) Try.call44 _ (fun ρ w' hw => hat w' (holds_of_abs hw fun R h => shapes_okI hsv (by omega) h.1.2)) ?_) | (show drawK _ 11 _ _ _ _ _ _; refine draw_tree tabOk mixed [15] _ dtIY0 (by kernel_rfl) (by kernel_rfl) (by kernel_rfl) (List.Sublist.refl _) ?_) | (show drawK _ 14 _ _ _ _ _ _; refine draw_tree tabOk mixed [9] _ dtIY1 (by kernel_rfl) (by kernel_rfl) (by kernel_rfl) (List.Sublist.refl _) ?_) | (show drawK _ _ _ _ _ _ _ _; refine draw_quiet tabOk mixed (by kernel_rfl) ?_) | (show Wp _ _ _ _ _ _ _; refine Wp.go tabOk rfl ?_) | (show @cmpK _ _ _; (first | refine cmpY ?_ | refine cmpN ?_ | (refine cmp_both ?_ ?_ <;> intro _))) | (show wrapK _ _ _; refine wrapA ?_) | (show leK _ _ _; refine leA ?_) | (show roomK _ _ _; refine roomA ?_) | (show ltK _ _ _; refine ltA ?_) | (show _ ∧ _; refine ⟨?_, ?_⟩) | (show keepK _ _ _ _ _; refine keepA ?_) | refine own_keep ?_ | refine ap_old ?_))
        all_goals (conv => whnf)
        all_goals exact run_bad12 (fun _ _ h => h.1.1) rfl hv2 (fun _ => rfl)
      | cons x xs =>
        obtain ⟨ca, hca⟩ : ∃ a, cb = some a := base_some (j := 0) hcur.rows (by show 0 < (shRows (x :: xs)).length; rw [shRows_length]; exact Nat.succ_pos _)
        subst hca
        have hxok : x.ok w := hcur.each x List.mem_cons_self
        have hcs : entries s = cnt := by rw [← hus]; exact hcnt
        have hroom := hcur.room
        have hxl : xs.length + 1 ≤ cc := hroom
        have hne0 : ¬ ((({ base := some ca, cap := cc, l := x :: xs } : ShapesV).l.length : Nat) : Int) = 0 := by show ¬ ((xs.length + 1 : Nat) : Int) = 0; omega
        have hpos : 1 ≤ cnt := by
          have hso := hni.shape
          unfold shapeO at hso
          rw [if_pos (.inl hk1), Option.some.injEq] at hso
          have := (formed_of hform).own (.inl hk1)
          rw [hso] at this
          omega
        by_cases hbad : (x.xs.length : Int) ≠ entries s ∨ foldI min x.xs < n.lo ∨ n.hi < foldI max x.xs
        · have hv1 : valsQ (check g).2 (n :: g.l.drop (i + 1)) (kn.map IntsV.xs) (x.xs :: xs.map IntsV.xs) = (12, []) := by
            conv => lhs; unfold valsQ
            rw [if_neg (fun h => h hk1)]
            simp only
            rw [hkml, e1, if_pos hbad]
          have hv2 : valsH g (iv.l.map IntsV.xs) = (12, []) := by rw [← hv]; exact hv1
          rw [hcs] at hbad
          (repeat' ((conv => whnf) <;> first | (show @cmpK _ _ _; refine cmp_no hne0 ?_) | (show idxK _ _ _ _ _; (first | refine idx_of a i ha rfl hlt ?_ | refine idx_of ca 0 rfl rfl (by omega) ?_)) | (show roAggK _ _ _ _; (refine roAgg_row (fun R w' h => by rw [← ha]; exact rows_base h.1.1 hg.rows) _ hrow rfl ?_)) | (show roK _ _ _; refine ro_row0 (fun R w' h => rows_base h.1.1 hcur.rows) _ _ (j := 0) rfl rfl ?_) | (show idxRowK _ _ _ _ _ _; (refine idxRow_of i rfl hlt (by rw [shRows_length, gridK_length (by omega)]; exact Nat.le_refl _) ?_)) | (show callK _ 44 _ _ _ _ _; refine call_pure (f := 44) Try.call44 _ (fun ρ w' hw => hat w' (holds_of_abs hw fun R h => shapes_okI hsv (by omega) h.1.2)) ?_) | (show callQ _ 46 _ _ _ _ _; refine callQ_of (f := 46) Try.call46 (.int .i64 (foldI min x.xs)) (fun ρ w' hw => min_any w' x (holds_of_abs hw fun R h => hxok.later h.1.1) (by omega)) ?_) | (show callQ _ 47 _ _ _ _ _; refine callQ_of (f := 47) Try.call47 (.int .i64 (foldI max x.xs)) (fun ρ w' hw => max_any w' x (holds_of_abs hw fun R h => hxok.later h.1.1) (by omega)) ?_) | (show drawK _ 11 _ _ _ _ _ _; refine draw_tree tabOk mixed [15] _ dtIY0 (by kernel_rfl) (by kernel_rfl) (by kernel_rfl) (List.Sublist.refl _) ?_) | (show drawK _ 14 _ _ _ _ _ _; refine draw_tree tabOk mixed [9] _ dtIY1 (by kernel_rfl) (by kernel_rfl) (by kernel_rfl) (List.Sublist.refl _) ?_) | (show drawK _ _ _ _ _ _ _ _; refine draw_quiet tabOk mixed (by kernel_rfl) ?_) | (show Wp _ _ _ _ _ _ _; refine Wp.go tabOk rfl ?_) | (show @cmpK _ _ _; (first | refine cmpY ?_ | refine cmpN ?_ | (refine cmp_both ?_ ?_ <;> intro _))) | (show wrapK _ _ _; refine wrapA ?_) | (show leK _ _ _; refine leA ?_) | (show roomK _ _ _; refine roomA ?_) | (show ltK _ _ _; refine ltA ?_) | (show _ ∧ _; refine ⟨?_, ?_⟩) | (show keepK _ _ _ _ _; refine keepA ?_) | refine own_keep ?_ | refine ap_old ?_))
          all_goals (conv => whnf)
          all_goals first | (exfalso; omega) | exact run_bad12 (fun _ _ h => h.1.1) rfl hv2 (fun _ => rfl)
        · have hv1 : valsQ (check g).2 (n :: g.l.drop (i + 1)) (kn.map IntsV.xs) (x.xs :: xs.map IntsV.xs) = valsQ (check g).2 (g.l.drop (i + 1)) (kn.map IntsV.xs ++ [x.xs]) (xs.map IntsV.xs) := by
            conv => lhs; unfold valsQ
            rw [if_neg (fun h => h hk1)]
            simp only
            rw [hkml, e1, if_neg hbad]
          have hv2 := hv1.symm.trans hv
          rw [hcs] at hbad
          have hwi : within p x.xs := by
            rw [hpe]
            have hL : endsAt (check g).2 n ((spansH g).2.take i) = [n.lo, n.hi] := by
              unfold endsAt endsA
              rw [if_neg (by unfold isLin; omega)]
              exact if_pos hk1
            unfold spanAt spanE
            rw [hL]
            intro z hz
            have m1 : foldI min [n.lo, n.hi] = min n.lo n.hi := rfl
            have m2 : foldI max [n.lo, n.hi] = max n.lo n.hi := rfl
            have := foldI_min_le hz
            have := foldI_max_ge hz
            simp only [m1, m2]
            omega
          (repeat' ((conv => whnf) <;> first | (show @cmpK _ _ _; refine cmp_no hne0 ?_) | (show idxK _ _ _ _ _; (first | refine idx_of a i ha rfl hlt ?_ | refine idx_of ca 0 rfl rfl (by omega) ?_)) | (show roAggK _ _ _ _; (refine roAgg_row (fun R w' h => by rw [← ha]; exact rows_base h.1.1 hg.rows) _ hrow rfl ?_)) | (show roK _ _ _; refine ro_row0 (fun R w' h => rows_base h.1.1 hcur.rows) _ _ (j := 0) rfl rfl ?_) | (show idxRowK _ _ _ _ _ _; (refine idxRow_of i rfl hlt (by rw [shRows_length, gridK_length (by omega)]; exact Nat.le_refl _) ?_)) | (show callK _ 44 _ _ _ _ _; refine call_pure (f := 44) Try.call44 _ (fun ρ w' hw => hat w' (holds_of_abs hw fun R h => shapes_okI hsv (by omega) h.1.2)) ?_) | (show callQ _ 46 _ _ _ _ _; refine callQ_of (f := 46) Try.call46 (.int .i64 (foldI min x.xs)) (fun ρ w' hw => min_any w' x (holds_of_abs hw fun R h => hxok.later h.1.1) (by omega)) ?_) | (show callQ _ 47 _ _ _ _ _; refine callQ_of (f := 47) Try.call47 (.int .i64 (foldI max x.xs)) (fun ρ w' hw => max_any w' x (holds_of_abs hw fun R h => hxok.later h.1.1) (by omega)) ?_) | (show drawK _ 14 _ _ _ _ _ _; refine draw_tree tabOk mixed [] [] dtIY2 (by kernel_rfl) (by kernel_rfl) (by kernel_rfl) (List.nil_sublist _) ?_) | (show keepK _ _ _ _ _; refine keepB ?_) | (show callK _ 48 _ _ _ _ _; refine call_clone x.xs Try.call48 hxok.fits hxok.few (fun ρ w' hw => clone_any w' x (holds_of_abs hw fun R h => hxok.later h.1.1) (by omega)) (fun y hy hys => ?_)) | (show sliceK _ _ _ _ _ _ _ _; refine slice_oneI (by omega) (by omega) ?_) | (show rowStoreK _ _ _ _ _; refine gridK_store hkl hlt ?_) | (show drawK _ 11 _ _ _ _ _ _; refine draw_tree tabOk mixed [15] _ dtIY0 (by kernel_rfl) (by kernel_rfl) (by kernel_rfl) (List.Sublist.refl _) ?_) | (show drawK _ _ _ _ _ _ _ _; refine draw_quiet tabOk mixed (by kernel_rfl) ?_) | (show Wp _ _ _ _ _ _ _; refine Wp.go tabOk rfl ?_) | (show @cmpK _ _ _; (first | refine cmpY ?_ | refine cmpN ?_ | (refine cmp_both ?_ ?_ <;> intro _))) | (show wrapK _ _ _; refine wrapA ?_) | (show leK _ _ _; refine leA ?_) | (show roomK _ _ _; refine roomA ?_) | (show ltK _ _ _; refine ltA ?_) | (show _ ∧ _; refine ⟨?_, ?_⟩) | (show keepK _ _ _ _ _; refine keepA ?_) | refine own_keep ?_ | refine ap_old ?_))
          all_goals (conv => whnf)
          all_goals exact ⟨(i + 1, kn ++ [y], ⟨some (if cc = 1 then ca else ca.add 1), cc - 1, xs⟩), [], ⟨hlt, known_snocH hkn hys hp hs (by rw [hy]; exact hwi) (by rw [hy, hcs]; omega), InV.rest_ok hcur rfl, by rw [List.map_append, List.map_cons, List.map_nil, hy]; exact hv2⟩, by simp only; omega, rfl, ⟨rfl, rfl, rfl, rfl, rfl, rfl, rfl, trivial⟩, ⟨(by repeat (first | exact List.mem_cons_self | apply List.mem_cons_of_mem)), (by repeat (first | exact List.mem_cons_self | apply List.mem_cons_of_mem)), trivial⟩, fun R w' h => ⟨h.1.1, eachA_snoc h.1.2 h.2⟩⟩
    · have hv1 : valsQ (check g).2 (n :: g.l.drop (i + 1)) (kn.map IntsV.xs) (cur.l.map IntsV.xs) = valsQ (check g).2 (g.l.drop (i + 1)) (kn.map IntsV.xs ++ [numsA n cnt t.xs (kn.getD n.a.toNat nilI).xs (kn.getD n.b.toNat nilI).xs]) (cur.l.map IntsV.xs) := by
        conv => lhs; unfold valsQ
        unfold numsAt
        rw [if_pos hk1, getD_xs, getD_xs, hkml, e1, hcnt0, hts]; rfl
      rw [hv1] at hv
      have hcs : entries s = cnt := by rw [← hus]; exact hcnt
      have kA := known_argH hsp hkn (by omega) n.a.toNat
      have kB := known_argH hsp hkn (by omega) n.b.toNat
      have hnum := num_inH hsp hkn (by omega) (formed_of hform)
      have hwn := nums_in hpl hk1 hnum kA.1 kB.1
      have hEq : endsAt (check g).2 n ((spansH g).2.take i) = endsA n cnt t.xs (((spansH g).2.take i).getD n.a.toNat (0, 0)) (((spansH g).2.take i).getD n.b.toNat (0, 0)) := by
        unfold endsAt
        rw [show ((spansH g).2.take i).length = i by rw [List.length_take, hsl]; omega, e1, hcnt0, hts]; rfl
      have gA := gridK_getD (n := g.l.length) (l := kn) (j := n.a.toNat) (by omega) (by omega)
      have gB := gridK_getD (n := g.l.length) (l := kn) (j := n.b.toNat) (by omega) (by omega)
      rcases hfn with hf0 | ⟨f1, f2, f3, hf0⟩
      all_goals rw [hf0] at hat hnm
      all_goals
        (repeat' ((conv => whnf) <;> first | (show idxK _ _ _ _ _; refine idx_of a i ha rfl hlt ?_) | (show roAggK _ _ _ _; (refine roAgg_row (fun R w' h => by rw [← ha]; exact rows_base h.1.1 hg.rows) _ hrow rfl ?_)) | (show callK _ 44 _ _ _ _ _; refine call_pure (f := 44) Try.call44 _ (fun ρ w' hw => hat w' (holds_of_abs hw fun R h => shapes_okI hsv (by omega) h.1.2)) ?_) | (show idxRowK _ _ _ _ _ _; (first | refine idxRow_of n.a.toNat (by omega) (by omega) (by rw [shRows_length, gridK_length (by omega)]; exact Nat.le_refl _) ?_ | refine idxRow_of n.b.toNat (by omega) (by omega) (by rw [shRows_length, gridK_length (by omega)]; exact Nat.le_refl _) ?_ | refine idxRow_of i rfl hlt (by rw [shRows_length, gridK_length (by omega)]; exact Nat.le_refl _) ?_)) | (show rowK _ _ _ _; (first | refine row_of _ _ gA rfl ?_ | refine row_of _ _ gB rfl ?_)) | (show keepK _ _ _ _ _; refine keepB ?_) | (show callK _ 45 _ _ _ _ _; refine call_past Try.call45 IntsV.val intsA (fun x => x.xs = numsA n cnt t.xs (kn.getD n.a.toNat nilI).xs (kn.getD n.b.toNat nilI).xs ∧ x.sane) (fun ρ w' hw => hnm hk1 w' (holds_of_abs hw fun R h => hn.later h.1.1) (holds_of_abs hw fun R h => (shapes_okI hsv (by omega) h.1.2).each t htm) (kn.getD n.a.toNat nilI) (kn.getD n.b.toNat nilI) (holds_of_abs hw fun R h => getD_kn hkn.sane h.2 _) (holds_of_abs hw fun R h => getD_kn hkn.sane h.2 _) kA.2.1 kB.2.1 hnum) (fun x hx => ?_)) | (show rowStoreK _ _ _ _ _; refine gridK_store hkl hlt ?_) | (show drawK _ 11 _ _ _ _ _ _; refine draw_tree tabOk mixed [15] _ dtIY0 (by kernel_rfl) (by kernel_rfl) (by kernel_rfl) (List.Sublist.refl _) ?_) | (show drawK _ 14 _ _ _ _ _ _; refine draw_tree tabOk mixed [9] _ dtIY1 (by kernel_rfl) (by kernel_rfl) (by kernel_rfl) (List.Sublist.refl _) ?_) | (show drawK _ _ _ _ _ _ _ _; refine draw_quiet tabOk mixed (by kernel_rfl) ?_) | (show Wp _ _ _ _ _ _ _; refine Wp.go tabOk rfl ?_) | (show @cmpK _ _ _; (first | refine cmpY ?_ | refine cmpN ?_ | (refine cmp_both ?_ ?_ <;> intro _))) | (show wrapK _ _ _; refine wrapA ?_) | (show leK _ _ _; refine leA ?_) | (show roomK _ _ _; refine roomA ?_) | (show ltK _ _ _; refine ltA ?_) | (show _ ∧ _; refine ⟨?_, ?_⟩) | (show keepK _ _ _ _ _; refine keepA ?_) | refine own_keep ?_ | refine ap_old ?_))
        all_goals (conv => whnf)
        all_goals exact ⟨(i + 1, kn ++ [x], cur), [], ⟨hlt, known_snocH hkn hx.2 hp hs (by rw [hx.1, hpe]; unfold spanAt; rw [hEq]; exact hwn.1) (by rw [hx.1, hcs, hwn.2]), hcur, by rw [List.map_append, List.map_cons, List.map_nil, hx.1]; exact hv⟩, by simp only; omega, rfl, ⟨rfl, rfl, rfl, rfl, rfl, rfl, rfl, trivial⟩, ⟨(by repeat (first | exact List.mem_cons_self | apply List.mem_cons_of_mem)), (by repeat (first | exact List.mem_cons_self | apply List.mem_cons_of_mem)), trivial⟩, fun R w' h => ⟨h.1.1, eachA_snoc h.1.2 h.2⟩⟩
  · obtain rfl : i = g.l.length := by omega
    rw [List.drop_length] at hv
    have hgO := gridK_getD (n := g.l.length) (l := kn) (j := g.out.toNat) (by omega) (by omega)
    by_cases hrest : 0 < cur.l.length
    · have hv2 : valsH g (iv.l.map IntsV.xs) = (12, []) := by
        rw [← hv]
        conv => lhs; unfold valsQ
        rw [if_pos (by simpa using hrest)]
      (repeat' ((conv => whnf) <;> first | (show drawK _ 11 _ _ _ _ _ _; refine draw_tree tabOk mixed [15] _ dtIY0 (by kernel_rfl) (by kernel_rfl) (by kernel_rfl) (List.Sublist.refl _) ?_) | (show drawK _ 14 _ _ _ _ _ _; refine draw_tree tabOk mixed [9] _ dtIY1 (by kernel_rfl) (by kernel_rfl) (by kernel_rfl) (List.Sublist.refl _) ?_) | (show drawK _ _ _ _ _ _ _ _; refine draw_quiet tabOk mixed (by kernel_rfl) ?_) | (show Wp _ _ _ _ _ _ _; refine Wp.go tabOk rfl ?_) | (show @cmpK _ _ _; (first | refine cmpY ?_ | refine cmpN ?_ | (refine cmp_both ?_ ?_ <;> intro _))) | (show wrapK _ _ _; refine wrapA ?_) | (show leK _ _ _; refine leA ?_) | (show roomK _ _ _; refine roomA ?_) | (show ltK _ _ _; refine ltA ?_) | (show _ ∧ _; refine ⟨?_, ?_⟩) | (show keepK _ _ _ _ _; refine keepA ?_) | refine own_keep ?_ | refine ap_old ?_))
      conv => whnf
      exact run_bad12 (fun _ _ h => h.1.1) rfl hv2 (fun _ => rfl)
    · have hv2 : valsH g (iv.l.map IntsV.xs) = (0, kn.map IntsV.xs) := by
        rw [← hv]
        conv => lhs; unfold valsQ
        rw [if_neg (by simpa using hrest)]
      (repeat' ((conv => whnf) <;> first | (show idxRowK _ _ _ _ _ _; (refine idxRow_of g.out.toNat (by omega) (by omega) (by rw [shRows_length, gridK_length (by omega)]; exact Nat.le_refl _) ?_)) | (show rowK _ _ _ _; refine row_of _ _ hgO rfl ?_) | (show drawK _ 11 _ _ _ _ _ _; refine draw_tree tabOk mixed [15] _ dtIY0 (by kernel_rfl) (by kernel_rfl) (by kernel_rfl) (List.Sublist.refl _) ?_) | (show drawK _ 14 _ _ _ _ _ _; refine draw_tree tabOk mixed [9] _ dtIY1 (by kernel_rfl) (by kernel_rfl) (by kernel_rfl) (List.Sublist.refl _) ?_) | (show drawK _ _ _ _ _ _ _ _; refine draw_quiet tabOk mixed (by kernel_rfl) ?_) | (show Wp _ _ _ _ _ _ _; refine Wp.go tabOk rfl ?_) | (show @cmpK _ _ _; (first | refine cmpY ?_ | refine cmpN ?_ | (refine cmp_both ?_ ?_ <;> intro _))) | (show wrapK _ _ _; refine wrapA ?_) | (show leK _ _ _; refine leA ?_) | (show roomK _ _ _; refine roomA ?_) | (show ltK _ _ _; refine ltA ?_) | (show _ ∧ _; refine ⟨?_, ?_⟩) | (show keepK _ _ _ _ _; refine keepA ?_) | refine own_keep ?_ | refine ap_old ?_))
      conv => whnf
      have hko : g.out.toNat < kn.length := by omega
      have hge : kn.getD g.out.toNat nilI = kn[g.out.toNat] := by rw [List.getD_eq_getElem?_getD, List.getElem?_eq_getElem hko]; rfl
      exact run_good0 (fun _ _ h => h.1.1) rfl (by rw [hge]; exact hkn.sane _ (List.getElem_mem hko)) hv2 (getD_xs _ _).symm (fun R w' h => by rw [hge]; exact h.2 _ (List.getElem_mem hko))
end Go.Proofs.Ytdmkdogakbipbaa

/- NA -/
namespace Go.Proofs.Ytdmkdogakbipbaa
open Go.SX Go.RowKit
def sameP (a b : NodeP) : Bool := decide (a.kind = b.kind) && decide (a.a = b.a) && decide (a.b = b.b) && decide (a.shape = b.shape) && decide (a.lo = b.lo) && decide (a.hi = b.hi) && decide (a.size = b.size) && decide (a.data = b.data) && decide (a.bias = b.bias)
theorem sameP_iff {a b : NodeP} : sameP a b = true ↔ a = b := by
  unfold sameP
  simp only [Bool.and_eq_true, decide_eq_true_eq]
  constructor
  · rintro ⟨⟨⟨⟨⟨⟨⟨⟨h1, h2⟩, h3⟩, h4⟩, h5⟩, h6⟩, h7⟩, h8⟩, h9⟩
    cases a; cases b; simp only at *; subst_vars; rfl
  · rintro rfl; simp
def nilP : NodeP := ⟨0, 0, 0, [], 0, 0, 0, [], []⟩
def takesP (n : NodeP) : List Int := if n.kind = 1 ∨ n.kind = 2 then [] else if n.kind = 6 then [n.a, n.b] else [n.a]
def movedP (st : List Nat) (n : NodeP) : NodeP :=
  if n.kind = 1 ∨ n.kind = 2 then n else if n.kind = 6 then { n with a := st.getD n.a.toNat 0, b := st.getD n.b.toNat 0 } else { n with a := st.getD n.a.toNat 0 }
def constAt (row : List NodeP) (k : Int) : Bool := decide ((row.getD k.toNat nilP).kind = 2)
def knownP (row : List NodeP) (n : NodeP) : Bool := !decide (n.kind = 1 ∨ n.kind = 2) && constAt row n.a && (decide (n.kind ≠ 6) || constAt row n.b)
def numsP (s : List Int) (row : List NodeP) (n : NodeP) : List Int := numsA n.toV (entries s).toNat (row.getD n.a.toNat nilP).shape (row.getD n.a.toNat nilP).data (if n.kind = 6 then (row.getD n.b.toNat nilP).data else [])
def foldP (s : List Int) (row : List NodeP) (n : NodeP) : NodeP := if knownP row n = true then ⟨2, 0, 0, s, 0, 0, 0, numsP s row n, []⟩ else n
def idxP (n : NodeP) : List NodeP → Nat → Option Nat
  | [], _ => none
  | x :: r, k => if sameP x n = true then some k else idxP n r (k + 1)
def findP (row : List NodeP) (n : NodeP) : Option Nat := if n.kind = 1 then none else idxP n row 0
def layP (row : List NodeP) (n : NodeP) : List NodeP × Nat := match findP row n with | some k => (row, k) | none => (row ++ [n], row.length)
def stepP (s : List Int) (x : List NodeP × List Nat) (n : NodeP) : List NodeP × List Nat :=
  ((layP x.1 (foldP s x.1 (movedP x.2 n))).1, x.2 ++ [(layP x.1 (foldP s x.1 (movedP x.2 n))).2])
def tidyL : List NodeP → List (List Int) → List NodeP × List Nat → List NodeP × List Nat
  | n :: r, s :: ss, x => tidyL r ss (stepP s x n)
  | _, _, x => x
theorem idxP_some {n : NodeP} : ∀ {row : List NodeP} {j k : Nat}, idxP n row j = some k → j ≤ k ∧ row[k - j]? = some n
  | [], _, _, h => by cases h
  | x :: r, j, k, h => by
    unfold idxP at h
    split at h
    · rename_i hs
      simp only [Option.some.injEq] at h
      subst h
      rw [sameP_iff] at hs
      subst hs
      simp
    · obtain ⟨h1, h2⟩ := idxP_some h
      refine ⟨by omega, ?_⟩
      have : k - j = (k - (j + 1)) + 1 := by omega
      rw [this, List.getElem?_cons_succ]; exact h2
theorem findP_some {row : List NodeP} {n : NodeP} {k : Nat} (h : findP row n = some k) : n.kind ≠ 1 ∧ row[k]? = some n := by
  unfold findP at h
  split at h
  · cases h
  · rename_i hk
    exact ⟨hk, by simpa using (idxP_some h).2⟩
def atV (n : NodeV) (a b : Int) : NodeV := ⟨n.kind, a, b, n.shape, n.lo, n.hi, n.size, n.data, n.bias⟩
theorem form_move {n : NodeV} {i k : Nat} {a b : Int} (h : formB n i = true) (ha : n.kind ≠ 1 → n.kind ≠ 2 → 0 ≤ a ∧ a < k) (ha2 : n.kind = 1 ∨ n.kind = 2 → a = n.a) (hb : n.kind = 6 → 0 ≤ b ∧ b < k) (hb2 : n.kind ≠ 6 → b = n.b) : formB (atV n a b) k = true := by
  have hkk := (formed_of h).kind
  unfold formB at h ⊢
  have hk : n.kind = 1 ∨ n.kind = 2 ∨ n.kind = 3 ∨ n.kind = 4 ∨ n.kind = 5 ∨ n.kind = 6 ∨ n.kind = 7 ∨ n.kind = 8 ∨ n.kind = 9 := by omega
  have e1 : (atV n a b).kind = n.kind := rfl
  have e2 : (atV n a b).shape = n.shape := rfl
  have e3 : (atV n a b).data = n.data := rfl
  have e4 : (atV n a b).bias = n.bias := rfl
  have e5 : (atV n a b).size = n.size := rfl
  have e6 : (atV n a b).a = a := rfl
  have e7 : (atV n a b).b = b := rfl
  have e8 : (atV n a b).lo = n.lo := rfl
  have e9 : (atV n a b).hi = n.hi := rfl
  rw [e1]
  rcases hk with hk | hk | hk | hk | hk | hk | hk | hk | hk
  all_goals repeat (first | rw [if_pos hk] at h ⊢ | rw [if_neg (by omega)] at h ⊢)
  all_goals simp only [lacksB, aheadB, Bool.true_or, Bool.false_or, Bool.true_and, Bool.and_true, Bool.and_eq_true, decide_eq_true_eq, e1, e2, e3, e4, e5, e6, e7, e8, e9] at h ⊢
  · have := ha2 (by omega); have := hb2 (by omega); subst_vars; exact h
  · have := ha2 (by omega); have := hb2 (by omega); subst_vars; exact h
  all_goals have hA := ha (by omega) (by omega)
  case inr.inr.inr.inr.inr.inl => have hB := hb hk; refine ⟨⟨h.1.1, hA⟩, hB⟩
  all_goals (have := hb2 (by omega); subst_vars; grind)
theorem shape_move {n : NodeV} {sh sh' : List (List Int)} {a b : Int} (hA : n.kind ≠ 1 → n.kind ≠ 2 → sh'.getD a.toNat [] = sh.getD n.a.toNat []) (hB : n.kind = 6 → sh'.getD b.toNat [] = sh.getD n.b.toNat []) : shapeO (atV n a b) sh' = shapeO n sh := by
  by_cases h12 : n.kind = 1 ∨ n.kind = 2
  · unfold shapeO
    have : (atV n a b).kind = 1 ∨ (atV n a b).kind = 2 := h12
    rw [if_pos h12, if_pos this]; rfl
  · have hA := hA (by omega) (by omega)
    unfold shapeO
    have e1 : (atV n a b).kind = n.kind := rfl
    have e6 : (atV n a b).a = a := rfl
    have e7 : (atV n a b).b = b := rfl
    simp only [e1, e6, e7, hA]
    by_cases h6 : n.kind = 6
    · simp only [hB h6]; rfl
    · simp only [if_neg h6]; rfl
theorem near_move (n : NodeV) (a b : Int) : nearB (atV n a b) = nearB n := by unfold nearB; rfl
theorem ends_move (n : NodeV) (a b : Int) (cnt : Nat) (t : List Int) (A B : Sp) : endsA (atV n a b) cnt t A B = endsA n cnt t A B := rfl
theorem nums_move (n : NodeV) (a b : Int) (cnt : Nat) (t x y : List Int) : numsA (atV n a b) cnt t x y = numsA n cnt t x y := rfl
theorem form_pl (n : NodeV) (i : Int) : formB n.pl.toV i = formB n i := by unfold formB lacksB; rfl
theorem near_pl (n : NodeV) : nearB n.pl.toV = nearB n := by unfold nearB; rfl
def tight (a b : Sp) : Prop := b.1 ≤ a.1 ∧ a.2 ≤ b.2
theorem tight_refl (a : Sp) : tight a a := ⟨Int.le_refl _, Int.le_refl _⟩
theorem tight_trans {a b c : Sp} (h1 : tight a b) (h2 : tight b c) : tight a c := ⟨Int.le_trans h2.1 h1.1, Int.le_trans h1.2 h2.2⟩
theorem span_tight {L L' : List Int} (h1 : 1 ≤ L'.length) (h : ∀ e ∈ L', foldI min L ≤ e ∧ e ≤ foldI max L) : tight (spanE L') (spanE L) := ⟨(h _ (foldI_min_mem h1)).1, (h _ (foldI_max_mem h1)).2⟩
theorem scale_tight {d a1 a2 b1 b2 : Int} (h1 : b1 ≤ a1) (h2 : a2 ≤ b2) (h3 : a1 ≤ a2) : min (d * b1) (d * b2) ≤ min (d * a1) (d * a2) ∧ max (d * a1) (d * a2) ≤ max (d * b1) (d * b2) := by
  rcases (by omega : 0 ≤ d ∨ d ≤ 0) with hd | hd
  · have := Int.mul_le_mul_of_nonneg_left h1 hd
    have := Int.mul_le_mul_of_nonneg_left h2 hd
    have := Int.mul_le_mul_of_nonneg_left h3 hd
    omega
  · have := Int.mul_le_mul_of_nonpos_left hd h1
    have := Int.mul_le_mul_of_nonpos_left hd h2
    have := Int.mul_le_mul_of_nonpos_left hd h3
    omega
theorem lin_tight {A B : Sp} (h : tight A B) (h3 : A.1 ≤ A.2) : ∀ {l : List Sp} {s1 s2 s3 s4 : Int}, s1 ≤ s2 → s2 ≤ s3 → s3 ≤ s4 → l.foldl (fLo B) s1 ≤ l.foldl (fLo A) s2 ∧ l.foldl (fLo A) s2 ≤ l.foldl (fHi A) s3 ∧ l.foldl (fHi A) s3 ≤ l.foldl (fHi B) s4
  | [], _, _, _, _, h1, h2, h3 => ⟨h1, h2, h3⟩
  | t :: r, s1, s2, s3, s4, h1, h2, h4 => by
    simp only [List.foldl_cons]
    have := scale_tight (d := t.1) h.1 h.2 h3
    exact lin_tight h h3 (by unfold fLo; omega) (by unfold fLo fHi; omega) (by unfold fHi; omega)
theorem one_within {A : Sp} {x : Int} (h1 : A.1 ≤ x) (h2 : x ≤ A.2) : within A [x] := fun y hy => by
  obtain rfl : y = x := by simpa using hy
  exact ⟨h1, h2⟩
theorem plain_tight {n : NodeV} {A A' B B' : Sp} (hk : n.kind = 6 ∨ n.kind = 7 ∨ n.kind = 8 ∨ n.kind = 9) (hA : tight A' A) (hA2 : A'.1 ≤ A'.2) (hB : n.kind = 6 → tight B' B ∧ B'.1 ≤ B'.2) : ∀ e ∈ endsL n A' B', foldI min (endsL n A B) ≤ e ∧ e ≤ foldI max (endsL n A B) := by
  obtain ⟨hA, hA'⟩ := hA
  have key : ∀ x, A'.1 ≤ x → x ≤ A'.2 → ∀ y, (n.kind = 6 → B'.1 ≤ y ∧ y ≤ B'.2) → foldI min (endsL n A B) ≤ numAt n [x] (if n.kind = 6 then [y] else []) 0 ∧ numAt n [x] (if n.kind = 6 then [y] else []) 0 ≤ foldI max (endsL n A B) := fun x h1 h2 y hy => by
    refine num_within (cnt := 1) (by omega) (fun h => by omega) (fun _ => rfl) (fun h => by rw [if_pos h]; rfl) (one_within (by omega) (by omega)) ?_ (Nat.zero_lt_one)
    by_cases h6 : n.kind = 6
    · rw [if_pos h6]
      have := (hB h6).1
      have := hy h6
      exact one_within (by unfold tight at *; omega) (by unfold tight at *; omega)
    · rw [if_neg h6]; exact fun z hz => by simp at hz
  intro e he
  have hE : ∀ x y, e = numAt n [x] (if n.kind = 6 then [y] else []) 0 → A'.1 ≤ x → x ≤ A'.2 → (n.kind = 6 → B'.1 ≤ y ∧ y ≤ B'.2) → foldI min (endsL n A B) ≤ e ∧ e ≤ foldI max (endsL n A B) := fun x y h1 h2 h3 h4 => by rw [h1]; exact key x h2 h3 y h4
  unfold endsL at he
  rw [if_neg (by omega), if_neg (by omega)] at he
  rcases hk with hk | hk | hk | hk
  · have hb := (hB hk).2
    rw [if_pos hk] at he
    have hN : ∀ x y, numAt n [x] (if n.kind = 6 then [y] else []) 0 = x + y := fun x y => by unfold numAt; rw [if_neg (by omega), if_pos hk, if_pos hk]; rfl
    simp only [List.mem_cons, List.not_mem_nil, or_false] at he
    rcases he with he | he
    · exact hE A'.1 B'.1 (by rw [hN]; exact he) (Int.le_refl _) hA2 (fun _ => ⟨Int.le_refl _, hb⟩)
    · exact hE A'.2 B'.2 (by rw [hN]; exact he) hA2 (Int.le_refl _) (fun _ => ⟨hb, Int.le_refl _⟩)
  · rw [if_neg (by omega), if_pos hk] at he
    have hN : ∀ x y, numAt n [x] (if n.kind = 6 then [y] else []) 0 = x * n.data.xs.getD 0 0 := fun x y => by unfold numAt; rw [if_neg (by omega), if_neg (by omega), if_pos hk]; rfl
    simp only [List.mem_cons, List.not_mem_nil, or_false] at he
    rcases he with he | he
    · exact hE A'.1 0 (by rw [hN, Int.mul_comm]; exact he) (Int.le_refl _) hA2 (fun h => by omega)
    · exact hE A'.2 0 (by rw [hN, Int.mul_comm]; exact he) hA2 (Int.le_refl _) (fun h => by omega)
  · rw [if_neg (by omega), if_neg (by omega), if_pos hk] at he
    have hN : ∀ x y, numAt n [x] (if n.kind = 6 then [y] else []) 0 = powI n.data.xs x := fun x y => by unfold numAt; rw [if_neg (by omega), if_neg (by omega), if_neg (by omega), if_pos hk]; rfl
    have h2 : ∀ x, e = powI n.data.xs x → A'.1 ≤ x → x ≤ A'.2 → foldI min (endsL n A B) ≤ e ∧ e ≤ foldI max (endsL n A B) := fun x h1 h2 h3 => hE x 0 (by rw [hN]; exact h1) h2 h3 (fun h => by omega)
    have h3 : e ∈ [powI n.data.xs A'.1, powI n.data.xs A'.2] → foldI min (endsL n A B) ≤ e ∧ e ≤ foldI max (endsL n A B) := fun he => by
      simp only [List.mem_cons, List.not_mem_nil, or_false] at he
      rcases he with he | he
      · exact h2 _ he (Int.le_refl _) hA2
      · exact h2 _ he hA2 (Int.le_refl _)
    split at he
    · exact h3 he
    · rcases List.mem_append.1 he with he | he
      · exact h3 he
      · obtain ⟨x, hx, rfl⟩ := List.mem_map.1 he
        rw [mem_ptsL] at hx
        have q1 : A'.1 ≤ loI n.data.xs A' := by unfold loI; omega
        have q2 : hiI n.data.xs A' ≤ A'.2 := by unfold hiI; omega
        exact h2 x rfl (by omega) (by omega)
  · rw [if_neg (by omega), if_neg (by omega), if_neg (by omega)] at he
    have hN : ∀ x y, numAt n [x] (if n.kind = 6 then [y] else []) 0 = x := fun x y => by unfold numAt; rw [if_neg (by omega), if_neg (by omega), if_neg (by omega), if_neg (by omega)]; rfl
    simp only [List.mem_cons, List.not_mem_nil, or_false] at he
    rcases he with he | he
    · exact hE A'.1 0 (by rw [hN]; exact he) (Int.le_refl _) hA2 (fun h => by omega)
    · exact hE A'.2 0 (by rw [hN]; exact he) hA2 (Int.le_refl _) (fun h => by omega)
theorem ends_tight {n : NodeV} {sh : List (List Int)} {s t : List Int} {cnt : Nat} (h : PlaceIn n sh s t cnt) {A A' B B' : Sp} (hA : n.kind ≠ 1 → n.kind ≠ 2 → tight A' A ∧ A'.1 ≤ A'.2) (hB : n.kind = 6 → tight B' B ∧ B'.1 ≤ B'.2) : tight (spanE (endsA n cnt t A' B')) (spanE (endsA n cnt t A B)) := by
  have hkind := (formed_of h.node.form).kind
  refine span_tight (endsA_len h A' B') ?_
  by_cases hl : isLin n
  · have hk : n.kind = 3 ∨ n.kind = 4 ∨ n.kind = 5 := hl
    have hA := hA (by omega) (by omega)
    have e1 : endsA n cnt t A B = linEnds n cnt (termsG n t) A := if_pos hl
    have e2 : endsA n cnt t A' B' = linEnds n cnt (termsG n t) A' := if_pos hl
    rw [e1, e2]
    intro e he
    obtain ⟨o, ho, he⟩ := List.mem_flatMap.1 he
    have hw := lin_tight hA.1 hA.2 (l := termsG n t o) (Int.le_refl (biasI n cnt o)) (Int.le_refl _) (Int.le_refl _)
    have m1 : (termsG n t o).foldl (fLo A) (biasI n cnt o) ∈ linEnds n cnt (termsG n t) A := List.mem_flatMap.2 ⟨o, ho, by simp⟩
    have m2 : (termsG n t o).foldl (fHi A) (biasI n cnt o) ∈ linEnds n cnt (termsG n t) A := List.mem_flatMap.2 ⟨o, ho, by simp⟩
    have := foldI_min_le m1
    have := foldI_max_ge m2
    simp only [List.mem_cons, List.not_mem_nil, or_false] at he
    rcases he with rfl | rfl <;> omega
  · have e1 : endsA n cnt t A B = endsL n A B := if_neg hl
    have e2 : endsA n cnt t A' B' = endsL n A' B' := if_neg hl
    rw [e1, e2]
    by_cases h12 : n.kind = 1 ∨ n.kind = 2
    · have e3 : endsL n A' B' = endsL n A B := by
        unfold endsL
        rcases h12 with h1 | h2
        · rw [if_pos h1, if_pos h1]
        · rw [if_neg (by omega), if_pos h2, if_neg (by omega), if_pos h2]
      rw [e3]
      exact fun e he => ⟨foldI_min_le he, foldI_max_ge he⟩
    · unfold isLin at hl
      exact plain_tight (by omega) (hA (by omega) (by omega)).1 (hA (by omega) (by omega)).2 hB
theorem spanE_le {n : NodeV} {sh : List (List Int)} {s t : List Int} {cnt : Nat} (h : PlaceIn n sh s t cnt) (A B : Sp) : (spanE (endsA n cnt t A B)).1 ≤ (spanE (endsA n cnt t A B)).2 := foldI_le (endsA_len h A B)
end Go.Proofs.Ytdmkdogakbipbaa


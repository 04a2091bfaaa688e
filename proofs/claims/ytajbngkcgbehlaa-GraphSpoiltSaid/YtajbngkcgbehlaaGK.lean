import Derived.Test.YtajbngkcgbehlaaGJ
namespace Go.Proofs.Ytajbngkcgbehlaa
open Go.SX Go.RowKit
/-- a graph -/
structure GraphV where
  base : Option Addr
  cap : Nat
  l : List NodeV
  out : Int
def nodeRows (l : List NodeV) : List (List Value) := l.map NodeV.cells
theorem nodeRows_length (l : List NodeV) : (nodeRows l).length = l.length := by simp [nodeRows]
theorem nodeRows_get {l : List NodeV} {k : Nat} (h : k < l.length) : (nodeRows l)[k]? = some l[k].cells := by simp [nodeRows, h]
def GraphV.val (g : GraphV) : Value := .agg #[.slice g.base g.l.length g.cap, .int .i64 g.out]
structure NodeV.small (n : NodeV) : Prop where
  data : n.data.xs.length ≤ 5000
  bias : n.bias.xs.length ≤ 5000
structure GraphV.ok (w : World) (g : GraphV) : Prop where
  rows : RowsI w g.base 9 (nodeRows g.l)
  each : ∀ n ∈ g.l, n.ok w
  small : ∀ n ∈ g.l, n.small
  few : g.l.length ≤ 1000000
  outFits : i64 g.out
theorem GraphV.ok.later {w w' : World} {R : Nat → Prop} {g : GraphV} (h : g.ok w) (hb : (baseA w).holds R w') : g.ok w' := ⟨rows_base hb h.rows, fun n hn => (h.each n hn).later hb, h.small, h.few, h.outFits⟩

def checkR : List NodeV → List (List Int) → Int × List (List Int)
  | [], sh => (0, sh)
  | n :: r, sh => if formB n sh.length = false then (3, []) else
    match shapeO n sh with
    | none => (4, [])
    | some s => if nearB n = false then (5, []) else checkR r (sh ++ [s])
def check (g : GraphV) : Int × List (List Int) := if g.l.length < 1 ∨ 24 < g.l.length ∨ g.out < 0 ∨ (g.l.length : Int) ≤ g.out then (3, []) else checkR g.l []

theorem checkR_form {n : NodeV} {r : List NodeV} {sh : List (List Int)} (h : formB n sh.length = false) : checkR (n :: r) sh = (3, []) := by simp only [checkR]; rw [if_pos h]
theorem checkR_shape {n : NodeV} {r : List NodeV} {sh : List (List Int)} (h : formB n sh.length = true) (hs : shapeO n sh = none) : checkR (n :: r) sh = (4, []) := by simp only [checkR]; rw [if_neg (by simp [h]), hs]
theorem checkR_near {n : NodeV} {r : List NodeV} {sh : List (List Int)} {s : List Int} (h : formB n sh.length = true) (hs : shapeO n sh = some s) (hn : nearB n = false) : checkR (n :: r) sh = (5, []) := by simp only [checkR]; rw [if_neg (by simp [h]), hs]; simp only; rw [if_pos hn]
theorem checkR_next {n : NodeV} {r : List NodeV} {sh : List (List Int)} {s : List Int} (h : formB n sh.length = true) (hs : shapeO n sh = some s) (hn : nearB n = true) : checkR (n :: r) sh = checkR r (sh ++ [s]) := by simp only [checkR]; rw [if_neg (by simp [h]), hs]; simp only; rw [if_neg (by simp [hn])]

/-- shapes as data -/
def shapesD (sv : ShapesV) : Asn where
  holds R w := (rowsA sv.base 1 (shRows sv.l)).holds R w ∧ ∀ u ∈ sv.l, (intsA u).holds R w
  stable := fun hR hw h => ⟨(rowsA _ _ _).stable hR hw h.1, fun u hu => (intsA u).stable hR hw (h.2 u hu)⟩
/-- numbers of several -/
def eachA (N : Nat) (l : List IntsV) : Asn where
  holds R w := ∀ u ∈ l, (newA N u).holds R w
  stable := fun hR hw h u hu => (newA N u).stable hR hw (h u hu)
theorem eachA_nil (N : Nat) (R : Nat → Prop) (w : World) : (eachA N []).holds R w := fun u hu => by simp at hu
theorem eachA_snoc {N : Nat} {l : List IntsV} {u : IntsV} {R : Nat → Prop} {w : World} (h : (eachA N l).holds R w) (hu : (newA N u).holds R w) : (eachA N (l ++ [u])).holds R w := by
  intro v hv
  rcases List.mem_append.1 hv with hv | hv
  · exact h v hv
  · simp at hv; subst hv; exact hu
def CheckPost (w : World) (r : Int × List (List Int)) (e : Ending) (w' : World) : Prop :=
  ∃ (v : Value), e = .returned (.tuple #[v, .int .i64 r.1]) ∧ Ext w w' ∧ (r.1 ≠ 0 → v = .slice none 0 0) ∧
    (r.1 = 0 → ∃ sv : ShapesV, v = sv.val ∧ sv.l.map (·.xs) = r.2 ∧ (∀ u ∈ sv.l, u.sane) ∧ (shapesD sv).holds (fun b => w.heap.size ≤ b ∧ b < w'.heap.size) w' ∧ sv.l.length ≤ sv.cap)
theorem ends_bad {B : Base} {H : Heap} {S : Asn} {nx : Nat} {w : World} {r : Int × List (List Int)} {k : Int} (hb : ∀ R w', S.holds R w' → (baseA B.w0).holds R w') (hw0 : B.w0 = w) (hr : r = (k, [])) (hk : k ≠ 0) : finK B (.tup [.c (.slice none 0 0), .c (.int .i64 k)]) H S nx (CheckPost w r) := by
  subst hw0 hr
  exact fin_of fun ρ w' hw => ⟨_, rfl, ext_of_abs hw hb, fun _ => rfl, fun h => absurd h hk⟩
theorem ends_good {B : Base} {H : Heap} {S : Asn} {nx i m : Nat} {w : World} {r : Int × List (List Int)} {us : List IntsV} {T : TypeId} (hb : ∀ R w', S.holds R w' → (baseA B.w0).holds R w') (hs : ∀ R w', S.holds R w' → (eachA B.w0.heap.size us).holds R w') (hsane : ∀ u ∈ us, u.sane) (hw0 : B.w0 = w) (he : (i, Ent.rows (shRows us) 1 T) ∈ H) (hm : m = us.length) (hr : r = (0, us.map (·.xs))) :
    finK B (.tup [.os i m, .c (.int .i64 0)]) H S nx (CheckPost w r) := by
  subst hw0 hr hm
  refine fin_of fun ρ w' hw => ⟨_, rfl, ext_of_abs hw hb, fun h => absurd rfl h, fun _ => ?_⟩
  have hn := new_of_abs hw hb he
  obtain ⟨base, cap, e1, h1⟩ := newRows_data hn
  obtain ⟨l', e2, F, _, _, hcap, _⟩ := hn
  have e3 : cap = l'.cap := by
    have := e1.symm.trans e2
    simp only [Value.slice.injEq] at this
    exact this.2.2
  refine ⟨⟨base, cap, us⟩, ?_, rfl, hsane, ⟨h1, fun u hu => past_new hw fun R w'' h => hs R w'' h u hu⟩, ?_⟩
  · rw [shRows_length] at e1
    exact e1
  · rw [shRows_length] at hcap
    show us.length ≤ cap
    omega

theorem call_clone {cx : Cx} {f : FuncId} {args : List SV} {H : Heap} {S : Asn} {nx : Nat} {K : SV → Heap → Asn → Nat → Prop} (xs : List Int) (hf : ∀ ar w, (callFunc f ar).run cx.P w = .ok (.enter f ar) w) (hfit : ∀ x ∈ xs, -9223372036854775808 ≤ x ∧ x ≤ 9223372036854775807) (hl : xs.length ≤ 1000000)
    (hc : ∀ ρ w', Abs cx.B ρ nx H S w' → Calls cx.P f (SV.rfs ρ args).toArray w' (fun e w'' => ∃ v, e = .returned v ∧ Ext w' w'' ∧ NewRows w' w'' v 1 3 (ints xs)))
    (h : ∀ u : IntsV, u.xs = xs → u.sane → K (.c u.val) H (S.and (newA cx.B.w0.heap.size u)) nx) : callK cx f args H S nx K := by
  refine call_past hf IntsV.val intsA (fun u => u.xs = xs ∧ u.sane) (fun ρ w' hw => (hc ρ w' hw).mono ?_) (fun u hu => h u hu.1 hu.2)
  rintro e w'' ⟨v, rfl, he, hn⟩
  obtain ⟨u, rfl, h1, h2, h3⟩ := newInts hn hfit hl
  exact ⟨u, ⟨h1, h2⟩, rfl, he, h3⟩
theorem shRows_snoc (l : List IntsV) (u : IntsV) : shRows (l ++ [u]) = shRows l ++ [[u.val]] := by simp [shRows]
theorem shapes_abs {B : Base} {ρ : Nat → SX.Loc} {nx : Nat} {H : Heap} {S : Asn} {w : World} {i N : Nat} {T : TypeId} {us : List IntsV} (hw : Abs B ρ nx H S w) (he : (i, Ent.rows (shRows us) 1 T) ∈ H) (hS : ∀ R w', S.holds R w' → (eachA N us).holds R w') (hus : ∀ u ∈ us, u.sane ∧ 0 < entries u.xs) (hl : us.length ≤ 24) :
    (⟨(ρ i).base, (ρ i).cap, us⟩ : ShapesV).ok w :=
  ⟨rows_of_abs hw he, fun u hu => holds_of_abs hw fun R h => intsA_ok (hus u hu).1 ((intsA u).mono (hS R w h u hu) (fun b hb => hb.1)), hl⟩
section
variable {w w' : World} {R : Nat → Prop} {n : NodeV} {us : List IntsV} {u : IntsV} {S : Asn} {N : Nat}
theorem u_sane1 (hn : n.ok w) (hus : ∀ u ∈ us, u.sane ∧ 0 < entries u.xs) (hu : u = n.shape ∨ u ∈ us) : u.sane := hu.elim (fun h => h ▸ hn.shape.sane) (fun h => (hus u h).1)
theorem u_ok1 (hn : n.ok w) (hus : ∀ u ∈ us, u.sane ∧ 0 < entries u.xs) (hu : u = n.shape ∨ u ∈ us) (h : ((baseA w).and (eachA N us)).holds R w') : u.ok w' :=
  hu.elim (fun e => e ▸ hn.shape.later h.1) (fun e => intsA_ok (hus u e).1 ((intsA u).mono (h.2 u e) (fun b hb => hb.1)))
theorem u_ok2 (hu : u.sane) (h : (S.and (newA N u)).holds R w') : u.ok w' := intsA_ok hu ((intsA u).mono h.2 (fun b hb => hb.1))
end
theorem each_snoc {us : List IntsV} {v : IntsV} (hus : ∀ u ∈ us, u.sane ∧ 0 < entries u.xs) (h1 : v.sane) (h2 : 0 < entries v.xs) : ∀ u ∈ us ++ [v], u.sane ∧ 0 < entries u.xs := by
  intro u hu
  rcases List.mem_append.1 hu with hu | hu
  · exact hus u hu
  · simp at hu; subst hu; exact ⟨h1, h2⟩
theorem rows_snoc (us : List IntsV) (v : IntsV) {i : Nat} {T : TypeId} {H : Heap} : (i, Ent.rows (shRows (us ++ [v])) 1 T) ∈ (i, Ent.rows (List.take us.length (shRows us) ++ [[v.val]]) 1 T) :: H := by
  rw [shRows_snoc, List.take_of_length_le (by rw [shRows_length]; exact Nat.le_refl _)]
  exact List.mem_cons_self
set_option maxRecDepth 20000 in
set_option maxHeartbeats 8000000 in
theorem check_any (w : World) (g : GraphV) (hg : g.ok w) : Calls Try.prog 17 #[g.val] w (CheckPost w (check g)) := by
  by_cases hc : g.l.length < 1 ∨ 24 < g.l.length ∨ g.out < 0 ∨ (g.l.length : Int) ≤ g.out
  · have hs : check g = (3, []) := by unfold check; rw [if_pos hc]
    rw [hs]
    refine calls_of tab tabOk Try.func17 rfl rfl rfl [] (fun _ => ⟨none, 0⟩) [.agg [.c (.slice g.base g.l.length g.cap), .c (.int .i64 g.out)]] [] (baseA w) 0 rfl rfl (by show 1 ≤ _; decide) (abs_base w) ?_
    (repeat' ((conv => whnf) <;> first | (show Wp _ _ _ _ _ _ _; (refine Wp.go tabOk rfl ?_)) | (show @cmpK _ _ _; (first | refine cmp_yes (by omega) ?_ | refine cmp_no (by omega) ?_ | (refine cmp_both ?_ ?_ <;> intro _))) | (show wrapK _ _ _; (refine wrap_i64 (by omega) (by omega) ?_)) | (show leK _ _ _; (refine le_of (by first | exact Nat.le_refl _ | omega) ?_)) | (show roomK _ _ _; (refine room_of (by first | omega | (dsimp only; omega)) ?_)) | (show ltK _ _ _; (refine lt_of (by omega) ?_)) | (show _ ∧ _; (refine ⟨?_, ?_⟩)) | (show keepK _ _ _ _ _; (refine keep_of (by first | exact List.Sublist.refl _ | exact List.Sublist.cons _ (List.Sublist.refl _) | exact List.Sublist.cons _ (List.Sublist.cons _ (List.Sublist.refl _)) | exact List.Sublist.cons _ (List.Sublist.cons _ (List.Sublist.cons _ (List.Sublist.refl _)))) (by first | exact (fun _ _ h => h) | exact (fun _ _ h => h.1) | exact (fun _ _ h => h.1.1)) ?_)) | (show ownK _ _ _ _ _; (refine own_keep ?_))))
    all_goals exact ends_bad (fun _ _ h => h) rfl rfl (by decide)
  · have hs : check g = checkR g.l [] := by unfold check; rw [if_neg hc]
    rw [hs]
    obtain ⟨a, ha⟩ : ∃ a, g.base = some a := base_some (j := 0) hg.rows (by rw [nodeRows_length]; omega)
    refine calls_of tab tabOk Try.func17 rfl rfl rfl [] (fun _ => ⟨none, 0⟩) [.agg [.c (.slice g.base g.l.length g.cap), .c (.int .i64 g.out)]] [] (baseA w) 0 rfl rfl (by show 1 ≤ _; decide) (abs_base w) ?_
    (repeat' ((conv => whnf) <;> first | (show Wp _ _ _ _ _ _ _; (refine Wp.go tabOk rfl ?_)) | (show @cmpK _ _ _; (first | refine cmp_yes (by omega) ?_ | refine cmp_no (by omega) ?_ | (refine cmp_both ?_ ?_ <;> intro _))) | (show wrapK _ _ _; (refine wrap_i64 (by omega) (by omega) ?_)) | (show leK _ _ _; (refine le_of (by first | exact Nat.le_refl _ | omega) ?_)) | (show roomK _ _ _; (refine room_of (by first | omega | (dsimp only; omega)) ?_)) | (show ltK _ _ _; (refine lt_of (by omega) ?_)) | (show _ ∧ _; (refine ⟨?_, ?_⟩)) | (show keepK _ _ _ _ _; (refine keep_of (by first | exact List.Sublist.refl _ | exact List.Sublist.cons _ (List.Sublist.refl _) | exact List.Sublist.cons _ (List.Sublist.cons _ (List.Sublist.refl _)) | exact List.Sublist.cons _ (List.Sublist.cons _ (List.Sublist.cons _ (List.Sublist.refl _)))) (by first | exact (fun _ _ h => h) | exact (fun _ _ h => h.1) | exact (fun _ _ h => h.1.1)) ?_)) | (show ownK _ _ _ _ _; (refine own_keep ?_))))
    refine Wp.loop (σ := Nat × List IntsV) 2 (fun ⟨k, us⟩ => [(34, .c (.slice g.base g.l.length g.cap)), (35, .c (.int .i64 g.l.length)), (36, .c (.int .i64 k)), (4, .os 1 k)]) (fun ⟨_, us⟩ => [(1, .rows (shRows us) 1 32)]) (fun ⟨_, us⟩ => (baseA w).and (eachA w.heap.size us))
      (fun ⟨k, us⟩ => k ≤ g.l.length ∧ us.length = k ∧ (∀ u ∈ us, u.sane ∧ 0 < entries u.xs) ∧ checkR g.l [] = checkR (g.l.drop k) (us.map (·.xs))) (fun s => g.l.length - s.1) (0, []) [(1, none)] (by decide) (fun s => ⟨rfl, rfl⟩) ⟨by simp, rfl, by simp, rfl⟩ ⟨rfl, ⟨rfl, rfl, rfl, rfl, trivial⟩, ⟨rfl, trivial⟩, fun R w' h => ⟨h, eachA_nil _ _ _⟩⟩ ?_
    rintro ⟨k, us⟩ ⟨hk, hul, hus, he⟩
    by_cases hlt : k < g.l.length
    · rw [drop_at hlt] at he
      have hn := hg.each _ (List.getElem_mem hlt)
      have hsm := hg.small _ (List.getElem_mem hlt)
      generalize hnk : g.l[k] = n at *
      have hrow : (nodeRows g.l)[k]? = some n.cells := by rw [nodeRows_get hlt, hnk]
      subst hul
      have hgs : ∀ s ∈ us.map (·.xs), 0 < entries s := fun s hs => by obtain ⟨u, hu, rfl⟩ := List.mem_map.1 hs; exact (hus u hu).2
      have hlm : (us.map (·.xs)).length = us.length := List.length_map _
      (repeat' ((conv => whnf) <;> first | (show idxK _ _ _ _ _; (refine idx_of a us.length ha rfl hlt ?_)) | (show roAggK _ _ _ _; (refine roAgg_row (fun R w' h => by rw [← ha]; exact rows_base h.1 hg.rows) _ hrow rfl ?_)) | (show callK _ 42 _ _ _ _ _; ((refine call_bool (f := 42) Try.call42 _ (fun ρ w' hw => form_any w' n (holds_of_abs hw fun R h => (by first | exact hn.later h.1 | exact hn.later h.1.1 | exact hn.later h.1.1.1)) us.length ((SV.os 1 us.length).rf ρ)) ?_ ?_ <;> intro hform))) | (show callK _ 43 _ _ _ _ _; (refine call_shape (f := 43) (n := n) (l := us) (shapeO n (us.map fun x : IntsV => x.xs)) Try.call43 rfl (fun ρ w' hw => shape_any w' n (holds_of_abs hw fun R h => (by first | exact hn.later h.1 | exact hn.later h.1.1 | exact hn.later h.1.1.1)) us.length ⟨(ρ 1).base, (ρ 1).cap, us⟩ (shapes_abs hw (List.mem_cons_of_mem _ (List.mem_cons_of_mem _ List.mem_cons_self)) (fun R w' h => h.2) hus (by omega)) (formed_of hform) (fun s hs => (hus s hs).2)) (fun hr v => ?_) (fun u hr hu => ?_) (fun u hr hu => ?_))) | (show callK _ 44 _ _ _ _ _; ((refine call_bool (f := 44) Try.call44 _ (fun ρ w' hw => near_any w' n (holds_of_abs hw fun R h => (by first | exact hn.later h.1 | exact hn.later h.1.1 | exact hn.later h.1.1.1)) hsm.data hsm.bias us.length ((SV.os 1 us.length).rf ρ)) ?_ ?_ <;> intro hnear))) | (show callK _ 45 _ _ _ _ _; (refine call_clone (f := 45) u.xs Try.call45 (by first | exact (u_sane1 hn hus hu).fits | exact hu.fits) (by first | exact (u_sane1 hn hus hu).few | exact hu.few) (fun ρ w' hw => clone_any w' u (holds_of_abs hw fun R h => by first | exact u_ok1 hn hus hu h | exact u_ok2 hu h) (entries_dims (shape_good (n := n) (sh := us.map fun x : IntsV => x.xs) (by rw [List.length_map]; exact formed_of hform) hgs hr rfl)).1) (fun v hv hvs => ?_))) | (show leK _ _ _; (refine le_of (by rw [shRows_length]; exact Nat.le_refl _) ?_)) | (show roomK _ _ _; (refine room_of (by show (us.length + 1) * 24 ≤ 140737488355328; omega) ?_)) | (show Wp _ _ _ _ _ _ _; (refine Wp.go tabOk rfl ?_)) | (show @cmpK _ _ _; (first | refine cmp_yes (by omega) ?_ | refine cmp_no (by omega) ?_ | (refine cmp_both ?_ ?_ <;> intro _))) | (show wrapK _ _ _; (refine wrap_i64 (by omega) (by omega) ?_)) | (show leK _ _ _; (refine le_of (by first | exact Nat.le_refl _ | omega) ?_)) | (show roomK _ _ _; (refine room_of (by first | omega | (dsimp only; omega)) ?_)) | (show ltK _ _ _; (refine lt_of (by omega) ?_)) | (show _ ∧ _; (refine ⟨?_, ?_⟩)) | (show keepK _ _ _ _ _; (refine keep_of (by first | exact List.Sublist.refl _ | exact List.Sublist.cons _ (List.Sublist.refl _) | exact List.Sublist.cons _ (List.Sublist.cons _ (List.Sublist.refl _)) | exact List.Sublist.cons _ (List.Sublist.cons _ (List.Sublist.cons _ (List.Sublist.refl _)))) (by first | exact (fun _ _ h => h) | exact (fun _ _ h => h.1) | exact (fun _ _ h => h.1.1)) ?_)) | (show ownK _ _ _ _ _; (refine own_keep ?_))))
      all_goals (conv => whnf)
      · exact ends_bad (B := ⟨w, []⟩) (fun _ _ h => h.1) rfl (he.trans (checkR_shape (by rw [hlm]; exact hform) hr)) (by decide)
      · exact ⟨(us.length + 1, us ++ [v]), [(1, some 5)], ⟨hlt, by simp, each_snoc hus hvs (hv ▸ shape_good (by rw [hlm]; exact formed_of hform) hgs hr rfl), he.trans ((checkR_next (by rw [hlm]; exact hform) hr hnear).trans (by rw [List.map_append, ← hv]; rfl))⟩, by simp only; omega, rfl, ⟨rfl, rfl, rfl, rfl, trivial⟩, ⟨rows_snoc us v, trivial⟩, fun R w' h => ⟨h.1.1, eachA_snoc h.1.2 h.2⟩⟩
      · exact ends_bad (B := ⟨w, []⟩) (fun _ _ h => h.1) rfl (he.trans (checkR_near (by rw [hlm]; exact hform) hr hnear)) (by decide)
      · exact ⟨(us.length + 1, us ++ [v]), [(1, some 5)], ⟨hlt, by simp, each_snoc hus hvs (hv ▸ shape_good (by rw [hlm]; exact formed_of hform) hgs hr rfl), he.trans ((checkR_next (by rw [hlm]; exact hform) hr hnear).trans (by rw [List.map_append, ← hv]; rfl))⟩, by simp only; omega, rfl, ⟨rfl, rfl, rfl, rfl, trivial⟩, ⟨rows_snoc us v, trivial⟩, fun R w' h => ⟨h.1.1.1, eachA_snoc h.1.1.2 h.2⟩⟩
      · exact ends_bad (B := ⟨w, []⟩) (fun _ _ h => h.1.1) rfl (he.trans (checkR_near (by rw [hlm]; exact hform) hr hnear)) (by decide)
      · exact ends_bad (B := ⟨w, []⟩) (fun _ _ h => h.1) rfl (he.trans (checkR_form (by rw [hlm]; exact hform))) (by decide)
    · rw [List.drop_of_length_le (by omega)] at he
      subst hul
      (repeat' ((conv => whnf) <;> first | (show Wp _ _ _ _ _ _ _; (refine Wp.go tabOk rfl ?_)) | (show @cmpK _ _ _; (first | refine cmp_yes (by omega) ?_ | refine cmp_no (by omega) ?_ | (refine cmp_both ?_ ?_ <;> intro _))) | (show wrapK _ _ _; (refine wrap_i64 (by omega) (by omega) ?_)) | (show leK _ _ _; (refine le_of (by first | exact Nat.le_refl _ | omega) ?_)) | (show roomK _ _ _; (refine room_of (by first | omega | (dsimp only; omega)) ?_)) | (show ltK _ _ _; (refine lt_of (by omega) ?_)) | (show _ ∧ _; (refine ⟨?_, ?_⟩)) | (show keepK _ _ _ _ _; (refine keep_of (by first | exact List.Sublist.refl _ | exact List.Sublist.cons _ (List.Sublist.refl _) | exact List.Sublist.cons _ (List.Sublist.cons _ (List.Sublist.refl _)) | exact List.Sublist.cons _ (List.Sublist.cons _ (List.Sublist.cons _ (List.Sublist.refl _)))) (by first | exact (fun _ _ h => h) | exact (fun _ _ h => h.1) | exact (fun _ _ h => h.1.1)) ?_)) | (show ownK _ _ _ _ _; (refine own_keep ?_))))
      conv => whnf
      exact ends_good (B := ⟨w, []⟩) (fun _ _ h => h.1) (fun _ _ h => h.2) (fun u hu => (hus u hu).1) rfl List.mem_cons_self rfl he
end Go.Proofs.Ytajbngkcgbehlaa

import Derived.Test.YtdmkdogakbipbaaKLinearRows5
/- JG -/
namespace Go.Proofs.Ytdmkdogakbipbaa
open Go.SX Go.RowKit
theorem newSlicesM {w w' : World} {v : Value} {l : List IntsV} {T : TypeId} (h : NewRows w w' v 1 T (shRows l)) : ∃ base cap, v = .slice base l.length cap ∧ l.length ≤ cap ∧ (rowsA base 1 (shRows l)).holds (fun b => w.heap.size ≤ b ∧ b < w'.heap.size) w' := by
  obtain ⟨base, cap, e, h1⟩ := newRows_data h
  obtain ⟨lc, e2, F, hF, hr, hcap, _⟩ := h
  rw [e2] at e
  simp only [Value.slice.injEq] at e
  obtain ⟨e3, _, e4⟩ := e
  refine ⟨base, cap, ?_, ?_, h1⟩
  · rw [e2, e3, e4, shRows_length]
  · rw [← e4]; simpa [shRows_length] using hcap
/-- what Matrix hands back -/
structure MatV where
  rows : ShapesV
  bias : IntsV
  own : Bool
def MatV.val (x : MatV) : Value := .tuple #[x.rows.val, x.bias.val]
def matD (x : MatV) : Asn where
  holds R w := (rowsA x.rows.base 1 (shRows x.rows.l)).holds R w ∧ (x.own = true → (∀ u ∈ x.rows.l, (intsA u).holds R w) ∧ (intsA x.bias).holds R w)
  stable := fun hR hw h => ⟨(rowsA _ _ _).stable hR hw h.1, fun e => ⟨fun u hu => (intsA u).stable hR hw ((h.2 e).1 u hu), (intsA _).stable hR hw (h.2 e).2⟩⟩
structure MatIs (n : NodeV) (tl : List Int) (cnt : Nat) (x : MatV) : Prop where
  rows : x.rows.l.map IntsV.xs = matRows n tl cnt
  bias : x.bias.xs = matBias n cnt
  sane : ∀ u ∈ x.rows.l, u.sane
  biasSane : x.bias.sane
  old : x.own = false → x.bias = n.bias ∧ ∀ w, n.data.ok w → ∀ u ∈ x.rows.l, u.ok w
def MatPost (w : World) (n : NodeV) (tl : List Int) (cnt : Nat) (e : Ending) (w' : World) : Prop :=
  ∃ x, MatIs n tl cnt x ∧ e = .returned x.val ∧ Ext w w' ∧ (matD x).holds (fun b => w.heap.size ≤ b ∧ b < w'.heap.size) w'
def cutU (u : IntsV) (a : Addr) (size o : Nat) : IntsV := ⟨some (a.add (o * size)), u.cap - o * size, (u.xs.drop (o * size)).take size⟩
theorem slice_cut {base : Option Addr} {a : Addr} {len cap lo hi : Nat} {z1 z2 : Int} {K : SV → Prop} (hb : base = some a) (h1 : z1 = lo) (h2 : z2 = hi) (h3 : lo < hi) (h4 : hi ≤ len) (h5 : len ≤ cap) (h : K (.c (.slice (some (a.add lo)) (hi - lo) (cap - lo)))) : sliceK base len cap 1 (some z1) (some z2) none K := by
  subst hb
  rw [sliceK_def]
  refine ⟨lo, hi, cap, h1, h2, rfl, by omega, by omega, by omega, fun h => (by cases h), ?_⟩
  rw [if_neg (by omega)]
  simpa using h
theorem rowsI_cut {w : World} {a : Addr} {xs : List (List Value)} (lo m : Nat) (h : RowsI w (some a) 1 xs) : RowsI w (some (a.add lo)) 1 ((xs.drop lo).take m) := by
  rcases h with h | ⟨a', ha, h⟩
  · subst h; exact .inl (by simp)
  · obtain rfl : a = a' := by simpa using ha
    refine .inr ⟨_, rfl, fun i r hr j v hj => ?_⟩
    rw [List.getElem?_take] at hr
    split at hr
    · rw [List.getElem?_drop] at hr
      have := h (lo + i) r hr j v hj
      rw [add_add, show lo + (i * 1 + j) = (lo + i) * 1 + j by omega]
      exact this
    · cases hr
theorem cutU_ok {w : World} {u : IntsV} {a : Addr} (size o : Nat) (hu : u.ok w) (ha : u.base = some a) (hl : o * size + size ≤ u.xs.length) : (cutU u a size o).ok w := by
  have hr := hu.rows
  rw [ha] at hr
  refine ⟨?_, fun x hx => hu.fits x (List.mem_of_mem_drop (List.mem_of_mem_take hx)), ?_, ?_⟩
  · show RowsI w (some (a.add (o * size))) 1 (ints ((u.xs.drop (o * size)).take size))
    have e : ints ((u.xs.drop (o * size)).take size) = ((ints u.xs).drop (o * size)).take size := by simp [ints, List.map_drop, List.map_take]
    rw [e]
    exact rowsI_cut _ _ hr
  · show ((u.xs.drop (o * size)).take size).length ≤ u.cap - o * size
    have := hu.room
    simp only [List.length_take, List.length_drop]
    omega
  · show ((u.xs.drop (o * size)).take size).length ≤ _
    have := hu.few
    simp only [List.length_take, List.length_drop]
    omega
theorem cutU_sane {w : World} {u : IntsV} {a : Addr} (size o : Nat) (hu : u.ok w) (ha : u.base = some a) (hl : o * size + size ≤ u.xs.length) : (cutU u a size o).sane := ⟨(cutU_ok size o hu ha hl).fits, (cutU_ok size o hu ha hl).room, (cutU_ok size o hu ha hl).few⟩
end Go.Proofs.Ytdmkdogakbipbaa

/- JH -/
namespace Go.Proofs.Ytdmkdogakbipbaa
open Go.SX Go.RowKit
theorem mat_end_old {B : Base} {H : Heap} {S : Asn} {nx i m : Nat} {w : World} {n : NodeV} {tl : List Int} {cnt : Nat} {us : List IntsV} (hb : ∀ R w', S.holds R w' → (baseA B.w0).holds R w') (hw0 : B.w0 = w) (he : (i, Ent.rows (shRows us) 1 33) ∈ H) (hm : m = us.length)
    (h1 : us.map IntsV.xs = matRows n tl cnt) (h2 : n.bias.xs = matBias n cnt) (h3 : ∀ u ∈ us, u.sane) (h4 : n.bias.sane) (h5 : ∀ w, n.data.ok w → ∀ u ∈ us, u.ok w) : finK B (.tup [.os i m, .c n.bias.val]) H S nx (MatPost w n tl cnt) := by
  subst hw0 hm
  refine fin_of fun ρ w' hw => ?_
  have hn := new_of_abs hw hb he
  rw [shRows_length] at hn
  obtain ⟨base, cap, e, hc, hD⟩ := newSlicesM hn
  refine ⟨⟨⟨base, cap, us⟩, n.bias, false⟩, ⟨h1, h2, h3, h4, fun _ => ⟨rfl, h5⟩⟩, ?_, ext_of_abs hw hb, hD, fun h => by cases h⟩
  show Ending.returned (.tuple #[(SV.os i us.length).rf ρ, n.bias.val]) = _
  rw [e]; rfl
set_option maxRecDepth 20000 in
set_option maxHeartbeats 2000000 in
theorem mat_dense (w : World) (n : NodeV) (t : IntsV) (ht : t.ok w) (hno : n.ok w) (hk : n.kind = 3) (size cnt : Nat) (hsz : entries t.xs = size) (h1 : 1 ≤ size ∧ size ≤ 64) (hb : n.bias.xs.length = cnt) (hc : 1 ≤ cnt ∧ cnt ≤ 64) (hdl : n.data.xs.length = cnt * size) : Calls Try.prog 66 #[n.valA, t.val] w (MatPost w n t.xs cnt) := by
  have hd := hno.data
  have hpos : size ≤ cnt * size := Nat.le_mul_of_pos_left _ hc.1
  obtain ⟨ua, hua⟩ := hd.base (by omega)
  refine calls_of tab tabOk Try.func66 rfl rfl rfl [] (fun _ => ⟨none, 0⟩) [.agg [.c (.int .i64 n.kind), .c (.int .i64 n.a), .c (.int .i64 n.b), .c n.shape.val, .c (.int .i64 n.lo), .c (.int .i64 n.hi), .c (.int .i64 n.size), .c n.data.val, .c n.bias.val], .c t.val] [] (baseA w) 0 rfl rfl (by show 2 ≤ _; decide) (abs_base w) ?_
  (repeat' ((conv => whnf) <;> first | (show callK _ 34 _ _ _ _ _; (refine call_pure (f := 34) Try.call34 (.int .i64 (entries t.xs)) (fun ρ w' hw => refEntries_any w' t.base t.cap t.xs (holds_of_abs hw fun R h => rows_base h ht.rows)) ?_)) | (show drawK _ 9 _ _ _ _ _ _; (refine draw_quiet tabOk mixed (by kernel_rfl) ?_)) | (show drawK _ 11 _ _ _ _ _ _; (refine draw_quiet tabOk mixed (by kernel_rfl) ?_)) | (show drawK _ 28 _ _ _ _ _ _; (refine draw_tree tabOk mixed [25] _ (.take 0 (.take 1 (.take 2 (.take 3 (.take 4 (.take 5 (.take 6 (.take 7 (.take 8 (.take 9 (.take 10 (.take 11 (.take 12 (.take 13 (.take 14 (.take 15 (.take 16 (.take 17 (.take 18 (.take 19 (.take 20 (.take 21 (.take 22 (.take 23 (.take 24 (.one 25 (.done))))))))))))))))))))))))))) (by kernel_rfl) (by kernel_rfl) (by kernel_rfl) (List.Sublist.refl _) ?_)) | (show drawK _ 30 _ _ _ _ _ _; (refine draw_tree tabOk mixed [] _ (.take 0 (.take 1 (.take 2 (.take 4 (.one 3 (.take 5 (.done))))))) (by kernel_rfl) (by kernel_rfl) (by kernel_rfl) (List.Sublist.refl _) ?_)) | (show drawK _ 37 _ _ _ _ _ _; (refine draw_quiet tabOk mixed (by kernel_rfl) ?_)) | (show drawK _ 40 _ _ _ _ _ _; (refine draw_quiet tabOk mixed (by kernel_rfl) ?_)) | (show drawK _ 52 _ _ _ _ _ _; (refine draw_tree tabOk mixed [42] _ (.take 0 (.take 1 (.take 2 (.take 3 (.take 4 (.take 5 (.take 6 (.take 7 (.take 8 (.take 9 (.take 10 (.take 11 (.take 12 (.take 13 (.take 14 (.take 15 (.take 16 (.take 17 (.take 18 (.take 19 (.take 20 (.take 21 (.take 22 (.take 23 (.take 24 (.take 25 (.take 26 (.take 27 (.take 28 (.take 29 (.take 30 (.take 31 (.take 32 (.take 33 (.take 34 (.take 35 (.take 36 (.take 37 (.take 38 (.take 39 (.take 40 (.take 41 (.one 42 (.done)))))))))))))))))))))))))))))))))))))))))))) (by kernel_rfl) (by kernel_rfl) (by kernel_rfl) (List.Sublist.refl _) ?_)) | (show Wp _ _ _ _ _ _ _; (refine Wp.go tabOk rfl ?_)) | (show @cmpK _ _ _; (first | refine cmp_yes (by omega) ?_ | refine cmp_no (by omega) ?_ | (refine cmp_both ?_ ?_ <;> intro _))) | (show wrapK _ _ _; (refine wrap_i64 (by omega) (by omega) ?_)) | (show leK _ _ _; (refine le_of (by first | exact Nat.le_refl _ | omega) ?_)) | (show roomK _ _ _; (refine room_of (by first | omega | (dsimp only; omega)) ?_)) | (show ltK _ _ _; (refine lt_of (by omega) ?_)) | (show _ ∧ _; (refine ⟨?_, ?_⟩)) | (show keepK _ _ _ _ _; (refine keep_of (by first | exact List.Sublist.refl _ | exact List.Sublist.cons _ (List.Sublist.refl _) | exact List.Sublist.cons _ (List.Sublist.cons _ (List.Sublist.refl _)) | exact List.Sublist.cons _ (List.Sublist.cons _ (List.Sublist.cons _ (List.Sublist.refl _)))) (by first | exact (fun _ _ h => h) | exact (fun _ _ h => h.1) | exact (fun _ _ h => h.1.1)) ?_)) | (show ownK _ _ _ _ _; (refine own_keep ?_)) | (show apK _ _; (refine ap_old ?_))))
  refine Wp.loop (σ := Nat × Nat × List IntsV) 2 (fun ⟨o, m, us⟩ => [(2, .lp 0 0 0 0), (6, .c (.int .i64 size)), (7, .os 1 m), (33, .c (.int .i64 cnt)), (34, .c (.int .i64 o))]) (fun ⟨_, _, us⟩ => [(1, .rows (shRows us) 1 33), (0, .box [.c (.int .i64 n.kind), .c (.int .i64 n.a), .c (.int .i64 n.b), .c n.shape.val, .c (.int .i64 n.lo), .c (.int .i64 n.hi), .c (.int .i64 n.size), .c n.data.val, .c n.bias.val] 38)]) (fun _ => baseA w)
    (fun ⟨o, m, us⟩ => o ≤ cnt ∧ m = us.length ∧ us = (List.range o).map (cutU n.data ua size)) (fun s => cnt - s.1) (0, 0, []) [(1, none)] (by decide) (fun s => ⟨rfl, rfl⟩) ⟨Nat.zero_le _, rfl, rfl⟩ ⟨rfl, ⟨rfl, ?_, rfl, ?_, rfl, trivial⟩, ⟨rfl, (by repeat (first | exact List.mem_cons_self | apply List.mem_cons_of_mem)), trivial⟩, fun _ _ h => h⟩ ?_
  · rw [hsz]; rfl
  · rw [hb]; rfl
  rintro ⟨o, m, us⟩ ⟨ho, hm, hus⟩
  have hml : us.length = o := by rw [hus]; simp
  by_cases hlt : o < cnt
  · have q1 : o * size + size ≤ cnt * size := by
      have : (o + 1) * size ≤ cnt * size := Nat.mul_le_mul_right _ (by omega)
      rw [Nat.add_mul, Nat.one_mul] at this
      exact this
    have q2 : cnt * size ≤ 64 * 64 := Nat.mul_le_mul hc.2 h1.2
    have e1 : (o : Int) * size = ((o * size : Nat) : Int) := by rw [Int.natCast_mul]
    have e2 : ((o : Int) + 1) * size = ((o * size + size : Nat) : Int) := by rw [Int.add_mul, Int.one_mul, Int.natCast_add, Int.natCast_mul]
    generalize hP : o * size = P at *
    have hroom := hd.room
    (repeat' ((conv => whnf) <;> first | (show sliceK _ _ _ _ _ _ _ _; (refine slice_cut hua e1 e2 (by omega) (by omega) (by omega) ?_)) | (show leK _ _ _; (refine le_of (by rw [shRows_length, hm]; exact Nat.le_refl _) ?_)) | (show roomK _ _ _; (refine room_of (by show (m + 1) * 24 ≤ 140737488355328; omega) ?_)) | (show drawK _ 9 _ _ _ _ _ _; (refine draw_quiet tabOk mixed (by kernel_rfl) ?_)) | (show drawK _ 11 _ _ _ _ _ _; (refine draw_quiet tabOk mixed (by kernel_rfl) ?_)) | (show drawK _ 28 _ _ _ _ _ _; (refine draw_tree tabOk mixed [25] _ (.take 0 (.take 1 (.take 2 (.take 3 (.take 4 (.take 5 (.take 6 (.take 7 (.take 8 (.take 9 (.take 10 (.take 11 (.take 12 (.take 13 (.take 14 (.take 15 (.take 16 (.take 17 (.take 18 (.take 19 (.take 20 (.take 21 (.take 22 (.take 23 (.take 24 (.one 25 (.done))))))))))))))))))))))))))) (by kernel_rfl) (by kernel_rfl) (by kernel_rfl) (List.Sublist.refl _) ?_)) | (show drawK _ 30 _ _ _ _ _ _; (refine draw_tree tabOk mixed [] _ (.take 0 (.take 1 (.take 2 (.take 4 (.one 3 (.take 5 (.done))))))) (by kernel_rfl) (by kernel_rfl) (by kernel_rfl) (List.Sublist.refl _) ?_)) | (show drawK _ 37 _ _ _ _ _ _; (refine draw_quiet tabOk mixed (by kernel_rfl) ?_)) | (show drawK _ 40 _ _ _ _ _ _; (refine draw_quiet tabOk mixed (by kernel_rfl) ?_)) | (show drawK _ 52 _ _ _ _ _ _; (refine draw_tree tabOk mixed [42] _ (.take 0 (.take 1 (.take 2 (.take 3 (.take 4 (.take 5 (.take 6 (.take 7 (.take 8 (.take 9 (.take 10 (.take 11 (.take 12 (.take 13 (.take 14 (.take 15 (.take 16 (.take 17 (.take 18 (.take 19 (.take 20 (.take 21 (.take 22 (.take 23 (.take 24 (.take 25 (.take 26 (.take 27 (.take 28 (.take 29 (.take 30 (.take 31 (.take 32 (.take 33 (.take 34 (.take 35 (.take 36 (.take 37 (.take 38 (.take 39 (.take 40 (.take 41 (.one 42 (.done)))))))))))))))))))))))))))))))))))))))))))) (by kernel_rfl) (by kernel_rfl) (by kernel_rfl) (List.Sublist.refl _) ?_)) | (show Wp _ _ _ _ _ _ _; (refine Wp.go tabOk rfl ?_)) | (show @cmpK _ _ _; (first | refine cmp_yes (by omega) ?_ | refine cmp_no (by omega) ?_ | (refine cmp_both ?_ ?_ <;> intro _))) | (show wrapK _ _ _; (refine wrap_i64 (by omega) (by omega) ?_)) | (show leK _ _ _; (refine le_of (by first | exact Nat.le_refl _ | omega) ?_)) | (show roomK _ _ _; (refine room_of (by first | omega | (dsimp only; omega)) ?_)) | (show ltK _ _ _; (refine lt_of (by omega) ?_)) | (show _ ∧ _; (refine ⟨?_, ?_⟩)) | (show keepK _ _ _ _ _; (refine keep_of (by first | exact List.Sublist.refl _ | exact List.Sublist.cons _ (List.Sublist.refl _) | exact List.Sublist.cons _ (List.Sublist.cons _ (List.Sublist.refl _)) | exact List.Sublist.cons _ (List.Sublist.cons _ (List.Sublist.cons _ (List.Sublist.refl _)))) (by first | exact (fun _ _ h => h) | exact (fun _ _ h => h.1) | exact (fun _ _ h => h.1.1)) ?_)) | (show ownK _ _ _ _ _; (refine own_keep ?_)) | (show apK _ _; (refine ap_old ?_))))
    all_goals (conv => whnf)
    have hval : Value.slice (some (ua.add P)) (P + size - P) (n.data.cap - P) = (cutU n.data ua size o).val := by
      unfold cutU IntsV.val
      simp only [List.length_take, List.length_drop, hP]
      congr 1
      omega
    exact ⟨(o + 1, m + 1, us ++ [cutU n.data ua size o]), [(1, some 3)], ⟨hlt, by rw [hm]; simp, by rw [hus, List.range_succ, List.map_append]; rfl⟩, by simp only; omega, rfl, ⟨rfl, rfl, rfl, rfl, rfl, trivial⟩, ⟨by
      have := rows_snoc us (cutU n.data ua size o) (i := 3) (T := 33) (H := [])
      rw [← hval, ← hm] at this
      exact List.mem_cons.2 (.inl (List.mem_singleton.1 this)), (by repeat (first | exact List.mem_cons_self | apply List.mem_cons_of_mem)), trivial⟩, fun _ _ h => h⟩
  · obtain rfl : o = cnt := by omega
    (repeat' ((conv => whnf) <;> first | (show drawK _ 9 _ _ _ _ _ _; (refine draw_quiet tabOk mixed (by kernel_rfl) ?_)) | (show drawK _ 11 _ _ _ _ _ _; (refine draw_quiet tabOk mixed (by kernel_rfl) ?_)) | (show drawK _ 28 _ _ _ _ _ _; (refine draw_tree tabOk mixed [25] _ (.take 0 (.take 1 (.take 2 (.take 3 (.take 4 (.take 5 (.take 6 (.take 7 (.take 8 (.take 9 (.take 10 (.take 11 (.take 12 (.take 13 (.take 14 (.take 15 (.take 16 (.take 17 (.take 18 (.take 19 (.take 20 (.take 21 (.take 22 (.take 23 (.take 24 (.one 25 (.done))))))))))))))))))))))))))) (by kernel_rfl) (by kernel_rfl) (by kernel_rfl) (List.Sublist.refl _) ?_)) | (show drawK _ 30 _ _ _ _ _ _; (refine draw_tree tabOk mixed [] _ (.take 0 (.take 1 (.take 2 (.take 4 (.one 3 (.take 5 (.done))))))) (by kernel_rfl) (by kernel_rfl) (by kernel_rfl) (List.Sublist.refl _) ?_)) | (show drawK _ 37 _ _ _ _ _ _; (refine draw_quiet tabOk mixed (by kernel_rfl) ?_)) | (show drawK _ 40 _ _ _ _ _ _; (refine draw_quiet tabOk mixed (by kernel_rfl) ?_)) | (show drawK _ 52 _ _ _ _ _ _; (refine draw_tree tabOk mixed [42] _ (.take 0 (.take 1 (.take 2 (.take 3 (.take 4 (.take 5 (.take 6 (.take 7 (.take 8 (.take 9 (.take 10 (.take 11 (.take 12 (.take 13 (.take 14 (.take 15 (.take 16 (.take 17 (.take 18 (.take 19 (.take 20 (.take 21 (.take 22 (.take 23 (.take 24 (.take 25 (.take 26 (.take 27 (.take 28 (.take 29 (.take 30 (.take 31 (.take 32 (.take 33 (.take 34 (.take 35 (.take 36 (.take 37 (.take 38 (.take 39 (.take 40 (.take 41 (.one 42 (.done)))))))))))))))))))))))))))))))))))))))))))) (by kernel_rfl) (by kernel_rfl) (by kernel_rfl) (List.Sublist.refl _) ?_)) | (show Wp _ _ _ _ _ _ _; (refine Wp.go tabOk rfl ?_)) | (show @cmpK _ _ _; (first | refine cmp_yes (by omega) ?_ | refine cmp_no (by omega) ?_ | (refine cmp_both ?_ ?_ <;> intro _))) | (show wrapK _ _ _; (refine wrap_i64 (by omega) (by omega) ?_)) | (show leK _ _ _; (refine le_of (by first | exact Nat.le_refl _ | omega) ?_)) | (show roomK _ _ _; (refine room_of (by first | omega | (dsimp only; omega)) ?_)) | (show ltK _ _ _; (refine lt_of (by omega) ?_)) | (show _ ∧ _; (refine ⟨?_, ?_⟩)) | (show keepK _ _ _ _ _; (refine keep_of (by first | exact List.Sublist.refl _ | exact List.Sublist.cons _ (List.Sublist.refl _) | exact List.Sublist.cons _ (List.Sublist.cons _ (List.Sublist.refl _)) | exact List.Sublist.cons _ (List.Sublist.cons _ (List.Sublist.cons _ (List.Sublist.refl _)))) (by first | exact (fun _ _ h => h) | exact (fun _ _ h => h.1) | exact (fun _ _ h => h.1.1)) ?_)) | (show ownK _ _ _ _ _; (refine own_keep ?_)) | (show apK _ _; (refine ap_old ?_))))
    all_goals (conv => whnf)
    have hcl : ∀ k, k < o → k * size + size ≤ n.data.xs.length := fun k hk => by
      have : (k + 1) * size ≤ o * size := Nat.mul_le_mul_right _ (by omega)
      rw [Nat.add_mul, Nat.one_mul] at this
      omega
    refine mat_end_old (fun _ _ h => h) rfl (by repeat (first | exact List.mem_cons_self | apply List.mem_cons_of_mem)) hm ?_ ?_ ?_ ⟨hno.bias.fits, hno.bias.room, hno.bias.few⟩ ?_
    · rw [hus, matRows, List.map_map]
      refine List.map_congr_left fun k _ => ?_
      unfold matRow
      rw [if_pos hk, hsz, Int.toNat_natCast]; rfl
    · unfold matBias
      apply List.ext_getElem
      · simp [hb]
      · intro k g1 g2
        rw [List.getElem_map, List.getElem_range]
        unfold biasI
        rw [if_pos hk, List.getD_eq_getElem?_getD, List.getElem?_eq_getElem g1]; rfl
    · intro u hu
      rw [hus] at hu
      obtain ⟨k, hk', rfl⟩ := List.mem_map.1 hu
      exact cutU_sane size k hd hua (hcl k (List.mem_range.1 hk'))
    · intro w' hd' u hu
      rw [hus] at hu
      obtain ⟨k, hk', rfl⟩ := List.mem_map.1 hu
      exact cutU_ok size k hd' hua (hcl k (List.mem_range.1 hk'))
end Go.Proofs.Ytdmkdogakbipbaa

/- JI -/
namespace Go.Proofs.Ytdmkdogakbipbaa
open Go.SX Go.RowKit
theorem mul_add_div {A x m : Int} (hx : 0 ≤ x ∧ x < m) : (A * m + x) / m = A ∧ (A * m + x) % m = x := by
  have hm : 0 < m := by omega
  constructor
  · rw [Int.add_comm, Int.add_mul_ediv_right _ _ (by omega), Int.ediv_eq_zero_of_lt hx.1 hx.2]; omega
  · rw [Int.add_comm, Int.add_mul_emod_self_right, Int.emod_eq_of_lt hx.1 hx.2]
theorem pos3 {c y x H W o : Int} (ho : o = (c * H + y) * W + x) (hx : 0 ≤ x ∧ x < W) (hy : 0 ≤ y ∧ y < H) : o / W / H = c ∧ o / W % H = y ∧ o % W = x := by
  subst ho
  rw [(mul_add_div hx).1, (mul_add_div hx).2, (mul_add_div hy).1, (mul_add_div hy).2]
  exact ⟨rfl, rfl, rfl⟩
def rowP (T : List Sp) (size m : Nat) : List Int := (T.take m).foldl setT (List.replicate size 0)
theorem rowP_length (T : List Sp) (size m : Nat) : (rowP T size m).length = size := by unfold rowP; rw [setsT_length, List.length_replicate]
theorem rowP_succ {T : List Sp} {size m : Nat} (h : m < T.length) : rowP T size (m + 1) = setT (rowP T size m) T[m] := by
  unfold rowP
  rw [List.take_succ_eq_append_getElem h, List.foldl_append]; rfl
theorem ints_store {r : List Int} {k : Nat} {v : Int} {K : List (List Value) → Prop} (hk : k < r.length) (h : K (ints (r.set k v))) : rowStoreK (ints r) k 0 [.int .i64 v] K := by
  refine rowStore_of _ (ints_get hk) (by show 0 + 1 ≤ 1; omega) ?_
  have e : (ints r).set k (setFrom [Value.int .i64 r[k]] 0 [.int .i64 v]) = ints (r.set k v) := by
    have e2 : setFrom [Value.int .i64 r[k]] 0 [.int .i64 v] = [Value.int .i64 v] := rfl
    rw [e2]
    simp [ints, List.map_set]
  rw [e]; exact h
theorem sets_bd : ∀ (T : List Sp) (r : List Int), (∀ x ∈ r, bd20 x) → (∀ t ∈ T, bd20 t.1) → ∀ x ∈ T.foldl setT r, bd20 x
  | [], r, h, _ => h
  | t :: T, r, h, ht => by
    rw [List.foldl_cons]
    refine sets_bd T _ (fun x hx => ?_) (fun u hu => ht u (List.mem_cons_of_mem _ hu))
    rcases List.mem_or_eq_of_mem_set hx with hx | hx
    · exact h x hx
    · rw [hx]; exact ht t List.mem_cons_self
theorem rowP_bd {T : List Sp} {size m : Nat} (hT : ∀ t ∈ T, bd20 t.1) : ∀ x ∈ rowP T size m, bd20 x :=
  sets_bd _ _ (fun x hx => by rw [(List.mem_replicate.1 hx).2]; exact ⟨by decide, by decide⟩) (fun t ht => hT t (List.mem_of_mem_take ht))
theorem ro_intv {a : Addr} {j : Nat} {S : Asn} {xs : List Int} {v : Int} {K : SV → Prop} (hx : ∀ R w, S.holds R w → RowsI w (some a) 1 (ints xs)) (hj : j < xs.length) (e : xs.getD j 0 = v) (h : K (.c (.int .i64 v))) : roK (a.add (j * 1)) S K := by
  subst e; exact ro_int hx hj h
theorem nn_bd {a b A B : Int} (ha : 0 ≤ a ∧ a ≤ A) (hb : 0 ≤ b ∧ b ≤ B) : 0 ≤ a * b ∧ a * b ≤ A * B := ⟨Int.mul_nonneg ha.1 hb.1, Int.mul_le_mul ha.2 hb.2 hb.1 (by omega)⟩
/-- rows so far -/
structure Sofar3 (n : NodeV) (tl : List Int) (us : List IntsV) (o : Nat) : Prop where
  rows : us.map IntsV.xs = (List.range o).map (matRow n tl)
  sane : ∀ u ∈ us, u.sane
theorem Sofar3.len {n : NodeV} {tl : List Int} {us : List IntsV} {o : Nat} (h : Sofar3 n tl us o) : us.length = o := by
  have := congrArg List.length h.rows
  simpa using this
theorem Sofar3.next {n : NodeV} {tl : List Int} {us : List IntsV} {o : Nat} {u : IntsV} (h : Sofar3 n tl us o) (hu : u.sane) (hx : u.xs = matRow n tl o) : Sofar3 n tl (us ++ [u]) (o + 1) := by
  refine ⟨by rw [List.map_append, h.rows, List.range_succ, List.map_append, List.map_cons, List.map_nil, List.map_cons, List.map_nil, hx], fun v hv => ?_⟩
  rcases List.mem_append.1 hv with hv | hv
  · exact h.sane v hv
  · rw [List.mem_singleton.1 hv]; exact hu
theorem mat_end_new {B : Base} {H : Heap} {S : Asn} {nx i j m m' : Nat} {w : World} {n : NodeV} {tl : List Int} {cnt : Nat} {us : List IntsV} {bs : List Int} (hb : ∀ R w', S.holds R w' → (baseA B.w0).holds R w') (hE : ∀ R w', S.holds R w' → (eachA B.w0.heap.size us).holds R w') (hw0 : B.w0 = w) (he : (i, Ent.rows (shRows us) 1 33) ∈ H) (hj : (j, Ent.rows (ints bs) 1 3) ∈ H) (hm : m = us.length) (hm' : m' = bs.length)
    (h1 : Sofar3 n tl us cnt) (h2 : bs = matBias n cnt) (h3 : ∀ x ∈ bs, i64 x) (h4 : bs.length ≤ 1000000) : finK B (.tup [.os i m, .os j m']) H S nx (MatPost w n tl cnt) := by
  subst hw0 hm hm'
  refine fin_of fun ρ w' hw => ?_
  have hn := new_of_abs hw hb he
  have hn2 := new_of_abs hw hb hj
  rw [shRows_length] at hn
  rw [ints_length] at hn2
  obtain ⟨base, cap, e, hc, hD⟩ := newSlicesM hn
  obtain ⟨u, f1, f2, f3, f4⟩ := newInts hn2 h3 h4
  refine ⟨⟨⟨base, cap, us⟩, u, true⟩, ⟨h1.rows, by rw [← h2]; exact f2, h1.sane, f3, fun h => by cases h⟩, ?_, ext_of_abs hw hb, hD, fun _ => ⟨fun v hv => past_new hw (D := intsA v) fun R w' h => hE R w' h v hv, f4⟩⟩
  show Ending.returned (.tuple #[(SV.os i us.length).rf ρ, (SV.os j bs.length).rf ρ]) = _
  rw [e, f1]; rfl
theorem pool_row {n : NodeV} {t : IntsV} (hk : n.kind = 5) {size : Nat} (hsz : entries t.xs = size) (o : Nat) {T : List Sp} (hT : T = poolT n.size (t.xs.getD 1 0) (t.xs.getD 2 0) o) {m : Nat} (hm : m = T.length) : rowP T size m = matRow n t.xs o := by
  subst hT hm
  unfold matRow termsG rowP
  rw [if_neg (by omega), if_neg (by omega), if_neg (by omega), List.take_of_length_le (Nat.le_refl _), hsz]; rfl
theorem pos_lt {c y x H W k m n : Int} (hm : m = (c * H + y) * W + x) (hn : n = k * H * W) (hx : 0 ≤ x ∧ x < W) (hy : 0 ≤ y ∧ y < H) (hc : c < k) : m < n := by
  have u1 : (c * H + y) * W + x < (c * H + y + 1) * W := by rw [Int.add_mul _ 1]; omega
  have u2 : c * H + y + 1 ≤ (c + 1) * H := by rw [Int.add_mul]; omega
  have u3 : (c * H + y + 1) * W ≤ (c + 1) * H * W := Int.mul_le_mul_of_nonneg_right u2 (by omega)
  have u4 : (c + 1) * H * W ≤ k * H * W := Int.mul_le_mul_of_nonneg_right (Int.mul_le_mul_of_nonneg_right (by omega) (by omega)) (by omega)
  omega
theorem poolT_at {T : List Sp} {z i1 i2 W H c y x i j : Int} {m p : Nat} (hT : T = poolT z i1 i2 m) (hWd : i2 / z = W) (hHd : i1 / z = H) (hmx : (m : Int) = (c * H + y) * W + x) (hx : 0 ≤ x ∧ x < W) (hy : 0 ≤ y ∧ y < H) (hp : p < T.length) (he : (p : Int) = i * z + j) (hj : 0 ≤ j ∧ j < z) : T[p] = (1, (c * i1 + y * z + i) * i2 + x * z + j) := by
  subst hT
  have hpos := pos3 hmx hx hy
  have hq := mul_add_div (A := i) (x := j) (m := z) hj
  simp only [poolT, List.getElem_map, List.getElem_range]
  unfold poolTerm
  rw [hWd, hHd, hpos.1, hpos.2.1, hpos.2.2, he, hq.1, hq.2]
theorem poolT_bd {T : List Sp} {z i1 i2 o : Int} (hT : T = poolT z i1 i2 o) : ∀ t ∈ T, bd20 t.1 := fun t ht => by
  subst hT
  obtain ⟨k, _, rfl⟩ := List.mem_map.1 ht
  exact ⟨(show (-1048576 : Int) ≤ 1 by decide), (show (1 : Int) ≤ 1048576 by decide)⟩
theorem sq_lt {p : Nat} {L z i j : Int} (hL : L = z * z) (hp : (p : Int) = i * z + j) (hi : i < z) (hj : 0 ≤ j ∧ j < z) : p < L := by
  have u1 : (i + 1) * z ≤ z * z := Int.mul_le_mul_of_nonneg_right (by omega) (by omega)
  rw [Int.add_mul, Int.one_mul] at u1
  omega
theorem ix_bd {c i1 y z i i2 x : Int} (hc : 0 ≤ c ∧ c ≤ 64) (h1 : 0 ≤ i1 ∧ i1 ≤ 64) (hy : 0 ≤ y ∧ y ≤ 64) (hz : 0 ≤ z ∧ z ≤ 64) (hi : 0 ≤ i ∧ i ≤ 64) (h2 : 0 ≤ i2 ∧ i2 ≤ 64) (hx : 0 ≤ x ∧ x ≤ 64) : (0 ≤ c * i1 ∧ c * i1 ≤ 4096) ∧ (0 ≤ y * z ∧ y * z ≤ 4096) ∧ (0 ≤ (c * i1 + y * z + i) * i2 ∧ (c * i1 + y * z + i) * i2 ≤ 576000) ∧ (0 ≤ x * z ∧ x * z ≤ 4096) := by
  have e1 := nn_bd (a := c) (b := i1) (A := 64) (B := 64) hc h1
  have e2 := nn_bd (a := y) (b := z) (A := 64) (B := 64) hy hz
  have e3 := nn_bd (a := c * i1 + y * z + i) (b := i2) (A := 9000) (B := 64) (by omega) h2
  have e4 := nn_bd (a := x) (b := z) (A := 64) (B := 64) hx hz
  omega
theorem rows_snocM (us : List IntsV) (base : Option Addr) (cap : Nat) (xs : List Int) {m k : Nat} (hm : m = us.length) (hk : k = xs.length) {i : Nat} {T : TypeId} {H : Heap} : (i, Ent.rows (shRows (us ++ [IntsV.mk base cap xs])) 1 T) ∈ (i, Ent.rows (List.take m (shRows us) ++ [[.slice base k cap]]) 1 T) :: H := by
  subst hm hk; exact rows_snoc us _
theorem ints_zeros (k : Nat) : ints (List.replicate k 0) = List.replicate k [Value.int .i64 0] := by simp [ints]
end Go.Proofs.Ytdmkdogakbipbaa

/- JJ -/
namespace Go.Proofs.Ytdmkdogakbipbaa
open Go.SX Go.RowKit
set_option maxRecDepth 20000 in
set_option maxHeartbeats 8000000 in
theorem mat_pool (w : World) (n : NodeV) (t : IntsV) (ht : t.ok w) (hno : n.ok w) (hk : n.kind = 5) (size cnt : Nat) (i0 i1 i2 : Int) (htx : t.xs = [i0, i1, i2]) (hsz : entries t.xs = size) (hs64 : size ≤ 64) (b0 : 1 ≤ i0 ∧ i0 ≤ 64) (b1 : n.size ≤ i1 ∧ i1 ≤ 64) (b2 : n.size ≤ i2 ∧ i2 ≤ 64) (bz : 1 ≤ n.size) (m1 : i1 % n.size = 0) (m2 : i2 % n.size = 0) (hcnt : (cnt : Int) = i0 * (i1 / n.size) * (i2 / n.size)) (hc64 : cnt ≤ 64) (hat : ∀ o : Nat, o < cnt → ∀ s ∈ poolT n.size i1 i2 o, 0 ≤ s.2 ∧ s.2 < size) : Calls Try.prog 66 #[n.valA, t.val] w (MatPost w n t.xs cnt) := by
  obtain ⟨ut, hut⟩ := ht.base (by rw [htx]; simp)
  have hur : ∀ (R : Nat → Prop) w', (baseA w).holds R w' → RowsI w' (some ut) 1 (ints t.xs) := fun R w' h => by rw [← hut]; exact rows_base h ht.rows
  have g0 : t.xs.getD 0 0 = i0 := by rw [htx]; rfl
  have g1 : t.xs.getD 1 0 = i1 := by rw [htx]; rfl
  have g2 : t.xs.getD 2 0 = i2 := by rw [htx]; rfl
  have hz0 : 0 ≤ n.size := Int.le_trans (by decide) bz
  have hW := div_pos1 (x := i2) (y := n.size) bz b2.1
  have hH := div_pos1 (x := i1) (y := n.size) bz b1.1
  have hW2 := Int.ediv_le_self n.size (show 0 ≤ i2 from Int.le_trans hz0 b2.1)
  have hH2 := Int.ediv_le_self n.size (show 0 ≤ i1 from Int.le_trans hz0 b1.1)
  have hTl : ∀ o : Nat, ((poolT n.size i1 i2 o).length : Int) = n.size * n.size := fun o => by
    have : 0 ≤ n.size * n.size := Int.mul_nonneg hz0 hz0
    simp only [poolT, List.length_map, List.length_range]; exact Int.toNat_of_nonneg this
  generalize hWd : i2 / n.size = W at *
  generalize hHd : i1 / n.size = H at *
  have hW0 : 0 ≤ W := Int.le_trans (by decide) hW
  have hH0 : 0 ≤ H := Int.le_trans (by decide) hH
  have hi00 : 0 ≤ i0 := Int.le_trans (by decide) b0.1
  clear m1 m2
  have hl3 : t.xs.length = 3 := by rw [htx]; rfl
  have hd1 : t.xs.getD 1 0 / n.size = H := by rw [g1, hHd]
  have hd2 : t.xs.getD 2 0 / n.size = W := by rw [g2, hWd]
  refine calls_of tab tabOk Try.func66 rfl rfl rfl [] (fun _ => ⟨none, 0⟩) [.agg [.c (.int .i64 n.kind), .c (.int .i64 n.a), .c (.int .i64 n.b), .c n.shape.val, .c (.int .i64 n.lo), .c (.int .i64 n.hi), .c (.int .i64 n.size), .c n.data.val, .c n.bias.val], .c t.val] [] (baseA w) 0 rfl rfl (by show 2 ≤ _; decide) (abs_base w) ?_
  (repeat' ((conv => whnf) <;> first | (show callK _ 34 _ _ _ _ _; (refine call_pure (f := 34) Try.call34 (.int .i64 (entries t.xs)) (fun ρ w' hw => refEntries_any w' t.base t.cap t.xs (holds_of_abs hw fun R h => rows_base h ht.rows)) ?_)) | (show idxK _ _ _ _ _; (refine idx_of _ 1 hut rfl (by omega) ?_)) | (show roK _ _ _; (refine ro_int hur (j := 1) (by omega) ?_)) | (show idxK _ _ _ _ _; (refine idx_of _ 2 hut rfl (by omega) ?_)) | (show roK _ _ _; (refine ro_int hur (j := 2) (by omega) ?_)) | (show idxK _ _ _ _ _; (refine idx_of _ 0 hut rfl (by omega) ?_)) | (show roK _ _ _; (refine ro_int hur (j := 0) (by omega) ?_)) | (show divK _ _ _ _; (first | refine div_to hd1 (by omega) (by omega) (by omega) ?_ | refine div_to hd2 (by omega) (by omega) (by omega) ?_)) | (show drawK _ 9 _ _ _ _ _ _; (refine draw_quiet tabOk mixed (by kernel_rfl) ?_)) | (show drawK _ 11 _ _ _ _ _ _; (refine draw_quiet tabOk mixed (by kernel_rfl) ?_)) | (show drawK _ 28 _ _ _ _ _ _; (refine draw_tree tabOk mixed [25] _ (.take 0 (.take 1 (.take 2 (.take 3 (.take 4 (.take 5 (.take 6 (.take 7 (.take 8 (.take 9 (.take 10 (.take 11 (.take 12 (.take 13 (.take 14 (.take 15 (.take 16 (.take 17 (.take 18 (.take 19 (.take 20 (.take 21 (.take 22 (.take 23 (.take 24 (.one 25 (.done))))))))))))))))))))))))))) (by kernel_rfl) (by kernel_rfl) (by kernel_rfl) (List.Sublist.refl _) ?_)) | (show drawK _ 30 _ _ _ _ _ _; (refine draw_tree tabOk mixed [] _ (.take 0 (.take 1 (.take 2 (.take 4 (.one 3 (.take 5 (.done))))))) (by kernel_rfl) (by kernel_rfl) (by kernel_rfl) (List.Sublist.refl _) ?_)) | (show drawK _ 37 _ _ _ _ _ _; (refine draw_quiet tabOk mixed (by kernel_rfl) ?_)) | (show drawK _ 40 _ _ _ _ _ _; (refine draw_quiet tabOk mixed (by kernel_rfl) ?_)) | (show drawK _ 52 _ _ _ _ _ _; (refine draw_tree tabOk mixed [42] _ (.take 0 (.take 1 (.take 2 (.take 3 (.take 4 (.take 5 (.take 6 (.take 7 (.take 8 (.take 9 (.take 10 (.take 11 (.take 12 (.take 13 (.take 14 (.take 15 (.take 16 (.take 17 (.take 18 (.take 19 (.take 20 (.take 21 (.take 22 (.take 23 (.take 24 (.take 25 (.take 26 (.take 27 (.take 28 (.take 29 (.take 30 (.take 31 (.take 32 (.take 33 (.take 34 (.take 35 (.take 36 (.take 37 (.take 38 (.take 39 (.take 40 (.take 41 (.one 42 (.done)))))))))))))))))))))))))))))))))))))))))))) (by kernel_rfl) (by kernel_rfl) (by kernel_rfl) (List.Sublist.refl _) ?_)) | (show Wp _ _ _ _ _ _ _; (refine Wp.go tabOk rfl ?_)) | (show @cmpK _ _ _; (first | refine cmp_yes (by omega) ?_ | refine cmp_no (by omega) ?_ | (refine cmp_both ?_ ?_ <;> intro _))) | (show wrapK _ _ _; (refine wrap_i64 (by omega) (by omega) ?_)) | (show leK _ _ _; (refine le_of (by first | exact Nat.le_refl _ | omega) ?_)) | (show roomK _ _ _; (refine room_of (by first | omega | (dsimp only; omega)) ?_)) | (show ltK _ _ _; (refine lt_of (by omega) ?_)) | (show _ ∧ _; (refine ⟨?_, ?_⟩)) | (show keepK _ _ _ _ _; (refine keep_of (by first | exact List.Sublist.refl _ | exact List.Sublist.cons _ (List.Sublist.refl _) | exact List.Sublist.cons _ (List.Sublist.cons _ (List.Sublist.refl _)) | exact List.Sublist.cons _ (List.Sublist.cons _ (List.Sublist.cons _ (List.Sublist.refl _)))) (by first | exact (fun _ _ h => h) | exact (fun _ _ h => h.1) | exact (fun _ _ h => h.1.1)) ?_)) | (show ownK _ _ _ _ _; (refine own_keep ?_)) | (show apK _ _; (refine ap_old ?_))))
  refine Wp.loop (σ := Int × Nat × List IntsV) 2 (fun ⟨c, m, us⟩ => [(1, .c t.val), (2, .lp 0 0 0 0), (6, .c (.int .i64 size)), (9, .c (.int .i64 H)), (10, .c (.int .i64 W)), (7, .os 1 m), (11, .c (.int .i64 c))]) (fun ⟨_, _, us⟩ => [(1, .rows (shRows us) 1 33), (0, .box [.c (.int .i64 n.kind), .c (.int .i64 n.a), .c (.int .i64 n.b), .c n.shape.val, .c (.int .i64 n.lo), .c (.int .i64 n.hi), .c (.int .i64 n.size), .c n.data.val, .c n.bias.val] 38)]) (fun ⟨_, _, us⟩ => (baseA w).and (eachA w.heap.size us))
    (fun ⟨c, m, us⟩ => (0 ≤ c ∧ c ≤ i0) ∧ Sofar3 n t.xs us m ∧ (m : Int) = c * H * W) (fun s => (i0 - s.1).toNat) (0, 0, []) [(1, none)] (by decide) (fun s => ⟨rfl, rfl⟩) ⟨⟨Int.le_refl _, hi00⟩, ⟨rfl, fun u hu => by simp at hu⟩, by simp⟩ ⟨rfl, ⟨rfl, rfl, ?_, rfl, rfl, rfl, rfl, trivial⟩, ⟨rfl, (by repeat (first | exact List.mem_cons_self | apply List.mem_cons_of_mem)), trivial⟩, fun R w' h => ⟨h, eachA_nil _ R w'⟩⟩ ?_
  · rw [hsz]; rfl
  rintro ⟨c, m, us⟩ ⟨⟨hc0, hc1⟩, hso, hmc⟩
  by_cases hci : c < i0
  · (repeat' ((conv => whnf) <;> first | (show idxK _ _ _ _ _; (refine idx_of _ 0 hut rfl (by omega) ?_)) | (show roK _ _ _; (refine ro_int (fun R w' h => hur R w' h.1) (j := 0) (by omega) ?_)) | (show drawK _ 9 _ _ _ _ _ _; (refine draw_quiet tabOk mixed (by kernel_rfl) ?_)) | (show drawK _ 11 _ _ _ _ _ _; (refine draw_quiet tabOk mixed (by kernel_rfl) ?_)) | (show drawK _ 28 _ _ _ _ _ _; (refine draw_tree tabOk mixed [25] _ (.take 0 (.take 1 (.take 2 (.take 3 (.take 4 (.take 5 (.take 6 (.take 7 (.take 8 (.take 9 (.take 10 (.take 11 (.take 12 (.take 13 (.take 14 (.take 15 (.take 16 (.take 17 (.take 18 (.take 19 (.take 20 (.take 21 (.take 22 (.take 23 (.take 24 (.one 25 (.done))))))))))))))))))))))))))) (by kernel_rfl) (by kernel_rfl) (by kernel_rfl) (List.Sublist.refl _) ?_)) | (show drawK _ 30 _ _ _ _ _ _; (refine draw_tree tabOk mixed [] _ (.take 0 (.take 1 (.take 2 (.take 4 (.one 3 (.take 5 (.done))))))) (by kernel_rfl) (by kernel_rfl) (by kernel_rfl) (List.Sublist.refl _) ?_)) | (show drawK _ 37 _ _ _ _ _ _; (refine draw_quiet tabOk mixed (by kernel_rfl) ?_)) | (show drawK _ 40 _ _ _ _ _ _; (refine draw_quiet tabOk mixed (by kernel_rfl) ?_)) | (show drawK _ 52 _ _ _ _ _ _; (refine draw_tree tabOk mixed [42] _ (.take 0 (.take 1 (.take 2 (.take 3 (.take 4 (.take 5 (.take 6 (.take 7 (.take 8 (.take 9 (.take 10 (.take 11 (.take 12 (.take 13 (.take 14 (.take 15 (.take 16 (.take 17 (.take 18 (.take 19 (.take 20 (.take 21 (.take 22 (.take 23 (.take 24 (.take 25 (.take 26 (.take 27 (.take 28 (.take 29 (.take 30 (.take 31 (.take 32 (.take 33 (.take 34 (.take 35 (.take 36 (.take 37 (.take 38 (.take 39 (.take 40 (.take 41 (.one 42 (.done)))))))))))))))))))))))))))))))))))))))))))) (by kernel_rfl) (by kernel_rfl) (by kernel_rfl) (List.Sublist.refl _) ?_)) | (show Wp _ _ _ _ _ _ _; (refine Wp.go tabOk rfl ?_)) | (show @cmpK _ _ _; (first | refine cmp_yes (by omega) ?_ | refine cmp_no (by omega) ?_ | (refine cmp_both ?_ ?_ <;> intro _))) | (show wrapK _ _ _; (refine wrap_i64 (by omega) (by omega) ?_)) | (show leK _ _ _; (refine le_of (by first | exact Nat.le_refl _ | omega) ?_)) | (show roomK _ _ _; (refine room_of (by first | omega | (dsimp only; omega)) ?_)) | (show ltK _ _ _; (refine lt_of (by omega) ?_)) | (show _ ∧ _; (refine ⟨?_, ?_⟩)) | (show keepK _ _ _ _ _; (refine keep_of (by first | exact List.Sublist.refl _ | exact List.Sublist.cons _ (List.Sublist.refl _) | exact List.Sublist.cons _ (List.Sublist.cons _ (List.Sublist.refl _)) | exact List.Sublist.cons _ (List.Sublist.cons _ (List.Sublist.cons _ (List.Sublist.refl _)))) (by first | exact (fun _ _ h => h) | exact (fun _ _ h => h.1) | exact (fun _ _ h => h.1.1)) ?_)) | (show ownK _ _ _ _ _; (refine own_keep ?_)) | (show apK _ _; (refine ap_old ?_))))
    refine Wp.loop (σ := Int × Nat × List IntsV) 3 (fun ⟨y, m, us⟩ => [(1, .c t.val), (2, .lp 0 0 0 0), (6, .c (.int .i64 size)), (9, .c (.int .i64 H)), (10, .c (.int .i64 W)), (7, .os 2 m), (11, .c (.int .i64 c)), (12, .c (.int .i64 y))]) (fun ⟨_, _, us⟩ => [(2, .rows (shRows us) 1 33), (0, .box [.c (.int .i64 n.kind), .c (.int .i64 n.a), .c (.int .i64 n.b), .c n.shape.val, .c (.int .i64 n.lo), .c (.int .i64 n.hi), .c (.int .i64 n.size), .c n.data.val, .c n.bias.val] 38)]) (fun ⟨_, _, us⟩ => (baseA w).and (eachA w.heap.size us))
      (fun ⟨y, m, us⟩ => (0 ≤ y ∧ y ≤ H) ∧ Sofar3 n t.xs us m ∧ (m : Int) = (c * H + y) * W) (fun s => (H - s.1).toNat) (0, m, us) [(2, some 1)] (by decide) (fun s => ⟨rfl, rfl⟩) ⟨⟨Int.le_refl _, hH0⟩, hso, by rw [hmc, Int.add_zero]⟩ ⟨rfl, ⟨rfl, rfl, rfl, rfl, rfl, rfl, rfl, rfl, trivial⟩, ⟨(by repeat (first | exact List.mem_cons_self | apply List.mem_cons_of_mem)), (by repeat (first | exact List.mem_cons_self | apply List.mem_cons_of_mem)), trivial⟩, fun _ _ h => h⟩ ?_
    clear hmc hso
    have hcB : 0 ≤ c ∧ c ≤ 64 := ⟨hc0, Int.le_trans hc1 b0.2⟩
    rintro ⟨y, m, us⟩ ⟨⟨hy0, hy1⟩, hso, hmy⟩
    by_cases hyi : y < H
    · (repeat' ((conv => whnf) <;> first | (show drawK _ 9 _ _ _ _ _ _; (refine draw_quiet tabOk mixed (by kernel_rfl) ?_)) | (show drawK _ 11 _ _ _ _ _ _; (refine draw_quiet tabOk mixed (by kernel_rfl) ?_)) | (show drawK _ 28 _ _ _ _ _ _; (refine draw_tree tabOk mixed [25] _ (.take 0 (.take 1 (.take 2 (.take 3 (.take 4 (.take 5 (.take 6 (.take 7 (.take 8 (.take 9 (.take 10 (.take 11 (.take 12 (.take 13 (.take 14 (.take 15 (.take 16 (.take 17 (.take 18 (.take 19 (.take 20 (.take 21 (.take 22 (.take 23 (.take 24 (.one 25 (.done))))))))))))))))))))))))))) (by kernel_rfl) (by kernel_rfl) (by kernel_rfl) (List.Sublist.refl _) ?_)) | (show drawK _ 30 _ _ _ _ _ _; (refine draw_tree tabOk mixed [] _ (.take 0 (.take 1 (.take 2 (.take 4 (.one 3 (.take 5 (.done))))))) (by kernel_rfl) (by kernel_rfl) (by kernel_rfl) (List.Sublist.refl _) ?_)) | (show drawK _ 37 _ _ _ _ _ _; (refine draw_quiet tabOk mixed (by kernel_rfl) ?_)) | (show drawK _ 40 _ _ _ _ _ _; (refine draw_quiet tabOk mixed (by kernel_rfl) ?_)) | (show drawK _ 52 _ _ _ _ _ _; (refine draw_tree tabOk mixed [42] _ (.take 0 (.take 1 (.take 2 (.take 3 (.take 4 (.take 5 (.take 6 (.take 7 (.take 8 (.take 9 (.take 10 (.take 11 (.take 12 (.take 13 (.take 14 (.take 15 (.take 16 (.take 17 (.take 18 (.take 19 (.take 20 (.take 21 (.take 22 (.take 23 (.take 24 (.take 25 (.take 26 (.take 27 (.take 28 (.take 29 (.take 30 (.take 31 (.take 32 (.take 33 (.take 34 (.take 35 (.take 36 (.take 37 (.take 38 (.take 39 (.take 40 (.take 41 (.one 42 (.done)))))))))))))))))))))))))))))))))))))))))))) (by kernel_rfl) (by kernel_rfl) (by kernel_rfl) (List.Sublist.refl _) ?_)) | (show Wp _ _ _ _ _ _ _; (refine Wp.go tabOk rfl ?_)) | (show @cmpK _ _ _; (first | refine cmp_yes (by omega) ?_ | refine cmp_no (by omega) ?_ | (refine cmp_both ?_ ?_ <;> intro _))) | (show wrapK _ _ _; (refine wrap_i64 (by omega) (by omega) ?_)) | (show leK _ _ _; (refine le_of (by first | exact Nat.le_refl _ | omega) ?_)) | (show roomK _ _ _; (refine room_of (by first | omega | (dsimp only; omega)) ?_)) | (show ltK _ _ _; (refine lt_of (by omega) ?_)) | (show _ ∧ _; (refine ⟨?_, ?_⟩)) | (show keepK _ _ _ _ _; (refine keep_of (by first | exact List.Sublist.refl _ | exact List.Sublist.cons _ (List.Sublist.refl _) | exact List.Sublist.cons _ (List.Sublist.cons _ (List.Sublist.refl _)) | exact List.Sublist.cons _ (List.Sublist.cons _ (List.Sublist.cons _ (List.Sublist.refl _)))) (by first | exact (fun _ _ h => h) | exact (fun _ _ h => h.1) | exact (fun _ _ h => h.1.1)) ?_)) | (show ownK _ _ _ _ _; (refine own_keep ?_)) | (show apK _ _; (refine ap_old ?_))))
      refine Wp.loop (σ := Int × Nat × List IntsV) 4 (fun ⟨x, m, us⟩ => [(1, .c t.val), (2, .lp 0 0 0 0), (6, .c (.int .i64 size)), (9, .c (.int .i64 H)), (10, .c (.int .i64 W)), (7, .os 3 m), (11, .c (.int .i64 c)), (12, .c (.int .i64 y)), (13, .c (.int .i64 x))]) (fun ⟨_, _, us⟩ => [(3, .rows (shRows us) 1 33), (0, .box [.c (.int .i64 n.kind), .c (.int .i64 n.a), .c (.int .i64 n.b), .c n.shape.val, .c (.int .i64 n.lo), .c (.int .i64 n.hi), .c (.int .i64 n.size), .c n.data.val, .c n.bias.val] 38)]) (fun ⟨_, _, us⟩ => (baseA w).and (eachA w.heap.size us))
        (fun ⟨x, m, us⟩ => (0 ≤ x ∧ x ≤ W) ∧ Sofar3 n t.xs us m ∧ (m : Int) = (c * H + y) * W + x) (fun s => (W - s.1).toNat) (0, m, us) [(3, some 2)] (by decide) (fun s => ⟨rfl, rfl⟩) ⟨⟨Int.le_refl _, hW0⟩, hso, by rw [hmy, Int.add_zero]⟩ ⟨rfl, ⟨rfl, rfl, rfl, rfl, rfl, rfl, rfl, rfl, rfl, trivial⟩, ⟨(by repeat (first | exact List.mem_cons_self | apply List.mem_cons_of_mem)), (by repeat (first | exact List.mem_cons_self | apply List.mem_cons_of_mem)), trivial⟩, fun _ _ h => h⟩ ?_
      clear hmy hso
      have hyB : 0 ≤ y ∧ y ≤ 64 := ⟨hy0, Int.le_trans hy1 (Int.le_trans hH2 b1.2)⟩
      rintro ⟨x, m, us⟩ ⟨⟨hx0, hx1⟩, hso, hmx⟩
      by_cases hxi : x < W
      · (repeat' ((conv => whnf) <;> first | (show makeK _ _ _ _; (refine make_of size rfl rfl (by show 8 * _ ≤ _; omega) (by omega) ?_)) | (show drawK _ 9 _ _ _ _ _ _; (refine draw_quiet tabOk mixed (by kernel_rfl) ?_)) | (show drawK _ 11 _ _ _ _ _ _; (refine draw_quiet tabOk mixed (by kernel_rfl) ?_)) | (show drawK _ 28 _ _ _ _ _ _; (refine draw_tree tabOk mixed [25] _ (.take 0 (.take 1 (.take 2 (.take 3 (.take 4 (.take 5 (.take 6 (.take 7 (.take 8 (.take 9 (.take 10 (.take 11 (.take 12 (.take 13 (.take 14 (.take 15 (.take 16 (.take 17 (.take 18 (.take 19 (.take 20 (.take 21 (.take 22 (.take 23 (.take 24 (.one 25 (.done))))))))))))))))))))))))))) (by kernel_rfl) (by kernel_rfl) (by kernel_rfl) (List.Sublist.refl _) ?_)) | (show drawK _ 30 _ _ _ _ _ _; (refine draw_tree tabOk mixed [] _ (.take 0 (.take 1 (.take 2 (.take 4 (.one 3 (.take 5 (.done))))))) (by kernel_rfl) (by kernel_rfl) (by kernel_rfl) (List.Sublist.refl _) ?_)) | (show drawK _ 37 _ _ _ _ _ _; (refine draw_quiet tabOk mixed (by kernel_rfl) ?_)) | (show drawK _ 40 _ _ _ _ _ _; (refine draw_quiet tabOk mixed (by kernel_rfl) ?_)) | (show drawK _ 52 _ _ _ _ _ _; (refine draw_tree tabOk mixed [42] _ (.take 0 (.take 1 (.take 2 (.take 3 (.take 4 (.take 5 (.take 6 (.take 7 (.take 8 (.take 9 (.take 10 (.take 11 (.take 12 (.take 13 (.take 14 (.take 15 (.take 16 (.take 17 (.take 18 (.take 19 (.take 20 (.take 21 (.take 22 (.take 23 (.take 24 (.take 25 (.take 26 (.take 27 (.take 28 (.take 29 (.take 30 (.take 31 (.take 32 (.take 33 (.take 34 (.take 35 (.take 36 (.take 37 (.take 38 (.take 39 (.take 40 (.take 41 (.one 42 (.done)))))))))))))))))))))))))))))))))))))))))))) (by kernel_rfl) (by kernel_rfl) (by kernel_rfl) (List.Sublist.refl _) ?_)) | (show Wp _ _ _ _ _ _ _; (refine Wp.go tabOk rfl ?_)) | (show @cmpK _ _ _; (first | refine cmp_yes (by omega) ?_ | refine cmp_no (by omega) ?_ | (refine cmp_both ?_ ?_ <;> intro _))) | (show wrapK _ _ _; (refine wrap_i64 (by omega) (by omega) ?_)) | (show leK _ _ _; (refine le_of (by first | exact Nat.le_refl _ | omega) ?_)) | (show roomK _ _ _; (refine room_of (by first | omega | (dsimp only; omega)) ?_)) | (show ltK _ _ _; (refine lt_of (by omega) ?_)) | (show _ ∧ _; (refine ⟨?_, ?_⟩)) | (show keepK _ _ _ _ _; (refine keep_of (by first | exact List.Sublist.refl _ | exact List.Sublist.cons _ (List.Sublist.refl _) | exact List.Sublist.cons _ (List.Sublist.cons _ (List.Sublist.refl _)) | exact List.Sublist.cons _ (List.Sublist.cons _ (List.Sublist.cons _ (List.Sublist.refl _)))) (by first | exact (fun _ _ h => h) | exact (fun _ _ h => h.1) | exact (fun _ _ h => h.1.1)) ?_)) | (show ownK _ _ _ _ _; (refine own_keep ?_)) | (show apK _ _; (refine ap_old ?_))))
        have hmlt : m < cnt := by have := pos_lt hmx hcnt ⟨hx0, hxi⟩ ⟨hy0, hyi⟩ hci; omega
        have hatm := hat m hmlt
        have hTe : ∃ T, T = poolT n.size i1 i2 m := ⟨_, rfl⟩
        obtain ⟨T, hT⟩ := hTe
        have hTz := hTl m
        have hTat : ∀ (p : Nat) (i j : Int) (hp : p < T.length), (p : Int) = i * n.size + j → 0 ≤ j → j < n.size → T[p] = (1, (c * i1 + y * n.size + i) * i2 + x * n.size + j) := fun p i j hp he h0 h1 => poolT_at hT hWd hHd hmx ⟨hx0, hxi⟩ ⟨hy0, hyi⟩ hp he ⟨h0, h1⟩
        have hTb := poolT_bd hT
        have hxB : 0 ≤ x ∧ x ≤ 64 := ⟨hx0, Int.le_trans hx1 (Int.le_trans hW2 b2.2)⟩
        have hzB : 0 ≤ n.size ∧ n.size ≤ 64 := ⟨hz0, Int.le_trans b1.1 b1.2⟩
        have hB1 : 0 ≤ i1 ∧ i1 ≤ 64 := ⟨Int.le_trans hz0 b1.1, b1.2⟩
        have hB2 : 0 ≤ i2 ∧ i2 ≤ 64 := ⟨Int.le_trans hz0 b2.1, b2.2⟩
        rw [← hT] at hatm hTz
        refine Wp.loop (σ := Int × Nat) 5 (fun ⟨i, _⟩ => [(1, .c t.val), (2, .lp 0 0 0 0), (6, .c (.int .i64 size)), (9, .c (.int .i64 H)), (10, .c (.int .i64 W)), (7, .os 3 m), (11, .c (.int .i64 c)), (12, .c (.int .i64 y)), (13, .c (.int .i64 x)), (14, .os 4 size), (15, .c (.int .i64 i))]) (fun ⟨_, p⟩ => [(4, .rows (ints (rowP T size p)) 1 3), (3, .rows (shRows us) 1 33), (0, .box [.c (.int .i64 n.kind), .c (.int .i64 n.a), .c (.int .i64 n.b), .c n.shape.val, .c (.int .i64 n.lo), .c (.int .i64 n.hi), .c (.int .i64 n.size), .c n.data.val, .c n.bias.val] 38)]) (fun _ => (baseA w).and (eachA w.heap.size us))
          (fun ⟨i, p⟩ => (0 ≤ i ∧ i ≤ n.size) ∧ (p : Int) = i * n.size) (fun s => (n.size - s.1).toNat) (0, 0) [] (by decide) (fun s => ⟨rfl, rfl⟩) ⟨⟨Int.le_refl _, hz0⟩, (Int.zero_mul _).symm⟩ ⟨rfl, ⟨rfl, rfl, rfl, rfl, rfl, rfl, rfl, rfl, rfl, rfl, rfl, trivial⟩, ⟨?_, (by repeat (first | exact List.mem_cons_self | apply List.mem_cons_of_mem)), (by repeat (first | exact List.mem_cons_self | apply List.mem_cons_of_mem)), trivial⟩, fun _ _ h => h⟩ ?_
        · have : ints (rowP T size 0) = List.replicate size [Value.int .i64 0] := by simp [ints, rowP]
          show (4, Ent.rows (ints (rowP T size 0)) 1 3) ∈ _
          rw [this]
          exact (by repeat (first | exact List.mem_cons_self | apply List.mem_cons_of_mem))
        rintro ⟨i, p⟩ ⟨⟨hi0, hi1⟩, hpi⟩
        by_cases hii : i < n.size
        · clear hcnt hmx hmlt hso hTl hat hT hTb hsz hno ht hW hH hW2 hH2 hd1 hd2 hWd hHd b1 b2 b0 hc64
          (repeat' ((conv => whnf) <;> first | (show drawK _ 9 _ _ _ _ _ _; (refine draw_quiet tabOk mixed (by kernel_rfl) ?_)) | (show drawK _ 11 _ _ _ _ _ _; (refine draw_quiet tabOk mixed (by kernel_rfl) ?_)) | (show drawK _ 28 _ _ _ _ _ _; (refine draw_tree tabOk mixed [25] _ (.take 0 (.take 1 (.take 2 (.take 3 (.take 4 (.take 5 (.take 6 (.take 7 (.take 8 (.take 9 (.take 10 (.take 11 (.take 12 (.take 13 (.take 14 (.take 15 (.take 16 (.take 17 (.take 18 (.take 19 (.take 20 (.take 21 (.take 22 (.take 23 (.take 24 (.one 25 (.done))))))))))))))))))))))))))) (by kernel_rfl) (by kernel_rfl) (by kernel_rfl) (List.Sublist.refl _) ?_)) | (show drawK _ 30 _ _ _ _ _ _; (refine draw_tree tabOk mixed [] _ (.take 0 (.take 1 (.take 2 (.take 4 (.one 3 (.take 5 (.done))))))) (by kernel_rfl) (by kernel_rfl) (by kernel_rfl) (List.Sublist.refl _) ?_)) | (show drawK _ 37 _ _ _ _ _ _; (refine draw_quiet tabOk mixed (by kernel_rfl) ?_)) | (show drawK _ 40 _ _ _ _ _ _; (refine draw_quiet tabOk mixed (by kernel_rfl) ?_)) | (show drawK _ 52 _ _ _ _ _ _; (refine draw_tree tabOk mixed [42] _ (.take 0 (.take 1 (.take 2 (.take 3 (.take 4 (.take 5 (.take 6 (.take 7 (.take 8 (.take 9 (.take 10 (.take 11 (.take 12 (.take 13 (.take 14 (.take 15 (.take 16 (.take 17 (.take 18 (.take 19 (.take 20 (.take 21 (.take 22 (.take 23 (.take 24 (.take 25 (.take 26 (.take 27 (.take 28 (.take 29 (.take 30 (.take 31 (.take 32 (.take 33 (.take 34 (.take 35 (.take 36 (.take 37 (.take 38 (.take 39 (.take 40 (.take 41 (.one 42 (.done)))))))))))))))))))))))))))))))))))))))))))) (by kernel_rfl) (by kernel_rfl) (by kernel_rfl) (List.Sublist.refl _) ?_)) | (show Wp _ _ _ _ _ _ _; (refine Wp.go tabOk rfl ?_)) | (show @cmpK _ _ _; (first | refine cmp_yes (by omega) ?_ | refine cmp_no (by omega) ?_ | (refine cmp_both ?_ ?_ <;> intro _))) | (show wrapK _ _ _; (refine wrap_i64 (by omega) (by omega) ?_)) | (show leK _ _ _; (refine le_of (by first | exact Nat.le_refl _ | omega) ?_)) | (show roomK _ _ _; (refine room_of (by first | omega | (dsimp only; omega)) ?_)) | (show ltK _ _ _; (refine lt_of (by omega) ?_)) | (show _ ∧ _; (refine ⟨?_, ?_⟩)) | (show keepK _ _ _ _ _; (refine keep_of (by first | exact List.Sublist.refl _ | exact List.Sublist.cons _ (List.Sublist.refl _) | exact List.Sublist.cons _ (List.Sublist.cons _ (List.Sublist.refl _)) | exact List.Sublist.cons _ (List.Sublist.cons _ (List.Sublist.cons _ (List.Sublist.refl _)))) (by first | exact (fun _ _ h => h) | exact (fun _ _ h => h.1) | exact (fun _ _ h => h.1.1)) ?_)) | (show ownK _ _ _ _ _; (refine own_keep ?_)) | (show apK _ _; (refine ap_old ?_))))
          refine Wp.loop (σ := Int × Nat) 5 (fun ⟨j, _⟩ => [(1, .c t.val), (2, .lp 0 0 0 0), (6, .c (.int .i64 size)), (9, .c (.int .i64 H)), (10, .c (.int .i64 W)), (7, .os 3 m), (11, .c (.int .i64 c)), (12, .c (.int .i64 y)), (13, .c (.int .i64 x)), (14, .os 4 size), (15, .c (.int .i64 i)), (16, .c (.int .i64 j))]) (fun ⟨_, p⟩ => [(4, .rows (ints (rowP T size p)) 1 3), (3, .rows (shRows us) 1 33), (0, .box [.c (.int .i64 n.kind), .c (.int .i64 n.a), .c (.int .i64 n.b), .c n.shape.val, .c (.int .i64 n.lo), .c (.int .i64 n.hi), .c (.int .i64 n.size), .c n.data.val, .c n.bias.val] 38)]) (fun _ => (baseA w).and (eachA w.heap.size us))
            (fun ⟨j, p⟩ => (0 ≤ j ∧ j ≤ n.size) ∧ (p : Int) = i * n.size + j) (fun s => (n.size - s.1).toNat) (0, p) [] (by decide) (fun s => ⟨rfl, rfl⟩) ⟨⟨Int.le_refl _, hz0⟩, by rw [hpi, Int.add_zero]⟩ ⟨rfl, ⟨rfl, rfl, rfl, rfl, rfl, rfl, rfl, rfl, rfl, rfl, rfl, rfl, trivial⟩, ⟨(by repeat (first | exact List.mem_cons_self | apply List.mem_cons_of_mem)), (by repeat (first | exact List.mem_cons_self | apply List.mem_cons_of_mem)), (by repeat (first | exact List.mem_cons_self | apply List.mem_cons_of_mem)), trivial⟩, fun _ _ h => h⟩ ?_
          rintro ⟨j, p⟩ ⟨⟨hj0, hj1⟩, hpj⟩
          by_cases hji : j < n.size
          · have hpT : p < T.length := by have := sq_lt hTz hpj hii ⟨hj0, hji⟩; omega
            have hTp := hTat p i j hpT hpj hj0 hji
            have hb := hatm _ (List.getElem_mem hpT)
            have hsu := rowP_succ (size := size) hpT
            rw [hTp] at hb hsu
            have E := ix_bd (c := c) (i1 := i1) (y := y) (z := n.size) (i := i) (i2 := i2) (x := x) hcB hB1 hyB hzB ⟨hi0, Int.le_trans hi1 hzB.2⟩ hB2 hxB
            have e1 := E.1
            have e2 := E.2.1
            have e3 := E.2.2.1
            have e4 := E.2.2.2
            clear E
            have hb2 : 0 ≤ (c * i1 + y * n.size + i) * i2 + x * n.size + j ∧ (c * i1 + y * n.size + i) * i2 + x * n.size + j < size := hb
            have hex : ∃ r : Nat, (c * i1 + y * n.size + i) * i2 + x * n.size + j = r := ⟨_, (Int.toNat_of_nonneg hb2.1).symm⟩
            obtain ⟨r, hr⟩ := hex
            rw [hr] at hsu hb2
            have hrl : r < size := Int.ofNat_lt.1 hb2.2
            clear hTat hatm hTp hTz hpi hb hb2
            (repeat' ((conv => whnf) <;> first | (show idxK _ _ _ _ _; (first | refine idx_of _ 1 hut rfl (by omega) ?_ | refine idx_of _ 2 hut rfl (by omega) ?_)) | (show roK _ _ _; (first | refine ro_intv (fun R w' h => hur R w' h.1) (j := 1) (by omega) g1 ?_ | refine ro_intv (fun R w' h => hur R w' h.1) (j := 2) (by omega) g2 ?_)) | (show idxRowK _ _ _ _ _ _; (refine idxRow_of r hr hrl (by rw [ints_length, rowP_length]; exact Nat.le_refl _) ?_)) | (show rowStoreK _ _ _ _ _; (refine ints_store (by rw [rowP_length]; exact hrl) ?_)) | (show drawK _ 9 _ _ _ _ _ _; (refine draw_quiet tabOk mixed (by kernel_rfl) ?_)) | (show drawK _ 11 _ _ _ _ _ _; (refine draw_quiet tabOk mixed (by kernel_rfl) ?_)) | (show drawK _ 28 _ _ _ _ _ _; (refine draw_tree tabOk mixed [25] _ (.take 0 (.take 1 (.take 2 (.take 3 (.take 4 (.take 5 (.take 6 (.take 7 (.take 8 (.take 9 (.take 10 (.take 11 (.take 12 (.take 13 (.take 14 (.take 15 (.take 16 (.take 17 (.take 18 (.take 19 (.take 20 (.take 21 (.take 22 (.take 23 (.take 24 (.one 25 (.done))))))))))))))))))))))))))) (by kernel_rfl) (by kernel_rfl) (by kernel_rfl) (List.Sublist.refl _) ?_)) | (show drawK _ 30 _ _ _ _ _ _; (refine draw_tree tabOk mixed [] _ (.take 0 (.take 1 (.take 2 (.take 4 (.one 3 (.take 5 (.done))))))) (by kernel_rfl) (by kernel_rfl) (by kernel_rfl) (List.Sublist.refl _) ?_)) | (show drawK _ 37 _ _ _ _ _ _; (refine draw_quiet tabOk mixed (by kernel_rfl) ?_)) | (show drawK _ 40 _ _ _ _ _ _; (refine draw_quiet tabOk mixed (by kernel_rfl) ?_)) | (show drawK _ 52 _ _ _ _ _ _; (refine draw_tree tabOk mixed [42] _ (.take 0 (.take 1 (.take 2 (.take 3 (.take 4 (.take 5 (.take 6 (.take 7 (.take 8 (.take 9 (.take 10 (.take 11 (.take 12 (.take 13 (.take 14 (.take 15 (.take 16 (.take 17 (.take 18 (.take 19 (.take 20 (.take 21 (.take 22 (.take 23 (.take 24 (.take 25 (.take 26 (.take 27 (.take 28 (.take 29 (.take 30 (.take 31 (.take 32 (.take 33 (.take 34 (.take 35 (.take 36 (.take 37 (.take 38 (.take 39 (.take 40 (.take 41 (.one 42 (.done)))))))))))))))))))))))))))))))))))))))))))) (by kernel_rfl) (by kernel_rfl) (by kernel_rfl) (List.Sublist.refl _) ?_)) | (show Wp _ _ _ _ _ _ _; (refine Wp.go tabOk rfl ?_)) | (show @cmpK _ _ _; (first | refine cmp_yes (by omega) ?_ | refine cmp_no (by omega) ?_ | (refine cmp_both ?_ ?_ <;> intro _))) | (show wrapK _ _ _; (refine wrap_i64 (by omega) (by omega) ?_)) | (show leK _ _ _; (refine le_of (by first | exact Nat.le_refl _ | omega) ?_)) | (show roomK _ _ _; (refine room_of (by first | omega | (dsimp only; omega)) ?_)) | (show ltK _ _ _; (refine lt_of (by omega) ?_)) | (show _ ∧ _; (refine ⟨?_, ?_⟩)) | (show keepK _ _ _ _ _; (refine keep_of (by first | exact List.Sublist.refl _ | exact List.Sublist.cons _ (List.Sublist.refl _) | exact List.Sublist.cons _ (List.Sublist.cons _ (List.Sublist.refl _)) | exact List.Sublist.cons _ (List.Sublist.cons _ (List.Sublist.cons _ (List.Sublist.refl _)))) (by first | exact (fun _ _ h => h) | exact (fun _ _ h => h.1) | exact (fun _ _ h => h.1.1)) ?_)) | (show ownK _ _ _ _ _; (refine own_keep ?_)) | (show apK _ _; (refine ap_old ?_))))
            all_goals (conv => whnf)
            exact ⟨(j + 1, p + 1), [], ⟨⟨Int.le_add_one hj0, hji⟩, by rw [Int.natCast_add, hpj, Int.add_assoc]; rfl⟩, by simp only; omega, rfl, ⟨rfl, rfl, rfl, rfl, rfl, rfl, rfl, rfl, rfl, rfl, rfl, rfl, trivial⟩, ⟨by
              show (4, Ent.rows (ints (rowP T size (p + 1))) 1 3) ∈ _
              rw [hsu]; exact (by repeat (first | exact List.mem_cons_self | apply List.mem_cons_of_mem)), (by repeat (first | exact List.mem_cons_self | apply List.mem_cons_of_mem)), (by repeat (first | exact List.mem_cons_self | apply List.mem_cons_of_mem)), trivial⟩, fun _ _ h => h⟩
          · have hjz : j = n.size := Int.le_antisymm hj1 (Int.not_lt.1 hji)
            subst hjz
            (repeat' ((conv => whnf) <;> first | (show drawK _ 9 _ _ _ _ _ _; (refine draw_quiet tabOk mixed (by kernel_rfl) ?_)) | (show drawK _ 11 _ _ _ _ _ _; (refine draw_quiet tabOk mixed (by kernel_rfl) ?_)) | (show drawK _ 28 _ _ _ _ _ _; (refine draw_tree tabOk mixed [25] _ (.take 0 (.take 1 (.take 2 (.take 3 (.take 4 (.take 5 (.take 6 (.take 7 (.take 8 (.take 9 (.take 10 (.take 11 (.take 12 (.take 13 (.take 14 (.take 15 (.take 16 (.take 17 (.take 18 (.take 19 (.take 20 (.take 21 (.take 22 (.take 23 (.take 24 (.one 25 (.done))))))))))))))))))))))))))) (by kernel_rfl) (by kernel_rfl) (by kernel_rfl) (List.Sublist.refl _) ?_)) | (show drawK _ 30 _ _ _ _ _ _; (refine draw_tree tabOk mixed [] _ (.take 0 (.take 1 (.take 2 (.take 4 (.one 3 (.take 5 (.done))))))) (by kernel_rfl) (by kernel_rfl) (by kernel_rfl) (List.Sublist.refl _) ?_)) | (show drawK _ 37 _ _ _ _ _ _; (refine draw_quiet tabOk mixed (by kernel_rfl) ?_)) | (show drawK _ 40 _ _ _ _ _ _; (refine draw_quiet tabOk mixed (by kernel_rfl) ?_)) | (show drawK _ 52 _ _ _ _ _ _; (refine draw_tree tabOk mixed [42] _ (.take 0 (.take 1 (.take 2 (.take 3 (.take 4 (.take 5 (.take 6 (.take 7 (.take 8 (.take 9 (.take 10 (.take 11 (.take 12 (.take 13 (.take 14 (.take 15 (.take 16 (.take 17 (.take 18 (.take 19 (.take 20 (.take 21 (.take 22 (.take 23 (.take 24 (.take 25 (.take 26 (.take 27 (.take 28 (.take 29 (.take 30 (.take 31 (.take 32 (.take 33 (.take 34 (.take 35 (.take 36 (.take 37 (.take 38 (.take 39 (.take 40 (.take 41 (.one 42 (.done)))))))))))))))))))))))))))))))))))))))))))) (by kernel_rfl) (by kernel_rfl) (by kernel_rfl) (List.Sublist.refl _) ?_)) | (show Wp _ _ _ _ _ _ _; (refine Wp.go tabOk rfl ?_)) | (show @cmpK _ _ _; (first | refine cmp_yes (by omega) ?_ | refine cmp_no (by omega) ?_ | (refine cmp_both ?_ ?_ <;> intro _))) | (show wrapK _ _ _; (refine wrap_i64 (by omega) (by omega) ?_)) | (show leK _ _ _; (refine le_of (by first | exact Nat.le_refl _ | omega) ?_)) | (show roomK _ _ _; (refine room_of (by first | omega | (dsimp only; omega)) ?_)) | (show ltK _ _ _; (refine lt_of (by omega) ?_)) | (show _ ∧ _; (refine ⟨?_, ?_⟩)) | (show keepK _ _ _ _ _; (refine keep_of (by first | exact List.Sublist.refl _ | exact List.Sublist.cons _ (List.Sublist.refl _) | exact List.Sublist.cons _ (List.Sublist.cons _ (List.Sublist.refl _)) | exact List.Sublist.cons _ (List.Sublist.cons _ (List.Sublist.cons _ (List.Sublist.refl _)))) (by first | exact (fun _ _ h => h) | exact (fun _ _ h => h.1) | exact (fun _ _ h => h.1.1)) ?_)) | (show ownK _ _ _ _ _; (refine own_keep ?_)) | (show apK _ _; (refine ap_old ?_))))
            all_goals (conv => whnf)
            exact ⟨(i + 1, p), [], ⟨⟨Int.le_add_one hi0, hii⟩, by rw [hpj, Int.add_mul, Int.one_mul]⟩, by simp only; omega, rfl, ⟨rfl, rfl, rfl, rfl, rfl, rfl, rfl, rfl, rfl, rfl, rfl, trivial⟩, ⟨(by repeat (first | exact List.mem_cons_self | apply List.mem_cons_of_mem)), (by repeat (first | exact List.mem_cons_self | apply List.mem_cons_of_mem)), (by repeat (first | exact List.mem_cons_self | apply List.mem_cons_of_mem)), trivial⟩, fun _ _ h => h⟩
        · have hiz : i = n.size := Int.le_antisymm hi1 (Int.not_lt.1 hii)
          subst hiz
          have hpT : p = T.length := Int.ofNat.inj (hpi.trans hTz.symm)
          refine Wp.freezeN 4 w.heap.size (k := 1) (xs := ints (rowP T size p)) (T := 3) (by repeat (first | exact List.mem_cons_self | apply List.mem_cons_of_mem)) (fun R w' h b hb => (h.1 b hb).1) (fun l1 hl1 => ?_)
          rw [ints_length, rowP_length] at hl1
          have hml : us.length = m := hso.len
          clear hcnt hpi hTz hTat hatm hTl hat
          (repeat' ((conv => whnf) <;> first | (show leK _ _ _; (refine le_of (by rw [shRows_length, hml]; exact Nat.le_refl _) ?_)) | (show roomK _ _ _; (refine room_of (by show (m + 1) * 24 ≤ 140737488355328; omega) ?_)) | (show drawK _ 9 _ _ _ _ _ _; (refine draw_quiet tabOk mixed (by kernel_rfl) ?_)) | (show drawK _ 11 _ _ _ _ _ _; (refine draw_quiet tabOk mixed (by kernel_rfl) ?_)) | (show drawK _ 28 _ _ _ _ _ _; (refine draw_tree tabOk mixed [25] _ (.take 0 (.take 1 (.take 2 (.take 3 (.take 4 (.take 5 (.take 6 (.take 7 (.take 8 (.take 9 (.take 10 (.take 11 (.take 12 (.take 13 (.take 14 (.take 15 (.take 16 (.take 17 (.take 18 (.take 19 (.take 20 (.take 21 (.take 22 (.take 23 (.take 24 (.one 25 (.done))))))))))))))))))))))))))) (by kernel_rfl) (by kernel_rfl) (by kernel_rfl) (List.Sublist.refl _) ?_)) | (show drawK _ 30 _ _ _ _ _ _; (refine draw_tree tabOk mixed [] _ (.take 0 (.take 1 (.take 2 (.take 4 (.one 3 (.take 5 (.done))))))) (by kernel_rfl) (by kernel_rfl) (by kernel_rfl) (List.Sublist.refl _) ?_)) | (show drawK _ 37 _ _ _ _ _ _; (refine draw_quiet tabOk mixed (by kernel_rfl) ?_)) | (show drawK _ 40 _ _ _ _ _ _; (refine draw_quiet tabOk mixed (by kernel_rfl) ?_)) | (show drawK _ 52 _ _ _ _ _ _; (refine draw_tree tabOk mixed [42] _ (.take 0 (.take 1 (.take 2 (.take 3 (.take 4 (.take 5 (.take 6 (.take 7 (.take 8 (.take 9 (.take 10 (.take 11 (.take 12 (.take 13 (.take 14 (.take 15 (.take 16 (.take 17 (.take 18 (.take 19 (.take 20 (.take 21 (.take 22 (.take 23 (.take 24 (.take 25 (.take 26 (.take 27 (.take 28 (.take 29 (.take 30 (.take 31 (.take 32 (.take 33 (.take 34 (.take 35 (.take 36 (.take 37 (.take 38 (.take 39 (.take 40 (.take 41 (.one 42 (.done)))))))))))))))))))))))))))))))))))))))))))) (by kernel_rfl) (by kernel_rfl) (by kernel_rfl) (List.Sublist.refl _) ?_)) | (show Wp _ _ _ _ _ _ _; (refine Wp.go tabOk rfl ?_)) | (show @cmpK _ _ _; (first | refine cmp_yes (by omega) ?_ | refine cmp_no (by omega) ?_ | (refine cmp_both ?_ ?_ <;> intro _))) | (show wrapK _ _ _; (refine wrap_i64 (by omega) (by omega) ?_)) | (show leK _ _ _; (refine le_of (by first | exact Nat.le_refl _ | omega) ?_)) | (show roomK _ _ _; (refine room_of (by first | omega | (dsimp only; omega)) ?_)) | (show ltK _ _ _; (refine lt_of (by omega) ?_)) | (show _ ∧ _; (refine ⟨?_, ?_⟩)) | (show keepK _ _ _ _ _; (refine keep_of (by first | exact List.Sublist.refl _ | exact List.Sublist.cons _ (List.Sublist.refl _) | exact List.Sublist.cons _ (List.Sublist.cons _ (List.Sublist.refl _)) | exact List.Sublist.cons _ (List.Sublist.cons _ (List.Sublist.cons _ (List.Sublist.refl _)))) (by first | exact (fun _ _ h => h) | exact (fun _ _ h => h.1) | exact (fun _ _ h => h.1.1)) ?_)) | (show ownK _ _ _ _ _; (refine own_keep ?_)) | (show apK _ _; (refine ap_old ?_))))
          all_goals (conv => whnf)
          exact ⟨(x + 1, m + 1, us ++ [IntsV.mk l1.base l1.cap (rowP T size p)]), [(3, some 6)], ⟨⟨Int.le_add_one hx0, hxi⟩, hso.next ⟨fun v hv => by have := rowP_bd hTb v hv; unfold bd20 at this; exact ⟨by omega, by omega⟩, by rw [rowP_length]; exact hl1, by rw [rowP_length]; omega⟩ (pool_row hk hsz m (hT.trans (by rw [g1, g2])) hpT), by rw [Int.natCast_add, hmx, Int.add_assoc]; rfl⟩, by simp only; omega, rfl, ⟨rfl, rfl, rfl, rfl, rfl, rfl, rfl, rfl, rfl, trivial⟩, ⟨rows_snocM us l1.base l1.cap (rowP T size p) hml.symm (rowP_length _ _ _).symm, (by repeat (first | exact List.mem_cons_self | apply List.mem_cons_of_mem)), trivial⟩, fun R w' h => ⟨h.1.1, eachA_snoc h.1.2 h.2⟩⟩
      · have hxz : x = W := Int.le_antisymm hx1 (Int.not_lt.1 hxi)
        subst hxz
        (repeat' ((conv => whnf) <;> first | (show drawK _ 9 _ _ _ _ _ _; (refine draw_quiet tabOk mixed (by kernel_rfl) ?_)) | (show drawK _ 11 _ _ _ _ _ _; (refine draw_quiet tabOk mixed (by kernel_rfl) ?_)) | (show drawK _ 28 _ _ _ _ _ _; (refine draw_tree tabOk mixed [25] _ (.take 0 (.take 1 (.take 2 (.take 3 (.take 4 (.take 5 (.take 6 (.take 7 (.take 8 (.take 9 (.take 10 (.take 11 (.take 12 (.take 13 (.take 14 (.take 15 (.take 16 (.take 17 (.take 18 (.take 19 (.take 20 (.take 21 (.take 22 (.take 23 (.take 24 (.one 25 (.done))))))))))))))))))))))))))) (by kernel_rfl) (by kernel_rfl) (by kernel_rfl) (List.Sublist.refl _) ?_)) | (show drawK _ 30 _ _ _ _ _ _; (refine draw_tree tabOk mixed [] _ (.take 0 (.take 1 (.take 2 (.take 4 (.one 3 (.take 5 (.done))))))) (by kernel_rfl) (by kernel_rfl) (by kernel_rfl) (List.Sublist.refl _) ?_)) | (show drawK _ 37 _ _ _ _ _ _; (refine draw_quiet tabOk mixed (by kernel_rfl) ?_)) | (show drawK _ 40 _ _ _ _ _ _; (refine draw_quiet tabOk mixed (by kernel_rfl) ?_)) | (show drawK _ 52 _ _ _ _ _ _; (refine draw_tree tabOk mixed [42] _ (.take 0 (.take 1 (.take 2 (.take 3 (.take 4 (.take 5 (.take 6 (.take 7 (.take 8 (.take 9 (.take 10 (.take 11 (.take 12 (.take 13 (.take 14 (.take 15 (.take 16 (.take 17 (.take 18 (.take 19 (.take 20 (.take 21 (.take 22 (.take 23 (.take 24 (.take 25 (.take 26 (.take 27 (.take 28 (.take 29 (.take 30 (.take 31 (.take 32 (.take 33 (.take 34 (.take 35 (.take 36 (.take 37 (.take 38 (.take 39 (.take 40 (.take 41 (.one 42 (.done)))))))))))))))))))))))))))))))))))))))))))) (by kernel_rfl) (by kernel_rfl) (by kernel_rfl) (List.Sublist.refl _) ?_)) | (show Wp _ _ _ _ _ _ _; (refine Wp.go tabOk rfl ?_)) | (show @cmpK _ _ _; (first | refine cmp_yes (by omega) ?_ | refine cmp_no (by omega) ?_ | (refine cmp_both ?_ ?_ <;> intro _))) | (show wrapK _ _ _; (refine wrap_i64 (by omega) (by omega) ?_)) | (show leK _ _ _; (refine le_of (by first | exact Nat.le_refl _ | omega) ?_)) | (show roomK _ _ _; (refine room_of (by first | omega | (dsimp only; omega)) ?_)) | (show ltK _ _ _; (refine lt_of (by omega) ?_)) | (show _ ∧ _; (refine ⟨?_, ?_⟩)) | (show keepK _ _ _ _ _; (refine keep_of (by first | exact List.Sublist.refl _ | exact List.Sublist.cons _ (List.Sublist.refl _) | exact List.Sublist.cons _ (List.Sublist.cons _ (List.Sublist.refl _)) | exact List.Sublist.cons _ (List.Sublist.cons _ (List.Sublist.cons _ (List.Sublist.refl _)))) (by first | exact (fun _ _ h => h) | exact (fun _ _ h => h.1) | exact (fun _ _ h => h.1.1)) ?_)) | (show ownK _ _ _ _ _; (refine own_keep ?_)) | (show apK _ _; (refine ap_old ?_))))
        all_goals (conv => whnf)
        exact ⟨(y + 1, m, us), [(2, some 3)], ⟨⟨by omega, by omega⟩, hso, by rw [hmx]; grind⟩, by simp only; omega, rfl, ⟨rfl, rfl, rfl, rfl, rfl, rfl, rfl, rfl, trivial⟩, ⟨(by repeat (first | exact List.mem_cons_self | apply List.mem_cons_of_mem)), (by repeat (first | exact List.mem_cons_self | apply List.mem_cons_of_mem)), trivial⟩, fun _ _ h => h⟩
    · have hyz : y = H := Int.le_antisymm hy1 (Int.not_lt.1 hyi)
      subst hyz
      (repeat' ((conv => whnf) <;> first | (show drawK _ 9 _ _ _ _ _ _; (refine draw_quiet tabOk mixed (by kernel_rfl) ?_)) | (show drawK _ 11 _ _ _ _ _ _; (refine draw_quiet tabOk mixed (by kernel_rfl) ?_)) | (show drawK _ 28 _ _ _ _ _ _; (refine draw_tree tabOk mixed [25] _ (.take 0 (.take 1 (.take 2 (.take 3 (.take 4 (.take 5 (.take 6 (.take 7 (.take 8 (.take 9 (.take 10 (.take 11 (.take 12 (.take 13 (.take 14 (.take 15 (.take 16 (.take 17 (.take 18 (.take 19 (.take 20 (.take 21 (.take 22 (.take 23 (.take 24 (.one 25 (.done))))))))))))))))))))))))))) (by kernel_rfl) (by kernel_rfl) (by kernel_rfl) (List.Sublist.refl _) ?_)) | (show drawK _ 30 _ _ _ _ _ _; (refine draw_tree tabOk mixed [] _ (.take 0 (.take 1 (.take 2 (.take 4 (.one 3 (.take 5 (.done))))))) (by kernel_rfl) (by kernel_rfl) (by kernel_rfl) (List.Sublist.refl _) ?_)) | (show drawK _ 37 _ _ _ _ _ _; (refine draw_quiet tabOk mixed (by kernel_rfl) ?_)) | (show drawK _ 40 _ _ _ _ _ _; (refine draw_quiet tabOk mixed (by kernel_rfl) ?_)) | (show drawK _ 52 _ _ _ _ _ _; (refine draw_tree tabOk mixed [42] _ (.take 0 (.take 1 (.take 2 (.take 3 (.take 4 (.take 5 (.take 6 (.take 7 (.take 8 (.take 9 (.take 10 (.take 11 (.take 12 (.take 13 (.take 14 (.take 15 (.take 16 (.take 17 (.take 18 (.take 19 (.take 20 (.take 21 (.take 22 (.take 23 (.take 24 (.take 25 (.take 26 (.take 27 (.take 28 (.take 29 (.take 30 (.take 31 (.take 32 (.take 33 (.take 34 (.take 35 (.take 36 (.take 37 (.take 38 (.take 39 (.take 40 (.take 41 (.one 42 (.done)))))))))))))))))))))))))))))))))))))))))))) (by kernel_rfl) (by kernel_rfl) (by kernel_rfl) (List.Sublist.refl _) ?_)) | (show Wp _ _ _ _ _ _ _; (refine Wp.go tabOk rfl ?_)) | (show @cmpK _ _ _; (first | refine cmp_yes (by omega) ?_ | refine cmp_no (by omega) ?_ | (refine cmp_both ?_ ?_ <;> intro _))) | (show wrapK _ _ _; (refine wrap_i64 (by omega) (by omega) ?_)) | (show leK _ _ _; (refine le_of (by first | exact Nat.le_refl _ | omega) ?_)) | (show roomK _ _ _; (refine room_of (by first | omega | (dsimp only; omega)) ?_)) | (show ltK _ _ _; (refine lt_of (by omega) ?_)) | (show _ ∧ _; (refine ⟨?_, ?_⟩)) | (show keepK _ _ _ _ _; (refine keep_of (by first | exact List.Sublist.refl _ | exact List.Sublist.cons _ (List.Sublist.refl _) | exact List.Sublist.cons _ (List.Sublist.cons _ (List.Sublist.refl _)) | exact List.Sublist.cons _ (List.Sublist.cons _ (List.Sublist.cons _ (List.Sublist.refl _)))) (by first | exact (fun _ _ h => h) | exact (fun _ _ h => h.1) | exact (fun _ _ h => h.1.1)) ?_)) | (show ownK _ _ _ _ _; (refine own_keep ?_)) | (show apK _ _; (refine ap_old ?_))))
      all_goals (conv => whnf)
      exact ⟨(c + 1, m, us), [(1, some 2)], ⟨⟨by omega, by omega⟩, hso, by rw [hmy]; grind⟩, by simp only; omega, rfl, ⟨rfl, rfl, rfl, rfl, rfl, rfl, rfl, trivial⟩, ⟨(by repeat (first | exact List.mem_cons_self | apply List.mem_cons_of_mem)), (by repeat (first | exact List.mem_cons_self | apply List.mem_cons_of_mem)), trivial⟩, fun _ _ h => h⟩
  · obtain rfl : c = i0 := Int.le_antisymm hc1 (Int.not_lt.1 hci)
    have hmcnt : m = cnt := by omega
    subst hmcnt
    (repeat' ((conv => whnf) <;> first | (show idxK _ _ _ _ _; (refine idx_of _ 0 hut rfl (by omega) ?_)) | (show roK _ _ _; (refine ro_int (fun R w' h => hur R w' h.1) (j := 0) (by omega) ?_)) | (show makeK _ _ _ _; (refine make_of m rfl rfl (by show 8 * _ ≤ _; omega) (by omega) ?_)) | (show drawK _ 9 _ _ _ _ _ _; (refine draw_quiet tabOk mixed (by kernel_rfl) ?_)) | (show drawK _ 11 _ _ _ _ _ _; (refine draw_quiet tabOk mixed (by kernel_rfl) ?_)) | (show drawK _ 28 _ _ _ _ _ _; (refine draw_tree tabOk mixed [25] _ (.take 0 (.take 1 (.take 2 (.take 3 (.take 4 (.take 5 (.take 6 (.take 7 (.take 8 (.take 9 (.take 10 (.take 11 (.take 12 (.take 13 (.take 14 (.take 15 (.take 16 (.take 17 (.take 18 (.take 19 (.take 20 (.take 21 (.take 22 (.take 23 (.take 24 (.one 25 (.done))))))))))))))))))))))))))) (by kernel_rfl) (by kernel_rfl) (by kernel_rfl) (List.Sublist.refl _) ?_)) | (show drawK _ 30 _ _ _ _ _ _; (refine draw_tree tabOk mixed [] _ (.take 0 (.take 1 (.take 2 (.take 4 (.one 3 (.take 5 (.done))))))) (by kernel_rfl) (by kernel_rfl) (by kernel_rfl) (List.Sublist.refl _) ?_)) | (show drawK _ 37 _ _ _ _ _ _; (refine draw_quiet tabOk mixed (by kernel_rfl) ?_)) | (show drawK _ 40 _ _ _ _ _ _; (refine draw_quiet tabOk mixed (by kernel_rfl) ?_)) | (show drawK _ 52 _ _ _ _ _ _; (refine draw_tree tabOk mixed [42] _ (.take 0 (.take 1 (.take 2 (.take 3 (.take 4 (.take 5 (.take 6 (.take 7 (.take 8 (.take 9 (.take 10 (.take 11 (.take 12 (.take 13 (.take 14 (.take 15 (.take 16 (.take 17 (.take 18 (.take 19 (.take 20 (.take 21 (.take 22 (.take 23 (.take 24 (.take 25 (.take 26 (.take 27 (.take 28 (.take 29 (.take 30 (.take 31 (.take 32 (.take 33 (.take 34 (.take 35 (.take 36 (.take 37 (.take 38 (.take 39 (.take 40 (.take 41 (.one 42 (.done)))))))))))))))))))))))))))))))))))))))))))) (by kernel_rfl) (by kernel_rfl) (by kernel_rfl) (List.Sublist.refl _) ?_)) | (show Wp _ _ _ _ _ _ _; (refine Wp.go tabOk rfl ?_)) | (show @cmpK _ _ _; (first | refine cmp_yes (by omega) ?_ | refine cmp_no (by omega) ?_ | (refine cmp_both ?_ ?_ <;> intro _))) | (show wrapK _ _ _; (refine wrap_i64 (by omega) (by omega) ?_)) | (show leK _ _ _; (refine le_of (by first | exact Nat.le_refl _ | omega) ?_)) | (show roomK _ _ _; (refine room_of (by first | omega | (dsimp only; omega)) ?_)) | (show ltK _ _ _; (refine lt_of (by omega) ?_)) | (show _ ∧ _; (refine ⟨?_, ?_⟩)) | (show keepK _ _ _ _ _; (refine keep_of (by first | exact List.Sublist.refl _ | exact List.Sublist.cons _ (List.Sublist.refl _) | exact List.Sublist.cons _ (List.Sublist.cons _ (List.Sublist.refl _)) | exact List.Sublist.cons _ (List.Sublist.cons _ (List.Sublist.cons _ (List.Sublist.refl _)))) (by first | exact (fun _ _ h => h) | exact (fun _ _ h => h.1) | exact (fun _ _ h => h.1.1)) ?_)) | (show ownK _ _ _ _ _; (refine own_keep ?_)) | (show apK _ _; (refine ap_old ?_))))
    all_goals (conv => whnf)
    refine mat_end_new (i := 1) (j := 2) (B := ⟨w, []⟩) (S := (baseA w).and (eachA w.heap.size us)) (bs := List.replicate m 0) (fun _ _ h => h.1) (fun _ _ h => h.2) rfl (by repeat (first | exact List.mem_cons_self | apply List.mem_cons_of_mem)) (by rw [ints_zeros]; exact (by repeat (first | exact List.mem_cons_self | apply List.mem_cons_of_mem))) hso.len.symm (by rw [List.length_replicate]) hso ?_ (fun x hx => by rw [(List.mem_replicate.1 hx).2]; exact ⟨by decide, by decide⟩) (by rw [List.length_replicate]; omega)
    unfold matBias
    apply List.ext_getElem
    · simp
    · intro k g1 g2
      rw [List.getElem_map, List.getElem_range, List.getElem_replicate]
      unfold biasI
      rw [if_neg (by omega), if_neg (by omega)]
end Go.Proofs.Ytdmkdogakbipbaa

/- JK -/
namespace Go.Proofs.Ytdmkdogakbipbaa
open Go.SX Go.RowKit
theorem lin_lt {o k1 c k0 : Int} (ho : 0 ≤ o ∧ o < k0) (hc : 0 ≤ c ∧ c < k1) : o * k1 + c < k0 * k1 := by
  have u : (o + 1) * k1 ≤ k0 * k1 := Int.mul_le_mul_of_nonneg_right (by omega) (by omega)
  rw [Int.add_mul, Int.one_mul] at u
  omega
theorem convT_at {T : List Sp} {d : List Int} {k1 k2 k3 i1 i2 W H o y x c i j : Int} {m p q : Nat} (hT : T = convT d k1 k2 k3 i1 i2 m) (hWd : i2 - k3 + 1 = W) (hHd : i1 - k2 + 1 = H) (hmx : (m : Int) = (o * H + y) * W + x) (hx : 0 ≤ x ∧ x < W) (hy : 0 ≤ y ∧ y < H) (hp : p < T.length) (he : (p : Int) = (c * k2 + i) * k3 + j) (hi : 0 ≤ i ∧ i < k2) (hj : 0 ≤ j ∧ j < k3) (hq : ((o * k1 + c) * k2 + i) * k3 + j = q) : T[p] = (d.getD q 0, (c * i1 + y + i) * i2 + x + j) := by
  subst hT
  have h1 := pos3 hmx hx hy
  have h2 := pos3 he hj hi
  have h3 : (o * k1 * k2 * k3 + (p : Int)).toNat = q := by
    have : o * k1 * k2 * k3 + (p : Int) = q := by rw [he, ← hq]; grind
    rw [this]; rfl
  simp only [convT, List.getElem_map, List.getElem_range]
  unfold convTerm
  rw [hWd, hHd, h1.1, h1.2.1, h1.2.2, h2.1, h2.2.1, h2.2.2, h3]
theorem bias_idx {cnt len m : Nat} {k0 H W o y x : Int} (hcnt : (cnt : Int) = k0 * H * W) (hbl : (len : Int) = k0) (hk : 0 < k0) (hm : (m : Int) = (o * H + y) * W + x) (hx : 0 ≤ x ∧ x < W) (hy : 0 ≤ y ∧ y < H) (ho : 0 ≤ o) : m / (cnt / len) = o.toNat := by
  have e1 : ((cnt / len : Nat) : Int) = H * W := by rw [Int.natCast_ediv, hcnt, hbl, Int.mul_assoc]; exact Int.mul_ediv_cancel_left _ (by omega)
  have e2 : ((m / (cnt / len) : Nat) : Int) = o := by
    rw [Int.natCast_ediv, e1, hm]
    have e : (o * H + y) * W + x = o * (H * W) + (y * W + x) := by grind
    rw [e]
    have b : y * W + x < H * W := lin_lt hy hx
    have b0 := Int.mul_nonneg hy.1 (show 0 ≤ W by omega)
    exact (mul_add_div ⟨by omega, b⟩).1
  omega
theorem conv_row {n : NodeV} {t : IntsV} (hk : n.kind = 4) {size : Nat} (hsz : entries t.xs = size) (o : Nat) {T : List Sp} (hT : T = convT n.data.xs (n.shape.xs.getD 1 0) (n.shape.xs.getD 2 0) (n.shape.xs.getD 3 0) (t.xs.getD 1 0) (t.xs.getD 2 0) o) {m : Nat} (hm : m = T.length) : rowP T size m = matRow n t.xs o := by
  subst hT hm
  unfold matRow termsG rowP
  rw [if_neg (by omega), if_neg (by omega), if_pos hk, List.take_of_length_le (Nat.le_refl _), hsz]; rfl
theorem convT_bd {T : List Sp} {d : List Int} {k1 k2 k3 i1 i2 o : Int} (hd : ∀ x ∈ d, bd20 x) (hT : T = convT d k1 k2 k3 i1 i2 o) : ∀ t ∈ T, bd20 t.1 := fun t ht => by
  subst hT
  obtain ⟨k, _, rfl⟩ := List.mem_map.1 ht
  exact getD_bd hd _
structure IxC (c i1 y i i2 x j o k1 k2 k3 : Int) : Prop where
  a1 : 0 ≤ c * i1 ∧ c * i1 ≤ 4096
  a2 : 0 ≤ (c * i1 + y + i) * i2 ∧ (c * i1 + y + i) * i2 ≤ 270336
  a3 : 0 ≤ o * k1 ∧ o * k1 ≤ 4096
  a4 : 0 ≤ (o * k1 + c) * k2 ∧ (o * k1 + c) * k2 ≤ 266240
  a5 : 0 ≤ ((o * k1 + c) * k2 + i) * k3 ∧ ((o * k1 + c) * k2 + i) * k3 ≤ 17043456
abbrev B64 (x : Int) : Prop := 0 ≤ x ∧ x ≤ 64
theorem ix_c {c i1 y i i2 x j o k1 k2 k3 : Int} (hc : B64 c) (h1 : B64 i1) (hy : B64 y) (hi : B64 i) (h2 : B64 i2) (ho : B64 o) (g1 : B64 k1) (g2 : B64 k2) (g3 : B64 k3) : IxC c i1 y i i2 x j o k1 k2 k3 := by
  have e1 := nn_bd (a := c) (b := i1) (A := 64) (B := 64) hc h1
  have e2 := nn_bd (a := c * i1 + y + i) (b := i2) (A := 4224) (B := 64) (by omega) h2
  have e3 := nn_bd (a := o) (b := k1) (A := 64) (B := 64) ho g1
  have e4 := nn_bd (a := o * k1 + c) (b := k2) (A := 4160) (B := 64) (by omega) g2
  have e5 := nn_bd (a := (o * k1 + c) * k2 + i) (b := k3) (A := 266304) (B := 64) (by omega) g3
  exact ⟨e1, e2, e3, e4, e5⟩
structure SofarC (n : NodeV) (tl : List Int) (cnt : Nat) (us : List IntsV) (bs : List Int) (m : Nat) : Prop where
  rows : Sofar3 n tl us m
  bias : bs = (List.range m).map (biasI n cnt)
theorem SofarC.blen {n : NodeV} {tl : List Int} {cnt : Nat} {us : List IntsV} {bs : List Int} {m : Nat} (h : SofarC n tl cnt us bs m) : bs.length = m := by rw [h.bias]; simp
theorem SofarC.next {n : NodeV} {tl : List Int} {cnt : Nat} {us : List IntsV} {bs : List Int} {m : Nat} {u : IntsV} {b : Int} (h : SofarC n tl cnt us bs m) (hu : u.sane) (hx : u.xs = matRow n tl m) (hb : biasI n cnt m = b) : SofarC n tl cnt (us ++ [u]) (bs ++ [b]) (m + 1) :=
  ⟨h.rows.next hu hx, by rw [h.bias, ← hb, List.range_succ, List.map_append]; rfl⟩
theorem ints_snocM (bs : List Int) (x : Int) {m : Nat} (hm : m = bs.length) {i : Nat} {T : TypeId} {H : Heap} : (i, Ent.rows (ints (bs ++ [x])) 1 T) ∈ (i, Ent.rows (List.take m (ints bs) ++ [[.int .i64 x]]) 1 T) :: H := by
  subst hm; exact ints_snoc bs x
end Go.Proofs.Ytdmkdogakbipbaa


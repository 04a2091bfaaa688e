import Derived.Test.YtajbngkcgbehlaaSxN
namespace Go.SX
open Go.RowKit

/-! ### Regions, code -/
def putE (env : Env) (d : Option Tmp) (v : SV) : Env := match d with | some t => (t, v) :: env | none => env

def putEK (env : Env) (d : Option Tmp) (v : SV) (K : Env → Prop) : Prop := match d with | some t => K ((t, v) :: env) | none => K env
theorem putEK_eq (env : Env) (d : Option Tmp) (v : SV) (K : Env → Prop) : putEK env d v K = K (putE env d v) := by cases d <;> rfl

theorem Sat.put {n : Nat} {ρ ρ' : Nat → Loc} {nx nx' : Nat} {env : Env} {a : Act} {d : Option Tmp} {v : SV} (hs : Sat n ρ nx env a) (hr : ∀ i, i < nx → ρ' i = ρ i) (hn : nx ≤ nx') (hv : v.lt nx') : Sat n ρ' nx' (putE env d v) (a.put d (v.rf ρ')) := by
  have old : ∀ t u, env.get t = some u → t < n → a.tmps[t]? = some (u.rf ρ') := fun t u hu ht => by
    rw [hs.val t u hu ht, SV.rf_lt (hs.lt t u hu) (fun i hi => (hr i hi).symm)]
  cases d with
  | none => exact ⟨hs.defers, hs.size, old, fun t u hu => (hs.lt t u hu).mono hn⟩
  | some d =>
    refine ⟨hs.defers, by simp [Act.put, hs.size], fun t u hu ht => ?_, fun t u hu => ?_⟩
    · simp only [putE, Env.get_cons] at hu
      simp only [Act.put]
      by_cases hdt : d = t
      · subst hdt
        rw [if_pos rfl] at hu
        obtain rfl : v = u := by simpa using hu
        rw [Array.getElem?_setIfInBounds_self_of_lt (by rw [hs.size]; exact ht)]
      · rw [if_neg hdt] at hu
        rw [Array.getElem?_setIfInBounds_ne hdt]
        exact old t u hu ht
    · simp only [putE, Env.get_cons] at hu
      by_cases hdt : d = t
      · rw [if_pos hdt] at hu
        obtain rfl : v = u := by simpa using hu
        exact hv
      · rw [if_neg hdt] at hu
        exact (hs.lt t u hu).mono hn

def dstOf : List Oper → Nat → Option Tmp
  | [], _ => none
  | o :: r, j => bif Nat.beq j 0 then o.dst else dstOf r (Nat.pred j)
theorem dstOf_eq : ∀ (l : List Oper) (j : Nat), dstOf l j = (l[j]?).bind (·.dst)
  | [], _ => rfl
  | o :: r, 0 => rfl
  | o :: r, j + 1 => by
    have := dstOf_eq r j
    show dstOf r j = _
    simpa using this

def guardK (n : Nat) (ops : List Oper) (g : Option (Nat × Bool)) (env : Env) (K : Bool → Prop) : Prop :=
  match g with
  | none => K true
  | some (j, want) => (match dstOf ops j with
    | none => K false
    | some t => bif Nat.ble n t then False else getK t (fun v => match v, want with
      | .c (.bool true), true => K true
      | .c (.bool true), false => K false
      | .c (.bool false), true => K false
      | .c (.bool false), false => K true
      | .c (.tuple _), _ => K false
      | _, _ => False) env)

theorem guardK_spec {n : Nat} {ops : Array Oper} {o : Oper} {env : Env} {a : Act} {ρ : Nat → Loc} {nx : Nat} {K : Bool → Prop} (hs : Sat n ρ nx env a) (h : guardK n ops.toList o.guard env K) :
    K (Region.wanted o (yielded ops a.tmps)) := by
  unfold guardK at h
  unfold Region.wanted
  cases hg : o.guard with
  | none => rw [hg] at h; exact h
  | some gw =>
    obtain ⟨j, want⟩ := gw
    rw [hg] at h
    dsimp only at h ⊢
    rw [dstOf_eq] at h
    unfold yielded
    simp only [Array.getElem?_toList] at h
    cases hd : (ops[j]?).bind (·.dst) with
    | none => rw [hd] at h; exact h
    | some t =>
      rw [hd] at h
      dsimp only at h
      cases hb : Nat.ble n t with
      | true => rw [hb] at h; exact h.elim
      | false =>
        rw [hb, cond_false] at h
        have ht : t < n := by
          rcases Nat.lt_or_ge t n with h' | h'
          · exact h'
          · rw [Nat.ble_eq_true_of_le h'] at hb; cases hb
        obtain ⟨v, hv, h⟩ := getK_spec h
        have := hs.val t v hv ht
        simp only [Option.bind_some, this]
        split at h <;> first | exact h.elim | simpa [SV.rf] using h

def regK (cx : Cx) (ops : List Oper) : List Oper → Env → Heap → Asn → Nat → (Env → Heap → Asn → Nat → Prop) → Prop
  | [], env, H, S, nx, K => K env H S nx
  | o :: r, env, H, S, nx, K => guardK cx.n ops o.guard env (fun b => match b with
    | true => opE cx o.op env H S nx (fun v H' S' nx' => putEK env o.dst v fun env' => regK cx ops r env' H' S' nx' K)
    | false => putEK env o.dst (.c undef) fun env' => regK cx ops r env' H S nx K)

/-- What is shown of a piece of code, from a symbolic state. -/
structure Wp (cx : Cx) (c : Code) (env : Env) (H : Heap) (S : Asn) (nx : Nat) (K : Exit → Env → Heap → Asn → Nat → Prop) : Prop where
  out : ∀ ρ a w, Sat cx.n ρ nx env a → Abs cx.B ρ nx H S w → c.wp cx.P (fun e a' w' =>
    ∃ ρ' env' H' S' nx', (∀ i, i < nx → ρ' i = ρ i) ∧ nx ≤ nx' ∧ Sat cx.n ρ' nx' env' a' ∧ Abs cx.B ρ' nx' H' S' w' ∧ K e env' H' S' nx') a w
theorem Wp_def {cx : Cx} {c : Code} {env : Env} {H : Heap} {S : Asn} {nx : Nat} {K : Exit → Env → Heap → Asn → Nat → Prop} : Wp cx c env H S nx K = (∀ ρ a w, Sat cx.n ρ nx env a → Abs cx.B ρ nx H S w → c.wp cx.P (fun e a' w' =>
    ∃ ρ' env' H' S' nx', (∀ i, i < nx → ρ' i = ρ i) ∧ nx ≤ nx' ∧ Sat cx.n ρ' nx' env' a' ∧ Abs cx.B ρ' nx' H' S' w' ∧ K e env' H' S' nx') a w) := propext ⟨fun h => h.out, fun h => ⟨h⟩⟩

structure drawK (cx : Cx) (id : Nat) (ops : Array Oper) (env : Env) (H : Heap) (S : Asn) (nx : Nat) (K : Env → Heap → Asn → Nat → Prop) : Prop where
  out : Wp cx (.region id ops true) env H S nx (fun e env' H' S' nx' => e = .normal ∧ K env' H' S' nx')
theorem drawK_def {cx : Cx} {id : Nat} {ops : Array Oper} {env : Env} {H : Heap} {S : Asn} {nx : Nat} {K : Env → Heap → Asn → Nat → Prop} : drawK cx id ops env H S nx K = (Wp cx (.region id ops true) env H S nx (fun e env' H' S' nx' => e = .normal ∧ K env' H' S' nx')) := propext ⟨fun h => h.out, fun h => ⟨h⟩⟩

def vcC (cx : Cx) : Code → Env → Heap → Asn → Nat → (Exit → Env → Heap → Asn → Nat → Prop) → Prop
  | .skip, env, H, S, nx, K => K .normal env H S nx
  | .region id ops draw, env, H, S, nx, K => (match draw with
    | false => regK cx ops.toList ops.toList env H S nx (fun env' H' S' nx' => K .normal env' H' S' nx')
    | true => drawK cx id ops env H S nx (fun env' H' S' nx' => K .normal env' H' S' nx'))
  | .seq a b, env, H, S, nx, K => vcC cx a env H S nx (fun e env' H' S' nx' => match e with
    | .normal => Wp cx b env' H' S' nx' K
    | e => K e env' H' S' nx')
  | .cond c a b, env, H, S, nx, K => evK cx.n env c (fun v => match v with
    | .c (.bool true) => vcC cx a env H S nx K
    | .c (.bool false) => vcC cx b env H S nx K
    | _ => False)
  | .block id b, env, H, S, nx, K => vcC cx b env H S nx (fun e env' H' S' nx' => match e with
    | .exit id' => bif Nat.beq id' id then K .normal env' H' S' nx' else K (.exit id') env' H' S' nx'
    | e => K e env' H' S' nx')
  | .loop b, env, H, S, nx, K => Wp cx (.loop b) env H S nx K
  | .exit id, env, H, S, nx, K => K (.exit id) env H S nx
  | .ret, env, H, S, nx, K => K .ret env H S nx
  | c, env, H, S, nx, K => Wp cx c env H S nx K

section
variable {cx : Cx} (hok : ∀ p ∈ cx.tab, mkTI cx.P p.1 = some p.2)

include hok in
theorem regK_sound {ops : Array Oper} : ∀ {l : List Oper} {env : Env} {H : Heap} {S : Asn} {nx : Nat} {K : Env → Heap → Asn → Nat → Prop} {ρ : Nat → Loc} {a : Act} {w : World} {Q : Exit → Act → World → Prop},
    regK cx ops.toList l env H S nx K → Sat cx.n ρ nx env a → Abs cx.B ρ nx H S w →
    (∀ ρ' a' env' H' S' nx' w', (∀ i, i < nx → ρ' i = ρ i) → nx ≤ nx' → Sat cx.n ρ' nx' env' a' → Abs cx.B ρ' nx' H' S' w' → K env' H' S' nx' → Q .normal a' w') →
    wpList cx.P ops Q l a w
  | [], env, H, S, nx, K, ρ, a, w, Q, h, hs, hw, hq => hq ρ a env H S nx w (fun _ _ => rfl) (Nat.le_refl _) hs hw h
  | o :: r, env, H, S, nx, K, ρ, a, w, Q, h, hs, hw, hq => by
    unfold regK at h
    have h := guardK_spec hs h
    unfold wpList
    cases hwt : Region.wanted o (yielded ops a.tmps) with
    | true =>
      rw [hwt] at h
      dsimp only at h
      rw [if_pos rfl]
      refine .inl (opE_sound hok h hs hw ?_)
      intro v ρ' H' S' nx' w' h1 h2 h3 h4 h5
      rw [putEK_eq] at h5
      refine regK_sound h5 (hs.put h1 h2 h3) h4 ?_
      intro ρ'' a'' env'' H'' S'' nx'' w'' g1 g2 g4 g5 g6
      exact hq ρ'' a'' env'' H'' S'' nx'' w'' (fun i hi => (g1 i (Nat.lt_of_lt_of_le hi h2)).trans (h1 i hi)) (Nat.le_trans h2 g2) g4 g5 g6
    | false =>
      rw [hwt] at h
      dsimp only at h
      rw [if_neg (by simp)]
      have hp := hs.put (ρ' := ρ) (nx' := nx) (d := o.dst) (v := .c undef) (fun _ _ => rfl) (Nat.le_refl _) (SV.lt_c _)
      rw [putEK_eq] at h
      refine regK_sound h hp hw ?_
      intro ρ'' a'' env'' H'' S'' nx'' w'' g1 g2 g4 g5 g6
      exact hq ρ'' a'' env'' H'' S'' nx'' w'' g1 g2 g4 g5 g6

include hok in
theorem vcC_sound : ∀ {c : Code} {env : Env} {H : Heap} {S : Asn} {nx : Nat} {K : Exit → Env → Heap → Asn → Nat → Prop}, vcC cx c env H S nx K → Wp cx c env H S nx K := by
  intro c
  induction c with
  | skip =>
    intro env H S nx K h
    rw [Wp_def]
    intro ρ a w hs hw
    exact wp_skip ⟨ρ, env, H, S, nx, fun _ _ => rfl, Nat.le_refl _, hs, hw, h⟩
  | region id ops draw =>
    intro env H S nx K h
    cases draw with
    | true =>
      simp only [vcC] at h
      rw [drawK_def] at h
      rw [Wp_def] at h ⊢
      intro ρ a w hs hw
      refine wp_mono (h ρ a w hs hw) ?_
      rintro e a' w' ⟨ρ', env', H', S', nx', h2, h3, h4, h5, rfl, h6⟩
      exact ⟨ρ', env', H', S', nx', h2, h3, h4, h5, h6⟩
    | false =>
      simp only [vcC] at h
      rw [Wp_def]
      intro ρ a w hs hw
      refine wp_region_list (regK_sound hok h hs hw ?_)
      intro ρ' a' env' H' S' nx' w' g1 g2 g4 g5 g6
      exact ⟨ρ', env', H', S', nx', g1, g2, g4, g5, g6⟩
  | seq x y ihx ihy =>
    intro env H S nx K h
    have hx := ihx h
    rw [Wp_def] at hx ⊢
    intro ρ a w hs hw
    refine wp_seq (wp_mono (hx ρ a w hs hw) ?_)
    rintro e a' w' ⟨ρ', env', H', S', nx', h2, h3, h4, h5, h6⟩
    cases e with
    | normal =>
      simp only [Exit.then]
      dsimp only at h6
      refine wp_mono (h6.out ρ' a' w' h4 h5) ?_
      rintro e a'' w'' ⟨ρ'', env'', H'', S'', nx'', g2, g3, g4, g5, g6⟩
      exact ⟨ρ'', env'', H'', S'', nx'', fun i hi => (g2 i (Nat.lt_of_lt_of_le hi h3)).trans (h2 i hi), Nat.le_trans h3 g3, g4, g5, g6⟩
    | _ => exact ⟨ρ', env', H', S', nx', h2, h3, h4, h5, h6⟩
  | cond c x y ihx ihy =>
    intro env H S nx K h
    rw [Wp_def]
    intro ρ a w hs hw
    obtain ⟨v, h1, h2, h3⟩ := evK_spec hs h
    match v, h1, h2 with
    | .c (.bool true), h1, h2 =>
      have hx := ihx h1
      rw [Wp_def] at hx
      exact wp_cond_true h2 (hx ρ a w hs hw)
    | .c (.bool false), h1, h2 =>
      have hx := ihy h1
      rw [Wp_def] at hx
      exact wp_cond_false h2 (hx ρ a w hs hw)
  | block id b ih =>
    intro env H S nx K h
    have hb := ih h
    rw [Wp_def] at hb ⊢
    intro ρ a w hs hw
    refine wp_block (wp_mono (hb ρ a w hs hw) ?_)
    rintro e a' w' ⟨ρ', env', H', S', nx', g2, g3, g4, g5, g6⟩
    cases e with
    | exit id' =>
      simp only [Exit.inBlock]
      dsimp only at g6
      cases hb : Nat.beq id' id with
      | true =>
        rw [hb, cond_true] at g6
        rw [if_pos (Nat.eq_of_beq_eq_true hb)]
        exact ⟨ρ', env', H', S', nx', g2, g3, g4, g5, g6⟩
      | false =>
        rw [hb, cond_false] at g6
        rw [if_neg (Nat.ne_of_beq_eq_false hb)]
        exact ⟨ρ', env', H', S', nx', g2, g3, g4, g5, g6⟩
    | _ => exact ⟨ρ', env', H', S', nx', g2, g3, g4, g5, g6⟩
  | exit id =>
    intro env H S nx K h
    rw [Wp_def]
    intro ρ a w hs hw
    exact wp_exit ⟨ρ, env, H, S, nx, fun _ _ => rfl, Nat.le_refl _, hs, hw, h⟩
  | ret =>
    intro env H S nx K h
    rw [Wp_def]
    intro ρ a w hs hw
    exact wp_ret ⟨ρ, env, H, S, nx, fun _ _ => rfl, Nat.le_refl _, hs, hw, h⟩
  | _ => intro env H S nx K h; exact h
end
end Go.SX

import Derived.Test.YtajbngkcgbehlaaSxB
namespace Go.SX
open Go.RowKit

def kEq (a b : IntKind) : Bool :=
  match a, b with
  | .i8, .i8 | .i16, .i16 | .i32, .i32 | .i64, .i64 | .u8, .u8 | .u16, .u16 | .u32, .u32 | .u64, .u64 => true
  | _, _ => false
theorem kEq_eq {a b : IntKind} (h : kEq a b = true) : a = b := by
  cases a <;> cases b <;> first | rfl | (simp [kEq] at h)

def intBin (op : BinOp) (k : IntKind) (a b : Int) (K : SV → Prop) : Prop :=
  match op with
  | .add => wrapK k (a + b) fun z => K (.c (.int k z))
  | .sub => wrapK k (a - b) fun z => K (.c (.int k z))
  | .mul => wrapK k (a * b) fun z => K (.c (.int k z))
  | .quo => divK k a b fun z => K (.c (.int k z))
  | .rem => remK a b fun z => K (.c (.int k z))
  | .and | .or | .xor | .andNot => bitsK op k a b fun z => K (.c (.int k z))
  | .shl | .shr => shiftK op k a b fun z => K (.c (.int k z))
  | .eql => cmpK (a = b) fun t => K (.c (.bool t))
  | .neq => cmpK (a ≠ b) fun t => K (.c (.bool t))
  | .lss => cmpK (a < b) fun t => K (.c (.bool t))
  | .leq => cmpK (a ≤ b) fun t => K (.c (.bool t))
  | .gtr => cmpK (a > b) fun t => K (.c (.bool t))
  | .geq => cmpK (a ≥ b) fun t => K (.c (.bool t))

def isShift : BinOp → Bool | .shl | .shr => true | _ => false

/-- plain values all -/
def plainL : List SV → Option (List Value)
  | [] => some []
  | .c v :: r => (match plainL r with | some l => some (v :: l) | none => none)
  | _ :: _ => none
theorem plainL_spec (ρ : Nat → Loc) : ∀ {l : List SV} {vs : List Value}, plainL l = some vs → SV.rfs ρ l = vs
  | [], vs, h => by simp [plainL] at h; subst h; rfl
  | .c v :: r, vs, h => by
    unfold plainL at h
    split at h
    · rename_i l hl
      simp at h
      subst h
      simp [SV.rfs, SV.rf, plainL_spec ρ hl]
    · cases h
  | .lp _ _ _ _ :: _, _, h => by simp [plainL] at h
  | .os _ _ :: _, _, h => by simp [plainL] at h
  | .agg _ :: _, _, h => by simp [plainL] at h
  | .tup _ :: _, _, h => by simp [plainL] at h
  | .fn _ _ _ :: _, _, h => by simp [plainL] at h
  | .ifc _ _ :: _, _, h => by simp [plainL] at h
def binQ (cx : Cx) (op : BinOp) (t : TypeId) (ox oy : Operand) (x y : SV) (K : SV → Prop) : Prop :=
  match x, y with
  | .c (.int k a), .c (.int k' b) => bif isShift op || kEq k k' then intBin op k a b K else False
  | .c (.bool a), .c (.bool b) =>
    match op with
    | .eql => tabK t (fun ti => bif Nat.beq ti.kind 5 then K (.c (.bool (a == b))) else False) cx.tab
    | .neq => tabK t (fun ti => bif Nat.beq ti.kind 5 then K (.c (.bool (!(a == b)))) else False) cx.tab
    | _ => False
  | .c a, .c b => pureK cx.P (do eqGuard op t ox oy a b; binOp op t a b) K
  | .agg a, .agg b => (match plainL a, plainL b with
    | some va, some vb => pureK cx.P (do eqGuard op t ox oy (.agg va.toArray) (.agg vb.toArray); binOp op t (.agg va.toArray) (.agg vb.toArray)) K
    | _, _ => False)
  | _, _ => False

theorem cmp_sound {p : Prop} [Decidable p] {K : Bool → Prop} (h : cmpK p K) : K (decide p) := by
  rw [cmpK_def] at h
  by_cases hp : p
  · rw [decide_eq_true hp]; exact h.1 hp
  · rw [decide_eq_false hp]; exact h.2 hp

theorem eqGuard_int (P : Program) (op : BinOp) (t : TypeId) (x y : Operand) (k k' : IntKind) (a b : Int) (w : World) :
    (eqGuard op t x y (.int k a) (.int k' b)).run P w = .ok () w := by
  unfold eqGuard
  split <;> simp
theorem eqGuard_bool (P : Program) (op : BinOp) (t : TypeId) (x y : Operand) (a b : Bool) (w : World) :
    (eqGuard op t x y (.bool a) (.bool b)).run P w = .ok () w := by
  unfold eqGuard
  split <;> simp

theorem intBin_sound {P : Program} {op : BinOp} {k k' : IntKind} {a b : Int} {t : TypeId} {K : SV → Prop} (hk : (isShift op || kEq k k') = true) (h : intBin op k a b K) :
    ∃ v, (∀ w, (binOp op t (.int k a) (.int k' b)).run P w = .ok v w) ∧ K (.c v) := by
  cases op with
  | add => obtain rfl := kEq_eq (by simpa [isShift] using hk); simp only [intBin, wrapK_def] at h; exact ⟨_, fun w => by simp [binOp, Op.intArith], h⟩
  | sub => obtain rfl := kEq_eq (by simpa [isShift] using hk); simp only [intBin, wrapK_def] at h; exact ⟨_, fun w => by simp [binOp, Op.intArith], h⟩
  | mul => obtain rfl := kEq_eq (by simpa [isShift] using hk); simp only [intBin, wrapK_def] at h; exact ⟨_, fun w => by simp [binOp, Op.intArith], h⟩
  | quo => obtain rfl := kEq_eq (by simpa [isShift] using hk); simp only [intBin, divK_def] at h; exact ⟨_, fun w => by simp [binOp, Op.intDiv, h.1], h.2⟩
  | rem => obtain rfl := kEq_eq (by simpa [isShift] using hk); simp only [intBin, remK_def] at h; exact ⟨_, fun w => by simp [binOp, Op.intDiv, h.1], h.2⟩
  | and => obtain rfl := kEq_eq (by simpa [isShift] using hk); simp only [intBin, bitsK_def, bitsOf] at h; exact ⟨_, fun w => by simp only [binOp, Op.intBits]; simp, h⟩
  | or => obtain rfl := kEq_eq (by simpa [isShift] using hk); simp only [intBin, bitsK_def, bitsOf] at h; exact ⟨_, fun w => by simp only [binOp, Op.intBits]; simp, h⟩
  | xor => obtain rfl := kEq_eq (by simpa [isShift] using hk); simp only [intBin, bitsK_def, bitsOf] at h; exact ⟨_, fun w => by simp only [binOp, Op.intBits]; simp, h⟩
  | andNot => obtain rfl := kEq_eq (by simpa [isShift] using hk); simp only [intBin, bitsK_def, bitsOf] at h; exact ⟨_, fun w => by simp only [binOp, Op.intBits]; simp, h⟩
  | shl => simp only [intBin, shiftK_def] at h; obtain ⟨h0, z, rfl, hz⟩ := h; exact ⟨_, fun w => by simp [binOp, Op.shift, Int.not_lt.2 h0], hz⟩
  | shr => simp only [intBin, shiftK_def] at h; obtain ⟨h0, z, rfl, hz⟩ := h; exact ⟨_, fun w => by simp [binOp, Op.shift, Int.not_lt.2 h0], hz⟩
  | eql => obtain rfl := kEq_eq (by simpa [isShift] using hk); simp only [intBin] at h; refine ⟨_, fun w => ?_, cmp_sound h⟩; simp only [binOp, Op.intCmp]; by_cases he : a = b <;> simp [he]
  | neq => obtain rfl := kEq_eq (by simpa [isShift] using hk); simp only [intBin] at h; refine ⟨_, fun w => ?_, cmp_sound h⟩; simp only [binOp, Op.intCmp]; by_cases he : a = b <;> simp [he]
  | lss => obtain rfl := kEq_eq (by simpa [isShift] using hk); simp only [intBin] at h; refine ⟨_, fun w => ?_, cmp_sound h⟩; simp only [binOp, Op.intCmp]; simp
  | leq => obtain rfl := kEq_eq (by simpa [isShift] using hk); simp only [intBin] at h; refine ⟨_, fun w => ?_, cmp_sound h⟩; simp only [binOp, Op.intCmp]; simp
  | gtr => obtain rfl := kEq_eq (by simpa [isShift] using hk); simp only [intBin] at h; refine ⟨_, fun w => ?_, cmp_sound h⟩; simp only [binOp, Op.intCmp]; simp
  | geq => obtain rfl := kEq_eq (by simpa [isShift] using hk); simp only [intBin] at h; refine ⟨_, fun w => ?_, cmp_sound h⟩; simp only [binOp, Op.intCmp]; simp

theorem bool_eq_sound {P : Program} {t : TypeId} {ti : TI} (h1 : mkTI P t = some ti) (hk : Nat.beq ti.kind 5 = true) (a b : Bool) (w : World) :
    (Op.equal t (.bool a) (.bool b)).run P w = .ok (a == b) w := by
  obtain ⟨i, d, z, hi, hd, hz0, rfl⟩ := mkTI_spec h1
  have hk' := Nat.eq_of_beq_eq_true hk
  cases d <;> simp [kindOf] at hk'
  unfold Op.equal
  rw [show Op.maxDepth = Nat.succ 9999 from rfl]
  unfold Op.equalIn
  simp only [Sem.run_bind, run_underlying hd, Result.andThen_ok]
  rfl

theorem binQ_sound {cx : Cx} (hok : ∀ p ∈ cx.tab, mkTI cx.P p.1 = some p.2) {op : BinOp} {t : TypeId} {ox oy : Operand} {x y : SV} {K : SV → Prop} (h : binQ cx op t ox oy x y K) (ρ : Nat → Loc) :
    ∃ v, (∀ w, (do eqGuard op t ox oy (x.rf ρ) (y.rf ρ); binOp op t (x.rf ρ) (y.rf ρ) : Sem Value).run cx.P w = .ok v w) ∧ K (.c v) := by
  unfold binQ at h
  split at h
  · rename_i k a k' b
    cases hb : (isShift op || kEq k k') with
    | false => rw [hb] at h; exact h.elim
    | true =>
      rw [hb] at h
      obtain ⟨v, h1, h2⟩ := intBin_sound (P := cx.P) (t := t) hb h
      exact ⟨v, fun w => by simp only [SV.rf, Sem.run_bind, eqGuard_int, Result.andThen_ok]; exact h1 w, h2⟩
  · rename_i a b
    split at h
    · obtain ⟨ti, h1, h2⟩ := tabK_spec hok h
      cases hk : Nat.beq ti.kind 5 with
      | false => rw [hk] at h2; exact h2.elim
      | true =>
        rw [hk] at h2
        refine ⟨_, fun w => ?_, h2⟩
        simp only [SV.rf, Sem.run_bind, eqGuard_bool, Result.andThen_ok, binOp]
        rw [bool_eq_sound h1 hk]
        rfl
    · obtain ⟨ti, h1, h2⟩ := tabK_spec hok h
      cases hk : Nat.beq ti.kind 5 with
      | false => rw [hk] at h2; exact h2.elim
      | true =>
        rw [hk] at h2
        refine ⟨_, fun w => ?_, h2⟩
        simp only [SV.rf, Sem.run_bind, eqGuard_bool, Result.andThen_ok, binOp]
        rw [bool_eq_sound h1 hk]
        rfl
    · exact h.elim
  · rw [pureK_def] at h
    exact h
  · split at h
    · rename_i va vb ha hb
      rw [pureK_def] at h
      obtain ⟨v, h1, h2⟩ := h
      refine ⟨v, fun w => ?_, h2⟩
      simp only [SV.rf, plainL_spec ρ ha, plainL_spec ρ hb]
      exact h1 w
    · exact h.elim
  · exact h.elim

end Go.SX

import Derived.Test.YtipjlnkdfeifkaaGreatDoorKEvalNilCard3
/- SxCeM -/
set_option linter.unusedVariables false
set_option linter.unusedSimpArgs false
namespace Go.CE
open Go.RowKit Go.SX

/-- a slot's place, found once -/
noncomputable def getB (d : Nat) : Nat → Option (T V → Option V) :=
  Nat.rec (motive := fun _ => Nat → Option (T V → Option V)) (fun _ => none) (fun _ ih t =>
    bc (Nat.beq t 0) (some fun e => T.rec (motive := fun _ => Option V) none (fun v _ _ _ _ => v) e)
      (bc (Nat.beq (Nat.mod t 2) 1) (ob (ih (Nat.div t 2)) fun g => some fun e => T.rec (motive := fun _ => Option V) none (fun _ l _ _ _ => g l) e)
        (ob (ih (Nat.pred (Nat.div t 2))) fun g => some fun e => T.rec (motive := fun _ => Option V) none (fun _ _ r _ _ => g r) e))) d
theorem getB_eq : ∀ {d t : Nat} {g : T V → Option V}, getB d t = some g → ∀ e, g e = T.get e t
  | 0, _, _, h, _ => by cases h
  | d + 1, t, g, h, e => by
    replace h : bc (Nat.beq t 0) (some fun e => T.rec (motive := fun _ => Option V) none (fun v _ _ _ _ => v) e)
      (bc (Nat.beq (Nat.mod t 2) 1) (ob (getB d (Nat.div t 2)) fun g => some fun e => T.rec (motive := fun _ => Option V) none (fun _ l _ _ _ => g l) e)
        (ob (getB d (Nat.pred (Nat.div t 2))) fun g => some fun e => T.rec (motive := fun _ => Option V) none (fun _ _ r _ _ => g r) e)) = some g := h
    rw [bc_eq, bc_eq] at h
    cases h0 : Nat.beq t 0 with
    | true =>
      rw [h0] at h
      cases h
      cases e with
      | nil => rfl
      | node v l r => rw [T.get_node, h0]; rfl
    | false =>
      rw [h0] at h
      cases h1 : Nat.beq (Nat.mod t 2) 1 with
      | true =>
        rw [h1] at h
        replace h := ob_some (x := getB d (Nat.div t 2)) h; obtain ⟨g1, h2, h⟩ := h
        cases h
        cases e with
        | nil => rfl
        | node v l r => rw [T.get_node, h0, show Nat.beq (t % 2) 1 = true from h1]; exact getB_eq h2 l
      | false =>
        rw [h1] at h
        replace h := ob_some (x := getB d (Nat.pred (Nat.div t 2))) h; obtain ⟨g1, h2, h⟩ := h
        cases h
        cases e with
        | nil => rfl
        | node v l r => rw [T.get_node, h0, show Nat.beq (t % 2) 1 = false from h1]; exact getB_eq h2 r
noncomputable def setB (d : Nat) : Nat → Option (V → T V → T V) :=
  Nat.rec (motive := fun _ => Nat → Option (V → T V → T V)) (fun _ => some fun _ e => e) (fun _ ih t =>
    bc (Nat.beq t 0) (some fun x e => T.rec (motive := fun _ => T V) (.node (some x) .nil .nil) (fun _ l r _ _ => .node (some x) l r) e)
      (bc (Nat.beq (Nat.mod t 2) 1) (ob (ih (Nat.div t 2)) fun g => some fun x e => T.rec (motive := fun _ => T V) (.node none (g x .nil) .nil) (fun v l r _ _ => .node v (g x l) r) e)
        (ob (ih (Nat.pred (Nat.div t 2))) fun g => some fun x e => T.rec (motive := fun _ => T V) (.node none .nil (g x .nil)) (fun v l r _ _ => .node v l (g x r)) e))) d
theorem setB_eq : ∀ {d t : Nat} {g : V → T V → T V}, setB d t = some g → ∀ x e, g x e = T.set (some x) d e t
  | 0, _, _, h, _, _ => by cases h; rfl
  | d + 1, t, g, h, x, e => by
    replace h : bc (Nat.beq t 0) (some fun x e => T.rec (motive := fun _ => T V) (.node (some x) .nil .nil) (fun _ l r _ _ => .node (some x) l r) e)
      (bc (Nat.beq (Nat.mod t 2) 1) (ob (setB d (Nat.div t 2)) fun g => some fun x e => T.rec (motive := fun _ => T V) (.node none (g x .nil) .nil) (fun v l r _ _ => .node v (g x l) r) e)
        (ob (setB d (Nat.pred (Nat.div t 2))) fun g => some fun x e => T.rec (motive := fun _ => T V) (.node none .nil (g x .nil)) (fun v l r _ _ => .node v l (g x r)) e)) = some g := h
    rw [bc_eq, bc_eq] at h
    cases h0 : Nat.beq t 0 with
    | true =>
      rw [h0] at h
      cases h
      cases e with
      | nil => rw [T.set_nil, h0]; rfl
      | node v l r => rw [T.set_node, h0]; rfl
    | false =>
      rw [h0] at h
      cases h1 : Nat.beq (Nat.mod t 2) 1 with
      | true =>
        rw [h1] at h
        replace h := ob_some (x := setB d (Nat.div t 2)) h; obtain ⟨g1, h2, h⟩ := h
        cases h
        cases e with
        | nil => rw [T.set_nil, h0, show Nat.beq (t % 2) 1 = true from h1]; show T.node none (g1 x .nil) .nil = _; rw [setB_eq h2]; rfl
        | node v l r => rw [T.set_node, h0, show Nat.beq (t % 2) 1 = true from h1]; show T.node v (g1 x l) r = _; rw [setB_eq h2]; rfl
      | false =>
        rw [h1] at h
        replace h := ob_some (x := setB d (Nat.pred (Nat.div t 2))) h; obtain ⟨g1, h2, h⟩ := h
        cases h
        cases e with
        | nil => rw [T.set_nil, h0, show Nat.beq (t % 2) 1 = false from h1]; show T.node none .nil (g1 x .nil) = _; rw [setB_eq h2]; rfl
        | node v l r => rw [T.set_node, h0, show Nat.beq (t % 2) 1 = false from h1]; show T.node v l (g1 x r) = _; rw [setB_eq h2]; rfl
/-- a constant with its number made plain -/
noncomputable def litB (v : Value) : Option (Env → Option V) :=
  match v with
  | .int k z => forceI z fun z => some fun _ => some (.c (.int k z))
  | v => some fun _ => some (.c v)
noncomputable def evB (x : Operand) : Option (Env → Option V) :=
  match x with
  | .tmp t => getB D t
  | .const v => litB v
  | .global _ => none
  | .func f => some fun _ => some (.c (.func (.func f) #[] #[]))
theorem evB_eq {x : Operand} {g : Env → Option V} (h : evB x = some g) (env : Env) : g env = evO env x := by
  cases x with
  | tmp t => replace h : getB D t = some g := h; exact getB_eq h env
  | const v =>
    cases v with
    | int k z => replace h : (forceI z fun z => some fun _ => some (V.c (.int k z))) = some g := h; rw [forceI_eq] at h; cases h; rfl
    | _ => cases h; rfl
  | global g => cases h
  | func f => cases h; rfl
noncomputable def evsB (xs : List Operand) : Option (Env → Option (List V)) :=
  List.rec (motive := fun _ => Option (Env → Option (List V))) (some fun _ => some []) (fun x _ ih => ob (evB x) fun g => ob ih fun k => some fun env => ob (g env) fun v => ob (k env) fun l => some (v :: l)) xs
theorem evsB_eq : ∀ {xs : List Operand} {g : Env → Option (List V)}, evsB xs = some g → ∀ env, g env = evs env xs
  | [], g, h, env => by cases h; rfl
  | x :: r, g, h, env => by
    replace h : (ob (evB x) fun g => ob (evsB r) fun k => some fun env => ob (g env) fun v => ob (k env) fun l => some (v :: l)) = some g := h
    replace h := ob_some h; obtain ⟨g1, h1, h⟩ := h
    replace h := ob_some h; obtain ⟨g2, h2, h⟩ := h
    cases h
    show (ob (g1 env) fun v => ob (g2 env) fun l => some (v :: l)) = ob (evO env x) fun v => ob (evs env r) fun l => some (v :: l)
    rw [evB_eq h1, evsB_eq h2]
noncomputable def loadB (pr : Pr) (t : TypeId) : Option ((Nat → Option E) → V → Option V) :=
  ob (pr.tab.get t) fun ti => match ti.agg with
    | true => some fun H p => (match p with | .p i f => ob (H i) fun e => ob (seg e.cells f ti.size) fun l => some (.agg l) | _ => none)
    | false => some fun H p => (match p with | .p i f => ob (H i) fun e => nth e.cells f | _ => none)
theorem loadB_eq {pr : Pr} {t : TypeId} {g : (Nat → Option E) → V → Option V} (h : loadB pr t = some g) (H : Nat → Option E) (p : V) : g H p = loadF pr H t p := by
  unfold loadB at h
  replace h := ob_some h; obtain ⟨ti, h1, h⟩ := h
  unfold loadF
  rw [h1]
  show g H p = (match p with | .p i f => ob (H i) fun e => (match ti.agg with | true => ob (seg e.cells f ti.size) fun l => some (V.agg l) | false => nth e.cells f) | _ => none)
  cases hag : ti.agg with
  | true => rw [hag] at h; cases h; cases p <;> rfl
  | false => rw [hag] at h; cases h; cases p <;> rfl
noncomputable def fieldAddrB (pr : Pr) (t : TypeId) (f : Nat) : Option (V → Option V) :=
  ob (pr.tab.get t) fun ti => ob (nth ti.flds f) fun x => match Nat.beq x.2.1 0 with
    | true => none
    | false => forceN x.1 fun o => some fun p => (match p with | .p i g => forceN (Nat.add g o) fun g => some (.p i g) | _ => none)
theorem fieldAddrB_eq {pr : Pr} {t : TypeId} {f : Nat} {g : V → Option V} (h : fieldAddrB pr t f = some g) (p : V) : g p = fieldAddrF pr t p f := by
  unfold fieldAddrB at h
  replace h := ob_some h; obtain ⟨ti, h1, h⟩ := h
  replace h := ob_some h; obtain ⟨x, h2, h⟩ := h
  unfold fieldAddrF
  rw [h1]
  show g p = ob (nth ti.flds f) _
  rw [h2]
  show g p = gd (!Nat.beq x.2.1 0) _
  cases hz : Nat.beq x.2.1 0 with
  | true => rw [hz] at h; cases h
  | false => rw [hz] at h; dsimp only at h; rw [forceN_eq] at h; cases h; cases p <;> rfl
noncomputable def idxB (pr : Pr) (t : TypeId) : Option (V → V → Option V) :=
  ob (pr.tab.get t) fun ti => ob (pr.tab.get ti.elem) fun te => match Nat.beq ti.kind 1 with
    | true => forceN te.size fun sz => some fun x iv => (match iv with
      | .c u => (match u with
        | .int _ z => (match z with
          | .ofNat z => (match x with
            | .s i k off len => gd (Nat.beq k sz) (gd (!Nat.ble len z) (forceN (Nat.mul (Nat.add off z) k) fun a => some (.p i a)))
            | _ => none)
          | _ => none)
        | _ => none)
      | _ => none)
    | false => none
theorem idxB_eq {pr : Pr} {t : TypeId} {g : V → V → Option V} (h : idxB pr t = some g) (x iv : V) : g x iv = idxF pr t x iv := by
  unfold idxB at h
  replace h := ob_some h; obtain ⟨ti, h1, h⟩ := h
  replace h := ob_some h; obtain ⟨te, h2, h⟩ := h
  unfold idxF
  rw [h1]
  show g x iv = ob (pr.tab.get ti.elem) _
  rw [h2]
  cases hk : Nat.beq ti.kind 1 with
  | false => rw [hk] at h; cases h
  | true =>
    rw [hk] at h
    dsimp only at h
    rw [forceN_eq] at h
    cases h
    cases iv with
    | c u =>
      cases u with
      | int k z =>
        cases z with
        | ofNat z =>
          cases x with
          | s i k off len =>
            dsimp only [ob]
            cases Nat.beq k te.size <;> cases Nat.ble len z <;> rfl
          | _ => rfl
        | negSucc z => rfl
      | _ => rfl
    | _ => rfl
noncomputable def intB (op : BinOp) : Option (IntKind → Int → Int → Option V) :=
  match op with
  | .add => some fun k a b => forceI (wrapF k (Int.add a b)) fun z => some (.c (.int k z))
  | .sub => some fun k a b => forceI (wrapF k (Int.sub a b)) fun z => some (.c (.int k z))
  | .eql => some fun _ a b => forceB (eqI a b) fun t => some (.c (.bool t))
  | .neq => some fun _ a b => forceB (!eqI a b) fun t => some (.c (.bool t))
  | .lss => some fun _ a b => forceB (!leI b a) fun t => some (.c (.bool t))
  | .leq => some fun _ a b => forceB (leI a b) fun t => some (.c (.bool t))
  | .gtr => some fun _ a b => forceB (!leI a b) fun t => some (.c (.bool t))
  | .geq => some fun _ a b => forceB (leI b a) fun t => some (.c (.bool t))
  | op => some fun k a b => intF op k a b
theorem intB_eq {op : BinOp} {g : IntKind → Int → Int → Option V} (h : intB op = some g) (k : IntKind) (a b : Int) : g k a b = intF op k a b := by
  cases op <;> cases h <;> rfl
noncomputable def binB (pr : Pr) (op : BinOp) (t : TypeId) : Option (V → V → Option V) :=
  ob (intB op) fun g => some fun x y => match x with
    | .c u => (match u with
      | .int k a => (match y with
        | .c w => (match w with
          | .int k' b => gd (isShift op || kEq k k') (g k a b)
          | w => binF pr op t (.c (.int k a)) (.c w))
        | y => binF pr op t (.c (.int k a)) y)
      | u => binF pr op t (.c u) y)
    | x => binF pr op t x y
theorem binB_eq {pr : Pr} {op : BinOp} {t : TypeId} {g : V → V → Option V} (h : binB pr op t = some g) (x y : V) : g x y = binF pr op t x y := by
  unfold binB at h
  replace h := ob_some h; obtain ⟨gi, h1, h⟩ := h
  cases h
  cases x with
  | c u =>
    cases u with
    | int k a =>
      cases y with
      | c w =>
        cases w with
        | int k' b => show gd (isShift op || kEq k k') (gi k a b) = gd (isShift op || kEq k k') (intF op k a b); rw [intB_eq h1]
        | _ => rfl
      | _ => rfl
    | _ => rfl
  | _ => rfl
noncomputable def storeB (pr : Pr) (t : TypeId) : Option (Mem → V → V → Option Mem) :=
  ob (pr.tab.get t) fun ti => forceN ti.size fun sz => some fun H p x => (match p with
    | .p i f => ob (H.get i) fun e => ob (cellsF x) fun vs => gd (lenB vs sz && oneBs vs && okN i) (ob (setsN e.cells f vs) fun l => some (T.set (some ⟨l, e.k, e.T⟩) D H i))
    | _ => none)
theorem storeB_eq {pr : Pr} {t : TypeId} {g : Mem → V → V → Option Mem} (h : storeB pr t = some g) (H : Mem) (p x : V) : g H p x = storeF pr H t p x := by
  unfold storeB at h
  replace h := ob_some h; obtain ⟨ti, h1, h⟩ := h
  rw [forceN_eq] at h
  cases h
  unfold storeF
  rw [h1]
  cases p <;> rfl
noncomputable def convB (pr : Pr) (s d : TypeId) : Option (V → Option V) :=
  ob (pr.tab.get s) fun _ => ob (pr.tab.get d) fun ti => match Nat.beq ti.kind 6 with
    | true => (match ti.ik with
      | k => some fun x => (match x with
        | .c u => (match u with | .int _ n => forceI (wrapF k n) fun z => some (.c (.int k z)) | _ => none)
        | _ => none))
    | false => none
theorem convB_eq {pr : Pr} {s d : TypeId} {g : V → Option V} (h : convB pr s d = some g) (x : V) : g x = convF pr s d x := by
  unfold convB at h
  replace h := ob_some h; obtain ⟨t1, h1, h⟩ := h
  replace h := ob_some h; obtain ⟨ti, h2, h⟩ := h
  unfold convF
  rw [h1]
  show g x = ob (pr.tab.get d) _
  rw [h2]
  cases hk : Nat.beq ti.kind 6 with
  | false => rw [hk] at h; cases h
  | true =>
    rw [hk] at h
    cases h
    cases x with
    | c u =>
      cases u with
      | int k n => show forceI (wrapF ti.ik n) _ = gd (Nat.beq ti.kind 6) _; rw [hk]; rfl
      | _ => rfl
    | _ => rfl

/-- a call of a named function -/
noncomputable def nameB (pr : Pr) (call : Call') (f : Nat) : Option (List V → Mem → Nat → Option (V × Mem × Nat)) :=
  match pr.ext.get f, pr.orc.get f with
  | some g, none => some fun l H nx => (match g l with | some u => some (.c u, H, nx) | none => call f l H nx)
  | none, some g => some fun l H nx => (match g l with | some u => some (.c u, H, nx) | none => call f l H nx)
  | none, none => some fun l H nx => call f l H nx
  | _, _ => none
theorem nameB_eq {pr : Pr} {call : Call'} {f : Nat} {g : List V → Mem → Nat → Option (V × Mem × Nat)} (h : nameB pr call f = some g) (l : List V) (H : Mem) (nx : Nat) : g l H nx = goF pr call f l H nx := by
  unfold nameB at h
  unfold goF
  cases he : pr.ext.get f with
  | none =>
    cases hr : pr.orc.get f with
    | none => rw [he, hr] at h; cases h; rfl
    | some o => rw [he, hr] at h; cases h; show (match o l with | some u => _ | none => _) = match ob (some o) fun g => g l with | some u => _ | none => _; rfl
  | some e =>
    cases hr : pr.orc.get f with
    | none => rw [he, hr] at h; cases h; show (match e l with | some u => _ | none => _) = match e l with | some u => _ | none => _; cases e l <;> rfl
    | some o => rw [he, hr] at h; cases h
noncomputable def callB (pr : Pr) (call : Call') (f : Operand) : Option (Env → List V → Mem → Nat → Option (V × Mem × Nat)) :=
  match f with
  | .func i => ob (nameB pr call i) fun g => some fun _ l H nx => g l H nx
  | f => ob (evB f) fun g => some fun env l H nx => ob (g env) fun fv => callV pr call fv l H nx

abbrev OpF := Env → Mem → Nat → Option (V × Mem × Nat)
noncomputable def opB (pr : Pr) (call : Call') (o : Op) : Option OpF :=
  match o with
  | .move x => ob (evB x) fun g => some fun env H nx => ob (g env) fun v => some (v, H, nx)
  | .assign x => ob (evB x) fun g => some fun env H nx => ob (g env) fun v => some (v, H, nx)
  | .load t x => ob (evB x) fun g => ob (loadB pr t) fun l => some fun env H nx => ob (g env) fun p => ob (l H.get p) fun v => some (v, H, nx)
  | .fieldAddr t x f => ob (evB x) fun g => ob (fieldAddrB pr t f) fun l => some fun env H nx => ob (g env) fun p => ob (l p) fun v => some (v, H, nx)
  | .indexAddr t x i => ob (evB x) fun g => ob (evB i) fun j => ob (idxB pr t) fun l => some fun env H nx => ob (g env) fun a => ob (j env) fun b => ob (l a b) fun v => some (v, H, nx)
  | .binOp op t x y _ => ob (evB x) fun g => ob (evB y) fun j => ob (binB pr op t) fun l => some fun env H nx => ob (g env) fun a => ob (j env) fun b => ob (l a b) fun v => some (v, H, nx)
  | .convert s d x => ob (evB x) fun g => ob (convB pr s d) fun l => some fun env H nx => ob (g env) fun a => ob (l a) fun v => some (v, H, nx)
  | .extract x i => ob (evB x) fun g => some fun env H nx => ob (g env) fun a => ob (extrF a i) fun v => some (v, H, nx)
  | .store t a x => ob (evB a) fun g => ob (evB x) fun j => ob (storeB pr t) fun l => some fun env H nx => ob (g env) fun p => ob (j env) fun v => ob (l H p v) fun H' => some (.c undef, H', nx)
  | .call c => (match c.callee with
    | .value f => ob (evsB c.args.toList) fun gs => ob (callB pr call f) fun g => some fun env H nx => ob (gs env) fun l => g env l H nx
    | _ => some fun env H nx => eopS pr call (.call c) env H nx)
  | o => some fun env H nx => eopS pr call o env H nx
theorem ob_comm {α β γ : Type} (x : Option α) (y : Option β) (f : α → β → Option γ) : (ob x fun a => ob y fun b => f a b) = ob y fun b => ob x fun a => f a b := by cases x <;> cases y <;> rfl
theorem opB_eq {pr : Pr} {call : Call'} {o : Op} {g : OpF} (h : opB pr call o = some g) (env : Env) (H : Mem) (nx : Nat) : g env H nx = eop pr call o env H nx := by
  rw [eop_eq]
  cases o with
  | move x =>
    replace h := ob_some h; obtain ⟨g1, h1, h⟩ := h
    cases h
    show (ob (g1 env) fun v => some (v, H, nx)) = ob (evO env x) fun v => some (v, H, nx)
    rw [evB_eq h1]
  | assign x =>
    replace h := ob_some h; obtain ⟨g1, h1, h⟩ := h
    cases h
    show (ob (g1 env) fun v => some (v, H, nx)) = ob (evO env x) fun v => some (v, H, nx)
    rw [evB_eq h1]
  | load t x =>
    replace h := ob_some h; obtain ⟨g1, h1, h⟩ := h
    replace h := ob_some h; obtain ⟨g2, h2, h⟩ := h
    cases h
    show (ob (g1 env) fun p => ob (g2 H.get p) fun v => some (v, H, nx)) = ob (ob (evO env x) fun p => loadF pr H.get t p) fun v => some (v, H, nx)
    simp only [evB_eq h1, loadB_eq h2, ← ob_ob]
  | fieldAddr t x f =>
    replace h := ob_some h; obtain ⟨g1, h1, h⟩ := h
    replace h := ob_some h; obtain ⟨g2, h2, h⟩ := h
    cases h
    show (ob (g1 env) fun p => ob (g2 p) fun v => some (v, H, nx)) = ob (ob (evO env x) fun p => fieldAddrF pr t p f) fun v => some (v, H, nx)
    simp only [evB_eq h1, fieldAddrB_eq h2, ← ob_ob]
  | indexAddr t x i =>
    replace h := ob_some h; obtain ⟨g1, h1, h⟩ := h
    replace h := ob_some h; obtain ⟨g3, h3, h⟩ := h
    replace h := ob_some h; obtain ⟨g2, h2, h⟩ := h
    cases h
    show (ob (g1 env) fun a => ob (g3 env) fun b => ob (g2 a b) fun v => some (v, H, nx)) = ob (ob (evO env x) fun a => ob (evO env i) fun b => idxF pr t a b) fun v => some (v, H, nx)
    simp only [evB_eq h1, evB_eq h3, idxB_eq h2, ← ob_ob]
  | binOp op t x y yt =>
    replace h := ob_some h; obtain ⟨g1, h1, h⟩ := h
    replace h := ob_some h; obtain ⟨g3, h3, h⟩ := h
    replace h := ob_some h; obtain ⟨g2, h2, h⟩ := h
    cases h
    show (ob (g1 env) fun a => ob (g3 env) fun b => ob (g2 a b) fun v => some (v, H, nx)) = ob (ob (evO env x) fun a => ob (evO env y) fun b => binF pr op t a b) fun v => some (v, H, nx)
    simp only [evB_eq h1, evB_eq h3, binB_eq h2, ← ob_ob]
  | convert s d x =>
    replace h := ob_some h; obtain ⟨g1, h1, h⟩ := h
    replace h := ob_some h; obtain ⟨g2, h2, h⟩ := h
    cases h
    show (ob (g1 env) fun p => ob (g2 p) fun v => some (v, H, nx)) = ob (ob (evO env x) fun p => convF pr s d p) fun v => some (v, H, nx)
    simp only [evB_eq h1, convB_eq h2, ← ob_ob]
  | extract x i =>
    replace h := ob_some h; obtain ⟨g1, h1, h⟩ := h
    cases h
    show (ob (g1 env) fun p => ob (extrF p i) fun v => some (v, H, nx)) = ob (ob (evO env x) fun p => extrF p i) fun v => some (v, H, nx)
    simp only [evB_eq h1, ← ob_ob]
  | store t a x =>
    replace h := ob_some h; obtain ⟨g1, h1, h⟩ := h
    replace h := ob_some h; obtain ⟨g3, h3, h⟩ := h
    replace h := ob_some h; obtain ⟨g2, h2, h⟩ := h
    cases h
    show (ob (g1 env) fun p => ob (g3 env) fun v => ob (g2 H p v) fun H' => some (V.c undef, H', nx)) = ob (evO env a) fun p => ob (evO env x) fun v => ob (storeF pr H t p v) fun H' => some (V.c undef, H', nx)
    simp only [evB_eq h1, evB_eq h3, storeB_eq h2]
  | call c =>
    unfold opB at h
    dsimp only at h
    cases hc : c.callee with
    | builtin b => rw [hc] at h; cases h; rfl
    | invoke r m => rw [hc] at h; cases h; rfl
    | value f =>
      rw [hc] at h
      unfold eopS
      dsimp only
      rw [hc]
      replace h := ob_some h; obtain ⟨g1, h1, h⟩ := h
      replace h := ob_some h; obtain ⟨g2, h2, h⟩ := h
      cases h
      show (ob (g1 env) fun l => g2 env l H nx) = ob (evO env f) fun fv => ob (evs env c.args.toList) fun l => callV pr call fv l H nx
      rw [evsB_eq h1, ob_comm]
      congr 1
      funext l
      cases f with
      | func i =>
        replace h2 := ob_some h2; obtain ⟨g3, h3, h2⟩ := h2
        cases h2
        show g3 l H nx = goF pr call i (cl [] ++ l ++ cl []) H nx
        rw [nameB_eq h3]
        simp [cl]
      | tmp t =>
        replace h2 : (ob (evB (.tmp t)) fun g => some fun env l H nx => ob (g env) fun fv => callV pr call fv l H nx) = some g2 := h2
        replace h2 := ob_some h2; obtain ⟨g3, h3, h2⟩ := h2
        cases h2
        show (ob (g3 env) fun fv => callV pr call fv l H nx) = _
        rw [evB_eq h3]
      | const v =>
        replace h2 : (ob (evB (.const v)) fun g => some fun env l H nx => ob (g env) fun fv => callV pr call fv l H nx) = some g2 := h2
        replace h2 := ob_some h2; obtain ⟨g3, h3, h2⟩ := h2
        cases h2
        show (ob (g3 env) fun fv => callV pr call fv l H nx) = _
        rw [evB_eq h3]
      | global v => cases h2
  | _ => cases h; rfl

noncomputable def regB (pr : Pr) (call : Call') (n : Nat) (ops : List Oper) (l : List Oper) : Option (S3 → Option S3) :=
  List.rec (motive := fun _ => Option (S3 → Option S3)) (some fun s => some s) (fun o _ ih => ob ih fun k => ob (opB pr call o.op) fun g => match o.guard with
    | none => (match o.dst with
      | some d => (match Nat.ble (Nat.succ d) n && okN d with
        | true => ob (setB D d) fun st => some fun s => ob (g s.env s.H s.nx) fun x => k ⟨st x.1 s.env, x.2.1, x.2.2⟩
        | false => none)
      | none => some fun s => ob (g s.env s.H s.nx) fun x => k ⟨s.env, x.2.1, x.2.2⟩)
    | some gw => some fun s => ob (guardF ops (some gw) s.env) fun b => Bool.rec (motive := fun _ => Option S3)
        (ob (putE n s.env o.dst (.c undef)) fun env => k ⟨env, s.H, s.nx⟩)
        (ob (g s.env s.H s.nx) fun x => ob (putE n s.env o.dst x.1) fun env => k ⟨env, x.2.1, x.2.2⟩) b) l
theorem regB_eq {pr : Pr} {call : Call'} {n : Nat} {ops : List Oper} : ∀ {l : List Oper} {g : S3 → Option S3}, regB pr call n ops l = some g → ∀ s, g s = regF pr call n ops l s
  | [], g, h, s => by cases h; rfl
  | o :: r, g, h, s => by
    replace h := ob_some (x := regB pr call n ops r) h; obtain ⟨k, h1, h⟩ := h
    replace h := ob_some (x := opB pr call o.op) h; obtain ⟨j, h2, h⟩ := h
    have hk := fun s => regB_eq h1 s
    have hj := fun env H nx => opB_eq h2 env H nx
    show g s = ob (guardF ops o.guard s.env) fun b => Bool.rec (motive := fun _ => Option S3)
      (ob (putE n s.env o.dst (.c undef)) fun env => regF pr call n ops r ⟨env, s.H, s.nx⟩)
      (ob (eop pr call o.op s.env s.H s.nx) fun x => ob (putE n s.env o.dst x.1) fun env => regF pr call n ops r ⟨env, x.2.1, x.2.2⟩) b
    cases hg : o.guard with
    | none =>
      rw [hg] at h
      dsimp only at h
      show g s = ob (eop pr call o.op s.env s.H s.nx) fun x => ob (putE n s.env o.dst x.1) fun env => regF pr call n ops r ⟨env, x.2.1, x.2.2⟩
      cases hd : o.dst with
      | none =>
        rw [hd] at h
        cases h
        show (ob (j s.env s.H s.nx) fun x => k ⟨s.env, x.2.1, x.2.2⟩) = _
        simp only [hj, hk]; rfl
      | some d =>
        rw [hd] at h
        dsimp only at h
        cases hb : (Nat.ble (Nat.succ d) n && okN d) with
        | false => rw [hb] at h; cases h
        | true =>
          rw [hb] at h
          replace h := ob_some (x := setB D d) h; obtain ⟨st, h3, h⟩ := h
          cases h
          show (ob (j s.env s.H s.nx) fun x => k ⟨st x.1 s.env, x.2.1, x.2.2⟩) = ob (eop pr call o.op s.env s.H s.nx) fun x => ob (gd (Nat.ble (Nat.succ d) n && okN d) (some (T.set (some x.1) D s.env d))) fun env => regF pr call n ops r ⟨env, x.2.1, x.2.2⟩
          rw [hb]
          simp only [hj, hk, setB_eq h3]; rfl
    | some gw =>
      rw [hg] at h
      cases h
      show (ob (guardF ops (some gw) s.env) fun b => Bool.rec (motive := fun _ => Option S3)
        (ob (putE n s.env o.dst (.c undef)) fun env => k ⟨env, s.H, s.nx⟩)
        (ob (j s.env s.H s.nx) fun x => ob (putE n s.env o.dst x.1) fun env => k ⟨env, x.2.1, x.2.2⟩) b) = _
      simp only [hj, hk]

noncomputable def cmpC (pr : Pr) (call : Call') (n : Nat) (draws : Draws) (keep : List Nat) (c : Code) : Option (S3 → Option (Ex × S3)) :=
  Code.rec (motive := fun _ => Option (S3 → Option (Ex × S3))) (some fun s => some (.normal, s))
    (fun id ops draw => Bool.rec (motive := fun _ => Option (S3 → Option (Ex × S3))) (some (Option.rec (motive := fun _ => S3 → Option (Ex × S3)) (fun s => ob (regF pr call n ops.toList ops.toList s) fun s' => some (.normal, s')) (fun g s => ob (g s) fun s' => some (.normal, s')) (regB pr call n ops.toList ops.toList))) (some fun s => ob (drwF pr call n draws id ops s) fun s' => some (.normal, s')) draw)
    (fun _ _ iha ihb => ob iha fun fa => ob ihb fun fb => some fun s => thenF (fa s) fb)
    (fun c _ _ iha ihb => ob (evB c) fun g => ob iha fun fa => ob ihb fun fb => some fun s => ob (g s.env) fun v => match v with
      | .c (.bool true) => fa s
      | .c (.bool false) => fb s
      | _ => none)
    (fun id _ ih => ob ih fun f => some fun s => blockF id (f s))
    (fun _ ih => ob ih fun f => some fun s => loopN f 1000000 s)
    (fun _ _ _ _ _ _ => some fun _ => none)
    (fun id => some fun s => some (.exit id, s))
    (fun _ _ => some fun _ => none) (fun _ => some fun _ => none) (fun _ => some fun _ => none)
    (some fun s => some (.ret, s))
    (fun _ => some fun _ => none) c
theorem cmpC_eq {pr : Pr} {call : Call'} {n : Nat} {draws : Draws} {keep : List Nat} : ∀ {c : Code} {g : S3 → Option (Ex × S3)}, cmpC pr call n draws keep c = some g → ∀ s, g s = evC pr call n draws keep c s := by
  intro c
  induction c with
  | skip => intro g h s; cases h; rfl
  | region id ops draw =>
    intro g h s
    cases draw with
    | false =>
      cases h
      show Option.rec (motive := fun _ => S3 → Option (Ex × S3)) _ _ (regB pr call n ops.toList ops.toList) s = ob (regF pr call n ops.toList ops.toList s) fun s' => some (Ex.normal, s')
      cases h1 : regB pr call n ops.toList ops.toList with
      | none => rfl
      | some k =>
        show (ob (k s) fun s' => some (Ex.normal, s')) = ob (regF pr call n ops.toList ops.toList s) fun s' => some (Ex.normal, s')
        rw [regB_eq h1]
    | true => cases h; rfl
  | seq a b iha ihb =>
    intro g h s
    replace h := ob_some (x := cmpC pr call n draws keep a) h; obtain ⟨fa, h1, h⟩ := h
    replace h := ob_some (x := cmpC pr call n draws keep b) h; obtain ⟨fb, h2, h⟩ := h
    cases h
    show thenF (fa s) fb = thenF (evC pr call n draws keep a s) (evC pr call n draws keep b)
    rw [iha h1, show fb = evC pr call n draws keep b from funext (ihb h2)]
  | cond c a b iha ihb =>
    intro g h s
    replace h := ob_some (x := evB c) h; obtain ⟨gc, h0, h⟩ := h
    replace h := ob_some (x := cmpC pr call n draws keep a) h; obtain ⟨fa, h1, h⟩ := h
    replace h := ob_some (x := cmpC pr call n draws keep b) h; obtain ⟨fb, h2, h⟩ := h
    cases h
    rw [show fa = evC pr call n draws keep a from funext (iha h1), show fb = evC pr call n draws keep b from funext (ihb h2)]
    show (ob (gc s.env) _) = ob (evO s.env c) _
    rw [evB_eq h0]
    rfl
  | block id b ih =>
    intro g h s
    replace h := ob_some (x := cmpC pr call n draws keep b) h; obtain ⟨f, h1, h⟩ := h
    cases h
    show blockF id (f s) = blockF id (evC pr call n draws keep b s)
    rw [ih h1]
  | loop b ih =>
    intro g h s
    replace h := ob_some (x := cmpC pr call n draws keep b) h; obtain ⟨f, h1, h⟩ := h
    cases h
    show loopN f 1000000 s = loopN (evC pr call n draws keep b) 1000000 s
    rw [show f = evC pr call n draws keep b from funext (ih h1)]
  | exit id => intro g h s; cases h; rfl
  | ret => intro g h s; cases h; rfl
  | _ => intro g h s; cases h; rfl

noncomputable def endF (pr : Pr) (rs : List ResultVar) (r : Option (Ex × S3)) : Option (V × Mem × Nat) :=
  Option.rec (motive := fun _ => Option (V × Mem × Nat)) none (fun p => Ex.rec (motive := fun _ => Option (V × Mem × Nat)) (ob (resF pr p.2 rs) fun l => some (oneOfV l, p.2.H, p.2.nx)) (fun _ => none) (ob (resF pr p.2 rs) fun l => some (oneOfV l, p.2.H, p.2.nx)) p.1) r
abbrev FnF := List V → Mem → Nat → Option (V × Mem × Nat)
noncomputable def cmpF (pr : Pr) (k : Nat) : Nat → Option FnF :=
  Nat.rec (motive := fun _ => Nat → Option FnF) (fun _ => none) (fun _ ih f => ob (pr.fns.get f) fun fi => ob (cmpC pr (fun f args H nx => ob (ih f) fun h => h args H nx) fi.n fi.draws fi.keep fi.code) fun g =>
    some fun args H nx => ob (enterF fi.n 0 args .nil) fun env => endF pr fi.rs (g ⟨env, H, nx⟩)) k
noncomputable def callS (pr : Pr) (k : Nat) : Call' := fun f args H nx => ob (cmpF pr k f) fun h => h args H nx

section
variable {P : Program} {pr : Pr} {w0 : World} (hok : ∀ t ti, pr.tab.get t = some ti → mkTI P t = some ti)
include hok in
theorem fn_sound {call : Call'} (hc : CallOk P w0 call) (ho : OrcOk P w0 pr) (hm : P.follows .mixedOrders = true) {f : Nat} {fi : FnI} (hfi : FnOk P f fi) {args : List V} {env : Env} {H H' : Mem} {nx nx' : Nat} {v : V} (h2 : enterF fi.n 0 args .nil = some env)
    (h : endF pr fi.rs (evC pr call fi.n fi.draws fi.keep fi.code ⟨env, H, nx⟩) = some (v, H', nx')) :
    (∀ as w, (callFunc f as).run P w = .ok (.enter f as) w) ∧ ∀ ρ w, Ab w0 ρ nx H.get w → V.lts nx args → Calls P f (V.rfs ρ args).toArray w (fun e w' => ∃ r, e = .returned r ∧ Does w0 ρ nx v H' nx' w' r) := by
    refine ⟨hfi.call, fun ρ w hw hlt => ?_⟩
    obtain ⟨fn, hfn, hbody, hn, hrs⟩ := hfi.fn
    refine calls_of_wp hfn hbody ?_
    have hlen := enterF_len h2
    have hlen' : args.length ≤ fi.n := by rcases hlen with g | g; omega; subst g; simp
    obtain ⟨_, henv⟩ := enterF_spec h2 hlen
    have ht : At w0 fi.n ρ ⟨env, H, nx⟩ { tmps := (V.rfs ρ args).toArray ++ Array.replicate (fn.ntmps - (V.rfs ρ args).toArray.size) undef, defers := [] } w := by
      refine ⟨⟨rfl, by simp [rfs_length, hn]; omega, fun t v ht => ?_⟩, hw⟩
      rcases henv t v ht with ⟨j, rfl, hj⟩ | h3
      · have hjl := (List.getElem?_eq_some_iff.1 hj).1
        refine ⟨?_, lts_get hlt hj⟩
        simp only [Nat.zero_add]
        rw [Array.getElem?_append_left (by simp [rfs_length]; omega)]
        rw [List.getElem?_toArray]; exact rfs_get hj
      · cases h3
    cases hev : evC pr call fi.n fi.draws fi.keep fi.code ⟨env, H, nx⟩ with
    | none => rw [hev] at h; cases h
    | some r =>
      obtain ⟨ex, s⟩ := r
      rw [hev] at h
      have hwp := evC_sound hok hc ho hm hev hfi.ok ht
      refine wp_mono hwp ?_
      rintro e a' w' ⟨rfl, ρ', g1, g2, g3⟩
      have fin : (ob (resF pr s fi.rs) fun l => some (oneOfV l, s.H, s.nx)) = some (v, H', nx') → a'.defers = [] ∧ ∃ r, (results fn a'.tmps).run P w' = .ok r w' ∧ ∃ r', Ending.returned r = .returned r' ∧ Does w0 ρ nx v H' nx' w' r' := by
        intro h
        replace h := ob_some h; obtain ⟨l, h3, h⟩ := h
        cases h
        obtain ⟨k1, k2⟩ := resF_spec hok g3 h3
        rw [← hrs] at k2
        refine ⟨g3.sat.defers, _, results_run k2, _, rfl, ρ', ?_, g1, g2, oneOfV_lt k1, g3.ab⟩
        rw [oneOfV_rf]
      cases ex with
      | normal => exact fin h
      | ret => exact fin h
      | exit id => cases h

include hok in
theorem callS_sound (ho : OrcOk P w0 pr) (hm : P.follows .mixedOrders = true) (hf : ∀ f fi, pr.fns.get f = some fi → FnOk P f fi) : ∀ k, CallOk P w0 (callS pr k)
  | 0 => by intro f args H nx v H' nx' h; cases h
  | k + 1 => by
    intro f args H nx v H' nx' h
    replace h := ob_some (x := cmpF pr (k + 1) f) h; obtain ⟨hh, h0, h⟩ := h
    replace h0 := ob_some (x := pr.fns.get f) h0; obtain ⟨fi, h1, h0⟩ := h0
    replace h0 := ob_some (x := cmpC pr (callS pr k) fi.n fi.draws fi.keep fi.code) h0; obtain ⟨g, h3, h0⟩ := h0
    cases h0
    replace h := ob_some (x := enterF fi.n 0 args .nil) h; obtain ⟨env, h2, h⟩ := h
    have hg := cmpC_eq h3 ⟨env, H, nx⟩
    rw [hg] at h
    exact fn_sound hok (callS_sound ho hm hf k) ho hm (hf f fi h1) h2 h

end
end Go.CE

/- SxCeN -/
namespace Go.CE
open Go.RowKit Go.SX

noncomputable def getAll {α : Type} (t : T α) (ks : List Nat) : Option (List (Nat × α)) :=
  List.rec (motive := fun _ => Option (List (Nat × α))) (some []) (fun k _ ih => ob (t.get k) fun x => ob ih fun l => some ((k, x) :: l)) ks
theorem getAll_mem {α : Type} {t : T α} : ∀ {ks : List Nat} {l : List (Nat × α)}, getAll t ks = some l → ∀ {i : Nat} {x : α}, (i, x) ∈ l → t.get i = some x
  | [], l, h, i, x, hm => by cases h; cases hm
  | k :: r, l, h, i, x, hm => by
    replace h := ob_some (x := t.get k) h; obtain ⟨y, h1, h⟩ := h
    replace h := ob_some (x := getAll t r) h; obtain ⟨l', h2, h⟩ := h
    cases h
    rcases List.mem_cons.1 hm with he | hm
    · cases he; exact h1
    · exact getAll_mem h2 hm
/-- what is kept of the state behind a piece of code -/
noncomputable def stepTo (r : Option (Ex × S3)) (ks hs : List Nat) : Option (List (Nat × V) × List (Nat × E) × Nat) :=
  ob r fun p => Ex.rec (motive := fun _ => Option (List (Nat × V) × List (Nat × E) × Nat)) (ob (getAll p.2.env ks) fun l => ob (getAll p.2.H hs) fun m => some (l, m, p.2.nx)) (fun _ => none) none p.1
theorem stepTo_some {r : Option (Ex × S3)} {ks hs : List Nat} {l : List (Nat × V)} {m : List (Nat × E)} {nx : Nat} (h : stepTo r ks hs = some (l, m, nx)) : ∃ s, r = some (.normal, s) ∧ getAll s.env ks = some l ∧ getAll s.H hs = some m ∧ s.nx = nx := by
  replace h := ob_some h; obtain ⟨⟨ex, s⟩, h1, h⟩ := h
  cases ex with
  | normal =>
    replace h := ob_some (x := getAll s.env ks) h; obtain ⟨l', h2, h⟩ := h
    replace h := ob_some (x := getAll s.H hs) h; obtain ⟨m', h3, h⟩ := h
    cases h
    exact ⟨s, h1, h2, h3, rfl⟩
  | exit id => cases h
  | ret => cases h
/-- the pieces of a code -/
def tlS : Code → Code
  | .seq _ b => b
  | c => c
def hdS : Code → Code
  | .seq a _ => a
  | _ => .skip
def isSeq : Code → Bool
  | .seq _ _ => true
  | _ => false
def tailS (k : Nat) (c : Code) : Code := Nat.rec (motive := fun _ => Code) c (fun _ ih => tlS ih) k
noncomputable def runC (pr : Pr) (k n : Nat) (draws : Draws) (keep : List Nat) (c : Code) (s : S3) : Option (Ex × S3) := ob (cmpC pr (callS pr k) n draws keep c) fun g => g s

section
variable {P : Program} {pr : Pr} {w0 : World} {n : Nat} {draws : Draws} {keep : List Nat} {rs : List ResultVar}
def Good (P : Program) (pr : Pr) (w0 : World) (n : Nat) (rs : List ResultVar) (c : Code) (s : S3) : Prop :=
  ∀ ρ a w, At w0 n ρ s a w → c.wp P (fun e a' w' => ∃ ex s' ρ', e = ex.to ∧ At w0 n ρ' s' a' w' ∧ isTrue (endF pr rs (some (ex, s'))) = true) a w
theorem At.sub {ρ : Rho} {s s' : S3} {a : Act} {w : World} (h : At w0 n ρ s a w) (he : ∀ i v, s'.env.get i = some v → s.env.get i = some v) (hh : ∀ i e, s'.H.get i = some e → s.H.get i = some e) (hn : s.nx = s'.nx) : At w0 n ρ s' a w := by
  refine ⟨⟨h.sat.defers, h.sat.size, fun t v ht => ?_⟩, ?_⟩
  · rw [← hn]; exact h.sat.val t v (he t v ht)
  · rw [← hn]; exact h.ab.sub hh

variable (hok : ∀ t ti, pr.tab.get t = some ti → mkTI P t = some ti) (ho : OrcOk P w0 pr) (hm : P.follows .mixedOrders = true) (hf : ∀ f fi, pr.fns.get f = some fi → FnOk P f fi)
include hok ho hm hf
theorem runC_sound {k : Nat} {c : Code} {s s' : S3} {ex : Ex} (h : runC pr k n draws keep c s = some (ex, s')) (hd : okC draws c = true) {ρ : Rho} {a : Act} {w : World} (ht : At w0 n ρ s a w) : c.wp P (Post w0 n ρ s ex s') a w := by
  replace h := ob_some (x := cmpC pr (callS pr k) n draws keep c) h; obtain ⟨g, h1, h⟩ := h
  rw [cmpC_eq h1 s] at h
  exact evC_sound hok (callS_sound hok ho hm hf k) ho hm h hd ht
theorem good_last {k : Nat} {c : Code} {s : S3} (hd : okC draws c = true) (h : isTrue (ob (runC pr k n draws keep c s) fun p => endF pr rs (some p)) = true) : Good P pr w0 n rs c s := by
  intro ρ a w ht
  obtain ⟨H, nx, h1⟩ := isTrue_some h
  replace h1 := ob_some (x := runC pr k n draws keep c s) h1; obtain ⟨⟨ex, s'⟩, h2, h3⟩ := h1
  refine wp_mono (runC_sound hok ho hm hf h2 hd ht) ?_
  rintro e a' w' ⟨rfl, ρ', g1, g2, g3⟩
  exact ⟨ex, s', ρ', rfl, g3, by rw [h3]; rfl⟩
theorem good_seq {k : Nat} {a b : Code} {s : S3} {ks hs : List Nat} {l : List (Nat × V)} {m : List (Nat × E)} {nx : Nat} (hd : okC draws a = true) (hl : okKeys l = true) (hml : okKeys m = true)
    (h : stepTo (runC pr k n draws keep a s) ks hs = some (l, m, nx)) (hb : Good P pr w0 n rs b ⟨T.ofL l, T.ofL m, nx⟩) : Good P pr w0 n rs (.seq a b) s := by
  intro ρ ac w ht
  obtain ⟨s', h1, h2, h3, h4⟩ := stepTo_some h
  refine wp_seq (wp_mono (runC_sound hok ho hm hf h1 hd ht) ?_)
  rintro e a' w' ⟨rfl, ρ', g1, g2, g3⟩
  exact hb ρ' a' w' (g3.sub (fun i v hv => getAll_mem h2 (T.ofL_mem hl hv)) (fun i v hv => getAll_mem h3 (T.ofL_mem hml hv)) h4)
theorem good_cut {k : Nat} {c : Code} {s : S3} {ks hs' : List Nat} {l : List (Nat × V)} {m : List (Nat × E)} {nx : Nat} (hs : isSeq c = true) (hd : okC draws (hdS c) = true) (hl : okKeys l = true) (hml : okKeys m = true)
    (h : stepTo (runC pr k n draws keep (hdS c) s) ks hs' = some (l, m, nx)) (hb : Good P pr w0 n rs (tlS c) ⟨T.ofL l, T.ofL m, nx⟩) : Good P pr w0 n rs c s := by
  cases c with
  | seq a b => exact good_seq hok ho hm hf hd hl hml h hb
  | _ => cases hs
omit hf ho hm in
theorem closed_good {f : Nat} {fi : FnI} (hfi : FnOk P f fi) (h : Good P pr w0 fi.n fi.rs fi.code ⟨.nil, .nil, 0⟩) : Calls P f #[] w0 (fun e w' => e = .returned (.bool true) ∧ Ext w0 w') := by
  obtain ⟨fn, hfn, hbody, hn, hrs⟩ := hfi.fn
  refine calls_of_wp hfn hbody ?_
  refine wp_mono (h (fun _ => (0, 0)) _ w0 ⟨⟨rfl, by simp [hn], fun t v ht => by cases ht⟩, ⟨Ext.refl w0, fun i e he => (by cases he), fun i e he => (by cases he), fun i e he => (by cases he), fun i j e e' h1 => (by cases h1)⟩⟩) ?_
  rintro e a' w' ⟨ex, s, ρ', rfl, g3, hT⟩
  obtain ⟨H', nx', hT⟩ := isTrue_some hT
  have fin : (ob (resF pr s fi.rs) fun l => some (oneOfV l, s.H, s.nx)) = some (.c (.bool true), H', nx') → a'.defers = [] ∧ ∃ r, (results fn a'.tmps).run P w' = .ok r w' ∧ (Ending.returned r = .returned (.bool true) ∧ Ext w0 w') := by
    intro h
    replace h := ob_some h; obtain ⟨l, h3, h⟩ := h
    obtain ⟨k1, k2⟩ := resF_spec hok g3 h3
    rw [← hrs] at k2
    refine ⟨g3.sat.defers, _, results_run k2, ?_⟩
    have h5 : oneOfV l = .c (.bool true) := congrArg (fun x : Option (V × Mem × Nat) => (x.getD (.c undef, .nil, 0)).1) h
    have h6 := oneOfV_rf ρ' l
    rw [h5] at h6
    exact ⟨congrArg Ending.returned h6.symm, g3.ab.ext⟩
  cases ex with
  | normal => exact fin hT
  | ret => exact fin hT
  | exit id => cases hT
end
end Go.CE

/- SxCeO -/
namespace Go.CE
open Go.RowKit Go.SX

end Go.CE

/- SxCeP -/
namespace Go.CE
open Go.RowKit Go.SX

section
variable {P : Program} {pr : Pr} {w0 : World} {n : Nat} {draws : Draws} {keep : List Nat} {rs : List ResultVar} {K : Option (V × Mem × Nat) → Prop} {call : Call'}
variable (hok : ∀ t ti, pr.tab.get t = some ti → mkTI P t = some ti) (ho : OrcOk P w0 pr) (hm : P.follows .mixedOrders = true) (hc : CallOk P w0 call)
include hok ho hm hc
end
end Go.CE

/- SxCeQ -/
namespace Go.CE
open Go.RowKit Go.SX

section
variable {P : Program} {pr : Pr} {w0 : World} {call : Call'} (hok : ∀ t ti, pr.tab.get t = some ti → mkTI P t = some ti) (ho : OrcOk P w0 pr) (hm : P.follows .mixedOrders = true) (hf : ∀ f fi, pr.fns.get f = some fi → FnOk P f fi)
include hok ho hm hf
end
end Go.CE

/- SxCeR -/
namespace Go.CE
open Go.RowKit Go.SX

section
variable {pr : Pr} {call : Call'} {n k : Nat} {ops : List Oper} {brk : List Nat} {R : Option (List Nat)} {H0 : Mem} {d : DS} {draws : Draws} {keep : List Nat}
theorem drawF_alt_of {i : Nat} {t r : DJ} {A B : DS} (hA : (ob (pickF pr call n ops brk R H0 i d) fun d' => drawF pr call n ops brk R H0 t d') = some A) (hB : drawF pr call n ops brk R H0 r d = some B)
    (hs : sameUp n d.s.nx A.log B.log A.s B.s = true) : drawF pr call n ops brk R H0 (.alt i t r) d = some A := by
  rw [drawF_alt, hA, hB]
  show gd (sameUp n d.s.nx A.log B.log A.s B.s) (some A) = some A
  rw [hs]; rfl
theorem drawF_join_of {a r : DJ} {A B : DS} (hA : drawF pr call n ops brk R H0 a d = some A) (hB : drawF pr call n ops brk R H0 r A = some B) : drawF pr call n ops brk R H0 (.join a r) d = some B := by
  rw [drawF_join, hA]; exact hB
theorem drawF_take_of {i : Nat} {t : DJ} {o : Oper} {d' : DS} {x : Option DS} (ho : nth ops i = some o) (hd : takeS pr n ops (hq R H0) o d = some d') (h : drawF pr call n ops brk R H0 t d' = x) : drawF pr call n ops brk R H0 (.take i t) d = x := by
  rw [drawF_take, ho]
  show (ob (takeS pr n ops (hq R H0) o d) fun d' => drawF pr call n ops brk R H0 t d') = x
  rw [hd]; exact h
/-- a row of takes -/
noncomputable def takesF (pr : Pr) (n : Nat) (ops : List Oper) (R : Option (List Nat)) (H0 : Mem) (l : List Nat) (d : DS) : Option DS :=
  List.rec (motive := fun _ => DS → Option DS) (fun d => some d) (fun i _ ih d => ob (nth ops i) fun o => ob (takeS pr n ops (hq R H0) o d) fun d' => ih d') l d
noncomputable def takesT (l : List Nat) (t : DJ) : DJ := List.rec t (fun i _ ih => .take i ih) l
theorem drawF_takes {t : DJ} {x : Option DS} : ∀ {l : List Nat} {d d' : DS}, takesF pr n ops R H0 l d = some d' → drawF pr call n ops brk R H0 t d' = x → drawF pr call n ops brk R H0 (takesT l t) d = x
  | [], d, d', h, hx => by cases h; exact hx
  | i :: r, d, d', h, hx => by
    replace h := ob_some (x := nth ops i) h; obtain ⟨o, h1, h⟩ := h
    replace h := ob_some (x := takeS pr n ops (hq R H0) o d) h; obtain ⟨d2, h2, h⟩ := h
    exact drawF_take_of h1 h2 (drawF_takes h hx)
theorem runC_draw {c : Code} {id : Nat} {op : Array Oper} {t : DJ} {s : S3} {R : Option (List Nat)} {A : DS} (hc : c = .region id op true) (hf : findD id draws = some (brk, true, t)) (hR : some (preR pr n op.toList t s []) = R)
    (hd : drawF pr (callS pr k) n op.toList brk R s.H t ⟨s, []⟩ = some A) : runC pr k n draws keep c s = some (.normal, A.s) := by
  subst hc
  subst hR
  show (ob (drwF pr (callS pr k) n draws id op s) fun s' => some (Ex.normal, s')) = _
  unfold drwF
  rw [hf]
  show (ob (ob (drawF pr (callS pr k) n op.toList brk (some (preR pr n op.toList t s [])) s.H t ⟨s, []⟩) fun d => some d.s) fun s' => some (Ex.normal, s')) = _
  rw [hd]; rfl
end
end Go.CE


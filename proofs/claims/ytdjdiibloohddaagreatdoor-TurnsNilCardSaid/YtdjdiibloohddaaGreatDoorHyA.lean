/- A faster executor: the same answers; what hangs on the program's text alone is reckoned once. -/
import Derived.Test.YtdjdiibloohddaaGreatDoorHxD

/-! ## A faster executor: the same answers; what hangs on the program's text alone is reckoned once. -/
set_option linter.unusedVariables false
namespace Go.Hx
variable [Inp]
set_option linter.unusedSectionVars false

noncomputable def optB {α β : Type} (o : Option α) (k : α → Option β) : Option β := Option.rec (motive := fun _ => Option β) none k o
theorem optB_eq {α β : Type} (o : Option α) (k : α → Option β) : optB o k = match o with
  | some a => k a
  | none => none := by cases o <;> rfl

/-! ### slots -/
structure PF where
  f : Tm → AV
noncomputable def compGet (fuel : Nat) : Nat → PF := Nat.rec (motive := fun _ => Nat → PF) (fun _ => ⟨fun _ => .tup []⟩) (fun _ ih d =>
  Nat.rec (motive := fun _ => PF)
    ⟨fun t => Tr.rec (motive := fun _ => AV) (.tup []) (fun _ w _ _ _ => Option.rec (motive := fun _ => AV) (.tup []) (fun v => v) w) t⟩
    (fun m _ => Bool.rec (motive := fun _ => PF)
      ⟨fun t => Tr.rec (motive := fun _ => AV) (.tup []) (fun _ _ r _ _ => (ih (m / 2)).f r) t⟩
      ⟨fun t => Tr.rec (motive := fun _ => AV) (.tup []) (fun l _ _ _ _ => (ih (m / 2)).f l) t⟩
      (Nat.beq (m % 2) 0)) d) fuel

theorem compGet_eq : ∀ (fuel d : Nat) (tm : Tm), d < fuel → (compGet fuel d).f tm = Tm.at tm d
  | 0, d, tm, h => absurd h (Nat.not_lt_zero _)
  | fuel + 1, 0, tm, h => by
    cases tm with
    | nil => rfl
    | node l w r => cases w <;> rfl
  | fuel + 1, m + 1, tm, h => by
    show (Bool.rec (motive := fun _ => PF) _ _ (Nat.beq (m % 2) 0)).f tm = _
    cases tm with
    | nil => cases Nat.beq (m % 2) 0 <;> rfl
    | node l w r =>
      unfold Tm.at
      rw [Tr.get_succ]
      cases hb : Nat.beq (m % 2) 0 with
      | true =>
        rw [if_pos (beq_yes hb)]
        exact compGet_eq fuel (m / 2) l (by omega)
      | false =>
        rw [if_neg (fun e => by rw [e] at hb; cases hb)]
        exact compGet_eq fuel (m / 2) r (by omega)

structure SF where
  f : Tm → AV → Tm
noncomputable def leftT (w : Option AV) (r : Tm) (x : Tm) : Tm := Tr.rec (motive := fun _ => Tm) (.node .nil w r) (fun a b c _ _ => .node (.node a b c) w r) x
noncomputable def rightT (l : Tm) (w : Option AV) (x : Tm) : Tm := Tr.rec (motive := fun _ => Tm) (.node l w .nil) (fun a b c _ _ => .node l w (.node a b c)) x
theorem leftT_eq (w : Option AV) (r x : Tm) : leftT w r x = .node x w r := by cases x <;> rfl
theorem rightT_eq (l : Tm) (w : Option AV) (x : Tm) : rightT l w x = .node l w x := by cases x <;> rfl
noncomputable def compSet (fuel : Nat) : Nat → SF := Nat.rec (motive := fun _ => Nat → SF) (fun _ => ⟨fun t _ => t⟩) (fun _ ih d =>
  Nat.rec (motive := fun _ => SF)
    ⟨fun t v => Tr.rec (motive := fun _ => Tm) (.node .nil (some v) .nil) (fun l _ r _ _ => .node l (some v) r) t⟩
    (fun m _ => Bool.rec (motive := fun _ => SF)
      ⟨fun t v => Tr.rec (motive := fun _ => Tm) (rightT .nil none ((ih (m / 2)).f .nil v)) (fun l w r _ _ => rightT l w ((ih (m / 2)).f r v)) t⟩
      ⟨fun t v => Tr.rec (motive := fun _ => Tm) (leftT none .nil ((ih (m / 2)).f .nil v)) (fun l w r _ _ => leftT w r ((ih (m / 2)).f l v)) t⟩
      (Nat.beq (m % 2) 0)) d) fuel

theorem compSet_eq : ∀ (fuel d : Nat) (tm : Tm) (v : AV), (compSet fuel d).f tm v = Tr.setF fuel tm d (some v)
  | 0, d, tm, v => rfl
  | fuel + 1, 0, tm, v => by
    cases tm with
    | nil => rfl
    | node l w r => show Tr.node l (some v) r = Tr.mk l (some v) r; rw [Tr.mk_eq]
  | fuel + 1, m + 1, tm, v => by
    show (Bool.rec (motive := fun _ => SF) _ _ (Nat.beq (m % 2) 0)).f tm v = _
    cases tm with
    | nil =>
      rw [Tr.setF_nil]
      cases hb : Nat.beq (m % 2) 0 with
      | true =>
        rw [if_pos (beq_yes hb)]
        show leftT none .nil ((compSet fuel (m / 2)).f .nil v) = _
        rw [leftT_eq, compSet_eq]
      | false =>
        rw [if_neg (fun e => by rw [e] at hb; cases hb)]
        show rightT .nil none ((compSet fuel (m / 2)).f .nil v) = _
        rw [rightT_eq, compSet_eq]
    | node l w r =>
      rw [Tr.setF_node]
      cases hb : Nat.beq (m % 2) 0 with
      | true =>
        rw [if_pos (beq_yes hb)]
        show leftT w r ((compSet fuel (m / 2)).f l v) = _
        rw [leftT_eq, compSet_eq]
      | false =>
        rw [if_neg (fun e => by rw [e] at hb; cases hb)]
        show rightT l w ((compSet fuel (m / 2)).f r v) = _
        rw [rightT_eq, compSet_eq]

structure WF where
  f : Tm → AV → Option Tm
noncomputable def compPut (n : Nat) (dst : Option Tmp) : WF := match dst with
  | none => ⟨fun tm _ => some tm⟩
  | some d => if Nat.ble (d + 1) n then ⟨fun tm v => some ((compSet (d + 1) d).f tm v)⟩ else ⟨fun _ _ => none⟩
theorem compPut_eq (n : Nat) (dst : Option Tmp) (tm : Tm) (v : AV) : (compPut n dst).f tm v = putA tm n dst v := by
  cases dst with
  | none => rfl
  | some d =>
    unfold compPut putA
    simp only
    split
    · show some ((compSet (d + 1) d).f tm v) = _
      rw [compSet_eq]; rfl
    · rfl

/-! ### operands -/
noncomputable def compG (x : Operand) : Option PF := match x with
  | .tmp t => some (compGet (t + 1) t)
  | .const v => match ofV v with
    | some v => some ⟨fun _ => v⟩
    | none => none
  | .global _ => none
  | .func f => some ⟨fun _ => .fn f [] []⟩
theorem compG_eq (x : Operand) (tm : Tm) : evalA tm x = match compG x with
  | some g => some (g.f tm)
  | none => none := by
  cases x with
  | tmp t => show some (Tm.at tm t) = some ((compGet (t + 1) t).f tm); rw [compGet_eq _ _ _ (Nat.lt_succ_self _)]
  | const v => simp only [evalA, compG]; cases ofV v <;> rfl
  | global _ => rfl
  | func f => rfl

/-! ### values -/
inductive OI where
  | no
  | int (k : IntKind) (n : Int)
noncomputable def AV.oint : AV → OI := fun a => AV.rec (motive_1 := fun _ => OI) (motive_2 := fun _ => OI)
  (fun _ => .no) (fun k n => .int k n) (fun _ _ _ => .no) .no (fun _ => .no) (fun _ _ => .no) .no (fun _ _ _ _ _ => .no) .no .no (fun _ => .no) .no
  (fun _ _ _ _ _ => .no) (fun _ => .no) .no (fun _ _ _ => .no) .no (fun _ _ => .no) (fun _ _ => .no) (fun _ => .no) .no (fun _ _ _ _ => .no) a
inductive OP where
  | no
  | ptr (b off : Nat)
noncomputable def AV.optr : AV → OP := fun a => AV.rec (motive_1 := fun _ => OP) (motive_2 := fun _ => OP)
  (fun _ => .no) (fun _ _ => .no) (fun _ _ _ => .no) .no (fun _ => .no) (fun b off => .ptr b off) .no (fun _ _ _ _ _ => .no) .no .no (fun _ => .no) .no
  (fun _ _ _ _ _ => .no) (fun _ => .no) .no (fun _ _ _ => .no) .no (fun _ _ => .no) (fun _ _ => .no) (fun _ => .no) .no (fun _ _ _ _ => .no) a

theorem oint_int (k : IntKind) (n : Int) : (AV.int k n).oint = .int k n := rfl

noncomputable def kIdx (k : IntKind) : Nat := IntKind.rec (motive := fun _ => Nat) 0 1 2 3 4 5 6 7 k
theorem kIdx_eq (j k : IntKind) : Nat.beq (kIdx j) (kIdx k) = kindEq j k := by cases j <;> cases k <;> rfl

/-! ### numbers -/
noncomputable def sgnF (M : Int) (H : Nat) (n : Int) : Int := Int.rec (motive := fun _ => Int) (fun a => Bool.rec (motive := fun _ => Int) (Int.ofNat a) (Int.ofNat a - M) (Nat.ble H a)) (fun a => Int.negSucc a) (n % M)
noncomputable def wrapF (k : IntKind) (n : Int) : Int := IntKind.rec (motive := fun _ => Int → Int) (sgnF 256 128) (sgnF 65536 32768) (sgnF 4294967296 2147483648) (sgnF 18446744073709551616 9223372036854775808)
  (fun n => n % 256) (fun n => n % 65536) (fun n => n % 4294967296) (fun n => n % 18446744073709551616) k n

theorem sgnF_eq (M : Int) (H : Nat) (n : Int) (hM : 0 < M) : sgnF M H n = if n % M ≥ (H : Int) then n % M - M else n % M := by
  unfold sgnF
  have h := Int.emod_nonneg n (Int.ne_of_gt hM)
  cases hr : n % M with
  | ofNat a =>
    show Bool.rec (motive := fun _ => Int) (Int.ofNat a) (Int.ofNat a - M) (Nat.ble H a) = _
    cases hb : Nat.ble H a with
    | true =>
      have := Nat.le_of_ble_eq_true hb
      rw [if_pos (by simp only [Int.ofNat_eq_natCast]; omega)]
    | false =>
      have : ¬ H ≤ a := fun h => by rw [Nat.ble_eq_true_of_le h] at hb; cases hb
      rw [if_neg (by simp only [Int.ofNat_eq_natCast]; omega)]
  | negSucc a => rw [hr] at h; exact absurd h (by simp [Int.negSucc_not_nonneg])

theorem wrapF_eq (k : IntKind) (n : Int) : wrapF k n = k.wrap n := by
  cases k
  case i8 => exact (sgnF_eq 256 128 n (by omega)).trans (by simp [IntKind.wrap, IntKind.bits, IntKind.signed])
  case i16 => exact (sgnF_eq 65536 32768 n (by omega)).trans (by simp [IntKind.wrap, IntKind.bits, IntKind.signed])
  case i32 => exact (sgnF_eq 4294967296 2147483648 n (by omega)).trans (by simp [IntKind.wrap, IntKind.bits, IntKind.signed])
  case i64 => exact (sgnF_eq 18446744073709551616 9223372036854775808 n (by omega)).trans (by simp [IntKind.wrap, IntKind.bits, IntKind.signed])
  all_goals (show n % _ = _; simp [IntKind.wrap, IntKind.bits, IntKind.signed])

noncomputable def ltF (x y : Int) : Bool := Int.rec (motive := fun _ => Bool) (fun a => Int.rec (motive := fun _ => Bool) (fun b => Nat.ble (a + 1) b) (fun _ => false) y) (fun a => Int.rec (motive := fun _ => Bool) (fun _ => true) (fun b => Nat.ble (b + 1) a) y) x
theorem ltF_eq (x y : Int) : ltF x y = decide (x < y) := by
  cases x with
  | ofNat a => cases y with
    | ofNat b =>
      show Nat.ble (a + 1) b = _
      cases hb : Nat.ble (a + 1) b with
      | true => have := Nat.le_of_ble_eq_true hb; symm; simp only [decide_eq_true_eq, Int.ofNat_eq_natCast]; omega
      | false =>
        have : ¬ a + 1 ≤ b := fun h => by rw [Nat.ble_eq_true_of_le h] at hb; cases hb
        symm; simp only [decide_eq_false_iff_not, Int.ofNat_eq_natCast]; omega
    | negSucc b => show false = _; symm; simp only [decide_eq_false_iff_not, Int.ofNat_eq_natCast, Int.negSucc_eq]; omega
  | negSucc a => cases y with
    | ofNat b => show true = _; symm; simp only [decide_eq_true_eq, Int.ofNat_eq_natCast, Int.negSucc_eq]; omega
    | negSucc b =>
      show Nat.ble (b + 1) a = _
      cases hb : Nat.ble (b + 1) a with
      | true => have := Nat.le_of_ble_eq_true hb; symm; simp only [decide_eq_true_eq, Int.negSucc_eq]; omega
      | false =>
        have : ¬ b + 1 ≤ a := fun h => by rw [Nat.ble_eq_true_of_le h] at hb; cases hb
        symm; simp only [decide_eq_false_iff_not, Int.negSucc_eq]; omega

structure RF where
  f : IntKind → Int → IntKind → Int → Option AV
noncomputable def sameK (j k : IntKind) (r : Option AV) : Option AV := Bool.rec (motive := fun _ => Option AV) none r (Nat.beq (kIdx j) (kIdx k))
theorem sameK_eq (j k : IntKind) (r : Option AV) : sameK j k r = if kindEq j k then r else none := by
  unfold sameK; rw [kIdx_eq]; cases kindEq j k <;> rfl

noncomputable def compAr (op : BinOp) : RF := match op with
  | .shl => ⟨fun j a _ b => shift .shl j a b⟩
  | .shr => ⟨fun j a _ b => shift .shr j a b⟩
  | .add => ⟨fun j a k b => sameK j k (some (.int j (wrapF j (a + b))))⟩
  | .sub => ⟨fun j a k b => sameK j k (some (.int j (wrapF j (a - b))))⟩
  | .mul => ⟨fun j a k b => sameK j k (some (.int j (wrapF j (a * b))))⟩
  | .lss => ⟨fun j a k b => sameK j k (some (.bool (ltF a b)))⟩
  | .gtr => ⟨fun j a k b => sameK j k (some (.bool (ltF b a)))⟩
  | op => ⟨fun j a k b => sameK j k (arith op j a b)⟩

structure BF where
  f : AV → AV → Option AV
noncomputable def compB (P : Program) (op : BinOp) (t : TypeId) (ox oy : Operand) : BF :=
  ⟨fun x y => OI.rec (motive := fun _ => Option AV) (binOpA P op t ox oy x y) (fun j a => OI.rec (motive := fun _ => Option AV) (binOpA P op t ox oy x y) (fun k b => (compAr op).f j a k b) y.oint) x.oint⟩

theorem compAr_eq (P : Program) (op : BinOp) (t : TypeId) (ox oy : Operand) (j k : IntKind) (a b : Int) : (compAr op).f j a k b = binOpA P op t ox oy (.int j a) (.int k b) := by
  cases op <;> first
    | rfl
    | (show sameK j k _ = _; rw [sameK_eq]; simp only [binOpA, arith, wrapF_eq, ltF_eq]; done)
    | (show sameK j k _ = _; rw [sameK_eq]; simp only [binOpA]; done)

theorem compB_eq (P : Program) (op : BinOp) (t : TypeId) (ox oy : Operand) (x y : AV) : (compB P op t ox oy).f x y = binOpA P op t ox oy x y := by
  cases x <;> try rfl
  cases y <;> try rfl
  exact compAr_eq P op t ox oy _ _ _ _

end Go.Hx

/-! ## The faster executor: operations. -/
set_option linter.unusedVariables false
set_option linter.unusedSimpArgs false
namespace Go.Hx
variable [Inp]
set_option linter.unusedSectionVars false

/-! ### blocks -/
noncomputable def Tr.getR {α : Type} (t : Tr α) : Nat → Option α := Tr.rec (motive := fun _ => Nat → Option α) (fun _ => none)
  (fun _ v _ ihl ihr n => Nat.rec (motive := fun _ => Option α) v (fun m _ => Bool.rec (motive := fun _ => Option α) (ihr (m / 2)) (ihl (m / 2)) (Nat.beq (m % 2) 0)) n) t
theorem Tr.getR_eq {α : Type} : ∀ (t : Tr α) (n : Nat), Tr.getR t n = t.get n
  | .nil, n => rfl
  | .node l v r, 0 => rfl
  | .node l v r, m + 1 => by
    rw [Tr.get_succ]
    show Bool.rec (motive := fun _ => Option α) (Tr.getR r (m / 2)) (Tr.getR l (m / 2)) (Nat.beq (m % 2) 0) = _
    cases hb : Nat.beq (m % 2) 0 with
    | true => rw [if_pos (beq_yes hb)]; exact Tr.getR_eq l (m / 2)
    | false => rw [if_neg (fun e => by rw [e] at hb; cases hb)]; exact Tr.getR_eq r (m / 2)

noncomputable def nthR {α : Type} (l : List α) : Nat → Option α := List.rec (motive := fun _ => Nat → Option α) (fun _ => none) (fun x _ ih n => Nat.rec (motive := fun _ => Option α) (some x) (fun m _ => ih m) n) l
theorem nthR_eq {α : Type} : ∀ (l : List α) (n : Nat), nthR l n = l[n]?
  | [], n => by cases n <;> rfl
  | x :: l, 0 => rfl
  | x :: l, n + 1 => by show nthR l n = _; rw [nthR_eq l n]; rfl

theorem dropN_take1 : ∀ (l : List AV) (off : Nat), (match dropN off l with
    | some r => takeN 1 r
    | none => none : Option (List AV)) = match l[off]? with
    | some v => some [v]
    | none => none
  | [], 0 => rfl
  | [], off + 1 => rfl
  | x :: l, 0 => rfl
  | x :: l, off + 1 => by simpa [dropN] using dropN_take1 l off

noncomputable def setR (l : List AV) : Nat → AV → Option (List AV) := List.rec (motive := fun _ => Nat → AV → Option (List AV)) (fun _ _ => none)
  (fun x l ih n v => Nat.rec (motive := fun _ => Option (List AV)) (some (v :: l)) (fun m _ => optB (ih m v) fun r => some (x :: r)) n) l
theorem setR_eq : ∀ (l : List AV) (n : Nat) (v : AV), setR l n v = splice l n [v]
  | [], 0, v => rfl
  | [], n + 1, v => rfl
  | x :: l, 0, v => by cases l <;> rfl
  | x :: l, n + 1, v => by
    show optB (setR l n v) _ = _
    rw [setR_eq l n v, optB_eq]
    simp only [splice]
    cases splice l n [v] <;> rfl

inductive OC where
  | no
  | cells (l : List AV) (es : Nat)
noncomputable def ABlk.ocells : ABlk → OC := fun b => ABlk.rec (motive := fun _ => OC) (fun l es => .cells l es) (fun _ _ => .no) (fun _ _ _ _ => .no) (fun _ _ => .no) (fun _ _ _ _ _ _ _ _ _ => .no) (fun _ => .no) b

/-- the cells of a block -/
noncomputable def cellsR (h : AH) (b : Nat) : OC := Option.rec (motive := fun _ => OC) .no (fun x => x.ocells) (Tr.getR h.blk b)
theorem cellsR_eq (h : AH) (b : Nat) : cellsR h b = match h.get b with
    | some (.cells l es) => .cells l es
    | _ => .no := by
  unfold cellsR
  rw [Tr.getR_eq]
  show Option.rec (motive := fun _ => OC) .no (fun x => x.ocells) (h.get b) = _
  cases h.get b with
  | none => rfl
  | some x => cases x <;> rfl

noncomputable def rd1 (h : AH) (b off : Nat) : Option AV := OC.rec (motive := fun _ => Option AV) none (fun l _ => nthR l off) (cellsR h b)
theorem rd1_eq (h : AH) (b off : Nat) : rd h b off 1 = match rd1 h b off with
    | some v => some [v]
    | none => none := by
  unfold rd1 rd
  rw [cellsR_eq]
  cases h.get b with
  | none => rfl
  | some x =>
    cases x <;> first | rfl | skip
    rename_i l es
    show (match dropN off l with
      | some r => takeN 1 r
      | none => none : Option (List AV)) = _
    rw [dropN_take1, ← nthR_eq]

noncomputable def AH.putR (h : AH) (n : Nat) (b : ABlk) : AH := ⟨(h.blk.set n b), h.next⟩

noncomputable def wr1 (h : AH) (b off : Nat) (v : AV) : Option AH := OC.rec (motive := fun _ => Option AH) none (fun l es => optB (setR l off v) fun m => some (h.put b (.cells m es))) (cellsR h b)
theorem wr1_eq (h : AH) (b off : Nat) (v : AV) : wr h b off [v] = wr1 h b off v := by
  unfold wr1 wr
  rw [cellsR_eq]
  cases h.get b with
  | none => rfl
  | some x =>
    cases x <;> first | rfl | skip
    rename_i l es
    show _ = optB (setR l off v) _
    rw [optB_eq, setR_eq]
    simp only []
    cases splice l off [v] <;> rfl

/-! ### pure operations -/
structure XF where
  f : Tm → Option AV
def XF.no : XF := ⟨fun _ => none⟩

inductive OS where
  | no
  | slice (b off len : Nat)
noncomputable def AV.osl : AV → OS := fun a => AV.rec (motive_1 := fun _ => OS) (motive_2 := fun _ => OS)
  (fun _ => .no) (fun _ _ => .no) (fun _ _ _ => .no) .no (fun _ => .no) (fun _ _ => .no) .no (fun b off len _ _ => .slice b off len) .no .no (fun _ => .no) .no
  (fun _ _ _ _ _ => .no) (fun _ => .no) .no (fun _ _ _ => .no) .no (fun _ _ => .no) (fun _ _ => .no) (fun _ => .no) .no (fun _ _ _ _ => .no) a

section
variable (E : Env)

noncomputable def natI (i : Int) (k : Nat → Option AV) : Option AV := Int.rec (motive := fun _ => Option AV) k (fun _ => none) i
noncomputable def ifB (b : Bool) (r : Option AV) : Option AV := Bool.rec (motive := fun _ => Option AV) none r b

noncomputable def ixArr (n es : Nat) (x i : AV) : Option AV := OI.rec (motive := fun _ => Option AV) none (fun _ i => natI i fun a => OP.rec (motive := fun _ => Option AV) none (fun b off => ifB (Nat.ble (a + 1) n) (some (.ptr b (off + a * es)))) x.optr) i.oint
noncomputable def ixSl (es : Nat) (x i : AV) : Option AV := OI.rec (motive := fun _ => Option AV) none (fun _ i => natI i fun a => OS.rec (motive := fun _ => Option AV) none (fun b off len => ifB (Nat.ble (a + 1) len) (some (.ptr b (off + a * es)))) x.osl) i.oint

noncomputable def compIx (t : TypeId) : BF := match E.P.underlying t with
  | some (.array n e) => match tsize E.P e with
    | some es => ⟨fun x i => ixArr n es x i⟩
    | none => ⟨fun x i => indexAddrA E.P t x i⟩
  | some (.slice e) => match tsize E.P e with
    | some es => ⟨fun x i => ixSl es x i⟩
    | none => ⟨fun x i => indexAddrA E.P t x i⟩
  | _ => ⟨fun x i => indexAddrA E.P t x i⟩

theorem compIx_eq (t : TypeId) (x i : AV) : (compIx E t).f x i = indexAddrA E.P t x i := by
  unfold compIx
  split
  · rename_i n e hu
    split
    · rename_i es hs
      show ixArr n es x i = _
      cases i <;> try rfl
      rename_i k i
      cases i with
      | negSucc a => cases x <;> rfl
      | ofNat a =>
        cases x <;> first
          | (simp only [indexAddrA, hu, hs]; split <;> rfl)
          | skip
        rename_i b off
        show ifB (Nat.ble (a + 1) n) _ = _
        simp only [indexAddrA, hu, hs]
        rw [if_pos (by simp)]
        show ifB (Nat.ble (a + 1) n) (some (.ptr b (off + a * es))) = if Nat.ble (a + 1) n then some (.ptr b (off + a * es)) else none
        cases Nat.ble (a + 1) n <;> rfl
    · rfl
  · rename_i e hu
    split
    · rename_i es hs
      show ixSl es x i = _
      cases i <;> try rfl
      rename_i k i
      cases i with
      | negSucc a => cases x <;> rfl
      | ofNat a =>
        cases x <;> first
          | (simp only [indexAddrA, hu, hs]; split <;> rfl)
          | skip
        rename_i b off len kn c
        show ifB (Nat.ble (a + 1) len) _ = _
        simp only [indexAddrA, hu, hs]
        rw [if_pos (by simp)]
        show ifB (Nat.ble (a + 1) len) (some (.ptr b (off + a * es))) = if Nat.ble (a + 1) len then some (.ptr b (off + a * es)) else none
        cases Nat.ble (a + 1) len <;> rfl
    · rfl
  · rfl

structure UF where
  f : AV → Option AV
noncomputable def compConv (s d : TypeId) : UF := match E.P.underlying s, E.P.underlying d with
  | some _, some (.int k) => ⟨fun x => OI.rec (motive := fun _ => Option AV) (convertP E.P s d x) (fun _ n => some (.int k (wrapF k n))) x.oint⟩
  | _, _ => ⟨fun x => convertP E.P s d x⟩
theorem compConv_eq (s d : TypeId) (x : AV) : (compConv E s d).f x = convertP E.P s d x := by
  unfold compConv
  split
  · rename_i u k hs hd
    cases x <;> try rfl
    show some (AV.int k (wrapF k _)) = _
    rw [wrapF_eq]
    simp only [convertP, hs, hd]
  · rfl

noncomputable def compFA (t : TypeId) (f : Nat) : UF := match E.P.underlying t with
  | some (.struct fs) => match fs[f]? with
    | some fl => match tsize E.P fl.type with
      | some n => if Nat.beq n 0 then ⟨fun _ => none⟩ else ⟨fun x => OP.rec (motive := fun _ => Option AV) none (fun b off => some (.ptr b (off + fl.offset))) x.optr⟩
      | none => ⟨fun x => fieldAddrA E.P t x f⟩
    | none => ⟨fun x => fieldAddrA E.P t x f⟩
  | _ => ⟨fun x => fieldAddrA E.P t x f⟩
theorem compFA_eq (t : TypeId) (f : Nat) (x : AV) : (compFA E t f).f x = fieldAddrA E.P t x f := by
  unfold compFA
  split
  · rename_i fs hu
    split
    · rename_i fl hf
      split
      · rename_i n hn
        split
        · rename_i h0
          cases x <;> simp [fieldAddrA, hu, hf, hn, h0]
        · rename_i h0
          cases x <;> first
            | (show none = _; simp [fieldAddrA, hu]; done)
            | skip
          rename_i b off
          show some (AV.ptr b (off + fl.offset)) = _
          simp only [fieldAddrA, hu, hf, hn]
          rw [if_neg h0]
      · rfl
    · rfl
  · rfl

noncomputable def compP (o : Oper) : XF := match o.op with
  | .move x => match compG x with
    | some g => ⟨fun tm => some (g.f tm)⟩
    | none => XF.no
  | .assign x => match compG x with
    | some g => ⟨fun tm => some (g.f tm)⟩
    | none => XF.no
  | .binOp op t x y _ => match compG x, compG y with
    | some g, some k => ⟨fun tm => (compB E.P op t x y).f (g.f tm) (k.f tm)⟩
    | _, _ => XF.no
  | .unOp op _ x => match compG x with
    | some g => ⟨fun tm => unOpA op (g.f tm)⟩
    | none => XF.no
  | .convert s d x => match compG x with
    | some g => ⟨fun tm => (compConv E s d).f (g.f tm)⟩
    | none => XF.no
  | .fieldAddr t x f => match compG x with
    | some g => ⟨fun tm => (compFA E t f).f (g.f tm)⟩
    | none => XF.no
  | .indexAddr t x i => match compG x, compG i with
    | some g, some k => ⟨fun tm => (compIx E t).f (g.f tm) (k.f tm)⟩
    | _, _ => XF.no
  | _ => ⟨fun tm => xpure E tm o⟩

theorem compP_eq (o : Oper) (tm : Tm) : (compP E o).f tm = xpure E tm o := by
  obtain ⟨dst, op, ty, pos, after, guard⟩ := o
  cases op <;> simp only [compP] <;> try rfl
  case move x => simp only [xpure, compG_eq x tm]; cases compG x <;> rfl
  case assign x => simp only [xpure, compG_eq x tm]; cases compG x <;> rfl
  case binOp op t x y _ =>
    simp only [xpure, compG_eq x tm, compG_eq y tm]
    cases compG x with
    | none => rfl
    | some g => cases compG y with
      | none => rfl
      | some k => exact compB_eq E.P op t x y _ _
  case unOp op t x => simp only [xpure, compG_eq x tm]; cases compG x <;> rfl
  case convert s d x =>
    simp only [xpure, compG_eq x tm]
    cases compG x with
    | none => rfl
    | some g => exact compConv_eq E s d _
  case fieldAddr t x f =>
    simp only [xpure, compG_eq x tm]
    cases compG x with
    | none => rfl
    | some g => exact compFA_eq E t f _
  case indexAddr t x i =>
    simp only [xpure, compG_eq x tm, compG_eq i tm]
    cases compG x with
    | none => rfl
    | some g => cases compG i with
      | none => rfl
      | some k => exact compIx_eq E t _ _

/-! ### loads -/
structure YF where
  f : Tm → AH → Option AV
def YF.no : YF := ⟨fun _ _ => none⟩

noncomputable def compRd (o : Oper) : YF := match o.op with
  | .load t a => match compG a with
    | some g => match isAggT E.P t with
      | some false => ⟨fun tm h => OP.rec (motive := fun _ => Option AV) none (fun b off => rd1 h b off) (g.f tm).optr⟩
      | _ => ⟨fun tm h => loadA E.P h t (g.f tm)⟩
    | none => YF.no
  | _ => ⟨fun tm h => xread E tm h o⟩

theorem compRd_eq (o : Oper) (tm : Tm) (h : AH) : (compRd E o).f tm h = xread E tm h o := by
  obtain ⟨dst, op, ty, pos, after, guard⟩ := o
  cases op <;> simp only [compRd] <;> try rfl
  case load t a =>
    simp only [xread, compG_eq a tm]
    cases compG a with
    | none => rfl
    | some g =>
      simp only
      cases ha : isAggT E.P t with
      | none => rfl
      | some b =>
        cases b with
        | true => rfl
        | false =>
          show OP.rec (motive := fun _ => Option AV) none (fun b off => rd1 h b off) (g.f tm).optr = loadA E.P h t (g.f tm)
          generalize g.f tm = p
          cases p <;> try rfl
          rename_i b off
          show rd1 h b off = _
          simp only [loadA, ha, rd1_eq]
          cases rd1 h b off <;> rfl

/-! ### an operation -/
structure DF where
  run : (Task → Option Res) → Tm → AH → Option (AV × AH)
def DF.no : DF := ⟨fun _ _ _ => none⟩

noncomputable def compStore (t : TypeId) : AH → AV → AV → Option AH := fun h p v => storeA E.P h t p v

noncomputable def compA (o : Oper) : DF := match o.op with
  | .store t a v => match compG a, compG v with
    | some g, some k => ⟨fun _ tm h => optB (storeA E.P h t (g.f tm) (k.f tm)) fun h => some (.tup [], h)⟩
    | _, _ => DF.no
  | _ => ⟨fun ih tm h => doneA E ih tm h o⟩

noncomputable def compD (o : Oper) : DF :=
  if isPure E o then ⟨fun _ tm h => optB ((compP E o).f tm) fun v => some (v, h)⟩
  else if isRead E o then ⟨fun _ tm h => optB ((compRd E o).f tm h) fun v => some (v, h)⟩
  else if isAlloc E o then ⟨fun _ tm h => optB (xalloc E tm h.next o) fun r => some (r.1, h.new r.2)⟩
  else compA E o

theorem compD_eq (ih : Task → Option Res) (o : Oper) (tm : Tm) (h : AH) : (compD E o).run ih tm h = doneA E ih tm h o := by
  unfold compD
  split
  · rename_i hp
    show optB ((compP E o).f tm) _ = _
    rw [optB_eq, compP_eq]
    simp only [doneA, xop, hp, if_true]
    cases xpure E tm o <;> rfl
  · rename_i hp
    split
    · rename_i hr
      show optB ((compRd E o).f tm h) _ = _
      rw [optB_eq, compRd_eq]
      simp only [doneA, xop, hp, hr, if_true, Bool.false_eq_true, if_false]
      cases xread E tm h o <;> rfl
    · rename_i hr
      split
      · rename_i ha
        show optB (xalloc E tm h.next o) _ = _
        rw [optB_eq]
        simp only [doneA, xop, hp, hr, ha, if_true, Bool.false_eq_true, if_false]
        cases xalloc E tm h.next o <;> rfl
      · rename_i ha
        obtain ⟨dst, op, ty, pos, after, guard⟩ := o
        cases op <;> try rfl
        case store t a v =>
          simp only [compA, doneA, xop, hp, hr, ha, if_true, Bool.false_eq_true, if_false, xact, compG_eq a tm, compG_eq v tm]
          cases compG a with
          | none => rfl
          | some g => cases compG v with
            | none => rfl
            | some k =>
              show optB _ _ = _
              rw [optB_eq]
              simp only []
              cases storeA E.P h t (g.f tm) (k.f tm) <;> rfl

noncomputable def compS (ops : Array Oper) (o : Oper) : DF := match o.guard with
  | none => compD E o
  | some _ => ⟨fun ih tm h => if wantedA ops tm o then (compD E o).run ih tm h else some (.tup [], h)⟩
theorem compS_eq (ih : Task → Option Res) (ops : Array Oper) (o : Oper) (tm : Tm) (h : AH) : (compS E ops o).run ih tm h = stepA E ih ops tm h o := by
  unfold compS stepA
  split
  · rename_i hg
    have : wantedA ops tm o = true := by simp [wantedA, hg]
    rw [if_pos this]
    exact compD_eq E ih o tm h
  · show (if wantedA ops tm o then (compD E o).run ih tm h else some (.tup [], h)) = _
    rw [compD_eq]

end
end Go.Hx

/-! ## The faster executor as a whole; it answers as the executor does. -/
set_option linter.unusedVariables false
set_option linter.unusedSimpArgs false
namespace Go.Hx
variable [Inp]
set_option linter.unusedSectionVars false

section
variable (E : Env)

structure ZF where
  run : (Task → Option Res) → Tm → AH → Option (Tm × AH)
def ZF.no : ZF := ⟨fun _ _ _ => none⟩

noncomputable def compR (ops : Array Oper) (n : Nat) (l : List Oper) : ZF := List.rec (motive := fun _ => ZF) ⟨fun _ tm h => some (tm, h)⟩
  (fun o _ r => ⟨fun ih tm h => optB ((compS E ops o).run ih tm h) fun p => optB ((compPut n o.dst).f tm p.1) fun tm => r.run ih tm p.2⟩) l
theorem compR_eq (ops : Array Oper) (n : Nat) (ih : Task → Option Res) : ∀ (l : List Oper) (tm : Tm) (h : AH), (compR E ops n l).run ih tm h = runOps E ih ops n l tm h
  | [], tm, h => rfl
  | o :: l, tm, h => by
    show optB ((compS E ops o).run ih tm h) _ = _
    rw [optB_eq, compS_eq]
    simp only [runOps]
    cases stepA E ih ops tm h o with
    | none => rfl
    | some p =>
      show optB ((compPut n o.dst).f tm p.1) _ = _
      rw [optB_eq, compPut_eq]
      simp only []
      cases putA tm n o.dst p.1 with
      | none => rfl
      | some tm' => exact compR_eq ops n ih l tm' p.2

/-! ### regions that draw -/
structure SF2 where
  run : (Task → Option Res) → CS → Option (AV × CS)
noncomputable def cputF (n : Nat) (d : Option Tmp) (c : CS) (v : AV) (nm : Nat) (pend : List Pend) (h : AH) : Option (AV × CS) := optB ((compPut n d).f c.tm v) fun tm => some (v, ⟨nm, pend, tm, h⟩)
theorem cputF_eq (n : Nat) (d : Option Tmp) (c : CS) (v : AV) (nm : Nat) (pend : List Pend) (h : AH) : cputF n d c v nm pend h = cput c n d v nm pend h := by
  unfold cputF cput
  rw [optB_eq, compPut_eq]
  cases putA c.tm n d v <;> rfl

noncomputable def layF (h : AH) (m : Nat) (l : List Pend) : Option AH := List.rec (motive := fun _ => Option AH) (some h) (fun _ _ _ => layAll h (due m l)) l
theorem layF_eq (h : AH) (m : Nat) (l : List Pend) : layF h m l = layAll h (due m l) := by cases l <;> rfl
noncomputable def restF (m : Nat) (l : List Pend) : List Pend := List.rec (motive := fun _ => List Pend) [] (fun _ _ _ => rest m l) l
theorem restF_eq (m : Nat) (l : List Pend) : restF m l = rest m l := by cases l <;> rfl

noncomputable def compCs (ops : Array Oper) (n : Nat) (p : Pt) : SF2 :=
  if p.float then ⟨fun ih c => cstep E ih ops n p c⟩
  else if isMain E p then ⟨fun ih c => optB (layF c.h p.pre c.pend) fun h1 => optB ((compS E ops p.o).run ih c.tm h1) fun r => cputF n p.o.dst c r.1 c.nm (restF p.pre c.pend) r.2⟩
  else ⟨fun ih c => optB ((compS E ops p.o).run ih c.tm c.h) fun r => cputF n p.o.dst c r.1 c.nm c.pend c.h⟩
theorem compCs_eq (ops : Array Oper) (n : Nat) (p : Pt) (ih : Task → Option Res) (c : CS) : (compCs E ops n p).run ih c = cstep E ih ops n p c := by
  unfold compCs
  split
  · rfl
  · rename_i hf
    split
    · rename_i hm
      show optB (layF c.h p.pre c.pend) _ = _
      unfold cstep
      rw [if_neg hf, if_pos hm, optB_eq, layF_eq]
      cases layAll c.h (due p.pre c.pend) with
      | none => rfl
      | some h1 =>
        show optB ((compS E ops p.o).run ih c.tm h1) _ = _
        rw [optB_eq, compS_eq]
        simp only []
        cases stepA E ih ops c.tm h1 p.o with
        | none => rfl
        | some r => simp only [cputF_eq, restF_eq]
    · rename_i hm
      show optB ((compS E ops p.o).run ih c.tm c.h) _ = _
      unfold cstep
      rw [if_neg hf, if_neg hm, optB_eq, compS_eq]
      cases stepA E ih ops c.tm c.h p.o with
      | none => rfl
      | some r => simp only [cputF_eq]

structure CF where
  run : (Task → Option Res) → CS → Option (List Ent × CS)
noncomputable def compCss (ops : Array Oper) (n : Nat) (l : List Pt) : CF := List.rec (motive := fun _ => CF) ⟨fun _ c => some ([], c)⟩
  (fun p _ r => ⟨fun ih c => optB ((compCs E ops n p).run ih c) fun q => optB (r.run ih q.2) fun z => some (⟨p, c, q.1⟩ :: z.1, z.2)⟩) l
theorem compCss_eq (ops : Array Oper) (n : Nat) (ih : Task → Option Res) : ∀ (l : List Pt) (c : CS), (compCss E ops n l).run ih c = csteps E ih ops n l c
  | [], c => rfl
  | p :: l, c => by
    show optB ((compCs E ops n p).run ih c) _ = _
    rw [optB_eq, compCs_eq]
    simp only [csteps]
    cases cstep E ih ops n p c with
    | none => rfl
    | some q =>
      show optB ((compCss E ops n l).run ih q.2) _ = _
      rw [optB_eq, compCss_eq ops n ih l q.2]
      simp only []
      cases csteps E ih ops n l q.2 <;> rfl

def anyReader : List Pt → Bool
  | [] => false
  | p :: l => (isRead E p.o && !p.float && !isMain E p) || anyReader l

noncomputable def andF (a b : Bool) : Bool := Bool.rec (motive := fun _ => Bool) false b a
theorem andF_eq (a b : Bool) : andF a b = (a && b) := by cases a <;> rfl

/-- is the reader's check wanted? -/
noncomputable def rdsF (ops : Array Oper) (last : AH) (es : List Ent) : Bool := Bool.rec (motive := fun _ => Bool) true (readersOK E ops (mainsMask E (pts E ops)) last es es) (anyReader E (pts E ops))

theorem noReaders {ops : Array Oper} {mm : Nat} {last : AH} {all : List Ent} : ∀ {l : List Ent} {ps : List Pt}, l.map (·.p) = ps → anyReader E ps = false → readersOK E ops mm last all l = true
  | [], ps, h, ha => rfl
  | e :: l, [], h, ha => by simp at h
  | e :: l, p :: ps, h, ha => by
    simp only [List.map_cons, List.cons.injEq] at h
    simp only [anyReader, Bool.or_eq_false_iff] at ha
    simp only [readersOK]
    rw [h.1, ha.1, noReaders h.2 ha.2]
    rfl

theorem csteps_pts {ops : Array Oper} {n : Nat} {ih : Task → Option Res} : ∀ {l : List Pt} {c r : CS} {es : List Ent}, csteps E ih ops n l c = some (es, r) → es.map (·.p) = l
  | [], c, r, es, h => by simp [csteps] at h; rw [h.1]; rfl
  | p :: l, c, r, es, h => by
    simp only [csteps] at h
    split at h
    · split at h
      · rename_i h2
        cases h
        simp [csteps_pts h2]
      · cases h
    · cases h

noncomputable def compDr (ops : Array Oper) (n : Nat) : ZF :=
  if regOK E ops then ⟨fun ih tm h => optB ((compCss E ops n (pts E ops)).run ih ⟨h.next, [], tm, ⟨h.blk, h.next + floats (pts E ops)⟩⟩) fun r =>
    Bool.rec (motive := fun _ => Option (Tm × AH)) none (optB (layAll r.2.h r.2.pend) fun h' => some (r.2.tm, h')) (andF (Nat.ble r.2.nm (h.next + floats (pts E ops))) (rdsF E ops r.2.h r.1))⟩
  else ZF.no
theorem compDr_eq (ops : Array Oper) (n : Nat) (ih : Task → Option Res) (tm : Tm) (h : AH) : (compDr E ops n).run ih tm h = drawnA E ih ops n tm h := by
  unfold compDr drawnA
  split
  · show optB ((compCss E ops n (pts E ops)).run ih _) _ = _
    rw [optB_eq, compCss_eq]
    cases hc : csteps E ih ops n (pts E ops) ⟨h.next, [], tm, ⟨h.blk, h.next + floats (pts E ops)⟩⟩ with
    | none => rfl
    | some r =>
      obtain ⟨es, c⟩ := r
      have hrd : rdsF E ops c.h es = readersOK E ops (mainsMask E (pts E ops)) c.h es es := by
        unfold rdsF
        cases ha : anyReader E (pts E ops) with
        | true => rfl
        | false => exact (noReaders E (csteps_pts E hc) ha).symm
      show Bool.rec (motive := fun _ => Option (Tm × AH)) none _ (andF (Nat.ble c.nm _) (rdsF E ops c.h es)) = _
      rw [andF_eq, hrd]
      simp only []
      cases (Nat.ble c.nm (h.next + floats (pts E ops)) && readersOK E ops (mainsMask E (pts E ops)) c.h es es) with
      | false => rfl
      | true =>
        show optB _ _ = _
        rw [optB_eq]
        simp only [if_true]
        cases layAll c.h c.pend <;> rfl
  · rfl

/-! ### code -/
inductive OX where
  | no
  | code (e : Ex) (s : St)
noncomputable def resX (r : Option Res) : OX := Option.rec (motive := fun _ => OX) .no (fun r => Res.rec (motive := fun _ => OX) (fun e s => .code e s) (fun _ _ => .no) r) r
theorem resX_none : resX none = .no := rfl
theorem resX_code (e : Ex) (s : St) : resX (some (.code e s)) = .code e s := rfl
theorem resX_call (v : AV) (h : AH) : resX (some (.call v h)) = .no := rfl

structure KF where
  run : (Task → Option Res) → Cx → St → Option Res
def KF.no : KF := ⟨fun _ _ _ => none⟩

inductive OB where
  | no
  | bool (b : Bool)
noncomputable def AV.obool : AV → OB := fun a => AV.rec (motive_1 := fun _ => OB) (motive_2 := fun _ => OB)
  (fun b => .bool b) (fun _ _ => .no) (fun _ _ _ => .no) .no (fun _ => .no) (fun _ _ => .no) .no (fun _ _ _ _ _ => .no) .no .no (fun _ => .no) .no
  (fun _ _ _ _ _ => .no) (fun _ => .no) .no (fun _ _ _ => .no) .no (fun _ _ => .no) (fun _ _ => .no) (fun _ => .no) .no (fun _ _ _ _ => .no) a

noncomputable def normF (r : Option Res) (k : St → Option Res) : Option Res := OX.rec (motive := fun _ => Option Res) none (fun e s => Ex.rec (motive := fun _ => Option Res) (k s) (fun id => some (.code (.exit id) s)) (fun l => some (.code (.goto l) s)) (some (.code .ret s)) e) (resX r)

noncomputable def compK (c : Code) : KF := match c with
  | .skip => ⟨fun _ _ s => some (.code .normal s)⟩
  | .label _ => ⟨fun _ _ s => some (.code .normal s)⟩
  | .seq a b => ⟨fun ih cx s => normF (ih (.code a cx s)) fun s => ih (.code b cx s)⟩
  | .cond c a b => match compG c with
    | some g => ⟨fun ih cx s => OB.rec (motive := fun _ => Option Res) none (fun t => Bool.rec (motive := fun _ => Option Res) (ih (.code b cx s)) (ih (.code a cx s)) t) (g.f s.tm).obool⟩
    | none => KF.no
  | .block id c => ⟨fun ih cx s => OX.rec (motive := fun _ => Option Res) none (fun e s => Ex.rec (motive := fun _ => Option Res) (some (.code .normal s)) (fun id' => Bool.rec (motive := fun _ => Option Res) (some (.code (.exit id') s)) (some (.code .normal s)) (Nat.beq id' id)) (fun l => some (.code (.goto l) s)) (some (.code .ret s)) e) (resX (ih (.code c cx s)))⟩
  | .loop c => ⟨fun ih cx s => normF (ih (.code c cx s)) fun s => ih (.code (.loop c) cx s)⟩
  | .exit id => ⟨fun _ _ s => some (.code (.exit id) s)⟩
  | .goto l => ⟨fun _ _ s => some (.code (.goto l) s)⟩
  | .ret => ⟨fun _ _ s => some (.code .ret s)⟩
  | .region _ ops draw => if draw then ⟨fun ih cx s => optB ((compDr E ops cx.n).run ih s.tm s.h) fun r => some (.code .normal ⟨r.1, s.dfr, r.2⟩)⟩
    else ⟨fun ih cx s => optB ((compR E ops cx.n ops.toList).run ih s.tm s.h) fun r => some (.code .normal ⟨r.1, s.dfr, r.2⟩)⟩
  | .rangeFunc f ps asg b => ⟨fun ih cx s => rangeFn E ih cx s f ps asg b⟩
  | .scope _ => KF.no
  | .refuse _ => KF.no

theorem normF_eq (r : Option Res) (k : St → Option Res) : normF r k = match r with
    | some (.code .normal s) => k s
    | some (.code e s) => some (.code e s)
    | _ => none := by
  cases r with
  | none => rfl
  | some r => cases r with
    | call v h => rfl
    | code e s => cases e <;> rfl

theorem compK_eq (ih : Task → Option Res) (c : Code) (cx : Cx) (s : St) : (compK E c).run ih cx s = body E ih (.code c cx s) := by
  cases c <;> simp only [compK] <;> try rfl
  case seq a b => exact normF_eq _ _
  case loop c => exact normF_eq _ _
  case cond c a b =>
    simp only [body, compG_eq c s.tm]
    cases compG c with
    | none => rfl
    | some g =>
      show OB.rec (motive := fun _ => Option Res) none _ (g.f s.tm).obool = _
      simp only []
      cases g.f s.tm <;> try rfl
      rename_i b
      cases b <;> rfl
  case block id c =>
    simp only [body]
    cases ih (.code c cx s) with
    | none => rfl
    | some r => cases r with
      | call v h => rfl
      | code e s =>
        cases e <;> try rfl
        rename_i id'
        show Bool.rec (motive := fun _ => Option Res) (some (.code (.exit id') s)) (some (.code .normal s)) (Nat.beq id' id) = if Nat.beq id' id then some (.code .normal s) else some (.code (.exit id') s)
        cases Nat.beq id' id <;> rfl
  case region id ops draw =>
    simp only [body]
    cases draw with
    | true =>
      simp only [if_true]
      rw [optB_eq, compDr_eq]
      cases drawnA E ih ops cx.n s.tm s.h <;> rfl
    | false =>
      simp only [Bool.false_eq_true, if_false]
      rw [optB_eq, compR_eq]
      cases runOps E ih ops cx.n ops.toList s.tm s.h <;> rfl

/-! ### calls -/
structure LF where
  run : (Task → Option Res) → List AV → AH → Option Res
def LF.no : LF := ⟨fun _ _ _ => none⟩

noncomputable def leaveF (fn : Func) (s : St) : Option Res := optB (shutA s.dfr s.h) fun h => optB (resultA E s.tm h fn.results.toList) fun l => some (List.rec (motive := fun _ => Res) (.call (.tup l) h) (fun v r _ => List.rec (motive := fun _ => Res) (.call v h) (fun _ _ _ => .call (.tup l) h) r) l)
theorem leaveF_eq (fn : Func) (s : St) : leaveF E fn s = leaveA E fn s := by
  unfold leaveF leaveA
  rw [optB_eq]
  cases shutA s.dfr s.h with
  | none => rfl
  | some h =>
    show optB _ _ = _
    rw [optB_eq]
    simp only []
    cases resultA E s.tm h fn.results.toList with
    | none => rfl
    | some l => cases l with
      | nil => rfl
      | cons v l => cases l <;> rfl

noncomputable def endF (fn : Func) (r : Option Res) : Option Res := OX.rec (motive := fun _ => Option Res) none (fun e s => Ex.rec (motive := fun _ => Option Res) (leaveF E fn s) (fun _ => none) (fun _ => none) (leaveF E fn s) e) (resX r)
theorem endF_eq (fn : Func) (r : Option Res) : endF E fn r = match r with
    | some (.code .normal s) => leaveA E fn s
    | some (.code .ret s) => leaveA E fn s
    | _ => none := by
  cases r with
  | none => rfl
  | some r => cases r with
    | call v h => rfl
    | code e s => cases e <;> first | rfl | exact leaveF_eq E fn s

noncomputable def compF (f : FuncId) : LF := match E.P.funcs[f]? with
  | some fn => match fn.body with
    | some c => ⟨fun ih args h => if Nat.ble args.length fn.ntmps then endF E fn (ih (.code c ⟨f, none, fn.ntmps⟩ ⟨Tr.ofListFrom args 0 .nil, [], h⟩)) else none⟩
    | none => LF.no
  | none => LF.no

noncomputable def callF (ih : Task → Option Res) (f : FuncId) (args : List AV) (h : AH) : Option Res :=
  Option.rec (motive := fun _ => Option Res) ((compF E f).run ih args h) (fun r => Option.rec (motive := fun _ => Option Res) none (fun p => some (.call p.1 p.2)) r) (E.sum f args h)
theorem callF_eq (ih : Task → Option Res) (f : FuncId) (args : List AV) (h : AH) : callF E ih f args h = body E ih (.call f args h) := by
  unfold callF
  simp only [body]
  cases E.sum f args h with
  | some r => cases r with
    | none => rfl
    | some p => rfl
  | none =>
    show (compF E f).run ih args h = _
    unfold compF
    cases E.P.funcs[f]? with
    | none => rfl
    | some fn =>
      simp only []
      cases fn.body with
      | none => rfl
      | some c =>
        simp only []
        split
        · exact endF_eq E fn _
        · rfl

noncomputable def runF (n : Nat) : Task → Option Res :=
  Nat.rec (motive := fun _ => Task → Option Res) (fun _ => none) (fun _ ih t => Task.rec (motive := fun _ => Option Res) (fun c cx s => (compK E c).run ih cx s) (fun f a h => callF E ih f a h) t) n

/-- THE FASTER EXECUTOR ANSWERS AS THE EXECUTOR -/
theorem runF_eq : ∀ n, runF E n = run E n
  | 0 => rfl
  | n + 1 => by
    funext t
    have ih := runF_eq n
    cases t with
    | code c cx s =>
      show (compK E c).run (runF E n) cx s = body E (run E n) (.code c cx s)
      rw [ih, compK_eq]
    | call f a h =>
      show callF E (runF E n) f a h = body E (run E n) (.call f a h)
      rw [ih, callF_eq]

end
end Go.Hx

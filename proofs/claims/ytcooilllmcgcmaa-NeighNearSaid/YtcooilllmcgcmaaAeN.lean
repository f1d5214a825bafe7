/- Arithmetic, comparisons. No program in sight. -/
import Derived.Test.YtcooilllmcgcmaaAeM
namespace Go.Proofs.Ytcooilllmcgcmaa.Ae
open Go
theorem pw_eq (n : Nat) : pw n = 2 ^ n := by
  unfold pw
  split <;> first | rfl | (decide)
theorem xor_u8 (x y : UInt8) : bits .xor .u8 (x.toNat : Int) (y.toNat : Int) = ((x ^^^ y).toNat : Int) := by
  rw [u8_xor_nat _ _ x.toNat_lt y.toNat_lt, UInt8.toNat_xor]
theorem and_u8 (x y : UInt8) : bits .and .u8 (x.toNat : Int) (y.toNat : Int) = ((x &&& y).toNat : Int) := by
  rw [u8_and_nat _ _ x.toNat_lt y.toNat_lt, UInt8.toNat_and]
theorem or_u8 (x y : UInt8) : bits .or .u8 (x.toNat : Int) (y.toNat : Int) = ((x ||| y).toNat : Int) := by
  rw [u8_or_nat _ _ x.toNat_lt y.toNat_lt, UInt8.toNat_or]
theorem not_u8 (y : UInt8) : (~~~y).toNat = 255 - y.toNat := by
  rw [UInt8.toNat_not]; rfl
theorem andNot_u8 (x y : UInt8) : bits .andNot .u8 (x.toNat : Int) (y.toNat : Int) = ((x &&& ~~~y).toNat : Int) := by
  rw [u8_andNot_nat _ _ x.toNat_lt y.toNat_lt, UInt8.toNat_and, not_u8]
section
variable {P : Program} {R : Nat → Prop} {w : World} {m : Mp} {H : Hp}

theorem ret_byte {x : UInt8} {n : Int} (h : n = (x.toNat : Int)) : VR R w m H (.byte x) (.int .u8 n) := by rw [h]; exact .byte x

theorem arithF_sound {op : BinOp} {k : IntKind} {x y : Int} {c : Option Prop} {q : AVal} (h : arithF op k x y = some (c, q)) (hc : ∀ p, c = some p → p) (t : TypeId) (w' : World) :
    ∃ z, (binOp op t (.int k x) (.int k y)).run P w' = .ok z w' ∧ VR R w m H q z := by
  cases op <;> simp only [arithF, reduceCtorEq] at h
  case add =>
    split at h
    · rename_i h64; obtain rfl := is64_eq h64
      simp only [Option.some.injEq, Prod.mk.injEq] at h; obtain ⟨rfl, rfl⟩ := h
      exact ⟨_, by simp [binOp, Op.intArith, wrap_I64 (hc _ rfl)] <;> rfl, .int _ _⟩
    · simp only [Option.some.injEq, Prod.mk.injEq] at h; obtain ⟨rfl, rfl⟩ := h
      exact ⟨_, by simp [binOp, Op.intArith] <;> rfl, .int _ _⟩
  case sub =>
    split at h
    · rename_i h64; obtain rfl := is64_eq h64
      simp only [Option.some.injEq, Prod.mk.injEq] at h; obtain ⟨rfl, rfl⟩ := h
      exact ⟨_, by simp [binOp, Op.intArith, wrap_I64 (hc _ rfl)] <;> rfl, .int _ _⟩
    · simp only [Option.some.injEq, Prod.mk.injEq] at h; obtain ⟨rfl, rfl⟩ := h
      exact ⟨_, by simp [binOp, Op.intArith] <;> rfl, .int _ _⟩
  case mul =>
    split at h
    · rename_i h64; obtain rfl := is64_eq h64
      simp only [Option.some.injEq, Prod.mk.injEq] at h; obtain ⟨rfl, rfl⟩ := h
      exact ⟨_, by simp [binOp, Op.intArith, wrap_I64 (hc _ rfl)] <;> rfl, .int _ _⟩
    · simp only [Option.some.injEq, Prod.mk.injEq] at h; obtain ⟨rfl, rfl⟩ := h
      exact ⟨_, by simp [binOp, Op.intArith] <;> rfl, .int _ _⟩
  case quo =>
    split at h
    · rename_i h64; obtain rfl := is64_eq h64
      simp only [Option.some.injEq, Prod.mk.injEq] at h; obtain ⟨rfl, rfl⟩ := h
      obtain ⟨p1, p2⟩ := hc _ rfl
      exact ⟨_, by simp [binOp, Op.intDiv, p1, wrap_I64 p2] <;> rfl, .int _ _⟩
    · simp only [Option.some.injEq, Prod.mk.injEq] at h; obtain ⟨rfl, rfl⟩ := h
      exact ⟨_, by simp [binOp, Op.intDiv, hc _ rfl] <;> rfl, .int _ _⟩
  case rem =>
    simp only [Option.some.injEq, Prod.mk.injEq] at h; obtain ⟨rfl, rfl⟩ := h
    exact ⟨_, by simp [binOp, Op.intDiv, hc _ rfl] <;> rfl, .int _ _⟩
  all_goals
    simp only [Option.some.injEq, Prod.mk.injEq] at h; obtain ⟨rfl, rfl⟩ := h
    exact ⟨_, by simp [binOp, intBits_and, intBits_or, intBits_xor, intBits_andNot] <;> rfl, .int _ _⟩
theorem cmpF_sound {op : BinOp} {k : IntKind} {x y : Int} {r : Bool} (h : cmpF op x y = some r) (t : TypeId) (w' : World) : (binOp op t (.int k x) (.int k y)).run P w' = .ok (.bool r) w' := by
  cases op <;> simp only [cmpF, Option.some.injEq, reduceCtorEq] at h <;> subst h <;> simp [binOp, Op.intCmp] <;> first | rfl | (rw [Bool.eq_iff_iff]; simp)
theorem byteF_sound {op : BinOp} {x y : UInt8} {c : Option Prop} {q : AVal} (hs : isShift op = false) (h : byteF op x y = some (c, q)) (hc : ∀ p, c = some p → p) (t : TypeId) (w' : World) :
    ∃ z, (binOp op t (.int .u8 (x.toNat : Int)) (.int .u8 (y.toNat : Int))).run P w' = .ok z w' ∧ VR R w m H q z := by
  have hx := x.toNat_lt
  have hy := y.toNat_lt
  cases op <;> simp only [byteF, reduceCtorEq, Option.some.injEq, Prod.mk.injEq] at h
  all_goals (obtain ⟨rfl, rfl⟩ := h)
  case add =>
    exact ⟨_, by simp [binOp, Op.intArith] <;> rfl, ret_byte (by rw [IntKind.wrap_u8', UInt8.toNat_add]; omega)⟩
  case sub =>
    exact ⟨_, by simp [binOp, Op.intArith] <;> rfl, ret_byte (by rw [IntKind.wrap_u8', UInt8.toNat_sub]; omega)⟩
  case mul =>
    exact ⟨_, by simp [binOp, Op.intArith] <;> rfl, ret_byte (by rw [IntKind.wrap_u8', UInt8.toNat_mul]; simp [Int.natCast_mul])⟩
  case quo =>
    have p := hc _ rfl
    refine ⟨_, by simp [binOp, Op.intDiv, p] <;> rfl, ret_byte ?_⟩
    have : x.toNat / y.toNat ≤ x.toNat := Nat.div_le_self _ _
    rw [IntKind.wrap_u8', UInt8.toNat_ofNat', ← Int.natCast_ediv]
    omega
  case rem =>
    have p := hc _ rfl
    refine ⟨_, by simp [binOp, Op.intDiv, p] <;> rfl, ret_byte ?_⟩
    have : x.toNat % y.toNat < y.toNat := Nat.mod_lt _ (by omega)
    rw [UInt8.toNat_ofNat', Int.tmod_eq_emod_of_nonneg (by omega), ← Int.natCast_emod]
    omega
  case and => exact ⟨_, by simp [binOp, intBits_and] <;> rfl, ret_byte (and_u8 x y)⟩
  case or => exact ⟨_, by simp [binOp, intBits_or] <;> rfl, ret_byte (or_u8 x y)⟩
  case xor => exact ⟨_, by simp [binOp, intBits_xor] <;> rfl, ret_byte (xor_u8 x y)⟩
  case andNot => exact ⟨_, by simp [binOp, intBits_andNot] <;> rfl, ret_byte (andNot_u8 x y)⟩
  case eql =>
    refine ⟨_, by simp [binOp, Op.intCmp] <;> rfl, ?_⟩
    have : ((x.toNat : Int) == (y.toNat : Int)) = decide (x = y) := by
      rw [Bool.eq_iff_iff]; simp only [beq_iff_eq, decide_eq_true_eq]
      exact ⟨fun h => UInt8.toNat_inj.1 (by omega), fun h => by rw [h]⟩
    rw [this]; exact .bool _
  case neq =>
    refine ⟨_, by simp [binOp, Op.intCmp] <;> rfl, ?_⟩
    have : ((x.toNat : Int) != (y.toNat : Int)) = !decide (x = y) := by
      rw [Bool.eq_iff_iff]; simp only [bne_iff_ne, Bool.not_eq_true', decide_eq_false_iff_not]
      exact ⟨fun h e => h (by rw [e]), fun h e => h (UInt8.toNat_inj.1 (by omega))⟩
    rw [this]; exact .bool _
  all_goals
    refine ⟨_, by simp [binOp, Op.intCmp] <;> rfl, ?_⟩
    first
      | exact .bool _
      | (rw [show (decide ((x.toNat : Int) < (y.toNat : Int))) = decide (x.toNat < y.toNat) by rw [Bool.eq_iff_iff]; simp]; exact .bool _)
      | (rw [show (decide ((x.toNat : Int) ≤ (y.toNat : Int))) = decide (x.toNat ≤ y.toNat) by rw [Bool.eq_iff_iff]; simp]; exact .bool _)
      | (rw [show (decide ((y.toNat : Int) < (x.toNat : Int))) = decide (y.toNat < x.toNat) by rw [Bool.eq_iff_iff]; simp]; exact .bool _)
      | (rw [show (decide ((y.toNat : Int) ≤ (x.toNat : Int))) = decide (y.toNat ≤ x.toNat) by rw [Bool.eq_iff_iff]; simp]; exact .bool _)
      | skip

theorem shiftF_sound {op : BinOp} {k k' : IntKind} {x n : Int} {c : Option Prop} {q : AVal} (h : shiftF op k x n = some (c, q)) (hc : ∀ p, c = some p → p) (t : TypeId) (w' : World) :
    ∃ z, (binOp op t (.int k x) (.int k' n)).run P w' = .ok z w' ∧ VR R w m H q z := by
  cases op <;> simp only [shiftF, reduceCtorEq] at h
  case shl =>
    split at h
    · rename_i h64; obtain rfl := is64_eq h64
      simp only [Option.some.injEq, Prod.mk.injEq] at h; obtain ⟨rfl, rfl⟩ := h
      obtain ⟨p1, p2, p3⟩ := hc _ rfl
      rw [pw_eq] at p3 ⊢
      refine ⟨_, ?_, .int _ _⟩
      show (Op.shift .shl _ _ k' _).run P w' = _
      rw [shift_shl _ _ _ _ p1 (by simp [IntKind.bits]; omega), wrap_I64 p3]; rfl
    · simp only [Option.some.injEq, Prod.mk.injEq] at h; obtain ⟨rfl, rfl⟩ := h
      obtain ⟨p1, p2⟩ := hc _ rfl
      rw [pw_eq]
      refine ⟨_, ?_, .int _ _⟩
      show (Op.shift .shl _ _ k' _).run P w' = _
      rw [shift_shl _ _ _ _ p1 (by omega)]; rfl
  case shr =>
    simp only [Option.some.injEq, Prod.mk.injEq] at h; obtain ⟨rfl, rfl⟩ := h
    obtain ⟨p1, p2⟩ := hc _ rfl
    rw [pw_eq]
    refine ⟨_, ?_, .int _ _⟩
    show (Op.shift .shr _ _ k' _).run P w' = _
    rw [shift_shr _ _ _ _ p1 (by omega)]; rfl
theorem shiftB_sound {op : BinOp} {k' : IntKind} {x : UInt8} {n : Int} {c : Option Prop} {q : AVal} (h : shiftB op x n = some (c, q)) (hc : ∀ p, c = some p → p) (t : TypeId) (w' : World) :
    ∃ z, (binOp op t (.int .u8 (x.toNat : Int)) (.int k' n)).run P w' = .ok z w' ∧ VR R w m H q z := by
  cases op <;> simp only [shiftB, reduceCtorEq, Option.some.injEq, Prod.mk.injEq] at h
  case shl =>
    obtain ⟨rfl, rfl⟩ := h
    obtain ⟨p1, p2⟩ := hc _ rfl
    refine ⟨_, ?_, ret_byte (b8_wrap _).symm⟩
    show (Op.shift .shl _ _ k' _).run P w' = _
    rw [shift_shl _ _ _ _ p1 (by simp [IntKind.bits]; omega), pw_eq]; rfl
  case shr =>
    obtain ⟨rfl, rfl⟩ := h
    obtain ⟨p1, p2⟩ := hc _ rfl
    refine ⟨_, ?_, ret_byte (n := (x.toNat : Int) / 2 ^ n.toNat) ?_⟩
    · show (Op.shift .shr _ _ k' _).run P w' = _
      rw [shift_shr _ _ _ _ p1 (by simp [IntKind.bits]; omega)]; rfl
    · rw [b8_wrap, IntKind.wrap_u8', pw_eq]
      have hx := x.toNat_lt
      have h1 : (0 : Int) ≤ (x.toNat : Int) / 2 ^ n.toNat := Int.ediv_nonneg (by omega) (Int.pow_nonneg (by decide))
      have h2 : (x.toNat : Int) / 2 ^ n.toNat ≤ (x.toNat : Int) := Int.ediv_le_self _ (by omega)
      omega
theorem strF_sound {op : BinOp} {x y : List UInt8} {c : Option Prop} {q : AVal} (h : strF op x y = some (c, q)) (hc : ∀ p, c = some p → p) (t : TypeId) (w' : World) :
    ∃ z, (binOp op t (.string ⟨x.toArray⟩) (.string ⟨y.toArray⟩)).run P w' = .ok z w' ∧ VR R w m H q z := by
  have e1 : (⟨x.toArray⟩ : ByteArray).toList = x := by rw [ByteArray.toList_eq]
  have e2 : (⟨y.toArray⟩ : ByteArray).toList = y := by rw [ByteArray.toList_eq]
  have s1 : (⟨x.toArray⟩ : ByteArray).size = x.length := by show x.toArray.size = _; simp
  have s2 : (⟨y.toArray⟩ : ByteArray).size = y.length := by show y.toArray.size = _; simp
  have d : (x == y) = decide (x = y) := by rw [Bool.eq_iff_iff]; simp
  cases op <;> simp only [strF, reduceCtorEq, Option.some.injEq, Prod.mk.injEq] at h
  case add =>
    obtain ⟨rfl, rfl⟩ := h
    have p := hc _ rfl
    refine ⟨.string ⟨(x ++ y).toArray⟩, ?_, .str _ (by simp; exact p)⟩
    have : ¬ ((9223372036854775807 : Int) < (x.length : Int) + (y.length : Int)) := by unfold big at p; omega
    have e3 : (⟨x.toArray⟩ : ByteArray) ++ ⟨y.toArray⟩ = ⟨(x ++ y).toArray⟩ := by
      apply ByteArray.ext; rw [ByteArray.data_append]; simp
    simp [binOp, Op.stringOp, s1, s2, IntKind.max, IntKind.signed, IntKind.bits, this]
    rw [e3]
  all_goals
    obtain ⟨rfl, rfl⟩ := h
    refine ⟨_, by simp [binOp, Op.stringOp, e1, e2] <;> rfl, ?_⟩
    first | exact .bool _ | (rw [d]; exact .bool _) | (simp only [d]; exact .bool _) | (simp only [d, ← Bool.not_or]; exact .bool _)

theorem guard_off {D : Nat} : ∀ (d : Nat) (t : TypeId) (ks : List Nat), d ≤ D → eqN P d t = some ks → P.eqGuardType D t = false := by
  induction D with
  | zero => intro d t ks hd h; obtain rfl : d = 0 := by omega
            simp [eqN] at h
  | succ D ih =>
    intro d t ks hd h
    cases d with
    | zero => simp [eqN] at h
    | succ d =>
      simp only [eqN] at h
      split at h
      · rename_i hu; simp [Program.eqGuardType, hu]
      · rename_i hu; simp [Program.eqGuardType, hu]
      · rename_i hu; simp [Program.eqGuardType, hu]
      · rename_i fs hu
        cases hst : P.stoodInHeld t with
        | true => rw [hst] at h; cases h
        | false =>
        rw [hst] at h
        simp only [Bool.not_false, cond_true] at h
        have key : ∀ (l : List Field) (acc K : List Nat), eqFields P (eqN P d) l acc = some K → ∀ f ∈ l, P.eqGuardType D f.type = false := by
          intro l
          induction l with
          | nil => intro acc K _ f hf; simp at hf
          | cons g l ihl =>
            intro acc K hK f hf
            simp only [eqFields] at hK
            split at hK
            case h_2 => cases hK
            rename_i ks' n hks hsz
            cases hck : (Nat.beq ks'.length n && Nat.beq g.offset acc.length && g.name != "_") with
            | false => rw [hck] at hK; cases hK
            | true =>
            rw [hck] at hK
            rcases List.mem_cons.1 hf with rfl | hf
            · exact ih d _ ks' (by omega) hks
            · exact ihl _ _ (by simpa using hK) f hf
        have := key _ _ _ h
        simp only [Program.eqGuardType, hu]
        rw [← Array.any_toList]
        rw [List.any_eq_false]
        intro f hf
        simp [this f hf]
      · rename_i n e hu
        split at h
        · rename_i ks' k' hks hsz
          simp only [Program.eqGuardType, hu]
          exact ih d e ks' (by omega) hks
        · cases h
      · cases h

theorem eqF_sound {t : TypeId} {x y : AVal} {u v : Value} {r : Bool} (hx : VR R w m H x u) (hy : VR R w m H y v) (h : eqF P t x y = some r) (xo yo : Operand) (w' : World) :
    (Op.equal t u v).run P w' = .ok r w' ∧ (eqGuard .eql t xo yo u v).run P w' = .ok () w' ∧ (eqGuard .neq t xo yo u v).run P w' = .ok () w' := by
  cases hx <;> cases hy <;> simp only [eqF, reduceCtorEq] at h
  case agg.agg =>
    rename_i cs xs g1 g2 g3 ds ys k1 k2 k3
    split at h
    case h_2 => cases h
    rename_i ks hks hkind
    cases hck : (kindsOk ks cs && kindsOk ks ds && Nat.ble 6 P.depth) with
    | false => rw [hck] at h; cases h
    | true =>
    rw [hck] at h
    simp only [cond_true] at h
    simp only [Bool.and_eq_true] at hck
    rw [cellsEq_eqs] at h
    obtain ⟨k, hk, hk1, hrun⟩ := eqN_sound (P := P) (R := R) (w := w) (m := m) (H := H) 6 t ks hks
    have hgd := guard_off (P := P) (D := P.depth) 6 t ks (Nat.le_of_ble_eq_true hck.2) hks
    have hkk : valOf k xs = .agg xs.toArray ∧ valOf k ys = .agg ys.toArray := by
      cases k with
      | agg => exact ⟨rfl, rfl⟩
      | one => rw [hkind] at hk; cases hk
    have := hrun 9994 xs ys cs ds r ⟨g1, by assumption⟩ ⟨k1, by assumption⟩ hck.1.1 hck.1.2 h w'
    rw [hkk.1, hkk.2] at this
    refine ⟨this, ?_, ?_⟩ <;> simp [eqGuard, hgd]
  all_goals
    split at h
    case h_2 => cases h
    simp only [Option.some.injEq] at h
    subst h
    rename_i hu
    refine ⟨?_, by simp [eqGuard], by simp [eqGuard]⟩
    unfold Op.equal
    rw [show Op.maxDepth = 9999 + 1 from rfl]
    generalize 9999 = dd
    first
      | (simp [Op.equalIn, run_underlying hu]; done)
      | (simp [Op.equalIn, run_underlying hu]; rw [Bool.eq_iff_iff]; simp)
end
end Go.Proofs.Ytcooilllmcgcmaa.Ae

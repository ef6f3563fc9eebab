/- Floats of 64 bits, as numbers of their own: the operations of the model as plain functions of the bits, and the rows by which the walk takes them. -/
import Derived.Test.YtofebccpghkmgaaTJudgeSumsWWords
import Derived.WalkLawsBesides
import Derived.Laws.FloatArith
import Derived.Laws.Cover2
import Derived.IntWalk
import Derived.Deep.Draws
import Derived.Laws.NewFold
namespace Go.Proofs.YtofebccpghkmgaaW.PrintWords
open Go.RowKit
def feq (x y : Nat) : Bool := FloatKind.f64.format.order x y == some Ordering.eq
def fne (x y : Nat) : Bool := FloatKind.f64.format.order x y != some Ordering.eq
def flt (x y : Nat) : Bool := FloatKind.f64.format.order x y == some Ordering.lt
def fle (x y : Nat) : Bool := FloatKind.f64.format.order x y == some Ordering.lt || FloatKind.f64.format.order x y == some Ordering.eq
def fgt (x y : Nat) : Bool := FloatKind.f64.format.order x y == some Ordering.gt
def fge (x y : Nat) : Bool := FloatKind.f64.format.order x y == some Ordering.gt || FloatKind.f64.format.order x y == some Ordering.eq
def fadd (x y : Nat) : Nat := (FloatKind.f64.format.add x y).getD 0
def fsub (x y : Nat) : Nat := (FloatKind.f64.format.sub x y).getD 0
def fmul (x y : Nat) : Nat := (FloatKind.f64.format.mul x y).getD 0
def fquo (x y : Nat) : Nat := (FloatKind.f64.format.div x y).getD 0
def faddOk (x y : Nat) : Bool := (FloatKind.f64.format.add x y).isSome
def fsubOk (x y : Nat) : Bool := (FloatKind.f64.format.sub x y).isSome
def fmulOk (x y : Nat) : Bool := (FloatKind.f64.format.mul x y).isSome
def fquoOk (x y : Nat) : Bool := (FloatKind.f64.format.div x y).isSome
def f2i (x : Nat) : Int := (floatToIntVal .f64 x .i64).getD 0
def f2iOk (x : Nat) : Bool := (floatToIntVal .f64 x .i64).isSome
def fofi (n : Int) : Nat := floatOfInt .f64 n
def fneg (x : Nat) : Nat := Op.negFloat .f64 x
def fordOk (x y : Nat) : Bool := (FloatKind.f64.format.order x y).isSome
def fmin (x y : Nat) : Nat := if flt x y then x else if fgt x y then y else if (FloatKind.f64.decode x).neg then x else y
def fmax (x y : Nat) : Nat := if flt x y then y else if fgt x y then x else if (FloatKind.f64.decode x).neg then y else x
def ffloor (x : Nat) : Nat := FloatKind.f64.encode ((FloatKind.f64.decode x).integral .down)
def ffloorOk (x : Nat) : Bool := !(FloatKind.f64.decode x).isNaN
def fsign (x : Nat) : Bool := decide (wrap64 (x : Int) < 0)
def fabs (x : Nat) : Nat := (Go.bits .andNot .u64 (x : Int) 9223372036854775808).toNat
def floorBody (x : Nat) (d : Ieee.Datum) : Sem Value :=
  match d with
  | .nan s t =>
    if FloatKind.f64.format.quiet t = t then pure (.float .f64 x) else do
    let kept ← choose (.extern "math.Floor,Ceil,Trunc,RoundToEven.signallingNaN kept" 2)
    pure (.float .f64 (if kept == 1 then x else FloatKind.f64.encode (.nan s (FloatKind.f64.format.quiet t))))
  | d => pure (.float .f64 (FloatKind.f64.encode (d.integral .down)))
theorem run_archFloor {P : Program} (w : World) (x : Nat) (h : ffloorOk x = true) : (Extern.MathFloor.toIntegral "math.archFloor" .down #[.float .f64 x]).run P w = .ok (.float .f64 (ffloor x)) w := by
  unfold ffloorOk at h
  unfold ffloor
  have e : Extern.MathFloor.toIntegral "math.archFloor" .down #[.float .f64 x] = floorBody x (FloatKind.f64.decode x) := rfl
  rw [e]
  cases hd : FloatKind.f64.decode x with
  | nan s t => rw [hd] at h; cases h
  | number s m i => rfl
  | infinity s => rfl
def fnan (x : Nat) : Bool := decide (9218868437227405312 < x % 9223372036854775808)
/-- two words that are one, or both no number -/
def fsim (x y : Nat) : Prop := x = y ∨ (fnan x = true ∧ fnan y = true)
/-- a quotient; where it is no number, one such -/
def fquoT (x y : Nat) : Nat := if fquoOk x y then fquo x y else 9221120237041090561
theorem fne_nan {x : Nat} (h : fnan x = true) : fne x x = true := by
  unfold fnan at h
  rw [decide_eq_true_eq] at h
  have e1 : Ieee.double.signWeight = 9223372036854775808 := by decide
  have e2 : Ieee.double.binade = 4503599627370496 := by decide
  have e3 : Ieee.double.infRung = 9218868437227405312 := by decide
  have hr : ∃ s t, Ieee.double.read x = .nan s t := by
    unfold Ieee.Format.read
    simp only [e1, e2, e3]
    rw [if_neg (by omega), if_neg (by omega), if_neg (by omega)]
    exact ⟨_, _, rfl⟩
  obtain ⟨s, t, hr⟩ := hr
  have : FloatKind.f64.format.order x x = none := by
    show (Ieee.double.read x).order (Ieee.double.read x) = none
    rw [hr]; rfl
  unfold fne
  rw [this]
  rfl
theorem opt_some {α : Type} {o : Option α} (d : α) (h : o.isSome = true) : o = some (o.getD d) := by cases o <;> simp at h ⊢
@[go_sem high] theorem binOp_feq (t : TypeId) (x y : Nat) : binOp .eql t (.float .f64 x) (.float .f64 y) = pure (.bool (feq x y)) := binOp_float_cmp_eql t .f64 x y
@[go_sem high] theorem binOp_fne (t : TypeId) (x y : Nat) : binOp .neq t (.float .f64 x) (.float .f64 y) = pure (.bool (fne x y)) := binOp_float_cmp_neq t .f64 x y
@[go_sem high] theorem binOp_flt (t : TypeId) (x y : Nat) : binOp .lss t (.float .f64 x) (.float .f64 y) = pure (.bool (flt x y)) := binOp_float_cmp_lss t .f64 x y
@[go_sem high] theorem binOp_fle (t : TypeId) (x y : Nat) : binOp .leq t (.float .f64 x) (.float .f64 y) = pure (.bool (fle x y)) := binOp_float_cmp_leq t .f64 x y
@[go_sem high] theorem binOp_fgt (t : TypeId) (x y : Nat) : binOp .gtr t (.float .f64 x) (.float .f64 y) = pure (.bool (fgt x y)) := binOp_float_cmp_gtr t .f64 x y
@[go_sem high] theorem binOp_fge (t : TypeId) (x y : Nat) : binOp .geq t (.float .f64 x) (.float .f64 y) = pure (.bool (fge x y)) := binOp_float_cmp_geq t .f64 x y
section
variable {P : Program} (w : World)
@[go_sem high] theorem run_fadd (t : TypeId) (x y : Nat) (h : faddOk x y = true) : (binOp .add t (.float .f64 x) (.float .f64 y)).run P w = .ok (.float .f64 (fadd x y)) w := run_float_arith w .add t .f64 x y _ (opt_some 0 h)
@[go_sem high] theorem run_fsub (t : TypeId) (x y : Nat) (h : fsubOk x y = true) : (binOp .sub t (.float .f64 x) (.float .f64 y)).run P w = .ok (.float .f64 (fsub x y)) w := run_float_arith w .sub t .f64 x y _ (opt_some 0 h)
@[go_sem high] theorem run_fmul (t : TypeId) (x y : Nat) (h : fmulOk x y = true) : (binOp .mul t (.float .f64 x) (.float .f64 y)).run P w = .ok (.float .f64 (fmul x y)) w := run_float_arith w .mul t .f64 x y _ (opt_some 0 h)
@[go_sem high] theorem run_fquo (t : TypeId) (x y : Nat) (h : fquoOk x y = true) : (binOp .quo t (.float .f64 x) (.float .f64 y)).run P w = .ok (.float .f64 (fquo x y)) w := run_float_arith w .quo t .f64 x y _ (opt_some 0 h)
def fnanZ (w : World) (x y : Nat) : Nat := (Question.nanBits .f64 x y).cut (w.tape w.drawn (.nanBits .f64 x y))
theorem fnanZ_nan (x y : Nat) : fnan (fnanZ w x y) = true := by
  unfold fnanZ
  generalize w.tape w.drawn (.nanBits .f64 x y) = t
  show decide (_ < ((t % 2) * 2 ^ 63 + 0x7ff0000000000000 + 1 + (t / 2) % (2 ^ 52 - 1)) % _) = true
  rw [decide_eq_true_eq]
  have hu : t / 2 % (2 ^ 52 - 1) < 4503599627370495 := Nat.mod_lt _ (by decide)
  generalize t / 2 % (2 ^ 52 - 1) = u at *
  rcases (show t % 2 = 0 ∨ t % 2 = 1 by omega) with e | e <;> rw [e] <;> omega
theorem run_fquo_nan (t : TypeId) (x y : Nat) (h : fquoOk x y = false) : (binOp .quo t (.float .f64 x) (.float .f64 y)).run P w = .ok (.float .f64 (fnanZ w x y)) (w.drewN 1) := by
  unfold fquoOk at h
  have h2 : FloatKind.f64.format.div x y = none := by
    cases hd : FloatKind.f64.format.div x y with
    | none => rfl
    | some r => rw [hd] at h; cases h
  have e : (binOp .quo t (.float .f64 x) (.float .f64 y)).run P w = (do pure (Value.float .f64 (← choose (.nanBits .f64 x y))) : Sem Value).run P w := by
    simp [binOp, Op.floatArith, h2]
  rw [e]
  simp only [Sem.run_bind, run_choose_drew, Question.forced, Bool.false_eq_true, if_false]
  rfl
@[go_sem high] theorem run_f2i (src dst : TypeId) (b : Nat) (hs : (P.underlying src).isSome = true) (hd : P.underlying dst = some (.int .i64)) (h : f2iOk b = true) :
    (convert src dst (.float .f64 b)).run P w = .ok (.int .i64 (f2i b)) w := run_convert_float_int w src dst .f64 .i64 b _ hs hd (opt_some 0 h)
@[go_sem high] theorem run_fofi (src dst : TypeId) (q : IntKind) (n : Int) (hs : (P.underlying src).isSome = true) (hd : P.underlying dst = some (.float .f64)) :
    (convert src dst (.int q n)).run P w = .ok (.float .f64 (fofi n)) w := run_convert_int_float w src dst q .f64 n hs hd
@[go_sem high] theorem run_f2f (src dst : TypeId) (b : Nat) (hs : (P.underlying src).isSome = true) (hd : P.underlying dst = some (.float .f64)) :
    (convert src dst (.float .f64 b)).run P w = .ok (.float .f64 b) w := run_convert_float_float w src dst .f64 .f64 b b hs hd (by unfold floatToFloatBits; rw [if_pos rfl])
@[go_sem] theorem run_store_float (a : Addr) (m : Mode) (b : Nat) : (store a (.float .f64 b) m).run P w = stored P w a (.float .f64 b) m := run_store P w a _ m rfl
theorem run_equalIn_float (d : Nat) (t : TypeId) (x y : Nat) (hd : P.underlying t = some (.float .f64)) : (Op.equalIn (d + 1) t (.float .f64 x) (.float .f64 y)).run P w = .ok (feq x y) w := by
  simp [Op.equalIn, run_underlying hd, Op.floatEq, feq]
@[go_sem high] theorem unary_fneg (x : Nat) : Op.unary .neg (.float .f64 x) = pure (.float .f64 (fneg x)) := rfl
@[go_sem high] theorem run_min2f (x y : Nat) (h : fordOk x y = true) : (Builtin.min2 (.float .f64 x) (.float .f64 y)).run P w = .ok (.float .f64 (fmin x y)) w := by
  unfold fordOk at h
  unfold fmin flt fgt
  cases ho : FloatKind.f64.format.order x y with
  | none => rw [ho] at h; cases h
  | some o => cases o <;> simp [Builtin.min2, ho]
@[go_sem high] theorem run_max2f (x y : Nat) (h : fordOk x y = true) : (Builtin.max2 (.float .f64 x) (.float .f64 y)).run P w = .ok (.float .f64 (fmax x y)) w := by
  unfold fordOk at h
  unfold fmax flt fgt
  cases ho : FloatKind.f64.format.order x y with
  | none => rw [ho] at h; cases h
  | some o => cases o <;> simp [Builtin.max2, ho]
@[go_sem high] theorem run_fmin (ts : Array TypeId) (t : TypeId) (x y : Nat) (h : fordOk x y = true) : (Builtin.min_ ts t #[.float .f64 x, .float .f64 y]).run P w = .ok (.float .f64 (fmin x y)) w := by
  simp [Builtin.min_, run_min2f w x y h]
@[go_sem high] theorem run_fmax (ts : Array TypeId) (t : TypeId) (x y : Nat) (h : fordOk x y = true) : (Builtin.max_ ts t #[.float .f64 x, .float .f64 y]).run P w = .ok (.float .f64 (fmax x y)) w := by
  simp [Builtin.max_, run_max2f w x y h]
end
theorem Kd.at_f64 {w : World} {A : Option Addr} {n : Nat} {xs : List Nat} (h : (Kd.scalar (Value.float .f64) (fun _ => rfl)).C w A n xs) (i : Int) (h0 : 0 ≤ i) (h1 : i < n) : ∃ ad, A = some ad ∧ w.cell? (ad.add i.toNat) = some (.float .f64 (rdOf 0 xs i)) :=
  ReadsOf.at_ (Kd.reads_of_C (enc := Value.float .f64) (d := (0 : Nat)) (h1 := fun _ => rfl) h) i h0 h1
end Go.Proofs.YtofebccpghkmgaaW.PrintWords

/- What the law TrieFits uses, thinned: printed by shake2.py. -/
import Derived.Test.YtipbigdpannlcaaTTrieFitsW0
import Derived.WalkLawsBesides
import Derived.Laws.FloatArith
import Derived.Laws.Cover2
import Derived.IntWalk
import Derived.Deep.Draws
import Derived.Laws.NewFold
namespace Go.Proofs.YtipbigdpannlcaaW.PrintWords
open Go.RowKit
def feq (x y : Nat) : Bool := FloatKind.f64.format.order x y == some Ordering.eq
def fne (x y : Nat) : Bool := FloatKind.f64.format.order x y != some Ordering.eq
def flt (x y : Nat) : Bool := FloatKind.f64.format.order x y == some Ordering.lt
def fle (x y : Nat) : Bool := FloatKind.f64.format.order x y == some Ordering.lt || FloatKind.f64.format.order x y == some Ordering.eq
def fgt (x y : Nat) : Bool := FloatKind.f64.format.order x y == some Ordering.gt
def fge (x y : Nat) : Bool := FloatKind.f64.format.order x y == some Ordering.gt || FloatKind.f64.format.order x y == some Ordering.eq
def fadd (x y : Nat) : Nat := (FloatKind.f64.format.add x y).getD 0
def fsub (x y : Nat) : Nat := (FloatKind.f64.format.sub x y).getD 0
def fmul (x y : Nat) : Nat := (FloatKind.f64.format.mul x y).getD 0
def fquo (x y : Nat) : Nat := (FloatKind.f64.format.div x y).getD 0
def faddOk (x y : Nat) : Bool := (FloatKind.f64.format.add x y).isSome
def fsubOk (x y : Nat) : Bool := (FloatKind.f64.format.sub x y).isSome
def fmulOk (x y : Nat) : Bool := (FloatKind.f64.format.mul x y).isSome
def fquoOk (x y : Nat) : Bool := (FloatKind.f64.format.div x y).isSome
def f2i (x : Nat) : Int := (floatToIntVal .f64 x .i64).getD 0
def f2iOk (x : Nat) : Bool := (floatToIntVal .f64 x .i64).isSome
def fofi (n : Int) : Nat := floatOfInt .f64 n
def fneg (x : Nat) : Nat := Op.negFloat .f64 x
def fordOk (x y : Nat) : Bool := (FloatKind.f64.format.order x y).isSome
def fmin (x y : Nat) : Nat := if flt x y then x else if fgt x y then y else if (FloatKind.f64.decode x).neg then x else y
def fmax (x y : Nat) : Nat := if flt x y then y else if fgt x y then x else if (FloatKind.f64.decode x).neg then y else x
def ffloor (x : Nat) : Nat := FloatKind.f64.encode ((FloatKind.f64.decode x).integral .down)
def ffloorOk (x : Nat) : Bool := !(FloatKind.f64.decode x).isNaN
def fsign (x : Nat) : Bool := decide (wrap64 (x : Int) < 0)
def fabs (x : Nat) : Nat := (Go.bits .andNot .u64 (x : Int) 9223372036854775808).toNat
def floorBody (x : Nat) (d : Ieee.Datum) : Sem Value :=
  match d with
  | .nan s t =>
    if FloatKind.f64.format.quiet t = t then pure (.float .f64 x) else do
    let kept ← choose (.extern "math.Floor,Ceil,Trunc,RoundToEven.signallingNaN kept" 2)
    pure (.float .f64 (if kept == 1 then x else FloatKind.f64.encode (.nan s (FloatKind.f64.format.quiet t))))
  | d => pure (.float .f64 (FloatKind.f64.encode (d.integral .down)))
theorem run_archFloor {P : Program} (w : World) (x : Nat) (h : ffloorOk x = true) : (Extern.MathFloor.toIntegral "math.archFloor" .down #[.float .f64 x]).run P w = .ok (.float .f64 (ffloor x)) w := by
  unfold ffloorOk at h
  unfold ffloor
  have e : Extern.MathFloor.toIntegral "math.archFloor" .down #[.float .f64 x] = floorBody x (FloatKind.f64.decode x) := rfl
  rw [e]
  cases hd : FloatKind.f64.decode x with
  | nan s t => rw [hd] at h; cases h
  | number s m i => rfl
  | infinity s => rfl
def fnan (x : Nat) : Bool := decide (9218868437227405312 < x % 9223372036854775808)
theorem opt_some {α : Type} {o : Option α} (d : α) (h : o.isSome = true) : o = some (o.getD d) := by cases o <;> simp at h ⊢
@[go_sem high] theorem binOp_feq (t : TypeId) (x y : Nat) : binOp .eql t (.float .f64 x) (.float .f64 y) = pure (.bool (feq x y)) := binOp_float_cmp_eql t .f64 x y
@[go_sem high] theorem binOp_fne (t : TypeId) (x y : Nat) : binOp .neq t (.float .f64 x) (.float .f64 y) = pure (.bool (fne x y)) := binOp_float_cmp_neq t .f64 x y
@[go_sem high] theorem binOp_flt (t : TypeId) (x y : Nat) : binOp .lss t (.float .f64 x) (.float .f64 y) = pure (.bool (flt x y)) := binOp_float_cmp_lss t .f64 x y
@[go_sem high] theorem binOp_fle (t : TypeId) (x y : Nat) : binOp .leq t (.float .f64 x) (.float .f64 y) = pure (.bool (fle x y)) := binOp_float_cmp_leq t .f64 x y
@[go_sem high] theorem binOp_fgt (t : TypeId) (x y : Nat) : binOp .gtr t (.float .f64 x) (.float .f64 y) = pure (.bool (fgt x y)) := binOp_float_cmp_gtr t .f64 x y
@[go_sem high] theorem binOp_fge (t : TypeId) (x y : Nat) : binOp .geq t (.float .f64 x) (.float .f64 y) = pure (.bool (fge x y)) := binOp_float_cmp_geq t .f64 x y
section
variable {P : Program} (w : World)
@[go_sem high] theorem run_fadd (t : TypeId) (x y : Nat) (h : faddOk x y = true) : (binOp .add t (.float .f64 x) (.float .f64 y)).run P w = .ok (.float .f64 (fadd x y)) w := run_float_arith w .add t .f64 x y _ (opt_some 0 h)
@[go_sem high] theorem run_fsub (t : TypeId) (x y : Nat) (h : fsubOk x y = true) : (binOp .sub t (.float .f64 x) (.float .f64 y)).run P w = .ok (.float .f64 (fsub x y)) w := run_float_arith w .sub t .f64 x y _ (opt_some 0 h)
@[go_sem high] theorem run_fmul (t : TypeId) (x y : Nat) (h : fmulOk x y = true) : (binOp .mul t (.float .f64 x) (.float .f64 y)).run P w = .ok (.float .f64 (fmul x y)) w := run_float_arith w .mul t .f64 x y _ (opt_some 0 h)
@[go_sem high] theorem run_fquo (t : TypeId) (x y : Nat) (h : fquoOk x y = true) : (binOp .quo t (.float .f64 x) (.float .f64 y)).run P w = .ok (.float .f64 (fquo x y)) w := run_float_arith w .quo t .f64 x y _ (opt_some 0 h)
@[go_sem high] theorem run_f2i (src dst : TypeId) (b : Nat) (hs : (P.underlying src).isSome = true) (hd : P.underlying dst = some (.int .i64)) (h : f2iOk b = true) :
    (convert src dst (.float .f64 b)).run P w = .ok (.int .i64 (f2i b)) w := run_convert_float_int w src dst .f64 .i64 b _ hs hd (opt_some 0 h)
@[go_sem high] theorem run_fofi (src dst : TypeId) (q : IntKind) (n : Int) (hs : (P.underlying src).isSome = true) (hd : P.underlying dst = some (.float .f64)) :
    (convert src dst (.int q n)).run P w = .ok (.float .f64 (fofi n)) w := run_convert_int_float w src dst q .f64 n hs hd
@[go_sem high] theorem run_f2f (src dst : TypeId) (b : Nat) (hs : (P.underlying src).isSome = true) (hd : P.underlying dst = some (.float .f64)) :
    (convert src dst (.float .f64 b)).run P w = .ok (.float .f64 b) w := run_convert_float_float w src dst .f64 .f64 b b hs hd (by unfold floatToFloatBits; rw [if_pos rfl])
@[go_sem] theorem run_store_float (a : Addr) (m : Mode) (b : Nat) : (store a (.float .f64 b) m).run P w = stored P w a (.float .f64 b) m := run_store P w a _ m rfl
theorem run_equalIn_float (d : Nat) (t : TypeId) (x y : Nat) (hd : P.underlying t = some (.float .f64)) : (Op.equalIn (d + 1) t (.float .f64 x) (.float .f64 y)).run P w = .ok (feq x y) w := by
  simp [Op.equalIn, run_underlying hd, Op.floatEq, feq]
@[go_sem high] theorem unary_fneg (x : Nat) : Op.unary .neg (.float .f64 x) = pure (.float .f64 (fneg x)) := rfl
@[go_sem high] theorem run_min2f (x y : Nat) (h : fordOk x y = true) : (Builtin.min2 (.float .f64 x) (.float .f64 y)).run P w = .ok (.float .f64 (fmin x y)) w := by
  unfold fordOk at h
  unfold fmin flt fgt
  cases ho : FloatKind.f64.format.order x y with
  | none => rw [ho] at h; cases h
  | some o => cases o <;> simp [Builtin.min2, ho]
@[go_sem high] theorem run_max2f (x y : Nat) (h : fordOk x y = true) : (Builtin.max2 (.float .f64 x) (.float .f64 y)).run P w = .ok (.float .f64 (fmax x y)) w := by
  unfold fordOk at h
  unfold fmax flt fgt
  cases ho : FloatKind.f64.format.order x y with
  | none => rw [ho] at h; cases h
  | some o => cases o <;> simp [Builtin.max2, ho]
@[go_sem high] theorem run_fmin (ts : Array TypeId) (t : TypeId) (x y : Nat) (h : fordOk x y = true) : (Builtin.min_ ts t #[.float .f64 x, .float .f64 y]).run P w = .ok (.float .f64 (fmin x y)) w := by
  simp [Builtin.min_, run_min2f w x y h]
@[go_sem high] theorem run_fmax (ts : Array TypeId) (t : TypeId) (x y : Nat) (h : fordOk x y = true) : (Builtin.max_ ts t #[.float .f64 x, .float .f64 y]).run P w = .ok (.float .f64 (fmax x y)) w := by
  simp [Builtin.max_, run_max2f w x y h]
end
end Go.Proofs.YtipbigdpannlcaaW.PrintWords

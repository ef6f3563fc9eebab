/- What the law TrieFits uses, thinned: printed by shake2.py. -/
import Derived.Test.YtipbigdpannlcaaProg
namespace Go.Proofs.Ytipbigdpannlcaa.Dec
theorem snoc_ind {α : Type} {P : List α → Prop} (h0 : P []) (h1 : ∀ l a, P l → P (l ++ [a])) : ∀ l, P l := by
  intro l
  rw [← List.reverse_reverse l]
  induction l.reverse with
  | nil => exact h0
  | cons a t ih => rw [List.reverse_cons]; exact h1 _ _ ih
def dec (n : Nat) : List UInt8 := if n < 10 then [UInt8.ofNat (48 + n)] else dec (n / 10) ++ [UInt8.ofNat (48 + n % 10)]
termination_by n
decreasing_by omega
def val (l : List UInt8) : Nat := l.foldl (fun a c => a * 10 + (c.toNat - 48)) 0
theorem head_snoc (l : List UInt8) (m : List UInt8) (h : l ≠ []) : (l ++ m).head? = l.head? := by
  cases l with
  | nil => exact absurd rfl h
  | cons a t => rfl
def isDig (c : UInt8) : Prop := 48 ≤ c.toNat ∧ c.toNat ≤ 57
theorem ofNat_dig (d : Nat) (h : d < 10) : (UInt8.ofNat (48 + d)).toNat = 48 + d := by
  rw [UInt8.toNat_ofNat']; omega
theorem val_snoc (l : List UInt8) (c : UInt8) : val (l ++ [c]) = val l * 10 + (c.toNat - 48) := by
  unfold val; rw [List.foldl_append]; rfl
theorem dec_small (n : Nat) (h : n < 10) : dec n = [UInt8.ofNat (48 + n)] := by rw [dec, if_pos h]
theorem dec_big (n : Nat) (h : 10 ≤ n) : dec n = dec (n / 10) ++ [UInt8.ofNat (48 + n % 10)] := by rw [dec, if_neg (by omega)]
theorem val_dec (n : Nat) : val (dec n) = n := by
  induction n using Nat.strongRecOn with
  | _ n ih =>
    by_cases h : n < 10
    · rw [dec_small n h]
      show 0 * 10 + ((UInt8.ofNat (48 + n)).toNat - 48) = n
      rw [ofNat_dig n h]; omega
    · rw [dec_big n (by omega), val_snoc, ih (n / 10) (by omega), ofNat_dig _ (by omega)]; omega
theorem dec_digs (n : Nat) : ∀ c ∈ dec n, isDig c := by
  induction n using Nat.strongRecOn with
  | _ n ih =>
    intro c hc
    by_cases h : n < 10
    · rw [dec_small n h, List.mem_singleton] at hc
      subst hc; unfold isDig; rw [ofNat_dig n h]; omega
    · rw [dec_big n (by omega), List.mem_append, List.mem_singleton] at hc
      rcases hc with hc | rfl
      · exact ih (n / 10) (by omega) c hc
      · unfold isDig; rw [ofNat_dig _ (by omega)]; omega
theorem dec_ne (n : Nat) : dec n ≠ [] := by
  by_cases h : n < 10
  · rw [dec_small n h]; simp
  · rw [dec_big n (by omega)]; simp
theorem dec_len (d : Nat) : ∀ n, n < 10 ^ (d + 1) → (dec n).length ≤ d + 1 := by
  induction d with
  | zero => intro n h; rw [dec_small n (by omega)]; simp
  | succ d ih =>
    intro n h
    by_cases h1 : n < 10
    · rw [dec_small n h1]; simp
    · rw [dec_big n (by omega), List.length_append]
      have := ih (n / 10) (by rw [Nat.pow_succ] at h; omega)
      simp; omega
theorem dec_head (n : Nat) (h : 1 ≤ n) : (dec n).head? ≠ some 48 := by
  induction n using Nat.strongRecOn with
  | _ n ih =>
    by_cases h1 : n < 10
    · rw [dec_small n h1]
      intro e
      have := congrArg UInt8.toNat (Option.some.inj e)
      rw [ofNat_dig n h1] at this
      have e2 : (48 : UInt8).toNat = 48 := rfl
      omega
    · rw [dec_big n (by omega), head_snoc _ _ (dec_ne _)]
      exact ih (n / 10) (by omega) (by omega)
def pre (n : Nat) : List UInt8 := if n = 0 then [] else dec n
theorem pre_step (n : Nat) (h : n ≠ 0) : pre n = pre (n / 10) ++ [UInt8.ofNat (48 + n % 10)] := by
  unfold pre
  rw [if_neg h]
  by_cases h1 : n < 10
  · rw [dec_small n h1, if_pos (by omega), Nat.mod_eq_of_lt h1]; rfl
  · rw [dec_big n (by omega), if_neg (by omega)]
theorem dec_pre (n : Nat) : dec n = pre (n / 10) ++ [UInt8.ofNat (48 + n % 10)] := by
  by_cases h : n = 0
  · subst h; rw [dec_small 0 (by omega)]; rfl
  · rw [← pre_step n h]; unfold pre; rw [if_neg h]
end Go.Proofs.Ytipbigdpannlcaa.Dec

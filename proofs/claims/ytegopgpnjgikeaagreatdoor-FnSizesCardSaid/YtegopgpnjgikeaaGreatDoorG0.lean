/-
  The row of numbers by chance of the words' holes meets each number (plain Lean).
-/
namespace Go.Proofs.YtegopgpnjgikeaaGreatDoor
/-- A row of numbers by chance: x goes to a x + c, of M. -/
def rowN (f : Nat → Nat) : Nat → Nat → Nat
  | 0, x => x
  | n + 1, x => rowN f n (f x)
theorem rowN_succ (f : Nat → Nat) (n x : Nat) : rowN f (n + 1) x = rowN f n (f x) := rfl
theorem rowN_zero (f : Nat → Nat) (x : Nat) : rowN f 0 x = x := rfl
theorem rowN_add (f : Nat → Nat) (n m x : Nat) : rowN f (n + m) x = rowN f m (rowN f n x) := by
  induction n generalizing x with
  | zero => rw [Nat.zero_add, rowN_zero]
  | succ n ih => rw [show n + 1 + m = (n + m) + 1 by omega, rowN_succ, rowN_succ, ih]
theorem rowN_lt {f : Nat → Nat} {M : Nat} (hf : ∀ x, f x < M) (n x : Nat) (h : x < M) : rowN f n x < M := by
  induction n generalizing x with
  | zero => rw [rowN_zero]; exact h
  | succ n ih => rw [rowN_succ]; exact ih _ (hf x)
def lcg (a c M x : Nat) : Nat := (a * x + c) % M
def lcgAC (a c M : Nat) : Nat → Nat × Nat
  | 0 => (a, c)
  | k + 1 => ((lcgAC a c M k).1 * (lcgAC a c M k).1 % M, ((lcgAC a c M k).1 * (lcgAC a c M k).2 + (lcgAC a c M k).2) % M)
theorem lin_twice (M A C x : Nat) : (A * ((A * x + C) % M) + C) % M = ((A * A % M) * x + (A * C + C) % M) % M := by
  have h1 : (A * ((A * x + C) % M) + C) % M = (A * (A * x + C) + C) % M := by
    rw [Nat.add_mod, Nat.mul_mod, Nat.mod_mod, ← Nat.mul_mod, ← Nat.add_mod]
  have h2 : ((A * A % M) * x + (A * C + C) % M) % M = ((A * A) * x + (A * C + C)) % M := by
    rw [Nat.add_mod, Nat.mod_mod, Nat.mul_mod, Nat.mod_mod, ← Nat.mul_mod, ← Nat.add_mod]
  rw [h1, h2]; congr 1; rw [Nat.mul_add, Nat.mul_assoc]; omega
theorem rowN_pow (a c M k x : Nat) : rowN (lcg a c M) (2 ^ k) x = ((lcgAC a c M k).1 * x + (lcgAC a c M k).2) % M := by
  induction k generalizing x with
  | zero => rw [show 2 ^ 0 = 0 + 1 from rfl, rowN_succ, rowN_zero]; unfold lcg; rw [lcgAC]
  | succ k ih => rw [Nat.pow_succ, Nat.mul_two, rowN_add, ih, ih, lin_twice, lcgAC]
theorem lcg_jump (a c B : Nat) (hO : ∀ k, k < B → (lcgAC a c (2 ^ B) k).1 % 2 ^ (k + 1) = 1 ∧ (lcgAC a c (2 ^ B) k).2 % 2 ^ (k + 1) = 2 ^ k) (k x : Nat) (hk : k < B) :
    rowN (lcg a c (2 ^ B)) (2 ^ k) x % 2 ^ (k + 1) = (x + 2 ^ k) % 2 ^ (k + 1) := by
  obtain ⟨h1, h2⟩ := hO k hk
  have hM : (2 : Nat) ^ B = 2 ^ (k + 1) * 2 ^ (B - (k + 1)) := by rw [← Nat.pow_add]; congr 1; omega
  rw [rowN_pow]
  generalize lcgAC a c (2 ^ B) k = p at *
  have h2' : 2 ^ k % 2 ^ (k + 1) = 2 ^ k := Nat.mod_eq_of_lt (Nat.pow_lt_pow_right (by omega) (by omega))
  rw [hM, Nat.mod_mul_right_mod, Nat.add_mod, Nat.mul_mod, h1, h2, Nat.one_mul, Nat.mod_mod, Nat.add_mod x, h2']
theorem lcg_hits (a c B : Nat) (hO : ∀ k, k < B → (lcgAC a c (2 ^ B) k).1 % 2 ^ (k + 1) = 1 ∧ (lcgAC a c (2 ^ B) k).2 % 2 ^ (k + 1) = 2 ^ k) (j : Nat) (hj : j ≤ B) (x y : Nat) (hx : x < 2 ^ B) (hy : y < 2 ^ B)
    (h : x % 2 ^ (B - j) = y % 2 ^ (B - j)) : ∃ r, rowN (lcg a c (2 ^ B)) r x = y := by
  induction j generalizing x with
  | zero => exact ⟨0, by rw [Nat.sub_zero, Nat.mod_eq_of_lt hx, Nat.mod_eq_of_lt hy] at h; rw [rowN_zero, h]⟩
  | succ j ih =>
    have e : B - j = (B - (j + 1)) + 1 := by omega
    have hk : B - (j + 1) < B := by omega
    generalize B - (j + 1) = k at h hk e
    rw [e] at ih
    by_cases he : x % 2 ^ (k + 1) = y % 2 ^ (k + 1)
    · exact ih (by omega) x hx he
    · have hx' : rowN (lcg a c (2 ^ B)) (2 ^ k) x < 2 ^ B := rowN_lt (fun x => Nat.mod_lt _ (Nat.pow_pos (by omega))) _ _ hx
      obtain ⟨r, hr⟩ := ih (by omega) _ hx' (by
        rw [lcg_jump a c B hO k x hk]
        have hp : 0 < 2 ^ k := Nat.pow_pos (by omega)
        rw [Nat.pow_succ] at he ⊢
        generalize 2 ^ k = P at *
        rw [Nat.mod_mul, Nat.mod_mul] at he
        rw [Nat.mod_mul, Nat.mod_mul, Nat.add_mod_right, h, Nat.add_div_right _ hp]
        rw [h] at he
        have h1 : x / P % 2 ≠ y / P % 2 := fun hh => he (by rw [hh])
        have h2 : (x / P + 1) % 2 = y / P % 2 := by omega
        rw [h2])
      exact ⟨2 ^ k + r, by rw [rowN_add, hr]⟩
theorem lcg_all (x y : Nat) (hx : x < 4294967296) (hy : y < 4294967296) : ∃ r, rowN (lcg 1664525 1013904223 4294967296) r x = y :=
  lcg_hits 1664525 1013904223 32 (by decide +kernel) 32 (Nat.le_refl _) x y hx hy (by rw [Nat.sub_self, Nat.pow_zero, Nat.mod_one, Nat.mod_one])
/-- From each number on some round meets each hole. -/
theorem lcg_hole (a n v : Nat) (ha : a < 4294967296) (hn : n ≤ 65536) (hv : v < n) : ∃ r, rowN (lcg 1664525 1013904223 4294967296) r a / 65536 % n = v := by
  obtain ⟨r, hr⟩ := lcg_all a (v * 65536) ha (by omega)
  exact ⟨r, by rw [hr, Nat.mul_div_cancel _ (by omega), Nat.mod_eq_of_lt hv]⟩
/-- There is a first round at which p holds. -/
theorem least_round {p : Nat → Prop} [DecidablePred p] (h : ∃ r, p r) : ∃ r, p r ∧ ∀ k, k < r → ¬ p k := by
  obtain ⟨r, hr⟩ := h
  induction r using Nat.strongRecOn with
  | ind r ih =>
    by_cases hk : ∃ k, k < r ∧ p k
    · obtain ⟨k, h1, h2⟩ := hk; exact ih k h1 h2
    · exact ⟨r, hr, fun k h1 h2 => hk ⟨k, h1, h2⟩⟩
end Go.Proofs.YtegopgpnjgikeaaGreatDoor

/- The plain side of layer 3: numbers, texts and rows as bytes, with no program in sight. -/
import Derived.Below
namespace Go.Proofs.Yteindickckcdhaa.W
set_option linter.unusedSimpArgs false
set_option linter.unusedVariables false

def turn (n : Int) : Nat := if 0 ≤ n then 2 * n.toNat else 2 * (-(n + 1)).toNat + 1
def unturn (u : Nat) : Int := if u % 2 = 0 then ((u / 2 : Nat) : Int) else -((u / 2 : Nat) : Int) - 1
theorem unturn_turn (n : Int) : unturn (turn n) = n := by unfold turn unturn; split <;> split <;> omega
theorem turn_unturn (u : Nat) : turn (unturn u) = u := by unfold turn unturn; split <;> split <;> omega
theorem turn_lt (n : Int) (h1 : -9223372036854775808 ≤ n) (h2 : n ≤ 9223372036854775807) : turn n < 18446744073709551616 := by unfold turn; split <;> omega
theorem unturn_le (u : Nat) (h : u < 18446744073709551616) : -9223372036854775808 ≤ unturn u ∧ unturn u ≤ 9223372036854775807 := by unfold unturn; split <;> omega

def enc (u : Nat) : List Nat := if u < 128 then [u] else (u % 128 + 128) :: enc (u / 128)
termination_by u
decreasing_by omega
theorem enc_lt {u : Nat} (h : u < 128) : enc u = [u] := by rw [enc, if_pos h]
theorem enc_ge {u : Nat} (h : ¬ u < 128) : enc u = (u % 128 + 128) :: enc (u / 128) := by rw [enc, if_neg h]
def put (n : Int) : List Nat := enc (turn n)

theorem enc_pos (u : Nat) : 0 < (enc u).length := by rw [enc]; split <;> simp
theorem enc_byt (u : Nat) : ∀ x ∈ enc u, x < 256 := by
  induction u using enc.induct with
  | case1 u h => rw [enc_lt h]; simp; omega
  | case2 u h ih => rw [enc_ge h]; intro x hx; rcases List.mem_cons.1 hx with rfl | hx; omega; exact ih x hx
theorem enc_mono {u v : Nat} (h : u ≤ v) : (enc u).length ≤ (enc v).length := by
  induction u using enc.induct generalizing v with
  | case1 u hu => rw [enc_lt hu]; exact enc_pos v
  | case2 u hu ih => rw [enc_ge hu, enc_ge (u := v) (by omega)]; simp; exact ih (by omega)
theorem enc_le10 {u : Nat} (h : u < 18446744073709551616) : (enc u).length ≤ 10 := by
  have e : (enc 18446744073709551615).length = 10 := by
    rw [enc_ge (by decide), enc_ge (by decide), enc_ge (by decide), enc_ge (by decide), enc_ge (by decide), enc_ge (by decide), enc_ge (by decide), enc_ge (by decide), enc_ge (by decide), enc_lt (by decide)]; rfl
  rw [← e]; exact enc_mono (by omega)

/-- the reader, from place i on, u being what was read -/
def dec : Nat → Nat → List Nat → Option (Nat × Nat)
  | _, _, [] => none
  | i, u, c :: r =>
    if i = 9 ∧ c ≠ 1 then none
    else if 128 ≤ c then dec (i + 1) (u + c % 128 * 128 ^ i) r
    else if 0 < i ∧ c = 0 then none
    else some (u + c * 128 ^ i, i + 1)

theorem dec_enc (x : Nat) : ∀ (i u : Nat) (r : List Nat), x * 128 ^ i < 18446744073709551616 → (0 < i → 0 < x) → dec i u (enc x ++ r) = some (u + x * 128 ^ i, i + (enc x).length) := by
  induction x using enc.induct with
  | case1 x hx =>
    intro i u r hb hp
    rw [enc_lt hx]
    simp only [List.cons_append, List.nil_append, dec]
    have h9 : ¬ (i = 9 ∧ x ≠ 1) := by
      rintro ⟨rfl, hne⟩
      have := hp (by omega)
      omega
    rw [if_neg h9, if_neg (by omega), if_neg (by omega)]
    rfl
  | case2 x hx ih =>
    intro i u r hb hp
    rw [enc_ge hx]
    simp only [List.cons_append, dec]
    have e : x / 128 * 128 ^ (i + 1) + x % 128 * 128 ^ i = x * 128 ^ i := by
      rw [Nat.pow_succ, Nat.mul_comm (128 ^ i) 128, ← Nat.mul_assoc, ← Nat.add_mul]
      congr 1
      omega
    have h9 : ¬ (i = 9 ∧ x % 128 + 128 ≠ 1) := by
      rintro ⟨rfl, hne⟩
      omega
    rw [if_neg h9, if_pos (by omega), ih _ _ _ (by omega) (by intro; omega)]
    congr 2
    · have : (x % 128 + 128) % 128 = x % 128 := by omega
      rw [this]; omega
    · simp; omega

theorem dec_some (l : List Nat) (hl : ∀ x ∈ l, x < 256) : ∀ (i u v k : Nat), i ≤ 9 → dec i u l = some (v, k) →
    ∃ x r, l = enc x ++ r ∧ v = u + x * 128 ^ i ∧ k = i + (enc x).length ∧ x * 128 ^ i < 18446744073709551616 ∧ (0 < i → 0 < x) := by
  induction l with
  | nil => intro i u v k _ h; simp [dec] at h
  | cons c r ih =>
    intro i u v k hi h
    have hc : c < 256 := hl c (by simp)
    simp only [dec] at h
    by_cases h9 : i = 9 ∧ c ≠ 1
    · rw [if_pos h9] at h; cases h
    rw [if_neg h9] at h
    by_cases h128 : 128 ≤ c
    · rw [if_pos h128] at h
      obtain ⟨x, r', hr, hv, hk, hb, hp⟩ := ih (fun y hy => hl y (by simp [hy])) _ _ _ _ (by omega) h
      have hx : 0 < x := hp (by omega)
      have e : (x * 128 + c % 128) * 128 ^ i = x * 128 ^ (i + 1) + c % 128 * 128 ^ i := by
        rw [Nat.add_mul, Nat.pow_succ, Nat.mul_comm (128 ^ i) 128, Nat.mul_assoc]
      have hge : ¬ x * 128 + c % 128 < 128 := by omega
      have e1 : (x * 128 + c % 128) % 128 + 128 = c := by omega
      have e2 : (x * 128 + c % 128) / 128 = x := by omega
      refine ⟨x * 128 + c % 128, r', ?_, ?_, ?_, ?_, fun _ => by omega⟩
      · rw [enc_ge hge, e1, e2, hr]; rfl
      · rw [e]; omega
      · rw [enc_ge hge, e2]; simp; omega
      · rw [e]
        have hi8 : i ≤ 8 := by omega
        have hlt : c % 128 * 128 ^ i < 128 ^ (i + 1) := by
          rw [Nat.pow_succ, Nat.mul_comm]
          exact Nat.mul_lt_mul_of_pos_left (by omega) (Nat.pow_pos (by omega))
        -- x * 128^(i+1) is a multiple of 128^(i+1), and so is 2^64 up to i + 1 = 9
        have hdiv : 18446744073709551616 = 2 ^ (64 - 7 * (i + 1)) * 128 ^ (i + 1) := by
          have : (128 : Nat) ^ (i + 1) = 2 ^ (7 * (i + 1)) := by rw [Nat.pow_mul]
          rw [this, ← Nat.pow_add]
          have : 64 - 7 * (i + 1) + 7 * (i + 1) = 64 := by omega
          rw [this]
        rw [hdiv] at hb ⊢
        have hx2 : x < 2 ^ (64 - 7 * (i + 1)) := Nat.lt_of_mul_lt_mul_right hb
        calc x * 128 ^ (i + 1) + c % 128 * 128 ^ i < x * 128 ^ (i + 1) + 128 ^ (i + 1) := by omega
          _ = (x + 1) * 128 ^ (i + 1) := by rw [Nat.add_mul, Nat.one_mul]
          _ ≤ _ := Nat.mul_le_mul_right _ hx2
    · rw [if_neg h128] at h
      by_cases h0 : 0 < i ∧ c = 0
      · rw [if_pos h0] at h; cases h
      rw [if_neg h0] at h
      simp only [Option.some.injEq, Prod.mk.injEq] at h
      refine ⟨c, r, by rw [enc_lt (by omega)]; rfl, h.1.symm, by rw [enc_lt (by omega)]; exact h.2.symm, ?_, fun hi0 => by omega⟩
      have : c * 128 ^ i ≤ 127 * 128 ^ 8 ∨ c * 128 ^ i = 1 * 128 ^ 9 := by
        by_cases e9 : i = 9
        · right
          have : c = 1 := by omega
          rw [this, e9]
        · left
          exact Nat.mul_le_mul (by omega) (Nat.pow_le_pow_right (by omega) (by omega))
      omega

/-- the number with whose bytes a list begins, and how many these are -/
def get (l : List Nat) : Option (Int × Nat) := (dec 0 0 l).map fun p => (unturn p.1, p.2)

theorem get_put (n : Int) (r : List Nat) (h1 : -9223372036854775808 ≤ n) (h2 : n ≤ 9223372036854775807) : get (put n ++ r) = some (n, (put n).length) := by
  unfold get put
  rw [dec_enc _ 0 0 r (by simpa using turn_lt n h1 h2) (by omega)]
  simp [unturn_turn]

theorem get_some {l : List Nat} (hl : ∀ x ∈ l, x < 256) {n : Int} {k : Nat} (h : get l = some (n, k)) :
    -9223372036854775808 ≤ n ∧ n ≤ 9223372036854775807 ∧ k = (put n).length ∧ ∃ r, l = put n ++ r := by
  unfold get at h
  obtain ⟨⟨v, k'⟩, hd, he⟩ := Option.map_eq_some_iff.1 h
  simp only [Prod.mk.injEq] at he
  obtain ⟨rfl, rfl⟩ := he
  obtain ⟨x, r, hr, hv, hk, hb, _⟩ := dec_some l hl 0 0 v k' (by omega) hd
  simp only [Nat.pow_zero, Nat.mul_one, Nat.zero_add] at hv hk hb
  subst hv
  have := unturn_le v hb
  refine ⟨this.1, this.2, ?_, r, ?_⟩
  · unfold put; rw [turn_unturn]; exact hk
  · unfold put; rw [turn_unturn]; exact hr
theorem get_le {l : List Nat} (hl : ∀ x ∈ l, x < 256) {n : Int} {k : Nat} (h : get l = some (n, k)) : 1 ≤ k ∧ k ≤ l.length ∧ k ≤ 10 ∧ -9223372036854775808 ≤ n ∧ n ≤ 9223372036854775807 := by
  obtain ⟨h1, h2, hk, r, hr⟩ := get_some hl h
  have hp := enc_pos (turn n)
  have h10 := enc_le10 (turn_lt n h1 h2)
  unfold put at hk hr
  subst hr
  simp
  omega
end Go.Proofs.Yteindickckcdhaa.W
